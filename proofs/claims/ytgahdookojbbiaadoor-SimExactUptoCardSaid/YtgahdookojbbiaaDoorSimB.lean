/- The iterator over a set of states (sim.states.each) and the empty set (sim.machine.none). No condition beyond those named in each lemma. -/
import Derived.Test.YtgahdookojbbiaaDoorSimA
import Derived.Shelf.Abstract
import Derived.Shelf.RegionOpen
import Derived.OwnWalkIn
import Derived.TacticsInMore
import Derived.LoopNIn
import Derived.LoopIn
import Derived.Sort.CutIn
import Derived.RangeFuncFrom
namespace Go.Proofs.YtgahdookojbbiaaDoor
open Go.RowKit Go.Shelf
set_option linter.unusedVariables false
set_option linter.unusedSimpArgs false
attribute [local go_sem] Oper.semAt_some

theorem each_any (A : Option Addr) (k c : Nat) (w : World) :
    Calls Tryd.prog 31 #[.slice A k c] w fun e w' => e = .returned (.func (.func 38) #[] #[.pointer (some ⟨w.heap.size, 0, none⟩)]) ∧ w' = w.alloc (.cells #[.slice A k c] 69) := by
  go_enter Tryd.func31, Tryd.ntmps31
  go_wp2
  go_ret
  exact ⟨rfl, rfl⟩

/-- a state of a set -/
abbrev InS (x : Nat) := { n : Nat // x.testBit n = true }
def encI {x : Nat} (r : InS x) : Array Value := #[.int .i64 (r.1 : Int)]
def numsI {x : Nat} (pre : List (InS x)) : List Nat := pre.map (·.1)
theorem numsI_snoc {x : Nat} (pre : List (InS x)) (r : InS x) : numsI (pre ++ [r]) = numsI pre ++ [r.1] := by simp [numsI]
theorem numsI_length {x : Nat} (pre : List (InS x)) : (numsI pre).length = pre.length := by simp [numsI]
/-- the set's block, and the table of bits, are the same -/
def KpS (b : Nat) (W W' : World) : Prop := W'.heap[b]? = W.heap[b]? ∧ W'.heap[0]? = W.heap[0]?
theorem KpS.trans {b : Nat} {A B C : World} (h : KpS b A B) (k : KpS b B C) : KpS b A C := ⟨k.1.trans h.1, k.2.trans h.2⟩
theorem KpS.tab {b : Nat} {W W' : World} (h : KpS b W W') (hT : TabOk W) : TabOk W' := fun i hi => (World.cell?_of_block (w := W) h.2).trans (hT i hi)
theorem u64_clear {y : Nat} (hy : y < 18446744073709551616) (h0 : 0 < y) : bits BinOp.and IntKind.u64 (y : Int) ((y : Int) - 1) = ((y &&& (y - 1) : Nat) : Int) := by
  rw [show (y : Int) - 1 = ((y - 1 : Nat) : Int) by omega]
  exact u64_and_nat _ _ hy (by omega)
set_option maxRecDepth 100000 in
set_option maxHeartbeats 2000000 in
theorem each_iter (x k c b off gx n l : Nat) (J Jx : List (InS x) → World → Prop) (W : World) (hk : k ≤ 1099511627776) (hx : below x (64 * k)) (hgx : Blk W gx 69 #[.slice (some ⟨b, off, none⟩) k c]) (hs : ∀ i (h : i < (wordsN x k).length), RowAt W b (off + i) (encU (wordsN x k)[i])) (hT : TabOk W) (hJ : AbidesFrom W.heap.size J)
    (hY : ∀ pre r W1, J pre W1 → pre.length < 64 * k → YieldAt Fence.wide (n - 1) Tryd.prog l (encI r) W1 fun e W' =>
      (e = .returned (.bool true) ∧ J (pre ++ [r]) W' ∧ KpS b W1 W') ∨ (e = .returned (.bool false) ∧ Jx (pre ++ [r]) W')) (h0 : J [] W) :
    CallsIn Fence.wide n Tryd.prog 38 #[.func (.yield l) #[] #[], .pointer (some ⟨gx, 0, none⟩)] W fun e W' => (∃ v, e = .returned v) ∧ ((∃ xs, numsI xs = bitsTo x (64 * k) ∧ J xs W') ∨ (∃ pre, numsI pre <+: bitsTo x (64 * k) ∧ Jx pre W')) := by
  refine callsIn_of_wp Tryd.func38 rfl trivial ?_ rfl
  simp only [Tryd.ntmps38, List.size_toArray, List.length_cons, List.length_nil, Nat.reduceAdd, Nat.reduceSub, Array.replicate_succ, Array.replicate_zero, List.push_toArray, List.append_toArray, List.nil_append, List.cons_append]
  have c1 : W.cell? ⟨gx, 0, none⟩ = some (.slice (some ⟨b, off, none⟩) k c) := hgx.cellv rfl
  gi_wp2
  clear c1 hgx
  gi_loopw [7] (fun i wr => ∃ (j : Nat) (pre : List (InS x)), j ≤ k ∧ i = .int .i64 j ∧ Hid (numsI pre = bitsTo x (64 * j)) ∧ J pre wr ∧ TabOk wr ∧ (∀ i (h : i < (wordsN x k).length), RowAt wr b (off + i) (encU (wordsN x k)[i]))) (fun i _ => k - (intOf i).toNat)
  case atStart => exact ⟨0, [], by omega, rfl, Lib.hid rfl, h0, hT, hs⟩
  case round =>
    clear hs hT h0
    obtain ⟨j, pre, hj, rfl, hpre, hJ0, hT, hs⟩ := hrel
    by_cases hlt : j < k
    · have hltI : (j : Int) < k := by omega
      have hc := hs j (by rw [wordsN_length]; exact hlt) 0 _ rfl
      rw [wordsN_get] at hc
      have hc' : wr.cell? ⟨b, off + j, none⟩ = some (.int .u64 (wordN x j : Nat)) := hc
      clear hc
      gi_wp2
      gi_loopw [4] (fun v w2 => ∃ (y t : Nat) (pre : List (InS x)), v = .int .u64 y ∧ y < 18446744073709551616 ∧ t ≤ 64 ∧ Hid (∀ i, y.testBit i = (decide (t ≤ i) && (wordN x j).testBit i)) ∧ Hid (numsI pre = bitsTo x (64 * j + t)) ∧ J pre w2 ∧ TabOk w2 ∧ (∀ i (h : i < (wordsN x k).length), RowAt w2 b (off + i) (encU (wordsN x k)[i]))) (fun v _ => (intOf v).toNat)
      case atStart => exact ⟨wordN x j, 0, pre, rfl, wordN_lt' _ _, by omega, Lib.hid (fun i => by simp), hpre, hJ0, hT, hs⟩
      case round =>
        clear hpre hJ0 hT hs hc'
        obtain ⟨y, t, pre, rfl, hy, ht, Hy, hpre, hJ0, hT, hs⟩ := hrel
        by_cases hy0 : y = 0
        · subst hy0
          have hpre2 : Hid (numsI pre = bitsTo x (64 * (j + 1))) := Lib.hid (by
            rw [hpre.out, show 64 * (j + 1) = (64 * j + t) + (64 - t) by omega]
            refine (bitsTo_skip x (64 * j + t) (64 - t) ?_).symm
            intro i h1 h2
            have h3 := Hy.out (i - 64 * j)
            rw [Nat.zero_testBit, testBit_wordN] at h3
            have e1 : t ≤ i - 64 * j := by omega
            have e2 : i - 64 * j < 64 := by omega
            have e3 : 64 * j + (i - 64 * j) = i := by omega
            simp only [e1, e2, e3, decide_true, Bool.true_and] at h3
            exact h3.symm)
          gi_wp2
          go_roundw
          case rel => exact ⟨j + 1, pre, by omega, by go_num, hpre2, hJ0, hT, hs⟩
          case measure => simp [intOf]; omega
        · obtain ⟨t', hlow⟩ := low_exists y hy0
          have hb0 := hlow.1
          rw [Hy.out, Bool.and_eq_true, decide_eq_true_eq, testBit_wordN, Bool.and_eq_true, decide_eq_true_eq] at hb0
          obtain ⟨htt, ht64, hbit⟩ := hb0
          have hskip : bitsTo x (64 * j + t') = bitsTo x (64 * j + t) := by
            rw [show 64 * j + t' = (64 * j + t) + (t' - t) by omega]
            refine bitsTo_skip x (64 * j + t) (t' - t) ?_
            intro i h1 h2
            have h3 := hlow.2 (i - 64 * j) (by omega)
            rw [Hy.out, testBit_wordN] at h3
            have e1 : t ≤ i - 64 * j := by omega
            have e2 : i - 64 * j < 64 := by omega
            have e3 : 64 * j + (i - 64 * j) = i := by omega
            simp only [e1, e2, e3, decide_true, Bool.true_and] at h3
            exact h3
          have Hn : Hid (numsI (pre ++ [(⟨64 * j + t', hbit⟩ : InS x)]) = bitsTo x (64 * j + (t' + 1))) := Lib.hid (by
            rw [numsI_snoc, hpre.out, ← hskip, ← Nat.add_assoc, bitsTo_succ, hbit, if_pos rfl])
          have hlen : pre.length < 64 * k := by
            have h1 := bitsTo_length x (64 * j + t)
            rw [← hpre.out, numsI_length] at h1
            have h2 : 64 * j + t' < 64 * k := hx _ hbit
            omega
          have Hc : Hid (∀ i, (y &&& (y - 1)).testBit i = (decide (t' + 1 ≤ i) && (wordN x j).testBit i)) := Lib.hid (fun i => by
            rw [low_and_pred hlow, Hy.out]
            by_cases h1 : i < t'
            · have h2 := hlow.2 i h1
              rw [Hy.out] at h2
              have e1 : ¬ t' + 1 ≤ i := by omega
              rw [h2]
              simp [e1]
            · by_cases h2 : i = t'
              · have e1 : ¬ t' + 1 ≤ i := by omega
                rw [decide_eq_false e1, decide_eq_true h2]
                simp
              · have e1 : t ≤ i := by omega
                have e2 : t' + 1 ≤ i := by omega
                simp [e1, e2, h2])
          obtain ⟨fn, tmps, assign, body, hyy, hR⟩ := hY pre ⟨64 * j + t', hbit⟩ wr hJ0 hlen
          have hcast : ((64 * j + t' : Nat) : Int) = 64 * (j : Int) + t' := by omega
          simp only [encI, hcast] at hyy
          have hneI : ((y : Int) != 0) = true := by rw [bne_iff_ne]; omega
          have hclr := u64_clear hy (by omega)
          have hlt2 : y &&& (y - 1) < y := Nat.lt_of_le_of_lt Nat.and_le_right (by omega)
          obtain ⟨pre2, hp2⟩ : ∃ pre2, pre2 = pre ++ [(⟨64 * j + t', hbit⟩ : InS x)] := ⟨_, rfl⟩
          rw [← hp2] at hR Hn
          have Hlow := Lib.hid hlow
          have hy1 : (1 : Int) ≤ y := by omega
          have hy' : y < 2 ^ 64 := hy
          clear hcast hp2 hlow hskip hlen hpre hJ0 Hy hy0 hbit
          gi_wp2_with (refine ⟨trivial, fun h => by simp [Fence.wide] at h, ?_⟩; refine (callsIn_wide.2 (tz_any y t' hy' Hlow.out _ hT)).mono ?_; rintro e w3 ⟨rfl, rfl⟩)
          refine ⟨fun h => by simp [Fence.wide] at h, ?_⟩
          refine hR.mono ?_
          rintro e W3 (⟨rfl, hJ4, hk4⟩ | ⟨rfl, hJx4⟩)
          · gi_wp2
            go_roundw
            case rel => exact ⟨y &&& (y - 1), t' + 1, pre2, rfl, by omega, by omega, Hc, Hn, hJ4, hk4.tab hT, fun i h => (hs i h).keep hk4.1⟩
            case measure => simp only [intOf, Int.toNat_natCast]; exact hlt2
          · gi_wp2
            refine bodyPost_ret (results_none rfl _ _ _) rfl ?_
            refine ⟨⟨_, rfl⟩, .inr ⟨pre2, ?_, hJx4⟩⟩
            rw [Hn.out, show 64 * k = 64 * j + (t' + 1) + (64 * k - (64 * j + (t' + 1))) by omega]
            exact bitsTo_prefix _ _ _
    · obtain rfl : j = k := by omega
      gi_wp2
      go_end0
      exact ⟨⟨_, rfl⟩, .inl ⟨pre, hpre.out, hJ0⟩⟩

theorem each_stops (x k c b off n gx : Nat) (w : World) (hk : k ≤ 1099511627776) (hx : below x (64 * k)) (hgx : Blk w gx 69 #[.slice (some ⟨b, off, none⟩) k c]) (hb : b < w.heap.size) (hs : ∀ i (h : i < (wordsN x k).length), RowAt w b (off + i) (encU (wordsN x k)[i])) (hT : TabOk w) :
    SeqStopsK Fence.wide n Tryd.prog 38 #[.pointer (some ⟨gx, 0, none⟩)] (encI (x := x)) (KpS b) (fun xs => numsI xs = bitsTo x (64 * k)) (fun pre => numsI pre <+: bitsTo x (64 * k)) (64 * k) w :=
  fun l J Jx W hW hJ hJx hY h0 => each_iter x k c b off gx n l J Jx W hk hx (blk_then hgx hW) (fun i h => (hs i h).keep (hW.block b hb)) (hT.then_ hT.size hW) hJ hY h0
end Go.Proofs.YtgahdookojbbiaaDoor
