/- Part 10 of a proof; packed: the texts that it was made of follow one another. No condition beyond those named in each lemma. -/
import Derived.Test.YtkedgombccdamaaDoorPs1
import Derived.Test.YtkedgombccdamaaDoorPs9
import Derived.DeepKeys4
import Derived.LoopIn
import Derived.LoopNIn
import Derived.Maps.OwnOps
import Derived.Maps.OwnSet
import Derived.OwnWalkIn
import Derived.RangeFuncFrom
import Derived.Shelf.Abstract
import Derived.Shelf.RegionOpen
import Derived.Sort.CutIn
import Derived.TacticsInMore
import Derived.WideKeyPair
namespace Go.Proofs.YtkedgombccdamaaDoor
open Go.RowKit Go.Shelf
set_option linter.unusedVariables false
set_option linter.unusedSimpArgs false
attribute [local go_sem] Oper.semAt_some

theorem each_any (A : Option Addr) (k c : Nat) (w : World) :
    Calls Tryd.prog 74 #[.slice A k c] w fun e w' => e = .returned (.func (.func 90) #[] #[.pointer (some ⟨w.heap.size, 0, none⟩)]) ∧ w' = w.alloc (.cells #[.slice A k c] 147) := by
  go_enter Tryd.func74, Tryd.ntmps74
  go_wp2
  go_ret
  exact ⟨rfl, rfl⟩

/-- a state of a set -/
abbrev InS (x : Nat) := { n : Nat // x.testBit n = true }
def encI {x : Nat} (r : InS x) : Array Value := #[.int .i64 (r.1 : Int)]
def numsI {x : Nat} (pre : List (InS x)) : List Nat := pre.map (·.1)
theorem numsI_snoc {x : Nat} (pre : List (InS x)) (r : InS x) : numsI (pre ++ [r]) = numsI pre ++ [r.1] := by simp [numsI]
theorem numsI_length {x : Nat} (pre : List (InS x)) : (numsI pre).length = pre.length := by simp [numsI]
/-- the set's block, and the table of bits, are the same -/
def KpS (b : Nat) (W W' : World) : Prop := W'.heap[b]? = W.heap[b]? ∧ W'.heap[0]? = W.heap[0]?
theorem KpS.trans {b : Nat} {A B C : World} (h : KpS b A B) (k : KpS b B C) : KpS b A C := ⟨k.1.trans h.1, k.2.trans h.2⟩
theorem KpS.tab {b : Nat} {W W' : World} (h : KpS b W W') (hT : TabOk W) : TabOk W' := fun i hi => (World.cell?_of_block (w := W) h.2).trans (hT i hi)
theorem u64_clear {y : Nat} (hy : y < 18446744073709551616) (h0 : 0 < y) : bits BinOp.and IntKind.u64 (y : Int) ((y : Int) - 1) = ((y &&& (y - 1) : Nat) : Int) := by
  rw [show (y : Int) - 1 = ((y - 1 : Nat) : Int) by omega]
  exact u64_and_nat _ _ hy (by omega)
set_option maxRecDepth 100000 in
set_option maxHeartbeats 2000000 in
theorem each_iter (x k c b off gx n l : Nat) (J Jx : List (InS x) → World → Prop) (W : World) (hk : k ≤ 1099511627776) (hx : below x (64 * k)) (hgx : Blk W gx 147 #[.slice (some ⟨b, off, none⟩) k c]) (hs : ∀ i (h : i < (wordsN x k).length), RowAt W b (off + i) (encU (wordsN x k)[i])) (hT : TabOk W) (hJ : AbidesFrom W.heap.size J)
    (hY : ∀ pre r W1, J pre W1 → pre.length < 64 * k → YieldAt Fence.wide (n - 1) Tryd.prog l (encI r) W1 fun e W' =>
      (e = .returned (.bool true) ∧ J (pre ++ [r]) W' ∧ KpS b W1 W') ∨ (e = .returned (.bool false) ∧ Jx (pre ++ [r]) W')) (h0 : J [] W) :
    CallsIn Fence.wide n Tryd.prog 90 #[.func (.yield l) #[] #[], .pointer (some ⟨gx, 0, none⟩)] W fun e W' => (∃ v, e = .returned v) ∧ ((∃ xs, numsI xs = bitsTo x (64 * k) ∧ J xs W') ∨ (∃ pre, numsI pre <+: bitsTo x (64 * k) ∧ Jx pre W')) := by
  refine callsIn_of_wp Tryd.func90 rfl trivial ?_ rfl
  simp only [Tryd.ntmps90, List.size_toArray, List.length_cons, List.length_nil, Nat.reduceAdd, Nat.reduceSub, Array.replicate_succ, Array.replicate_zero, List.push_toArray, List.append_toArray, List.nil_append, List.cons_append]
  have c1 : W.cell? ⟨gx, 0, none⟩ = some (.slice (some ⟨b, off, none⟩) k c) := hgx.cellv rfl
  gi_wp2
  clear c1 hgx
  gi_loopw [7] (fun i wr => ∃ (j : Nat) (pre : List (InS x)), j ≤ k ∧ i = .int .i64 j ∧ Hid (numsI pre = bitsTo x (64 * j)) ∧ J pre wr ∧ TabOk wr ∧ (∀ i (h : i < (wordsN x k).length), RowAt wr b (off + i) (encU (wordsN x k)[i]))) (fun i _ => k - (intOf i).toNat)
  case atStart => exact ⟨0, [], by omega, rfl, Lib.hid rfl, h0, hT, hs⟩
  case round =>
    clear hs hT h0
    obtain ⟨j, pre, hj, rfl, hpre, hJ0, hT, hs⟩ := hrel
    by_cases hlt : j < k
    · have hltI : (j : Int) < k := by omega
      have hc := hs j (by rw [wordsN_length]; exact hlt) 0 _ rfl
      rw [wordsN_get] at hc
      have hc' : wr.cell? ⟨b, off + j, none⟩ = some (.int .u64 (wordN x j : Nat)) := hc
      clear hc
      gi_wp2
      gi_loopw [4] (fun v w2 => ∃ (y t : Nat) (pre : List (InS x)), v = .int .u64 y ∧ y < 18446744073709551616 ∧ t ≤ 64 ∧ Hid (∀ i, y.testBit i = (decide (t ≤ i) && (wordN x j).testBit i)) ∧ Hid (numsI pre = bitsTo x (64 * j + t)) ∧ J pre w2 ∧ TabOk w2 ∧ (∀ i (h : i < (wordsN x k).length), RowAt w2 b (off + i) (encU (wordsN x k)[i]))) (fun v _ => (intOf v).toNat)
      case atStart => exact ⟨wordN x j, 0, pre, rfl, wordN_lt' _ _, by omega, Lib.hid (fun i => by simp), hpre, hJ0, hT, hs⟩
      case round =>
        clear hpre hJ0 hT hs hc'
        obtain ⟨y, t, pre, rfl, hy, ht, Hy, hpre, hJ0, hT, hs⟩ := hrel
        by_cases hy0 : y = 0
        · subst hy0
          have hpre2 : Hid (numsI pre = bitsTo x (64 * (j + 1))) := Lib.hid (by
            rw [hpre.out, show 64 * (j + 1) = (64 * j + t) + (64 - t) by omega]
            refine (bitsTo_skip x (64 * j + t) (64 - t) ?_).symm
            intro i h1 h2
            have h3 := Hy.out (i - 64 * j)
            rw [Nat.zero_testBit, testBit_wordN] at h3
            have e1 : t ≤ i - 64 * j := by omega
            have e2 : i - 64 * j < 64 := by omega
            have e3 : 64 * j + (i - 64 * j) = i := by omega
            simp only [e1, e2, e3, decide_true, Bool.true_and] at h3
            exact h3.symm)
          gi_wp2
          go_roundw
          case rel => exact ⟨j + 1, pre, by omega, by go_num, hpre2, hJ0, hT, hs⟩
          case measure => simp [intOf]; omega
        · obtain ⟨t', hlow⟩ := low_exists y hy0
          have hb0 := hlow.1
          rw [Hy.out, Bool.and_eq_true, decide_eq_true_eq, testBit_wordN, Bool.and_eq_true, decide_eq_true_eq] at hb0
          obtain ⟨htt, ht64, hbit⟩ := hb0
          have hskip : bitsTo x (64 * j + t') = bitsTo x (64 * j + t) := by
            rw [show 64 * j + t' = (64 * j + t) + (t' - t) by omega]
            refine bitsTo_skip x (64 * j + t) (t' - t) ?_
            intro i h1 h2
            have h3 := hlow.2 (i - 64 * j) (by omega)
            rw [Hy.out, testBit_wordN] at h3
            have e1 : t ≤ i - 64 * j := by omega
            have e2 : i - 64 * j < 64 := by omega
            have e3 : 64 * j + (i - 64 * j) = i := by omega
            simp only [e1, e2, e3, decide_true, Bool.true_and] at h3
            exact h3
          have Hn : Hid (numsI (pre ++ [(⟨64 * j + t', hbit⟩ : InS x)]) = bitsTo x (64 * j + (t' + 1))) := Lib.hid (by
            rw [numsI_snoc, hpre.out, ← hskip, ← Nat.add_assoc, bitsTo_succ, hbit, if_pos rfl])
          have hlen : pre.length < 64 * k := by
            have h1 := bitsTo_length x (64 * j + t)
            rw [← hpre.out, numsI_length] at h1
            have h2 : 64 * j + t' < 64 * k := hx _ hbit
            omega
          have Hc : Hid (∀ i, (y &&& (y - 1)).testBit i = (decide (t' + 1 ≤ i) && (wordN x j).testBit i)) := Lib.hid (fun i => by
            rw [low_and_pred hlow, Hy.out]
            by_cases h1 : i < t'
            · have h2 := hlow.2 i h1
              rw [Hy.out] at h2
              have e1 : ¬ t' + 1 ≤ i := by omega
              rw [h2]
              simp [e1]
            · by_cases h2 : i = t'
              · have e1 : ¬ t' + 1 ≤ i := by omega
                rw [decide_eq_false e1, decide_eq_true h2]
                simp
              · have e1 : t ≤ i := by omega
                have e2 : t' + 1 ≤ i := by omega
                simp [e1, e2, h2])
          obtain ⟨fn, tmps, assign, body, hyy, hR⟩ := hY pre ⟨64 * j + t', hbit⟩ wr hJ0 hlen
          have hcast : ((64 * j + t' : Nat) : Int) = 64 * (j : Int) + t' := by omega
          simp only [encI, hcast] at hyy
          have hneI : ((y : Int) != 0) = true := by rw [bne_iff_ne]; omega
          have hclr := u64_clear hy (by omega)
          have hlt2 : y &&& (y - 1) < y := Nat.lt_of_le_of_lt Nat.and_le_right (by omega)
          obtain ⟨pre2, hp2⟩ : ∃ pre2, pre2 = pre ++ [(⟨64 * j + t', hbit⟩ : InS x)] := ⟨_, rfl⟩
          rw [← hp2] at hR Hn
          have Hlow := Lib.hid hlow
          have hy1 : (1 : Int) ≤ y := by omega
          have hy' : y < 2 ^ 64 := hy
          clear hcast hp2 hlow hskip hlen hpre hJ0 Hy hy0 hbit
          gi_wp2_with (refine ⟨trivial, fun h => by simp [Fence.wide] at h, ?_⟩; refine (callsIn_wide.2 (tz_any y t' hy' Hlow.out _ hT)).mono ?_; rintro e w3 ⟨rfl, rfl⟩)
          refine ⟨fun h => by simp [Fence.wide] at h, ?_⟩
          refine hR.mono ?_
          rintro e W3 (⟨rfl, hJ4, hk4⟩ | ⟨rfl, hJx4⟩)
          · gi_wp2
            go_roundw
            case rel => exact ⟨y &&& (y - 1), t' + 1, pre2, rfl, by omega, by omega, Hc, Hn, hJ4, hk4.tab hT, fun i h => (hs i h).keep hk4.1⟩
            case measure => simp only [intOf, Int.toNat_natCast]; exact hlt2
          · gi_wp2
            refine bodyPost_ret (results_none rfl _ _ _) rfl ?_
            refine ⟨⟨_, rfl⟩, .inr ⟨pre2, ?_, hJx4⟩⟩
            rw [Hn.out, show 64 * k = 64 * j + (t' + 1) + (64 * k - (64 * j + (t' + 1))) by omega]
            exact bitsTo_prefix _ _ _
    · obtain rfl : j = k := by omega
      gi_wp2
      go_end0
      exact ⟨⟨_, rfl⟩, .inl ⟨pre, hpre.out, hJ0⟩⟩

theorem each_stops (x k c b off n gx : Nat) (w : World) (hk : k ≤ 1099511627776) (hx : below x (64 * k)) (hgx : Blk w gx 147 #[.slice (some ⟨b, off, none⟩) k c]) (hb : b < w.heap.size) (hs : ∀ i (h : i < (wordsN x k).length), RowAt w b (off + i) (encU (wordsN x k)[i])) (hT : TabOk w) :
    SeqStopsK Fence.wide n Tryd.prog 90 #[.pointer (some ⟨gx, 0, none⟩)] (encI (x := x)) (KpS b) (fun xs => numsI xs = bitsTo x (64 * k)) (fun pre => numsI pre <+: bitsTo x (64 * k)) (64 * k) w :=
  fun l J Jx W hW hJ hJx hY h0 => each_iter x k c b off gx n l J Jx W hk hx (blk_then hgx hW) (fun i h => (hs i h).keep (hW.block b hb)) (hT.then_ hT.size hW) hJ hY h0
end Go.Proofs.YtkedgombccdamaaDoor
namespace Go.Proofs.YtkedgombccdamaaDoor
set_option linter.unusedVariables false
set_option linter.unusedSimpArgs false

section
variable {α β : Type} [DecidableEq α] [DecidableEq β]
/-- the values of f below n, each once, as they are met -/
def firsts (f : Nat → α) : Nat → List α
  | 0 => []
  | n + 1 => if f n ∈ firsts f n then firsts f n else firsts f n ++ [f n]
/-- the number of f's value at b -/
def num (f : Nat → α) (b : Nat) : Nat := (firsts f (b + 1)).idxOf (f b)

end

section
variable {α : Type} [DecidableEq α]
end

/-- which of the sets hold byte b -/
def sig (l : List BSet) (b : Nat) : List Bool := l.map fun s => s.getLsbD b
/-- a byte's class -/
def cls (l : List BSet) (b : Nat) : Int := (num (sig l) b : Int)
/-- how many classes there are -/
def many (l : List BSet) : Nat := (firsts (sig l) 256).length
/-- an array of 256 ints -/
def clsC (g : Nat → Int) : Array Value := intsC .i64 ((List.range 256).map g)
/-- below n the new, from n on the old -/
def upto (n : Nat) (new old : Nat → Int) (b : Nat) : Int := if b < n then new b else old b
attribute [irreducible] clsC

end Go.Proofs.YtkedgombccdamaaDoor
namespace Go.Proofs.YtkedgombccdamaaDoor
open Go.RowKit Go.Maps Go.WideMaps
set_option linter.unusedVariables false
set_option linter.unusedSimpArgs false

/-- keys that are told by a plain type -/
structure KeyEnc (P : Program) (k : TypeId) (κ : Type) (ok : κ → Prop) (kv : κ → Value) (lit : κ → Lit) : Prop where
  law : Keyed P k
  key : ∀ x, ok x → keyOf P k (kv x) = some (lit x)
  inj : ∀ x y, kv x = kv y → x = y
section
variable {P : Program} {k e : TypeId} {κ : Type} {ok : κ → Prop} {kv : κ → Value} {lit : κ → Lit}
/-- block b is a map of the call's own that holds what m says -/
def IntMap (P : Program) (k e : TypeId) (ok : κ → Prop) (lit : κ → Lit) (w : World) (b n : Nat) (m : κ → Option Int) (cnt : Nat) : Prop :=
  ∃ D : DataW Unit, w.ownsMap P k (plainElem P e) b n D ∧ (∀ x, ok x → Maps.has D (lit x) = (m x).isSome) ∧ (∀ x, ok x → D.atKey (lit x) (.lit (.int .i64 0)) = .lit (.int .i64 ((m x).getD 0))) ∧ Maps.size D = cnt

theorem IntMap.new (K : KeyEnc P k κ ok kv lit) (w : World) {g : Nat} (hg : g = w.heap.size) : IntMap P k e ok lit (w.alloc (.map #[] 0)) g 0 (fun _ => none) 0 := by
  subst hg
  exact ⟨_, World.ownsMap_made w P k _, fun x _ => rfl, fun x _ => rfl, rfl⟩
theorem IntMap.lt {w : World} {b n cnt : Nat} {m : κ → Option Int} (h : IntMap P k e ok lit w b n m cnt) : b < w.heap.size := by
  obtain ⟨D, h1, _⟩ := h; exact h1.lt
theorem IntMap.then_ {w w' : World} {b n cnt : Nat} {m : κ → Option Int} (h : IntMap P k e ok lit w b n m cnt) (hb : Below w.heap.size w w') : IntMap P k e ok lit w' b n m cnt := by
  obtain ⟨D, h1, h2⟩ := h
  exact ⟨D, h1.kept (only_of_below hb none) (by simp), h2⟩
theorem IntMap.grown {w w' : World} {b n cnt j : Nat} {m : κ → Option Int} (h : IntMap P k e ok lit w b n m cnt) (hg : w.grownBy w' (some j)) (hne : b ≠ j) : IntMap P k e ok lit w' b n m cnt := by
  obtain ⟨D, h1, h2⟩ := h
  exact ⟨D, h1.kept hg (by simpa using hne), h2⟩
theorem IntMap.drew {w : World} {b n cnt : Nat} {m : κ → Option Int} (h : IntMap P k e ok lit w b n m cnt) : IntMap P k e ok lit w.drew b n m cnt := by
  obtain ⟨D, h1, h2⟩ := h
  exact ⟨D, h1.drew, h2⟩
theorem IntMap.alloc {w : World} {b n cnt : Nat} {m : κ → Option Int} (h : IntMap P k e ok lit w b n m cnt) (o : Obj) : IntMap P k e ok lit (w.alloc o) b n m cnt := by
  obtain ⟨D, h1, h2⟩ := h
  exact ⟨D, h1.alloc o, h2⟩
theorem IntMap.setCell {w : World} {b n cnt : Nat} {m : κ → Option Int} (h : IntMap P k e ok lit w b n m cnt) {a : Addr} (ha : b ≠ a.block) (u : Value) : IntMap P k e ok lit (w.setCell a u) b n m cnt := by
  obtain ⟨D, h1, h2⟩ := h
  exact ⟨D, h1.setCell ha u, h2⟩
theorem IntMap.more {w : World} {b n n' cnt : Nat} {m : κ → Option Int} (h : IntMap P k e ok lit w b n m cnt) (hn : n ≤ n') : IntMap P k e ok lit w b n' m cnt := by
  obtain ⟨D, h1, h2⟩ := h
  exact ⟨D, h1.mono hn, h2⟩
section
variable {ops : Array Oper} {rest : List Oper} {o : Oper} {a : Act} {Q : Exit → Act → World → Prop} {w : World} {t : TypeId} {b n cnt : Nat} {mf : κ → Option Int}
end
end
end Go.Proofs.YtkedgombccdamaaDoor
namespace Go.Proofs.YtkedgombccdamaaDoor
open Go.RowKit Go.Shelf Go.Maps
set_option linter.unusedVariables false
set_option linter.unusedSimpArgs false
attribute [local go_sem] Oper.semAt_some

/-- a map of the call's own from ints to values of one cell -/
def ValMap (w : World) (b n : Nat) (m : Int → Option Value) : Prop :=
  ∃ D : DataW Value, w.ownsMap Tryd.prog 3 (fun v => some (.held v, [])) b n D ∧ ∀ x, (Lit.int .i64 x).wf = true → ∀ z, D.atKey (.int .i64 x) (.held z) = .held ((m x).getD z)
theorem keyed_int : Keyed Tryd.prog 3 := int_keyed Tryd.underlying3
theorem ValMap.new (w : World) {g : Nat} (hg : g = w.heap.size) : ValMap (w.alloc (.map #[] 0)) g 0 (fun _ => none) := by
  subst hg
  exact ⟨_, World.ownsMap_made w _ _ _, fun x _ z => rfl⟩
theorem ValMap.lt {w : World} {b n : Nat} {m : Int → Option Value} (h : ValMap w b n m) : b < w.heap.size := by
  obtain ⟨D, h1, _⟩ := h; exact h1.lt
theorem ValMap.keep {w w' : World} {b n : Nat} {m : Int → Option Value} (h : ValMap w b n m) (hk : w'.heap[b]? = w.heap[b]?) : ValMap w' b n m := by
  obtain ⟨D, ⟨es, clock, hb, r⟩, h2⟩ := h
  exact ⟨D, ⟨es, clock, hk.trans hb, r⟩, h2⟩
theorem zero_edges (w : World) : (zeroValue 22).run Tryd.prog w = .ok (.slice none 0 0) w := by kernel_rfl
theorem wf_of_nat {n : Nat} (h : n < 9223372036854775808) : (Lit.int .i64 (n : Int)).wf = true := by
  have h2 : IntKind.i64.min = -9223372036854775808 := by decide
  have h3 : IntKind.i64.max = 9223372036854775807 := by decide
  simp only [Lit.wf, Bool.and_eq_true, decide_eq_true_eq]
  exact ⟨by omega, by omega⟩
section
variable {ops : Array Oper} {rest : List Oper} {o : Oper} {a : Act} {Q : Exit → Act → World → Prop} {w : World} {b n : Nat} {mf : Int → Option Value}
set_option maxRecDepth 100000 in
theorem run_vmap (h : ValMap w b n mf) (y : Int) (hy : (Lit.int .i64 y).wf = true) : (Instr.lookup 144 (.map (some b)) (.int .i64 y) false).run Tryd.prog w = .ok ((mf y).getD (.slice none 0 0)) w := by
  obtain ⟨D, h1, h2⟩ := h
  obtain ⟨v, ps, hrun, hv⟩ := h1.lookup keyed_int Tryd.underlying144 (zero_edges w) (zd := .held (.slice none 0 0)) (zp := []) rfl (keyOf_int_mk Tryd.underlying3 hy)
  rw [h2 y hy] at hv
  injection hv with hv
  injection hv with hv _
  injection hv with hv
  rw [hrun, hv]
theorem wl_vmap_at (h : ValMap w b n mf) (hg : o.guard = none) (m x : Operand) (hop : o.op = Op.lookup 144 m x false) (hm : a.eval m = .map (some b)) (y : Int) (hy : (Lit.int .i64 y).wf = true) (hx : a.eval x = .int .i64 y)
    (hK : wpList Tryd.prog ops Q rest (a.put o.dst ((mf y).getD (.slice none 0 0))) w) : wpList Tryd.prog ops Q (o :: rest) a w := by
  refine wpList_plain hg fun K' hK' => ?_
  unfold Oper.wp
  simp [execOp, hop, hm, hx, run_vmap h y hy, Result.andThen]
  exact hK' _ _ hK
theorem wl_vmap_put (h : ValMap w b n mf) (hn : n < maxLen) (hg : o.guard = none) (m x v : Operand) (hop : o.op = Op.mapUpdate 144 m x v) (hm : a.eval m = .map (some b)) (y : Int) (hy : (Lit.int .i64 y).wf = true) (hx : a.eval x = .int .i64 y)
    (c : Value) (hv : a.eval v = c)
    (hK : ∀ w', ValMap w' b (n + 1) (fun z => if z = y then some c else mf z) → w.grownBy w' (some b) → wpList Tryd.prog ops Q rest (a.put o.dst undef) w') : wpList Tryd.prog ops Q (o :: rest) a w := by
  obtain ⟨D, h1, h2⟩ := h
  have hk := keyOf_int_mk Tryd.underlying3 hy
  refine wpList_mapUpdate_own w hg m x v _ hop _ _ keyed_int Tryd.underlying144 _ b n D hm h1 hn (.int .i64 y) c (.int .i64 y) hx hv hk (.held c) [] rfl fun w' h5 h6 => hK w' ⟨_, h5, fun z hz q => ?_⟩ h6
  by_cases e1 : z = y
  · subst e1
    rw [Maps.atKey_put_same h1.isMap (keyed_int.key hk)]
    simp
  · rw [Maps.atKey_put_other (by intro e; injection e with _ e; exact e1 e), h2 z hz]
    simp [e1]
end

/-- the edges that leave a state, in their order -/
def edgesAt (E : List Edg) (n : Nat) : List Edg := E.filter fun d => d.fr == (n : Int)
theorem mem_edgesAt {E : List Edg} {n : Nat} {d : Edg} : d ∈ edgesAt E n ↔ d ∈ E ∧ d.fr = n := by simp [edgesAt]
/-- sim's copy of a machine, all of it below block nb -/
def MachOk (nb : Nat) (W : World) (gm N : Nat) (E : List Edg) (R : List Nat) : Prop :=
  Fits N E R ∧ N ≤ 1099511627776 ∧ E.length ≤ 1099511627776 ∧ (∀ r ∈ R, r < 4294967296) ∧ 0 < nb ∧ nb ≤ W.heap.size ∧ gm < nb ∧ ∃ bm nm B m d mf, bm < nb ∧ Blk W gm 146 #[.int .i64 (N : Int), .map (some bm), .slice B m d] ∧ m = R.length ∧ SliceOf W nb 1 encR B R ∧ ValMap W bm nm mf ∧
    ∀ n, n < N → ∃ A l c, (mf (n : Int)).getD (.slice none 0 0) = .slice A l c ∧ l = (edgesAt E n).length ∧ SliceOf W nb 7 edgC A (edgesAt E n)
theorem MachOk.keep {nb : Nat} {W W' : World} {gm N : Nat} {E : List Edg} {R : List Nat} (h : MachOk nb W gm N E R) (hk : ∀ k, k < nb → W'.heap[k]? = W.heap[k]?) (hs : W.heap.size ≤ W'.heap.size) : MachOk nb W' gm N E R := by
  obtain ⟨h1, h2, h3, h4, h5, h6, h7, bm, nm, B, m, d, mf, g1, g2, g3, g4, g5, g6⟩ := h
  refine ⟨h1, h2, h3, h4, h5, Nat.le_trans h6 hs, h7, bm, nm, B, m, d, mf, g1, (hk gm h7).trans g2, g3, g4.keep hk, g5.keep (hk bm g1), fun n hn => ?_⟩
  obtain ⟨A, l, c, e1, e2, e3⟩ := g6 n hn
  exact ⟨A, l, c, e1, e2, e3.keep hk⟩
theorem MachOk.below {nb n : Nat} {W W' : World} {gm N : Nat} {E : List Edg} {R : List Nat} (h : MachOk nb W gm N E R) (hb : Below n W W') (hn : nb ≤ n) : MachOk nb W' gm N E R := h.keep (fun k hk => hb.block k (by omega)) hb.size
theorem MachOk.grown {nb r : Nat} {W W' : World} {gm N : Nat} {E : List Edg} {R : List Nat} (h : MachOk nb W gm N E R) (hg : W.grownBy W' (some r)) (hr : nb ≤ r) : MachOk nb W' gm N E R := h.keep (fun k hk => hg.block k (by have := h.2.2.2.2.2.1; omega) (by intro e; injection e; omega)) hg.size

/-- how many words a set of N states takes -/
def wordsFor (N : Nat) : Nat := (N + 63) / 64
theorem info_u64z : (Tryd.prog.info? 50).map (fun i => (i.zero, i.size, i.bytes)) = some (some (.int .u64 0), 1, 8) := by kernel_rfl
set_option maxHeartbeats 400000 in
theorem none_any (nb gm N : Nat) (E : List Edg) (R : List Nat) (w : World) (h : MachOk nb w gm N E R) :
    Calls Tryd.prog 73 #[.pointer (some ⟨gm, 0, none⟩)] w fun e w' => ∃ g c, e = .returned (.slice (some ⟨g, 0, none⟩) (wordsFor N) c) ∧ w.heap.size ≤ g ∧ Own w' w.heap.size 50 1 encU (.slice (some ⟨g, 0, none⟩) (wordsFor N) c) (wordsN 0 (wordsFor N)) ∧ Below w.heap.size w w' := by
  obtain ⟨hf, hN, _, _, _, _, _, bm, nm, B, m, d, mf, _, hb, _⟩ := h
  have c0 : w.cell? ⟨gm, 0, none⟩ = some (.int .i64 (N : Int)) := hb.cellv rfl
  obtain ⟨i0, hi0, hz0, hz1, hz2⟩ := info_parts info_u64z
  have hkI : ((N : Int) + 63) / 64 = ((wordsFor N : Nat) : Int) := by unfold wordsFor; omega
  have hk2 : wordsFor N ≤ 549755813889 := by unfold wordsFor; omega
  clear hf hb
  go_enter Tryd.func73, Tryd.ntmps73
  go_wp2_with (at_make; refine wpList_make_full _ rfl _ _ 147 rfl w.heap.size 50 i0 _ 1 Tryd.underlying147 hi0 hz0 hz1 _ _ _ _ (wordsFor N) rfl rfl hkI hkI (by rw [hz2]; omega) (by unfold maxLen; omega) (Nat.le_refl _) ?_; intro w1 hown hg)
  go_ret
  refine ⟨w.heap.size, wordsFor N, rfl, Nat.le_refl _, ?_, ⟨hg.os, hg.tape, hg.output, hg.size, fun k hk => hg.block k hk (by simp)⟩⟩
  have e1 : (madeCells (Value.int .u64 0).cells (wordsFor N * 1)).toList = flat encU (wordsN 0 (wordsFor N)) := by
    rw [wordsN_zero]
    apply List.ext_getElem
    · rw [Array.length_toList, size_madeCells]
      simp [flat, encU]
    · intro j h1 h2
      simp [madeCells, Value.cells, flat, encU, List.flatMap_replicate]
      rw [Nat.mod_one]
      rfl
  rw [e1] at hown
  unfold Own
  rw [wordsN_length]
  exact hown

theorem bits_all {x N M : Nat} (hx : below x N) (h : N ≤ M) : bitsTo x M = bitsTo x N := by
  have e : M = N + (M - N) := by omega
  rw [e]
  refine bitsTo_skip x N (M - N) fun i h1 h2 => ?_
  cases hb : x.testBit i with
  | false => rfl
  | true => have := hx i hb; omega
theorem words_room (N : Nat) : N ≤ 64 * wordsFor N := by unfold wordsFor; omega
theorem blk_other' {W W' : World} {g r : Nat} {t : TypeId} {cs : Array Value} (h : Blk W g t cs) (hg : W.grownBy W' (some r)) (hr : g ≠ r) : Blk W' g t cs :=
  h.grown hg (fun e => by injection e with e; exact hr e)
theorem cells_of_blk' {W : World} {g : Nat} {t : TypeId} {cs : Array Value} {o : Obj} (h : Blk W g t cs) (e : W.heap[g]? = some o) : o.isCells = true := by
  unfold Blk at h
  rw [h] at e
  injection e with e
  subst e
  rfl
theorem blk_turn' {W W' : World} {g B : Nat} {t : TypeId} {cs : Array Value} {row : Option Nat} (h : Blk W g t cs) (hg : W.grownBy W' row) (hr : ∀ r, row = some r → B ≤ r ∧ ∃ o : Obj, W.heap[r]? = some o ∧ o.isCells = false) : Blk W' g t cs :=
  h.grown hg (fun e => by
    obtain ⟨_, o, h1, h2⟩ := hr g e.symm
    have := cells_of_blk' h h1
    rw [h2] at this
    cases this)
theorem mach_turn {nb B gm N : Nat} {E : List Edg} {R : List Nat} {W W' : World} {row : Option Nat} (h : MachOk nb W gm N E R) (hg : W.grownBy W' row) (hr : ∀ r, row = some r → B ≤ r ∧ ∃ o : Obj, W.heap[r]? = some o ∧ o.isCells = false) (hB : nb ≤ B) : MachOk nb W' gm N E R :=
  h.keep (fun k hk => hg.block k (by have := h.2.2.2.2.2.1; omega) (fun e => by have := (hr k e.symm).1; omega)) hg.size
/-- what met's boxes hold -/
def metI (nb gm N : Nat) (E : List Edg) (R : List Nat) (w : World) {x : Nat} (pre : List (InS x)) (W : World) : Prop :=
  Blk W w.heap.size 143 #[.pointer (some ⟨gm, 0, none⟩)] ∧ Blk W (w.heap.size + 1) 43 #[.int .u32 (orL R (numsI pre) : Nat)] ∧ MachOk nb W gm N E R ∧ Below w.heap.size w W ∧ w.heap.size + 1 + 1 < W.heap.size
set_option maxRecDepth 100000 in
set_option maxHeartbeats 2000000 in
theorem met_any (nb gm N : Nat) (E : List Edg) (R : List Nat) (b off c x : Nat) (hx : below x N) (w : World) (hM : MachOk nb w gm N E R) (hs : ∀ i (h : i < (wordsN x (wordsFor N)).length), RowAt w b (off + i) (encU (wordsN x (wordsFor N))[i])) (hb : b < w.heap.size) (hT : TabOk w) :
    Calls Tryd.prog 77 #[.pointer (some ⟨gm, 0, none⟩), .slice (some ⟨b, off, none⟩) (wordsFor N) c] w fun e w' => e = .returned (.int .u32 (metN R x N : Nat)) ∧ Below w.heap.size w w' := by
  refine (callsIn_wide (n := 6)).1 ?_
  refine callsIn_of_wp_marks Tryd.func77 rfl trivial ?_ rfl
  simp only [Tryd.ntmps77, List.size_toArray, List.length_cons, List.length_nil, Nat.reduceAdd, Nat.reduceSub, Array.replicate_succ, Array.replicate_zero, List.push_toArray, List.append_toArray, List.nil_append, List.cons_append]
  gi_wp2_with (refine ⟨trivial, ?_⟩; gi_at_call 74; refine (callsIn_wide.2 (each_any _ _ _ _)).mono ?_; rintro e w5 ⟨rfl, rfl⟩)
  have e2 := ((Blk.new w 143 #[.pointer (some ⟨gm, 0, none⟩)]).alloc (.cells #[.int .u32 0] 43)).alloc (.cells #[.slice (some ⟨b, off, none⟩) (wordsFor N) c] 147)
  have e5 := (Blk.new' (n := w.heap.size + 1) (w.alloc (.cells #[.pointer (some ⟨gm, 0, none⟩)] 143)) 43 #[.int .u32 0] (by simp)).alloc (.cells #[.slice (some ⟨b, off, none⟩) (wordsFor N) c] 147)
  have ex := Blk.new' (n := w.heap.size + 1 + 1) ((w.alloc (.cells #[.pointer (some ⟨gm, 0, none⟩)] 143)).alloc (.cells #[.int .u32 0] 43)) 147 #[.slice (some ⟨b, off, none⟩) (wordsFor N) c] (by simp)
  have hB := below_alloc (below_alloc (below_alloc (Below.refl w.heap.size w) (.cells #[.pointer (some ⟨gm, 0, none⟩)] 143)) (.cells #[.int .u32 0] 43)) (.cells #[.slice (some ⟨b, off, none⟩) (wordsFor N) c] 147)
  obtain ⟨W1, hW1⟩ : ∃ y, y = ((w.alloc (.cells #[.pointer (some ⟨gm, 0, none⟩)] 143)).alloc (.cells #[.int .u32 0] 43)).alloc (.cells #[.slice (some ⟨b, off, none⟩) (wordsFor N) c] 147) := ⟨_, rfl⟩
  rw [← hW1] at e2 e5 ex hB ⊢
  clear hW1
  have hnb := hM.2.2.2.2.2.1
  have hM1 := hM.below hB hnb
  have hlW := ex.lt
  have hkb : wordsFor N ≤ 1099511627776 := by have := hM.2.1; unfold wordsFor; omega
  have hx64 : below x (64 * wordsFor N) := fun i hi => Nat.lt_of_lt_of_le (hx i hi) (words_room N)
  refine wpIn_rangeFunc_ownF (n := 6) rfl (by decide) (gf := 90) (lb := #[.pointer (some ⟨w.heap.size + 1 + 1, 0, none⟩)]) rfl trivial (enters_of Tryd.func90 (by kernel_rfl) rfl)
    (each_stops x (wordsFor N) c b off 5 (w.heap.size + 1 + 1) W1 hkb hx64 ex (Nat.lt_of_lt_of_le hb hB.size) (fun i h => (hs i h).keep (hB.block b hb)) (hT.then_ hT.size hB)) KpS.trans (fun W l o o' hl _ _ _ => ⟨World.putObj_heap_other (by omega), World.putObj_heap_other (by omega)⟩) (Below.refl _ _) (fun _ => rfl)
    (metI nb gm N E R w) (fun _ _ _ => False) (fun pre X Y row hs hg hr => by
      obtain ⟨h1, h2, h3, h4, h5⟩ := hs
      exact ⟨blk_turn' h1 hg hr, blk_turn' h2 hg hr, mach_turn h3 hg hr (by omega), h4.grown hg h4.size (fun k e => by have := (hr k e).1; omega), Nat.lt_of_lt_of_le h5 hg.size⟩) (fun _ => fun _ _ _ _ hs _ _ => hs)
    ⟨e2, e5, hM1, hB, hlW⟩
    (fun r => { tmps := #[.pointer (some ⟨gm, 0, none⟩), .slice (some ⟨b, off, none⟩) (wordsFor N) c, .pointer (some ⟨w.heap.size, 0, none⟩), undef, .int .u32 0, .pointer (some ⟨w.heap.size + 1, 0, none⟩), .int .i64 (r.1 : Int), .slice (some ⟨b, off, none⟩) (wordsFor N) c, .func (.func 90) #[] #[.pointer (some ⟨w.heap.size + 1 + 1, 0, none⟩)], .int .i64 (r.1 : Int), undef, undef, undef, undef, undef, undef, undef, undef, undef, undef], defers := [] }) ?assign ?body ?done ?stop
  case assign =>
    intro l r W K hK
    unfold encI
    gi_wp2
    exact hK
  case body =>
    rintro l pre ⟨n, hn⟩ W ⟨h2, h5, hMW, hBW, hlt⟩ hlen
    have hnN := hx n hn
    have hMM := hMW
    obtain ⟨hf, hN, hE, hR32, hnb0, _, hgm, bm, nm, B, m, d, mf, hbm, hbl, rfl, hrs, hvm, hed⟩ := hMM
    have hnm : n < R.length := by rw [hf.rules]; exact hnN
    obtain ⟨bR, offR, rfl, hbR, hrow⟩ := hrs.at_ (by omega)
    have hc : RowAt W bR (offR + n * 1) (encR R[n]) := hrow n hnm
    have hr0 : R.getD n 0 = R[n] := by rw [List.getD_eq_getElem?_getD, List.getElem?_eq_getElem hnm, Option.getD_some]
    obtain ⟨v, hv⟩ : ∃ v, v = orL R (numsI pre) := ⟨_, rfl⟩
    have hvlt := orL_lt hR32 (numsI pre)
    rw [← hv] at h5 hvlt
    have Hv := Lib.hid hv
    clear hv
    have hor := u32_or_nat v R[n] hvlt (hR32 _ (List.getElem_mem hnm))
    gi_upto_region 4 with (fail)
    refine regionIn_steps 9 [eqS (.int .u32 (v : Int)), eqS (.pointer (some ⟨gm, 0, none⟩)), eqS (.pointer (some ⟨gm, 0, none⟩)), eqS (.pointer (some ⟨gm, 2, none⟩)), eqS (.slice (some ⟨bR, offR, none⟩) R.length d), eqS (.int .i64 (n : Int)), eqS (.pointer (some ⟨bR, offR + n * 1, none⟩)), eqS (.int .u32 (R[n] : Nat)), eqS (.int .u32 (v ||| R[n] : Nat))] [10, 11, 12, 13, 14, 15, 16, 17, 18] rfl (by kernel_rfl) (by kernel_rfl) rfl ?_ ?_
    · refine Steps.cons (fun a' w' hG hB dep => gs_load1 (want_none rfl) _ _ rfl (w.heap.size + 1) 0 (hG.other 5 rfl) _ ((blk_then h5 hB).cellv rfl) _ Tryd.underlying43 rfl rfl) ?_
      refine Steps.cons (fun a' w' hG hB dep => gs_load1 (want_none rfl) _ _ rfl w.heap.size 0 (hG.other 2 rfl) _ ((blk_then h2 hB).cellv rfl) _ Tryd.underlying143 rfl rfl) ?_
      refine Steps.cons (fun a' w' hG hB dep => gs_nil (want_none rfl) _ rfl _ (dep 1 rfl 11 rfl) rfl) ?_
      refine Steps.cons (fun a' w' hG hB dep => gs_field (want_none rfl) _ _ _ rfl gm 0 2 (dep 2 rfl 12 rfl) (field_mach_2 gm) rfl) ?_
      refine Steps.cons (fun a' w' hG hB dep => gs_load1 (want_none rfl) _ _ rfl gm 2 (dep 3 rfl 13 rfl) _ ((blk_then hbl hB).cellv (i := 2) rfl) _ Tryd.underlying23 rfl rfl) ?_
      refine Steps.cons (fun a' w' hG hB dep => gs_move (want_none rfl) _ rfl (hG.other 6 rfl)) ?_
      refine Steps.cons (fun a' w' hG hB dep => gs_index (want_none rfl) _ _ _ rfl under_rules 1 size_ruleE bR offR R.length d n (dep 4 rfl 14 rfl) (dep 5 rfl 15 rfl) hnm rfl) ?_
      refine Steps.cons (fun a' w' hG hB dep => gs_load1 (want_none rfl) _ _ rfl bR (offR + n * 1) (dep 6 rfl 16 rfl) _ ((hc.keep (hB.block bR (by omega))) 0 _ rfl) _ Tryd.underlying43 rfl rfl) ?_
      refine Steps.cons (fun a' w' hG hB dep => gs_or_u32 (want_none rfl) _ _ _ _ rfl _ _ (dep 0 rfl 10 rfl) (dep 7 rfl 17 rfl) _ hor rfl) ?_
      exact Steps.nil
    intro u W3 hB3 ans
    have u8 : u 18 = .int .u32 (v ||| R[n] : Nat) := ans 8 18 (by decide) rfl
    clear ans
    simp only [putAll, List.foldl_cons, List.foldl_nil, Act.put, List.setIfInBounds_toArray, List.set_cons_zero, List.set_cons_succ, u8]
    clear u8
    simp only [List.drop]
    refine wl_store_cell rfl _ _ _ rfl _ _ rfl _ _ #[.int .u32 (v ||| R[n] : Nat)] (blk_then h5 hB3) (by simp) info_u32 rfl rfl rfl ?_
    intro W4 h54 hg4
    refine wpList_nil ?_
    refine onlyN_normal ?_
    gi_wp2
    have hl3 := hB3.size
    refine ⟨(KeepsOthers.of_grownBy (only_of_below hB3 none) (fun j o e _ => by cases e)).trans (KeepsOthers.of_grownBy hg4 (fun j o e1 e2 => by injection e1 with e1; subst e1; exact cells_of_blk' (blk_then h5 hB3) e2)),
      ⟨(hg4.block b (by have := hBW.size; omega) (by simp; omega)).trans (hB3.block b (by have := hBW.size; omega)), (hg4.block 0 (by omega) (by simp)).trans (hB3.block 0 (by omega))⟩,
      blk_other' (blk_then h2 hB3) hg4 (by omega), ?_, (hMW.below hB3 (by omega)).grown hg4 (by omega), (below_then hBW hB3).grown hg4 (below_then hBW hB3).size (fun k e => by injection e with e; omega), Nat.lt_of_lt_of_le (Nat.lt_of_lt_of_le hlt hB3.size) hg4.size⟩
    rw [numsI_snoc, orL_snoc, ← Hv.out, hr0]
    exact h54
  case done =>
    rintro D xs W hD hxs ⟨h2, h5, hMW, hBW, hlt⟩ hK
    rw [hxs, bits_all hx (words_room N)] at h5
    have c5 : W.cell? ⟨w.heap.size + 1, 0, none⟩ = some (.int .u32 (metN R x N : Nat)) := h5.cellv rfl
    gi_wp2
    refine ⟨by simp, .inl ⟨_, _, rfl, run_takeDeferred hK, ?_⟩⟩
    exact ⟨_, results_tmp rfl _ _ _, rfl, hBW.trans (belowK_b (w := w) (Nat.le_refl _) W D _ _ (by omega) hK rfl rfl)⟩
  case stop =>
    rintro D c pre W _ _ h _
    exact h.elim
end Go.Proofs.YtkedgombccdamaaDoor
namespace Go.Proofs.YtkedgombccdamaaDoor
open Go.RowKit Go.Shelf Go.Maps
set_option linter.unusedVariables false
set_option linter.unusedSimpArgs false
attribute [local go_sem] Oper.semAt_some

section
variable {α β : Type} {enc : α → Array Value} {enc2 : β → Array Value} {size size2 base base2 B g r : Nat} {e e2 t : TypeId} {W W' : World} {v v2 : Value} {ys : List α} {zs : List β} {cs : Array Value} {row : Option Nat}
theorem s_own_turn (h : Own W base e size enc v ys) (hg : W.grownBy W' row) (hr : ∀ r, row = some r → B ≤ r ∧ ∃ o : Obj, W.heap[r]? = some o ∧ o.isCells = false) : Own W' base e size enc v ys :=
  h.kept_ hg (fun j e1 e2 => by
    obtain ⟨_, o, h1, h2⟩ := hr j e2
    rcases h.2 with ⟨hv, _⟩ | ⟨g', cap, cur, hv, _, hh, _⟩
    · rw [hv] at e1; cases e1
    · rw [hv] at e1
      have : g' = j := by simpa [Value.ownBlock] using e1
      subst this
      rw [hh] at h1
      injection h1 with h1
      subst h1
      cases h2)
theorem others_own (h : Own W base e size enc v ys) (hg : W.grownBy W' v.ownBlock) : KeepsOthers W W' :=
  KeepsOthers.of_grownBy hg (fun j o e1 e2 => by
    rcases h.2 with ⟨hv, _⟩ | ⟨g', cap, cur, hv, hge, hh, _⟩
    · rw [hv] at e1; cases e1
    · rw [hv] at e1
      have a1 : g' = j := by simpa [Value.ownBlock] using e1
      subst a1
      rw [hh] at e2
      injection e2 with e2
      subst e2
      rfl)
/-- one element off the end -/
theorem own_pop (hs : ∀ y, (enc y).size = size) {A : Option Addr} {n c : Nat} (h : Own W base e size enc (.slice A n c) ys) (hn : 0 < ys.length) : Own W base e size enc (.slice A (n - 1) c) ys.dropLast := by
  rcases h.2 with ⟨hv, h0⟩ | ⟨g', cap, cur, hv, hge, hh, hc, hm, hcs, ht⟩
  · omega
  · injection hv with hA hn2 hc2
    subst hA hn2 hc2
    have hlen : ys.dropLast.length = ys.length - 1 := List.length_dropLast
    unfold Own
    rw [hlen]
    refine ⟨by rw [flat_length hs, hlen], .inr ⟨g', c, cur, rfl, hge, hh, by omega, hm, hcs, ?_⟩⟩
    have e1 : flat enc ys.dropLast = (flat enc ys).take ((ys.length - 1) * size) := by
      rw [List.dropLast_eq_take]
      have e2 : flat enc ys = flat enc (ys.take (ys.length - 1)) ++ flat enc (ys.drop (ys.length - 1)) := by
        unfold flat
        rw [← List.flatMap_append, List.take_append_drop]
      rw [e2, List.take_left']
      rw [flat_length hs, List.length_take]
      congr 1
      omega
    rw [e1, ← ht, List.take_take, Nat.min_eq_left]
    exact Nat.mul_le_mul_right _ (by omega)
theorem own_same {v : Value} {xs ys : List α} (h : Own W base e size enc v xs) (h' : Own W base e size enc v ys) : flat enc xs = flat enc ys := by
  rcases h.2 with ⟨hv, h0⟩ | ⟨g', cap, cur, hv, hge, hh, hc, hm, hcs, ht⟩
  · rcases h'.2 with ⟨_, h1⟩ | ⟨g2, cap2, cur2, hv2, _⟩
    · rw [List.eq_nil_of_length_eq_zero h0, List.eq_nil_of_length_eq_zero h1]
    · rw [hv] at hv2; cases hv2
  · rcases h'.2 with ⟨hv2, _⟩ | ⟨g2, cap2, cur2, hv2, _, hh2, _, _, _, ht2⟩
    · rw [hv] at hv2; cases hv2
    · rw [hv] at hv2
      injection hv2 with e1 e2 e3
      injection e1 with e1
      injection e1 with e1
      subst e1
      rw [hh] at hh2
      injection hh2 with hh2
      injection hh2 with hh2
      subst hh2
      rw [← ht, ← ht2, e2]
end
def encN (n : Nat) : Array Value := #[.int .i64 (n : Int)]
theorem encN_size (v : Nat) : (encN v).size = 1 := rfl
theorem encN_one (v : Nat) : (encN v).all (·.oneCell') = true := by simp [encN, Value.oneCell']
theorem flat_encU_inj : ∀ {xs ys : List Nat}, flat encU xs = flat encU ys → xs = ys
  | [], [], _ => rfl
  | [], y :: ys, h => by simp [flat, encU] at h
  | x :: xs, [], h => by simp [flat, encU] at h
  | x :: xs, y :: ys, h => by
    have e1 : flat encU (x :: xs) = .int .u64 x :: flat encU xs := rfl
    have e2 : flat encU (y :: ys) = .int .u64 y :: flat encU ys := rfl
    rw [e1, e2] at h
    injection h with h1 h2
    injection h1 with _ h1
    rw [flat_encU_inj h2, Int.ofNat.inj h1]

end Go.Proofs.YtkedgombccdamaaDoor
namespace Go.Proofs.YtkedgombccdamaaDoor
open Go.RowKit
set_option linter.unusedVariables false
set_option linter.unusedSimpArgs false

structure GoInv (E : List Edg) (N : Nat) (b e : Bool) (x y : Nat) (L : List Nat) : Prop where
  sub : ∀ i, x.testBit i = true → y.testBit i = true
  bel : below y N
  rch : ∀ i, y.testBit i = true → Reach E b e x i
  inL : ∀ n ∈ L, y.testBit n = true
  cls : ∀ d ∈ E, may b e d = true → y.testBit d.fr.toNat = true → d.fr.toNat ∉ L → y.testBit d.tt.toNat = true
  cnt : L.length ≤ (bitsTo y N).length
/-- while the edges of state n are gone through, j of them are behind -/
structure GoIn (E : List Edg) (N : Nat) (b e : Bool) (x M n j y : Nat) (L : List Nat) : Prop where
  sub : ∀ i, x.testBit i = true → y.testBit i = true
  bel : below y N
  rch : ∀ i, y.testBit i = true → Reach E b e x i
  inL : ∀ n ∈ L, y.testBit n = true
  cls : ∀ d ∈ E, may b e d = true → y.testBit d.fr.toNat = true → d.fr.toNat ∉ L → d.fr.toNat ≠ n → y.testBit d.tt.toNat = true
  gone : ∀ d ∈ (edgesAt E n).take j, may b e d = true → y.testBit d.tt.toNat = true
  cur : y.testBit n = true
  cnt : L.length + 1 ≤ (bitsTo y N).length
  mu : 2 * (N - (bitsTo y N).length) + L.length < M
theorem GoInv.start {E : List Edg} {N x : Nat} {b e : Bool} (hx : below x N) : GoInv E N b e x x (bitsTo x N) :=
  ⟨fun _ h => h, hx, fun _ h => .base h, fun n hn => ((mem_bitsTo _ _ _).1 hn).2, fun d _ _ h1 h2 => (h2 ((mem_bitsTo _ _ _).2 ⟨hx _ h1, h1⟩)).elim, Nat.le_refl _⟩
theorem GoInv.end_ {E : List Edg} {N x y : Nat} {b e : Bool} (hE : ∀ d ∈ E, 0 ≤ d.tt ∧ d.tt < N) (hx : below x N) (h : GoInv E N b e x y []) : y = spreadN E N b e x :=
  spread_is hE hx h.sub (fun d hd hm h1 => h.cls d hd hm h1 (by simp)) h.rch
theorem GoInv.pop {E : List Edg} {N x y : Nat} {b e : Bool} {L : List Nat} {n : Nat} (h : GoInv E N b e x y (L ++ [n])) : GoIn E N b e x (2 * (N - (bitsTo y N).length) + (L.length + 1)) n 0 y L :=
  ⟨h.sub, h.bel, h.rch, fun m hm => h.inL m (by simp [hm]), fun d hd hm h1 h2 h3 => h.cls d hd hm h1 (by simp [h2, h3]), by simp, h.inL n (by simp), by have := h.cnt; simpa using this, by omega⟩
theorem GoIn.finish {E : List Edg} {N x M n j y : Nat} {b e : Bool} {L : List Nat} (hE : ∀ d ∈ E, 0 ≤ d.fr ∧ d.fr < N) (h : GoIn E N b e x M n j y L) (hj : (edgesAt E n).length ≤ j) : GoInv E N b e x y L :=
  ⟨h.sub, h.bel, h.rch, h.inL, fun d hd hm h1 h2 => by
    by_cases e1 : d.fr.toNat = n
    · refine h.gone d ?_ hm
      rw [List.take_of_length_le hj, mem_edgesAt]
      have := hE d hd
      exact ⟨hd, by omega⟩
    · exact h.cls d hd hm h1 h2 e1, by have := h.cnt; omega⟩
theorem GoIn.skip {E : List Edg} {N x M n j y : Nat} {b e : Bool} {L : List Nat} (h : GoIn E N b e x M n j y L) (hj : j < (edgesAt E n).length) (hd : may b e (edgesAt E n)[j] = true → y.testBit ((edgesAt E n)[j]).tt.toNat = true) : GoIn E N b e x M n (j + 1) y L :=
  ⟨h.sub, h.bel, h.rch, h.inL, h.cls, fun d hd2 hm => by
    rw [List.take_succ_eq_append_getElem hj, List.mem_append, List.mem_singleton] at hd2
    rcases hd2 with hd2 | rfl
    · exact h.gone d hd2 hm
    · exact hd hm, h.cur, h.cnt, h.mu⟩
theorem GoIn.add {E : List Edg} {N x M n j y : Nat} {b e : Bool} {L : List Nat} (hE : ∀ d ∈ E, 0 ≤ d.tt ∧ d.tt < N) (h : GoIn E N b e x M n j y L) (hj : j < (edgesAt E n).length) (hm : may b e (edgesAt E n)[j] = true) (hn : y.testBit ((edgesAt E n)[j]).tt.toNat = false) :
    GoIn E N b e x M n (j + 1) (y ||| 2 ^ ((edgesAt E n)[j]).tt.toNat) (L ++ [((edgesAt E n)[j]).tt.toNat]) := by
  have hmem := List.getElem_mem hj
  rw [mem_edgesAt] at hmem
  obtain ⟨d, hd⟩ : ∃ d, d = (edgesAt E n)[j] := ⟨_, rfl⟩
  rw [← hd] at hm hn hmem ⊢
  have htt := hE d hmem.1
  have htN : d.tt.toNat < N := by omega
  have hadd := bits_add htN hn
  have hlen := bitsTo_length (y ||| 2 ^ d.tt.toNat) N
  have up : ∀ i, y.testBit i = true → (y ||| 2 ^ d.tt.toNat).testBit i = true := fun i hi => by rw [testBit_or_pow, hi]; rfl
  refine ⟨fun i hi => up i (h.sub i hi), below_or h.bel (below_pow htN), fun i hi => ?_, fun m hm2 => ?_, fun d2 hd2 hm2 h1 h2 h3 => ?_, fun d2 hd2 hm2 => ?_, up n h.cur, ?_, ?_⟩
  · rw [testBit_or_pow, Bool.or_eq_true, decide_eq_true_eq] at hi
    rcases hi with hi | rfl
    · exact h.rch i hi
    · refine .step hmem.1 hm ?_
      rw [hmem.2]
      exact h.rch n h.cur
  · rw [List.mem_append, List.mem_singleton] at hm2
    rcases hm2 with hm2 | rfl
    · exact up m (h.inL m hm2)
    · rw [testBit_or_pow]; simp
  · rw [testBit_or_pow, Bool.or_eq_true, decide_eq_true_eq] at h1
    rw [List.mem_append, List.mem_singleton, not_or] at h2
    rcases h1 with h1 | h1
    · exact up _ (h.cls d2 hd2 hm2 h1 h2.1 h3)
    · exact (h2.2 h1.symm).elim
  · rw [List.take_succ_eq_append_getElem hj, List.mem_append, List.mem_singleton] at hd2
    rcases hd2 with hd2 | hd2
    · exact up _ (h.gone d2 hd2 hm2)
    · rw [hd2, ← hd, testBit_or_pow]; simp
  · have := h.cnt
    rw [List.length_append, hadd]
    simp only [List.length_singleton]
    omega
  · have := h.mu
    rw [hadd] at hlen ⊢
    rw [List.length_append]
    simp only [List.length_singleton]
    omega

section
open Classical
/-- what is left to do, read off the world -/
noncomputable def goLeft (N base g c : Nat) (w wr : World) : Nat :=
  if h : ∃ p : Nat × Nat, (∃ A k, Blk wr w.heap.size 67 #[.slice A p.2 k]) ∧ Own wr base 50 1 encU (.slice (some ⟨g, 0, none⟩) (wordsFor N) c) (wordsN p.1 (wordsFor N)) ∧ below p.1 N then 2 * (N - (bitsTo (Classical.choose h).1 N).length) + (Classical.choose h).2 else 0
end
theorem goLeft_eq {N base g c n y k : Nat} {w wr : World} {A : Option Addr} (h1 : Blk wr w.heap.size 67 #[.slice A n k]) (h2 : Own wr base 50 1 encU (.slice (some ⟨g, 0, none⟩) (wordsFor N) c) (wordsN y (wordsFor N))) (h3 : below y N) :
    goLeft N base g c w wr = 2 * (N - (bitsTo y N).length) + n := by
  have hex : ∃ p : Nat × Nat, (∃ A k, Blk wr w.heap.size 67 #[.slice A p.2 k]) ∧ Own wr base 50 1 encU (.slice (some ⟨g, 0, none⟩) (wordsFor N) c) (wordsN p.1 (wordsFor N)) ∧ below p.1 N := ⟨(y, n), ⟨A, k, h1⟩, h2, h3⟩
  unfold goLeft
  rw [dif_pos hex]
  obtain ⟨⟨A', k', e1⟩, e2, e3⟩ := Classical.choose_spec hex
  have ey : (Classical.choose hex).1 = y := wordsN_inj (Nat.lt_of_lt_of_le (below_lt e3) (Nat.pow_le_pow_right (by decide) (words_room N))) (Nat.lt_of_lt_of_le (below_lt h3) (Nat.pow_le_pow_right (by decide) (words_room N))) (flat_encU_inj (own_same e2 h2))
  have en : (Classical.choose hex).2 = n := by
    have h4 := Eq.trans (Eq.symm e1) h1
    simp at h4
    exact h4.2.1
  rw [ey, en]

end Go.Proofs.YtkedgombccdamaaDoor
namespace Go.Proofs.YtkedgombccdamaaDoor
open Go.RowKit Go.Shelf Go.Maps
set_option linter.unusedVariables false
set_option linter.unusedSimpArgs false
attribute [local go_sem] Oper.semAt_some

/-- what the boxes of goes hold while the set is gone through -/
def goI (nb gm N : Nat) (E : List Edg) (R : List Nat) (base g c y : Nat) (w : World) (L : List Nat) (W : World) : Prop :=
  ∃ v, Blk W w.heap.size 67 #[v] ∧ Own W (w.heap.size + 1) 3 1 encN v L ∧ Own W base 50 1 encU (.slice (some ⟨g, 0, none⟩) (wordsFor N) c) (wordsN y (wordsFor N)) ∧ MachOk nb W gm N E R ∧ TabOk W ∧ w.grownBy W (some g) ∧ w.heap.size < W.heap.size
theorem goI_from (nb gm N : Nat) (E : List Edg) (R : List Nat) (base g c y : Nat) (w W5 : World) (hp : 0 < nb) (hn : nb ≤ W5.heap.size) (hw : w.heap.size ≤ W5.heap.size) : OwnFrom W5.heap.size (goI nb gm N E R base g c y w) := by
  rintro L W W' row ⟨v, h1, h2, h3, h4, h5, h6, h7⟩ hg hr
  refine ⟨v, blk_turn' h1 hg hr, s_own_turn h2 hg hr, s_own_turn h3 hg hr, mach_turn h4 hg hr hn, fun i hi => (World.cell?_of_block (w := W) (hg.block 0 (by omega) (fun e => by have := (hr 0 e.symm).1; omega))).trans (h5 i hi), ?_, Nat.lt_of_lt_of_le h7 hg.size⟩
  exact ⟨hg.os.trans h6.os, hg.tape.trans h6.tape, hg.output.trans h6.output, Nat.le_trans h6.size hg.size, fun k hk hne => (hg.block k (Nat.lt_of_lt_of_le hk h6.size) (fun e => by have := (hr k e.symm).1; omega)).trans (h6.block k hk hne)⟩
theorem grown_more {w W W' : World} {g : Nat} {row : Option Nat} (h : w.grownBy W (some g)) (hg : W.grownBy W' row) (hr : ∀ r, row = some r → w.heap.size ≤ r) : w.grownBy W' (some g) :=
  ⟨hg.os.trans h.os, hg.tape.trans h.tape, hg.output.trans h.output, Nat.le_trans h.size hg.size, fun k hk hne => (hg.block k (Nat.lt_of_lt_of_le hk h.size) (fun e => by have := hr k e.symm; omega)).trans (h.block k hk hne)⟩
theorem wl_vmap_to {ops : Array Oper} {rest : List Oper} {o : Oper} {a : Act} {Q : Exit → Act → World → Prop} {w : World} {b n : Nat} {mf : Int → Option Value} (h : ValMap w b n mf) (v : Value) (y : Int) (hv : (mf y).getD (.slice none 0 0) = v) (hg : o.guard = none) (m x : Operand) (hop : o.op = Op.lookup 144 m x false) (hm : a.eval m = .map (some b)) (hy : (Lit.int .i64 y).wf = true) (hx : a.eval x = .int .i64 y)
    (hK : wpList Tryd.prog ops Q rest (a.put o.dst v) w) : wpList Tryd.prog ops Q (o :: rest) a w :=
  wl_vmap_at h hg m x hop hm y hy hx (hv ▸ hK)
theorem deferred_then {W W' : World} {D : Nat} {x : Option (List Deferred)} (h : W.heap[D]? = some (.deferred x)) (hb : Below W.heap.size W W') : W'.heap[D]? = some (.deferred x) :=
  (hb.block D (Array.getElem?_eq_some_iff.1 h).1).trans h
theorem deferred_blk {W W' : World} {D r : Nat} {x : Option (List Deferred)} {t : TypeId} {cs : Array Value} (h : W.heap[D]? = some (.deferred x)) (hb : Blk W r t cs) (hg : W.grownBy W' (some r)) : W'.heap[D]? = some (.deferred x) :=
  (hg.block D (Array.getElem?_eq_some_iff.1 h).1 (fun e => by
    injection e with e
    subst e
    unfold Blk at hb
    rw [h] at hb
    injection hb with hb
    cases hb)).trans h
theorem deferred_own {W W' : World} {D base size : Nat} {x : Option (List Deferred)} {e : TypeId} {α : Type} {enc : α → Array Value} {v : Value} {ys : List α} (h : W.heap[D]? = some (.deferred x)) (ho : Own W base e size enc v ys) (hg : W.grownBy W' v.ownBlock) : W'.heap[D]? = some (.deferred x) :=
  (hg.block D (Array.getElem?_eq_some_iff.1 h).1 (fun e => by
    rcases ho.2 with ⟨hv, _⟩ | ⟨g', cap, cur, hv, _, hh, _⟩
    · rw [hv] at e; cases e
    · rw [hv] at e
      have a1 : D = g' := by simpa [Value.ownBlock] using e
      subst a1
      rw [h] at hh
      injection hh with hh
      cases hh)).trans h
set_option maxRecDepth 100000 in
set_option maxHeartbeats 4000000 in
theorem goes_any (nb gm N : Nat) (E : List Edg) (R : List Nat) (base g c x : Nat) (beg en : Bool) (hx : below x N) (w : World) (hM : MachOk nb w gm N E R) (hs : Own w base 50 1 encU (.slice (some ⟨g, 0, none⟩) (wordsFor N) c) (wordsN x (wordsFor N))) (hnb : nb ≤ base) (hT : TabOk w) :
    Calls Tryd.prog 76 #[.pointer (some ⟨gm, 0, none⟩), .slice (some ⟨g, 0, none⟩) (wordsFor N) c, .bool beg, .bool en] w fun e w' => e = .returned (.tuple #[]) ∧ Own w' base 50 1 encU (.slice (some ⟨g, 0, none⟩) (wordsFor N) c) (wordsN (spreadN E N beg en x) (wordsFor N)) ∧ w.grownBy w' (some g) := by
  refine (callsIn_wide (n := 6)).1 ?_
  refine callsIn_of_wp_marks Tryd.func76 rfl trivial ?_ rfl
  simp only [Tryd.ntmps76, List.size_toArray, List.length_cons, List.length_nil, Nat.reduceAdd, Nat.reduceSub, Array.replicate_succ, Array.replicate_zero, List.push_toArray, List.append_toArray, List.nil_append, List.cons_append]
  have hgb : base ≤ g ∧ g < w.heap.size := hs.lt g rfl
  gi_wp2_with (refine ⟨trivial, ?_⟩; gi_at_call 74; refine (callsIn_wide.2 (each_any _ _ _ _)).mono ?_; rintro e w5 ⟨rfl, rfl⟩)
  have e8 := (Blk.new w 67 #[.slice none 0 0]).alloc (.cells #[.slice (some ⟨g, 0, none⟩) (wordsFor N) c] 147)
  have ex := Blk.new' (n := w.heap.size + 1) (w.alloc (.cells #[.slice none 0 0] 67)) 147 #[.slice (some ⟨g, 0, none⟩) (wordsFor N) c] (by simp)
  have hB := below_alloc (below_alloc (Below.refl w.heap.size w) (.cells #[.slice none 0 0] 67)) (.cells #[.slice (some ⟨g, 0, none⟩) (wordsFor N) c] 147)
  obtain ⟨W1, hW1⟩ : ∃ y, y = (w.alloc (.cells #[.slice none 0 0] 67)).alloc (.cells #[.slice (some ⟨g, 0, none⟩) (wordsFor N) c] 147) := ⟨_, rfl⟩
  rw [← hW1] at e8 ex hB ⊢
  clear hW1
  have hnb2 := hM.2.2.2.2.2.1
  have hnb0 := hM.2.2.2.2.1
  have hN := hM.2.1
  have hM1 := hM.below hB hnb2
  have hs1 := hs.then_ hB
  have hT1 := hT.then_ hT.size hB
  have hlW := ex.lt
  have hkb : wordsFor N ≤ 1099511627776 := by unfold wordsFor; omega
  have hx64 : below x (64 * wordsFor N) := fun i hi => Nat.lt_of_lt_of_le (hx i hi) (words_room N)
  have hrow : ∀ i (h : i < (wordsN x (wordsFor N)).length), RowAt W1 g (0 + i) (encU (wordsN x (wordsFor N))[i]) := fun i h => by
    have := hs1.row encU_size i h
    rw [Nat.mul_one] at this
    rw [Nat.zero_add]
    exact this
  have hgr1 : w.grownBy W1 (some g) := only_of_below hB (some g)
  refine wpIn_rangeFunc_ownF (n := 6) rfl (by decide) (gf := 90) (lb := #[.pointer (some ⟨w.heap.size + 1, 0, none⟩)]) rfl trivial (enters_of Tryd.func90 (by kernel_rfl) rfl)
    (each_stops x (wordsFor N) c g 0 5 (w.heap.size + 1) W1 hkb hx64 ex (by omega) hrow hT1) KpS.trans (fun W l o o' hl _ _ _ => ⟨World.putObj_heap_other (by omega), World.putObj_heap_other (by omega)⟩) (Below.refl _ _) (fun _ => rfl)
    (fun pre W => goI nb gm N E R base g c x w (numsI pre) W) (fun _ _ _ => False) (fun pre X Y row hs hg hr => goI_from nb gm N E R base g c x w W1 hnb0 (by omega) (by omega) (numsI pre) X Y row hs hg hr) (fun _ => fun _ _ _ _ hs _ _ => hs)
    ⟨_, e8, Own.nil_ _ _ _ _ _, hs1, hM1, hT1, hgr1, by omega⟩
    (fun r => { tmps := #[.pointer (some ⟨gm, 0, none⟩), .slice (some ⟨g, 0, none⟩) (wordsFor N) c, .bool beg, .bool en, undef, undef, undef, undef, .pointer (some ⟨w.heap.size, 0, none⟩), .int .i64 (r.1 : Int), undef, undef, undef, undef, .slice (some ⟨g, 0, none⟩) (wordsFor N) c, .func (.func 90) #[] #[.pointer (some ⟨w.heap.size + 1, 0, none⟩)], .int .i64 (r.1 : Int), undef, undef, undef, undef, undef, undef, undef, undef, undef, undef, undef, undef, undef, undef, undef, undef, undef, undef, undef, undef, undef, undef, undef, undef, undef, undef, undef, undef, undef, undef, undef, undef, undef, undef, undef, undef, undef, undef, undef, undef, undef, undef, undef, undef, undef, undef, undef, undef, undef, undef, undef, undef, undef, undef, undef, undef, undef, undef, undef, undef, undef, undef, undef, undef, undef, undef], defers := [] }) ?assign ?body ?done ?stop
  case assign =>
    intro l r W K hK
    unfold encI
    gi_wp2
    exact hK
  case body =>
    rintro l pre ⟨n, hn⟩ W ⟨v, h8, hL, hS, hMW, hTW, hgr, hlt⟩ hlen
    have hnN := hx n hn
    have hlen2 : (numsI pre).length ≤ 64 * wordsFor N := by rw [numsI_length]; omega
    have hwf : 64 * wordsFor N ≤ 1099511628000 := by unfold wordsFor; omega
    obtain ⟨L, hLe⟩ : ∃ L, L = numsI pre := ⟨_, rfl⟩
    rw [← hLe] at hL hlen2
    have HL := Lib.hid hLe
    clear hLe
    obtain ⟨A7, k7, rfl, _, _⟩ := hL.shape
    have c8 : W.cell? ⟨w.heap.size, 0, none⟩ = some (.slice A7 L.length k7) := h8.cellv rfl
    obtain ⟨i1, hi1, hy0, hy1, hy2⟩ := info_parts info_int3
    gi_upto_region 3 with (fail)
    refine region_in (by kernel_rfl) ?_
    go_wp2_with (at_builtin; refine park ?_)
    refine Parked.mk ?_
    have hone := slice_one (enc := encN) (size := 1) (y := n) (w := W.alloc (.cells #[.int .i64 (n : Int)] 3)) (g := W.heap.size) (t := 3) (Blk.new _ _ _)
    have hB7 : Below W.heap.size W (W.alloc (.cells #[.int .i64 (n : Int)] 3)) := below_alloc (Below.refl _ _) _
    have hL7 := hL.then_ hB7
    have h87 := blk_then h8 hB7
    have hS7 := hS.then_ hB7
    have hM7 := hMW.below hB7 (hMW.2.2.2.2.2.1)
    have hT7 := hTW.then_ hTW.size hB7
    have hsz7 := hB7.size
    refine wl_append _ rfl _ _ 67 rfl (w.heap.size + 1) 3 i1 _ 1 8 Tryd.underlying67 hi1 hy0 hy1 hy2 rfl (by decide) encN_size encN_one (.slice A7 _ k7) _ rfl hL7 _ _ 1 1 [n] rfl rfl hone (by unfold maxLen; omega) (by omega) (by omega) ?_
    intro v8 w8 hL8 hg8 hat8
    obtain ⟨A8, k8, rfl, _, _⟩ := hL8.shape
    simp only [Act.put, List.setIfInBounds_toArray, List.set_cons_zero, List.set_cons_succ]
    refine wl_store_cell rfl _ _ _ rfl _ _ rfl _ _ #[.slice A8 _ k8] (blk_own h87 hL7 hg8 (by omega)) (by simp) info_ints1 rfl rfl rfl ?_
    intro w9 h89 hg9
    refine wpList_nil ?_
    refine onlyN_normal ?_
    gi_wp2
    have hz8 := hg8.size
    have hlow8 : ∀ r, (Value.slice A7 L.length k7).ownBlock = some r → w.heap.size ≤ r := fun r e => by have := (hL7.lt r e).1; omega
    have hko : KeepsOthers W w9 := (KeepsOthers.of_grownBy (only_of_below hB7 none) (fun j o e _ => by cases e)).trans ((others_own hL7 hg8).trans (KeepsOthers.of_grownBy hg9 (fun j o e1 e2 => by injection e1 with e1; subst e1; exact cells_of_blk' (blk_own h87 hL7 hg8 (by omega)) e2)))
    have hne0 : ∀ k, k < w.heap.size → w9.heap[k]? = W.heap[k]? := fun k hk => (hg9.block k (by omega) (by simp; omega)).trans ((hg8.block k (by omega) (fun e => by have := hlow8 k e.symm; omega)).trans (hB7.block k (by omega)))
    refine ⟨hko, ⟨hne0 g (by omega), hne0 0 (by omega)⟩, _, h89, ?_, ?_, hMW.keep (fun k hk => hne0 k (by omega)) (by have := hg9.size; omega), fun i hi => (World.cell?_of_block (w := W) (hne0 0 (by omega))).trans (hTW i hi), grown_more (grown_more (grown_more hgr (only_of_below hB7 none) (fun r e => by cases e)) hg8 hlow8) hg9 (fun r e => by injection e with e; omega), by have := hg9.size; omega⟩
    · rw [numsI_snoc, ← HL.out]
      exact own_low hL8 hg9 (by omega)
    · exact own_box (own_own hS7 hL7 hg8 (by decide)) (blk_own h87 hL7 hg8 (by omega)) hg9 (by decide)
  case done =>
    rintro D xs W hD hxs hI hK
    rw [hxs, bits_all hx (words_room N)] at hI
    clear hxs xs
    gi_wp2
    gi_loopw [] (fun wr => ∃ y L, GoInv E N beg en x y L ∧ goI nb gm N E R base g c y w L wr ∧ wr.heap[D]? = some (Obj.deferred (some []))) (fun wr => goLeft N base g c w wr)
    case atStart => exact ⟨x, bitsTo x N, GoInv.start hx, hI, hK⟩
    case round =>
      clear hI hK
      obtain ⟨y, L, hG, ⟨v, h8, hL, hS, hMW, hTW, hgr, hlt⟩, hK⟩ := hrel
      obtain ⟨A7, k7, rfl, hk7, _⟩ := hL.shape
      rcases List.eq_nil_or_concat L with rfl | ⟨L, n, rfl⟩
      · have c8 : wr.cell? ⟨w.heap.size, 0, none⟩ = some (.slice A7 0 k7) := h8.cellv rfl
        gi_wp2
        refine ⟨by simp, .inl ⟨_, _, rfl, run_takeDeferred hK, ?_⟩⟩
        have hy := hG.end_ hM.1.tt hx
        subst hy
        have hg' := grownBy_putObj' wr D (.deferred none)
        refine ⟨_, results_none rfl _ _ _, rfl, hS.kept_ hg' (fun j e1 e2 => ?_), grown_more hgr hg' (fun r e => by injection e with e; omega)⟩
        have e3 : g = j := by simpa [Value.ownBlock] using e1
        injection e2 with e2
        omega
      · rw [List.concat_eq_append] at hG h8 hL hk7
        have hf : L.length + 1 = (L ++ [n]).length := by simp
        obtain ⟨gt, cap, hv, hgt1, hgt2, _⟩ := hL.form (by omega)
        injection hv with hA _ hcap
        subst hA; subst hcap
        have hrow : RowAt wr gt L.length (encN n) := by
          have := hL.row encN_size L.length (by omega)
          simpa only [Nat.mul_one, List.getElem_concat_length] using this
        have hpop := own_pop encN_size hL (by omega)
        rw [List.dropLast_concat] at hpop
        rw [← hf] at h8 hk7 hpop hL
        have hbn := hG.inL n (by simp)
        have hnN := hG.bel n hbn
        have hin := hG.pop
        obtain ⟨m, hm⟩ : ∃ m, m = L.length := ⟨_, rfl⟩
        rw [← hm] at h8 hk7 hpop hrow hin hL
        have c8 : wr.cell? ⟨w.heap.size, 0, none⟩ = some (.slice (some ⟨gt, 0, none⟩) (m + 1) k7) := h8.cellv rfl
        have ct : wr.cell? ⟨gt, m, none⟩ = some (.int .i64 (n : Int)) := hrow 0 _ rfl
        have hmI : (m : Int) ≤ k7 := by omega
        have hmb : m < 1099511628000 := by
          have h1 := hin.cnt
          have h2 := bitsTo_length y N
          omega
        rw [Nat.add_sub_cancel] at hpop
        have Hm := Lib.hid hm
        clear hm hf hrow
        have f8 := h8.frozen 0
        gi_upto_region 7 with (fail)
        obtain ⟨w2, hw2⟩ : ∃ z, z = wr.setCell ⟨w.heap.size, 0, none⟩ (.slice (some ⟨gt, 0, none⟩) m k7) := ⟨_, rfl⟩
        have h82 : Blk w2 w.heap.size 67 #[.slice (some ⟨gt, 0, none⟩) m k7] := by rw [hw2]; exact h8.set_eq rfl
        have hg2 : wr.grownBy w2 (some w.heap.size) := by rw [hw2]; exact only_setCell (only_refl _ _) (.inl rfl) _
        rw [← hw2]
        clear hw2 f8 c8 ct
        have hmu := goLeft_eq h8 hS hG.bel
        have hgE := hM.1
        have I2 : goI nb gm N E R base g c y w L w2 := ⟨_, h82, own_low hpop hg2 (by omega), own_box hS h8 hg2 (by decide), hMW.grown hg2 (by omega), fun i hi => (World.cell?_of_block (w := wr) (hg2.block 0 (by omega) (by simp; omega))).trans (hTW i hi), grown_more hgr hg2 (fun r e => by injection e with e; omega), by have := hg2.size; omega⟩
        have hK2 := deferred_blk hK h8 hg2
        clear h82 hg2 hpop hL hS hMW hTW hgr h8 hK hG
        obtain ⟨v2, h82, hL2, hS2, hM2, hT2, hgr2, hlt2⟩ := id I2
        obtain ⟨_, _, _, _, _, _, hgm, bm, nm, B, mR, dR, mf, hbm, hbl, _, _, hvm, hed⟩ := id hM2
        obtain ⟨A, l, cA, hmf, rfl, hAs⟩ := hed n hnN
        have cm : w2.cell? ⟨gm, 1, none⟩ = some (.map (some bm)) := hbl.cellv rfl
        have hEl : (edgesAt E n).length ≤ 1099511627776 := Nat.le_trans (List.length_filter_le _ _) hM2.2.2.1
        refine wpIn_wide.2 ?_
        go_wp2_with (at_lookup; refine wl_vmap_to hvm _ _ hmf rfl _ _ rfl rfl (wf_of_nat (by omega)) rfl ?_)
        clear cm
        obtain ⟨M, hMd⟩ : ∃ M, M = 2 * (N - (bitsTo y N).length) + (m + 1) := ⟨_, rfl⟩
        rw [← hMd] at hin hmu
        clear hMd hvm hmf hbl h82 hL2 hS2 hM2 hT2 hgr2 hlt2 hed
        gi_wp2
        gi_loopw [42] (fun i wi => ∃ j z L, j ≤ (edgesAt E n).length ∧ i = .int .i64 j ∧ GoIn E N beg en x M n j z L ∧ goI nb gm N E R base g c z w L wi ∧ (∀ k, k < nb → wi.heap[k]? = w2.heap[k]?) ∧ wi.heap[D]? = some (Obj.deferred (some []))) (fun i _ => (edgesAt E n).length - (intOf i).toNat)
        case atStart => exact ⟨0, y, L, by omega, rfl, hin, I2, fun _ _ => rfl, hK2⟩
        case round =>
          clear hin I2 hK2 Hm hbn hnN hmI hmb hk7 hgt1 hgt2
          obtain ⟨j, z, L, hj, rfl, hG, ⟨v8, h8, hL, hS, hMW, hTW, hgr, hlt⟩, hkeep, hK⟩ := hrel
          by_cases hjl : j < (edgesAt E n).length
          · have hjI : (j : Int) < ((edgesAt E n).length : Nat) := by omega
            obtain ⟨b, off, rfl, hb, hrows⟩ := hAs.at_ (by omega)
            have hr := (hrows j hjl).keep (hkeep b hb)
            obtain ⟨dd, hd⟩ : ∃ d, d = (edgesAt E n)[j] := ⟨_, rfl⟩
            rw [← hd] at hr
            have Hd := Lib.hid hd
            clear hd
            have hjb : j < 1099511628000 := by omega
            gi_upto_region 9 with (fail)
            refine wpIn_wide.2 ?_
            go_wp2_with (first | (refine wl_load_edge_at rfl _ rfl _ _ rfl _ hr ?_) | (refine wl_store_edge rfl _ _ rfl _ _ rfl rfl edge0 (Blk.new _ _ _) ?_; intro w3 h12 hg3))
            have hB3 := below_grown (below_alloc (Below.refl _ wr) (.cells #[.int .i64 0, .int .i64 0, .int .i64 0, .int .u64 0, .int .u64 0, .int .u64 0, .int .u64 0] 76)) hg3 (Nat.le_refl _)
            obtain ⟨k1, hk1⟩ : ∃ k, (dd.kd == 1) = k := ⟨_, rfl⟩
            obtain ⟨k3, hk3⟩ : ∃ k, (dd.kd == 3) = k := ⟨_, rfl⟩
            obtain ⟨k4, hk4⟩ : ∃ k, (dd.kd == 4) = k := ⟨_, rfl⟩
            have hmay : may beg en dd = ((k1 || (beg && k3)) || (en && k4)) := by unfold may; rw [hk1, hk3, hk4]
            gi_upto_region 10 with (fail)
            refine wpIn_wide.2 ?_
            refine wp_region_text 20 [eqS (.pointer (some ⟨wr.heap.size, 0, none⟩)), eqS (.int .i64 dd.kd), eqS (.bool k1), eqS (.bool k1), eqS (vF (!k1) (.bool beg)), eqS (vF (!k1) (.bool beg)), eqS (vF (!k1 && beg) (.pointer (some ⟨wr.heap.size, 0, none⟩))), eqS (vF (!k1 && beg) (.int .i64 dd.kd)), eqS (vF (!k1 && beg) (.bool k3)), eqS (vF (!k1) (.bool (beg && k3))), eqS (.bool (k1 || (beg && k3))), eqS (.bool (k1 || (beg && k3))), eqS (vF (!(k1 || (beg && k3))) (.bool en)), eqS (vF (!(k1 || (beg && k3))) (.bool en)), eqS (vF (!(k1 || (beg && k3)) && en) (.pointer (some ⟨wr.heap.size, 0, none⟩))), eqS (vF (!(k1 || (beg && k3)) && en) (.int .i64 dd.kd)), eqS (vF (!(k1 || (beg && k3)) && en) (.bool k4)), eqS (vF (!(k1 || (beg && k3))) (.bool (en && k4))), eqS (.bool ((k1 || (beg && k3)) || (en && k4))), eqS (.bool ((k1 || (beg && k3)) || (en && k4)))] [46, 47, 48, 49, 50, 51, 52, 53, 54, 55, 56, 57, 58, 59, 60, 61, 62, 63, 64, 13] (by kernel_rfl) rfl ?_ ?_
            · skip
              refine Steps.cons (fun a' w' hG hB dep => gs_field (want_none rfl) _ _ _ rfl wr.heap.size 0 0 (hG.other 12 rfl) (field_edge_0 _ _) rfl) ?_
              refine Steps.cons (fun a' w' hG hB dep => gs_load1 (want_none rfl) _ _ rfl wr.heap.size 0 (dep 0 rfl 46 rfl) (.int .i64 dd.kd) ((blk_then h12 hB).cellv (i := 0) rfl) _ Tryd.underlying3 rfl rfl) ?_
              refine Steps.cons (fun a' w' hG hB dep => gs_eql_int (want_none rfl) _ _ _ _ rfl _ _ _ (dep 1 rfl 47 rfl) rfl (congrArg Value.bool hk1)) ?_
              refine Steps.cons (fun a' w' hG hB dep => gs_move (want_none rfl) _ rfl (dep 2 rfl 48 rfl)) ?_
              refine Steps.cons (fun a' w' hG hB dep => gs_guard (c := true) rfl rfl (dep 3 rfl 49 rfl) (fun _ e hw => gs_move hw _ rfl (Eq.trans (hG.other 2 rfl) (vF_yes (on_not e) _).symm)) (fun e => vF_no (off_not e) _)) ?_
              refine Steps.cons (fun a' w' hG hB dep => gs_guard (c := true) rfl rfl (dep 3 rfl 49 rfl) (fun _ e hw => gs_move hw _ rfl (dep 4 rfl 50 rfl)) (fun e => vF_no (off_not e) _)) ?_
              refine Steps.cons (fun a' w' hG hB dep => gs_guard (c := !k1) rfl rfl (dep 5 rfl 51 rfl) (fun c e hw => gs_field hw _ _ _ rfl wr.heap.size 0 0 (hG.other 12 rfl) (field_edge_0 _ _) (vF_and c e _).symm) (fun e => vF_no (off_and e) _)) ?_
              refine Steps.cons (fun a' w' hG hB dep => gs_guard (c := !k1) rfl rfl (dep 5 rfl 51 rfl) (fun c e hw => gs_load1 hw _ _ rfl wr.heap.size 0 (Eq.trans (dep 6 rfl 52 rfl) (vF_and c e _)) (.int .i64 dd.kd) ((blk_then h12 hB).cellv (i := 0) rfl) _ Tryd.underlying3 rfl (vF_and c e _).symm) (fun e => vF_no (off_and e) _)) ?_
              refine Steps.cons (fun a' w' hG hB dep => gs_guard (c := !k1) rfl rfl (dep 5 rfl 51 rfl) (fun c e hw => gs_eql_int hw _ _ _ _ rfl _ _ _ (Eq.trans (dep 7 rfl 53 rfl) (vF_and c e _)) rfl ((congrArg Value.bool hk3).trans (vF_and c e _).symm)) (fun e => vF_no (off_and e) _)) ?_
              refine Steps.cons (fun a' w' hG hB dep => gs_guard (c := true) rfl rfl (dep 3 rfl 49 rfl) (fun _ e hw => gs_pick hw _ _ _ rfl beg (Eq.trans (dep 5 rfl 51 rfl) (vF_yes (on_not e) _)) ((pick_and ((dep 8 rfl 54 rfl).trans (congrArg (fun q => vF (q && beg) (.bool k3)) (on_not e)))).trans (vF_yes (on_not e) _).symm)) (fun e => vF_no (off_not e) _)) ?_
              refine Steps.cons (fun a' w' hG hB dep => gs_pick (want_none rfl) _ _ _ rfl k1 (dep 3 rfl 49 rfl) (pick_or (dep 9 rfl 55 rfl))) ?_
              refine Steps.cons (fun a' w' hG hB dep => gs_move (want_none rfl) _ rfl (dep 10 rfl 56 rfl)) ?_
              refine Steps.cons (fun a' w' hG hB dep => gs_guard (c := true) rfl rfl (dep 11 rfl 57 rfl) (fun _ e hw => gs_move hw _ rfl (Eq.trans (hG.other 3 rfl) (vF_yes (on_not e) _).symm)) (fun e => vF_no (off_not e) _)) ?_
              refine Steps.cons (fun a' w' hG hB dep => gs_guard (c := true) rfl rfl (dep 11 rfl 57 rfl) (fun _ e hw => gs_move hw _ rfl (dep 12 rfl 58 rfl)) (fun e => vF_no (off_not e) _)) ?_
              refine Steps.cons (fun a' w' hG hB dep => gs_guard (c := !(k1 || (beg && k3))) rfl rfl (dep 13 rfl 59 rfl) (fun c e hw => gs_field hw _ _ _ rfl wr.heap.size 0 0 (hG.other 12 rfl) (field_edge_0 _ _) (vF_and c e _).symm) (fun e => vF_no (off_and e) _)) ?_
              refine Steps.cons (fun a' w' hG hB dep => gs_guard (c := !(k1 || (beg && k3))) rfl rfl (dep 13 rfl 59 rfl) (fun c e hw => gs_load1 hw _ _ rfl wr.heap.size 0 (Eq.trans (dep 14 rfl 60 rfl) (vF_and c e _)) (.int .i64 dd.kd) ((blk_then h12 hB).cellv (i := 0) rfl) _ Tryd.underlying3 rfl (vF_and c e _).symm) (fun e => vF_no (off_and e) _)) ?_
              refine Steps.cons (fun a' w' hG hB dep => gs_guard (c := !(k1 || (beg && k3))) rfl rfl (dep 13 rfl 59 rfl) (fun c e hw => gs_eql_int hw _ _ _ _ rfl _ _ _ (Eq.trans (dep 15 rfl 61 rfl) (vF_and c e _)) rfl ((congrArg Value.bool hk4).trans (vF_and c e _).symm)) (fun e => vF_no (off_and e) _)) ?_
              refine Steps.cons (fun a' w' hG hB dep => gs_guard (c := true) rfl rfl (dep 11 rfl 57 rfl) (fun _ e hw => gs_pick hw _ _ _ rfl en (Eq.trans (dep 13 rfl 59 rfl) (vF_yes (on_not e) _)) ((pick_and ((dep 16 rfl 62 rfl).trans (congrArg (fun q => vF (q && en) (.bool k4)) (on_not e)))).trans (vF_yes (on_not e) _).symm)) (fun e => vF_no (off_not e) _)) ?_
              refine Steps.cons (fun a' w' hG hB dep => gs_pick (want_none rfl) _ _ _ rfl (k1 || (beg && k3)) (dep 11 rfl 57 rfl) (pick_or (dep 17 rfl 63 rfl))) ?_
              refine Steps.cons (fun a' w' hG hB dep => gs_assign (want_none rfl) _ rfl (dep 18 rfl 64 rfl)) ?_
              exact Steps.nil
            clear hk1 hk3 hk4
            rw [← hmay]
            intro u W4 hB4 ans
            have u13 : u 13 = .bool (may beg en dd) := (ans 19 13 (by decide) rfl)
            clear ans hmay
            obtain ⟨f, hmay⟩ : ∃ f, may beg en dd = f := ⟨_, rfl⟩
            rw [hmay] at u13
            simp only [putAll, List.foldl_cons, List.foldl_nil, Act.put, List.setIfInBounds_toArray, List.set_cons_zero, List.set_cons_succ, u13]
            clear u13
            simp only [List.drop]
            refine wpList_nil ?_
            have hB4 := below_then hB3 hB4
            have h12 := blk_then h12 (‹Below w3.heap.size w3 W4›)
            have hmem := List.getElem_mem hjl
            rw [mem_edgesAt, ← Hd.out] at hmem
            have htt := hgE.tt dd hmem.1
            obtain ⟨t, ht⟩ : ∃ t : Nat, dd.tt = (t : Int) := ⟨dd.tt.toNat, by omega⟩
            have htn : dd.tt.toNat = t := by omega
            have c2 : W4.cell? ⟨wr.heap.size, 2, none⟩ = some (.int .i64 (t : Int)) := by rw [← ht]; exact h12.cellv (i := 2) rfl
            have I4 : goI nb gm N E R base g c z w L W4 := ⟨v8, blk_then h8 hB4, hL.then_ hB4, hS.then_ hB4, hMW.below hB4 hMW.2.2.2.2.2.1, hTW.then_ hTW.size hB4, grown_more hgr (only_of_below hB4 none) (fun r e => by cases e), Nat.lt_of_lt_of_le hlt hB4.size⟩
            have hK4 := deferred_then hK hB4
            have hkeep4 : ∀ k, k < nb → W4.heap[k]? = w2.heap[k]? := fun k hk => (hB4.block k (by have := hMW.2.2.2.2.2.1; omega)).trans (hkeep k hk)
            have htN : t < 64 * wordsFor N := by have := words_room N; omega
            have hlr := hlt
            clear hB3 hg3 h8 hL hS hMW hTW hgr hlt hK hkeep hr
            cases f
            · gi_upto_region 11 with (fail)
              refine wpIn_wide.2 ?_
              go_wp2_with (fail)
              gi_wp2
              exact ⟨⟨j + 1, z, L, by omega, rfl, hG.skip hjl (by rw [← Hd.out, hmay]; exact fun h => (Bool.false_ne_true h).elim), I4, hkeep4, hK4⟩, by simp only [intOf]; omega⟩
            · obtain ⟨v8, h8, hL, hS, hMW, hTW, hgr, hlt⟩ := I4
              gi_upto_region 11 with (fail)
              refine wpIn_wide.2 ?_
              have hhas := shas_any _ _ c z t htN hkb _ _ (hS.slice_all encU_size)
              cases hzt : z.testBit t
              · rw [hzt] at hhas
                go_wp2_with (go_at_call 92; refine hhas.mono ?_; rintro e w5 ⟨rfl, rfl⟩)
                clear hhas
                gi_upto_region 12 with (fail)
                refine wpIn_wide.2 ?_
                go_wp2_with (go_at_call 75; refine (sadd_any g (wordsFor N) c z t base htN hkb _ hS).mono ?_; rintro e w6 ⟨rfl, hS6, hg6⟩)
                replace h12 := blk_grown h12 hg6 (by omega)
                replace h8 := blk_grown h8 hg6 (by omega)
                replace hL := own_low hL hg6 (by omega)
                replace hMW := hMW.grown hg6 (by omega)
                replace hTW : TabOk w6 := fun i hi => (World.cell?_of_block (hg6.block 0 (by omega) (by simp; omega))).trans (hTW i hi)
                replace hgr := hgr.trans hg6
                replace hK4 := deferred_own hK4 hS hg6
                replace hkeep4 : ∀ k, k < nb → w6.heap[k]? = w2.heap[k]? := fun k hk => (hg6.block k (by omega) (by simp; omega)).trans (hkeep4 k hk)
                replace c2 : w6.cell? ⟨wr.heap.size, 2, none⟩ = some (.int .i64 (t : Int)) := by rw [← ht]; exact h12.cellv (i := 2) rfl
                have hlt6 := Nat.lt_of_lt_of_le hlt hg6.size
                clear hS hlt hg6
                have hLN : L.length + 1 ≤ N := by
                  have h1 := hG.cnt
                  have h2 := bitsTo_length z N
                  omega
                have hGa := hG.add (fun d hd => hgE.tt d hd) hjl (by rw [← Hd.out]; exact hmay) (by rw [← Hd.out, htn]; exact hzt)
                rw [← Hd.out, htn] at hGa
                obtain ⟨A7, k7', rfl, _, _⟩ := hL.shape
                have c8 : w6.cell? ⟨w.heap.size, 0, none⟩ = some (.slice A7 L.length k7') := h8.cellv rfl
                obtain ⟨i1, hi1, hy0, hy1, hy2⟩ := info_parts info_int3
                gi_upto_region 13 with (fail)
                refine wpIn_wide.2 ?_
                go_wp2_with (at_builtin; refine park ?_)
                refine Parked.mk ?_
                have hone := slice_one (enc := encN) (size := 1) (y := t) (w := w6.alloc (.cells #[.int .i64 (t : Int)] 3)) (g := w6.heap.size) (t := 3) (Blk.new _ _ _)
                have hB7 : Below w6.heap.size w6 (w6.alloc (.cells #[.int .i64 (t : Int)] 3)) := below_alloc (Below.refl _ _) _
                have hL7 := hL.then_ hB7
                have h87 := blk_then h8 hB7
                have hsz7 := hB7.size
                refine wl_append _ rfl _ _ 67 rfl (w.heap.size + 1) 3 i1 _ 1 8 Tryd.underlying67 hi1 hy0 hy1 hy2 rfl (by decide) encN_size encN_one (.slice A7 _ k7') _ rfl hL7 _ _ 1 1 [t] rfl rfl hone (by unfold maxLen; omega) (by omega) (by omega) ?_
                intro v9 w8 hL8 hg8 hat8
                obtain ⟨A8, k8, rfl, _, _⟩ := hL8.shape
                simp only [Act.put, List.setIfInBounds_toArray, List.set_cons_zero, List.set_cons_succ]
                refine wl_store_cell rfl _ _ _ rfl _ _ rfl _ _ #[.slice A8 _ k8] (blk_own h87 hL7 hg8 (by omega)) (by simp) info_ints1 rfl rfl rfl ?_
                intro w9 h89 hg9
                refine wpList_nil ?_
                have hz8 := hg8.size
                have hz9 := hg9.size
                have hlow8 : ∀ r, (Value.slice A7 L.length k7').ownBlock = some r → w.heap.size ≤ r := fun r e => by have := (hL7.lt r e).1; omega
                have hne0 : ∀ k, k < w.heap.size → w9.heap[k]? = w6.heap[k]? := fun k hk => (hg9.block k (by omega) (by simp; omega)).trans ((hg8.block k (by omega) (fun e => by have := hlow8 k e.symm; omega)).trans (hB7.block k (by omega)))
                have I9 : goI nb gm N E R base g c (z ||| 2 ^ t) w (L ++ [t]) w9 := ⟨_, h89, own_low hL8 hg9 (by omega), own_box (own_own (hS6.then_ hB7) hL7 hg8 (by decide)) (blk_own h87 hL7 hg8 (by omega)) hg9 (by decide), hMW.keep (fun k hk => hne0 k (by omega)) (by omega), fun i hi => (World.cell?_of_block (w := w6) (hne0 0 (by omega))).trans (hTW i hi), grown_more (grown_more (grown_more hgr (only_of_below hB7 none) (fun r e => by cases e)) hg8 hlow8) hg9 (fun r e => by injection e with e; omega), by omega⟩
                have hK9 := deferred_blk (deferred_own (deferred_then hK4 hB7) hL7 hg8) (blk_own h87 hL7 hg8 (by omega)) hg9
                clear hgr hg8 hg9 h89 hL8 hL7 h87 hone hB7 hi1 hy0 hy1 hy2 h12 h8 hL hS6 hMW hTW hK4 c8 c2
                gi_wp2
                exact ⟨⟨j + 1, z ||| 2 ^ t, L ++ [t], by omega, rfl, hGa, I9, fun k hk => (hne0 k (by omega)).trans (hkeep4 k hk), hK9⟩, by simp only [intOf]; omega⟩
              · rw [hzt] at hhas
                go_wp2_with (go_at_call 92; refine hhas.mono ?_; rintro e w5 ⟨rfl, rfl⟩)
                gi_wp2
                exact ⟨⟨j + 1, z, L, by omega, rfl, hG.skip hjl (by rw [← Hd.out, htn]; exact fun _ => hzt), ⟨v8, h8, hL, hS, hMW, hTW, hgr, hlt⟩, hkeep4, hK4⟩, by simp only [intOf]; omega⟩
          · have hjI : ¬ (j : Int) < ((edgesAt E n).length : Nat) := by omega
            gi_wp2
            obtain ⟨A8, k8, rfl, _, _⟩ := hL.shape
            have hGf := hG.finish (fun d hd => hgE.fr d hd) (by omega)
            refine ⟨⟨z, L, hGf, ⟨_, h8, hL, hS, hMW, hTW, hgr, hlt⟩, hK⟩, ?_⟩
            rw [hmu, goLeft_eq h8 hS hG.bel]
            exact hG.mu
  case stop =>
    rintro D c pre W _ _ h _
    exact h.elim
end Go.Proofs.YtkedgombccdamaaDoor
namespace Go.Proofs.YtkedgombccdamaaDoor
open Go.RowKit Go.Shelf Go.Maps
set_option linter.unusedVariables false
set_option linter.unusedSimpArgs false
attribute [local go_sem] Oper.semAt_some

/-- all but two blocks is as it was -/
structure Grown2 (W W' : World) (a b : Nat) : Prop where
  os : W'.os = W.os
  tape : W'.tape = W.tape
  output : W'.output = W.output
  size : W.heap.size ≤ W'.heap.size
  block : ∀ k, k < W.heap.size → k ≠ a → k ≠ b → W'.heap[k]? = W.heap[k]?
theorem Grown2.fst {W W' : World} {a b : Nat} (h : W.grownBy W' (some a)) : Grown2 W W' a b := ⟨h.os, h.tape, h.output, h.size, fun k hk h1 _ => h.block k hk (by simpa using h1)⟩
theorem Grown2.snd {W W' : World} {a b : Nat} (h : W.grownBy W' (some b)) : Grown2 W W' a b := ⟨h.os, h.tape, h.output, h.size, fun k hk _ h1 => h.block k hk (by simpa using h1)⟩
theorem Grown2.below {W W' : World} {a b : Nat} (h : Below W.heap.size W W') : Grown2 W W' a b := ⟨h.os, h.tape, h.output, h.size, fun k hk _ _ => h.block k hk⟩
theorem Grown2.trans {W W' W2 : World} {a b : Nat} (h : Grown2 W W' a b) (k : Grown2 W' W2 a b) : Grown2 W W2 a b := ⟨k.os.trans h.os, k.tape.trans h.tape, k.output.trans h.output, Nat.le_trans h.size k.size, fun i hi h1 h2 => (k.block i (Nat.lt_of_lt_of_le hi h.size) h1 h2).trans (h.block i hi h1 h2)⟩
/-- the cells of a walk -/
def walkC (gm : Nat) (v : Value) (r : Nat) (b : Bool) : Array Value := #[.pointer (some ⟨gm, 0, none⟩), v, .int .u32 (r : Int), .bool b]
theorem info_states1 : (Tryd.prog.info? 147).map (·.size) = some 1 := by kernel_rfl
theorem enter_met (args : Array Value) (w : World) : (callFunc 77 args).run Tryd.prog w = .ok (.enter 77 args) w := by kernel_rfl
theorem tab_grown {W W' : World} {r : Nat} (h : TabOk W) (hg : W.grownBy W' (some r)) (hr : 0 < r) : TabOk W' := fun i hi => (World.cell?_of_block (hg.block 0 h.size (by simp; omega))).trans (h i hi)
theorem enter_goes (args : Array Value) (w : World) : (callFunc 76 args).run Tryd.prog w = .ok (.enter 76 args) w := by kernel_rfl
set_option maxRecDepth 100000 in
set_option maxHeartbeats 2000000 in
theorem at_any (nb gm N : Nat) (E : List Edg) (R : List Nat) (base gw g c x r : Nat) (b : Bool) (old : Value) (hx : below x N) (hr : r < 4294967296) (w : World) (hM : MachOk nb w gm N E R) (hw : Blk w gw 149 (walkC gm old r b)) (hnw : nb ≤ gw)
    (hs : Own w base 50 1 encU (.slice (some ⟨g, 0, none⟩) (wordsFor N) c) (wordsN x (wordsFor N))) (hnb : nb ≤ base) (hne : gw ≠ g) (hT : TabOk w) :
    Calls Tryd.prog 72 #[.pointer (some ⟨gw, 0, none⟩), .slice (some ⟨g, 0, none⟩) (wordsFor N) c] w fun e w' => e = .returned (.tuple #[]) ∧
      Blk w' gw 149 (walkC gm (.slice (some ⟨g, 0, none⟩) (wordsFor N) c) (r ||| metN R (spreadN E N b false (x ||| 1)) N) b) ∧
      Own w' base 50 1 encU (.slice (some ⟨g, 0, none⟩) (wordsFor N) c) (wordsN (spreadN E N b false (x ||| 1)) (wordsFor N)) ∧ Grown2 w w' gw g := by
  have hN := hM.2.1
  have hone := hM.1.one
  have hnb0 := hM.2.2.2.2.1
  have hkb : wordsFor N ≤ 1099511627776 := by unfold wordsFor; omega
  have h64 : 0 < 64 * wordsFor N := Nat.lt_of_lt_of_le hone (words_room N)
  have hgb := hs.lt g rfl
  have hx1 : below (x ||| 1) N := below_or hx (below_pow (show 0 < N from hone))
  obtain ⟨y, hy⟩ : ∃ y, y = spreadN E N b false (x ||| 1) := ⟨_, rfl⟩
  have hyN : below y N := by rw [hy]; exact spread_below _ _ _ _ _
  rw [← hy]
  have Hy := Lib.hid hy
  clear hy
  go_enter Tryd.func72, Tryd.ntmps72
  go_upto_region 1 with (go_at_call 75; refine (sadd_any g (wordsFor N) c x 0 base h64 hkb w hs).mono ?_; rintro e w1 ⟨rfl, hs1, hg1⟩)
  have hw1 := blk_grown hw hg1 hne
  have hM1 := hM.grown hg1 (by omega)
  have hT1 := tab_grown hT hg1 (by omega)
  refine wp_region_steps 9 [eqS (.pointer (some ⟨gw, 0, none⟩)), eqS (.pointer (some ⟨gw, 0, none⟩)), eqS (.pointer (some ⟨gw, 0, none⟩)), eqS (.pointer (some ⟨gm, 0, none⟩)), eqS (.slice (some ⟨g, 0, none⟩) (wordsFor N) c), eqS (.pointer (some ⟨gw, 0, none⟩)), eqS (.pointer (some ⟨gw, 0, none⟩)), eqS (.pointer (some ⟨gw, 3, none⟩)), eqS (.bool b)] [6, 7, 8, 9, 10, 11, 12, 13, 14] rfl (by kernel_rfl) rfl ?_ ?_
  · refine Steps.cons (fun a' w' hG hB dep => gs_move (want_none rfl) _ rfl (hG.other 0 rfl)) ?_
    refine Steps.cons (fun a' w' hG hB dep => gs_nil (want_none rfl) _ rfl _ (dep 0 rfl 6 rfl) rfl) ?_
    refine Steps.cons (fun a' w' hG hB dep => gs_field (want_none rfl) _ _ _ rfl gw 0 0 (dep 1 rfl 7 rfl) (field_walk_0 gw) rfl) ?_
    refine Steps.cons (fun a' w' hG hB dep => gs_load1 (want_none rfl) _ _ rfl gw 0 (dep 2 rfl 8 rfl) _ ((blk_then hw1 hB).cellv (i := 0) rfl) _ Tryd.underlying143 rfl rfl) ?_
    refine Steps.cons (fun a' w' hG hB dep => gs_move (want_none rfl) _ rfl (hG.other 1 rfl)) ?_
    refine Steps.cons (fun a' w' hG hB dep => gs_move (want_none rfl) _ rfl (hG.other 0 rfl)) ?_
    refine Steps.cons (fun a' w' hG hB dep => gs_nil (want_none rfl) _ rfl _ (dep 5 rfl 11 rfl) rfl) ?_
    refine Steps.cons (fun a' w' hG hB dep => gs_field (want_none rfl) _ _ _ rfl gw 0 3 (dep 6 rfl 12 rfl) (field_walk_3 gw) rfl) ?_
    refine Steps.cons (fun a' w' hG hB dep => gs_load1 (want_none rfl) _ _ rfl gw 3 (dep 7 rfl 13 rfl) _ ((blk_then hw1 hB).cellv (i := 3) rfl) _ Tryd.underlying4 rfl rfl) ?_
    exact Steps.nil
  intro u w2 hB2 ans
  have u9 : u 9 = .pointer (some ⟨gm, 0, none⟩) := ans 3 9 (by decide) rfl
  have u10 : u 10 = .slice (some ⟨g, 0, none⟩) (wordsFor N) c := ans 4 10 (by decide) rfl
  have u14 : u 14 = .bool b := ans 8 14 (by decide) rfl
  clear ans
  simp only [putAll, List.foldl_cons, List.foldl_nil, Act.put, List.setIfInBounds_toArray, List.set_cons_zero, List.set_cons_succ, u9, u10, u14]
  clear u9 u10 u14
  simp only [List.drop]
  have hs2 := hs1.then_ hB2
  refine wl_call rfl _ _ _ rfl enter_goes _ (map4 rfl rfl rfl rfl) ((goes_any nb gm N E R base g c (x ||| 1) b false hx1 w2 (hM1.below hB2 hM1.2.2.2.2.2.1) hs2 hnb (hT1.then_ hT1.size hB2)).mono ?_)
  rintro e w3 ⟨rfl, hs3, hg3⟩
  refine ⟨_, rfl, ?_⟩
  simp only [Act.put, List.setIfInBounds_toArray, List.set_cons_zero, List.set_cons_succ]
  refine wpList_nil ?_
  have hw3 := blk_grown (blk_then hw1 hB2) hg3 hne
  have hM3 := (hM1.below hB2 hM1.2.2.2.2.2.1).grown hg3 (by omega)
  have hT3 := tab_grown (hT1.then_ hT1.size hB2) hg3 (by omega)
  have G3 : Grown2 w w3 gw g := (Grown2.snd hg1).trans ((Grown2.below hB2).trans (Grown2.snd hg3))
  clear hs hs1 hs2 hw hw1 hM hM1 hT hT1 hg1 hB2 hg3
  rw [← Hy.out] at hs3
  go_upto_region 3 with (refine wl_store_cell rfl _ _ _ rfl _ _ rfl _ _ (walkC gm (.slice (some ⟨g, 0, none⟩) (wordsFor N) c) r b) hw3 (by simp [walkC]) info_states1 rfl rfl rfl ?_; intro w4 hw4 hg4)
  simp only [Act.put]
  have hs4 := own_box hs3 hw3 hg4 (by decide)
  have hM4 := hM3.grown hg4 hnw
  have hT4 := tab_grown hT3 hg4 (by omega)
  have G4 : Grown2 w w4 gw g := G3.trans (Grown2.fst hg4)
  clear hs3 hM3 hT3 G3 hw3
  have hgb4 := hs4.lt g rfl
  have hrw : ∀ {w' : World}, Below w4.heap.size w4 w' → ∀ i (h : i < (wordsN y (wordsFor N)).length), RowAt w' g (0 + i) (encU (wordsN y (wordsFor N))[i]) := fun hB i h => by
    have := (hs4.then_ hB).row encU_size i h
    rw [Nat.mul_one] at this
    rw [Nat.zero_add]
    exact this
  have hmet : metN R y N < 4294967296 := met_lt hM4.2.2.2.1 y N
  have hor := u32_or_nat r (metN R y N) hr hmet
  refine wp_region_steps 13 [eqS (.pointer (some ⟨gw, 0, none⟩)), eqS (.pointer (some ⟨gw, 0, none⟩)), eqS (.pointer (some ⟨gw, 2, none⟩)), eqS (.int .u32 (r : Int)), eqS (.pointer (some ⟨gw, 0, none⟩)), eqS (.pointer (some ⟨gw, 0, none⟩)), eqS (.pointer (some ⟨gw, 0, none⟩)), eqS (.pointer (some ⟨gm, 0, none⟩)), eqS (.slice (some ⟨g, 0, none⟩) (wordsFor N) c), eqS (.int .u32 (metN R y N : Nat)), eqS (.int .u32 (r ||| metN R y N : Nat)), eqS (.pointer (some ⟨gw, 0, none⟩)), eqS (.pointer (some ⟨gw, 2, none⟩))] [20, 21, 22, 23, 24, 25, 26, 27, 28, 29, 30, 31, 32] rfl (by kernel_rfl) rfl ?_ ?_
  · refine Steps.cons (fun a' w' hG hB dep => gs_move (want_none rfl) _ rfl (hG.other 0 rfl)) ?_
    refine Steps.cons (fun a' w' hG hB dep => gs_nil (want_none rfl) _ rfl _ (dep 0 rfl 20 rfl) rfl) ?_
    refine Steps.cons (fun a' w' hG hB dep => gs_field (want_none rfl) _ _ _ rfl gw 0 2 (dep 1 rfl 21 rfl) (field_walk_2 gw) rfl) ?_
    refine Steps.cons (fun a' w' hG hB dep => gs_load1 (want_none rfl) _ _ rfl gw 2 (dep 2 rfl 22 rfl) _ ((blk_then hw4 hB).cellv (i := 2) rfl) _ Tryd.underlying43 rfl rfl) ?_
    refine Steps.cons (fun a' w' hG hB dep => gs_move (want_none rfl) _ rfl (hG.other 0 rfl)) ?_
    refine Steps.cons (fun a' w' hG hB dep => gs_nil (want_none rfl) _ rfl _ (dep 4 rfl 24 rfl) rfl) ?_
    refine Steps.cons (fun a' w' hG hB dep => gs_field (want_none rfl) _ _ _ rfl gw 0 0 (dep 5 rfl 25 rfl) (field_walk_0 gw) rfl) ?_
    refine Steps.cons (fun a' w' hG hB dep => gs_load1 (want_none rfl) _ _ rfl gw 0 (dep 6 rfl 26 rfl) _ ((blk_then hw4 hB).cellv (i := 0) rfl) _ Tryd.underlying143 rfl rfl) ?_
    refine Steps.cons (fun a' w' hG hB dep => gs_move (want_none rfl) _ rfl (hG.other 1 rfl)) ?_
    refine Steps.cons (fun a' w' hG hB dep => gs_call (want_none rfl) _ _ _ rfl enter_met _ (map2 (dep 7 rfl 27 rfl) (dep 8 rfl 28 rfl)) ((met_any nb gm N E R g 0 c y hyN w' (hM4.below hB hM4.2.2.2.2.2.1) (hrw hB) (Nat.lt_of_lt_of_le hgb4.2 hB.size) (hT4.then_ hT4.size hB)).mono fun e w2 ⟨he, hb⟩ => ⟨_, he, hb, rfl⟩)) ?_
    refine Steps.cons (fun a' w' hG hB dep => gs_or_u32 (want_none rfl) _ _ _ _ rfl _ _ (dep 3 rfl 23 rfl) (dep 9 rfl 29 rfl) _ hor rfl) ?_
    refine Steps.cons (fun a' w' hG hB dep => gs_nil (want_none rfl) _ rfl _ (dep 0 rfl 20 rfl) rfl) ?_
    refine Steps.cons (fun a' w' hG hB dep => gs_field (want_none rfl) _ _ _ rfl gw 0 2 (dep 11 rfl 31 rfl) (field_walk_2 gw) rfl) ?_
    exact Steps.nil
  intro u w5 hB5 ans
  have u30 : u 30 = .int .u32 (r ||| metN R y N : Nat) := ans 10 30 (by decide) rfl
  have u32 : u 32 = .pointer (some ⟨gw, 2, none⟩) := ans 12 32 (by decide) rfl
  clear ans
  simp only [putAll, List.foldl_cons, List.foldl_nil, Act.put, List.setIfInBounds_toArray, List.set_cons_zero, List.set_cons_succ, u30, u32]
  clear u30 u32
  simp only [List.drop]
  have hw5 := blk_then hw4 hB5
  refine wl_store_cell rfl _ _ _ rfl _ _ rfl _ _ (walkC gm (.slice (some ⟨g, 0, none⟩) (wordsFor N) c) (r ||| metN R y N) b) hw5 (by simp [walkC]) info_u32 rfl rfl rfl ?_
  intro w6 hw6 hg6
  refine wpList_nil ?_
  have hs6 := own_box (hs4.then_ hB5) hw5 hg6 (by decide)
  have G6 : Grown2 w w6 gw g := G4.trans ((Grown2.below hB5).trans (Grown2.fst hg6))
  clear hw4 hw5 hs4 hM4 hT4 hg4 hB5 hg6 hrw
  go_wp2_with (fail)
  first | (refine bodyPost_end (results_none rfl _ _ _) rfl ?_) | (refine bodyPost_ret (results_none rfl _ _ _) rfl ?_)
  exact ⟨rfl, hw6, hs6, G6⟩

/-- the machine stands in the blocks from lo to nb, and in no other -/
def MachIn (lo nb : Nat) (W : World) (gm N : Nat) (E : List Edg) (R : List Nat) : Prop :=
  ∀ W', (∀ k, lo ≤ k → k < nb → W'.heap[k]? = W.heap[k]?) → W.heap.size ≤ W'.heap.size → MachOk nb W' gm N E R
theorem MachIn.ok {lo nb gm N : Nat} {W : World} {E : List Edg} {R : List Nat} (h : MachIn lo nb W gm N E R) : MachOk nb W gm N E R := h W (fun _ _ _ => rfl) (Nat.le_refl _)
theorem MachIn.keep {lo nb gm N : Nat} {W W' : World} {E : List Edg} {R : List Nat} (h : MachIn lo nb W gm N E R) (hk : ∀ k, lo ≤ k → k < nb → W'.heap[k]? = W.heap[k]?) (hs : W.heap.size ≤ W'.heap.size) : MachIn lo nb W' gm N E R :=
  fun W2 h1 h2 => h W2 (fun k a b => (h1 k a b).trans (hk k a b)) (Nat.le_trans hs h2)
theorem MachIn.grown {lo nb gm N r : Nat} {W W' : World} {E : List Edg} {R : List Nat} (h : MachIn lo nb W gm N E R) (hg : W.grownBy W' (some r)) (hr : r < lo ∨ nb ≤ r) : MachIn lo nb W' gm N E R :=
  h.keep (fun k h1 h2 => hg.block k (by have := h.ok.2.2.2.2.2.1; omega) (by intro e; injection e with e; omega)) hg.size
/-- a walk in memory -/
def WalkOk (lo nb : Nat) (W : World) (gw gm N : Nat) (E : List Edg) (R : List Nat) (k : Wk) : Prop :=
  MachIn lo nb W gm N E R ∧ nb ≤ gw ∧ k.met < 4294967296 ∧ below k.at_ N ∧ ∃ g c, gw ≠ g ∧ Blk W gw 149 (walkC gm (.slice (some ⟨g, 0, none⟩) (wordsFor N) c) k.met k.first) ∧
    Own W nb 50 1 encU (.slice (some ⟨g, 0, none⟩) (wordsFor N) c) (wordsN k.at_ (wordsFor N))
theorem WalkOk.lt {lo nb gw gm N : Nat} {W : World} {E : List Edg} {R : List Nat} {k : Wk} (h : WalkOk lo nb W gw gm N E R k) : gw < W.heap.size := by
  obtain ⟨_, _, _, _, g, c, _, h5, _⟩ := h
  exact h5.lt
/-- a walk is as it was where another block than its own has been turned -/
theorem WalkOk.other {lo nb gw gm N r : Nat} {W W' : World} {E : List Edg} {R : List Nat} {k : Wk} {cs : Array Value} (h : WalkOk lo nb W gw gm N E R k) (hg : W.grownBy W' (some r)) (hr : r < lo ∨ nb ≤ r) (hne : r ≠ gw) (hb : Blk W r 149 cs) : WalkOk lo nb W' gw gm N E R k := by
  obtain ⟨h1, h2, h3, h4, g, c, h5, h6, h7⟩ := h
  exact ⟨h1.grown hg hr, h2, h3, h4, g, c, h5, blk_grown h6 hg (fun e => hne e.symm), own_box h7 hb hg (by decide)⟩
theorem WalkOk.then_ {lo nb gw gm N : Nat} {W W' : World} {E : List Edg} {R : List Nat} {k : Wk} (h : WalkOk lo nb W gw gm N E R k) (hb : Below W.heap.size W W') : WalkOk lo nb W' gw gm N E R k := by
  obtain ⟨h1, h2, h3, h4, g, c, h5, h6, h7⟩ := h
  exact ⟨h1.keep (fun i _ hi => hb.block i (by have := h1.ok.2.2.2.2.2.1; omega)) hb.size, h2, h3, h4, g, c, h5, blk_then h6 hb, h7.then_ hb⟩
theorem rules_any (lo nb gw gm N : Nat) (E : List Edg) (R : List Nat) (k : Wk) (w : World) (h : WalkOk lo nb w gw gm N E R k) :
    Calls Tryd.prog 53 #[.pointer (some ⟨gw, 0, none⟩)] w fun e w' => e = .returned (.int .u32 (k.met : Nat)) ∧ w' = w := by
  obtain ⟨_, _, _, _, g, c, _, h6, _⟩ := h
  have c2 : w.cell? ⟨gw, 2, none⟩ = some (.int .u32 (k.met : Nat)) := h6.cellv (i := 2) rfl
  go_enter Tryd.func53, Tryd.ntmps53
  go_wp2_with (fail)
  go_ret
  exact ⟨rfl, rfl⟩
end Go.Proofs.YtkedgombccdamaaDoor
namespace Go.Proofs.YtkedgombccdamaaDoor
open Go.RowKit Go.Shelf Go.Maps
set_option linter.unusedVariables false
set_option linter.unusedSimpArgs false
attribute [local go_sem] Oper.semAt_some

set_option maxRecDepth 100000 in
set_option maxHeartbeats 2000000 in
theorem s_end_any (lo nb gw gm N : Nat) (E : List Edg) (R : List Nat) (k : Wk) (w : World) (h : WalkOk lo nb w gw gm N E R k) (hT : TabOk w) :
    Calls Tryd.prog 54 #[.pointer (some ⟨gw, 0, none⟩)] w fun e w' => e = .returned (.int .u32 (endW E N R k : Nat)) ∧ Below w.heap.size w w' := by
  obtain ⟨hMI, hnw, hr, hx, g, c, hne, hw, hs⟩ := h
  obtain ⟨x, r, b⟩ := k
  simp only at hr hx hw hs
  have hM := hMI.ok
  clear hMI
  have hN := hM.2.1
  have hone := hM.1.one
  have hnb0 := hM.2.2.2.2.1
  have hnb2 := hM.2.2.2.2.2.1
  have hkb : wordsFor N ≤ 549755813889 := by unfold wordsFor; omega
  have hk1 : 0 < wordsFor N := by unfold wordsFor; omega
  have hgb := hs.lt g rfl
  obtain ⟨y, hy⟩ : ∃ y, y = spreadN E N b true x := ⟨_, rfl⟩
  have hyN : below y N := by rw [hy]; exact spread_below _ _ _ _ _
  have hend : endW E N R ⟨x, r, b⟩ = r ||| metN R y N := by rw [hy]; rfl
  rw [hend]
  have Hy := Lib.hid hy
  clear hy hend
  obtain ⟨i0, hi0, hz0, hz1, hz2⟩ := info_parts info_u64z
  have c1 : (w.alloc (.cells #[] 50)).cell? ⟨gw, 1, none⟩ = some (.slice (some ⟨g, 0, none⟩) (wordsFor N) c) := (hw.alloc _).cellv (i := 1) rfl
  go_enter Tryd.func54, Tryd.ntmps54
  go_upto_region 2 with (at_builtin; refine wl_append (enc := encU) _ rfl _ _ 147 rfl w.heap.size 50 i0 _ 1 8 Tryd.underlying147 hi0 hz0 hz1 hz2 rfl (by decide) encU_size encU_one _ _ rfl (own_empty (w := w) (e := 50) (size := 1) (base := w.heap.size) (Nat.le_refl _)) _ _ _ _ (wordsN x (wordsFor N)) rfl (wordsN_length _ _).symm ((hs.alloc _).slice_all encU_size) (by simp only [List.length_nil]; unfold maxLen; omega) (by simp only [List.length_nil]; omega) (by simp) ?_; intro v1 w1 hs1 hg1 _)
  rw [List.nil_append] at hs1
  obtain ⟨g1, cap, hv1, hgb1, hgb2, _⟩ := hs1.form (by rw [wordsN_length]; exact hk1)
  rw [wordsN_length] at hv1
  subst hv1
  have hB1 : Below w.heap.size w w1 := below_grown (below_alloc (Below.refl _ w) (.cells #[] 50)) hg1 (Nat.le_refl _)
  have hw1 := blk_then hw hB1
  have hM1 := hM.below hB1 hnb2
  have hT1 := hT.then_ hT.size hB1
  clear hs hw hg1 c1 hi0 hz0 hz1 hz2 hM hT
  refine wp_region_steps 9 [eqS (.pointer (some ⟨gw, 0, none⟩)), eqS (.pointer (some ⟨gw, 0, none⟩)), eqS (.pointer (some ⟨gw, 0, none⟩)), eqS (.pointer (some ⟨gm, 0, none⟩)), eqS (.slice (some ⟨g1, 0, none⟩) (wordsFor N) cap), eqS (.pointer (some ⟨gw, 0, none⟩)), eqS (.pointer (some ⟨gw, 0, none⟩)), eqS (.pointer (some ⟨gw, 3, none⟩)), eqS (.bool b)] [10, 11, 12, 13, 14, 15, 16, 17, 18] rfl (by kernel_rfl) rfl ?_ ?_
  · refine Steps.cons (fun a' w' hG hB dep => gs_move (want_none rfl) _ rfl (hG.other 0 rfl)) ?_
    refine Steps.cons (fun a' w' hG hB dep => gs_nil (want_none rfl) _ rfl _ (dep 0 rfl 10 rfl) rfl) ?_
    refine Steps.cons (fun a' w' hG hB dep => gs_field (want_none rfl) _ _ _ rfl gw 0 0 (dep 1 rfl 11 rfl) (field_walk_0 gw) rfl) ?_
    refine Steps.cons (fun a' w' hG hB dep => gs_load1 (want_none rfl) _ _ rfl gw 0 (dep 2 rfl 12 rfl) _ ((blk_then hw1 hB).cellv (i := 0) rfl) _ Tryd.underlying143 rfl rfl) ?_
    refine Steps.cons (fun a' w' hG hB dep => gs_move (want_none rfl) _ rfl (hG.other 3 rfl)) ?_
    refine Steps.cons (fun a' w' hG hB dep => gs_move (want_none rfl) _ rfl (hG.other 0 rfl)) ?_
    refine Steps.cons (fun a' w' hG hB dep => gs_nil (want_none rfl) _ rfl _ (dep 5 rfl 15 rfl) rfl) ?_
    refine Steps.cons (fun a' w' hG hB dep => gs_field (want_none rfl) _ _ _ rfl gw 0 3 (dep 6 rfl 16 rfl) (field_walk_3 gw) rfl) ?_
    refine Steps.cons (fun a' w' hG hB dep => gs_load1 (want_none rfl) _ _ rfl gw 3 (dep 7 rfl 17 rfl) _ ((blk_then hw1 hB).cellv (i := 3) rfl) _ Tryd.underlying4 rfl rfl) ?_
    exact Steps.nil
  intro u w2 hB2 ans
  have u13 : u 13 = .pointer (some ⟨gm, 0, none⟩) := ans 3 13 (by decide) rfl
  have u14 : u 14 = (.slice (some ⟨g1, 0, none⟩) (wordsFor N) cap) := ans 4 14 (by decide) rfl
  have u18 : u 18 = .bool b := ans 8 18 (by decide) rfl
  clear ans
  simp only [putAll, List.foldl_cons, List.foldl_nil, Act.put, List.setIfInBounds_toArray, List.set_cons_zero, List.set_cons_succ, u13, u14, u18]
  clear u13 u14 u18
  simp only [List.drop]
  have hs2 := hs1.then_ hB2
  have hM2 := hM1.below hB2 hM1.2.2.2.2.2.1
  have hT2 := hT1.then_ hT1.size hB2
  have hw2 := blk_then hw1 hB2
  refine wl_call rfl _ _ _ rfl enter_goes _ (map4 rfl rfl rfl rfl) ((goes_any nb gm N E R w.heap.size g1 cap x b true hx w2 hM2 hs2 hnb2 hT2).mono ?_)
  rintro e w3 ⟨rfl, hs3, hg3⟩
  refine ⟨_, rfl, ?_⟩
  simp only [Act.put, List.setIfInBounds_toArray, List.set_cons_zero, List.set_cons_succ]
  refine wpList_nil ?_
  rw [← Hy.out] at hs3
  have hlw := hw2.lt
  have hlw1 := hw1.lt
  have hw3 := blk_grown hw2 hg3 (fun e => by
    subst e
    have h1 := (hs3.2)
    rcases hs2.2 with ⟨hv, _⟩ | ⟨g', cap', cur, hv, _, hh, _⟩
    · cases hv
    · injection hv with hv _ _
      injection hv with hv
      injection hv with hv
      subst hv
      unfold Blk at hw2
      rw [hh] at hw2
      injection hw2 with hw2
      injection hw2 with _ hw2
      cases hw2)
  have hM3 := hM2.grown hg3 (by omega)
  have hT3 := tab_grown hT2 hg3 (by omega)
  have hB3 : Below w.heap.size w w3 := below_grown (below_then hB1 hB2) hg3 hgb1
  clear hs1 hs2 hw2 hw1 hM1 hM2 hT1 hT2 hg3 hB2 hB1
  have hgb3 := hs3.lt g1 rfl
  have hrw : ∀ {w' : World}, Below w3.heap.size w3 w' → ∀ i (h : i < (wordsN y (wordsFor N)).length), RowAt w' g1 (0 + i) (encU (wordsN y (wordsFor N))[i]) := fun hB i h => by
    have := (hs3.then_ hB).row encU_size i h
    rw [Nat.mul_one] at this
    rw [Nat.zero_add]
    exact this
  have hmet : metN R y N < 4294967296 := met_lt hM3.2.2.2.1 y N
  have hor := u32_or_nat r (metN R y N) hr hmet
  go_upto_region 3 with (fail)
  refine wp_region_steps 12 [eqS (.pointer (some ⟨gw, 0, none⟩)), eqS (.pointer (some ⟨gw, 0, none⟩)), eqS (.pointer (some ⟨gw, 2, none⟩)), eqS (.int .u32 (r : Int)), eqS (.pointer (some ⟨gw, 0, none⟩)), eqS (.pointer (some ⟨gw, 0, none⟩)), eqS (.pointer (some ⟨gw, 0, none⟩)), eqS (.pointer (some ⟨gm, 0, none⟩)), eqS (.slice (some ⟨g1, 0, none⟩) (wordsFor N) cap), eqS (.int .u32 (metN R y N : Nat)), eqS (.int .u32 (r ||| metN R y N : Nat)), eqS (.int .u32 (r ||| metN R y N : Nat))] [20, 21, 22, 23, 24, 25, 26, 27, 28, 29, 30, 2] rfl (by kernel_rfl) rfl ?_ ?_
  · refine Steps.cons (fun a' w' hG hB dep => gs_move (want_none rfl) _ rfl (hG.other 0 rfl)) ?_
    refine Steps.cons (fun a' w' hG hB dep => gs_nil (want_none rfl) _ rfl _ (dep 0 rfl 20 rfl) rfl) ?_
    refine Steps.cons (fun a' w' hG hB dep => gs_field (want_none rfl) _ _ _ rfl gw 0 2 (dep 1 rfl 21 rfl) (field_walk_2 gw) rfl) ?_
    refine Steps.cons (fun a' w' hG hB dep => gs_load1 (want_none rfl) _ _ rfl gw 2 (dep 2 rfl 22 rfl) _ ((blk_then hw3 hB).cellv (i := 2) rfl) _ Tryd.underlying43 rfl rfl) ?_
    refine Steps.cons (fun a' w' hG hB dep => gs_move (want_none rfl) _ rfl (hG.other 0 rfl)) ?_
    refine Steps.cons (fun a' w' hG hB dep => gs_nil (want_none rfl) _ rfl _ (dep 4 rfl 24 rfl) rfl) ?_
    refine Steps.cons (fun a' w' hG hB dep => gs_field (want_none rfl) _ _ _ rfl gw 0 0 (dep 5 rfl 25 rfl) (field_walk_0 gw) rfl) ?_
    refine Steps.cons (fun a' w' hG hB dep => gs_load1 (want_none rfl) _ _ rfl gw 0 (dep 6 rfl 26 rfl) _ ((blk_then hw3 hB).cellv (i := 0) rfl) _ Tryd.underlying143 rfl rfl) ?_
    refine Steps.cons (fun a' w' hG hB dep => gs_move (want_none rfl) _ rfl (hG.other 3 rfl)) ?_
    refine Steps.cons (fun a' w' hG hB dep => gs_call (want_none rfl) _ _ _ rfl enter_met _ (map2 (dep 7 rfl 27 rfl) (dep 8 rfl 28 rfl)) ((met_any nb gm N E R g1 0 cap y hyN w' (hM3.below hB hM3.2.2.2.2.2.1) (hrw hB) (Nat.lt_of_lt_of_le hgb3.2 hB.size) (hT3.then_ hT3.size hB)).mono fun e w2 ⟨he, hb⟩ => ⟨_, he, hb, rfl⟩)) ?_
    refine Steps.cons (fun a' w' hG hB dep => gs_or_u32 (want_none rfl) _ _ _ _ rfl _ _ (dep 3 rfl 23 rfl) (dep 9 rfl 29 rfl) _ hor rfl) ?_
    refine Steps.cons (fun a' w' hG hB dep => gs_assign (want_none rfl) _ rfl (dep 10 rfl 30 rfl)) ?_
    exact Steps.nil
  intro u w5 hB5 ans
  have u2 : u 2 = .int .u32 (r ||| metN R y N : Nat) := ans 11 2 (by decide) rfl
  clear ans
  simp only [putAll, List.foldl_cons, List.foldl_nil, Act.put, List.setIfInBounds_toArray, List.set_cons_zero, List.set_cons_succ, u2]
  clear u2
  simp only [List.drop]
  refine wpList_nil ?_
  have hB6 := below_then hB3 hB5
  clear hw3 hs3 hM3 hT3 hB3 hB5 hrw hor
  go_wp2_with (fail)
  go_ret
  exact ⟨rfl, hB6⟩
end Go.Proofs.YtkedgombccdamaaDoor
namespace Go.Proofs.YtkedgombccdamaaDoor
open Go.RowKit
set_option linter.unusedVariables false
set_option linter.unusedSimpArgs false

def takes (c : Nat) (d : Edg) : Bool := d.kd == 2 && d.st.getLsbD c
def hop1 (c y : Nat) (d : Edg) : Nat := if takes c d then y ||| 2 ^ d.tt.toNat else y
theorem hop1_no {c y : Nat} {d : Edg} (h : takes c d = false) : hop1 c y d = y := by unfold hop1; rw [h]; rfl
theorem hop1_yes {c y : Nat} {d : Edg} (h : takes c d = true) : hop1 c y d = y ||| 2 ^ d.tt.toNat := by unfold hop1; rw [h]; rfl
def hopE (l : List Edg) (c y : Nat) : Nat := l.foldl (hop1 c) y
def hopL (E : List Edg) (c : Nat) (ns : List Nat) (y : Nat) : Nat := ns.foldl (fun y n => hopE (edgesAt E n) c y) y
theorem hopE_take (l : List Edg) (c y j : Nat) (hj : j < l.length) : hopE (l.take (j + 1)) c y = hop1 c (hopE (l.take j) c y) l[j] := by
  unfold hopE
  rw [List.take_succ_eq_append_getElem hj, List.foldl_append]
  rfl
theorem hopL_snoc (E : List Edg) (c : Nat) (ns : List Nat) (n y : Nat) : hopL E c (ns ++ [n]) y = hopE (edgesAt E n) c (hopL E c ns y) := by simp [hopL]
theorem hop1_bit (c y i : Nat) (d : Edg) : (hop1 c y d).testBit i = (y.testBit i || (takes c d && decide (d.tt.toNat = i))) := by
  unfold hop1
  cases h : takes c d
  · simp
  · rw [if_pos rfl, testBit_or_pow, Bool.true_and]
theorem hopE_bit (c i : Nat) : ∀ (l : List Edg) (y : Nat), (hopE l c y).testBit i = true ↔ y.testBit i = true ∨ ∃ d ∈ l, takes c d = true ∧ d.tt.toNat = i
  | [], y => by simp [hopE]
  | d :: l, y => by
    have ih := hopE_bit c i l (hop1 c y d)
    unfold hopE at ih ⊢
    rw [List.foldl_cons, ih, hop1_bit]
    simp only [Bool.or_eq_true, Bool.and_eq_true, decide_eq_true_eq, List.mem_cons, exists_eq_or_imp]
    constructor
    · rintro ((h | h) | h)
      · exact .inl h
      · exact .inr (.inl h)
      · exact .inr (.inr h)
    · rintro (h | h | h)
      · exact .inl (.inl h)
      · exact .inl (.inr h)
      · exact .inr h
theorem hopL_bit (E : List Edg) (c i : Nat) : ∀ (ns : List Nat) (y : Nat), (hopL E c ns y).testBit i = true ↔ y.testBit i = true ∨ ∃ n ∈ ns, ∃ d ∈ edgesAt E n, takes c d = true ∧ d.tt.toNat = i
  | [], y => by simp [hopL]
  | n :: ns, y => by
    have ih := hopL_bit E c i ns (hopE (edgesAt E n) c y)
    unfold hopL at ih ⊢
    rw [List.foldl_cons, ih, hopE_bit]
    simp only [List.mem_cons, exists_eq_or_imp]
    constructor
    · rintro ((h | h) | h)
      · exact .inl h
      · exact .inr (.inl h)
      · exact .inr (.inr h)
    · rintro (h | h | h)
      · exact .inl (.inl h)
      · exact .inl (.inr h)
      · exact .inr h
theorem hopL_byte {E : List Edg} {N x c : Nat} (hN : 1 ≤ N) (hE : ∀ d ∈ E, (0 ≤ d.fr ∧ d.fr < N) ∧ 0 ≤ d.tt ∧ d.tt < N) : hopL E c (bitsTo x N) 0 ||| 1 = byteN E N x c := by
  apply bits_ext
  intro i
  rw [show (1 : Nat) = 2 ^ 0 from rfl, testBit_or_pow, Bool.or_eq_true, hopL_bit, decide_eq_true_eq, byte_bit]
  simp only [Nat.zero_testBit, Bool.false_eq_true, false_or]
  constructor
  · rintro (⟨n, hn, d, hd, h2, h3⟩ | rfl)
    · rw [mem_bitsTo] at hn
      rw [mem_edgesAt] at hd
      have hb := hE d hd.1
      unfold takes at h2
      rw [Bool.and_eq_true, beq_iff_eq] at h2
      refine ⟨by omega, .inr ⟨d, hd.1, h2.1, ?_, h2.2, h3⟩⟩
      rw [hd.2]
      exact hn.2
    · exact ⟨hN, .inl rfl⟩
  · rintro ⟨hi, rfl | ⟨d, hd, h2, h3, h4, h5⟩⟩
    · exact .inr rfl
    · have hb := hE d hd
      refine .inl ⟨d.fr.toNat, ?_, d, ?_, ?_, h5⟩
      · rw [mem_bitsTo]
        exact ⟨by omega, h3⟩
      · rw [mem_edgesAt]
        exact ⟨hd, by omega⟩
      · unfold takes
        rw [h2, h4]
        rfl
end Go.Proofs.YtkedgombccdamaaDoor
