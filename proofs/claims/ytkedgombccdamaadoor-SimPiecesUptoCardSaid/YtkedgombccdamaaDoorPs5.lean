/- Part 5 of a proof; packed: the texts that it was made of follow one another. No condition beyond those named in each lemma. -/
import Derived.Test.YtkedgombccdamaaDoorPs1
import Derived.Test.YtkedgombccdamaaDoorPs2
import Derived.Test.YtkedgombccdamaaDoorPs4
import Derived.Lib.Bytealg
import Derived.Lib.IndexLaws
import Derived.Lib.Strings
import Derived.Lib.Walk
namespace Go.Proofs.YtkedgombccdamaaDoor
open Go.RowKit
set_option linter.unusedVariables false
set_option linter.unusedSimpArgs false

set_option maxHeartbeats 400000 in
theorem of_any (A : Option Addr) (n c : Nat) (l : List UInt8) (w : World) (hn : n = l.length) (hm : n ≤ maxLen) (hs : SliceOf w w.heap.size 1 enc8 A l) :
    Calls Tryd.prog 116 #[.slice A n c] w fun e w' => e = .returned (.agg (setC (ofB l))) ∧ Below w.heap.size w w' := by
  have Hn := Lib.hid hn
  clear hn
  unfold maxLen at hm
  have hs2 : w.heap.size ≤ w.heap.size + 1 := by omega
  go_enter Tryd.func116, Tryd.ntmps116
  go_wp2
  go_loopw [8] (fun i wr => ∃ k : Nat, k ≤ n ∧ i = .int .i64 k ∧ Blk wr (w.heap.size + 1) 52 (setC (ofB (l.take k))) ∧ Blk wr w.heap.size 52 (setC 0) ∧ Below w.heap.size w wr) (fun i _ => n - (intOf i).toNat)
  case atStart =>
    refine ⟨0, by omega, rfl, ?_, ?_, ?_⟩
    · rw [show ofB (l.take 0) = 0 from rfl]
      exact Blk.new' _ _ _ (World.size_alloc _ _).symm
    · exact (Blk.new _ _ _).alloc _
    · exact ((Below.refl _ _).alloc (Nat.le_refl _) _).alloc (by simp) _
  case round =>
    obtain ⟨k, hk, rfl, hb1, hb2, hB⟩ := hrel
    by_cases hlt : k < n
    · have hlt' : k < l.length := by have := Hn.out; omega
      obtain ⟨b, off, rfl, hbl, hrow⟩ := (hs.below hB).at_ (by omega)
      have hc := hrow k hlt' 0 (.int .u8 (l[k].toNat)) rfl
      rw [Nat.mul_one, Nat.add_zero] at hc
      have hu : l[k].toNat < 256 := l[k].toNat_lt
      clear hrow
      go_wp2_with (go_at_call 129; refine (put_any _ _ hu _ _ hb1).mono ?_; rintro e w' ⟨rfl, hb1', hg1⟩)
      go_roundw
      case rel =>
        refine ⟨k + 1, by omega, by go_num, ?_, hb2.grown hg1 (by simp), hB.grown hg1 hB.size (by rintro k ⟨⟩; exact hs2)⟩
        rw [take_snoc' l k hlt', ofB_snoc]
        exact hb1'
      case measure => simp [intOf]; omega
    · have hkk : l.take k = l := List.take_of_length_le (by have := Hn.out; omega)
      rw [hkk] at hb1
      clear hkk
      go_wp2_with (first | (refine wl_load_set rfl _ rfl _ rfl _ hb1 ?_) | (refine wl_store_set rfl _ _ rfl _ _ rfl rfl _ hb2 ?_; intro w1 hb4 hg4))
      exact ret_set rfl rfl hb4 rfl ⟨rfl, hB.grown hg4 hB.size (by rintro k ⟨⟩; exact Nat.le_refl _)⟩

set_option maxHeartbeats 400000 in
theorem span_any (f t : Nat) (w : World) (hf : f < 256) (ht : t < 256) :
    Calls Tryd.prog 134 #[.int .u8 f, .int .u8 t] w fun e w' => e = .returned (.agg (setC (spanB f t))) ∧ Below w.heap.size w w' := by
  have hs2 : w.heap.size ≤ w.heap.size + 1 := by omega
  go_enter Tryd.func134, Tryd.ntmps134
  go_wp2
  go_loopw [13] (fun i wr => ∃ k : Nat, k ≤ t + 1 - f ∧ i = .int .i64 k ∧ Blk wr (w.heap.size + 1) 52 (setC (setTo (fun i => decide (f ≤ i ∧ i ≤ t)) (f + k))) ∧ Blk wr w.heap.size 52 (setC 0) ∧ Below w.heap.size w wr) (fun i _ => t + 1 - f - (intOf i).toNat)
  case atStart =>
    refine ⟨0, by omega, rfl, ?_, ?_, ?_⟩
    · rw [setTo_none (by intro i hi; simp; omega)]
      exact Blk.new' _ _ _ (World.size_alloc _ _).symm
    · exact (Blk.new _ _ _).alloc _
    · exact ((Below.refl _ _).alloc (Nat.le_refl _) _).alloc (by simp) _
  case round =>
    obtain ⟨k, hk, rfl, hb1, hb2, hB⟩ := hrel
    by_cases hlt : k < t + 1 - f
    · have hlt2 : (k : Int) < (t : Int) - (f : Int) + 1 := by omega
      go_wp2_with (go_at_call 129; refine (put_int _ _ (by omega) (by omega) _ _ hb1).mono ?_; rintro e w' ⟨rfl, hb1', hg1⟩)
      go_roundw
      case rel =>
        refine ⟨k + 1, by omega, by go_num, ?_, hb2.grown hg1 (by simp), hB.grown hg1 hB.size (by rintro k ⟨⟩; exact hs2)⟩
        rw [show ((f : Int) + (k : Int)).toNat = f + k by omega] at hb1'
        rw [show f + (k + 1) = f + k + 1 by omega, setTo_succ_pos (by simp; omega)]
        exact hb1'
      case measure => simp [intOf]; omega
    · have hlt2 : ¬ (k : Int) < (t : Int) - (f : Int) + 1 := by omega
      obtain rfl : k = t + 1 - f := by omega
      rw [spanB_eq f t ht] at hb1
      go_wp2_with (first | (refine wl_load_set rfl _ rfl _ rfl _ hb1 ?_) | (refine wl_store_set rfl _ _ rfl _ _ rfl rfl _ hb2 ?_; intro w1 hb4 hg4))
      exact ret_set rfl rfl hb4 rfl ⟨rfl, hB.grown hg4 hB.size (by rintro k ⟨⟩; exact Nat.le_refl _)⟩

set_option maxHeartbeats 400000 in
theorem not_any (x : BSet) (w : World) :
    Calls Tryd.prog 114 #[.agg (setC x)] w fun e w' => e = .returned (.agg (setC (notB x))) ∧ Below w.heap.size w w' := by
  have hs2 : w.heap.size ≤ w.heap.size + 1 := by omega
  have h0 := Blk.new w 52 (setC x)
  have h0' := h0.alloc (.cells (setC 0) 52)
  go_enter Tryd.func114, Tryd.ntmps114
  go_wp2_with (go_at_call 129; refine (put_int _ _ (by omega) (by omega) _ _ h0').mono ?_; rintro e w' ⟨rfl, hb1', hg1⟩)
  go_loopw [5] (fun i wr => ∃ k : Nat, k ≤ 4 ∧ i = .int .i64 k ∧ Blk wr w.heap.size 52 (setC (mix k (notB x) (x ||| bit 10))) ∧ Blk wr (w.heap.size + 1) 52 (setC 0) ∧ Below w.heap.size w wr) (fun i _ => 4 - (intOf i).toNat)
  case atStart =>
    refine ⟨0, by omega, rfl, ?_, ?_, ?_⟩
    · rw [mix_zero]; exact hb1'
    · exact (Blk.new' (w.alloc (.cells (setC x) 52)) 52 (setC 0) (World.size_alloc _ _).symm).grown hg1 (by simp)
    · exact (((Below.refl _ _).alloc (Nat.le_refl _) _).alloc (by simp) _).grown hg1 (by simp; omega) (by rintro k ⟨⟩; exact Nat.le_refl _)
  case round =>
    obtain ⟨k, hk, rfl, hb1, hb2, hB⟩ := hrel
    by_cases hlt : k < 4
    · have c1 := hb1.cellv (setC_at _ k hlt)
      have f1 := hb1.frozen k
      go_wp2
      go_roundw
      case rel =>
        refine ⟨k + 1, by omega, by go_num, ?_, (hb2.far (by simp) _), (hB.setCell (Nat.le_refl _) _)⟩
        rw [word_mix_ge _ _ (Nat.le_refl _) hlt, notW hlt]
        exact hb1.set_eq (mix_set hlt rfl)
      case measure => simp [intOf]; omega
    · obtain rfl : k = 4 := by omega
      rw [mix_four] at hb1
      go_wp2_with (first | (refine wl_load_set rfl _ rfl _ rfl _ hb1 ?_) | (refine wl_store_set rfl _ _ rfl _ _ rfl rfl _ hb2 ?_; intro w1 hb4 hg4))
      exact ret_set rfl rfl hb4 rfl ⟨rfl, hB.grown hg4 hB.size (by rintro k ⟨⟩; exact hs2)⟩

end Go.Proofs.YtkedgombccdamaaDoor
namespace Go.Proofs.YtkedgombccdamaaDoor
open Go.RowKit
set_option linter.unusedVariables false
set_option linter.unusedSimpArgs false

set_option maxHeartbeats 400000 in
theorem join_any (A : Option Addr) (n c : Nat) (l : List BSet) (w : World) (hn : n = l.length) (hm : n ≤ maxLen) (hs : SliceOf w w.heap.size 4 setC A l) :
    Calls Tryd.prog 126 #[.slice A n c] w fun e w' => e = .returned (.agg (setC (joinL l))) ∧ Below w.heap.size w w' := by
  have Hn := Lib.hid hn
  clear hn
  unfold maxLen at hm
  have hs2 : w.heap.size ≤ w.heap.size + 1 := by omega
  go_enter Tryd.func126, Tryd.ntmps126
  go_wp2
  go_loopw [9] (fun i wr => ∃ k : Nat, k ≤ n ∧ i = .int .i64 k ∧ Blk wr (w.heap.size + 1) 52 (setC (joinL (l.take k))) ∧ Blk wr w.heap.size 52 (setC 0) ∧ Below w.heap.size w wr) (fun i _ => n - (intOf i).toNat)
  case atStart =>
    refine ⟨0, by omega, rfl, ?_, ?_, ?_⟩
    · rw [show joinL (l.take 0) = 0 from rfl]
      exact Blk.new' _ _ _ (World.size_alloc _ _).symm
    · exact (Blk.new _ _ _).alloc _
    · exact ((Below.refl _ _).alloc (Nat.le_refl _) _).alloc (by simp) _
  case round =>
    obtain ⟨k, hk, rfl, hb1, hb2, hB⟩ := hrel
    by_cases hlt : k < n
    · have hlt' : k < l.length := by have := Hn.out; omega
      obtain ⟨b, off, rfl, hbl, hrow⟩ := (hs.below hB).at_ (by omega)
      have hr := hrow k hlt'
      clear hrow
      have hlt5 : w.heap.size + 1 < wr.heap.size := hb1.lt
      go_wp2_with (first | (refine wl_load_set_at rfl _ rfl _ _ rfl _ hr ?_) | (refine wl_store_set rfl _ _ rfl _ _ rfl rfl 0 (Blk.new _ _ _) ?_; intro w1 hb5 hg5))
      have hb1' := (hb1.alloc (.cells (setC 0) 52)).grown hg5 (by simp; omega)
      have hb2' := (hb2.alloc (.cells (setC 0) 52)).grown hg5 (by simp; omega)
      have hB' := (hB.alloc hB.size (.cells (setC 0) 52)).grown hg5 (by simp; omega) (by rintro k ⟨⟩; omega)
      obtain ⟨g, hg⟩ : ∃ g, g = wr.heap.size := ⟨_, rfl⟩
      rw [← hg] at hb5 ⊢
      have hgw : w.heap.size + 1 < g := by omega
      clear hg hg5 hb1 hb2 hB hr hlt5
      obtain ⟨wo, rfl⟩ : ∃ wo : World, wo = wr := ⟨_, rfl⟩
      go_loopw [13] (fun i wr => ∃ j : Nat, j ≤ 4 ∧ i = .int .i64 j ∧ Blk wr (w.heap.size + 1) 52 (setC (mix j (joinL (l.take k) ||| l[k]) (joinL (l.take k)))) ∧ Blk wr g 52 (setC l[k]) ∧ Blk wr w.heap.size 52 (setC 0) ∧ Below w.heap.size w wr) (fun i _ => 4 - (intOf i).toNat)
      case atStart => exact ⟨0, by omega, rfl, by rw [mix_zero]; exact hb1', hb5, hb2', hB'⟩
      case round =>
        obtain ⟨j, hj, rfl, hb1, hb5, hb2, hB⟩ := hrel
        by_cases hjt : j < 4
        · have c1 := hb1.cellv (setC_at _ j hjt)
          have c2 := hb5.cellv (setC_at _ j hjt)
          have f1 := hb1.frozen j
          go_wp2
          go_region
          go_wp2
          go_roundw
          case rel =>
            refine ⟨j + 1, by omega, by go_num, ?_, (hb5.far (by simp; omega) _).drew, (hb2.far (by simp) _).drew, (hB.setCell hs2 _).drew⟩
            rw [word_mix_ge _ _ (Nat.le_refl _) hjt, u64_or_nat _ _ (word_lt' _ _) (word_lt' _ _)]
            exact (hb1.set_eq (mix_set hjt (word_or _ _ _))).drew
          case measure => simp [intOf]; omega
        · obtain rfl : j = 4 := by omega
          rw [mix_four] at hb1
          go_wp2
          go_roundw
          case rel => exact ⟨k + 1, by omega, by go_num, by rw [take_snoc' l k hlt', joinL_snoc]; exact hb1, hb2, hB⟩
          case measure => simp [intOf]; omega
    · have hkk : l.take k = l := List.take_of_length_le (by have := Hn.out; omega)
      rw [hkk] at hb1
      clear hkk
      go_wp2_with (first | (refine wl_load_set rfl _ rfl _ rfl _ hb1 ?_) | (refine wl_store_set rfl _ _ rfl _ _ rfl rfl _ hb2 ?_; intro w1 hb4 hg4))
      exact ret_set rfl rfl hb4 rfl ⟨rfl, hB.grown hg4 hB.size (by rintro k ⟨⟩; exact Nat.le_refl _)⟩

end Go.Proofs.YtkedgombccdamaaDoor
namespace Go.Proofs.YtkedgombccdamaaDoor
open Go.RowKit Go.Maps
set_option linter.unusedVariables false
set_option linter.unusedSimpArgs false

def setsS (xs : List BSet) : GSpec :=
  ⟨fun v w => ∃ A n c, v = .slice A n c ∧ n = xs.length ∧ SliceOf w w.heap.size 4 setC A xs,
   fun v w w' ⟨A, n, c, h1, h2, h3⟩ hb => ⟨A, n, c, h1, h2, (h3.below hb).more hb.size⟩⟩
def bytesS (xs : List UInt8) : GSpec :=
  ⟨fun v w => ∃ A n c, v = .slice A n c ∧ n = xs.length ∧ SliceOf w w.heap.size 1 enc8 A xs,
   fun v w w' ⟨A, n, c, h1, h2, h3⟩ hb => ⟨A, n, c, h1, h2, (h3.below hb).more hb.size⟩⟩

theorem enter_join (args : Array Value) (w : World) : (callFunc 126 args).run Tryd.prog w = .ok (.enter 126 args) w := by kernel_rfl
theorem enter_meet (args : Array Value) (w : World) : (callFunc 128 args).run Tryd.prog w = .ok (.enter 128 args) w := by kernel_rfl
theorem enter_not (args : Array Value) (w : World) : (callFunc 114 args).run Tryd.prog w = .ok (.enter 114 args) w := by kernel_rfl
theorem build_sets2 (x y : BSet) (w : World) : (Instr.buildSlice 83 2 #[(0, .agg (setC x)), (1, .agg (setC y))]).run Tryd.prog w = .ok (.slice (some ⟨w.heap.size, 0, none⟩) 2 2) (w.alloc (.cells (setC x ++ setC y) 52)) := by kernel_rfl
theorem row_of_append {w : World} {g : Nat} {t : TypeId} {A B C : Array Value} (h : Blk w g t (A ++ B ++ C)) : RowAt w g A.size B := by
  intro j v hv
  have hj : j < B.size := by
    rcases Nat.lt_or_ge j B.size with h1 | h1
    · exact h1
    · rw [Array.getElem?_eq_none h1] at hv; cases hv
  apply h.cellv
  rw [Array.getElem?_append_left (by simp; omega), Array.getElem?_append_right (by omega)]
  rw [show A.size + j - A.size = j by omega]
  exact hv
theorem sets2_of (x y : BSet) (w : World) : SliceOf (w.alloc (.cells (setC x ++ setC y) 52)) (w.alloc (.cells (setC x ++ setC y) 52)).heap.size 4 setC (some ⟨w.heap.size, 0, none⟩) [x, y] := by
  refine .inr ⟨w.heap.size, 0, rfl, by simp, fun i hi => ?_⟩
  have hb := Blk.new w 52 (setC x ++ setC y)
  match i, hi with
  | 0, _ => exact row_of_append (A := #[]) (C := setC y) (by simpa using hb)
  | 1, _ => exact row_of_append (A := setC x) (C := #[]) (by simpa using hb)
theorem enter_of (args : Array Value) (w : World) : (callFunc 116 args).run Tryd.prog w = .ok (.enter 116 args) w := by kernel_rfl
theorem build_byte1 (b : Int) (w : World) : (Instr.buildSlice 85 1 #[(0, .int .u8 b)]).run Tryd.prog w = .ok (.slice (some ⟨w.heap.size, 0, none⟩) 1 1) (w.alloc (.cells #[.int .u8 b] 5)) := by kernel_rfl
theorem enter_span (args : Array Value) (w : World) : (callFunc 134 args).run Tryd.prog w = .ok (.enter 134 args) w := by kernel_rfl
theorem build_byte2 (b c : Int) (w : World) : (Instr.buildSlice 85 2 #[(0, .int .u8 b), (1, .int .u8 c)]).run Tryd.prog w = .ok (.slice (some ⟨w.heap.size, 0, none⟩) 2 2) (w.alloc (.cells #[.int .u8 b, .int .u8 c] 5)) := by kernel_rfl
theorem bytes_of_blk {w : World} {g : Nat} {t : TypeId} {l : List UInt8} (h : Blk w g t (l.map fun b => Value.int .u8 b.toNat).toArray) : SliceOf w w.heap.size 1 enc8 (some ⟨g, 0, none⟩) l := by
  refine .inr ⟨g, 0, rfl, h.lt, fun i hi j v hv => ?_⟩
  have hj : j = 0 := by
    rcases Nat.eq_zero_or_pos j with h0 | h0
    · exact h0
    · rw [Array.getElem?_eq_none (by simp [enc8]; omega)] at hv; cases hv
  subst hj
  apply h.cellv
  simp only [enc8, List.getElem?_toArray, List.getElem?_cons_zero, Option.some.injEq] at hv
  subst hv
  simp [hi]

theorem bytes_of_two {w : World} {g : Nat} {t : TypeId} (b c : UInt8) (h : Blk w g t #[.int .u8 b.toNat, .int .u8 c.toNat]) : SliceOf w w.heap.size 1 enc8 (some ⟨g, 0, none⟩) [b, c] := by
  have := bytes_of_blk (l := [b, c]) (w := w) (g := g) (t := t) h
  exact this
section
variable {ops : Array Oper} {S : Nat → GSpec} {Q : Exit → Act → World → Prop} {i : Nat} {o : Oper} {a : Act} {w : World}
theorem gs_sets2 (hw : Region.wanted o (yielded ops a.tmps) = true) (x y : Operand) (ho : o.op = .buildSlice 83 2 #[(0, x), (1, y)]) (p q : BSet) (hx : a.eval x = .agg (setC p)) (hy : a.eval y = .agg (setC q))
    (hp : ∀ v w', (setsS [p, q]).p v w' → (S i).p v w') : GStep Tryd.prog ops S Q i o a w :=
  gs_run hw (v := .slice (some ⟨w.heap.size, 0, none⟩) 2 2) (w' := w.alloc (.cells (setC p ++ setC q) 52))
    (by
      have e : (#[(0, x), (1, y)] : Array (Nat × Operand)).map (fun (i, x) => (i, a.eval x)) = #[(0, .agg (setC p)), (1, .agg (setC q))] := by simp [hx, hy]
      unfold execOp; simp only [ho, e, Sem.run_bind, build_sets2, Result.andThen_ok, Sem.run_pure])
    (below_alloc (Below.refl _ _) _) (hp _ _ ⟨_, _, _, rfl, rfl, sets2_of p q w⟩)
theorem gs_join (hw : Region.wanted o (yielded ops a.tmps) = true) (x : Operand) (ats : Array TypeId) (ho : o.op = .call { callee := .value (.func 126), args := #[x], argTypes := ats }) (xs : List BSet)
    (hx : (setsS xs).p (a.eval x) w) (hl : xs.length ≤ maxLen) (hp : ∀ w', (S i).p (.agg (setC (joinL xs))) w') : GStep Tryd.prog ops S Q i o a w := by
  obtain ⟨A, n, c, hv, hn, hs⟩ := hx
  exact gs_call hw _ _ _ ho enter_join _ (map1 hv) ((join_any A n c xs w hn (by omega) hs).mono fun e w' ⟨he, hb⟩ => ⟨_, he, hb, hp _⟩)
theorem gs_meet (hw : Region.wanted o (yielded ops a.tmps) = true) (x y : Operand) (ats : Array TypeId) (ho : o.op = .call { callee := .value (.func 128), args := #[x, y], argTypes := ats }) (p q : BSet)
    (hx : a.eval x = .agg (setC p)) (hy : a.eval y = .agg (setC q)) (hp : ∀ w', (S i).p (.agg (setC (p &&& q))) w') : GStep Tryd.prog ops S Q i o a w :=
  gs_call hw _ _ _ ho enter_meet _ (map2 hx hy) ((meet_any p q w).mono fun e w' ⟨he, hb⟩ => ⟨_, he, hb, hp _⟩)
theorem gs_not (hw : Region.wanted o (yielded ops a.tmps) = true) (x : Operand) (ats : Array TypeId) (ho : o.op = .call { callee := .value (.func 114), args := #[x], argTypes := ats }) (p : BSet)
    (hx : a.eval x = .agg (setC p)) (hp : ∀ w', (S i).p (.agg (setC (notB p))) w') : GStep Tryd.prog ops S Q i o a w :=
  gs_call hw _ _ _ ho enter_not _ (map1 hx) ((not_any p w).mono fun e w' ⟨he, hb⟩ => ⟨_, he, hb, hp _⟩)
theorem gs_byte1 (hw : Region.wanted o (yielded ops a.tmps) = true) (x : Operand) (ho : o.op = .buildSlice 85 1 #[(0, x)]) (b : UInt8) (hx : a.eval x = .int .u8 b.toNat)
    (hp : ∀ v w', (bytesS [b]).p v w' → (S i).p v w') : GStep Tryd.prog ops S Q i o a w :=
  gs_run hw (v := .slice (some ⟨w.heap.size, 0, none⟩) 1 1) (w' := w.alloc (.cells #[.int .u8 b.toNat] 5))
    (by
      have e : (#[(0, x)] : Array (Nat × Operand)).map (fun (i, x) => (i, a.eval x)) = #[(0, .int .u8 b.toNat)] := by simp [hx]
      unfold execOp; simp only [ho, e, Sem.run_bind, build_byte1, Result.andThen_ok, Sem.run_pure])
    (below_alloc (Below.refl _ _) _) (hp _ _ ⟨_, _, _, rfl, rfl, bytes_of_blk (l := [b]) (Blk.new w 5 #[.int .u8 b.toNat])⟩)
theorem gs_of (hw : Region.wanted o (yielded ops a.tmps) = true) (x : Operand) (ats : Array TypeId) (ho : o.op = .call { callee := .value (.func 116), args := #[x], argTypes := ats }) (xs : List UInt8)
    (hx : (bytesS xs).p (a.eval x) w) (hl : xs.length ≤ maxLen) (hp : ∀ w', (S i).p (.agg (setC (ofB xs))) w') : GStep Tryd.prog ops S Q i o a w := by
  obtain ⟨A, n, c, hv, hn, hs⟩ := hx
  exact gs_call hw _ _ _ ho enter_of _ (map1 hv) ((of_any A n c xs w hn (by omega) hs).mono fun e w' ⟨he, hb⟩ => ⟨_, he, hb, hp _⟩)
theorem gs_span (hw : Region.wanted o (yielded ops a.tmps) = true) (x y : Operand) (ats : Array TypeId) (ho : o.op = .call { callee := .value (.func 134), args := #[x, y], argTypes := ats }) (p q : Nat)
    (hx : a.eval x = .int .u8 (p : Int)) (hy : a.eval y = .int .u8 (q : Int)) (hp0 : p < 256) (hq0 : q < 256) (hp : ∀ w', (S i).p (.agg (setC (spanB p q))) w') : GStep Tryd.prog ops S Q i o a w :=
  gs_call hw _ _ _ ho enter_span _ (map2 hx hy) ((span_any p q w hp0 hq0).mono fun e w' ⟨he, hb⟩ => ⟨_, he, hb, hp _⟩)
theorem gs_byte2 (hw : Region.wanted o (yielded ops a.tmps) = true) (x y : Operand) (ho : o.op = .buildSlice 85 2 #[(0, x), (1, y)]) (b c : UInt8) (hx : a.eval x = .int .u8 b.toNat) (hy : a.eval y = .int .u8 c.toNat)
    (hp : ∀ v w', (bytesS [b, c]).p v w' → (S i).p v w') : GStep Tryd.prog ops S Q i o a w :=
  gs_run hw (v := .slice (some ⟨w.heap.size, 0, none⟩) 2 2) (w' := w.alloc (.cells #[.int .u8 b.toNat, .int .u8 c.toNat] 5))
    (by
      have e : (#[(0, x), (1, y)] : Array (Nat × Operand)).map (fun (i, x) => (i, a.eval x)) = #[(0, .int .u8 b.toNat), (1, .int .u8 c.toNat)] := by simp [hx, hy]
      unfold execOp; simp only [ho, e, Sem.run_bind, build_byte2, Result.andThen_ok, Sem.run_pure])
    (below_alloc (Below.refl _ _) _) (hp _ _ ⟨_, _, _, rfl, rfl, bytes_of_two b c (Blk.new w 5 #[.int .u8 b.toNat, .int .u8 c.toNat])⟩)
theorem ret_set2 {fn : Func} {p u : Tmp} {g : Nat} {x : BSet} (hres : fn.results = #[.cell p 52, .tmp u])
    (hp : a.tmps.getD p undef = .pointer (some ⟨g, 0, none⟩)) (hb : Blk w g 52 (setC x))
    (hdf : a.defers = []) {R : Ending → World → Prop} (hR : R (.returned (.tuple #[.agg (setC x), a.tmps.getD u undef])) w) : bodyPost Tryd.prog fn R .ret a w :=
  ret_cell2 hres _ hp hb Tryd.underlying52 rfl (info_set.trans (by rw [setC_size])) hdf hR
end
end Go.Proofs.YtkedgombccdamaaDoor
namespace Go.Proofs.YtkedgombccdamaaDoor
open Go.RowKit
set_option linter.unusedVariables false
set_option linter.unusedSimpArgs false
theorem alnum_l : (⟨#[97, 108, 110, 117, 109]⟩ : ByteArray).toList = [97, 108, 110, 117, 109] := by rw [ByteArray.toList_eq]

def cls_alnum : BSet := (joinL [(joinL [(spanB 48 57), (spanB 65 90)]), (spanB 97 122)])
set_option maxRecDepth 100000 in
set_option maxHeartbeats 1000000 in
theorem class_alnum (s : ByteArray) (w : World) (hs : Hid (s.toList = [97, 108, 110, 117, 109])) : Calls Tryd.prog 136 #[.string s] w fun e w' => e = .returned (.tuple #[.agg (setC cls_alnum), .int .i64 0]) ∧ Below w.heap.size w w' := by
  have hb2 := (Blk.new w 52 (setC 0)).alloc (.cells (setC 0) 52)
  have hb4 := Blk.new' (w.alloc (.cells (setC 0) 52)) 52 (setC 0) (World.size_alloc _ _).symm
  have hB := below_alloc (below_alloc (Below.refl w.heap.size w) (.cells (setC 0) 52)) (.cells (setC 0) 52)
  unfold cls_alnum
  have q_alnum : (s.toList == [97, 108, 110, 117, 109]) = true := by rw [hs.out]; decide
  go_enter Tryd.func136, Tryd.ntmps136
  go_upto_region 15 with (fail)
  refine wp_region_text 1 [eqS (.agg (setC (spanB 48 57)))] [32] (by kernel_rfl) rfl ?_ ?_
  · refine Steps.cons (fun a' w' hG hB dep => gs_span (want_none rfl) _ _ _ rfl 48 57 rfl rfl (by decide) (by decide) (fun _ => rfl)) ?_
    exact Steps.nil
  intro u w3 hB3 ans
  have ux : u 32 = .agg (setC (spanB 48 57)) := ans 0 32 (by decide) rfl
  clear ans
  simp only [putAll, List.foldl_cons, List.foldl_nil, Act.put, List.setIfInBounds_toArray, List.set_cons_zero, List.set_cons_succ, ux]
  clear ux
  go_upto_region 16 with (refine wl_store_set rfl _ _ rfl _ _ rfl rfl _ (blk_then hb4 hB3) ?_; intro w4 hb4' hg4)
  replace hb2 := blk_grown (blk_then hb2 hB3) hg4 (by omega)
  replace hB := below_grown (below_then hB hB3) hg4 (by omega)
  replace hb4 := hb4'
  clear hb4' hg4 hB3
  obtain ⟨wv, hwv⟩ : ∃ x, x = w4 := ⟨_, rfl⟩
  rw [← hwv] at hb2 hb4 hB ⊢
  clear hwv w4
  go_upto_region 16 with (fail)
  refine wp_region_steps 4 [eqS (.agg (setC (spanB 48 57))), eqS (.agg (setC (spanB 65 90))), setsS [(spanB 48 57), (spanB 65 90)], eqS (.agg (setC (joinL [(spanB 48 57), (spanB 65 90)])))] [33, 34, 35, 36] follows_mixed (by kernel_rfl) rfl ?_ ?_
  · refine Steps.cons (fun a' w' hG hB dep => gs_load_set (want_none rfl) _ rfl _ (hG.other 4 rfl) _ (blk_then hb4 hB) rfl) ?_
    refine Steps.cons (fun a' w' hG hB dep => gs_span (want_none rfl) _ _ _ rfl 65 90 rfl rfl (by decide) (by decide) (fun _ => rfl)) ?_
    refine Steps.cons (fun a' w' hG hB dep => gs_sets2 (want_none rfl) _ _  rfl _ _ (dep 0 rfl 33 rfl) (dep 1 rfl 34 rfl) (fun _ _ h => h)) ?_
    refine Steps.cons (fun a' w' hG hB dep => gs_join (want_none rfl) _ _ rfl _ (dep 2 rfl 35 rfl) (Nat.le_of_ble_eq_true rfl) (fun _ => rfl)) ?_
    exact Steps.nil
  intro u w3 hB3 ans
  have ux : u 36 = .agg (setC (joinL [(spanB 48 57), (spanB 65 90)])) := ans 3 36 (by decide) rfl
  clear ans
  simp only [putAll, List.foldl_cons, List.foldl_nil, Act.put, List.setIfInBounds_toArray, List.set_cons_zero, List.set_cons_succ, ux]
  clear ux
  go_upto_region 17 with (refine wl_store_set rfl _ _ rfl _ _ rfl rfl _ (blk_then hb4 hB3) ?_; intro w4 hb4' hg4)
  replace hb2 := blk_grown (blk_then hb2 hB3) hg4 (by omega)
  replace hB := below_grown (below_then hB hB3) hg4 (by omega)
  replace hb4 := hb4'
  clear hb4' hg4 hB3
  obtain ⟨wv, hwv⟩ : ∃ x, x = w4 := ⟨_, rfl⟩
  rw [← hwv] at hb2 hb4 hB ⊢
  clear hwv w4
  go_upto_region 17 with (fail)
  refine wp_region_steps 4 [eqS (.agg (setC (joinL [(spanB 48 57), (spanB 65 90)]))), eqS (.agg (setC (spanB 97 122))), setsS [(joinL [(spanB 48 57), (spanB 65 90)]), (spanB 97 122)], eqS (.agg (setC (joinL [(joinL [(spanB 48 57), (spanB 65 90)]), (spanB 97 122)])))] [37, 38, 39, 40] follows_mixed (by kernel_rfl) rfl ?_ ?_
  · refine Steps.cons (fun a' w' hG hB dep => gs_load_set (want_none rfl) _ rfl _ (hG.other 4 rfl) _ (blk_then hb4 hB) rfl) ?_
    refine Steps.cons (fun a' w' hG hB dep => gs_span (want_none rfl) _ _ _ rfl 97 122 rfl rfl (by decide) (by decide) (fun _ => rfl)) ?_
    refine Steps.cons (fun a' w' hG hB dep => gs_sets2 (want_none rfl) _ _  rfl _ _ (dep 0 rfl 37 rfl) (dep 1 rfl 38 rfl) (fun _ _ h => h)) ?_
    refine Steps.cons (fun a' w' hG hB dep => gs_join (want_none rfl) _ _ rfl _ (dep 2 rfl 39 rfl) (Nat.le_of_ble_eq_true rfl) (fun _ => rfl)) ?_
    exact Steps.nil
  intro u w3 hB3 ans
  have ux : u 40 = .agg (setC (joinL [(joinL [(spanB 48 57), (spanB 65 90)]), (spanB 97 122)])) := ans 3 40 (by decide) rfl
  clear ans
  simp only [putAll, List.foldl_cons, List.foldl_nil, Act.put, List.setIfInBounds_toArray, List.set_cons_zero, List.set_cons_succ, ux]
  clear ux
  go_upto_region 29 with (refine wl_store_set rfl _ _ rfl _ _ rfl rfl _ (blk_then hb4 hB3) ?_; intro w4 hb4' hg4)
  replace hb2 := blk_grown (blk_then hb2 hB3) hg4 (by omega)
  replace hB := below_grown (below_then hB hB3) hg4 (by omega)
  replace hb4 := hb4'
  clear hb4' hg4 hB3
  obtain ⟨wv, hwv⟩ : ∃ x, x = w4 := ⟨_, rfl⟩
  rw [← hwv] at hb2 hb4 hB ⊢
  clear hwv w4
  go_wp2_with (first | (refine wl_load_set rfl _ rfl _ rfl _ hb4 ?_) | (refine wl_store_set rfl _ _ rfl _ _ rfl rfl _ hb2 ?_; intro w9 hb9 hg9))
  exact ret_set2 rfl rfl hb9 rfl ⟨rfl, below_grown hB hg9 (Nat.le_refl _)⟩

def cls_punct : BSet := ((spanB 33 126) &&& (notB (cls_alnum)))
set_option maxRecDepth 100000 in
set_option maxHeartbeats 1000000 in
theorem class_punct (s : ByteArray) (w : World) (hs : Hid (s.toList = [112, 117, 110, 99, 116])) : Calls Tryd.prog 136 #[.string s] w fun e w' => e = .returned (.tuple #[.agg (setC cls_punct), .int .i64 0]) ∧ Below w.heap.size w w' := by
  have hb2 := (Blk.new w 52 (setC 0)).alloc (.cells (setC 0) 52)
  have hb4 := Blk.new' (w.alloc (.cells (setC 0) 52)) 52 (setC 0) (World.size_alloc _ _).symm
  have hB := below_alloc (below_alloc (Below.refl w.heap.size w) (.cells (setC 0) 52)) (.cells (setC 0) 52)
  unfold cls_punct
  have q_alnum : (s.toList == [97, 108, 110, 117, 109]) = false := by rw [hs.out]; decide
  have q_alpha : (s.toList == [97, 108, 112, 104, 97]) = false := by rw [hs.out]; decide
  have q_lower : (s.toList == [108, 111, 119, 101, 114]) = false := by rw [hs.out]; decide
  have q_upper : (s.toList == [117, 112, 112, 101, 114]) = false := by rw [hs.out]; decide
  have q_xdigit : (s.toList == [120, 100, 105, 103, 105, 116]) = false := by rw [hs.out]; decide
  have q_digit : (s.toList == [100, 105, 103, 105, 116]) = false := by rw [hs.out]; decide
  have q_space : (s.toList == [115, 112, 97, 99, 101]) = false := by rw [hs.out]; decide
  have q_blank : (s.toList == [98, 108, 97, 110, 107]) = false := by rw [hs.out]; decide
  have q_cntrl : (s.toList == [99, 110, 116, 114, 108]) = false := by rw [hs.out]; decide
  have q_print : (s.toList == [112, 114, 105, 110, 116]) = false := by rw [hs.out]; decide
  have q_graph : (s.toList == [103, 114, 97, 112, 104]) = false := by rw [hs.out]; decide
  have q_punct : (s.toList == [112, 117, 110, 99, 116]) = true := by rw [hs.out]; decide
  go_enter Tryd.func136, Tryd.ntmps136
  go_upto_region 27 with (first | (go_at_call 136; refine (class_alnum ⟨#[97, 108, 110, 117, 109]⟩ _ (Lib.hid alnum_l)).mono ?_; rintro e w8 ⟨rfl, hB8⟩) | (refine wl_store_set rfl _ _ rfl _ _ rfl rfl 0 (Blk.new _ _ _) ?_; intro w9 hb5 hg9))
  have hK := below_then hB8 (below_grown (below_alloc (Below.refl w8.heap.size w8) (.cells (setC 0) 52)) hg9 (Nat.le_refl _))
  replace hb4 := blk_then hb4 hK
  replace hb2 := blk_then hb2 hK
  replace hB := below_then hB hK
  clear hK hB8 hg9
  go_upto_region 27 with (fail)
  refine wp_region_steps 4 [eqS (.agg (setC (spanB 33 126))), eqS (.agg (setC (cls_alnum))), eqS (.agg (setC (notB (cls_alnum)))), eqS (.agg (setC ((spanB 33 126) &&& (notB (cls_alnum)))))] [71, 72, 73, 74] follows_mixed (by kernel_rfl) rfl ?_ ?_
  · refine Steps.cons (fun a' w' hG hB dep => gs_span (want_none rfl) _ _ _ rfl 33 126 rfl rfl (by decide) (by decide) (fun _ => rfl)) ?_
    refine Steps.cons (fun a' w' hG hB dep => gs_load_set (want_none rfl) _ rfl _ (hG.other 5 rfl) _ (blk_then hb5 hB) rfl) ?_
    refine Steps.cons (fun a' w' hG hB dep => gs_not (want_none rfl) _ _ rfl _ (dep 1 rfl 72 rfl) (fun _ => rfl)) ?_
    refine Steps.cons (fun a' w' hG hB dep => gs_meet (want_none rfl) _ _ _ rfl _ _ (dep 0 rfl 71 rfl) (dep 2 rfl 73 rfl) (fun _ => rfl)) ?_
    exact Steps.nil
  intro u w3 hB3 ans
  have ux : u 74 = .agg (setC ((spanB 33 126) &&& (notB (cls_alnum)))) := ans 3 74 (by decide) rfl
  clear ans
  simp only [putAll, List.foldl_cons, List.foldl_nil, Act.put, List.setIfInBounds_toArray, List.set_cons_zero, List.set_cons_succ, ux]
  clear ux
  go_upto_region 29 with (refine wl_store_set rfl _ _ rfl _ _ rfl rfl _ (blk_then hb4 hB3) ?_; intro w4 hb4' hg4)
  replace hb2 := blk_grown (blk_then hb2 hB3) hg4 (by omega)
  replace hB := below_grown (below_then hB hB3) hg4 (by omega)
  replace hb4 := hb4'
  clear hb4' hg4 hB3
  obtain ⟨wv, hwv⟩ : ∃ x, x = w4 := ⟨_, rfl⟩
  rw [← hwv] at hb2 hb4 hB ⊢
  clear hwv w4
  go_wp2_with (first | (refine wl_load_set rfl _ rfl _ rfl _ hb4 ?_) | (refine wl_store_set rfl _ _ rfl _ _ rfl rfl _ hb2 ?_; intro w9 hb9 hg9))
  exact ret_set2 rfl rfl hb9 rfl ⟨rfl, below_grown hB hg9 (Nat.le_refl _)⟩

def cls_graph : BSet := (joinL [0, (spanB 33 126)])
set_option maxRecDepth 100000 in
set_option maxHeartbeats 1000000 in
theorem class_graph (s : ByteArray) (w : World) (hs : Hid (s.toList = [103, 114, 97, 112, 104])) : Calls Tryd.prog 136 #[.string s] w fun e w' => e = .returned (.tuple #[.agg (setC cls_graph), .int .i64 0]) ∧ Below w.heap.size w w' := by
  have hb2 := (Blk.new w 52 (setC 0)).alloc (.cells (setC 0) 52)
  have hb4 := Blk.new' (w.alloc (.cells (setC 0) 52)) 52 (setC 0) (World.size_alloc _ _).symm
  have hB := below_alloc (below_alloc (Below.refl w.heap.size w) (.cells (setC 0) 52)) (.cells (setC 0) 52)
  unfold cls_graph
  have q_alnum : (s.toList == [97, 108, 110, 117, 109]) = false := by rw [hs.out]; decide
  have q_alpha : (s.toList == [97, 108, 112, 104, 97]) = false := by rw [hs.out]; decide
  have q_lower : (s.toList == [108, 111, 119, 101, 114]) = false := by rw [hs.out]; decide
  have q_upper : (s.toList == [117, 112, 112, 101, 114]) = false := by rw [hs.out]; decide
  have q_xdigit : (s.toList == [120, 100, 105, 103, 105, 116]) = false := by rw [hs.out]; decide
  have q_digit : (s.toList == [100, 105, 103, 105, 116]) = false := by rw [hs.out]; decide
  have q_space : (s.toList == [115, 112, 97, 99, 101]) = false := by rw [hs.out]; decide
  have q_blank : (s.toList == [98, 108, 97, 110, 107]) = false := by rw [hs.out]; decide
  have q_cntrl : (s.toList == [99, 110, 116, 114, 108]) = false := by rw [hs.out]; decide
  have q_print : (s.toList == [112, 114, 105, 110, 116]) = false := by rw [hs.out]; decide
  have q_graph : (s.toList == [103, 114, 97, 112, 104]) = true := by rw [hs.out]; decide
  go_enter Tryd.func136, Tryd.ntmps136
  go_upto_region 25 with (fail)
  refine wp_region_steps 4 [eqS (.agg (setC 0)), eqS (.agg (setC (spanB 33 126))), setsS [0, (spanB 33 126)], eqS (.agg (setC (joinL [0, (spanB 33 126)])))] [63, 64, 65, 66] follows_mixed (by kernel_rfl) rfl ?_ ?_
  · refine Steps.cons (fun a' w' hG hB dep => gs_load_set (want_none rfl) _ rfl _ (hG.other 4 rfl) _ (blk_then hb4 hB) rfl) ?_
    refine Steps.cons (fun a' w' hG hB dep => gs_span (want_none rfl) _ _ _ rfl 33 126 rfl rfl (by decide) (by decide) (fun _ => rfl)) ?_
    refine Steps.cons (fun a' w' hG hB dep => gs_sets2 (want_none rfl) _ _  rfl _ _ (dep 0 rfl 63 rfl) (dep 1 rfl 64 rfl) (fun _ _ h => h)) ?_
    refine Steps.cons (fun a' w' hG hB dep => gs_join (want_none rfl) _ _ rfl _ (dep 2 rfl 65 rfl) (Nat.le_of_ble_eq_true rfl) (fun _ => rfl)) ?_
    exact Steps.nil
  intro u w3 hB3 ans
  have ux : u 66 = .agg (setC (joinL [0, (spanB 33 126)])) := ans 3 66 (by decide) rfl
  clear ans
  simp only [putAll, List.foldl_cons, List.foldl_nil, Act.put, List.setIfInBounds_toArray, List.set_cons_zero, List.set_cons_succ, ux]
  clear ux
  go_upto_region 29 with (refine wl_store_set rfl _ _ rfl _ _ rfl rfl _ (blk_then hb4 hB3) ?_; intro w4 hb4' hg4)
  replace hb2 := blk_grown (blk_then hb2 hB3) hg4 (by omega)
  replace hB := below_grown (below_then hB hB3) hg4 (by omega)
  replace hb4 := hb4'
  clear hb4' hg4 hB3
  obtain ⟨wv, hwv⟩ : ∃ x, x = w4 := ⟨_, rfl⟩
  rw [← hwv] at hb2 hb4 hB ⊢
  clear hwv w4
  go_wp2_with (first | (refine wl_load_set rfl _ rfl _ rfl _ hb4 ?_) | (refine wl_store_set rfl _ _ rfl _ _ rfl rfl _ hb2 ?_; intro w9 hb9 hg9))
  exact ret_set2 rfl rfl hb9 rfl ⟨rfl, below_grown hB hg9 (Nat.le_refl _)⟩

end Go.Proofs.YtkedgombccdamaaDoor
namespace Go.Proofs.YtkedgombccdamaaDoor
open Go.RowKit
set_option linter.unusedVariables false
set_option linter.unusedSimpArgs false

def cls_alpha : BSet := (joinL [(joinL [0, (spanB 65 90)]), (spanB 97 122)])
set_option maxRecDepth 100000 in
set_option maxHeartbeats 1000000 in
theorem class_alpha (s : ByteArray) (w : World) (hs : Hid (s.toList = [97, 108, 112, 104, 97])) : Calls Tryd.prog 136 #[.string s] w fun e w' => e = .returned (.tuple #[.agg (setC cls_alpha), .int .i64 0]) ∧ Below w.heap.size w w' := by
  have hb2 := (Blk.new w 52 (setC 0)).alloc (.cells (setC 0) 52)
  have hb4 := Blk.new' (w.alloc (.cells (setC 0) 52)) 52 (setC 0) (World.size_alloc _ _).symm
  have hB := below_alloc (below_alloc (Below.refl w.heap.size w) (.cells (setC 0) 52)) (.cells (setC 0) 52)
  unfold cls_alpha
  have q_alnum : (s.toList == [97, 108, 110, 117, 109]) = false := by rw [hs.out]; decide
  have q_alpha : (s.toList == [97, 108, 112, 104, 97]) = true := by rw [hs.out]; decide
  go_enter Tryd.func136, Tryd.ntmps136
  go_upto_region 16 with (fail)
  refine wp_region_steps 4 [eqS (.agg (setC 0)), eqS (.agg (setC (spanB 65 90))), setsS [0, (spanB 65 90)], eqS (.agg (setC (joinL [0, (spanB 65 90)])))] [33, 34, 35, 36] follows_mixed (by kernel_rfl) rfl ?_ ?_
  · refine Steps.cons (fun a' w' hG hB dep => gs_load_set (want_none rfl) _ rfl _ (hG.other 4 rfl) _ (blk_then hb4 hB) rfl) ?_
    refine Steps.cons (fun a' w' hG hB dep => gs_span (want_none rfl) _ _ _ rfl 65 90 rfl rfl (by decide) (by decide) (fun _ => rfl)) ?_
    refine Steps.cons (fun a' w' hG hB dep => gs_sets2 (want_none rfl) _ _  rfl _ _ (dep 0 rfl 33 rfl) (dep 1 rfl 34 rfl) (fun _ _ h => h)) ?_
    refine Steps.cons (fun a' w' hG hB dep => gs_join (want_none rfl) _ _ rfl _ (dep 2 rfl 35 rfl) (Nat.le_of_ble_eq_true rfl) (fun _ => rfl)) ?_
    exact Steps.nil
  intro u w3 hB3 ans
  have ux : u 36 = .agg (setC (joinL [0, (spanB 65 90)])) := ans 3 36 (by decide) rfl
  clear ans
  simp only [putAll, List.foldl_cons, List.foldl_nil, Act.put, List.setIfInBounds_toArray, List.set_cons_zero, List.set_cons_succ, ux]
  clear ux
  go_upto_region 17 with (refine wl_store_set rfl _ _ rfl _ _ rfl rfl _ (blk_then hb4 hB3) ?_; intro w4 hb4' hg4)
  replace hb2 := blk_grown (blk_then hb2 hB3) hg4 (by omega)
  replace hB := below_grown (below_then hB hB3) hg4 (by omega)
  replace hb4 := hb4'
  clear hb4' hg4 hB3
  obtain ⟨wv, hwv⟩ : ∃ x, x = w4 := ⟨_, rfl⟩
  rw [← hwv] at hb2 hb4 hB ⊢
  clear hwv w4
  go_upto_region 17 with (fail)
  refine wp_region_steps 4 [eqS (.agg (setC (joinL [0, (spanB 65 90)]))), eqS (.agg (setC (spanB 97 122))), setsS [(joinL [0, (spanB 65 90)]), (spanB 97 122)], eqS (.agg (setC (joinL [(joinL [0, (spanB 65 90)]), (spanB 97 122)])))] [37, 38, 39, 40] follows_mixed (by kernel_rfl) rfl ?_ ?_
  · refine Steps.cons (fun a' w' hG hB dep => gs_load_set (want_none rfl) _ rfl _ (hG.other 4 rfl) _ (blk_then hb4 hB) rfl) ?_
    refine Steps.cons (fun a' w' hG hB dep => gs_span (want_none rfl) _ _ _ rfl 97 122 rfl rfl (by decide) (by decide) (fun _ => rfl)) ?_
    refine Steps.cons (fun a' w' hG hB dep => gs_sets2 (want_none rfl) _ _  rfl _ _ (dep 0 rfl 37 rfl) (dep 1 rfl 38 rfl) (fun _ _ h => h)) ?_
    refine Steps.cons (fun a' w' hG hB dep => gs_join (want_none rfl) _ _ rfl _ (dep 2 rfl 39 rfl) (Nat.le_of_ble_eq_true rfl) (fun _ => rfl)) ?_
    exact Steps.nil
  intro u w3 hB3 ans
  have ux : u 40 = .agg (setC (joinL [(joinL [0, (spanB 65 90)]), (spanB 97 122)])) := ans 3 40 (by decide) rfl
  clear ans
  simp only [putAll, List.foldl_cons, List.foldl_nil, Act.put, List.setIfInBounds_toArray, List.set_cons_zero, List.set_cons_succ, ux]
  clear ux
  go_upto_region 29 with (refine wl_store_set rfl _ _ rfl _ _ rfl rfl _ (blk_then hb4 hB3) ?_; intro w4 hb4' hg4)
  replace hb2 := blk_grown (blk_then hb2 hB3) hg4 (by omega)
  replace hB := below_grown (below_then hB hB3) hg4 (by omega)
  replace hb4 := hb4'
  clear hb4' hg4 hB3
  obtain ⟨wv, hwv⟩ : ∃ x, x = w4 := ⟨_, rfl⟩
  rw [← hwv] at hb2 hb4 hB ⊢
  clear hwv w4
  go_wp2_with (first | (refine wl_load_set rfl _ rfl _ rfl _ hb4 ?_) | (refine wl_store_set rfl _ _ rfl _ _ rfl rfl _ hb2 ?_; intro w9 hb9 hg9))
  exact ret_set2 rfl rfl hb9 rfl ⟨rfl, below_grown hB hg9 (Nat.le_refl _)⟩

def cls_lower : BSet := (joinL [0, (spanB 97 122)])
set_option maxRecDepth 100000 in
set_option maxHeartbeats 1000000 in
theorem class_lower (s : ByteArray) (w : World) (hs : Hid (s.toList = [108, 111, 119, 101, 114])) : Calls Tryd.prog 136 #[.string s] w fun e w' => e = .returned (.tuple #[.agg (setC cls_lower), .int .i64 0]) ∧ Below w.heap.size w w' := by
  have hb2 := (Blk.new w 52 (setC 0)).alloc (.cells (setC 0) 52)
  have hb4 := Blk.new' (w.alloc (.cells (setC 0) 52)) 52 (setC 0) (World.size_alloc _ _).symm
  have hB := below_alloc (below_alloc (Below.refl w.heap.size w) (.cells (setC 0) 52)) (.cells (setC 0) 52)
  unfold cls_lower
  have q_alnum : (s.toList == [97, 108, 110, 117, 109]) = false := by rw [hs.out]; decide
  have q_alpha : (s.toList == [97, 108, 112, 104, 97]) = false := by rw [hs.out]; decide
  have q_lower : (s.toList == [108, 111, 119, 101, 114]) = true := by rw [hs.out]; decide
  go_enter Tryd.func136, Tryd.ntmps136
  go_upto_region 17 with (fail)
  refine wp_region_steps 4 [eqS (.agg (setC 0)), eqS (.agg (setC (spanB 97 122))), setsS [0, (spanB 97 122)], eqS (.agg (setC (joinL [0, (spanB 97 122)])))] [37, 38, 39, 40] follows_mixed (by kernel_rfl) rfl ?_ ?_
  · refine Steps.cons (fun a' w' hG hB dep => gs_load_set (want_none rfl) _ rfl _ (hG.other 4 rfl) _ (blk_then hb4 hB) rfl) ?_
    refine Steps.cons (fun a' w' hG hB dep => gs_span (want_none rfl) _ _ _ rfl 97 122 rfl rfl (by decide) (by decide) (fun _ => rfl)) ?_
    refine Steps.cons (fun a' w' hG hB dep => gs_sets2 (want_none rfl) _ _  rfl _ _ (dep 0 rfl 37 rfl) (dep 1 rfl 38 rfl) (fun _ _ h => h)) ?_
    refine Steps.cons (fun a' w' hG hB dep => gs_join (want_none rfl) _ _ rfl _ (dep 2 rfl 39 rfl) (Nat.le_of_ble_eq_true rfl) (fun _ => rfl)) ?_
    exact Steps.nil
  intro u w3 hB3 ans
  have ux : u 40 = .agg (setC (joinL [0, (spanB 97 122)])) := ans 3 40 (by decide) rfl
  clear ans
  simp only [putAll, List.foldl_cons, List.foldl_nil, Act.put, List.setIfInBounds_toArray, List.set_cons_zero, List.set_cons_succ, ux]
  clear ux
  go_upto_region 29 with (refine wl_store_set rfl _ _ rfl _ _ rfl rfl _ (blk_then hb4 hB3) ?_; intro w4 hb4' hg4)
  replace hb2 := blk_grown (blk_then hb2 hB3) hg4 (by omega)
  replace hB := below_grown (below_then hB hB3) hg4 (by omega)
  replace hb4 := hb4'
  clear hb4' hg4 hB3
  obtain ⟨wv, hwv⟩ : ∃ x, x = w4 := ⟨_, rfl⟩
  rw [← hwv] at hb2 hb4 hB ⊢
  clear hwv w4
  go_wp2_with (first | (refine wl_load_set rfl _ rfl _ rfl _ hb4 ?_) | (refine wl_store_set rfl _ _ rfl _ _ rfl rfl _ hb2 ?_; intro w9 hb9 hg9))
  exact ret_set2 rfl rfl hb9 rfl ⟨rfl, below_grown hB hg9 (Nat.le_refl _)⟩

def cls_upper : BSet := (spanB 65 90)
set_option maxRecDepth 100000 in
set_option maxHeartbeats 1000000 in
theorem class_upper (s : ByteArray) (w : World) (hs : Hid (s.toList = [117, 112, 112, 101, 114])) : Calls Tryd.prog 136 #[.string s] w fun e w' => e = .returned (.tuple #[.agg (setC cls_upper), .int .i64 0]) ∧ Below w.heap.size w w' := by
  have hb2 := (Blk.new w 52 (setC 0)).alloc (.cells (setC 0) 52)
  have hb4 := Blk.new' (w.alloc (.cells (setC 0) 52)) 52 (setC 0) (World.size_alloc _ _).symm
  have hB := below_alloc (below_alloc (Below.refl w.heap.size w) (.cells (setC 0) 52)) (.cells (setC 0) 52)
  unfold cls_upper
  have q_alnum : (s.toList == [97, 108, 110, 117, 109]) = false := by rw [hs.out]; decide
  have q_alpha : (s.toList == [97, 108, 112, 104, 97]) = false := by rw [hs.out]; decide
  have q_lower : (s.toList == [108, 111, 119, 101, 114]) = false := by rw [hs.out]; decide
  have q_upper : (s.toList == [117, 112, 112, 101, 114]) = true := by rw [hs.out]; decide
  go_enter Tryd.func136, Tryd.ntmps136
  go_upto_region 18 with (fail)
  refine wp_region_text 1 [eqS (.agg (setC (spanB 65 90)))] [41] (by kernel_rfl) rfl ?_ ?_
  · refine Steps.cons (fun a' w' hG hB dep => gs_span (want_none rfl) _ _ _ rfl 65 90 rfl rfl (by decide) (by decide) (fun _ => rfl)) ?_
    exact Steps.nil
  intro u w3 hB3 ans
  have ux : u 41 = .agg (setC (spanB 65 90)) := ans 0 41 (by decide) rfl
  clear ans
  simp only [putAll, List.foldl_cons, List.foldl_nil, Act.put, List.setIfInBounds_toArray, List.set_cons_zero, List.set_cons_succ, ux]
  clear ux
  go_upto_region 29 with (refine wl_store_set rfl _ _ rfl _ _ rfl rfl _ (blk_then hb4 hB3) ?_; intro w4 hb4' hg4)
  replace hb2 := blk_grown (blk_then hb2 hB3) hg4 (by omega)
  replace hB := below_grown (below_then hB hB3) hg4 (by omega)
  replace hb4 := hb4'
  clear hb4' hg4 hB3
  obtain ⟨wv, hwv⟩ : ∃ x, x = w4 := ⟨_, rfl⟩
  rw [← hwv] at hb2 hb4 hB ⊢
  clear hwv w4
  go_wp2_with (first | (refine wl_load_set rfl _ rfl _ rfl _ hb4 ?_) | (refine wl_store_set rfl _ _ rfl _ _ rfl rfl _ hb2 ?_; intro w9 hb9 hg9))
  exact ret_set2 rfl rfl hb9 rfl ⟨rfl, below_grown hB hg9 (Nat.le_refl _)⟩

end Go.Proofs.YtkedgombccdamaaDoor
namespace Go.Proofs.YtkedgombccdamaaDoor
open Go.RowKit
set_option linter.unusedVariables false
set_option linter.unusedSimpArgs false

def cls_xdigit : BSet := (joinL [(joinL [(spanB 65 70), (spanB 97 102)]), (spanB 48 57)])
set_option maxRecDepth 100000 in
set_option maxHeartbeats 1000000 in
theorem class_xdigit (s : ByteArray) (w : World) (hs : Hid (s.toList = [120, 100, 105, 103, 105, 116])) : Calls Tryd.prog 136 #[.string s] w fun e w' => e = .returned (.tuple #[.agg (setC cls_xdigit), .int .i64 0]) ∧ Below w.heap.size w w' := by
  have hb2 := (Blk.new w 52 (setC 0)).alloc (.cells (setC 0) 52)
  have hb4 := Blk.new' (w.alloc (.cells (setC 0) 52)) 52 (setC 0) (World.size_alloc _ _).symm
  have hB := below_alloc (below_alloc (Below.refl w.heap.size w) (.cells (setC 0) 52)) (.cells (setC 0) 52)
  unfold cls_xdigit
  have q_alnum : (s.toList == [97, 108, 110, 117, 109]) = false := by rw [hs.out]; decide
  have q_alpha : (s.toList == [97, 108, 112, 104, 97]) = false := by rw [hs.out]; decide
  have q_lower : (s.toList == [108, 111, 119, 101, 114]) = false := by rw [hs.out]; decide
  have q_upper : (s.toList == [117, 112, 112, 101, 114]) = false := by rw [hs.out]; decide
  have q_xdigit : (s.toList == [120, 100, 105, 103, 105, 116]) = true := by rw [hs.out]; decide
  go_enter Tryd.func136, Tryd.ntmps136
  go_upto_region 19 with (fail)
  refine wp_region_text 4 [eqS (.agg (setC (spanB 65 70))), eqS (.agg (setC (spanB 97 102))), setsS [(spanB 65 70), (spanB 97 102)], eqS (.agg (setC (joinL [(spanB 65 70), (spanB 97 102)])))] [42, 43, 44, 45] (by kernel_rfl) rfl ?_ ?_
  · refine Steps.cons (fun a' w' hG hB dep => gs_span (want_none rfl) _ _ _ rfl 65 70 rfl rfl (by decide) (by decide) (fun _ => rfl)) ?_
    refine Steps.cons (fun a' w' hG hB dep => gs_span (want_none rfl) _ _ _ rfl 97 102 rfl rfl (by decide) (by decide) (fun _ => rfl)) ?_
    refine Steps.cons (fun a' w' hG hB dep => gs_sets2 (want_none rfl) _ _  rfl _ _ (dep 0 rfl 42 rfl) (dep 1 rfl 43 rfl) (fun _ _ h => h)) ?_
    refine Steps.cons (fun a' w' hG hB dep => gs_join (want_none rfl) _ _ rfl _ (dep 2 rfl 44 rfl) (Nat.le_of_ble_eq_true rfl) (fun _ => rfl)) ?_
    exact Steps.nil
  intro u w3 hB3 ans
  have ux : u 45 = .agg (setC (joinL [(spanB 65 70), (spanB 97 102)])) := ans 3 45 (by decide) rfl
  clear ans
  simp only [putAll, List.foldl_cons, List.foldl_nil, Act.put, List.setIfInBounds_toArray, List.set_cons_zero, List.set_cons_succ, ux]
  clear ux
  go_upto_region 20 with (refine wl_store_set rfl _ _ rfl _ _ rfl rfl _ (blk_then hb4 hB3) ?_; intro w4 hb4' hg4)
  replace hb2 := blk_grown (blk_then hb2 hB3) hg4 (by omega)
  replace hB := below_grown (below_then hB hB3) hg4 (by omega)
  replace hb4 := hb4'
  clear hb4' hg4 hB3
  obtain ⟨wv, hwv⟩ : ∃ x, x = w4 := ⟨_, rfl⟩
  rw [← hwv] at hb2 hb4 hB ⊢
  clear hwv w4
  go_upto_region 20 with (fail)
  refine wp_region_steps 4 [eqS (.agg (setC (joinL [(spanB 65 70), (spanB 97 102)]))), eqS (.agg (setC (spanB 48 57))), setsS [(joinL [(spanB 65 70), (spanB 97 102)]), (spanB 48 57)], eqS (.agg (setC (joinL [(joinL [(spanB 65 70), (spanB 97 102)]), (spanB 48 57)])))] [46, 47, 48, 49] follows_mixed (by kernel_rfl) rfl ?_ ?_
  · refine Steps.cons (fun a' w' hG hB dep => gs_load_set (want_none rfl) _ rfl _ (hG.other 4 rfl) _ (blk_then hb4 hB) rfl) ?_
    refine Steps.cons (fun a' w' hG hB dep => gs_span (want_none rfl) _ _ _ rfl 48 57 rfl rfl (by decide) (by decide) (fun _ => rfl)) ?_
    refine Steps.cons (fun a' w' hG hB dep => gs_sets2 (want_none rfl) _ _  rfl _ _ (dep 0 rfl 46 rfl) (dep 1 rfl 47 rfl) (fun _ _ h => h)) ?_
    refine Steps.cons (fun a' w' hG hB dep => gs_join (want_none rfl) _ _ rfl _ (dep 2 rfl 48 rfl) (Nat.le_of_ble_eq_true rfl) (fun _ => rfl)) ?_
    exact Steps.nil
  intro u w3 hB3 ans
  have ux : u 49 = .agg (setC (joinL [(joinL [(spanB 65 70), (spanB 97 102)]), (spanB 48 57)])) := ans 3 49 (by decide) rfl
  clear ans
  simp only [putAll, List.foldl_cons, List.foldl_nil, Act.put, List.setIfInBounds_toArray, List.set_cons_zero, List.set_cons_succ, ux]
  clear ux
  go_upto_region 29 with (refine wl_store_set rfl _ _ rfl _ _ rfl rfl _ (blk_then hb4 hB3) ?_; intro w4 hb4' hg4)
  replace hb2 := blk_grown (blk_then hb2 hB3) hg4 (by omega)
  replace hB := below_grown (below_then hB hB3) hg4 (by omega)
  replace hb4 := hb4'
  clear hb4' hg4 hB3
  obtain ⟨wv, hwv⟩ : ∃ x, x = w4 := ⟨_, rfl⟩
  rw [← hwv] at hb2 hb4 hB ⊢
  clear hwv w4
  go_wp2_with (first | (refine wl_load_set rfl _ rfl _ rfl _ hb4 ?_) | (refine wl_store_set rfl _ _ rfl _ _ rfl rfl _ hb2 ?_; intro w9 hb9 hg9))
  exact ret_set2 rfl rfl hb9 rfl ⟨rfl, below_grown hB hg9 (Nat.le_refl _)⟩

def cls_digit : BSet := (joinL [0, (spanB 48 57)])
set_option maxRecDepth 100000 in
set_option maxHeartbeats 1000000 in
theorem class_digit (s : ByteArray) (w : World) (hs : Hid (s.toList = [100, 105, 103, 105, 116])) : Calls Tryd.prog 136 #[.string s] w fun e w' => e = .returned (.tuple #[.agg (setC cls_digit), .int .i64 0]) ∧ Below w.heap.size w w' := by
  have hb2 := (Blk.new w 52 (setC 0)).alloc (.cells (setC 0) 52)
  have hb4 := Blk.new' (w.alloc (.cells (setC 0) 52)) 52 (setC 0) (World.size_alloc _ _).symm
  have hB := below_alloc (below_alloc (Below.refl w.heap.size w) (.cells (setC 0) 52)) (.cells (setC 0) 52)
  unfold cls_digit
  have q_alnum : (s.toList == [97, 108, 110, 117, 109]) = false := by rw [hs.out]; decide
  have q_alpha : (s.toList == [97, 108, 112, 104, 97]) = false := by rw [hs.out]; decide
  have q_lower : (s.toList == [108, 111, 119, 101, 114]) = false := by rw [hs.out]; decide
  have q_upper : (s.toList == [117, 112, 112, 101, 114]) = false := by rw [hs.out]; decide
  have q_xdigit : (s.toList == [120, 100, 105, 103, 105, 116]) = false := by rw [hs.out]; decide
  have q_digit : (s.toList == [100, 105, 103, 105, 116]) = true := by rw [hs.out]; decide
  go_enter Tryd.func136, Tryd.ntmps136
  go_upto_region 20 with (fail)
  refine wp_region_steps 4 [eqS (.agg (setC 0)), eqS (.agg (setC (spanB 48 57))), setsS [0, (spanB 48 57)], eqS (.agg (setC (joinL [0, (spanB 48 57)])))] [46, 47, 48, 49] follows_mixed (by kernel_rfl) rfl ?_ ?_
  · refine Steps.cons (fun a' w' hG hB dep => gs_load_set (want_none rfl) _ rfl _ (hG.other 4 rfl) _ (blk_then hb4 hB) rfl) ?_
    refine Steps.cons (fun a' w' hG hB dep => gs_span (want_none rfl) _ _ _ rfl 48 57 rfl rfl (by decide) (by decide) (fun _ => rfl)) ?_
    refine Steps.cons (fun a' w' hG hB dep => gs_sets2 (want_none rfl) _ _  rfl _ _ (dep 0 rfl 46 rfl) (dep 1 rfl 47 rfl) (fun _ _ h => h)) ?_
    refine Steps.cons (fun a' w' hG hB dep => gs_join (want_none rfl) _ _ rfl _ (dep 2 rfl 48 rfl) (Nat.le_of_ble_eq_true rfl) (fun _ => rfl)) ?_
    exact Steps.nil
  intro u w3 hB3 ans
  have ux : u 49 = .agg (setC (joinL [0, (spanB 48 57)])) := ans 3 49 (by decide) rfl
  clear ans
  simp only [putAll, List.foldl_cons, List.foldl_nil, Act.put, List.setIfInBounds_toArray, List.set_cons_zero, List.set_cons_succ, ux]
  clear ux
  go_upto_region 29 with (refine wl_store_set rfl _ _ rfl _ _ rfl rfl _ (blk_then hb4 hB3) ?_; intro w4 hb4' hg4)
  replace hb2 := blk_grown (blk_then hb2 hB3) hg4 (by omega)
  replace hB := below_grown (below_then hB hB3) hg4 (by omega)
  replace hb4 := hb4'
  clear hb4' hg4 hB3
  obtain ⟨wv, hwv⟩ : ∃ x, x = w4 := ⟨_, rfl⟩
  rw [← hwv] at hb2 hb4 hB ⊢
  clear hwv w4
  go_wp2_with (first | (refine wl_load_set rfl _ rfl _ rfl _ hb4 ?_) | (refine wl_store_set rfl _ _ rfl _ _ rfl rfl _ hb2 ?_; intro w9 hb9 hg9))
  exact ret_set2 rfl rfl hb9 rfl ⟨rfl, below_grown hB hg9 (Nat.le_refl _)⟩

def cls_space : BSet := (joinL [(spanB 9 13), (ofB [9, 32])])
set_option maxRecDepth 100000 in
set_option maxHeartbeats 1000000 in
theorem class_space (s : ByteArray) (w : World) (hs : Hid (s.toList = [115, 112, 97, 99, 101])) : Calls Tryd.prog 136 #[.string s] w fun e w' => e = .returned (.tuple #[.agg (setC cls_space), .int .i64 0]) ∧ Below w.heap.size w w' := by
  have hb2 := (Blk.new w 52 (setC 0)).alloc (.cells (setC 0) 52)
  have hb4 := Blk.new' (w.alloc (.cells (setC 0) 52)) 52 (setC 0) (World.size_alloc _ _).symm
  have hB := below_alloc (below_alloc (Below.refl w.heap.size w) (.cells (setC 0) 52)) (.cells (setC 0) 52)
  unfold cls_space
  have q_alnum : (s.toList == [97, 108, 110, 117, 109]) = false := by rw [hs.out]; decide
  have q_alpha : (s.toList == [97, 108, 112, 104, 97]) = false := by rw [hs.out]; decide
  have q_lower : (s.toList == [108, 111, 119, 101, 114]) = false := by rw [hs.out]; decide
  have q_upper : (s.toList == [117, 112, 112, 101, 114]) = false := by rw [hs.out]; decide
  have q_xdigit : (s.toList == [120, 100, 105, 103, 105, 116]) = false := by rw [hs.out]; decide
  have q_digit : (s.toList == [100, 105, 103, 105, 116]) = false := by rw [hs.out]; decide
  have q_space : (s.toList == [115, 112, 97, 99, 101]) = true := by rw [hs.out]; decide
  go_enter Tryd.func136, Tryd.ntmps136
  go_upto_region 21 with (fail)
  refine wp_region_text 1 [eqS (.agg (setC (spanB 9 13)))] [50] (by kernel_rfl) rfl ?_ ?_
  · refine Steps.cons (fun a' w' hG hB dep => gs_span (want_none rfl) _ _ _ rfl 9 13 rfl rfl (by decide) (by decide) (fun _ => rfl)) ?_
    exact Steps.nil
  intro u w3 hB3 ans
  have ux : u 50 = .agg (setC (spanB 9 13)) := ans 0 50 (by decide) rfl
  clear ans
  simp only [putAll, List.foldl_cons, List.foldl_nil, Act.put, List.setIfInBounds_toArray, List.set_cons_zero, List.set_cons_succ, ux]
  clear ux
  go_upto_region 22 with (refine wl_store_set rfl _ _ rfl _ _ rfl rfl _ (blk_then hb4 hB3) ?_; intro w4 hb4' hg4)
  replace hb2 := blk_grown (blk_then hb2 hB3) hg4 (by omega)
  replace hB := below_grown (below_then hB hB3) hg4 (by omega)
  replace hb4 := hb4'
  clear hb4' hg4 hB3
  obtain ⟨wv, hwv⟩ : ∃ x, x = w4 := ⟨_, rfl⟩
  rw [← hwv] at hb2 hb4 hB ⊢
  clear hwv w4
  go_upto_region 22 with (fail)
  refine wp_region_steps 5 [eqS (.agg (setC (spanB 9 13))), bytesS [9, 32], eqS (.agg (setC (ofB [9, 32]))), setsS [(spanB 9 13), (ofB [9, 32])], eqS (.agg (setC (joinL [(spanB 9 13), (ofB [9, 32])])))] [51, 52, 53, 54, 55] follows_mixed (by kernel_rfl) rfl ?_ ?_
  · refine Steps.cons (fun a' w' hG hB dep => gs_load_set (want_none rfl) _ rfl _ (hG.other 4 rfl) _ (blk_then hb4 hB) rfl) ?_
    refine Steps.cons (fun a' w' hG hB dep => gs_byte2 (want_none rfl) _ _  rfl 9 32 rfl rfl (fun _ _ h => h)) ?_
    refine Steps.cons (fun a' w' hG hB dep => gs_of (want_none rfl) _ _ rfl _ (dep 1 rfl 52 rfl) (Nat.le_of_ble_eq_true rfl) (fun _ => rfl)) ?_
    refine Steps.cons (fun a' w' hG hB dep => gs_sets2 (want_none rfl) _ _  rfl _ _ (dep 0 rfl 51 rfl) (dep 2 rfl 53 rfl) (fun _ _ h => h)) ?_
    refine Steps.cons (fun a' w' hG hB dep => gs_join (want_none rfl) _ _ rfl _ (dep 3 rfl 54 rfl) (Nat.le_of_ble_eq_true rfl) (fun _ => rfl)) ?_
    exact Steps.nil
  intro u w3 hB3 ans
  have ux : u 55 = .agg (setC (joinL [(spanB 9 13), (ofB [9, 32])])) := ans 4 55 (by decide) rfl
  clear ans
  simp only [putAll, List.foldl_cons, List.foldl_nil, Act.put, List.setIfInBounds_toArray, List.set_cons_zero, List.set_cons_succ, ux]
  clear ux
  go_upto_region 29 with (refine wl_store_set rfl _ _ rfl _ _ rfl rfl _ (blk_then hb4 hB3) ?_; intro w4 hb4' hg4)
  replace hb2 := blk_grown (blk_then hb2 hB3) hg4 (by omega)
  replace hB := below_grown (below_then hB hB3) hg4 (by omega)
  replace hb4 := hb4'
  clear hb4' hg4 hB3
  obtain ⟨wv, hwv⟩ : ∃ x, x = w4 := ⟨_, rfl⟩
  rw [← hwv] at hb2 hb4 hB ⊢
  clear hwv w4
  go_wp2_with (first | (refine wl_load_set rfl _ rfl _ rfl _ hb4 ?_) | (refine wl_store_set rfl _ _ rfl _ _ rfl rfl _ hb2 ?_; intro w9 hb9 hg9))
  exact ret_set2 rfl rfl hb9 rfl ⟨rfl, below_grown hB hg9 (Nat.le_refl _)⟩

end Go.Proofs.YtkedgombccdamaaDoor
namespace Go.Proofs.YtkedgombccdamaaDoor
open Go.RowKit
set_option linter.unusedVariables false
set_option linter.unusedSimpArgs false

def cls_blank : BSet := (joinL [0, (ofB [9, 32])])
set_option maxRecDepth 100000 in
set_option maxHeartbeats 1000000 in
theorem class_blank (s : ByteArray) (w : World) (hs : Hid (s.toList = [98, 108, 97, 110, 107])) : Calls Tryd.prog 136 #[.string s] w fun e w' => e = .returned (.tuple #[.agg (setC cls_blank), .int .i64 0]) ∧ Below w.heap.size w w' := by
  have hb2 := (Blk.new w 52 (setC 0)).alloc (.cells (setC 0) 52)
  have hb4 := Blk.new' (w.alloc (.cells (setC 0) 52)) 52 (setC 0) (World.size_alloc _ _).symm
  have hB := below_alloc (below_alloc (Below.refl w.heap.size w) (.cells (setC 0) 52)) (.cells (setC 0) 52)
  unfold cls_blank
  have q_alnum : (s.toList == [97, 108, 110, 117, 109]) = false := by rw [hs.out]; decide
  have q_alpha : (s.toList == [97, 108, 112, 104, 97]) = false := by rw [hs.out]; decide
  have q_lower : (s.toList == [108, 111, 119, 101, 114]) = false := by rw [hs.out]; decide
  have q_upper : (s.toList == [117, 112, 112, 101, 114]) = false := by rw [hs.out]; decide
  have q_xdigit : (s.toList == [120, 100, 105, 103, 105, 116]) = false := by rw [hs.out]; decide
  have q_digit : (s.toList == [100, 105, 103, 105, 116]) = false := by rw [hs.out]; decide
  have q_space : (s.toList == [115, 112, 97, 99, 101]) = false := by rw [hs.out]; decide
  have q_blank : (s.toList == [98, 108, 97, 110, 107]) = true := by rw [hs.out]; decide
  go_enter Tryd.func136, Tryd.ntmps136
  go_upto_region 22 with (fail)
  refine wp_region_steps 5 [eqS (.agg (setC 0)), bytesS [9, 32], eqS (.agg (setC (ofB [9, 32]))), setsS [0, (ofB [9, 32])], eqS (.agg (setC (joinL [0, (ofB [9, 32])])))] [51, 52, 53, 54, 55] follows_mixed (by kernel_rfl) rfl ?_ ?_
  · refine Steps.cons (fun a' w' hG hB dep => gs_load_set (want_none rfl) _ rfl _ (hG.other 4 rfl) _ (blk_then hb4 hB) rfl) ?_
    refine Steps.cons (fun a' w' hG hB dep => gs_byte2 (want_none rfl) _ _  rfl 9 32 rfl rfl (fun _ _ h => h)) ?_
    refine Steps.cons (fun a' w' hG hB dep => gs_of (want_none rfl) _ _ rfl _ (dep 1 rfl 52 rfl) (Nat.le_of_ble_eq_true rfl) (fun _ => rfl)) ?_
    refine Steps.cons (fun a' w' hG hB dep => gs_sets2 (want_none rfl) _ _  rfl _ _ (dep 0 rfl 51 rfl) (dep 2 rfl 53 rfl) (fun _ _ h => h)) ?_
    refine Steps.cons (fun a' w' hG hB dep => gs_join (want_none rfl) _ _ rfl _ (dep 3 rfl 54 rfl) (Nat.le_of_ble_eq_true rfl) (fun _ => rfl)) ?_
    exact Steps.nil
  intro u w3 hB3 ans
  have ux : u 55 = .agg (setC (joinL [0, (ofB [9, 32])])) := ans 4 55 (by decide) rfl
  clear ans
  simp only [putAll, List.foldl_cons, List.foldl_nil, Act.put, List.setIfInBounds_toArray, List.set_cons_zero, List.set_cons_succ, ux]
  clear ux
  go_upto_region 29 with (refine wl_store_set rfl _ _ rfl _ _ rfl rfl _ (blk_then hb4 hB3) ?_; intro w4 hb4' hg4)
  replace hb2 := blk_grown (blk_then hb2 hB3) hg4 (by omega)
  replace hB := below_grown (below_then hB hB3) hg4 (by omega)
  replace hb4 := hb4'
  clear hb4' hg4 hB3
  obtain ⟨wv, hwv⟩ : ∃ x, x = w4 := ⟨_, rfl⟩
  rw [← hwv] at hb2 hb4 hB ⊢
  clear hwv w4
  go_wp2_with (first | (refine wl_load_set rfl _ rfl _ rfl _ hb4 ?_) | (refine wl_store_set rfl _ _ rfl _ _ rfl rfl _ hb2 ?_; intro w9 hb9 hg9))
  exact ret_set2 rfl rfl hb9 rfl ⟨rfl, below_grown hB hg9 (Nat.le_refl _)⟩

def cls_cntrl : BSet := (joinL [(spanB 0 31), (ofB [127])])
set_option maxRecDepth 100000 in
set_option maxHeartbeats 1000000 in
theorem class_cntrl (s : ByteArray) (w : World) (hs : Hid (s.toList = [99, 110, 116, 114, 108])) : Calls Tryd.prog 136 #[.string s] w fun e w' => e = .returned (.tuple #[.agg (setC cls_cntrl), .int .i64 0]) ∧ Below w.heap.size w w' := by
  have hb2 := (Blk.new w 52 (setC 0)).alloc (.cells (setC 0) 52)
  have hb4 := Blk.new' (w.alloc (.cells (setC 0) 52)) 52 (setC 0) (World.size_alloc _ _).symm
  have hB := below_alloc (below_alloc (Below.refl w.heap.size w) (.cells (setC 0) 52)) (.cells (setC 0) 52)
  unfold cls_cntrl
  have q_alnum : (s.toList == [97, 108, 110, 117, 109]) = false := by rw [hs.out]; decide
  have q_alpha : (s.toList == [97, 108, 112, 104, 97]) = false := by rw [hs.out]; decide
  have q_lower : (s.toList == [108, 111, 119, 101, 114]) = false := by rw [hs.out]; decide
  have q_upper : (s.toList == [117, 112, 112, 101, 114]) = false := by rw [hs.out]; decide
  have q_xdigit : (s.toList == [120, 100, 105, 103, 105, 116]) = false := by rw [hs.out]; decide
  have q_digit : (s.toList == [100, 105, 103, 105, 116]) = false := by rw [hs.out]; decide
  have q_space : (s.toList == [115, 112, 97, 99, 101]) = false := by rw [hs.out]; decide
  have q_blank : (s.toList == [98, 108, 97, 110, 107]) = false := by rw [hs.out]; decide
  have q_cntrl : (s.toList == [99, 110, 116, 114, 108]) = true := by rw [hs.out]; decide
  go_enter Tryd.func136, Tryd.ntmps136
  go_upto_region 23 with (fail)
  refine wp_region_text 5 [eqS (.agg (setC (spanB 0 31))), bytesS [127], eqS (.agg (setC (ofB [127]))), setsS [(spanB 0 31), (ofB [127])], eqS (.agg (setC (joinL [(spanB 0 31), (ofB [127])])))] [56, 57, 58, 59, 60] (by kernel_rfl) rfl ?_ ?_
  · refine Steps.cons (fun a' w' hG hB dep => gs_span (want_none rfl) _ _ _ rfl 0 31 rfl rfl (by decide) (by decide) (fun _ => rfl)) ?_
    refine Steps.cons (fun a' w' hG hB dep => gs_byte1 (want_none rfl) _  rfl 127 rfl (fun _ _ h => h)) ?_
    refine Steps.cons (fun a' w' hG hB dep => gs_of (want_none rfl) _ _ rfl _ (dep 1 rfl 57 rfl) (Nat.le_of_ble_eq_true rfl) (fun _ => rfl)) ?_
    refine Steps.cons (fun a' w' hG hB dep => gs_sets2 (want_none rfl) _ _  rfl _ _ (dep 0 rfl 56 rfl) (dep 2 rfl 58 rfl) (fun _ _ h => h)) ?_
    refine Steps.cons (fun a' w' hG hB dep => gs_join (want_none rfl) _ _ rfl _ (dep 3 rfl 59 rfl) (Nat.le_of_ble_eq_true rfl) (fun _ => rfl)) ?_
    exact Steps.nil
  intro u w3 hB3 ans
  have ux : u 60 = .agg (setC (joinL [(spanB 0 31), (ofB [127])])) := ans 4 60 (by decide) rfl
  clear ans
  simp only [putAll, List.foldl_cons, List.foldl_nil, Act.put, List.setIfInBounds_toArray, List.set_cons_zero, List.set_cons_succ, ux]
  clear ux
  go_upto_region 29 with (refine wl_store_set rfl _ _ rfl _ _ rfl rfl _ (blk_then hb4 hB3) ?_; intro w4 hb4' hg4)
  replace hb2 := blk_grown (blk_then hb2 hB3) hg4 (by omega)
  replace hB := below_grown (below_then hB hB3) hg4 (by omega)
  replace hb4 := hb4'
  clear hb4' hg4 hB3
  obtain ⟨wv, hwv⟩ : ∃ x, x = w4 := ⟨_, rfl⟩
  rw [← hwv] at hb2 hb4 hB ⊢
  clear hwv w4
  go_wp2_with (first | (refine wl_load_set rfl _ rfl _ rfl _ hb4 ?_) | (refine wl_store_set rfl _ _ rfl _ _ rfl rfl _ hb2 ?_; intro w9 hb9 hg9))
  exact ret_set2 rfl rfl hb9 rfl ⟨rfl, below_grown hB hg9 (Nat.le_refl _)⟩

def cls_print : BSet := (joinL [(ofB [32]), (spanB 33 126)])
set_option maxRecDepth 100000 in
set_option maxHeartbeats 1000000 in
theorem class_print (s : ByteArray) (w : World) (hs : Hid (s.toList = [112, 114, 105, 110, 116])) : Calls Tryd.prog 136 #[.string s] w fun e w' => e = .returned (.tuple #[.agg (setC cls_print), .int .i64 0]) ∧ Below w.heap.size w w' := by
  have hb2 := (Blk.new w 52 (setC 0)).alloc (.cells (setC 0) 52)
  have hb4 := Blk.new' (w.alloc (.cells (setC 0) 52)) 52 (setC 0) (World.size_alloc _ _).symm
  have hB := below_alloc (below_alloc (Below.refl w.heap.size w) (.cells (setC 0) 52)) (.cells (setC 0) 52)
  unfold cls_print
  have q_alnum : (s.toList == [97, 108, 110, 117, 109]) = false := by rw [hs.out]; decide
  have q_alpha : (s.toList == [97, 108, 112, 104, 97]) = false := by rw [hs.out]; decide
  have q_lower : (s.toList == [108, 111, 119, 101, 114]) = false := by rw [hs.out]; decide
  have q_upper : (s.toList == [117, 112, 112, 101, 114]) = false := by rw [hs.out]; decide
  have q_xdigit : (s.toList == [120, 100, 105, 103, 105, 116]) = false := by rw [hs.out]; decide
  have q_digit : (s.toList == [100, 105, 103, 105, 116]) = false := by rw [hs.out]; decide
  have q_space : (s.toList == [115, 112, 97, 99, 101]) = false := by rw [hs.out]; decide
  have q_blank : (s.toList == [98, 108, 97, 110, 107]) = false := by rw [hs.out]; decide
  have q_cntrl : (s.toList == [99, 110, 116, 114, 108]) = false := by rw [hs.out]; decide
  have q_print : (s.toList == [112, 114, 105, 110, 116]) = true := by rw [hs.out]; decide
  go_enter Tryd.func136, Tryd.ntmps136
  go_upto_region 24 with (fail)
  refine wp_region_text 2 [bytesS [32], eqS (.agg (setC (ofB [32])))] [61, 62] (by kernel_rfl) rfl ?_ ?_
  · refine Steps.cons (fun a' w' hG hB dep => gs_byte1 (want_none rfl) _  rfl 32 rfl (fun _ _ h => h)) ?_
    refine Steps.cons (fun a' w' hG hB dep => gs_of (want_none rfl) _ _ rfl _ (dep 0 rfl 61 rfl) (Nat.le_of_ble_eq_true rfl) (fun _ => rfl)) ?_
    exact Steps.nil
  intro u w3 hB3 ans
  have ux : u 62 = .agg (setC (ofB [32])) := ans 1 62 (by decide) rfl
  clear ans
  simp only [putAll, List.foldl_cons, List.foldl_nil, Act.put, List.setIfInBounds_toArray, List.set_cons_zero, List.set_cons_succ, ux]
  clear ux
  go_upto_region 25 with (refine wl_store_set rfl _ _ rfl _ _ rfl rfl _ (blk_then hb4 hB3) ?_; intro w4 hb4' hg4)
  replace hb2 := blk_grown (blk_then hb2 hB3) hg4 (by omega)
  replace hB := below_grown (below_then hB hB3) hg4 (by omega)
  replace hb4 := hb4'
  clear hb4' hg4 hB3
  obtain ⟨wv, hwv⟩ : ∃ x, x = w4 := ⟨_, rfl⟩
  rw [← hwv] at hb2 hb4 hB ⊢
  clear hwv w4
  go_upto_region 25 with (fail)
  refine wp_region_steps 4 [eqS (.agg (setC (ofB [32]))), eqS (.agg (setC (spanB 33 126))), setsS [(ofB [32]), (spanB 33 126)], eqS (.agg (setC (joinL [(ofB [32]), (spanB 33 126)])))] [63, 64, 65, 66] follows_mixed (by kernel_rfl) rfl ?_ ?_
  · refine Steps.cons (fun a' w' hG hB dep => gs_load_set (want_none rfl) _ rfl _ (hG.other 4 rfl) _ (blk_then hb4 hB) rfl) ?_
    refine Steps.cons (fun a' w' hG hB dep => gs_span (want_none rfl) _ _ _ rfl 33 126 rfl rfl (by decide) (by decide) (fun _ => rfl)) ?_
    refine Steps.cons (fun a' w' hG hB dep => gs_sets2 (want_none rfl) _ _  rfl _ _ (dep 0 rfl 63 rfl) (dep 1 rfl 64 rfl) (fun _ _ h => h)) ?_
    refine Steps.cons (fun a' w' hG hB dep => gs_join (want_none rfl) _ _ rfl _ (dep 2 rfl 65 rfl) (Nat.le_of_ble_eq_true rfl) (fun _ => rfl)) ?_
    exact Steps.nil
  intro u w3 hB3 ans
  have ux : u 66 = .agg (setC (joinL [(ofB [32]), (spanB 33 126)])) := ans 3 66 (by decide) rfl
  clear ans
  simp only [putAll, List.foldl_cons, List.foldl_nil, Act.put, List.setIfInBounds_toArray, List.set_cons_zero, List.set_cons_succ, ux]
  clear ux
  go_upto_region 29 with (refine wl_store_set rfl _ _ rfl _ _ rfl rfl _ (blk_then hb4 hB3) ?_; intro w4 hb4' hg4)
  replace hb2 := blk_grown (blk_then hb2 hB3) hg4 (by omega)
  replace hB := below_grown (below_then hB hB3) hg4 (by omega)
  replace hb4 := hb4'
  clear hb4' hg4 hB3
  obtain ⟨wv, hwv⟩ : ∃ x, x = w4 := ⟨_, rfl⟩
  rw [← hwv] at hb2 hb4 hB ⊢
  clear hwv w4
  go_wp2_with (first | (refine wl_load_set rfl _ rfl _ rfl _ hb4 ?_) | (refine wl_store_set rfl _ _ rfl _ _ rfl rfl _ hb2 ?_; intro w9 hb9 hg9))
  exact ret_set2 rfl rfl hb9 rfl ⟨rfl, below_grown hB hg9 (Nat.le_refl _)⟩

end Go.Proofs.YtkedgombccdamaaDoor
namespace Go.Proofs.YtkedgombccdamaaDoor
open Go.RowKit
set_option linter.unusedVariables false
set_option linter.unusedSimpArgs false

set_option maxRecDepth 100000 in
set_option maxHeartbeats 2000000 in
theorem class_none (s : ByteArray) (w : World) (h_alnum : ¬ s.toList = [97, 108, 110, 117, 109]) (h_alpha : ¬ s.toList = [97, 108, 112, 104, 97]) (h_lower : ¬ s.toList = [108, 111, 119, 101, 114]) (h_upper : ¬ s.toList = [117, 112, 112, 101, 114]) (h_xdigit : ¬ s.toList = [120, 100, 105, 103, 105, 116]) (h_digit : ¬ s.toList = [100, 105, 103, 105, 116]) (h_space : ¬ s.toList = [115, 112, 97, 99, 101]) (h_blank : ¬ s.toList = [98, 108, 97, 110, 107]) (h_cntrl : ¬ s.toList = [99, 110, 116, 114, 108]) (h_print : ¬ s.toList = [112, 114, 105, 110, 116]) (h_graph : ¬ s.toList = [103, 114, 97, 112, 104]) (h_punct : ¬ s.toList = [112, 117, 110, 99, 116]) : Calls Tryd.prog 136 #[.string s] w fun e w' => e = .returned (.tuple #[.agg (setC 0), .int .i64 30]) ∧ Below w.heap.size w w' := by
  have q_alnum : (s.toList == [97, 108, 110, 117, 109]) = false := by rw [beq_eq_false_iff_ne]; exact h_alnum
  have q_alpha : (s.toList == [97, 108, 112, 104, 97]) = false := by rw [beq_eq_false_iff_ne]; exact h_alpha
  have q_lower : (s.toList == [108, 111, 119, 101, 114]) = false := by rw [beq_eq_false_iff_ne]; exact h_lower
  have q_upper : (s.toList == [117, 112, 112, 101, 114]) = false := by rw [beq_eq_false_iff_ne]; exact h_upper
  have q_xdigit : (s.toList == [120, 100, 105, 103, 105, 116]) = false := by rw [beq_eq_false_iff_ne]; exact h_xdigit
  have q_digit : (s.toList == [100, 105, 103, 105, 116]) = false := by rw [beq_eq_false_iff_ne]; exact h_digit
  have q_space : (s.toList == [115, 112, 97, 99, 101]) = false := by rw [beq_eq_false_iff_ne]; exact h_space
  have q_blank : (s.toList == [98, 108, 97, 110, 107]) = false := by rw [beq_eq_false_iff_ne]; exact h_blank
  have q_cntrl : (s.toList == [99, 110, 116, 114, 108]) = false := by rw [beq_eq_false_iff_ne]; exact h_cntrl
  have q_print : (s.toList == [112, 114, 105, 110, 116]) = false := by rw [beq_eq_false_iff_ne]; exact h_print
  have q_graph : (s.toList == [103, 114, 97, 112, 104]) = false := by rw [beq_eq_false_iff_ne]; exact h_graph
  have q_punct : (s.toList == [112, 117, 110, 99, 116]) = false := by rw [beq_eq_false_iff_ne]; exact h_punct
  have h_alnum' := Lib.hid h_alnum
  clear h_alnum
  have h_alpha' := Lib.hid h_alpha
  clear h_alpha
  have h_lower' := Lib.hid h_lower
  clear h_lower
  have h_upper' := Lib.hid h_upper
  clear h_upper
  have h_xdigit' := Lib.hid h_xdigit
  clear h_xdigit
  have h_digit' := Lib.hid h_digit
  clear h_digit
  have h_space' := Lib.hid h_space
  clear h_space
  have h_blank' := Lib.hid h_blank
  clear h_blank
  have h_cntrl' := Lib.hid h_cntrl
  clear h_cntrl
  have h_print' := Lib.hid h_print
  clear h_print
  have h_graph' := Lib.hid h_graph
  clear h_graph
  have h_punct' := Lib.hid h_punct
  clear h_punct
  have hb2 := (Blk.new w 52 (setC 0)).alloc (.cells (setC 0) 52)
  have hb4 := Blk.new' (w.alloc (.cells (setC 0) 52)) 52 (setC 0) (World.size_alloc _ _).symm
  have hB := below_alloc (below_alloc (Below.refl w.heap.size w) (.cells (setC 0) 52)) (.cells (setC 0) 52)
  go_enter Tryd.func136, Tryd.ntmps136
  go_wp2_with (first | (refine wl_load_set rfl _ rfl _ rfl _ hb4 ?_) | (refine wl_store_set rfl _ _ rfl _ _ rfl rfl _ hb2 ?_; intro w9 hb9 hg9))
  exact ret_set2 rfl rfl hb9 rfl ⟨rfl, below_grown hB hg9 (Nat.le_refl _)⟩

end Go.Proofs.YtkedgombccdamaaDoor
namespace Go.Proofs.YtkedgombccdamaaDoor
open Go.RowKit
set_option linter.unusedVariables false
set_option linter.unusedSimpArgs false

/-- what octets.Class answers of a name -/
def clsV (l : List Nat) : Value := match Ere.nameB l with
  | some x => .tuple #[.agg (setC x), .int .i64 0]
  | none => .tuple #[.agg (setC 0), .int .i64 30]
theorem u8_lit {l : List UInt8} {m : List UInt8} (h : l.map UInt8.toNat = m.map UInt8.toNat) : l = m := by
  induction l generalizing m with
  | nil => cases m <;> simp_all
  | cons a l ih =>
    cases m with
    | nil => simp at h
    | cons b m =>
      simp only [List.map_cons, List.cons.injEq] at h
      rw [UInt8.toNat_inj.1 h.1, ih h.2]
theorem clsV_alnum : clsV (([97, 108, 110, 117, 109] : List UInt8).map UInt8.toNat) = .tuple #[.agg (setC cls_alnum), .int .i64 0] := by kernel_rfl
theorem clsV_alpha : clsV (([97, 108, 112, 104, 97] : List UInt8).map UInt8.toNat) = .tuple #[.agg (setC cls_alpha), .int .i64 0] := by kernel_rfl
theorem clsV_lower : clsV (([108, 111, 119, 101, 114] : List UInt8).map UInt8.toNat) = .tuple #[.agg (setC cls_lower), .int .i64 0] := by kernel_rfl
theorem clsV_upper : clsV (([117, 112, 112, 101, 114] : List UInt8).map UInt8.toNat) = .tuple #[.agg (setC cls_upper), .int .i64 0] := by kernel_rfl
theorem clsV_xdigit : clsV (([120, 100, 105, 103, 105, 116] : List UInt8).map UInt8.toNat) = .tuple #[.agg (setC cls_xdigit), .int .i64 0] := by kernel_rfl
theorem clsV_digit : clsV (([100, 105, 103, 105, 116] : List UInt8).map UInt8.toNat) = .tuple #[.agg (setC cls_digit), .int .i64 0] := by kernel_rfl
theorem clsV_space : clsV (([115, 112, 97, 99, 101] : List UInt8).map UInt8.toNat) = .tuple #[.agg (setC cls_space), .int .i64 0] := by kernel_rfl
theorem clsV_blank : clsV (([98, 108, 97, 110, 107] : List UInt8).map UInt8.toNat) = .tuple #[.agg (setC cls_blank), .int .i64 0] := by kernel_rfl
theorem clsV_cntrl : clsV (([99, 110, 116, 114, 108] : List UInt8).map UInt8.toNat) = .tuple #[.agg (setC cls_cntrl), .int .i64 0] := by kernel_rfl
theorem clsV_print : clsV (([112, 114, 105, 110, 116] : List UInt8).map UInt8.toNat) = .tuple #[.agg (setC cls_print), .int .i64 0] := by kernel_rfl
theorem clsV_graph : clsV (([103, 114, 97, 112, 104] : List UInt8).map UInt8.toNat) = .tuple #[.agg (setC cls_graph), .int .i64 0] := by kernel_rfl
theorem clsV_punct : clsV (([112, 117, 110, 99, 116] : List UInt8).map UInt8.toNat) = .tuple #[.agg (setC cls_punct), .int .i64 0] := by kernel_rfl
theorem nameB_none (l : List UInt8) (h_alnum : ¬ l = [97, 108, 110, 117, 109]) (h_alpha : ¬ l = [97, 108, 112, 104, 97]) (h_lower : ¬ l = [108, 111, 119, 101, 114]) (h_upper : ¬ l = [117, 112, 112, 101, 114]) (h_xdigit : ¬ l = [120, 100, 105, 103, 105, 116]) (h_digit : ¬ l = [100, 105, 103, 105, 116]) (h_space : ¬ l = [115, 112, 97, 99, 101]) (h_blank : ¬ l = [98, 108, 97, 110, 107]) (h_cntrl : ¬ l = [99, 110, 116, 114, 108]) (h_print : ¬ l = [112, 114, 105, 110, 116]) (h_graph : ¬ l = [103, 114, 97, 112, 104]) (h_punct : ¬ l = [112, 117, 110, 99, 116]) : Ere.nameB (l.map UInt8.toNat) = none := by
  unfold Ere.nameB
  rw [if_neg (fun e => h_upper (u8_lit (m := [117, 112, 112, 101, 114]) (by rw [e]; rfl)))]
  rw [if_neg (fun e => h_lower (u8_lit (m := [108, 111, 119, 101, 114]) (by rw [e]; rfl)))]
  rw [if_neg (fun e => h_digit (u8_lit (m := [100, 105, 103, 105, 116]) (by rw [e]; rfl)))]
  rw [if_neg (fun e => h_alpha (u8_lit (m := [97, 108, 112, 104, 97]) (by rw [e]; rfl)))]
  rw [if_neg (fun e => h_alnum (u8_lit (m := [97, 108, 110, 117, 109]) (by rw [e]; rfl)))]
  rw [if_neg (fun e => h_xdigit (u8_lit (m := [120, 100, 105, 103, 105, 116]) (by rw [e]; rfl)))]
  rw [if_neg (fun e => h_blank (u8_lit (m := [98, 108, 97, 110, 107]) (by rw [e]; rfl)))]
  rw [if_neg (fun e => h_space (u8_lit (m := [115, 112, 97, 99, 101]) (by rw [e]; rfl)))]
  rw [if_neg (fun e => h_cntrl (u8_lit (m := [99, 110, 116, 114, 108]) (by rw [e]; rfl)))]
  rw [if_neg (fun e => h_graph (u8_lit (m := [103, 114, 97, 112, 104]) (by rw [e]; rfl)))]
  rw [if_neg (fun e => h_print (u8_lit (m := [112, 114, 105, 110, 116]) (by rw [e]; rfl)))]
  rw [if_neg (fun e => h_punct (u8_lit (m := [112, 117, 110, 99, 116]) (by rw [e]; rfl)))]
theorem class_all (s : ByteArray) (w : World) : Calls Tryd.prog 136 #[.string s] w fun e w' => e = .returned (clsV (s.toList.map UInt8.toNat)) ∧ Below w.heap.size w w' := by
  by_cases h_alnum : s.toList = [97, 108, 110, 117, 109]
  · rw [h_alnum, clsV_alnum]
    exact class_alnum s w (Lib.hid h_alnum)
  by_cases h_alpha : s.toList = [97, 108, 112, 104, 97]
  · rw [h_alpha, clsV_alpha]
    exact class_alpha s w (Lib.hid h_alpha)
  by_cases h_lower : s.toList = [108, 111, 119, 101, 114]
  · rw [h_lower, clsV_lower]
    exact class_lower s w (Lib.hid h_lower)
  by_cases h_upper : s.toList = [117, 112, 112, 101, 114]
  · rw [h_upper, clsV_upper]
    exact class_upper s w (Lib.hid h_upper)
  by_cases h_xdigit : s.toList = [120, 100, 105, 103, 105, 116]
  · rw [h_xdigit, clsV_xdigit]
    exact class_xdigit s w (Lib.hid h_xdigit)
  by_cases h_digit : s.toList = [100, 105, 103, 105, 116]
  · rw [h_digit, clsV_digit]
    exact class_digit s w (Lib.hid h_digit)
  by_cases h_space : s.toList = [115, 112, 97, 99, 101]
  · rw [h_space, clsV_space]
    exact class_space s w (Lib.hid h_space)
  by_cases h_blank : s.toList = [98, 108, 97, 110, 107]
  · rw [h_blank, clsV_blank]
    exact class_blank s w (Lib.hid h_blank)
  by_cases h_cntrl : s.toList = [99, 110, 116, 114, 108]
  · rw [h_cntrl, clsV_cntrl]
    exact class_cntrl s w (Lib.hid h_cntrl)
  by_cases h_print : s.toList = [112, 114, 105, 110, 116]
  · rw [h_print, clsV_print]
    exact class_print s w (Lib.hid h_print)
  by_cases h_graph : s.toList = [103, 114, 97, 112, 104]
  · rw [h_graph, clsV_graph]
    exact class_graph s w (Lib.hid h_graph)
  by_cases h_punct : s.toList = [112, 117, 110, 99, 116]
  · rw [h_punct, clsV_punct]
    exact class_punct s w (Lib.hid h_punct)
  rw [show clsV (s.toList.map UInt8.toNat) = .tuple #[.agg (setC 0), .int .i64 30] by unfold clsV; rw [nameB_none s.toList h_alnum h_alpha h_lower h_upper h_xdigit h_digit h_space h_blank h_cntrl h_print h_graph h_punct]]
  exact class_none s w h_alnum h_alpha h_lower h_upper h_xdigit h_digit h_space h_blank h_cntrl h_print h_graph h_punct
end Go.Proofs.YtkedgombccdamaaDoor
namespace Go.Proofs.YtkedgombccdamaaDoor
open Go.RowKit Go.Maps
set_option linter.unusedVariables false
set_option linter.unusedSimpArgs false
attribute [local go_sem] Oper.semAt_some

/-- a reader's two cells -/
def rdC (p : ByteArray) (i : Nat) : Array Value := #[.string p, .int .i64 (i : Int)]
theorem more_any (g : Nat) (p : ByteArray) (i : Nat) (w : World) (h : Blk w g 120 (rdC p i)) :
    Calls Tryd.prog 94 #[.pointer (some ⟨g, 0, none⟩)] w fun e w' => e = .returned (.bool (decide (i < p.size))) ∧ Below w.heap.size w w' := by
  have c0 : w.cell? ⟨g, 0, none⟩ = some (.string p) := h.cellv rfl
  have c1 : w.cell? ⟨g, 1, none⟩ = some (.int .i64 (i : Int)) := h.cellv rfl
  by_cases hi : i < p.size
  · have hI : (i : Int) < p.size := by omega
    go_enter Tryd.func94, Tryd.ntmps94
    go_wp2_with (fail)
    go_big_region
    go_wp2_with (fail)
    go_ret
    exact ⟨by simp [hi], (Below.refl w.heap.size w).drew⟩
  · have hI : ¬ (i : Int) < p.size := by omega
    go_enter Tryd.func94, Tryd.ntmps94
    go_wp2_with (fail)
    go_big_region
    go_wp2_with (fail)
    go_ret
    exact ⟨by simp [hi], (Below.refl w.heap.size w).drew⟩
theorem is_any (g : Nat) (p : ByteArray) (k i c : Nat) (w : World) (h : Blk w g 120 (rdC p k)) :
    Calls Tryd.prog 80 #[.pointer (some ⟨g, 0, none⟩), .int .i64 (i : Int), .int .u8 (c : Int)] w fun e w' => e = .returned (.bool (Ere.isAt p i c)) ∧ Below w.heap.size w w' := by
  have c0 : w.cell? ⟨g, 0, none⟩ = some (.string p) := h.cellv rfl
  by_cases hi : i < p.size
  · have hI : (i : Int) < p.size := by omega
    have hI0 : ¬ (i : Int) < 0 := by omega
    have hv : (((p[i].toNat : Nat) : Int) == (c : Int)) = Ere.isAt p i c := by
      unfold Ere.isAt Ere.chr
      rw [dif_pos hi, decide_eq_true hi, Bool.true_and, Bool.eq_iff_iff]
      simp only [beq_iff_eq, decide_eq_true_eq]
      omega
    replace hv := Lib.hid hv
    go_enter Tryd.func80, Tryd.ntmps80
    go_wp2_with (fail)
    go_ret
    exact ⟨congrArg (fun b => Ending.returned (.bool b)) hv.out, Below.refl _ _⟩
  · have hI : ¬ (i : Int) < p.size := by omega
    have hv : Ere.isAt p i c = false := by unfold Ere.isAt; rw [decide_eq_false hi, Bool.false_and]
    rw [hv]
    go_enter Tryd.func80, Tryd.ntmps80
    go_wp2_with (fail)
    go_ret
    exact ⟨rfl, Below.refl _ _⟩
theorem enter_is (args : Array Value) (w : World) : (callFunc 80 args).run Tryd.prog w = .ok (.enter 80 args) w := by kernel_rfl
end Go.Proofs.YtkedgombccdamaaDoor
namespace Go.Proofs.YtkedgombccdamaaDoor
open Go.RowKit Go.Maps
set_option linter.unusedVariables false
set_option linter.unusedSimpArgs false
attribute [local go_sem] Oper.semAt_some

set_option maxHeartbeats 1000000 in
set_option maxRecDepth 100000 in
theorem slib_any (s : ByteArray) (c : Int) (w : World) :
    Calls Tryd.prog 78 #[.string s, .int .u8 c] w fun e w' => e = .returned (.int .i64 (Lib.indexByte s.data.toList c.toNat.toUInt8)) ∧ w' = w := by
  go_enter Tryd.func78, Tryd.ntmps78
  go_wp2
  rw [run_callFunc_extern Tryd.func93 (by kernel_rfl) (by kernel_rfl) (by kernel_rfl) (e := Extern.BytealgIndexByte.indexByte) (by kernel_rfl), Lib.run_indexByteString]
  simp only [Result.andThen]
  rw [Oper.upon_value]
  go_wp2
  go_ret
  exact ⟨rfl, rfl⟩
set_option maxHeartbeats 1000000 in
theorem sib_any (s : ByteArray) (c : Int) (w : World) :
    Calls Tryd.prog 55 #[.string s, .int .u8 c] w fun e w' => e = .returned (.int .i64 (Lib.indexByte s.data.toList c.toNat.toUInt8)) ∧ w' = w := by
  go_enter Tryd.func55, Tryd.ntmps55
  go_wp2_with (go_at_call 78; refine (slib_any _ _ _).mono ?_; rintro e w' ⟨rfl, rfl⟩)
  go_ret
  exact ⟨rfl, rfl⟩
theorem indexByte_ge (l : List UInt8) (c : UInt8) : decide (0 ≤ Lib.indexByte l c) = l.contains c := by
  cases h : l.contains c with
  | true =>
    rw [decide_eq_true_eq]
    rcases Int.lt_or_le (Lib.indexByte l c) 0 with h0 | h0
    · have h1 : Lib.indexByte l c = -1 := by
        have := Lib.indexByte_ge l c
        omega
      have h2 := Lib.indexByte_none h1
      obtain ⟨i, hi, e⟩ := List.mem_iff_getElem.1 (List.contains_iff_mem.1 h)
      exact absurd (by rw [List.getElem?_eq_getElem hi, e]) (h2 i)
    · exact h0
  | false =>
    rw [decide_eq_false_iff_not]
    intro h0
    obtain ⟨o, ho⟩ := Int.eq_ofNat_of_zero_le h0
    have h2 := (Lib.indexByte_some ho).1
    have h3 : c ∈ l := List.mem_of_getElem? h2
    have h4 := List.contains_iff_mem.2 h3
    rw [h] at h4
    cases h4
theorem contains_map (l : List UInt8) (c : UInt8) : (l.map UInt8.toNat).contains c.toNat = l.contains c := by
  rw [Bool.eq_iff_iff, List.contains_iff_mem, List.contains_iff_mem, List.mem_map]
  constructor
  · rintro ⟨a, ha, e⟩
    rw [← UInt8.toNat_inj.1 e]
    exact ha
  · exact fun h => ⟨c, h, rfl⟩
set_option maxHeartbeats 1000000 in
theorem one_any (g : Nat) (p o : ByteArray) (k i : Nat) (w : World) (h : Blk w g 120 (rdC p k)) :
    Calls Tryd.prog 115 #[.pointer (some ⟨g, 0, none⟩), .int .i64 (i : Int), .string o] w fun e w' => e = .returned (.bool (Ere.oneOf p i (o.data.toList.map UInt8.toNat))) ∧ Below w.heap.size w w' := by
  have c0 : w.cell? ⟨g, 0, none⟩ = some (.string p) := h.cellv rfl
  by_cases hi : i < p.size
  · have hI : (i : Int) < p.size := by omega
    have hI0 : ¬ (i : Int) < 0 := by omega
    have hv : decide (0 ≤ Lib.indexByte o.data.toList ((p[i].toNat : Nat) : Int).toNat.toUInt8) = Ere.oneOf p i (o.data.toList.map UInt8.toNat) := by
      unfold Ere.oneOf Ere.chr
      rw [dif_pos hi, decide_eq_true hi, Bool.true_and, indexByte_ge, contains_map]
      congr 1
      simp
    obtain ⟨z, hz⟩ : ∃ z, Lib.indexByte o.data.toList ((p[i].toNat : Nat) : Int).toNat.toUInt8 = z := ⟨_, rfl⟩
    have hc := sib_any o ((p[i].toNat : Nat) : Int) w
    rw [hz] at hv hc
    clear hz
    replace hv := Lib.hid hv
    go_enter Tryd.func115, Tryd.ntmps115
    go_wp2_with (go_at_call 55; refine hc.mono ?_; rintro e w' ⟨rfl, rfl⟩)
    go_ret
    exact ⟨congrArg (fun b => Ending.returned (.bool b)) hv.out, Below.refl _ _⟩
  · have hI : ¬ (i : Int) < p.size := by omega
    have hv : Ere.oneOf p i (o.data.toList.map UInt8.toNat) = false := by unfold Ere.oneOf; rw [decide_eq_false hi, Bool.false_and]
    rw [hv]
    go_enter Tryd.func115, Tryd.ntmps115
    go_wp2_with (fail)
    go_ret
    exact ⟨rfl, Below.refl _ _⟩
end Go.Proofs.YtkedgombccdamaaDoor
namespace Go.Proofs.YtkedgombccdamaaDoor
open Go.RowKit Go.Maps
set_option linter.unusedVariables false
set_option linter.unusedSimpArgs false

structure Turn (lo hi : Nat) (w w' : World) : Prop where
  os : w'.os = w.os
  tape : w'.tape = w.tape
  output : w'.output = w.output
  size : w.heap.size ≤ w'.heap.size
  block : ∀ k, k < w.heap.size → (k < lo ∨ hi ≤ k) → w'.heap[k]? = w.heap[k]?
section
variable {lo hi N g : Nat} {w w' w2 : World} {t : TypeId} {cs : Array Value}
theorem Turn.refl (lo hi : Nat) (w : World) : Turn lo hi w w := ⟨rfl, rfl, rfl, Nat.le_refl _, fun _ _ _ => rfl⟩
theorem Turn.trans (h : Turn lo hi w w') (k : Turn lo hi w' w2) : Turn lo hi w w2 := ⟨k.os.trans h.os, k.tape.trans h.tape, k.output.trans h.output, Nat.le_trans h.size k.size, fun j hj hh => (k.block j (by have := h.size; omega) hh).trans (h.block j hj hh)⟩
theorem Turn.of_below (h : Below w.heap.size w w') : Turn lo hi w w' := ⟨h.os, h.tape, h.output, h.size, fun k hk _ => h.block k hk⟩
theorem Turn.then_ (h : Turn lo hi w w') (k : Below w'.heap.size w' w2) : Turn lo hi w w2 := h.trans (Turn.of_below k)
theorem Turn.grown {row : Option Nat} (h : Turn lo hi w w') (hg : w'.grownBy w2 row) (hr : ∀ g, row = some g → (lo ≤ g ∧ g < hi) ∨ w.heap.size ≤ g) : Turn lo hi w w2 :=
  ⟨hg.os.trans h.os, hg.tape.trans h.tape, hg.output.trans h.output, Nat.le_trans h.size hg.size, fun k hk hh => (hg.block k (by have := h.size; omega) (fun e => by
    have := hr k e.symm
    omega)).trans (h.block k hk hh)⟩
theorem Turn.below (h : Turn lo hi w w') (h1 : N ≤ lo) (h2 : N ≤ w.heap.size) : Below N w w' := ⟨h.os, h.tape, h.output, h.size, fun k hk => h.block k (by omega) (.inl (by omega))⟩
theorem blk_turn (h : Blk w g t cs) (hm : Turn lo hi w w') (hg : g < lo ∨ hi ≤ g) : Blk w' g t cs := (hm.block g h.lt hg).trans h
end
end Go.Proofs.YtkedgombccdamaaDoor
namespace Go.Proofs.YtkedgombccdamaaDoor
open Go.RowKit Go.Maps
set_option linter.unusedVariables false
set_option linter.unusedSimpArgs false
attribute [local go_sem] Oper.semAt_some

theorem one_digit (p : ByteArray) (i : Nat) : Ere.oneOf p i [48, 49, 50, 51, 52, 53, 54, 55, 56, 57] = (decide (i < p.size) && decide (48 ≤ Ere.chr p i) && decide (Ere.chr p i ≤ 57)) := by
  unfold Ere.oneOf
  rw [Bool.and_assoc]
  congr 1
  rw [Bool.eq_iff_iff]
  simp only [List.contains_iff_mem, List.mem_cons, List.not_mem_nil, or_false, Bool.and_eq_true, decide_eq_true_eq]
  omega
theorem cnt_end {n j m : Nat} {b : Bool} (h : b = Ere.cntOk (n, j, m)) : Ending.returned (.tuple #[.int .i64 (n : Int), .bool b]) = Ending.returned (.tuple #[.int .i64 (((n, j, m) : Nat × Nat × Nat).1 : Int), .bool (Ere.cntOk (n, j, m))]) := by rw [h]
set_option maxRecDepth 100000 in
set_option maxHeartbeats 2000000 in
theorem rcount_any (g : Nat) (p : ByteArray) (i : Nat) (w : World) (hg : Blk w g 120 (rdC p i)) (hi : i ≤ 4000000000) :
    Calls Tryd.prog 132 #[.pointer (some ⟨g, 0, none⟩)] w fun e w' => e = .returned (.tuple #[.int .i64 ((Ere.digits p 4 i 0 0).1 : Int), .bool (Ere.cntOk (Ere.digits p 4 i 0 0))]) ∧ Turn g (g + 1) w w' ∧ Blk w' g 120 (rdC p (Ere.digits p 4 i 0 0).2.1) := by
  have hT : Turn g (g + 1) w w := Turn.refl _ _ _
  go_enter Tryd.func132, Tryd.ntmps132
  go_wp2_with (fail)
  go_loopw [4, 5] (fun nv mv wr => ∃ n m : Nat, m ≤ 4 ∧ n < 10 ^ m ∧ nv = .int .i64 n ∧ mv = .int .i64 m ∧ Turn g (g + 1) w wr ∧ Blk wr g 120 (rdC p (i + m)) ∧ Ere.digits p 4 i 0 0 = Ere.digits p (4 - m) (i + m) n m) (fun _ mv _ => 4 - (intOf mv).toNat)
  case atStart => exact ⟨0, 0, by omega, by decide, rfl, rfl, hT, hg, rfl⟩
  case round =>
    clear hT hg
    obtain ⟨n, m, hm, hn, rfl, rfl, hT, hg, hd⟩ := hrel
    obtain ⟨q, hq⟩ : ∃ q, Ere.oneOf p (i + m) [48, 49, 50, 51, 52, 53, 54, 55, 56, 57] = q := ⟨_, rfl⟩
    have c1 : wr.cell? ⟨g, 1, none⟩ = some (.int .i64 ((i : Int) + (m : Int))) := hg.cellv (by simp [rdC])
    have ho := one_any g p ⟨#[48, 49, 50, 51, 52, 53, 54, 55, 56, 57]⟩ (i + m) (i + m) wr hg
    rw [show (List.map UInt8.toNat (⟨#[48, 49, 50, 51, 52, 53, 54, 55, 56, 57]⟩ : ByteArray).data.toList) = [48, 49, 50, 51, 52, 53, 54, 55, 56, 57] from rfl, hq, Int.natCast_add] at ho
    have hq2 := one_digit p (i + m)
    rw [hq] at hq2
    clear hq
    cases q with
    | false =>
      have hf : Ere.digits p 4 i 0 0 = (n, i + m, m) := by
        rw [hd]
        cases h4 : 4 - m with
        | zero => rfl
        | succ k => unfold Ere.digits; rw [← hq2]; rfl
      clear hd hq2
      replace hf := Lib.hid hf
      go_wp2_with (go_at_call 115; refine ho.mono ?_; rintro e w2 ⟨rfl, hB⟩)
      all_goals go_ret2
      all_goals rw [hf.out]
      all_goals refine ⟨cnt_end ?_, hT.then_ hB, blk_then hg hB⟩
      all_goals unfold Ere.cntOk
      all_goals (rw [Bool.eq_iff_iff]; simp only [Bool.and_eq_true, decide_eq_true_eq, Bool.false_eq_true, false_iff]; omega)
    | true =>
      simp only [Bool.true_eq, Bool.and_eq_true, decide_eq_true_eq] at hq2
      obtain ⟨⟨hjs, h48⟩, h57⟩ := hq2
      by_cases hm4 : m < 4
      · have hmI : (m : Int) < 4 := by omega
        have c0 : wr.cell? ⟨g, 0, none⟩ = some (.string p) := hg.cellv rfl
        go_wp2_with (go_at_call 115; refine ho.mono ?_; rintro e w2 ⟨rfl, hB⟩)
        obtain ⟨j, hj⟩ : ∃ j, i + m = j := ⟨_, rfl⟩
        have hjI : (i : Int) + (m : Int) = (j : Int) := by omega
        have hgj := blk_then hg hB
        rw [hj] at hgj hjs h48 h57
        have d0 : w2.cell? ⟨g, 0, none⟩ = some (.string p) := hgj.cellv rfl
        have d1 : w2.cell? ⟨g, 1, none⟩ = some (.int .i64 (j : Int)) := hgj.cellv rfl
        have hI : (j : Int) < p.size := by omega
        have hI0 : ¬ (j : Int) < 0 := by omega
        have hch : Ere.chr p j = (p[j]).toNat := by unfold Ere.chr; rw [dif_pos hjs]
        have h48I : 48 ≤ (((p[j]).toNat : Nat) : Int) := by omega
        have h57I : (((p[j]).toNat : Nat) : Int) ≤ 57 := by omega
        have hnb : n < 10000 := Nat.lt_of_lt_of_le hn (Nat.le_trans (Nat.pow_le_pow_right (by decide) hm) (by decide))
        have hnI : (n : Int) < 10000 := by omega
        replace hd := Lib.hid hd
        replace hj := Lib.hid hj
        replace hjI := Lib.hid hjI
        replace hch := Lib.hid hch
        clear c0 c1 ho
        go_big_region
        have hgd : Blk w2.drew g 120 (rdC p j) := hgj.drew
        have hTd : Turn g (g + 1) w w2.drew := (hT.then_ hB).then_ ((Below.refl w2.heap.size w2).drew)
        obtain ⟨w3, hw3⟩ : ∃ y, y = w2.drew := ⟨_, rfl⟩
        rw [← hw3] at hgd hTd ⊢
        clear hw3 d0 d1 hgj hB hT hg
        have e1 : w3.cell? ⟨g, 1, none⟩ = some (.int .i64 (j : Int)) := hgd.cellv rfl
        have f1 := hgd.frozen 1
        have hj9 : (j : Int) ≤ 5000000000 := by have := hj.out; omega
        have hd2 : Ere.digits p 4 i 0 0 = Ere.digits p (4 - (m + 1)) (i + (m + 1)) (10 * n + ((p[j]).toNat - 48)) (m + 1) := by
          rw [hd.out]
          have hk : 4 - m = (4 - (m + 1)) + 1 := by omega
          rw [hk]
          conv => lhs; unfold Ere.digits
          rw [hj.out, if_pos (by simp [hjs, h48, h57]), hch.out, show i + (m + 1) = j + 1 by have := hj.out; omega]
        have hn2 : 10 * n + ((p[j]).toNat - 48) < 10 ^ (m + 1) := by rw [Nat.pow_succ]; omega
        have hG2 : ∀ v, Turn g (g + 1) w (w3.setCell ⟨g, 1, none⟩ v) := fun v => hTd.grown (only_setCell (World.grownBy.refl w3 (some g)) (.inl rfl) v) (fun q e => by injection e with e; omega)
        have hB2 : Blk (w3.setCell ⟨g, 1, none⟩ (.int .i64 ((j : Int) + 1))) g 120 (rdC p (i + (m + 1))) := hgd.set_eq (by simp [rdC]; have := hj.out; omega)
        replace hd2 := Lib.hid hd2
        replace hG2 := Lib.hid hG2
        replace hB2 := Lib.hid hB2
        replace hn2 := Lib.hid hn2
        go_wp2_with (fail)
        exact ⟨⟨10 * n + ((p[j]).toNat - 48), m + 1, by omega, hn2.out, by congr 1; omega, by congr 1, hG2.out _, hB2.out, hd2.out⟩, by simp only [intOf]; omega⟩
      · have hmI : ¬ (m : Int) < 4 := by omega
        have hf : Ere.digits p 4 i 0 0 = (n, i + m, m) := by
          rw [hd, show 4 - m = 0 by omega]
          rfl
        clear hd
        replace hf := Lib.hid hf
        go_wp2_with (go_at_call 115; refine ho.mono ?_; rintro e w2 ⟨rfl, hB⟩)
        all_goals go_ret2
        all_goals rw [hf.out]
        all_goals refine ⟨cnt_end ?_, hT.then_ hB, blk_then hg hB⟩
        all_goals unfold Ere.cntOk
        all_goals (rw [Bool.eq_iff_iff]; simp only [Bool.and_eq_true, decide_eq_true_eq, Bool.false_eq_true, false_iff]; omega)
end Go.Proofs.YtkedgombccdamaaDoor
namespace Go.Proofs.YtkedgombccdamaaDoor
open Go.RowKit Go.Maps
set_option linter.unusedVariables false
set_option linter.unusedSimpArgs false
attribute [local go_sem] Oper.semAt_some

/-- how a reader of a pattern gives up -/
def faultE (e at_ : Nat) : Ending := .panicked [{ v := .iface 117 (.agg #[.int .i64 (e : Int), .int .i64 (at_ : Int)]), recovered := false }]
theorem give_any (e at_ : Nat) (w : World) : Calls Tryd.prog 59 #[.int .i64 (e : Int), .int .i64 (at_ : Int)] w fun en w' => en = faultE e at_ ∧ Below w.heap.size w w' := by
  go_enter Tryd.func59, Tryd.ntmps59
  go_wp2_with (fail)
  exact ⟨rfl, rfl, Below.refl _ _⟩
end Go.Proofs.YtkedgombccdamaaDoor
namespace Go.Proofs.YtkedgombccdamaaDoor
open Go.RowKit Go.Maps
set_option linter.unusedVariables false
set_option linter.unusedSimpArgs false
attribute [local go_sem] Oper.semAt_some

/-- what a call of a reader ends in: a fault, or an answer and the reader at its place -/
def RdAns {α : Type} (g : Nat) (p : ByteArray) (w : World) (val : α → Value) (r : Ere.Res α) (en : Ending) (w' : World) : Prop :=
  Turn g (g + 1) w w' ∧ match r with
    | .fault e i => en = faultE e i
    | .got x j => en = .returned (val x) ∧ Blk w' g 120 (rdC p j)
theorem digits_le (p : ByteArray) : ∀ k i n m, (Ere.digits p k i n m).2.1 ≤ i + k ∧ i ≤ (Ere.digits p k i n m).2.1
  | 0, i, n, m => by unfold Ere.digits; exact ⟨Nat.le_refl _, Nat.le_refl _⟩
  | k + 1, i, n, m => by
    unfold Ere.digits
    split
    · have := digits_le p k (i + 1) (10 * n + (Ere.chr p i - 48)) (m + 1)
      omega
    · exact ⟨by simp, by simp⟩
theorem setRd {g : Nat} {p : ByteArray} {i j : Nat} {w : World} (h : Blk w g 120 (rdC p i)) {v : Value} (hv : v = .int .i64 (j : Int)) : Blk (w.setCell ⟨g, 1, none⟩ v) g 120 (rdC p j) := h.set_eq (by rw [hv]; simp [rdC])
theorem turnRd {g : Nat} {w w' : World} (h : Turn g (g + 1) w w') (i : Nat) (v : Value) : Turn g (g + 1) w (w'.setCell ⟨g, i, none⟩ v) := h.grown (only_setCell (World.grownBy.refl w' (some g)) (.inl rfl) v) (fun q e => by injection e with e; omega)
theorem is_at (g : Nat) (p : ByteArray) (k i c : Nat) (ci : Int) (w : World) (h : Blk w g 120 (rdC p k)) (e : ci = (c : Int)) {b : Bool} (hb : Ere.isAt p i c = b) :
    Calls Tryd.prog 80 #[.pointer (some ⟨g, 0, none⟩), .int .i64 (i : Int), .int .u8 ci] w fun e w' => e = .returned (.bool b) ∧ Below w.heap.size w w' := by
  subst e; subst hb
  exact is_any g p k i c w h
set_option maxRecDepth 100000 in
set_option maxHeartbeats 4000000 in
theorem counts_any (g : Nat) (p : ByteArray) (i : Nat) (w : World) (h : Blk w g 120 (rdC p i)) (hi : i ≤ 2000) :
    Calls Tryd.prog 125 #[.pointer (some ⟨g, 0, none⟩)] w fun e w' => RdAns g p w (fun c : Nat × Int => .tuple #[.int .i64 (c.1 : Int), .int .i64 c.2]) (Ere.countsR p i) e w' := by
  have c1 : w.cell? ⟨g, 1, none⟩ = some (.int .i64 (i : Int)) := h.cellv rfl
  have f1 := h.frozen 1
  have hiI : (i : Int) ≤ 2000 := by omega
  have hT := Turn.refl g (g + 1) w
  obtain ⟨r, hr0⟩ : ∃ r, Ere.countsR p i = r := ⟨_, rfl⟩
  rw [hr0]
  replace hr0 := Lib.hid hr0
  go_enter Tryd.func125, Tryd.ntmps125
  go_upto_region 3 with (fail)
  have h2 := setRd h (v := .int .i64 ((i : Int) + 1)) (j := i + 1) (by simp)
  have hT2 := turnRd hT 1 (.int .i64 ((i : Int) + 1))
  obtain ⟨w2, hw2⟩ : ∃ y, y = w.setCell ⟨g, 1, none⟩ (.int .i64 ((i : Int) + 1)) := ⟨_, rfl⟩
  rw [← hw2] at h2 hT2 ⊢
  clear hw2 hT c1 f1
  have hc := rcount_any g p (i + 1) w2 h2 (by omega)
  obtain ⟨n1, hn1⟩ : ∃ n, (Ere.digits p 4 (i + 1) 0 0).1 = n := ⟨_, rfl⟩
  obtain ⟨j1, hj1⟩ : ∃ n, (Ere.digits p 4 (i + 1) 0 0).2.1 = n := ⟨_, rfl⟩
  obtain ⟨o1, ho1⟩ : ∃ n, Ere.cntOk (Ere.digits p 4 (i + 1) 0 0) = n := ⟨_, rfl⟩
  have hjb := digits_le p 4 (i + 1) 0 0
  rw [hn1, hj1, ho1] at hc
  rw [hj1] at hjb
  have hR : Ere.countsR p i = if o1 && Ere.isAt p j1 44 then
      if Ere.isAt p (j1 + 1) 125 then .got (n1, -1) (j1 + 1)
      else if !Ere.cntOk (Ere.digits p 4 (j1 + 1) 0 0) || !Ere.isAt p (Ere.digits p 4 (j1 + 1) 0 0).2.1 125 || decide ((Ere.digits p 4 (j1 + 1) 0 0).1 < n1) then .fault 45 i else .got (n1, ((Ere.digits p 4 (j1 + 1) 0 0).1 : Int)) (Ere.digits p 4 (j1 + 1) 0 0).2.1
    else if !o1 || !Ere.isAt p j1 125 then .fault 45 i else .got (n1, (n1 : Int)) j1 := by
    unfold Ere.countsR
    simp only [hn1, hj1, ho1]
  replace hR := Lib.hid hR
  clear hn1 hj1 ho1
  go_upto_region 5 with (go_at_call 132; refine hc.mono ?_; rintro e w3 ⟨rfl, hT3, h3⟩)
  replace hc := Lib.hid hc
  have hT4 : Turn g (g + 1) w w3 := hT2.trans hT3
  clear hT2 hT3 h2 hc
  obtain ⟨a44, h44⟩ : ∃ b, Ere.isAt p j1 44 = b := ⟨_, rfl⟩
  have k44 := is_at g p j1 j1 44 44 w3 h3 rfl h44
  rw [hr0.out] at hR
  rw [h44] at hR
  have hf0 : o1 = false → r = .fault 45 i := by rintro rfl; rw [hR.out]; simp
  have hf1 : o1 = true → a44 = false → Ere.isAt p j1 125 = false → r = .fault 45 i := by rintro rfl h1 h2; rw [hR.out, h1, h2]; simp
  have hf2 : o1 = true → a44 = false → Ere.isAt p j1 125 = true → r = .got (n1, (n1 : Int)) j1 := by rintro rfl h1 h2; rw [hR.out, h1, h2]; simp
  have hf3 : o1 = true → a44 = true → Ere.isAt p (j1 + 1) 125 = true → r = .got (n1, -1) (j1 + 1) := by rintro rfl h1 h2; rw [hR.out, h1, h2]; simp
  have hf4 : o1 = true → a44 = true → Ere.isAt p (j1 + 1) 125 = false → Ere.cntOk (Ere.digits p 4 (j1 + 1) 0 0) = false → r = .fault 45 i := by rintro rfl h1 h2 h5; rw [hR.out, h1, h2, h5]; simp
  have hf5 : o1 = true → a44 = true → Ere.isAt p (j1 + 1) 125 = false → Ere.isAt p (Ere.digits p 4 (j1 + 1) 0 0).2.1 125 = false → r = .fault 45 i := by rintro rfl h1 h2 h5; rw [hR.out, h1, h2, h5]; simp
  have hf6 : o1 = true → a44 = true → Ere.isAt p (j1 + 1) 125 = false → (Ere.digits p 4 (j1 + 1) 0 0).1 < n1 → r = .fault 45 i := by rintro rfl h1 h2 h5; rw [hR.out, h1, h2]; simp [h5]
  have hf7 : o1 = true → a44 = true → Ere.isAt p (j1 + 1) 125 = false → Ere.cntOk (Ere.digits p 4 (j1 + 1) 0 0) = true → Ere.isAt p (Ere.digits p 4 (j1 + 1) 0 0).2.1 125 = true → ¬ (Ere.digits p 4 (j1 + 1) 0 0).1 < n1 → r = .got (n1, ((Ere.digits p 4 (j1 + 1) 0 0).1 : Int)) (Ere.digits p 4 (j1 + 1) 0 0).2.1 := by rintro rfl h1 h2 h3 h4 h5; rw [hR.out, h1, h2, h3, h4]; simp [h5]
  clear hR hr0 h44
  have c0 : w3.cell? ⟨g, 0, none⟩ = some (.string p) := h3.cellv rfl
  have c1 : w3.cell? ⟨g, 1, none⟩ = some (.int .i64 (j1 : Int)) := h3.cellv rfl
  have f1 := h3.frozen 1
  have hj1I : (j1 : Int) ≤ 3000 := by omega
  cases o1 with
  | false =>
    have hr := Lib.hid (hf0 (by trivial))
    clear hf0 hf1 hf2 hf3 hf4 hf5 hf6 hf7 k44
    go_wp2_with (go_at_call 59; refine (give_any 45 i _).mono ?_; rintro e w4 ⟨hfe, hB⟩)
    rw [hr.out]
    exact ⟨rfl, hT4.then_ hB, hfe⟩
  | true =>
    clear hf0
    cases a44 with
    | false =>
      clear hf3 hf4 hf5 hf6 hf7
      have hn : ¬ (n1 : Int) < n1 := by omega
      obtain ⟨b, hb⟩ : ∃ b, Ere.isAt p j1 125 = b := ⟨_, rfl⟩
      go_upto_region 10 with (go_at_call 80; refine k44.mono ?_; rintro e w4 ⟨rfl, hB⟩)
      have h4 := blk_then h3 hB
      have hT5 := hT4.then_ hB
      clear h3 hT4 hB k44 c0 c1 f1
      have k125 := is_at g p j1 j1 125 125 w4 h4 rfl hb
      have c0 : w4.cell? ⟨g, 0, none⟩ = some (.string p) := h4.cellv rfl
      have c1 : w4.cell? ⟨g, 1, none⟩ = some (.int .i64 (j1 : Int)) := h4.cellv rfl
      cases b with
      | false =>
        have hr := Lib.hid (hf1 (by trivial) (by trivial) hb)
        clear hf1 hf2 hb
        go_wp2_with (first | (go_at_call 80; refine k125.mono ?_; rintro e w5 ⟨rfl, hB⟩) | (go_at_call 59; refine (give_any 45 i _).mono ?_; rintro e w6 ⟨hfe, hB2⟩))
        rw [hr.out]
        exact ⟨rfl, (hT5.then_ hB).then_ hB2, hfe⟩
      | true =>
        have hr := Lib.hid (hf2 (by trivial) (by trivial) hb)
        clear hf1 hf2 hb
        go_wp2_with (go_at_call 80; refine k125.mono ?_; rintro e w5 ⟨rfl, hB⟩)
        go_ret2
        rw [hr.out]
        exact ⟨hT5.then_ hB, rfl, blk_then h4 hB⟩
    | true =>
      clear hf1 hf2
      obtain ⟨b, hb⟩ : ∃ b, Ere.isAt p (j1 + 1) 125 = b := ⟨_, rfl⟩
      obtain ⟨j2, hj2⟩ : ∃ j2, j1 + 1 = j2 := ⟨_, rfl⟩
      rw [hj2] at hb hf3 hf4 hf5 hf6 hf7
      have hj2I : (j1 : Int) + 1 = j2 := by omega
      replace hj2I := Lib.hid hj2I
      have hj2b : j2 ≤ 3001 := by omega
      clear hj2
      go_upto_region 6 with (go_at_call 80; refine k44.mono ?_; rintro e w4 ⟨rfl, hB⟩)
      have h4 := blk_then h3 hB
      have hT5 := hT4.then_ hB
      clear h3 hT4 hB k44 c0 c1 f1
      have c1 : w4.cell? ⟨g, 1, none⟩ = some (.int .i64 (j1 : Int)) := h4.cellv rfl
      have f1 := h4.frozen 1
      go_upto_region 8 with (fail)
      rw [hj2I.out]
      have h5 := setRd h4 (v := .int .i64 (j2 : Int)) (j := j2) rfl
      have hT6 := turnRd hT5 1 (.int .i64 (j2 : Int))
      obtain ⟨w5, hw5⟩ : ∃ y, y = w4.setCell ⟨g, 1, none⟩ (.int .i64 (j2 : Int)) := ⟨_, rfl⟩
      rw [← hw5] at h5 hT6 ⊢
      clear hw5 hT5 h4 c1 f1
      have k125 := is_at g p j2 j2 125 125 w5 h5 rfl hb
      have c1 : w5.cell? ⟨g, 1, none⟩ = some (.int .i64 (j2 : Int)) := h5.cellv rfl
      cases b with
      | true =>
        have hr := Lib.hid (hf3 (by trivial) (by trivial) hb)
        clear hf3 hf4 hf5 hf6 hf7
        go_upto_region 10 with (go_at_call 80; refine k125.mono ?_; rintro e w6 ⟨rfl, hB⟩)
        have h6 := blk_then h5 hB
        have hT7 := hT6.then_ hB
        clear h5 hT6 hB k125 c1
        have k125 := is_at g p j2 j2 125 125 w6 h6 rfl hb
        have c1 : w6.cell? ⟨g, 1, none⟩ = some (.int .i64 (j2 : Int)) := h6.cellv rfl
        clear hb
        go_wp2_with (go_at_call 80; refine k125.mono ?_; rintro e w7 ⟨rfl, hB⟩)
        go_ret2
        rw [hr.out]
        exact ⟨hT7.then_ hB, rfl, blk_then h6 hB⟩
      | false =>
        clear hf3
        have hjb2 := digits_le p 4 j2 0 0
        go_upto_region 9 with (go_at_call 80; refine k125.mono ?_; rintro e w6 ⟨rfl, hB⟩)
        have h6 := blk_then h5 hB
        have hT7 := hT6.then_ hB
        clear h5 hT6 hB k125 c1
        have hc := rcount_any g p j2 w6 h6 (by omega)
        obtain ⟨n2, hn2⟩ : ∃ n, (Ere.digits p 4 j2 0 0).1 = n := ⟨_, rfl⟩
        obtain ⟨j3, hj3⟩ : ∃ n, (Ere.digits p 4 j2 0 0).2.1 = n := ⟨_, rfl⟩
        obtain ⟨o2, ho2⟩ : ∃ n, Ere.cntOk (Ere.digits p 4 j2 0 0) = n := ⟨_, rfl⟩
        rw [hn2, hj3, ho2] at hc
        rw [hj3] at hjb2
        rw [hn2] at hf6 hf7
        rw [hj3] at hf5 hf7
        rw [ho2] at hf4 hf7
        clear hn2 hj3 ho2
        go_upto_region 10 with (go_at_call 132; refine hc.mono ?_; rintro e w7 ⟨rfl, hT8, h7⟩)
        clear hc
        have hT9 := hT7.trans hT8
        clear hT7 hT8 h6
        have c1 : w7.cell? ⟨g, 1, none⟩ = some (.int .i64 (j3 : Int)) := h7.cellv rfl
        cases o2 with
        | false =>
          have hr := Lib.hid (hf4 (by trivial) (by trivial) hb (by trivial))
          clear hf4 hf5 hf6 hf7 hb
          go_wp2_with (go_at_call 59; refine (give_any 45 i _).mono ?_; rintro e w8 ⟨hfe, hB⟩)
          rw [hr.out]
          exact ⟨rfl, hT9.then_ hB, hfe⟩
        | true =>
          obtain ⟨b3, hb3⟩ : ∃ b, Ere.isAt p j3 125 = b := ⟨_, rfl⟩
          have k125 := is_at g p j3 j3 125 125 w7 h7 rfl hb3
          cases b3 with
          | false =>
            have hr := Lib.hid (hf5 (by trivial) (by trivial) hb hb3)
            clear hf4 hf5 hf6 hf7 hb hb3
            go_wp2_with (first | (go_at_call 80; refine k125.mono ?_; rintro e w8 ⟨rfl, hB⟩) | (go_at_call 59; refine (give_any 45 i _).mono ?_; rintro e w9 ⟨hfe, hB2⟩))
            rw [hr.out]
            exact ⟨rfl, (hT9.then_ hB).then_ hB2, hfe⟩
          | true =>
            have hn0 : (0 : Int) ≤ n2 := by omega
            by_cases hlt : n2 < n1
            · have hr := Lib.hid (hf6 (by trivial) (by trivial) hb hlt)
              have hltI : (n2 : Int) < n1 := by omega
              clear hf4 hf5 hf6 hf7 hb hb3
              go_wp2_with (first | (go_at_call 80; refine k125.mono ?_; rintro e w8 ⟨rfl, hB⟩) | (go_at_call 59; refine (give_any 45 i _).mono ?_; rintro e w9 ⟨hfe, hB2⟩))
              rw [hr.out]
              exact ⟨rfl, (hT9.then_ hB).then_ hB2, hfe⟩
            · have hr := Lib.hid (hf7 (by trivial) (by trivial) hb (by trivial) hb3 hlt)
              have hltI : ¬ (n2 : Int) < n1 := by omega
              clear hf4 hf5 hf6 hf7 hb hb3
              go_wp2_with (go_at_call 80; refine k125.mono ?_; rintro e w8 ⟨rfl, hB⟩)
              go_ret2
              rw [hr.out]
              exact ⟨hT9.then_ hB, rfl, blk_then h7 hB⟩
theorem counts_le (p : ByteArray) (i : Nat) (hi : i ≤ 2000) (c : Nat × Int) (j : Nat) (h : Ere.countsR p i = .got c j) : j ≤ 3000 := by
  have h1 := digits_le p 4 (i + 1) 0 0
  have h2 := digits_le p 4 ((Ere.digits p 4 (i + 1) 0 0).2.1 + 1) 0 0
  unfold Ere.countsR at h
  simp only at h
  split at h
  · split at h
    · injection h with _ h; omega
    · split at h
      · cases h
      · injection h with _ h; omega
  · split at h
    · cases h
    · injection h with _ h; omega
end Go.Proofs.YtkedgombccdamaaDoor
