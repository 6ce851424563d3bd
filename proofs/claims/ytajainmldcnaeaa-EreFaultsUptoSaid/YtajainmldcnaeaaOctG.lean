/- Steps of regions that draw: sets and bytes of the call's own, Join, Meet, Not, Of, Span. No condition beyond those named in each lemma. -/
import Derived.Test.YtajainmldcnaeaaOctC
import Derived.Test.YtajainmldcnaeaaGs
namespace Go.Proofs.Ytajainmldcnaeaa
open Go.RowKit Go.Maps
set_option linter.unusedVariables false
set_option linter.unusedSimpArgs false

def setsS (xs : List BSet) : GSpec :=
  ⟨fun v w => ∃ A n c, v = .slice A n c ∧ n = xs.length ∧ SliceOf w w.heap.size 4 setC A xs,
   fun v w w' ⟨A, n, c, h1, h2, h3⟩ hb => ⟨A, n, c, h1, h2, (h3.below hb).more hb.size⟩⟩
def bytesS (xs : List UInt8) : GSpec :=
  ⟨fun v w => ∃ A n c, v = .slice A n c ∧ n = xs.length ∧ SliceOf w w.heap.size 1 enc8 A xs,
   fun v w w' ⟨A, n, c, h1, h2, h3⟩ hb => ⟨A, n, c, h1, h2, (h3.below hb).more hb.size⟩⟩

theorem enter_join (args : Array Value) (w : World) : (callFunc 89 args).run Try.prog w = .ok (.enter 89 args) w := by kernel_rfl
theorem enter_meet (args : Array Value) (w : World) : (callFunc 91 args).run Try.prog w = .ok (.enter 91 args) w := by kernel_rfl
theorem enter_not (args : Array Value) (w : World) : (callFunc 80 args).run Try.prog w = .ok (.enter 80 args) w := by kernel_rfl
theorem build_sets2 (x y : BSet) (w : World) : (Instr.buildSlice 123 2 #[(0, .agg (setC x)), (1, .agg (setC y))]).run Try.prog w = .ok (.slice (some ⟨w.heap.size, 0, none⟩) 2 2) (w.alloc (.cells (setC x ++ setC y) 24)) := by kernel_rfl
theorem row_of_append {w : World} {g : Nat} {t : TypeId} {A B C : Array Value} (h : Blk w g t (A ++ B ++ C)) : RowAt w g A.size B := by
  intro j v hv
  have hj : j < B.size := by
    rcases Nat.lt_or_ge j B.size with h1 | h1
    · exact h1
    · rw [Array.getElem?_eq_none h1] at hv; cases hv
  apply h.cellv
  rw [Array.getElem?_append_left (by simp; omega), Array.getElem?_append_right (by omega)]
  rw [show A.size + j - A.size = j by omega]
  exact hv
theorem sets2_of (x y : BSet) (w : World) : SliceOf (w.alloc (.cells (setC x ++ setC y) 24)) (w.alloc (.cells (setC x ++ setC y) 24)).heap.size 4 setC (some ⟨w.heap.size, 0, none⟩) [x, y] := by
  refine .inr ⟨w.heap.size, 0, rfl, by simp, fun i hi => ?_⟩
  have hb := Blk.new w 24 (setC x ++ setC y)
  match i, hi with
  | 0, _ => exact row_of_append (A := #[]) (C := setC y) (by simpa using hb)
  | 1, _ => exact row_of_append (A := setC x) (C := #[]) (by simpa using hb)
theorem enter_of (args : Array Value) (w : World) : (callFunc 82 args).run Try.prog w = .ok (.enter 82 args) w := by kernel_rfl
theorem build_byte1 (b : Int) (w : World) : (Instr.buildSlice 86 1 #[(0, .int .u8 b)]).run Try.prog w = .ok (.slice (some ⟨w.heap.size, 0, none⟩) 1 1) (w.alloc (.cells #[.int .u8 b] 5)) := by kernel_rfl
theorem enter_span (args : Array Value) (w : World) : (callFunc 102 args).run Try.prog w = .ok (.enter 102 args) w := by kernel_rfl
theorem build_byte2 (b c : Int) (w : World) : (Instr.buildSlice 86 2 #[(0, .int .u8 b), (1, .int .u8 c)]).run Try.prog w = .ok (.slice (some ⟨w.heap.size, 0, none⟩) 2 2) (w.alloc (.cells #[.int .u8 b, .int .u8 c] 5)) := by kernel_rfl
theorem bytes_of_blk {w : World} {g : Nat} {t : TypeId} {l : List UInt8} (h : Blk w g t (l.map fun b => Value.int .u8 b.toNat).toArray) : SliceOf w w.heap.size 1 enc8 (some ⟨g, 0, none⟩) l := by
  refine .inr ⟨g, 0, rfl, h.lt, fun i hi j v hv => ?_⟩
  have hj : j = 0 := by
    rcases Nat.eq_zero_or_pos j with h0 | h0
    · exact h0
    · rw [Array.getElem?_eq_none (by simp [enc8]; omega)] at hv; cases hv
  subst hj
  apply h.cellv
  simp only [enc8, List.getElem?_toArray, List.getElem?_cons_zero, Option.some.injEq] at hv
  subst hv
  simp [hi]

theorem bytes_of_two {w : World} {g : Nat} {t : TypeId} (b c : UInt8) (h : Blk w g t #[.int .u8 b.toNat, .int .u8 c.toNat]) : SliceOf w w.heap.size 1 enc8 (some ⟨g, 0, none⟩) [b, c] := by
  have := bytes_of_blk (l := [b, c]) (w := w) (g := g) (t := t) h
  exact this
section
variable {ops : Array Oper} {S : Nat → GSpec} {Q : Exit → Act → World → Prop} {i : Nat} {o : Oper} {a : Act} {w : World}
theorem gs_sets2 (hw : Region.wanted o (yielded ops a.tmps) = true) (x y : Operand) (ho : o.op = .buildSlice 123 2 #[(0, x), (1, y)]) (p q : BSet) (hx : a.eval x = .agg (setC p)) (hy : a.eval y = .agg (setC q))
    (hp : ∀ v w', (setsS [p, q]).p v w' → (S i).p v w') : GStep Try.prog ops S Q i o a w :=
  gs_run hw (v := .slice (some ⟨w.heap.size, 0, none⟩) 2 2) (w' := w.alloc (.cells (setC p ++ setC q) 24))
    (by
      have e : (#[(0, x), (1, y)] : Array (Nat × Operand)).map (fun (i, x) => (i, a.eval x)) = #[(0, .agg (setC p)), (1, .agg (setC q))] := by simp [hx, hy]
      unfold execOp; simp only [ho, e, Sem.run_bind, build_sets2, Result.andThen_ok, Sem.run_pure])
    (below_alloc (Below.refl _ _) _) (hp _ _ ⟨_, _, _, rfl, rfl, sets2_of p q w⟩)
theorem gs_join (hw : Region.wanted o (yielded ops a.tmps) = true) (x : Operand) (ats : Array TypeId) (ho : o.op = .call { callee := .value (.func 89), args := #[x], argTypes := ats }) (xs : List BSet)
    (hx : (setsS xs).p (a.eval x) w) (hl : xs.length ≤ maxLen) (hp : ∀ w', (S i).p (.agg (setC (joinL xs))) w') : GStep Try.prog ops S Q i o a w := by
  obtain ⟨A, n, c, hv, hn, hs⟩ := hx
  exact gs_call hw _ _ _ ho enter_join _ (map1 hv) ((join_any A n c xs w hn (by omega) hs).mono fun e w' ⟨he, hb⟩ => ⟨_, he, hb, hp _⟩)
theorem gs_meet (hw : Region.wanted o (yielded ops a.tmps) = true) (x y : Operand) (ats : Array TypeId) (ho : o.op = .call { callee := .value (.func 91), args := #[x, y], argTypes := ats }) (p q : BSet)
    (hx : a.eval x = .agg (setC p)) (hy : a.eval y = .agg (setC q)) (hp : ∀ w', (S i).p (.agg (setC (p &&& q))) w') : GStep Try.prog ops S Q i o a w :=
  gs_call hw _ _ _ ho enter_meet _ (map2 hx hy) ((meet_any p q w).mono fun e w' ⟨he, hb⟩ => ⟨_, he, hb, hp _⟩)
theorem gs_not (hw : Region.wanted o (yielded ops a.tmps) = true) (x : Operand) (ats : Array TypeId) (ho : o.op = .call { callee := .value (.func 80), args := #[x], argTypes := ats }) (p : BSet)
    (hx : a.eval x = .agg (setC p)) (hp : ∀ w', (S i).p (.agg (setC (notB p))) w') : GStep Try.prog ops S Q i o a w :=
  gs_call hw _ _ _ ho enter_not _ (map1 hx) ((not_any p w).mono fun e w' ⟨he, hb⟩ => ⟨_, he, hb, hp _⟩)
theorem gs_byte1 (hw : Region.wanted o (yielded ops a.tmps) = true) (x : Operand) (ho : o.op = .buildSlice 86 1 #[(0, x)]) (b : UInt8) (hx : a.eval x = .int .u8 b.toNat)
    (hp : ∀ v w', (bytesS [b]).p v w' → (S i).p v w') : GStep Try.prog ops S Q i o a w :=
  gs_run hw (v := .slice (some ⟨w.heap.size, 0, none⟩) 1 1) (w' := w.alloc (.cells #[.int .u8 b.toNat] 5))
    (by
      have e : (#[(0, x)] : Array (Nat × Operand)).map (fun (i, x) => (i, a.eval x)) = #[(0, .int .u8 b.toNat)] := by simp [hx]
      unfold execOp; simp only [ho, e, Sem.run_bind, build_byte1, Result.andThen_ok, Sem.run_pure])
    (below_alloc (Below.refl _ _) _) (hp _ _ ⟨_, _, _, rfl, rfl, bytes_of_blk (l := [b]) (Blk.new w 5 #[.int .u8 b.toNat])⟩)
theorem gs_of (hw : Region.wanted o (yielded ops a.tmps) = true) (x : Operand) (ats : Array TypeId) (ho : o.op = .call { callee := .value (.func 82), args := #[x], argTypes := ats }) (xs : List UInt8)
    (hx : (bytesS xs).p (a.eval x) w) (hl : xs.length ≤ maxLen) (hp : ∀ w', (S i).p (.agg (setC (ofB xs))) w') : GStep Try.prog ops S Q i o a w := by
  obtain ⟨A, n, c, hv, hn, hs⟩ := hx
  exact gs_call hw _ _ _ ho enter_of _ (map1 hv) ((of_any A n c xs w hn (by omega) hs).mono fun e w' ⟨he, hb⟩ => ⟨_, he, hb, hp _⟩)
theorem gs_span (hw : Region.wanted o (yielded ops a.tmps) = true) (x y : Operand) (ats : Array TypeId) (ho : o.op = .call { callee := .value (.func 102), args := #[x, y], argTypes := ats }) (p q : Nat)
    (hx : a.eval x = .int .u8 (p : Int)) (hy : a.eval y = .int .u8 (q : Int)) (hp0 : p < 256) (hq0 : q < 256) (hp : ∀ w', (S i).p (.agg (setC (spanB p q))) w') : GStep Try.prog ops S Q i o a w :=
  gs_call hw _ _ _ ho enter_span _ (map2 hx hy) ((span_any p q w hp0 hq0).mono fun e w' ⟨he, hb⟩ => ⟨_, he, hb, hp _⟩)
theorem gs_byte2 (hw : Region.wanted o (yielded ops a.tmps) = true) (x y : Operand) (ho : o.op = .buildSlice 86 2 #[(0, x), (1, y)]) (b c : UInt8) (hx : a.eval x = .int .u8 b.toNat) (hy : a.eval y = .int .u8 c.toNat)
    (hp : ∀ v w', (bytesS [b, c]).p v w' → (S i).p v w') : GStep Try.prog ops S Q i o a w :=
  gs_run hw (v := .slice (some ⟨w.heap.size, 0, none⟩) 2 2) (w' := w.alloc (.cells #[.int .u8 b.toNat, .int .u8 c.toNat] 5))
    (by
      have e : (#[(0, x), (1, y)] : Array (Nat × Operand)).map (fun (i, x) => (i, a.eval x)) = #[(0, .int .u8 b.toNat), (1, .int .u8 c.toNat)] := by simp [hx, hy]
      unfold execOp; simp only [ho, e, Sem.run_bind, build_byte2, Result.andThen_ok, Sem.run_pure])
    (below_alloc (Below.refl _ _) _) (hp _ _ ⟨_, _, _, rfl, rfl, bytes_of_two b c (Blk.new w 5 #[.int .u8 b.toNat, .int .u8 c.toNat])⟩)
theorem ret_set2 {fn : Func} {p u : Tmp} {g : Nat} {x : BSet} (hres : fn.results = #[.cell p 24, .tmp u])
    (hp : a.tmps.getD p undef = .pointer (some ⟨g, 0, none⟩)) (hb : Blk w g 24 (setC x))
    (hdf : a.defers = []) {R : Ending → World → Prop} (hR : R (.returned (.tuple #[.agg (setC x), a.tmps.getD u undef])) w) : bodyPost Try.prog fn R .ret a w :=
  ret_cell2 hres _ hp hb Try.underlying24 rfl (info_set.trans (by rw [setC_size])) hdf hR
end
theorem build_sets1 (x : BSet) (w : World) : (Instr.buildSlice 123 1 #[(0, .agg (setC x))]).run Try.prog w = .ok (.slice (some ⟨w.heap.size, 0, none⟩) 1 1) (w.alloc (.cells (setC x) 24)) := by kernel_rfl
theorem wl_build1 {ops : Array Oper} {rest : List Oper} {o : Oper} {a : Act} {w : World} {Q : Exit → Act → World → Prop} (hgd : o.guard = none) (x : Operand) (ho : o.op = .buildSlice 123 1 #[(0, x)]) (y : BSet) (hx : a.eval x = .agg (setC y))
    (h : wpList Try.prog ops Q rest (a.put o.dst (.slice (some ⟨w.heap.size, 0, none⟩) 1 1)) (w.alloc (.cells (setC y) 24))) : wpList Try.prog ops Q (o :: rest) a w :=
  wpList_plain hgd fun _ hK => by
    have e : (#[(0, x)] : Array (Nat × Operand)).map (fun (i, x) => (i, a.eval x)) = #[(0, .agg (setC y))] := by simp [hx]
    unfold Oper.wp execOp
    simp only [ho, e, Sem.run_bind, build_sets1, Result.andThen_ok, Sem.run_pure]
    exact hK _ _ h
end Go.Proofs.Ytajainmldcnaeaa
