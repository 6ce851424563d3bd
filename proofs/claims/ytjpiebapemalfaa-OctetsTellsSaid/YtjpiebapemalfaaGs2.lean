/- More steps of the law on regions; the walk of octets.Spans, which makes the iterator. -/
import Derived.Test.YtjpiebapemalfaaGs
import Derived.Test.YtjpiebapemalfaaLaw3
namespace Go.Proofs.Ytjpiebapemalfaa
open Go.RowKit
set_option linter.unusedVariables false
set_option linter.unusedSimpArgs false

theorem spans_any (x : BSet) (w : World) :
    Calls Try.prog 30 #[.agg (setC x)] w fun e w' => e = .returned (.func (.func 44) #[] #[.pointer (some ⟨w.heap.size, 0, none⟩)]) ∧ w' = w.alloc (.cells (setC x) 31) := by
  go_enter Try.func30, Try.ntmps30
  go_wp2
  go_ret
  exact ⟨rfl, rfl⟩
/-- the iterator over a set's rows -/
def spansS (x : BSet) : GSpec :=
  ⟨fun v w => ∃ g, v = .func (.func 44) #[] #[.pointer (some ⟨g, 0, none⟩)] ∧ Blk w g 31 (setC x),
   fun v w w' ⟨g, h1, h2⟩ hb => ⟨g, h1, blk_then h2 hb⟩⟩
theorem enter_spans (args : Array Value) (w : World) : (callFunc 30 args).run Try.prog w = .ok (.enter 30 args) w := by kernel_rfl
theorem eqFI {p q : Int} (h : p = q) : Value.bool (p != q) = .bool false := by subst h; simp
theorem eqTI {p q : Int} (h : p = q) : Value.bool (p == q) = .bool true := by subst h; simp

section
variable {P : Program} {ops : Array Oper} {S : Nat → GSpec} {Q : Exit → Act → World → Prop} {i : Nat} {o : Oper} {a : Act} {w : World}
theorem gs_assign (hw : Region.wanted o (yielded ops a.tmps) = true) (x : Operand) (ho : o.op = .assign x) (hp : (S i).p (a.eval x) w) : GStep P ops S Q i o a w :=
  gs_run hw (v := a.eval x) (by unfold execOp; rw [ho]; rfl) (Below.refl _ _) hp
theorem gs_not_bool (hw : Region.wanted o (yielded ops a.tmps) = true) (t : TypeId) (x : Operand) (ho : o.op = .unOp .not t x) (b : Bool) (hx : a.eval x = .bool b) (hp : (S i).p (.bool (!b)) w) : GStep P ops S Q i o a w :=
  gs_run hw (v := .bool (!b)) (by unfold execOp; simp only [ho, hx]; rfl) (Below.refl _ _) hp
theorem gs_eql_int (hw : Region.wanted o (yielded ops a.tmps) = true) (t t2 : TypeId) (x y : Operand) (ho : o.op = .binOp .eql t x y t2) (k : IntKind) (p q : Int) (hx : a.eval x = .int k p) (hy : a.eval y = .int k q)
    (hp : (S i).p (.bool (p == q)) w) : GStep P ops S Q i o a w :=
  gs_bin hw _ _ _ x y ho _ _ _ hx hy (by rw [eqGuard_at_int]; rfl) (by rw [binOp_eql]; rfl) hp
theorem gs_neq_int (hw : Region.wanted o (yielded ops a.tmps) = true) (t t2 : TypeId) (x y : Operand) (ho : o.op = .binOp .neq t x y t2) (k : IntKind) (p q : Int) (hx : a.eval x = .int k p) (hy : a.eval y = .int k q)
    (hp : (S i).p (.bool (p != q)) w) : GStep P ops S Q i o a w :=
  gs_bin hw _ _ _ x y ho _ _ _ hx hy (by rw [eqGuard_at_int]; rfl) (by rw [binOp_neq]; rfl) hp
theorem gs_add_i64 (hw : Region.wanted o (yielded ops a.tmps) = true) (t t2 : TypeId) (x y : Operand) (ho : o.op = .binOp .add t x y t2) (p q : Int) (hx : a.eval x = .int .i64 p) (hy : a.eval y = .int .i64 q)
    (hr : IntKind.i64.wrap (p + q) = p + q) (hp : (S i).p (.int .i64 (p + q)) w) : GStep P ops S Q i o a w :=
  gs_bin hw _ _ _ x y ho _ _ _ hx hy (by rw [eqGuard_at_int]; rfl) (by rw [binOp_add]; show (Op.intArith .add .i64 p q).run P w = _; simp [Op.intArith, hr]) hp
end
section
variable {ops : Array Oper} {S : Nat → GSpec} {Q : Exit → Act → World → Prop} {i : Nat} {o : Oper} {a : Act} {w : World}
theorem gs_build_set (hw : Region.wanted o (yielded ops a.tmps) = true) (parts : Array (Nat × Operand)) (ho : o.op = .build 31 parts) (x : BSet)
    (hr : ∀ w, (Instr.build 31 (parts.map fun (i, x) => (i, a.eval x))).run Try.prog w = .ok (.agg (setC x)) w) (hp : (S i).p (.agg (setC x)) w) : GStep Try.prog ops S Q i o a w :=
  gs_run hw (v := .agg (setC x)) (by unfold execOp; simp only [ho, Sem.run_bind, hr, Result.andThen_ok, Sem.run_pure]) (Below.refl _ _) hp
theorem gs_spans (hw : Region.wanted o (yielded ops a.tmps) = true) (x : Operand) (ats : Array TypeId) (ho : o.op = .call { callee := .value (.func 30), args := #[x], argTypes := ats }) (p : BSet)
    (hx : a.eval x = .agg (setC p)) (hp : ∀ v w', (spansS p).p v w' → (S i).p v w') : GStep Try.prog ops S Q i o a w :=
  gs_call hw _ _ _ ho enter_spans _ (map1 hx) ((spans_any p w).mono fun e w' ⟨he, hw'⟩ => ⟨_, he, by rw [hw']; exact below_alloc (Below.refl _ _) _, hp _ _ ⟨_, rfl, by rw [hw']; exact Blk.new _ _ _⟩⟩)
theorem run_neq_spans (g : Nat) (w : World) : (binOp .neq 54 (.func (.func 44) #[] #[.pointer (some ⟨g, 0, none⟩)]) .nilFunc).run Try.prog w = .ok (.bool true) w := by kernel_rfl
theorem run_eql_spans (g : Nat) (w : World) : (binOp .eql 54 (.func (.func 44) #[] #[.pointer (some ⟨g, 0, none⟩)]) .nilFunc).run Try.prog w = .ok (.bool false) w := by kernel_rfl
theorem gs_neq_spans (hw : Region.wanted o (yielded ops a.tmps) = true) (x y : Operand) (t2 : TypeId) (ho : o.op = .binOp .neq 54 x y t2) (p : BSet) (hx : (spansS p).p (a.eval x) w) (hy : a.eval y = .nilFunc)
    (hp : (S i).p (.bool true) w) : GStep Try.prog ops S Q i o a w := by
  obtain ⟨g, h1, _⟩ := hx
  exact gs_bin hw _ _ _ x y ho _ _ _ h1 hy (by rfl) (run_neq_spans g w) hp
theorem gs_eql_spans (hw : Region.wanted o (yielded ops a.tmps) = true) (x y : Operand) (t2 : TypeId) (ho : o.op = .binOp .eql 54 x y t2) (p : BSet) (hx : (spansS p).p (a.eval x) w) (hy : a.eval y = .nilFunc)
    (hp : (S i).p (.bool false) w) : GStep Try.prog ops S Q i o a w := by
  obtain ⟨g, h1, _⟩ := hx
  exact gs_bin hw _ _ _ x y ho _ _ _ h1 hy (by rfl) (run_eql_spans g w) hp
end

theorem bytes_of_blk {w : World} {g : Nat} {t : TypeId} {l : List UInt8} (h : Blk w g t (l.map fun b => Value.int .u8 b.toNat).toArray) : SliceOf w w.heap.size 1 enc8 (some ⟨g, 0, none⟩) l := by
  refine .inr ⟨g, 0, rfl, h.lt, fun i hi j v hv => ?_⟩
  have hj : j = 0 := by
    rcases Nat.eq_zero_or_pos j with h0 | h0
    · exact h0
    · rw [Array.getElem?_eq_none (by simp [enc8]; omega)] at hv; cases hv
  subst hj
  apply h.cellv
  simp only [enc8, List.getElem?_toArray, List.getElem?_cons_zero, Option.some.injEq] at hv
  subst hv
  simp [hi]

end Go.Proofs.Ytjpiebapemalfaa
