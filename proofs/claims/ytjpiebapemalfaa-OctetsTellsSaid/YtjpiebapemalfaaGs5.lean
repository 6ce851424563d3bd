/- Further operations for regions that draw their order: arrays of 256 ints, sameSets, Members. -/
import Derived.Test.YtjpiebapemalfaaPartD
namespace Go.Proofs.Ytjpiebapemalfaa
open Go.RowKit
set_option linter.unusedVariables false
set_option linter.unusedSimpArgs false

theorem enter_same (args : Array Value) (w : World) : (callFunc 15 args).run Try.prog w = .ok (.enter 15 args) w := by kernel_rfl
theorem enter_mem (args : Array Value) (w : World) : (callFunc 20 args).run Try.prog w = .ok (.enter 20 args) w := by kernel_rfl
theorem enter_rmem (args : Array Value) (w : World) : (callFunc 21 args).run Try.prog w = .ok (.enter 21 args) w := by kernel_rfl
theorem guard_cls : Try.prog.eqGuardType Try.prog.depth 39 = false := by kernel_rfl
theorem cellsOf_int : Try.prog.cellsOf 3 = 1 := by kernel_rfl
theorem plain_int : Try.prog.plainKey 3 = true := by kernel_rfl
theorem neq_ints_same (xs : List Int) (h : xs.length = 256) (w : World) : (binOp .neq 39 (.agg (intsC .i64 xs)) (.agg (intsC .i64 xs))).run Try.prog w = .ok (.bool false) w := by
  obtain ⟨i, hi⟩ : ∃ i, Try.prog.info? 3 = some i := by
    cases h : Try.prog.info? 3 with
    | none => have := info_int; rw [h] at this; cases this
    | some i => exact ⟨i, rfl⟩
  rw [run_neq_struct, run_equal_ints (P := Try.prog) (k := .i64) Try.underlying39 hi cellsOf_int Try.underlying3 plain_int xs xs h h w, beq_self_eq_true]
  rfl
theorem neq_cls_same (g : Nat → Int) (w : World) : (binOp .neq 39 (.agg (clsC g)) (.agg (clsC g))).run Try.prog w = .ok (.bool false) w := by
  unfold clsC
  exact neq_ints_same _ (by rw [List.length_map, List.length_range]) w
section
variable {ops : Array Oper} {S : Nat → GSpec} {Q : Exit → Act → World → Prop} {i : Nat} {o : Oper} {a : Act} {w : World}
theorem gs_load_cls (hw : Region.wanted o (yielded ops a.tmps) = true) (x : Operand) (ho : o.op = .load 39 x) (g : Nat) (hx : a.eval x = .pointer (some ⟨g, 0, none⟩)) (y : Nat → Int) (hg : Blk w g 39 (clsC y))
    (hp : (S i).p (.agg (clsC y)) w) : GStep Try.prog ops S Q i o a w :=
  gs_load hw _ x ho g hx _ _ hg _ Try.underlying39 rfl (info_cls.trans (by rw [clsC_size])) hp
theorem gs_neq_cls (hw : Region.wanted o (yielded ops a.tmps) = true) (x y : Operand) (t2 : TypeId) (ho : o.op = .binOp .neq 39 x y t2) (p : Nat → Int) (hx : a.eval x = .agg (clsC p)) (hy : a.eval y = .agg (clsC p))
    (hp : (S i).p (.bool false) w) : GStep Try.prog ops S Q i o a w :=
  gs_bin hw _ _ _ x y ho _ _ _ hx hy (run_eqGuard_agg w _ _ _ _ _ _ guard_cls) (neq_cls_same p w) hp
theorem gs_same (hw : Region.wanted o (yielded ops a.tmps) = true) (x y : Operand) (ats : Array TypeId) (ho : o.op = .call { callee := .value (.func 15), args := #[x, y], argTypes := ats }) (A B : Option Addr) (n c m d : Nat) (xs ys : List BSet)
    (hx : a.eval x = .slice A n c) (hn : n = xs.length) (hl : n ≤ maxLen) (hs : SliceOf w w.heap.size 4 setC A xs) (hy : a.eval y = .slice B m d) (hn2 : m = ys.length) (hl2 : m ≤ maxLen) (hs2 : SliceOf w w.heap.size 4 setC B ys) (he : xs = ys)
    (hp : ∀ w', (S i).p (.bool true) w') : GStep Try.prog ops S Q i o a w :=
  gs_call hw _ _ _ ho enter_same _ (map2 hx hy) ((same_any A B n c m d xs ys w hn hl hn2 hl2 hs hs2).mono fun e w' ⟨h, hb⟩ => ⟨_, h, hb, by rw [decide_eq_true he]; exact hp _⟩)
theorem gs_mem (hw : Region.wanted o (yielded ops a.tmps) = true) (x y : Operand) (ats : Array TypeId) (ho : o.op = .call { callee := .value (.func 20), args := #[x, y], argTypes := ats }) (g : Nat → Int) (c : Int)
    (hx : a.eval x = .agg (clsC g)) (hy : a.eval y = .int .i64 c) (hp : ∀ w', (S i).p (.agg (setC (memB g c))) w') : GStep Try.prog ops S Q i o a w :=
  gs_call hw _ _ _ ho enter_mem _ (map2 hx hy) ((members_any g c w).mono fun e w' ⟨he, hb⟩ => ⟨_, he, hb, hp _⟩)
theorem gs_rmem (hw : Region.wanted o (yielded ops a.tmps) = true) (x y : Operand) (ats : Array TypeId) (ho : o.op = .call { callee := .value (.func 21), args := #[x, y], argTypes := ats }) (g : Nat → Int) (c : Int)
    (hx : a.eval x = .agg (clsC g)) (hy : a.eval y = .int .i64 c) (hp : ∀ w', (S i).p (.agg (setC (memB g c))) w') : GStep Try.prog ops S Q i o a w :=
  gs_call hw _ _ _ ho enter_rmem _ (map2 hx hy) ((rmembers_any g c w).mono fun e w' ⟨he, hb⟩ => ⟨_, he, hb, hp _⟩)
end

end Go.Proofs.Ytjpiebapemalfaa
