/- Further operations for regions that draw their order: bytes read, turned into strings, compared; Of of slices; numbers widened. -/
import Derived.Test.YtjpiebapemalfaaGs8
import Derived.Test.YtjpiebapemalfaaStore
import Derived.Laws.IdiomStrings
import Derived.Laws.BytesString
namespace Go.Proofs.Ytjpiebapemalfaa
open Go.RowKit
set_option linter.unusedVariables false
set_option linter.unusedSimpArgs false

theorem str_of (A : Option Addr) (n c B : Nat) (l : List UInt8) (w : World) (hn : n = l.length) (hs : SliceOf w B 1 enc8 A l) : (Go.convert 58 9 (.slice A n c)).run Try.prog w = .ok (.string ⟨l.toArray⟩) w := by
  subst hn
  rcases A with _ | a
  · have hl : l = [] := by
      rcases hs with h | ⟨b, off, h, _⟩
      · exact h
      · cases h
    subst hl
    rw [run_convert_bytes_string w _ _ 5 none _ c Try.underlying58 Try.underlying5 Try.underlying9]
    rfl
  · refine run_convert_bytes_back w _ _ 5 a c l Try.underlying58 Try.underlying5 Try.underlying9 fun j hj => ?_
    obtain ⟨b, off, e, _, hrow⟩ := hs.at_ (by omega)
    injection e with e
    subst e
    have := hrow j hj 0 _ rfl
    rw [Nat.mul_one] at this
    rw [addr_add]
    exact this
theorem neq_str_same (s : ByteArray) (w : World) : (binOp .neq 9 (.string s) (.string s)).run Try.prog w = .ok (.bool false) w := by
  rw [binOp_string_neq, beq_self_eq_true]; rfl
theorem conv_wide (b : Int) (w : World) : (Go.convert 5 3 (.int .u8 b)).run Try.prog w = .ok (.int .i64 (IntKind.i64.wrap b)) w := by kernel_rfl
theorem enter_rof (args : Array Value) (w : World) : (callFunc 38 args).run Try.prog w = .ok (.enter 38 args) w := by kernel_rfl
theorem enter_rspan (args : Array Value) (w : World) : (callFunc 41 args).run Try.prog w = .ok (.enter 41 args) w := by kernel_rfl
theorem under_bytes : Try.prog.underlying 58 = some (.slice (Try.prog.elem 58)) := by kernel_rfl
theorem size_byteE (w : World) : (sizeOf (Try.prog.elem 58)).run Try.prog w = .ok 1 w := by kernel_rfl
section
variable {ops : Array Oper} {S : Nat → GSpec} {Q : Exit → Act → World → Prop} {i : Nat} {o : Oper} {a : Act} {w : World}
theorem gs_of_at (hw : Region.wanted o (yielded ops a.tmps) = true) (x : Operand) (ats : Array TypeId) (ho : o.op = .call { callee := .value (.func 33), args := #[x], argTypes := ats }) (A : Option Addr) (n c : Nat) (xs : List UInt8)
    (hx : a.eval x = .slice A n c) (hn : n = xs.length) (hl : n ≤ maxLen) (hs : SliceOf w w.heap.size 1 enc8 A xs) (hp : ∀ w', (S i).p (.agg (setC (ofB xs))) w') : GStep Try.prog ops S Q i o a w :=
  gs_call hw _ _ _ ho enter_of _ (map1 hx) ((of_any A n c xs w hn hl hs).mono fun e w' ⟨he, hb⟩ => ⟨_, he, hb, hp _⟩)
theorem gs_rof_at (hw : Region.wanted o (yielded ops a.tmps) = true) (x : Operand) (ats : Array TypeId) (ho : o.op = .call { callee := .value (.func 38), args := #[x], argTypes := ats }) (A : Option Addr) (n c : Nat) (xs : List UInt8)
    (hx : a.eval x = .slice A n c) (hn : n = xs.length) (hl : n ≤ maxLen) (hs : SliceOf w w.heap.size 1 enc8 A xs) (hp : ∀ w', (S i).p (.agg (setC (ofB xs))) w') : GStep Try.prog ops S Q i o a w :=
  gs_call hw _ _ _ ho enter_rof _ (map1 hx) ((rof_any A n c xs w hn hl hs).mono fun e w' ⟨he, hb⟩ => ⟨_, he, hb, hp _⟩)
theorem gs_str (hw : Region.wanted o (yielded ops a.tmps) = true) (x : Operand) (ho : o.op = .convert 58 9 x) (A : Option Addr) (n c B : Nat) (xs : List UInt8) (hx : a.eval x = .slice A n c) (hn : n = xs.length) (hs : SliceOf w B 1 enc8 A xs)
    (hp : (S i).p (.string ⟨xs.toArray⟩) w) : GStep Try.prog ops S Q i o a w :=
  gs_run hw (v := .string ⟨xs.toArray⟩) (w' := w) (by unfold execOp; simp only [ho, hx, Sem.run_bind, str_of A n c B xs w hn hs, Result.andThen_ok, Sem.run_pure]) (Below.refl _ _) hp
theorem gs_neq_str (hw : Region.wanted o (yielded ops a.tmps) = true) (t2 : TypeId) (x y : Operand) (ho : o.op = .binOp .neq 9 x y t2) (s : ByteArray) (hx : a.eval x = .string s) (hy : a.eval y = .string s) (hp : (S i).p (.bool false) w) : GStep Try.prog ops S Q i o a w :=
  gs_bin hw _ _ _ x y ho _ _ _ hx hy (by rfl) (neq_str_same s w) hp
theorem gs_wide (hw : Region.wanted o (yielded ops a.tmps) = true) (x : Operand) (ho : o.op = .convert 5 3 x) (b : Nat) (h1 : b < 256) (hx : a.eval x = .int .u8 b) (hp : (S i).p (.int .i64 b) w) : GStep Try.prog ops S Q i o a w :=
  gs_run hw (v := .int .i64 b) (w' := w)
    (by
      have e : IntKind.i64.wrap (b : Int) = b := by simp [IntKind.wrap, IntKind.bits, IntKind.signed]; omega
      unfold execOp; simp only [ho, hx, Sem.run_bind, conv_wide, Result.andThen_ok, Sem.run_pure, e])
    (Below.refl _ _) hp
theorem gs_rspan (hw : Region.wanted o (yielded ops a.tmps) = true) (x y : Operand) (ats : Array TypeId) (ho : o.op = .call { callee := .value (.func 41), args := #[x, y], argTypes := ats }) (p q : Nat)
    (hx : a.eval x = .int .i64 (p : Int)) (hy : a.eval y = .int .i64 (q : Int)) (hp : ∀ w', (S i).p (.agg (setC (spanB p q))) w') : GStep Try.prog ops S Q i o a w :=
  gs_call hw _ _ _ ho enter_rspan _ (map2 hx hy) ((rspan_any p q w).mono fun e w' ⟨he, hb⟩ => ⟨_, he, hb, by rw [setTo_inB]; exact hp _⟩)
end
theorem byte_any (v : Int) (h0 : 0 ≤ v) (h1 : v < 256) : ∃ y : UInt8, (enc8 y).toList = [.int .u8 v] := by
  obtain ⟨n, rfl⟩ := Int.eq_ofNat_of_zero_le h0
  exact ⟨UInt8.ofNat n, by simp [enc8]; omega⟩

end Go.Proofs.Ytjpiebapemalfaa
