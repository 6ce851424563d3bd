/- Steps of drawn regions: bytes of strings, sums. No condition beyond those named in each lemma. -/
import Derived.Test.YtjplgcmfifoefaaDoorQtB
import Derived.Test.YtjplgcmfifoefaaDoorGs
import Derived.Shelf.Abstract
namespace Go.Proofs.YtjplgcmfifoefaaDoor
open Go.RowKit Go.Maps
set_option linter.unusedVariables false
set_option linter.unusedSimpArgs false
section
variable {P : Program} {ops : Array Oper} {S : Nat → GSpec} {Q : Exit → Act → World → Prop} {i : Nat} {o : Oper} {a : Act} {w : World}
theorem gs_istr (hw : Region.wanted o (yielded ops a.tmps) = true) (x y : Operand) (ho : o.op = .index 9 x y) (s : ByteArray) (k : Nat) (b : UInt8) (hx : a.eval x = .string s) (hy : a.eval y = .int .i64 (k : Int)) (hb : s.data.toList[k]? = some b)
    (hp : (S i).p (.int .u8 ((b.toNat : Nat) : Int)) w) : GStep Tryd.prog ops S Q i o a w :=
  gs_run hw (v := .int .u8 ((b.toNat : Nat) : Int)) (w' := w) (by
    obtain ⟨hk0, hk⟩ := List.getElem?_eq_some_iff.1 hb
    have hk1 : k < s.size := by simpa using hk0
    have e2 : b.toNat = (s[((k : Int)).toNat]'(by omega)).toNat := by rw [← hk]; rfl
    have e := run_index_string (P := Tryd.prog) w 9 s .i64 (k : Int) Tryd.underlying9
    rw [dif_pos ⟨by omega, by omega⟩] at e
    unfold execOp
    simp only [ho, hx, hy, Sem.run_bind, e, e2, Result.andThen_ok, Sem.run_pure]) (Below.refl _ _) hp
theorem gs_add_nat (hw : Region.wanted o (yielded ops a.tmps) = true) (t t2 : TypeId) (x y : Operand) (ho : o.op = .binOp .add t x y t2) (p q r : Nat) (hx : a.eval x = .int .i64 p) (hy : a.eval y = .int .i64 q) (hr : p + q = r) (hr64 : r < 9223372036854775808)
    (hp : (S i).p (.int .i64 (r : Nat)) w) : GStep P ops S Q i o a w :=
  gs_bin hw _ _ _ x y ho _ _ _ hx hy (by rw [eqGuard_at_int]; rfl) (by
    have e : (p : Int) + q = r := by omega
    have e2 : IntKind.i64.wrap (r : Int) = r := by rw [IntKind.wrap_i64]; omega
    rw [binOp_add]
    simp [Op.intArith, e, e2]) hp
theorem gs_mul_nat (hw : Region.wanted o (yielded ops a.tmps) = true) (t t2 : TypeId) (x y : Operand) (ho : o.op = .binOp .mul t x y t2) (p q r : Nat) (hx : a.eval x = .int .i64 p) (hy : a.eval y = .int .i64 q) (hr : p * q = r) (hr64 : r < 9223372036854775808)
    (hp : (S i).p (.int .i64 (r : Nat)) w) : GStep P ops S Q i o a w :=
  gs_bin hw _ _ _ x y ho _ _ _ hx hy (by rw [eqGuard_at_int]; rfl) (by
    have e : (p : Int) * q = r := by rw [← hr]; simp
    have e2 : IntKind.i64.wrap (r : Int) = r := by rw [IntKind.wrap_i64]; omega
    unfold binOp
    simp [Op.intArith, e, e2, Sem.run]) hp
theorem gs_conv_u8 (hw : Region.wanted o (yielded ops a.tmps) = true) (x : Operand) (ho : o.op = .convert 3 5 x) (n : Nat) (hn : n < 256) (hx : a.eval x = .int .i64 (n : Nat))
    (hp : (S i).p (.int .u8 (n : Nat)) w) : GStep Tryd.prog ops S Q i o a w :=
  gs_run hw (v := .int .u8 (n : Nat)) (w' := w) (by
    have e : (convert 3 5 (.int .i64 (n : Nat))).run Tryd.prog w = .ok (.int .u8 (IntKind.u8.wrap (n : Nat))) w := by kernel_rfl
    have e2 : IntKind.u8.wrap ((n : Nat) : Int) = n := by rw [IntKind.wrap_u8]; omega
    rw [e2] at e
    unfold execOp
    simp only [ho, hx, Sem.run_bind, e, Result.andThen_ok, Sem.run_pure]) (Below.refl _ _) hp
end
end Go.Proofs.YtjplgcmfifoefaaDoor
