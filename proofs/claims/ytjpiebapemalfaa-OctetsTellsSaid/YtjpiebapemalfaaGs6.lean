/- Further operations for regions that draw their order: bools compared. -/
import Derived.Test.YtjpiebapemalfaaGs5
namespace Go.Proofs.Ytjpiebapemalfaa
open Go.RowKit
set_option linter.unusedVariables false
set_option linter.unusedSimpArgs false

section
variable {ops : Array Oper} {S : Nat → GSpec} {Q : Exit → Act → World → Prop} {i : Nat} {o : Oper} {a : Act} {w : World}
theorem gs_neq_bool (hw : Region.wanted o (yielded ops a.tmps) = true) (t2 : TypeId) (x y : Operand) (ho : o.op = .binOp .neq 4 x y t2) (p q : Bool) (hx : a.eval x = .bool p) (hy : a.eval y = .bool q)
    (hp : (S i).p (.bool (p != q)) w) : GStep Try.prog ops S Q i o a w :=
  gs_bin hw _ _ _ x y ho _ _ _ hx hy (by rfl) (run_neq_bool _ _ p q Try.underlying4) hp
end

end Go.Proofs.Ytjpiebapemalfaa
