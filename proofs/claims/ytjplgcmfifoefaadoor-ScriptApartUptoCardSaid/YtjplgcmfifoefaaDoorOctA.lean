/- The walks of package octets' functions on sets: each returns the document's set and writes nothing that was there. -/
import Derived.Test.YtjplgcmfifoefaaDoorProg
import Derived.Test.YtjplgcmfifoefaaDoorBase
import Derived.Test.YtjplgcmfifoefaaDoorSet
namespace Go.Proofs.YtjplgcmfifoefaaDoor
open Go.RowKit
set_option linter.unusedVariables false
set_option linter.unusedSimpArgs false

theorem follows_mixed : Tryd.prog.follows .mixedOrders = true := by kernel_rfl
theorem info_u64 : (Tryd.prog.info? 112).map (·.size) = some 1 := by kernel_rfl
theorem info_int : (Tryd.prog.info? 3).map (·.size) = some 1 := by kernel_rfl
section
variable {ops : Array Oper} {rest : List Oper} {o : Oper} {a : Act} {w : World} {Q : Exit → Act → World → Prop}
end

end Go.Proofs.YtjplgcmfifoefaaDoor
