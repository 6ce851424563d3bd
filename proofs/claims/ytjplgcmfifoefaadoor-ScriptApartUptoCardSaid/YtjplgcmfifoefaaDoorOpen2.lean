/- Further arguments opened (what the seat SimD asks for). -/
import Derived.Test.YtjplgcmfifoefaaDoorOpen
namespace Go.Proofs.YtjplgcmfifoefaaDoor
open Go.RowKit
theorem cells_int : Tryd.prog.cellsOf 3 = 1 := by kernel_rfl
end Go.Proofs.YtjplgcmfifoefaaDoor
