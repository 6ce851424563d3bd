/- Further arguments opened (what the seat SimD asks for). -/
import Derived.Test.YtajainmldcnaeaaOpen
namespace Go.Proofs.Ytajainmldcnaeaa
open Go.RowKit
theorem cells_int : Try.prog.cellsOf 3 = 1 := by kernel_rfl
end Go.Proofs.Ytajainmldcnaeaa
