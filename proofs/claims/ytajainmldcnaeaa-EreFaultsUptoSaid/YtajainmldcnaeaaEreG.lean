/- ere.give panics with a fault. No condition beyond those named in each lemma. -/
import Derived.Test.YtajainmldcnaeaaEreC
namespace Go.Proofs.Ytajainmldcnaeaa
open Go.RowKit Go.Maps
set_option linter.unusedVariables false
set_option linter.unusedSimpArgs false
attribute [local go_sem] Oper.semAt_some

/-- how a reader of a pattern gives up -/
def faultE (e at_ : Nat) : Ending := .panicked [{ v := .iface 73 (.agg #[.int .i64 (e : Int), .int .i64 (at_ : Int)]), recovered := false }]
theorem give_any (e at_ : Nat) (w : World) : Calls Try.prog 40 #[.int .i64 (e : Int), .int .i64 (at_ : Int)] w fun en w' => en = faultE e at_ ∧ Below w.heap.size w w' := by
  go_enter Try.func40, Try.ntmps40
  go_wp2_with (fail)
  exact ⟨rfl, rfl, Below.refl _ _⟩
end Go.Proofs.Ytajainmldcnaeaa
