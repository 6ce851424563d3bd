/- The walk's law for a slice literal of one set. -/
import Derived.Test.YtjpiebapemalfaaGs6
namespace Go.Proofs.Ytjpiebapemalfaa
open Go.RowKit
set_option linter.unusedVariables false
set_option linter.unusedSimpArgs false

theorem build_sets1 (x : BSet) (w : World) : (Instr.buildSlice 27 1 #[(0, .agg (setC x))]).run Try.prog w = .ok (.slice (some ⟨w.heap.size, 0, none⟩) 1 1) (w.alloc (.cells (setC x) 31)) := by kernel_rfl
theorem wl_build1 {ops : Array Oper} {rest : List Oper} {o : Oper} {a : Act} {w : World} {Q : Exit → Act → World → Prop} (hgd : o.guard = none) (x : Operand) (ho : o.op = .buildSlice 27 1 #[(0, x)]) (y : BSet) (hx : a.eval x = .agg (setC y))
    (h : wpList Try.prog ops Q rest (a.put o.dst (.slice (some ⟨w.heap.size, 0, none⟩) 1 1)) (w.alloc (.cells (setC y) 31))) : wpList Try.prog ops Q (o :: rest) a w :=
  wpList_plain hgd fun _ hK => by
    have e : (#[(0, x)] : Array (Nat × Operand)).map (fun (i, x) => (i, a.eval x)) = #[(0, .agg (setC y))] := by simp [hx]
    unfold Oper.wp execOp
    simp only [ho, e, Sem.run_bind, build_sets1, Result.andThen_ok, Sem.run_pure]
    exact hK _ _ h

end Go.Proofs.Ytjpiebapemalfaa
