/- ere: the reader's small questions. No condition beyond those named in each lemma. -/
import Derived.Test.YtajainmldcnaeaaEreP
import Derived.Test.YtajainmldcnaeaaStore
namespace Go.Proofs.Ytajainmldcnaeaa
open Go.RowKit Go.Maps
set_option linter.unusedVariables false
set_option linter.unusedSimpArgs false
attribute [local go_sem] Oper.semAt_some

/-- a reader's two cells -/
def rdC (p : ByteArray) (i : Nat) : Array Value := #[.string p, .int .i64 (i : Int)]
theorem more_any (g : Nat) (p : ByteArray) (i : Nat) (w : World) (h : Blk w g 76 (rdC p i)) :
    Calls Try.prog 66 #[.pointer (some ⟨g, 0, none⟩)] w fun e w' => e = .returned (.bool (decide (i < p.size))) ∧ Below w.heap.size w w' := by
  have c0 : w.cell? ⟨g, 0, none⟩ = some (.string p) := h.cellv rfl
  have c1 : w.cell? ⟨g, 1, none⟩ = some (.int .i64 (i : Int)) := h.cellv rfl
  by_cases hi : i < p.size
  · have hI : (i : Int) < p.size := by omega
    go_enter Try.func66, Try.ntmps66
    go_wp2_with (fail)
    go_big_region
    go_wp2_with (fail)
    go_ret
    exact ⟨by simp [hi], (Below.refl w.heap.size w).drew⟩
  · have hI : ¬ (i : Int) < p.size := by omega
    go_enter Try.func66, Try.ntmps66
    go_wp2_with (fail)
    go_big_region
    go_wp2_with (fail)
    go_ret
    exact ⟨by simp [hi], (Below.refl w.heap.size w).drew⟩
theorem is_any (g : Nat) (p : ByteArray) (k i c : Nat) (w : World) (h : Blk w g 76 (rdC p k)) :
    Calls Try.prog 57 #[.pointer (some ⟨g, 0, none⟩), .int .i64 (i : Int), .int .u8 (c : Int)] w fun e w' => e = .returned (.bool (Ere.isAt p i c)) ∧ Below w.heap.size w w' := by
  have c0 : w.cell? ⟨g, 0, none⟩ = some (.string p) := h.cellv rfl
  by_cases hi : i < p.size
  · have hI : (i : Int) < p.size := by omega
    have hI0 : ¬ (i : Int) < 0 := by omega
    have hv : (((p[i].toNat : Nat) : Int) == (c : Int)) = Ere.isAt p i c := by
      unfold Ere.isAt Ere.chr
      rw [dif_pos hi, decide_eq_true hi, Bool.true_and, Bool.eq_iff_iff]
      simp only [beq_iff_eq, decide_eq_true_eq]
      omega
    replace hv := Lib.hid hv
    go_enter Try.func57, Try.ntmps57
    go_wp2_with (fail)
    go_ret
    exact ⟨congrArg (fun b => Ending.returned (.bool b)) hv.out, Below.refl _ _⟩
  · have hI : ¬ (i : Int) < p.size := by omega
    have hv : Ere.isAt p i c = false := by unfold Ere.isAt; rw [decide_eq_false hi, Bool.false_and]
    rw [hv]
    go_enter Try.func57, Try.ntmps57
    go_wp2_with (fail)
    go_ret
    exact ⟨rfl, Below.refl _ _⟩
theorem enter_more (args : Array Value) (w : World) : (callFunc 66 args).run Try.prog w = .ok (.enter 66 args) w := by kernel_rfl
theorem enter_is (args : Array Value) (w : World) : (callFunc 57 args).run Try.prog w = .ok (.enter 57 args) w := by kernel_rfl
end Go.Proofs.Ytajainmldcnaeaa
