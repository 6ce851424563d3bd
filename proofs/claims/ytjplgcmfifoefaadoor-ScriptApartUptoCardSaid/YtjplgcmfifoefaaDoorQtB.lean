/- The walks of conf's byNumber and escape. No condition beyond those named in each lemma. -/
import Derived.Test.YtjplgcmfifoefaaDoorQtA
namespace Go.Proofs.YtjplgcmfifoefaaDoor
open Go.RowKit Go.Maps
set_option linter.unusedVariables false
set_option linter.unusedSimpArgs false
attribute [local go_sem] Oper.semAt_some

theorem one_extract : ∀ n : Fin 16, (⟨#[48, 49, 50, 51, 52, 53, 54, 55, 56, 57, 97, 98, 99, 100, 101, 102]⟩ : ByteArray).extract n.val (n.val + 1) = ⟨#[hexD n.val]⟩ := by decide
set_option maxHeartbeats 2000000 in
theorem byn_any (c : UInt8) (w : World) : Calls Tryd.prog 34 #[.int .u8 (c.toNat : Int)] w fun e w' => e = .returned (.string ⟨(byN c).toArray⟩) ∧ Below w.heap.size w w' := by
  have hc : c.toNat < 256 := c.toNat_lt
  obtain ⟨n, hn⟩ : ∃ n, c.toNat = n := ⟨_, rfl⟩
  have e1 := one_extract ⟨n / 16, by omega⟩
  have e2 := one_extract ⟨n % 16, by omega⟩
  have hv : (byN c) = [92, 120, hexD (n / 16), hexD (n % 16)] := by unfold byN; rw [hn]
  rw [hv, hn]
  go_enter Tryd.func34, Tryd.ntmps34
  go_wp2_with (fail)
  go_big_region
  go_wp2_with (fail)
  go_ret
  exact ⟨rfl, (Below.refl w.heap.size w).drew⟩
end Go.Proofs.YtjplgcmfifoefaaDoor
