/- Further arguments opened: bytes. -/
import Derived.Test.YtjpiebapemalfaaOpen2
namespace Go.Proofs.Ytjpiebapemalfaa
open Go.ChangeShapes Go.WideShapes Go.ChangeAt Go.RowKit
set_option linter.unusedVariables false
set_option linter.unusedSimpArgs false

theorem cells_u8 : Try.prog.cellsOf 5 = 1 := by kernel_rfl
theorem bytes_u8 : Try.prog.bytesOf 5 = 1 := by kernel_rfl
theorem wf_u8 {z : Int} (hw : (Lit.int .u8 z).wf = true) : ∃ n : Nat, z = n ∧ n < 256 := by
  have h2 : IntKind.u8.min = 0 := by decide
  have h3 : IntKind.u8.max = 255 := by decide
  simp only [Lit.wf, Bool.and_eq_true, decide_eq_true_eq] at hw
  obtain ⟨n, rfl⟩ := Int.eq_ofNat_of_zero_le (show 0 ≤ z by omega)
  exact ⟨n, rfl, by omega⟩
section
variable {H : Type} {enc : TypeId × Value → H} {W : World} {held : Bool} {r : Reach} {b0 : Nat} {v : Value} {d : DataW H} {ps : List MemPlace}
theorem open_bytes (hval : Value.okWide Try.prog W r b0 58 v) (hd : DataW.Trod enc Try.prog W 0 (fun _ => true) held 58 v d ps) :
    ∃ (A : Option Addr) (n c : Nat) (l : List UInt8), v = .slice A n c ∧ n = l.length ∧ n ≤ maxLen ∧ SliceOf W W.heap.size 1 enc8 A l ∧ ((d = .nil ∧ n = 0) ∨ ∃ el sp, d = .slice el sp ∧ el.length = n) :=
  open_slice_of Try.underlying58 cells_u8 (by omega) (fun _ => rfl) (fun _ _ _ h => by
    obtain ⟨z, hc, _, hw⟩ := DataW.trod_int Try.underlying5 h
    obtain ⟨n, rfl, hn⟩ := wf_u8 hw
    exact ⟨UInt8.ofNat n, by rw [hc]; simp [enc8]; omega⟩) hval hd
theorem open_u8 (hval : Value.okWide Try.prog W r b0 5 v) (hd : DataW.Trod enc Try.prog W 0 (fun _ => true) held 5 v d ps) : ∃ n : Nat, v = .int .u8 n ∧ n < 256 := by
  obtain ⟨z, rfl, _, _, hw⟩ := open_int Try.underlying5 hval hd
  obtain ⟨n, rfl, hn⟩ := wf_u8 hw
  exact ⟨n, rfl, hn⟩
end

end Go.Proofs.Ytjpiebapemalfaa
