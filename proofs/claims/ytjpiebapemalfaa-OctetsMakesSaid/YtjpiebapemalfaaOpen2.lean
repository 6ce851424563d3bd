/- Further arguments opened: ints, slices of ints, the capacity. -/
import Derived.Test.YtjpiebapemalfaaOpen
namespace Go.Proofs.Ytjpiebapemalfaa
open Go.ChangeShapes Go.WideShapes Go.ChangeAt Go.RowKit
set_option linter.unusedVariables false
set_option linter.unusedSimpArgs false

def encZ (z : Int) : Array Value := #[.int .i64 z]
theorem encZ_size (z : Int) : (encZ z).size = 1 := rfl
theorem cells_int : Try.prog.cellsOf 3 = 1 := by kernel_rfl
theorem bytes_int : Try.prog.bytesOf 3 = 8 := by kernel_rfl
section
variable {H : Type} {enc : TypeId × Value → H} {W : World} {held : Bool} {r : Reach} {b0 : Nat} {v : Value} {d : DataW H} {ps : List MemPlace}
theorem open_cap {t e : TypeId} {A : Option Addr} {n c : Nat} (ht : Try.prog.underlying t = some (.slice e)) (hd : DataW.Trod enc Try.prog W 0 (fun _ => true) held t (.slice A n c) d ps) : n ≤ c ∧ c ≤ maxLen := by
  obtain ⟨fuel, hf⟩ := hd
  rcases Deep.open_slice ht hf with ⟨hcs, hx⟩ | ⟨a, len, cap, m, n', D, Pl, hcs, _, hl, hm, hmm, hx, hi⟩
  · simp [Value.cells] at hcs
    obtain ⟨rfl, rfl, rfl⟩ := hcs
    exact ⟨Nat.le_refl _, by unfold maxLen; omega⟩
  · simp [Value.cells] at hcs
    obtain ⟨rfl, rfl, rfl⟩ := hcs
    have hmc : m = c := by simpa using hmm
    subst hmc
    exact ⟨by omega, by omega⟩
theorem open_ints (hval : Value.okWide Try.prog W r b0 37 v) (hd : DataW.Trod enc Try.prog W 0 (fun _ => true) held 37 v d ps) :
    ∃ (A : Option Addr) (n c : Nat) (l : List Int), v = .slice A n c ∧ n = l.length ∧ n ≤ maxLen ∧ SliceOf W W.heap.size 1 encZ A l ∧ ((d = .nil ∧ n = 0) ∨ ∃ el sp, d = .slice el sp ∧ el.length = n) :=
  open_slice_of Try.underlying37 cells_int (by omega) encZ_size (fun _ _ _ h => by
    obtain ⟨n, hc, _, hw⟩ := DataW.trod_int Try.underlying3 h
    exact ⟨n, by rw [hc]; rfl⟩) hval hd
end

end Go.Proofs.Ytjpiebapemalfaa
