/- The walk of heronref03.in: is a number between two others. -/
import Derived.Test.YtjpiebapemalfaaGs8
namespace Go.Proofs.Ytjpiebapemalfaa
open Go.RowKit
set_option linter.unusedVariables false
set_option linter.unusedSimpArgs false

theorem in_any (b : Nat) (f t : Int) (w : World) : Calls Try.prog 48 #[.int .i64 b, .int .i64 f, .int .i64 t] w fun e w' => e = .returned (.bool (inB f t b)) ∧ w' = w := by
  by_cases h1 : f ≤ (b : Int)
  · by_cases h2 : (b : Int) ≤ t
    · have e := Lib.hid (inB_pos h1 h2)
      go_enter Try.func48, Try.ntmps48
      go_wp2
      go_ret
      exact ⟨by rw [e.out]; rfl, rfl⟩
    · have e := Lib.hid (inB_neg (f := f) (t := t) (i := b) (fun h => h2 h.2))
      go_enter Try.func48, Try.ntmps48
      go_wp2
      go_ret
      exact ⟨by rw [e.out]; rfl, rfl⟩
  · have e := Lib.hid (inB_neg (f := f) (t := t) (i := b) (fun h => h1 h.1))
    go_enter Try.func48, Try.ntmps48
    go_wp2
    go_ret
    exact ⟨by rw [e.out]; rfl, rfl⟩

end Go.Proofs.Ytjpiebapemalfaa
