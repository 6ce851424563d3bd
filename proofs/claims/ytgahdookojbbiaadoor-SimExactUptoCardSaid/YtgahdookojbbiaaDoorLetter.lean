/- Plain laws of the machine that looks for one letter, and of machines with no free moves. No program in sight. No condition beyond those named in each lemma. -/
import Derived.Test.YtgahdookojbbiaaDoorSimO
namespace Go.Proofs.YtgahdookojbbiaaDoor
open Go.RowKit
set_option linter.unusedVariables false
set_option linter.unusedSimpArgs false

theorem spread_none {E : List Edg} {N x : Nat} {b e : Bool} (hE : ∀ d ∈ E, 0 ≤ d.tt ∧ d.tt < N) (hm : ∀ d ∈ E, may b e d = false) (hx : below x N) : spreadN E N b e x = x := by
  apply bits_ext
  intro i
  rw [spread_bit hE hx]
  constructor
  · intro h
    cases h with
    | base h => exact h
    | step hd h1 _ => rw [hm _ hd] at h1; cases h1
  · exact fun h => .base h
def s97 : BSet := 1#256 <<< 97
def letE : List Edg := [⟨2, 0, 1, s97⟩]
def letR : List Nat := [0, 1]
theorem letE_b : ∀ d ∈ letE, (0 ≤ d.fr ∧ d.fr < (2 : Nat)) ∧ 0 ≤ d.tt ∧ d.tt < (2 : Nat) := by decide
theorem let_spread (b e : Bool) {x : Nat} (hx : below x 2) : spreadN letE 2 b e x = x :=
  spread_none (fun d hd => (letE_b d hd).2) (fun d hd => by
    have : d = ⟨2, 0, 1, s97⟩ := by simpa [letE] using hd
    subst this
    cases b <;> cases e <;> rfl) hx
theorem below_of {x N : Nat} (h : x < 2 ^ N) : below x N := fun i hi => by
  rcases Nat.lt_or_ge i N with h1 | h1
  · exact h1
  · have := Nat.testBit_lt_two_pow (Nat.lt_of_lt_of_le h (Nat.pow_le_pow_right (by decide) h1))
    rw [hi] at this
    cases this
theorem let_beg : begW letE 2 letR = ⟨1, 0, true⟩ := by
  unfold begW
  rw [let_spread _ _ (below_of (by decide))]
  rfl
theorem let_byte {x c y : Nat} (h : hopL letE c (bitsTo x 2) 0 ||| 1 = y) (hy : y < 4) (m : Nat) (b : Bool) : byteW letE 2 letR ⟨x, m, b⟩ c = ⟨y, m ||| metN letR y 2, false⟩ := by
  have h1 : byteN letE 2 x c = y := by rw [← hopL_byte (by decide) letE_b, h]
  unfold byteW
  simp only [h1]
  rw [let_spread _ _ (below_of hy)]
theorem let_a (m : Nat) (b : Bool) : byteW letE 2 letR ⟨1, m, b⟩ 97 = ⟨3, m ||| 1, false⟩ := let_byte (by decide) (by decide) m b
theorem let_x1 (m : Nat) (b : Bool) : byteW letE 2 letR ⟨1, m, b⟩ 120 = ⟨1, m ||| 0, false⟩ := let_byte (by decide) (by decide) m b
theorem let_x3 (m : Nat) (b : Bool) : byteW letE 2 letR ⟨3, m, b⟩ 120 = ⟨1, m ||| 0, false⟩ := let_byte (by decide) (by decide) m b
theorem let_end (m : Nat) (b : Bool) : endW letE 2 letR ⟨1, m, b⟩ = m ||| 0 := by
  unfold endW
  simp only
  rw [let_spread _ _ (below_of (by decide))]
  rfl
theorem let_right : rightB 2 letE 2 = true := by decide
theorem let_xax : endW letE 2 letR (goesW letE 2 letR [120, 97, 120] (begW letE 2 letR)) = 1 := by
  rw [let_beg]
  show endW letE 2 letR (byteW letE 2 letR (byteW letE 2 letR (byteW letE 2 letR ⟨1, 0, true⟩ 120) 97) 120) = 1
  rw [let_x1, let_a, let_x3, let_end]
  rfl
theorem let_x : endW letE 2 letR (goesW letE 2 letR [120] (begW letE 2 letR)) = 0 := by
  rw [let_beg]
  show endW letE 2 letR (byteW letE 2 letR ⟨1, 0, true⟩ 120) = 0
  rw [let_x1, let_end]
  rfl
end Go.Proofs.YtgahdookojbbiaaDoor
