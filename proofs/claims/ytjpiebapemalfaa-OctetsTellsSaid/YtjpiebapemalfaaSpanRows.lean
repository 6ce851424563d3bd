/- Plain laws of a set's rows: what the iterator gives and what the document builds are the same. No program in sight. -/
import Derived.Test.YtjpiebapemalfaaSet
namespace Go.Proofs.Ytjpiebapemalfaa
set_option linter.unusedVariables false
set_option linter.unusedSimpArgs false

/-- where the row under way began, behind b bytes; -1: none is under way -/
def itF (a : BSet) : Nat → Int
  | 0 => -1
  | b + 1 => if a.getLsbD b then (if itF a b < 0 then (b : Int) else itF a b) else -1
/-- the rows that are whole behind b bytes -/
def itR (a : BSet) : Nat → List (Nat × Nat)
  | 0 => []
  | b + 1 => if a.getLsbD b = false ∧ 0 ≤ itF a b then itR a b ++ [((itF a b).toNat, b - 1)] else itR a b
def rowsOf (a : BSet) : List (Nat × Nat) := itR a 257
/-- one byte more, as the document builds the rows -/
def rfStep (l : List (Nat × Nat)) (b : Nat) : List (Nat × Nat) :=
  match l.getLast? with
  | some p => if p.2 + 1 = b then l.dropLast ++ [(p.1, b)] else l ++ [(b, b)]
  | none => [(b, b)]
def rfR (a : BSet) : Nat → List (Nat × Nat)
  | 0 => []
  | b + 1 => if a.getLsbD b then rfStep (rfR a b) b else rfR a b
theorem itF_succ (a : BSet) (b : Nat) : itF a (b + 1) = if a.getLsbD b then (if itF a b < 0 then (b : Int) else itF a b) else -1 := rfl
theorem itR_succ (a : BSet) (b : Nat) : itR a (b + 1) = if a.getLsbD b = false ∧ 0 ≤ itF a b then itR a b ++ [((itF a b).toNat, b - 1)] else itR a b := rfl
theorem rfR_succ (a : BSet) (b : Nat) : rfR a (b + 1) = if a.getLsbD b then rfStep (rfR a b) b else rfR a b := rfl
theorem itF_bounds (a : BSet) (b : Nat) : -1 ≤ itF a b ∧ itF a b < b := by
  induction b with
  | zero => simp [itF]
  | succ b ih =>
    rw [itF_succ]
    split
    · split <;> omega
    · omega
theorem itR_ends (a : BSet) (b : Nat) : ∀ p ∈ itR a b, p.1 ≤ p.2 ∧ p.2 + 2 ≤ b := by
  induction b with
  | zero => simp [itR]
  | succ b ih =>
    intro p hp
    rw [itR_succ] at hp
    have hb := itF_bounds a b
    split at hp
    · rename_i h
      rw [List.mem_append] at hp
      rcases hp with hp | hp
      · have := ih p hp; omega
      · have hp' : p = ((itF a b).toNat, b - 1) := by simpa using hp
        subst hp'
        simp only
        omega
    · have := ih p hp; omega
theorem rfR_eq (a : BSet) (b : Nat) : rfR a b = itR a b ++ if 0 ≤ itF a b then [((itF a b).toNat, b - 1)] else [] := by
  induction b with
  | zero => simp [rfR, itR, itF]
  | succ b ih =>
    have hb := itF_bounds a b
    rw [rfR_succ, itR_succ, itF_succ]
    cases hbit : a.getLsbD b with
    | true =>
      simp only [if_true, Bool.true_eq_false, false_and, if_false]
      by_cases hf : itF a b < 0
      · have h0 : ¬ 0 ≤ itF a b := by omega
        rw [if_neg h0, List.append_nil] at ih
        rw [ih, if_pos hf, if_pos (by omega)]
        unfold rfStep
        cases hl : (itR a b).getLast? with
        | none =>
          have : itR a b = [] := List.getLast?_eq_none_iff.1 hl
          rw [this]
          simp
        | some p =>
          have hm := itR_ends a b p (List.mem_of_getLast? hl)
          simp only
          rw [if_neg (by omega)]
          simp
      · have h0 : 0 ≤ itF a b := by omega
        rw [if_pos h0] at ih
        rw [ih, if_neg hf, if_pos h0]
        unfold rfStep
        rw [List.getLast?_concat]
        simp only
        rw [if_pos (by omega), List.dropLast_concat]
        simp
    | false =>
      simp only [Bool.false_eq_true, if_false, true_and]
      rw [ih]
      by_cases h0 : 0 ≤ itF a b
      · rw [if_pos h0, if_pos h0, if_neg (by omega), List.append_nil]
      · rw [if_neg h0, if_neg h0, if_neg (by omega)]
theorem getLsbD_256 (a : BSet) : a.getLsbD 256 = false := by simp
theorem rows_same (a : BSet) : rfR a 256 = rowsOf a := by
  unfold rowsOf
  rw [show (257 : Nat) = 256 + 1 from rfl, itR_succ, rfR_eq]
  by_cases h0 : 0 ≤ itF a 256
  · rw [if_pos h0, if_pos ⟨getLsbD_256 a, h0⟩]
  · rw [if_neg h0, if_neg (fun h => h0 h.2), List.append_nil]
theorem rows_lt (a : BSet) : ∀ p ∈ rowsOf a, p.1 ≤ p.2 ∧ p.2 < 256 := by
  intro p hp
  have := itR_ends a 257 p hp
  omega
theorem itR_length (a : BSet) (b : Nat) : (itR a b).length ≤ b := by
  induction b with
  | zero => simp [itR]
  | succ b ih =>
    rw [itR_succ]
    split
    · simp; omega
    · omega
theorem itR_prefix (a : BSet) {b c : Nat} (h : b ≤ c) : ∃ r, itR a c = itR a b ++ r := by
  induction c with
  | zero => have : b = 0 := by omega
            subst this; exact ⟨[], by simp⟩
  | succ c ih =>
    rcases Nat.lt_or_ge c b with h1 | h1
    · have : b = c + 1 := by omega
      subst this; exact ⟨[], by simp⟩
    · obtain ⟨r, hr⟩ := ih h1
      rw [itR_succ]
      split
      · exact ⟨r ++ [((itF a c).toNat, c - 1)], by rw [hr, List.append_assoc]⟩
      · exact ⟨r, hr⟩

end Go.Proofs.Ytjpiebapemalfaa
