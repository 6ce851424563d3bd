/- Plain laws of sets of numbers that are kept as the bits of a natural number and told in words of 64 bits. No program in sight. No condition beyond those named in each lemma. -/
import Derived.Test.YtgahdookojbbiaaDoorSet
namespace Go.Proofs.YtgahdookojbbiaaDoor
set_option linter.unusedVariables false
set_option linter.unusedSimpArgs false

def wordN (x j : Nat) : Nat := x / 2 ^ (64 * j) % 2 ^ 64
theorem testBit_wordN (x j i : Nat) : (wordN x j).testBit i = (decide (i < 64) && x.testBit (64 * j + i)) := by
  unfold wordN
  rw [Nat.testBit_mod_two_pow, ← Nat.shiftRight_eq_div_pow, Nat.testBit_shiftRight]
theorem wordN_lt (x j : Nat) : wordN x j < 2 ^ 64 := Nat.mod_lt _ (by decide)
theorem wordN_lt' (x j : Nat) : wordN x j < 18446744073709551616 := wordN_lt x j
def wordsN (x k : Nat) : List Nat := (List.range k).map (wordN x)
theorem wordsN_length (x k : Nat) : (wordsN x k).length = k := by simp [wordsN]
theorem wordsN_get (x k j : Nat) (h : j < (wordsN x k).length) : (wordsN x k)[j] = wordN x j := by simp [wordsN]
theorem testBit_or_pow (x n i : Nat) : (x ||| 2 ^ n).testBit i = (x.testBit i || decide (n = i)) := by rw [Nat.testBit_or, Nat.testBit_two_pow]
theorem wordN_add (x n j : Nat) : wordN (x ||| 2 ^ n) j = if j = n / 64 then wordN x j ||| 2 ^ (n % 64) else wordN x j := by
  apply Nat.eq_of_testBit_eq
  intro i
  rw [testBit_wordN, testBit_or_pow]
  split
  · rename_i h
    rw [testBit_or_pow, testBit_wordN]
    by_cases hi : i < 64
    · simp only [hi, decide_true, Bool.true_and]
      congr 1
      rw [decide_eq_decide]
      omega
    · have : ¬ n % 64 = i := by omega
      simp [hi, this]
  · rename_i h
    rw [testBit_wordN]
    by_cases hi : i < 64
    · have : ¬ n = 64 * j + i := by omega
      simp [hi, this]
    · simp [hi]
theorem words_add (x k n : Nat) : (wordsN x k).set (n / 64) (wordN x (n / 64) ||| 2 ^ (n % 64)) = wordsN (x ||| 2 ^ n) k := by
  apply List.ext_getElem
  · simp [wordsN]
  · intro i h1 h2
    rw [List.getElem_set, wordsN_get, wordsN_get, wordN_add]
    by_cases h : n / 64 = i
    · subst h; simp
    · have : ¬ i = n / 64 := fun e => h e.symm
      simp [h, this]
theorem has_word (x n : Nat) : (wordN x (n / 64)).testBit (n % 64) = x.testBit n := by
  rw [testBit_wordN]
  have h1 : n % 64 < 64 := by omega
  have h2 : 64 * (n / 64) + n % 64 = n := by omega
  simp [h1, h2]
theorem wordsN_zero (k : Nat) : wordsN 0 k = List.replicate k 0 := by
  apply List.ext_getElem
  · simp [wordsN]
  · intro i h1 h2
    simp [wordsN, wordN]
/-- two numbers of the same words are one -/
theorem wordsN_inj {x y k : Nat} (hx : x < 2 ^ (64 * k)) (hy : y < 2 ^ (64 * k)) (h : wordsN x k = wordsN y k) : x = y := by
  apply Nat.eq_of_testBit_eq
  intro i
  by_cases hi : i < 64 * k
  · have hj : i / 64 < k := by omega
    have e : wordN x (i / 64) = wordN y (i / 64) := by
      have h1 := wordsN_get x k (i / 64) (by rw [wordsN_length]; exact hj)
      have h2 := wordsN_get y k (i / 64) (by rw [wordsN_length]; exact hj)
      rw [← h1, ← h2]
      congr 1
    rw [← has_word x i, ← has_word y i, e]
  · rw [Nat.testBit_lt_two_pow (Nat.lt_of_lt_of_le hx (Nat.pow_le_pow_right (by decide) (by omega))), Nat.testBit_lt_two_pow (Nat.lt_of_lt_of_le hy (Nat.pow_le_pow_right (by decide) (by omega)))]

/-- the numbers below n that are in the set, rising -/
def bitsTo (x n : Nat) : List Nat := (List.range n).filter x.testBit
theorem bitsTo_succ (x n : Nat) : bitsTo x (n + 1) = if x.testBit n then bitsTo x n ++ [n] else bitsTo x n := by
  unfold bitsTo
  rw [List.range_succ, List.filter_append]
  cases h : x.testBit n <;> simp [h]
theorem bitsTo_skip (x a d : Nat) (h : ∀ i, a ≤ i → i < a + d → x.testBit i = false) : bitsTo x (a + d) = bitsTo x a := by
  induction d with
  | zero => rfl
  | succ d ih =>
    rw [← Nat.add_assoc, bitsTo_succ, h (a + d) (by omega) (by omega), if_neg (by simp)]
    exact ih fun i h1 h2 => h i h1 (by omega)
theorem bitsTo_prefix (x a d : Nat) : bitsTo x a <+: bitsTo x (a + d) := by
  induction d with
  | zero => exact List.prefix_refl _
  | succ d ih =>
    rw [← Nat.add_assoc, bitsTo_succ]
    split
    · exact ih.trans (List.prefix_append _ _)
    · exact ih
theorem mem_bitsTo (x n i : Nat) : i ∈ bitsTo x n ↔ i < n ∧ x.testBit i = true := by simp [bitsTo]
theorem bitsTo_length (x n : Nat) : (bitsTo x n).length ≤ n := by
  have := List.length_filter_le x.testBit (List.range n)
  simpa [bitsTo] using this
theorem bitsTo_pairwise (x n : Nat) : (bitsTo x n).Pairwise (· < ·) := List.Pairwise.filter _ List.pairwise_lt_range

/-- t is the lowest bit of w -/
def LowBit (w t : Nat) : Prop := w.testBit t = true ∧ ∀ i, i < t → w.testBit i = false
theorem low_exists (w : Nat) (h : w ≠ 0) : ∃ t, LowBit w t := by
  have key : ∀ n, (∃ i, i < n ∧ w.testBit i = true) → ∃ t, LowBit w t := by
    intro n
    induction n with
    | zero => rintro ⟨i, h, _⟩; omega
    | succ n ih =>
      rintro ⟨i, h1, h2⟩
      by_cases hn : ∃ i, i < n ∧ w.testBit i = true
      · exact ih hn
      · have : i = n := by
          by_cases e : i = n
          · exact e
          · exact (hn ⟨i, by omega, h2⟩).elim
        subst this
        refine ⟨i, h2, fun j hj => ?_⟩
        cases hb : w.testBit j with
        | false => rfl
        | true => exact (hn ⟨j, hj, hb⟩).elim
  obtain ⟨i, hi⟩ := Nat.exists_testBit_of_ne_zero h
  exact key (i + 1) ⟨i, by omega, hi⟩
theorem low_form {w t : Nat} (h : LowBit w t) : w = 2 ^ (t + 1) * (w / 2 ^ (t + 1)) + 2 ^ t := by
  have e : w % 2 ^ (t + 1) = 2 ^ t := by
    apply Nat.eq_of_testBit_eq
    intro i
    rw [Nat.testBit_mod_two_pow, Nat.testBit_two_pow]
    by_cases h1 : i < t
    · have : ¬ t = i := by omega
      rw [h.2 i h1]
      simp [this]
    · by_cases h2 : t = i
      · subst h2
        rw [h.1]
        simp
      · have : ¬ i < t + 1 := by omega
        simp [this, h2]
  have := Nat.div_add_mod w (2 ^ (t + 1))
  omega
theorem low_and_pred {w t : Nat} (h : LowBit w t) (i : Nat) : (w &&& (w - 1)).testBit i = (w.testBit i && !decide (i = t)) := by
  have hf := low_form h
  obtain ⟨m, hm⟩ : ∃ m, m = w / 2 ^ (t + 1) := ⟨_, rfl⟩
  rw [← hm] at hf
  have hp : 0 < 2 ^ t := Nat.two_pow_pos t
  have hlt : 2 ^ t < 2 ^ (t + 1) := Nat.pow_lt_pow_right (by decide) (by omega)
  have e1 : w - 1 = 2 ^ (t + 1) * m + (2 ^ t - 1) := by omega
  rw [Nat.testBit_and, e1]
  have h1 := Nat.testBit_two_pow_mul_add m hlt i
  have h2 := Nat.testBit_two_pow_mul_add m (show 2 ^ t - 1 < 2 ^ (t + 1) by omega) i
  rw [← hf] at h1
  rw [h1, h2, Nat.testBit_two_pow, Nat.testBit_two_pow_sub_one]
  by_cases hi : i < t + 1
  · simp only [hi, if_true]
    by_cases hit : i = t
    · subst hit; simp
    · have : ¬ t = i := fun e => hit e.symm
      simp [this]
  · have : ¬ i = t := by omega
    simp [hi, this]
theorem low_and_neg {w t : Nat} (h : LowBit w t) (hw : w < 2 ^ 64) : w &&& (2 ^ 64 - w) = 2 ^ t := by
  have hf := low_form h
  obtain ⟨m, hm⟩ : ∃ m, m = w / 2 ^ (t + 1) := ⟨_, rfl⟩
  rw [← hm] at hf
  have ht : t < 64 := by
    refine Classical.byContradiction fun hn => ?_
    have h2 := Nat.testBit_lt_two_pow (Nat.lt_of_lt_of_le hw (Nat.pow_le_pow_right (show 0 < 2 by decide) (show 64 ≤ t by omega)))
    rw [h.1] at h2
    cases h2
  have hlt : 2 ^ t < 2 ^ (t + 1) := Nat.pow_lt_pow_right (by decide) (by omega)
  have hsplit : (2 : Nat) ^ 64 = 2 ^ (t + 1) * 2 ^ (63 - t) := by rw [← Nat.pow_add]; congr 1; omega
  have hmm : m < 2 ^ (63 - t) := by
    refine Classical.byContradiction fun hn => ?_
    have := Nat.mul_le_mul_left (2 ^ (t + 1)) (Nat.le_of_not_lt hn)
    omega
  have hps : (2 : Nat) ^ (t + 1) = 2 ^ t + 2 ^ t := by rw [Nat.pow_succ]; omega
  have e2 : 2 ^ 64 - w = 2 ^ (t + 1) * (2 ^ (63 - t) - (m + 1)) + 2 ^ t := by
    rw [Nat.mul_sub, ← hsplit, Nat.mul_add, Nat.mul_one]
    have h5 : 2 ^ (t + 1) * (m + 1) ≤ 2 ^ (t + 1) * 2 ^ (63 - t) := Nat.mul_le_mul_left _ hmm
    rw [← hsplit, Nat.mul_add, Nat.mul_one] at h5
    omega
  apply Nat.eq_of_testBit_eq
  intro i
  rw [Nat.testBit_and, e2]
  have h1 := Nat.testBit_two_pow_mul_add m hlt i
  rw [← hf] at h1
  rw [h1, Nat.testBit_two_pow_mul_add _ hlt i, Nat.testBit_two_pow]
  by_cases hi : i < t + 1
  · simp [hi]
  · have : ¬ t = i := by omega
    simp only [hi, if_false, this, decide_false]
    rw [Nat.testBit_two_pow_sub_succ hmm]
    cases m.testBit (i - (t + 1)) <;> simp

open Classical in
/-- the numbers below n that have p, as bits -/
noncomputable def ofPred (p : Nat → Prop) : Nat → Nat
  | 0 => 0
  | n + 1 => if p n then ofPred p n ||| 2 ^ n else ofPred p n
theorem ofPred_bit (p : Nat → Prop) (n i : Nat) : (ofPred p n).testBit i = true ↔ i < n ∧ p i := by
  induction n with
  | zero => simp [ofPred]
  | succ n ih =>
    unfold ofPred
    split
    · rename_i h
      rw [testBit_or_pow, Bool.or_eq_true, ih, decide_eq_true_eq]
      constructor
      · rintro (h1 | rfl)
        · exact ⟨by omega, h1.2⟩
        · exact ⟨by omega, h⟩
      · rintro ⟨h1, h2⟩
        by_cases e : n = i
        · exact .inr e
        · exact .inl ⟨by omega, h2⟩
    · rename_i h
      rw [ih]
      constructor
      · rintro ⟨h1, h2⟩; exact ⟨by omega, h2⟩
      · rintro ⟨h1, h2⟩
        by_cases e : n = i
        · subst e; exact (h h2).elim
        · exact ⟨by omega, h2⟩
theorem bits_ext {x y : Nat} (h : ∀ i, x.testBit i = true ↔ y.testBit i = true) : x = y := by
  apply Nat.eq_of_testBit_eq
  intro i
  rw [Bool.eq_iff_iff]
  exact h i

end Go.Proofs.YtgahdookojbbiaaDoor
