/- Plain laws of a set's rows for OctetsBack: they rise and do not touch, have just the set's bytes, and as many as Count says. No program in sight. -/
import Derived.Test.YtjpiebapemalfaaSpanRows
namespace Go.Proofs.Ytjpiebapemalfaa
set_option linter.unusedVariables false
set_option linter.unusedSimpArgs false

/-- rows that rise and do not touch, and lie in the set -/
def goodL (a : BSet) (l : List (Nat × Nat)) : Prop :=
  l.Pairwise (fun p q => p.2 + 1 < q.1) ∧ ∀ p ∈ l, p.1 ≤ p.2 ∧ p.2 < 256 ∧ ∀ i, p.1 ≤ i → i ≤ p.2 → a.getLsbD i = true
theorem itF_run (a : BSet) (b : Nat) : 0 ≤ itF a b → ∀ i : Nat, itF a b ≤ i → i < b → a.getLsbD i = true := by
  induction b with
  | zero => intro h; simp [itF] at h
  | succ b ih =>
    intro h i h1 h2
    rw [itF_succ] at h h1
    cases hbit : a.getLsbD b with
    | false => rw [hbit] at h; simp at h
    | true =>
      rw [hbit] at h h1
      simp only [if_true] at h h1
      by_cases hib : i = b
      · subst hib; exact hbit
      · split at h1
        · omega
        · rename_i hf
          exact ih (by omega) i h1 (by omega)
theorem itF_far (a : BSet) (b : Nat) : 0 ≤ itF a b → ∀ p ∈ itR a b, ((p.2 + 1 : Nat) : Int) < itF a b := by
  induction b with
  | zero => intro h; simp [itF] at h
  | succ b ih =>
    intro h p hp
    cases hbit : a.getLsbD b with
    | false => rw [itF_succ, hbit] at h; simp at h
    | true =>
      rw [itR_succ, if_neg (by simp [hbit])] at hp
      rw [itF_succ, hbit]
      simp only [if_true]
      have h2 := itR_ends a b p hp
      split
      · omega
      · rename_i hf
        exact ih (by omega) p hp
theorem itR_good (a : BSet) (b : Nat) (hb : b ≤ 257) : goodL a (itR a b) := by
  induction b with
  | zero => exact ⟨List.Pairwise.nil, by simp [itR]⟩
  | succ b ih =>
    obtain ⟨h1, h2⟩ := ih (by omega)
    rw [itR_succ]
    split
    · rename_i h
      have hbd := itF_bounds a b
      have hrun := itF_run a b h.2
      have hfar := itF_far a b h.2
      refine ⟨?_, ?_⟩
      · rw [List.pairwise_append]
        refine ⟨h1, by simp, ?_⟩
        intro p hp q hq
        have hq' : q = ((itF a b).toNat, b - 1) := by simpa using hq
        subst hq'
        have := hfar p hp
        simp only
        omega
      · intro p hp
        rw [List.mem_append] at hp
        rcases hp with hp | hp
        · exact h2 p hp
        · have hp' : p = ((itF a b).toNat, b - 1) := by simpa using hp
          subst hp'
          simp only
          exact ⟨by omega, by omega, fun i hi1 hi2 => hrun i (by omega) (by omega)⟩
    · exact ⟨h1, h2⟩
theorem rows_good (a : BSet) : goodL a (rowsOf a) := itR_good a 257 (Nat.le_refl _)
theorem good_prefix {a : BSet} {l m : List (Nat × Nat)} (h : goodL a m) (hp : l <+: m) : goodL a l := by
  obtain ⟨r, rfl⟩ := hp
  exact ⟨(List.pairwise_append.1 h.1).1, fun p hp => h.2 p (by simp [hp])⟩
/-- each byte of the set is in a row -/
theorem itR_all (a : BSet) (b : Nat) : ∀ i, i < b → a.getLsbD i = true → (∃ p ∈ itR a b, p.1 ≤ i ∧ i ≤ p.2) ∨ (0 ≤ itF a b ∧ itF a b ≤ i) := by
  induction b with
  | zero => intro i h; omega
  | succ b ih =>
    intro i hi hbit
    have hbd := itF_bounds a b
    by_cases hib : i = b
    · subst hib
      right
      rw [itF_succ, hbit]
      simp only [if_true]
      split <;> omega
    · rcases ih i (by omega) hbit with ⟨p, hp, h1⟩ | ⟨h1, h2⟩
      · left
        rw [itR_succ]
        split
        · exact ⟨p, by simp [hp], h1⟩
        · exact ⟨p, hp, h1⟩
      · cases hb2 : a.getLsbD b with
        | true =>
          right
          rw [itF_succ, hb2]
          simp only [if_true]
          split <;> omega
        | false =>
          left
          rw [itR_succ, if_pos ⟨hb2, h1⟩]
          exact ⟨((itF a b).toNat, b - 1), by simp, by simp only; omega⟩
theorem rows_all (a : BSet) {i : Nat} (hi : i < 256) (h : a.getLsbD i = true) : ∃ p ∈ rowsOf a, p.1 ≤ i ∧ i ≤ p.2 := by
  rcases itR_all a 257 i (by omega) h with h1 | ⟨h1, h2⟩
  · exact h1
  · rw [show (257 : Nat) = 256 + 1 from rfl, itF_succ, getLsbD_256] at h1
    simp at h1
theorem rows_join (a : BSet) : joinL ((rowsOf a).map fun p => spanB p.1 p.2) = a := by
  apply set_ext
  intro i hi
  rw [joinL_get, List.any_map, Bool.eq_iff_iff, List.any_eq_true]
  constructor
  · rintro ⟨p, hp, h⟩
    simp only [Function.comp, spanB_get _ _ _ hi, decide_eq_true_eq] at h
    exact ((rows_good a).2 p hp).2.2 i h.1 h.2
  · intro h
    obtain ⟨p, hp, h1, h2⟩ := rows_all a hi h
    exact ⟨p, hp, by simp only [Function.comp, spanB_get _ _ _ hi, decide_eq_true_eq]; exact ⟨h1, h2⟩⟩
/-- how many bytes rows have -/
def sizeL (l : List (Nat × Nat)) : Nat := (l.map fun p => p.2 + 1 - p.1).sum
theorem sizeL_snoc (l : List (Nat × Nat)) (p : Nat × Nat) : sizeL (l ++ [p]) = sizeL l + (p.2 + 1 - p.1) := by simp [sizeL]
theorem cnt_rows (a : BSet) (b : Nat) : cntTo a b = sizeL (itR a b) + (if 0 ≤ itF a b then b - (itF a b).toNat else 0) := by
  induction b with
  | zero => simp [cntTo, sizeL, itR, itF]
  | succ b ih =>
    have hbd := itF_bounds a b
    rw [cntTo_succ, ih, itR_succ, itF_succ]
    cases hbit : a.getLsbD b with
    | true =>
      simp only [if_true, Bool.true_eq_false, false_and, if_false]
      by_cases hf : itF a b < 0
      · rw [if_neg (by omega), if_pos hf, if_pos (by omega)]
        omega
      · rw [if_pos (by omega), if_neg hf, if_pos (by omega)]
        omega
    | false =>
      simp only [Bool.false_eq_true, if_false, true_and]
      by_cases h0 : 0 ≤ itF a b
      · rw [if_pos h0, if_pos h0, sizeL_snoc, if_neg (by omega)]
        simp only
        omega
      · rw [if_neg h0, if_neg h0, if_neg (by omega)]
theorem cnt_all (a : BSet) : cnt a = sizeL (rowsOf a) := by
  have h := cnt_rows a 257
  rw [show (257 : Nat) = 256 + 1 from rfl, cntTo_succ, getLsbD_256, itF_succ, getLsbD_256] at h
  simp at h
  exact h
/-- the bytes of rows, one behind the other -/
def byL (l : List (Nat × Nat)) : List UInt8 := l.flatMap fun p => (List.range' p.1 (p.2 + 1 - p.1)).map UInt8.ofNat
theorem byL_snoc (l : List (Nat × Nat)) (p : Nat × Nat) : byL (l ++ [p]) = byL l ++ (List.range' p.1 (p.2 + 1 - p.1)).map UInt8.ofNat := by simp [byL]
theorem ofB_get (l : List UInt8) (i : Nat) (hi : i < 256) : (ofB l).getLsbD i = decide (UInt8.ofNat i ∈ l) := by
  have e : ofB l = ofL (l.map UInt8.toNat) := by
    unfold ofB ofL
    rw [List.foldl_map]
  rw [e, ofL_get _ _ hi]
  congr 1
  apply propext
  rw [List.mem_map]
  constructor
  · rintro ⟨x, hx, rfl⟩
    simpa using hx
  · intro h
    exact ⟨_, h, by simp; omega⟩
theorem rows_of (a : BSet) : ofB (byL (rowsOf a)) = a := by
  apply set_ext
  intro i hi
  rw [ofB_get _ _ hi, Bool.eq_iff_iff, decide_eq_true_eq]
  unfold byL
  rw [List.mem_flatMap]
  constructor
  · rintro ⟨p, hp, h⟩
    obtain ⟨j, hj, e⟩ := List.mem_map.1 h
    have hg := (rows_good a).2 p hp
    rw [List.mem_range'] at hj
    obtain ⟨k, hk, rfl⟩ := hj
    have hj2 : p.1 + 1 * k < 256 := by omega
    have : p.1 + 1 * k = i := by
      have := congrArg UInt8.toNat e
      simp at this
      omega
    exact hg.2.2 i (by omega) (by omega)
  · intro h
    obtain ⟨p, hp, h1, h2⟩ := rows_all a hi h
    refine ⟨p, hp, List.mem_map.2 ⟨i, ?_, rfl⟩⟩
    rw [List.mem_range']
    exact ⟨i - p.1, by omega, by omega⟩

end Go.Proofs.Ytjpiebapemalfaa
