/- Plain laws of classes: numbered as they are met; one class just if no set tells them apart; each set is joined classes. -/
import Derived.Test.YtjpiebapemalfaaPartC
namespace Go.Proofs.Ytjpiebapemalfaa
set_option linter.unusedVariables false
set_option linter.unusedSimpArgs false

section
variable {α : Type} [DecidableEq α] (f : Nat → α)
theorem num_le (b : Nat) : num f b ≤ (firsts f b).length := by
  by_cases h : f b ∈ firsts f b
  · rw [num_old f b h]
    exact Nat.le_of_lt (List.idxOf_lt_length_of_mem h)
  · rw [num_new f b h]; exact Nat.le_refl _
theorem num_top (b : Nat) (h : ¬ num f b < (firsts f b).length) : (firsts f (b + 1)).length = num f b + 1 := by
  have hn : ¬ f b ∈ firsts f b := fun hm => h (by rw [num_old f b hm]; exact List.idxOf_lt_length_of_mem hm)
  rw [len_new f b hn, num_new f b hn]
theorem num_low (b : Nat) (h : num f b < (firsts f b).length) : (firsts f (b + 1)).length = (firsts f b).length := by
  have hn : f b ∈ firsts f b := by
    apply Classical.byContradiction
    intro hm
    rw [num_new f b hm] at h
    omega
  rw [len_old f b hn]
end
/-- the highest number so far -/
def top (l : List BSet) (b : Nat) : Int := ((firsts (sig l) b).length : Int) - 1
theorem top_zero (l : List BSet) : top l 0 = -1 := rfl
theorem top_all (l : List BSet) : (many l : Int) = top l 256 + 1 := by unfold top many; omega
theorem cls_top (l : List BSet) (b : Nat) : cls l b ≤ top l b + 1 := by
  have := num_le (sig l) b
  unfold cls top
  omega
theorem top_up (l : List BSet) (b : Nat) (h : cls l b > top l b) : top l (b + 1) = cls l b := by
  have h1 := num_top (sig l) b (by unfold cls top at h; omega)
  unfold cls top
  omega
theorem top_same (l : List BSet) (b : Nat) (h : ¬ cls l b > top l b) : top l (b + 1) = top l b := by
  have h1 := num_low (sig l) b (by unfold cls top at h; omega)
  unfold top
  omega
theorem top_ge (l : List BSet) (b : Nat) : -1 ≤ top l b ∧ top l b ≤ b := by
  have := firsts_length_le (sig l) b
  unfold top
  omega
theorem cls_eq (l : List BSet) (a b : Nat) : cls l a = cls l b ↔ sig l a = sig l b := by
  unfold cls
  rw [Int.natCast_inj, num_iff]

/-- the classes that a set meets, joined -/
def metL (l : List BSet) (s : BSet) : Nat → List BSet
  | 0 => []
  | n + 1 => if memB (cls l) n &&& s = 0 then metL l s n else metL l s n ++ [memB (cls l) n]
theorem metL_no (l : List BSet) (s : BSet) (n : Nat) (h : memB (cls l) n &&& s = 0) : metL l s (n + 1) = metL l s n := by
  show (if _ then _ else _) = _
  rw [if_pos h]
theorem metL_yes (l : List BSet) (s : BSet) (n : Nat) (h : ¬ memB (cls l) n &&& s = 0) : metL l s (n + 1) = metL l s n ++ [memB (cls l) n] := by
  show (if _ then _ else _) = _
  rw [if_neg h]
theorem metL_length (l : List BSet) (s : BSet) (n : Nat) : (metL l s n).length ≤ n := by
  induction n with
  | zero => simp [metL]
  | succ n ih =>
    by_cases h : memB (cls l) n &&& s = 0
    · rw [metL_no l s n h]; omega
    · rw [metL_yes l s n h]; simp; omega
theorem metL_get (l : List BSet) (s : BSet) (n : Nat) {i : Nat} (hi : i < 256) : (joinL (metL l s n)).getLsbD i = true ↔ ∃ c, c < n ∧ cls l i = (c : Int) ∧ ¬ memB (cls l) c &&& s = 0 := by
  induction n with
  | zero => simp [metL, joinL]
  | succ n ih =>
    by_cases h : memB (cls l) n &&& s = 0
    · rw [metL_no l s n h, ih]
      constructor
      · rintro ⟨c, h1, h2, h3⟩; exact ⟨c, by omega, h2, h3⟩
      · rintro ⟨c, h1, h2, h3⟩
        refine ⟨c, ?_, h2, h3⟩
        rcases Nat.lt_or_ge c n with h4 | h4
        · exact h4
        · have : c = n := by omega
          subst this
          exact absurd h h3
    · rw [metL_yes l s n h, joinL_snoc, BitVec.getLsbD_or, memB_get _ _ hi, Bool.or_eq_true, ih, decide_eq_true_eq]
      constructor
      · rintro (⟨c, h1, h2, h3⟩ | h1)
        · exact ⟨c, by omega, h2, h3⟩
        · exact ⟨n, by omega, h1, h⟩
      · rintro ⟨c, h1, h2, h3⟩
        rcases Nat.lt_or_ge c n with h4 | h4
        · exact .inl ⟨c, h4, h2, h3⟩
        · have : c = n := by omega
          subst this
          exact .inr h2
theorem sig_bit {l : List BSet} {k : Nat} (hk : k < l.length) {a b : Nat} (h : sig l a = sig l b) : l[k].getLsbD a = l[k].getLsbD b := by
  have := congrArg (fun x => x[k]?) h
  simpa [sig, hk] using this
theorem joined (l : List BSet) (k : Nat) (hk : k < l.length) : joinL (metL l l[k] (many l)) = l[k] := by
  apply set_ext
  intro i hi
  rw [Bool.eq_iff_iff, metL_get l l[k] (many l) hi]
  constructor
  · rintro ⟨c, h1, h2, h3⟩
    have hex : ∃ j, j < 256 ∧ (memB (cls l) c &&& l[k]).getLsbD j = true := by
      apply Classical.byContradiction
      intro hne
      apply h3
      apply set_ext
      intro j hj
      cases hb : (memB (cls l) c &&& l[k]).getLsbD j with
      | true => exact absurd ⟨j, hj, hb⟩ hne
      | false => simp
    obtain ⟨j, hj, hb⟩ := hex
    rw [BitVec.getLsbD_and, memB_get _ _ hj, Bool.and_eq_true, decide_eq_true_eq] at hb
    rw [← hb.2]
    exact sig_bit hk ((cls_eq l i j).1 (by rw [h2, hb.1]))
  · intro h
    have hlt := cls_lt l hi
    have hge := cls_ge l i
    refine ⟨(cls l i).toNat, by omega, by omega, fun h0 => ?_⟩
    have := congrArg (fun x : BSet => x.getLsbD i) h0
    have e : (((cls l i).toNat : Nat) : Int) = cls l i := by omega
    rw [e] at this
    simp only [BitVec.getLsbD_and, memB_get _ _ hi, h] at this
    simp at this

end Go.Proofs.Ytjpiebapemalfaa
