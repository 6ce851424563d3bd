/- How a reading of a pattern faults: plain laws: which numbers, which places; and that a fault met from the left stands whatever comes behind it. No condition beyond those named in each lemma. -/
import Derived.Test.YtajainmldcnaeaaEreZ
namespace Go.Proofs.Ytajainmldcnaeaa
set_option linter.unusedVariables false
set_option linter.unusedSimpArgs false

namespace Ere
def okE (e : Nat) : Prop := e = 30 ∨ (42 ≤ e ∧ e ≤ 47)
theorem countsR_bad {p : ByteArray} {i e a : Nat} (h : countsR p i = .fault e a) : e = 45 ∧ a = i := by
  unfold countsR at h
  simp only at h
  split at h
  · split at h
    · cases h
    · split at h
      · injection h with h1 h2; exact ⟨h1.symm, h2.symm⟩
      · cases h
  · split at h
    · injection h with h1 h2; exact ⟨h1.symm, h2.symm⟩
    · cases h
theorem repeatR_bad {p : ByteArray} {t : Nd} {i e a : Nat} (h : repeatR p t i = .fault e a) : e = 45 ∧ a = i ∧ i < p.size := by
  unfold repeatR at h
  split at h
  · cases h
  split at h
  · cases h
  split at h
  · cases h
  split at h
  · rename_i h3
    cases hc : countsR p i with
    | fault e' a' =>
      rw [hc] at h
      injection h with h1 h2
      have := countsR_bad hc
      exact ⟨by omega, by omega, isAt_lt h3⟩
    | got c j => rw [hc] at h; cases h
  · cases h
theorem classR_bad {p : ByteArray} {s i e a : Nat} (h : classR p s i = .fault e a) : (e = 43 ∧ a = s) ∨ (e = 30 ∧ a = i) := by
  unfold classR at h
  split at h
  · injection h with h1 h2; exact .inl ⟨h1.symm, h2.symm⟩
  · split at h
    · injection h with h1 h2; exact .inr ⟨h1.symm, h2.symm⟩
    · cases h
theorem itemR_bad {p : ByteArray} {s i e a : Nat} (h : itemR p s i = .fault e a) : (e = 43 ∨ e = 30) ∧ (a = s ∨ a = i) := by
  unfold itemR at h
  split at h
  · rcases classR_bad h with h | h <;> omega
  · split at h
    · injection h with h1 h2; omega
    · split at h
      · cases h
      · split at h
        · injection h with h1 h2; omega
        · cases h
theorem itemsR_bad {p : ByteArray} {s : Nat} : ∀ n first i x e a, p.size + 1 ≤ n + i → i ≤ p.size → itemsR p s n first i x = .fault e a → (e = 43 ∨ e = 30) ∧ (a = s ∨ (i ≤ a ∧ a < p.size))
  | 0, _, i, _, _, _, hn, hi, _ => by omega
  | n + 1, first, i, x, e, a, hn, hi, h => by
    unfold itemsR at h
    split at h
    · cases h
    · split at h
      · injection h with h1 h2; omega
      · rename_i h1 h2
        cases hc : itemR p s i with
        | fault e' a' =>
          rw [hc] at h
          injection h with h3 h4
          have := itemR_bad hc
          omega
        | got t j =>
          rw [hc] at h
          have hf := itemR_fwd hc (by omega)
          have := itemsR_bad n false j _ e a (by omega) hf.2 h
          omega
theorem setR_bad {p : ByteArray} {s i e a : Nat} (hi : i ≤ p.size) (h : setR p s i = .fault e a) : (e = 43 ∨ e = 30) ∧ (a = s ∨ (i ≤ a ∧ a < p.size)) := by
  unfold setR at h
  cases hc : itemsR p s (p.size + 2) true (if isAt p i 94 then i + 1 else i) 0 with
  | fault e' a' =>
    rw [hc] at h
    injection h with h3 h4
    have hb : (if isAt p i 94 then i + 1 else i) ≤ p.size ∧ i ≤ (if isAt p i 94 then i + 1 else i) := by
      split
      · rename_i h5
        have := isAt_lt h5
        omega
      · omega
    have := itemsR_bad (p.size + 2) true _ 0 e' a' (by omega) hb.1 hc
    omega
  | got t j => rw [hc] at h; cases h
/-- what faults of a reader from i on are like -/
def BadF (p : ByteArray) (i e a : Nat) : Prop := okE e ∧ i ≤ a ∧ a < p.size
theorem pieceR_bad {p : ByteArray} {inner : Option (Nat → Res Nd)} (hfw : ∀ f, inner = some f → ∀ i t j, i ≤ p.size → f i = .got t j → i ≤ j ∧ j ≤ p.size) (hin : ∀ f, inner = some f → ∀ i e a, i ≤ p.size → f i = .fault e a → BadF p i e a) {i e a : Nat} (hi : i < p.size) (h : pieceR p inner i = .fault e a) : BadF p i e a := by
  unfold pieceR at h
  simp only at h
  split at h
  · cases h
  split at h
  · cases h
  split at h
  · injection h with h1 h2; unfold BadF okE; omega
  split at h
  · cases inner with
    | none => injection h with h1 h2; unfold BadF okE; omega
    | some f =>
      simp only at h
      cases hf : f (i + 1) with
      | fault e' a' =>
        rw [hf] at h
        injection h with h1 h2
        have := hin f rfl (i + 1) e' a' (by omega) hf
        unfold BadF at this ⊢
        subst h1 h2
        exact ⟨this.1, by omega, this.2.2⟩
      | got u k =>
        rw [hf] at h
        simp only [Res.bind] at h
        have h1 := hfw f rfl (i + 1) u k (by omega) hf
        split at h
        · injection h with h1 h2; unfold BadF okE; omega
        · have := repeatR_bad h
          unfold BadF okE; omega
  split at h
  · cases hf : setR p i (i + 1) with
    | fault e' a' =>
      rw [hf] at h
      injection h with h1 h2
      have := setR_bad (by omega) hf
      unfold BadF okE; omega
    | got u k =>
      rw [hf] at h
      simp only [Res.bind] at h
      have h1 := setR_fwd hf
      have := repeatR_bad h
      unfold BadF okE; omega
  split at h
  · have := repeatR_bad h
    unfold BadF okE; omega
  split at h
  · split at h
    · have := repeatR_bad h
      unfold BadF okE; omega
    · injection h with h1 h2; unfold BadF okE; omega
  · have := repeatR_bad h
    unfold BadF okE; omega
theorem altR_bad {p : ByteArray} {top : Bool} {pc : Nat → Res Nd} (hpc : ∀ i t j, i < p.size → pc i = .got t j → i < j ∧ j ≤ p.size) (hbad : ∀ i e a, i < p.size → pc i = .fault e a → BadF p i e a) : ∀ n i l e a, p.size + 1 ≤ n + i → i ≤ p.size → altR p top pc n i l = .fault e a → BadF p i e a
  | 0, i, _, _, _, hn, hi, _ => by omega
  | n + 1, i, l, e, a, hn, hi, h => by
    unfold altR at h
    split at h
    · cases h
    · rename_i h1
      simp only [Bool.or_eq_true, decide_eq_true_eq, not_or] at h1
      split at h
      · split at h
        · injection h with h1 h2; unfold BadF okE; omega
        · cases h
      · cases hc : pc i with
        | fault e' a' =>
          rw [hc] at h
          injection h with h2 h3
          subst h2 h3
          exact hbad i _ _ (by omega) hc
        | got u k =>
          rw [hc] at h
          have h2 := hpc i u k (by omega) hc
          have h3 := altR_bad hpc hbad n k (l ++ [u]) e a (by omega) h2.2 h
          unfold BadF at h3 ⊢
          exact ⟨h3.1, by omega, h3.2.2⟩
theorem patL_bad {p : ByteArray} {al : Nat → Res Nd} (hal : ∀ i t j, i ≤ p.size → al i = .got t j → i ≤ j ∧ j ≤ p.size) (hbad : ∀ i e a, i ≤ p.size → al i = .fault e a → BadF p i e a) : ∀ n i l e a, p.size + 1 ≤ n + i → i ≤ p.size → patL p al n i l = .fault e a → BadF p i e a
  | 0, i, _, _, _, hn, hi, _ => by omega
  | n + 1, i, l, e, a, hn, hi, h => by
    unfold patL at h
    cases hc : al i with
    | fault e' a' =>
      rw [hc] at h
      injection h with h2 h3
      subst h2 h3
      exact hbad i _ _ hi hc
    | got u k =>
      rw [hc] at h
      simp only [Res.bind] at h
      have h2 := hal i u k hi hc
      split at h
      · rename_i h4
        have := isAt_lt h4
        have h3 := patL_bad hal hbad n (k + 1) (l ++ [u]) e a (by omega) (by omega) h
        unfold BadF at h3 ⊢
        exact ⟨h3.1, by omega, h3.2.2⟩
      · cases h
theorem patR_bad {p : ByteArray} : ∀ n i e a, i ≤ p.size → patR p n i = .fault e a → BadF p i e a
  | 0, i, e, a, hi, h => by
    unfold patR at h
    exact patL_bad (fun i t j hi h => altR_fwd (fun i t j hi h => pieceR_fwd (fun f e => by cases e) h hi) _ _ _ _ _ hi h)
      (fun i e a hi h => altR_bad (fun i t j hi h => pieceR_fwd (fun f e => by cases e) h hi) (fun i e a hi h => pieceR_bad (fun f e => by cases e) (fun f e => by cases e) hi h) _ _ _ _ _ (by omega) hi h) _ _ _ _ _ (by omega) hi h
  | n + 1, i, e, a, hi, h => by
    unfold patR at h
    have hf : ∀ f, some (patR p n) = some f → ∀ i t j, i ≤ p.size → f i = .got t j → i ≤ j ∧ j ≤ p.size := fun f e => by injection e with e; subst e; exact fun i t j hi h => patR_fwd n i t j hi h
    have hb : ∀ f, some (patR p n) = some f → ∀ i e a, i ≤ p.size → f i = .fault e a → BadF p i e a := fun f e => by injection e with e; subst e; exact fun i e a hi h => patR_bad n i e a hi h
    exact patL_bad (fun i t j hi h => altR_fwd (fun i t j hi h => pieceR_fwd hf h hi) _ _ _ _ _ hi h)
      (fun i e a hi h => altR_bad (fun i t j hi h => pieceR_fwd hf h hi) (fun i e a hi h => pieceR_bad hf hb hi h) _ _ _ _ _ (by omega) hi h) _ _ _ _ _ (by omega) hi h
/-- what is told of a pattern: the place and the number -/
theorem parse_bad (p : ByteArray) : (parseR p).2.1 ≤ 1024 ∧ ((parseR p).2.2 = 0 ∨ ((parseR p).2.2 = 40 ∧ (parseR p).2.1 = 1024 ∧ 1024 < p.size) ∨ (p.size ≤ 1024 ∧ (parseR p).2.1 ≤ p.size ∧ ((parseR p).2.2 = 41 ∨ (parseR p).2.2 = 48 ∨ okE (parseR p).2.2))) := by
  unfold parseR
  split
  · rename_i h
    exact ⟨Nat.le_refl _, .inr (.inl ⟨rfl, rfl, h⟩)⟩
  · rename_i h
    split
    · rename_i i hi
      have := (nlAt_some p (p.size + 1) 0 i hi).2.1
      exact ⟨by simp only; omega, .inr (.inr ⟨by omega, by simp only; omega, .inl rfl⟩)⟩
    · split
      · rename_i e a he
        have := patR_bad 64 0 e a (by omega) he
        unfold BadF at this
        exact ⟨by simp only; omega, .inr (.inr ⟨by omega, by simp only; omega, .inr (.inr this.1)⟩)⟩
      · split
        · exact ⟨by simp, .inr (.inr ⟨by omega, by simp, .inr (.inl rfl)⟩)⟩
        · exact ⟨by simp, .inl rfl⟩
end Ere
end Go.Proofs.Ytajainmldcnaeaa
