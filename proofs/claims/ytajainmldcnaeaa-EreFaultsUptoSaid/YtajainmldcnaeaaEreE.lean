/- Two patterns that agree up to a place are read alike up to there. Plain laws. No condition beyond those named in each lemma. -/
import Derived.Test.YtajainmldcnaeaaEreF
namespace Go.Proofs.Ytajainmldcnaeaa
set_option linter.unusedVariables false
set_option linter.unusedSimpArgs false

namespace Ere
/-- the first m bytes are the same -/
structure Agree (p q : ByteArray) (m : Nat) : Prop where
  lp : m ≤ p.size
  lq : m ≤ q.size
  at_ : ∀ k, k < m → chr p k = chr q k
section
variable {p q : ByteArray} {m : Nat}
theorem Agree.isAt (A : Agree p q m) {k c : Nat} (h : k < m) : isAt q k c = isAt p k c := by
  unfold Ere.isAt
  rw [A.at_ k h, decide_eq_true (show k < p.size by have := A.lp; omega), decide_eq_true (show k < q.size by have := A.lq; omega)]
theorem Agree.oneOf (A : Agree p q m) {k : Nat} {l : List Nat} (h : k < m) : oneOf q k l = oneOf p k l := by
  unfold Ere.oneOf
  rw [A.at_ k h, decide_eq_true (show k < p.size by have := A.lp; omega), decide_eq_true (show k < q.size by have := A.lq; omega)]
theorem Agree.digits (A : Agree p q m) : ∀ k i n c, (digits p k i n c).2.1 < m → digits q k i n c = digits p k i n c
  | 0, i, n, c, h => rfl
  | k + 1, i, n, c, h => by
    have hi : i < m := by
      have := (digits_le p (k + 1) i n c).2
      omega
    unfold Ere.digits at h ⊢
    rw [decide_eq_true (show i < p.size by have := A.lp; omega)] at h ⊢
    rw [decide_eq_true (show i < q.size by have := A.lq; omega), ← A.at_ i hi]
    split
    · rename_i h1
      rw [if_pos h1] at h
      exact A.digits k (i + 1) _ _ h
    · rfl
theorem Agree.countsR (A : Agree p q m) {i j : Nat} {c : Nat × Int} (h : countsR p i = .got c j) (hj : j < m) : countsR q i = .got c j := by
  have hf := countsR_fwd h
  have e1 := A.digits 4 (i + 1) 0 0
  have e2 := A.digits 4 ((Ere.digits p 4 (i + 1) 0 0).2.1 + 1) 0 0
  have l2 := (digits_le p 4 ((Ere.digits p 4 (i + 1) 0 0).2.1 + 1) 0 0).2
  unfold Ere.countsR at h ⊢
  simp only at h ⊢
  obtain ⟨d, hd⟩ : ∃ d, Ere.digits p 4 (i + 1) 0 0 = d := ⟨_, rfl⟩
  rw [hd] at h e1 e2 l2
  have key : d.2.1 ≤ j := by
    split at h
    · split at h
      · injection h with _ h; omega
      · split at h
        · cases h
        · injection h with _ h; omega
    · split at h
      · cases h
      · injection h with _ h; omega
  rw [e1 (by omega), A.isAt (show d.2.1 < m by omega), A.isAt (show d.2.1 < m by omega)]
  split at h
  · rename_i h1
    rw [if_pos h1]
    have k2 : d.2.1 + 1 ≤ j := by
      split at h
      · injection h with _ h; omega
      · split at h
        · cases h
        · injection h with _ h; omega
    rw [A.isAt (show d.2.1 + 1 < m by omega)]
    split at h
    · rename_i h2
      rw [if_pos h2]
      exact h
    · rename_i h2
      rw [if_neg h2]
      split at h
      · cases h
      · rename_i h3
        injection h with h4 h5
        rw [e2 (by omega), A.isAt (show (Ere.digits p 4 (d.2.1 + 1) 0 0).2.1 < m by omega), if_neg h3, h4, h5]
  · rename_i h1
    rw [if_neg h1]
    exact h
theorem Agree.repeatR (A : Agree p q m) {t u : Nd} {i j : Nat} (hi : i ≤ p.size) (h : repeatR p t i = .got u j) (hj : j < m) : repeatR q t i = .got u j := by
  have hf := repeatR_fwd h hi
  have hm : i < m := by omega
  unfold Ere.repeatR at h ⊢
  rw [A.isAt hm, A.isAt hm, A.isAt hm, A.isAt hm]
  split at h
  · rename_i h1; rw [if_pos h1]; exact h
  rename_i h1
  rw [if_neg h1]
  split at h
  · rename_i h2; rw [if_pos h2]; exact h
  rename_i h2
  rw [if_neg h2]
  split at h
  · rename_i h3; rw [if_pos h3]; exact h
  rename_i h3
  rw [if_neg h3]
  split at h
  · rename_i h4
    rw [if_pos h4]
    cases hc : Ere.countsR p i with
    | fault e a => rw [hc] at h; cases h
    | got c k =>
      rw [hc] at h
      injection h with h5 h6
      rw [A.countsR hc (by omega)]
      simp only [Res.bind]
      rw [h5, h6]
  · rename_i h4
    rw [if_neg h4]
    exact h
theorem Agree.hit (A : Agree p q m) {k : Nat} (h : k + 1 < m) : hit q k ↔ hit p k := by
  unfold Ere.hit
  rw [A.at_ k (by omega), A.at_ (k + 1) h]
  have := A.lp
  have := A.lq
  constructor
  · rintro ⟨_, b, c⟩; exact ⟨by omega, b, c⟩
  · rintro ⟨_, b, c⟩; exact ⟨by omega, b, c⟩
theorem Agree.endAt (A : Agree p q m) {i j : Nat} (h : endAt p p.size i = some j) (hj : j + 1 < m) : endAt q q.size i = some j := by
  obtain ⟨h1, h2, h3⟩ := endAt_some p _ _ _ h
  cases hq : Ere.endAt q q.size i with
  | none => exact absurd ((A.hit hj).2 h2) (endAt_none q _ _ (by omega) hq j h1)
  | some k =>
    obtain ⟨k1, k2, k3⟩ := endAt_some q _ _ _ hq
    rcases Nat.lt_trichotomy k j with e | e | e
    · exact absurd ((A.hit (by omega)).1 k2) (h3 k k1 e)
    · rw [e]
    · exact absurd ((A.hit hj).2 h2) (k3 j h1 e)
theorem Agree.sub (A : Agree p q m) {i j : Nat} (hj : j ≤ m) : sub q i j = sub p i j := by
  unfold Ere.sub
  apply List.map_congr_left
  intro k hk
  rw [List.mem_range] at hk
  exact (A.at_ _ (by omega)).symm
theorem Agree.classR (A : Agree p q m) {s i j : Nat} {x : BSet} (h : classR p s i = .got x j) (hj : j < m) : classR q s i = .got x j := by
  unfold Ere.classR at h ⊢
  cases he : Ere.endAt p p.size (i + 2) with
  | none => rw [he] at h; cases h
  | some k =>
    rw [he] at h
    simp only at h
    have hk : k + 2 = j := by
      split at h
      · cases h
      · injection h
    rw [A.endAt he (by omega)]
    simp only
    rw [A.sub (show k ≤ m by omega)]
    exact h
theorem Agree.itemR (A : Agree p q m) {s i j : Nat} {x : BSet} (hi : i < p.size) (h : itemR p s i = .got x j) (hj : j + 1 < m) : itemR q s i = .got x j := by
  have hf := itemR_fwd h hi
  unfold Ere.itemR at h ⊢
  rw [A.isAt (show i < m by omega), A.isAt (show i + 1 < m by omega), A.isAt (show i + 1 < m by omega), A.oneOf (show i + 1 < m by omega)]
  split at h
  · rename_i h1
    rw [if_pos h1]
    exact A.classR h (by omega)
  rename_i h1
  rw [if_neg h1]
  split at h
  · cases h
  rename_i h2
  rw [if_neg h2]
  have h2m : i + 2 < m ∨ i + 1 < j → i + 2 < m := by omega
  have hlast : i + 2 < m := by
    split at h
    · injection h with _ h; omega
    · split at h
      · cases h
      · injection h with _ h; omega
  rw [A.isAt hlast, decide_eq_false (show ¬ q.size ≤ i + 2 by have := A.lq; omega), ← A.at_ i (by omega), ← A.at_ (i + 2) hlast]
  rw [decide_eq_false (show ¬ p.size ≤ i + 2 by have := A.lp; omega)] at h
  split at h
  · rename_i h3; rw [if_pos h3]; exact h
  rename_i h3
  rw [if_neg h3]
  split at h
  · cases h
  rename_i h4
  injection h with h5 h6
  rw [A.oneOf (show i + 3 < m by omega), if_neg h4, h5, h6]
theorem Agree.itemsR (A : Agree p q m) {s : Nat} : ∀ n n' first i x y k, i ≤ p.size → itemsR p s n first i x = .got y k → k + 1 < m → k + 1 ≤ n' + i → itemsR q s n' first i x = .got y k
  | 0, _, _, _, _, _, _, _, h, _, _ => by cases h
  | n + 1, n', first, i, x, y, k, hi, h, hk, hn => by
    have hf := itemsR_fwd _ _ _ _ _ _ h
    obtain ⟨n', rfl⟩ : ∃ c, n' = c + 1 := ⟨n' - 1, by omega⟩
    unfold Ere.itemsR at h ⊢
    rw [A.isAt (show i < m by omega)]
    split at h
    · rename_i h1; rw [if_pos h1]; exact h
    · rename_i h1
      rw [if_neg h1]
      split at h
      · cases h
      · rename_i h2
        rw [if_neg (by have := A.lq; omega)]
        cases hc : Ere.itemR p s i with
        | fault e a => rw [hc] at h; cases h
        | got t j =>
          rw [hc] at h
          simp only [Res.bind] at h
          have hj := itemR_fwd hc (by omega)
          have hjk := itemsR_fwd _ _ _ _ _ _ h
          rw [A.itemR (by omega) hc (by omega)]
          simp only [Res.bind]
          exact A.itemsR n n' false j _ y k hj.2 h hk (by omega)
theorem Agree.setR (A : Agree p q m) {s i j : Nat} {t : Nd} (hi : i < m) (h : setR p s i = .got t j) (hj : j < m) : setR q s i = .got t j := by
  unfold Ere.setR at h ⊢
  rw [A.isAt hi]
  cases hc : Ere.itemsR p s (p.size + 2) true (if Ere.isAt p i 94 then i + 1 else i) 0 with
  | fault e a => rw [hc] at h; cases h
  | got y k =>
    rw [hc] at h
    injection h with h1 h2
    rw [A.itemsR (p.size + 2) (q.size + 2) true _ 0 y k (by have := A.lp; split <;> omega) hc (by omega) (by have := A.lq; omega)]
    simp only [Res.bind]
    rw [h1, h2]
/-- a fault that stands -/
def Good (p : ByteArray) (m e a : Nat) : Prop := ((e = 44 ∨ e = 47) ∧ a + 1 ≤ m) ∨ (e = 46 ∧ a + 2 ≤ m) ∨ (e = 42 ∧ chr p a = 41 ∧ a + 1 ≤ m)
theorem Good.lt {e a : Nat} (h : Good p m e a) : a < m := by unfold Good at h; omega
/-- two readers that agree -/
def Like (p q : ByteArray) (m : Nat) (f f' : Nat → Res Nd) : Prop := (∀ i t j, i ≤ p.size → f i = .got t j → j < m → f' i = .got t j) ∧ ∀ i e a, i ≤ p.size → f i = .fault e a → Good p m e a → f' i = .fault e a
def LikeO (p q : ByteArray) (m : Nat) : Option (Nat → Res Nd) → Option (Nat → Res Nd) → Prop
  | none, none => True
  | some f, some f' => Like p q m f f' ∧ (∀ i t j, i ≤ p.size → f i = .got t j → i ≤ j ∧ j ≤ p.size) ∧ ∀ i e a, i ≤ p.size → f i = .fault e a → BadF p i e a
  | _, _ => False
theorem Agree.piece_got (A : Agree p q m) {inner inner' : Option (Nat → Res Nd)} (hl : LikeO p q m inner inner') {i j : Nat} {t : Nd} (hi : i < p.size) (h : pieceR p inner i = .got t j) (hj : j < m) : pieceR q inner' i = .got t j := by
  have hfw : ∀ f, inner = some f → ∀ i t j, i ≤ p.size → f i = .got t j → i ≤ j ∧ j ≤ p.size := fun f e => by
    subst e
    cases inner' with
    | none => exact hl.elim
    | some f' => exact hl.2.1
  have hf := pieceR_fwd hfw h hi
  have him : i < m := by omega
  unfold pieceR at h ⊢
  simp only at h ⊢
  rw [← A.at_ i him]
  split at h
  · rename_i h1; rw [if_pos h1]; exact h
  rename_i h1; rw [if_neg h1]
  split at h
  · rename_i h2; rw [if_pos h2]; exact h
  rename_i h2; rw [if_neg h2]
  split at h
  · cases h
  rename_i h3; rw [if_neg h3]
  split at h
  · rename_i h4
    rw [if_pos h4]
    cases inner with
    | none => cases h
    | some f =>
      cases inner' with
      | none => exact hl.elim
      | some f' =>
        simp only at h ⊢
        cases hc : f (i + 1) with
        | fault e a => rw [hc] at h; cases h
        | got u k =>
          rw [hc] at h
          simp only [Res.bind] at h
          have hk := hfw f rfl (i + 1) u k (by omega) hc
          split at h
          · cases h
          · rename_i h5
            have hkj := repeatR_fwd h (by omega)
            rw [hl.1.1 (i + 1) u k (by omega) hc (by omega)]
            simp only [Res.bind]
            rw [if_neg (by have := A.lq; omega)]
            exact A.repeatR (by omega) h hj
  rename_i h4; rw [if_neg h4]
  split at h
  · rename_i h5
    rw [if_pos h5]
    cases hc : Ere.setR p i (i + 1) with
    | fault e a => rw [hc] at h; cases h
    | got u k =>
      rw [hc] at h
      simp only [Res.bind] at h
      have hk := setR_fwd hc
      have hkj := repeatR_fwd h (by omega)
      rw [A.setR (by omega) hc (by omega)]
      simp only [Res.bind]
      exact A.repeatR (by omega) h hj
  rename_i h5; rw [if_neg h5]
  split at h
  · rename_i h6
    rw [if_pos h6]
    exact A.repeatR (by omega) h hj
  rename_i h6; rw [if_neg h6]
  split at h
  · rename_i h7
    rw [if_pos h7]
    split at h
    · rename_i h8
      have h8' := h8
      unfold Ere.oneOf at h8'
      simp only [Bool.and_eq_true, decide_eq_true_eq] at h8'
      have hkj := repeatR_fwd h (by omega)
      rw [A.oneOf (show i + 1 < m by omega), if_pos h8, ← A.at_ (i + 1) (by omega)]
      exact A.repeatR (by omega) h hj
    · cases h
  · rename_i h7
    rw [if_neg h7]
    exact A.repeatR (by omega) h hj
theorem Agree.piece_fault (A : Agree p q m) {inner inner' : Option (Nat → Res Nd)} (hl : LikeO p q m inner inner') {i e a : Nat} (hi : i < p.size) (h : pieceR p inner i = .fault e a) (hg : Good p m e a) : pieceR q inner' i = .fault e a := by
  have hfw : ∀ f, inner = some f → ∀ i t j, i ≤ p.size → f i = .got t j → i ≤ j ∧ j ≤ p.size := fun f e => by
    subst e
    cases inner' with
    | none => exact hl.elim
    | some f' => exact hl.2.1
  have hbd : ∀ f, inner = some f → ∀ i e a, i ≤ p.size → f i = .fault e a → BadF p i e a := fun f e => by
    subst e
    cases inner' with
    | none => exact hl.elim
    | some f' => exact hl.2.2
  have hb := pieceR_bad hfw hbd hi h
  have him : i < m := by have := hg.lt; unfold BadF at hb; omega
  unfold pieceR at h ⊢
  simp only at h ⊢
  rw [← A.at_ i him]
  split at h
  · cases h
  rename_i h1; rw [if_neg h1]
  split at h
  · cases h
  rename_i h2; rw [if_neg h2]
  split at h
  · rename_i h3; rw [if_pos h3]; exact h
  rename_i h3; rw [if_neg h3]
  split at h
  · rename_i h4
    rw [if_pos h4]
    cases inner with
    | none =>
      cases inner' with
      | none => exact h
      | some f' => exact hl.elim
    | some f =>
      cases inner' with
      | none => exact hl.elim
      | some f' =>
        simp only at h ⊢
        cases hc : f (i + 1) with
        | fault e' a' =>
          rw [hc] at h
          simp only [Res.bind] at h
          injection h with h5 h6
          subst h5 h6
          rw [hl.1.2 (i + 1) _ _ (by omega) hc hg]
          rfl
        | got u k =>
          rw [hc] at h
          simp only [Res.bind] at h
          split at h
          · injection h with h5 h6
            subst h5 h6
            unfold Good at hg
            omega
          · have := repeatR_bad h
            unfold Good at hg
            omega
  rename_i h4; rw [if_neg h4]
  split at h
  · cases hc : Ere.setR p i (i + 1) with
    | fault e' a' =>
      rw [hc] at h
      simp only [Res.bind] at h
      injection h with h5 h6
      have := setR_bad (by omega) hc
      unfold Good at hg
      omega
    | got u k =>
      rw [hc] at h
      simp only [Res.bind] at h
      have := repeatR_bad h
      unfold Good at hg
      omega
  rename_i h5; rw [if_neg h5]
  split at h
  · have := repeatR_bad h
    unfold Good at hg
    omega
  rename_i h6; rw [if_neg h6]
  split at h
  · rename_i h7
    rw [if_pos h7]
    split at h
    · have := repeatR_bad h
      unfold Good at hg
      omega
    · rename_i h8
      injection h with h9 h10
      subst h9 h10
      rw [A.oneOf (show i + 1 < m by unfold Good at hg; omega), if_neg h8]
  · have := repeatR_bad h
    unfold Good at hg
    omega
end
end Ere
end Go.Proofs.Ytajainmldcnaeaa
