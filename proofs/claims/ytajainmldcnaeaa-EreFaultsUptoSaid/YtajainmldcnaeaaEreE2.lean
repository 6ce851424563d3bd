/- A fault met from the left stands whatever comes behind it: the plain law of EreFaults. No condition beyond those named in each lemma. -/
import Derived.Test.YtajainmldcnaeaaEreE
namespace Go.Proofs.Ytajainmldcnaeaa
set_option linter.unusedVariables false
set_option linter.unusedSimpArgs false

namespace Ere
section
variable {p q : ByteArray} {m : Nat}
theorem Agree.alt_got (A : Agree p q m) {top : Bool} {pc pc' : Nat → Res Nd} (hfw : ∀ i t j, i < p.size → pc i = .got t j → i < j ∧ j ≤ p.size) (hpc : ∀ i t j, i < p.size → pc i = .got t j → j < m → pc' i = .got t j) :
    ∀ n n' i l t j, i ≤ p.size → altR p top pc n i l = .got t j → j < m → j + 1 ≤ n' + i → altR q top pc' n' i l = .got t j
  | 0, _, _, _, _, _, _, h, _, _ => by cases h
  | n + 1, n', i, l, t, j, hi, h, hj, hn => by
    have hf := altR_fwd hfw _ _ _ _ _ hi h
    obtain ⟨n', rfl⟩ : ∃ c, n' = c + 1 := ⟨n' - 1, by omega⟩
    unfold altR at h ⊢
    rw [A.isAt (show i < m by omega), A.isAt (show i < m by omega), decide_eq_false (show ¬ q.size ≤ i by have := A.lq; omega)]
    rw [decide_eq_false (show ¬ p.size ≤ i by have := A.lp; omega)] at h
    split at h
    · rename_i h1; rw [if_pos h1]; exact h
    rename_i h1; rw [if_neg h1]
    split at h
    · rename_i h2; rw [if_pos h2]; exact h
    rename_i h2; rw [if_neg h2]
    cases hc : pc i with
    | fault e a => rw [hc] at h; cases h
    | got u k =>
      rw [hc] at h
      simp only [Res.bind] at h
      have hk := hfw i u k (by have := A.lp; omega) hc
      have hkj := altR_fwd hfw _ _ _ _ _ hk.2 h
      rw [hpc i u k (by have := A.lp; omega) hc (by omega)]
      simp only [Res.bind]
      exact A.alt_got hfw hpc n n' k (l ++ [u]) t j hk.2 h hj (by omega)
theorem Agree.alt_fault (A : Agree p q m) {top : Bool} {pc pc' : Nat → Res Nd} (hfw : ∀ i t j, i < p.size → pc i = .got t j → i < j ∧ j ≤ p.size) (hbad : ∀ i e a, i < p.size → pc i = .fault e a → BadF p i e a)
    (hpc : ∀ i t j, i < p.size → pc i = .got t j → j < m → pc' i = .got t j) (hpf : ∀ i e a, i < p.size → pc i = .fault e a → Good p m e a → pc' i = .fault e a) :
    ∀ n n' i l e a, p.size + 1 ≤ n + i → i ≤ p.size → altR p top pc n i l = .fault e a → Good p m e a → a + 1 ≤ n' + i → altR q top pc' n' i l = .fault e a
  | 0, _, i, _, _, _, hn, hi, _, _, _ => by omega
  | n + 1, n', i, l, e, a, hn, hi, h, hg, hn' => by
    have hb := altR_bad hfw hbad _ _ _ _ _ hn hi h
    unfold BadF at hb
    have ham := hg.lt
    obtain ⟨n', rfl⟩ : ∃ c, n' = c + 1 := ⟨n' - 1, by omega⟩
    unfold altR at h ⊢
    rw [A.isAt (show i < m by omega), A.isAt (show i < m by omega), decide_eq_false (show ¬ q.size ≤ i by have := A.lq; omega)]
    rw [decide_eq_false (show ¬ p.size ≤ i by have := A.lp; omega)] at h
    split at h
    · cases h
    rename_i h1; rw [if_neg h1]
    split at h
    · rename_i h2; rw [if_pos h2]; exact h
    rename_i h2; rw [if_neg h2]
    cases hc : pc i with
    | fault e' a' =>
      rw [hc] at h
      simp only [Res.bind] at h
      injection h with h5 h6
      subst h5 h6
      rw [hpf i _ _ (by have := A.lp; omega) hc hg]
      rfl
    | got u k =>
      rw [hc] at h
      simp only [Res.bind] at h
      have hk := hfw i u k (by have := A.lp; omega) hc
      have hkb := altR_bad hfw hbad n k (l ++ [u]) e a (by omega) hk.2 h
      unfold BadF at hkb
      rw [hpc i u k (by have := A.lp; omega) hc (by omega)]
      simp only [Res.bind]
      exact A.alt_fault hfw hbad hpc hpf n n' k (l ++ [u]) e a (by omega) hk.2 h hg (by omega)
theorem Agree.patL_got (A : Agree p q m) {al al' : Nat → Res Nd} (hfw : ∀ i t j, i ≤ p.size → al i = .got t j → i ≤ j ∧ j ≤ p.size) (hal : ∀ i t j, i ≤ p.size → al i = .got t j → j < m → al' i = .got t j) :
    ∀ n n' i l t j, i ≤ p.size → patL p al n i l = .got t j → j < m → j + 1 ≤ n' + i → patL q al' n' i l = .got t j
  | 0, _, _, _, _, _, _, h, _, _ => by cases h
  | n + 1, n', i, l, t, j, hi, h, hj, hn => by
    have hf := patL_fwd hfw _ _ _ _ _ hi h
    obtain ⟨n', rfl⟩ : ∃ c, n' = c + 1 := ⟨n' - 1, by omega⟩
    unfold patL at h ⊢
    cases hc : al i with
    | fault e a => rw [hc] at h; cases h
    | got u k =>
      rw [hc] at h
      simp only [Res.bind] at h
      have hk := hfw i u k hi hc
      have hkj : k ≤ j := by
        split at h
        · rename_i h1
          have := isAt_lt h1
          have := patL_fwd hfw _ _ _ _ _ (by omega) h
          omega
        · injection h with _ h; omega
      rw [hal i u k hi hc (by omega)]
      simp only [Res.bind]
      rw [A.isAt (show k < m by omega)]
      split at h
      · rename_i h1
        have := isAt_lt h1
        rw [if_pos h1]
        exact A.patL_got hfw hal n n' (k + 1) (l ++ [u]) t j (by omega) h hj (by omega)
      · rename_i h1
        rw [if_neg h1]
        exact h
theorem Agree.patL_fault (A : Agree p q m) {al al' : Nat → Res Nd} (hfw : ∀ i t j, i ≤ p.size → al i = .got t j → i ≤ j ∧ j ≤ p.size) (hbad : ∀ i e a, i ≤ p.size → al i = .fault e a → BadF p i e a)
    (hal : ∀ i t j, i ≤ p.size → al i = .got t j → j < m → al' i = .got t j) (haf : ∀ i e a, i ≤ p.size → al i = .fault e a → Good p m e a → al' i = .fault e a) :
    ∀ n n' i l e a, p.size + 1 ≤ n + i → i ≤ p.size → patL p al n i l = .fault e a → Good p m e a → a + 1 ≤ n' + i → patL q al' n' i l = .fault e a
  | 0, _, i, _, _, _, hn, hi, _, _, _ => by omega
  | n + 1, n', i, l, e, a, hn, hi, h, hg, hn' => by
    have hb := patL_bad hfw hbad _ _ _ _ _ hn hi h
    unfold BadF at hb
    have ham := hg.lt
    obtain ⟨n', rfl⟩ : ∃ c, n' = c + 1 := ⟨n' - 1, by omega⟩
    unfold patL at h ⊢
    cases hc : al i with
    | fault e' a' =>
      rw [hc] at h
      simp only [Res.bind] at h
      injection h with h5 h6
      subst h5 h6
      rw [haf i _ _ hi hc hg]
      rfl
    | got u k =>
      rw [hc] at h
      simp only [Res.bind] at h
      have hk := hfw i u k hi hc
      split at h
      · rename_i h1
        have hks := isAt_lt h1
        have hkb := patL_bad hfw hbad n (k + 1) (l ++ [u]) e a (by omega) (by omega) h
        unfold BadF at hkb
        rw [hal i u k hi hc (by omega)]
        simp only [Res.bind]
        rw [A.isAt (show k < m by omega), if_pos h1]
        exact A.patL_fault hfw hbad hal haf n n' (k + 1) (l ++ [u]) e a (by omega) (by omega) h hg (by omega)
      · cases h
theorem Agree.layer (A : Agree p q m) {inner inner' : Option (Nat → Res Nd)} (hl : LikeO p q m inner inner') (top : Bool) :
    Like p q m (fun i => patL p (fun i => altR p top (pieceR p inner) (p.size + 2) i []) (p.size + 2) i []) (fun i => patL q (fun i => altR q top (pieceR q inner') (q.size + 2) i []) (q.size + 2) i []) := by
  have hfw : ∀ f, inner = some f → ∀ i t j, i ≤ p.size → f i = .got t j → i ≤ j ∧ j ≤ p.size := fun f e => by
    subst e
    cases inner' with
    | none => exact hl.elim
    | some f' => exact hl.2.1
  have hbd : ∀ f, inner = some f → ∀ i e a, i ≤ p.size → f i = .fault e a → BadF p i e a := fun f e => by
    subst e
    cases inner' with
    | none => exact hl.elim
    | some f' => exact hl.2.2
  have pf : ∀ i t j, i < p.size → pieceR p inner i = .got t j → i < j ∧ j ≤ p.size := fun i t j hi h => pieceR_fwd hfw h hi
  have pb : ∀ i e a, i < p.size → pieceR p inner i = .fault e a → BadF p i e a := fun i e a hi h => pieceR_bad hfw hbd hi h
  have af : ∀ i t j, i ≤ p.size → altR p top (pieceR p inner) (p.size + 2) i [] = .got t j → i ≤ j ∧ j ≤ p.size := fun i t j hi h => altR_fwd pf _ _ _ _ _ hi h
  have ab : ∀ i e a, i ≤ p.size → altR p top (pieceR p inner) (p.size + 2) i [] = .fault e a → BadF p i e a := fun i e a hi h => altR_bad pf pb _ _ _ _ _ (by omega) hi h
  have ag : ∀ i t j, i ≤ p.size → altR p top (pieceR p inner) (p.size + 2) i [] = .got t j → j < m → altR q top (pieceR q inner') (q.size + 2) i [] = .got t j := fun i t j hi h hj => A.alt_got pf (fun i t j hi h hj => A.piece_got hl hi h hj) _ _ _ _ _ _ hi h hj (by have := A.lq; omega)
  have afl : ∀ i e a, i ≤ p.size → altR p top (pieceR p inner) (p.size + 2) i [] = .fault e a → Good p m e a → altR q top (pieceR q inner') (q.size + 2) i [] = .fault e a := fun i e a hi h hg => A.alt_fault pf pb (fun i t j hi h hj => A.piece_got hl hi h hj) (fun i e a hi h hg => A.piece_fault hl hi h hg) _ _ _ _ _ _ (by omega) hi h hg (by have := hg.lt; have := A.lq; omega)
  exact ⟨fun i t j hi h hj => A.patL_got af ag _ _ _ _ _ _ hi h hj (by have := A.lq; omega), fun i e a hi h hg => A.patL_fault af ab ag afl _ _ _ _ _ _ (by omega) hi h hg (by have := hg.lt; have := A.lq; omega)⟩
theorem Agree.patR (A : Agree p q m) : ∀ n, Like p q m (patR p n) (patR q n)
  | 0 => by
    have := A.layer (inner := none) (inner' := none) trivial false
    exact this
  | n + 1 => by
    have := A.layer (inner := some (Ere.patR p n)) (inner' := some (Ere.patR q n)) ⟨A.patR n, patR_fwd n, patR_bad n⟩ (decide (n + 1 = 64))
    exact this
end
theorem nlAt_all {p : ByteArray} (h : ∀ k, k < p.size → chr p k ≠ 10) : nlAt p (p.size + 1) 0 = none := by
  cases hc : nlAt p (p.size + 1) 0 with
  | none => rfl
  | some j =>
    have := nlAt_some p _ _ _ hc
    exact absurd this.2.2.1 (h j this.2.1)
theorem chr_append (p t : ByteArray) (n k : Nat) (hn : n ≤ p.size) : chr (p.extract 0 n ++ t) k = if k < n then chr p k else chr t (k - n) := by
  have hs : (p.extract 0 n).size = n := by simp; omega
  unfold chr
  by_cases hk : k < n
  · rw [if_pos hk, dif_pos (by rw [ByteArray.size_append]; omega), dif_pos (by omega)]
    rw [ByteArray.getElem_append_left (by omega), ByteArray.getElem_extract]
    simp
  · rw [if_neg hk]
    by_cases h2 : k - n < t.size
    · rw [dif_pos (by rw [ByteArray.size_append]; omega), dif_pos h2]
      rw [ByteArray.getElem_append_right (by omega)]
      simp only [hs]
    · rw [dif_neg (by rw [ByteArray.size_append]; omega), dif_neg h2]
theorem faults_hold (p tl : ByteArray) (mm : Nat) (hm : ((parseR p).2.2 = 44 ∨ (parseR p).2.2 = 47) ∧ mm = 1 ∨ (parseR p).2.2 = 46 ∧ mm = 2 ∨ ((parseR p).2.2 = 42 ∧ (parseR p).2.1 < p.size ∧ chr p (parseR p).2.1 = 41) ∧ mm = 1)
    (hnl : ∀ k, k < tl.size → chr tl k ≠ 10) (h1 : (parseR p).2.1 + mm ≤ p.size) (h2 : (parseR p).2.1 + mm + tl.size ≤ 1024) :
    (parseR (p.extract 0 ((parseR p).2.1 + mm) ++ tl)).2 = (parseR p).2 := by
  obtain ⟨n, hn⟩ : ∃ n, (parseR p).2.1 + mm = n := ⟨_, rfl⟩
  rw [hn] at h1 h2 ⊢
  obtain ⟨q, hq⟩ : ∃ q, p.extract 0 n ++ tl = q := ⟨_, rfl⟩
  have hqs : q.size = n + tl.size := by rw [← hq, ByteArray.size_append]; simp; omega
  have hqc : ∀ k, chr q k = if k < n then chr p k else chr tl (k - n) := fun k => by rw [← hq]; exact chr_append p tl n k h1
  have A : Agree p q n := ⟨h1, by omega, fun k hk => by rw [hqc, if_pos hk]⟩
  rw [hq]
  have hb := parse_bad p
  obtain ⟨R, hR⟩ : ∃ R, parseR p = R := ⟨_, rfl⟩
  rw [hR] at hm hn ⊢
  clear hb
  unfold parseR at hR
  split at hR
  · subst hR; simp only at hm; omega
  · rename_i hps
    split at hR
    · subst hR; simp only at hm; omega
    · rename_i hpn
      split at hR
      · rename_i e a he
        subst hR
        simp only at hm hn
        have hg : Good p n e a := by
          unfold Good
          omega
        have hq2 := (A.patR 64).2 0 e a (by omega) he hg
        have hqn : nlAt q (q.size + 1) 0 = none := nlAt_all fun k hk => by
          rw [hqc]
          split
          · exact nlAt_none p (p.size + 1) 0 (by omega) hpn k (by omega) (by omega)
          · exact hnl _ (by omega)
        unfold parseR
        rw [if_neg (by omega), hqn]
        simp only [hq2]
      · split at hR
        · subst hR; simp only at hm; omega
        · subst hR; simp only at hm; omega
end Ere
end Go.Proofs.Ytajainmldcnaeaa
