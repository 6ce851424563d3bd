/- The plain law of groups (union and find): who stands for whom. No program in sight. -/
import Derived.Test.YtgahdookojbbiaaArr
namespace Go.Proofs.Ytgahdookojbbiaa
set_option linter.unusedVariables false
set_option linter.unusedSimpArgs false

/-- t stands for s, k steps above it -/
inductive Top (p : Nat → Nat) : Nat → Nat → Nat → Prop
  | root {t : Nat} : p t = t → Top p t t 0
  | up {s t k : Nat} : p s ≠ s → Top p (p s) t k → Top p s t (k + 1)
section
variable {p q : Nat → Nat} {s t k : Nat}
theorem Top.top (h : Top p s t k) : p t = t := by
  induction h with
  | root h => exact h
  | up _ _ ih => exact ih
theorem Top.one (h : Top p s t k) : ∀ {t' k' : Nat}, Top p s t' k' → t = t' ∧ k = k' := by
  induction h with
  | root h =>
    intro t' k' h'
    cases h' with
    | root _ => exact ⟨rfl, rfl⟩
    | up h2 _ => exact absurd h h2
  | up h _ ih =>
    intro t' k' h'
    cases h' with
    | root h2 => exact absurd h2 h
    | up _ h2 =>
      obtain ⟨e1, e2⟩ := ih h2
      exact ⟨e1, by omega⟩
theorem Top.zero (h : Top p s t 0) : t = s := by cases h; rfl
theorem Top.pred (h : Top p s t k) (hs : p s ≠ s) : ∃ j, k = j + 1 ∧ Top p (p s) t j := by
  cases h with
  | root h => exact absurd h hs
  | up _ h => exact ⟨_, rfl, h⟩
theorem Top.congr {n : Nat} (hn : ∀ i, i < n → p i < n) (he : ∀ i, i < n → q i = p i) (h : Top p s t k) : s < n → Top q s t k := by
  induction h with
  | root h => intro hs; exact .root (by rw [he _ hs]; exact h)
  | @up s t k h _ ih =>
    intro hs
    refine .up (by rw [he _ hs]; exact h) ?_
    rw [he _ hs]
    exact ih (hn _ hs)
/-- half the way: nobody gets another one to stand for him -/
theorem Top.half (hs : p s ≠ s) : ∀ (k u t : Nat), Top p u t k → ∃ k', k' ≤ k ∧ Top (upd p s (p (p s))) u t k' := by
  intro k
  induction k using Nat.strongRecOn with
  | _ k ih =>
    intro u t h
    by_cases hu : p u = u
    · have h0 : Top p u u 0 := .root hu
      obtain ⟨e1, e2⟩ := h.one h0
      subst e1; subst e2
      refine ⟨0, Nat.le_refl _, .root ?_⟩
      rw [upd_ne _ _ (fun e => by subst e; exact hs hu)]
      exact hu
    · obtain ⟨j, rfl, h2⟩ := h.pred hu
      by_cases e : u = s
      · subst e
        by_cases hv : p (p u) = p u
        · have h0 : Top p (p u) (p u) 0 := .root hv
          obtain ⟨e1, e2⟩ := h2.one h0
          subst e1; subst e2
          refine ⟨1, by omega, .up ?_ ?_⟩
          · rw [upd_self, hv]; exact hu
          · rw [upd_self, hv]
            exact .root (by rw [upd_ne _ _ (fun e => hu e)]; exact hv)
        · obtain ⟨i, rfl, h3⟩ := h2.pred hv
          have hne : p (p u) ≠ u := by
            intro e
            rw [e] at h3
            have := (h.one h3).2
            omega
          obtain ⟨k', hk', h4⟩ := ih i (by omega) _ _ h3
          refine ⟨k' + 1, by omega, .up ?_ ?_⟩
          · rw [upd_self]; exact hne
          · rw [upd_self]; exact h4
      · obtain ⟨k', hk', h4⟩ := ih j (by omega) _ _ h2
        refine ⟨k' + 1, by omega, .up ?_ ?_⟩
        · rw [upd_ne _ _ e]; exact hu
        · rw [upd_ne _ _ e]; exact h4
/-- one that stands for others gets one above -/
theorem Top.link {x y : Nat} (hx : p x = x) (hy : p y = y) (hne : x ≠ y) (h : Top p s t k) : ∃ k', Top (upd p x y) s (if t = x then y else t) k' := by
  induction h with
  | @root t h =>
    by_cases e : t = x
    · rw [if_pos e]
      subst e
      refine ⟨1, .up (by rw [upd_self]; exact hne.symm) ?_⟩
      rw [upd_self]
      exact .root (by rw [upd_ne _ _ hne.symm]; exact hy)
    · rw [if_neg e]
      exact ⟨0, .root (by rw [upd_ne _ _ e]; exact h)⟩
  | @up s t k h _ ih =>
    obtain ⟨k', h2⟩ := ih
    have e : s ≠ x := fun e => by subst e; exact h hx
    refine ⟨k' + 1, .up (by rw [upd_ne _ _ e]; exact h) ?_⟩
    rw [upd_ne _ _ e]
    exact h2
end
open Classical in
noncomputable def dpt (p : Nat → Nat) (s : Nat) : Nat := if h : ∃ k t, Top p s t k then Classical.choose h else 0
theorem dpt_eq {p : Nat → Nat} {s t k : Nat} (h : Top p s t k) : dpt p s = k := by
  have hex : ∃ k t, Top p s t k := ⟨k, t, h⟩
  unfold dpt
  rw [dif_pos hex]
  obtain ⟨t', h'⟩ := Classical.choose_spec hex
  exact (h'.one h).2
/-- the parents as numbers, and who stands for whom -/
structure UF (n : Nat) (G : Nat → Int) (rt : Nat → Nat) : Prop where
  lo : ∀ s, s < n → 0 ≤ G s ∧ G s < n
  top : ∀ s, s < n → rt s < n ∧ ∃ k, Top (fun i => (G i).toNat) s (rt s) k
section
variable {n : Nat} {G : Nat → Int} {rt : Nat → Nat}
theorem UF.root (h : UF n G rt) {s : Nat} (hs : s < n) : G (rt s) = (rt s : Nat) := by
  obtain ⟨h1, k, h2⟩ := h.top s hs
  have h3 : (G (rt s)).toNat = rt s := h2.top
  have h4 := h.lo _ h1
  omega
theorem UF.idem (h : UF n G rt) {s : Nat} (hs : s < n) : rt (rt s) = rt s := by
  obtain ⟨h1, k, h2⟩ := h.top s hs
  obtain ⟨_, k2, h3⟩ := h.top _ h1
  exact (h3.one (.root h2.top)).1
theorem UF.is (h : UF n G rt) {s : Nat} (hs : s < n) (hg : G s = (s : Nat)) : rt s = s := by
  obtain ⟨h1, k, h2⟩ := h.top s hs
  exact (h2.one (.root (by show (G s).toNat = s; omega))).1
theorem UF.start (n : Nat) : UF n (fun i => (i : Nat)) (fun i => i) := ⟨fun s hs => by omega, fun s hs => ⟨hs, 0, .root (by simp)⟩⟩
theorem upd_nat (G : Nat → Int) (s m : Nat) : (fun i => (upd G s (m : Nat) i).toNat) = upd (fun i => (G i).toNat) s m := by
  funext i
  unfold upd
  by_cases e : i = s
  · simp [e]
  · simp [e]
/-- half the way -/
theorem UF.half (h : UF n G rt) {s m : Nat} (hs : s < n) (hne : G s ≠ (s : Nat)) (hm : G (G s).toNat = (m : Nat)) : UF n (upd G s (m : Nat)) rt := by
  have h1 := h.lo s hs
  have h2 := h.lo (G s).toNat (by omega)
  refine ⟨fun i hi => ?_, fun i hi => ?_⟩
  · unfold upd
    by_cases e : i = s
    · rw [if_pos e]; omega
    · rw [if_neg e]; exact h.lo i hi
  · obtain ⟨h3, k, h4⟩ := h.top i hi
    refine ⟨h3, ?_⟩
    rw [upd_nat]
    obtain ⟨k', _, h5⟩ := h4.half (p := fun i => (G i).toNat) (s := s) (by show (G s).toNat ≠ s; omega)
    have e : (G (G s).toNat).toNat = m := by omega
    simp only [e] at h5
    exact ⟨k', h5⟩
theorem UF.depth (h : UF n G rt) {s m : Nat} (hs : s < n) (hne : G s ≠ (s : Nat)) (hm : G (G s).toNat = (m : Nat)) : m < n ∧ rt m = rt s ∧ dpt (fun i => (upd G s (m : Nat) i).toNat) m < dpt (fun i => (G i).toNat) s := by
  have h1 := h.lo s hs
  have h2 := h.lo (G s).toNat (by omega)
  have hmn : m < n := by omega
  have hp : (fun i => (G i).toNat) s ≠ s := by show (G s).toNat ≠ s; omega
  obtain ⟨_, k, h4⟩ := h.top s hs
  obtain ⟨j, rfl, h5⟩ := h4.pred hp
  have hmm : (fun i => (G i).toNat) ((fun i => (G i).toNat) s) = m := by show (G (G s).toNat).toNat = m; omega
  have key : ∃ i, i ≤ j ∧ Top (fun i => (G i).toNat) m (rt s) i := by
    by_cases hv : (fun i => (G i).toNat) ((fun i => (G i).toNat) s) = (fun i => (G i).toNat) s
    · refine ⟨j, Nat.le_refl _, ?_⟩
      rw [← hmm, hv]
      exact h5
    · obtain ⟨i, rfl, h6⟩ := h5.pred hv
      have h6' : Top (fun i => (G i).toNat) ((fun i => (G i).toNat) ((fun i => (G i).toNat) s)) (rt s) i := h6
      rw [hmm] at h6'
      exact ⟨i, by omega, h6'⟩
  obtain ⟨i, hij, h6⟩ := key
  refine ⟨hmn, ?_, ?_⟩
  · obtain ⟨_, k2, h7⟩ := h.top m hmn
    exact (h7.one h6).1
  · rw [dpt_eq h4, upd_nat]
    obtain ⟨k', hk', h7⟩ := h6.half (s := s) hp
    have h7' : Top (upd (fun i => (G i).toNat) s ((fun i => (G i).toNat) ((fun i => (G i).toNat) s))) m (rt s) k' := h7
    rw [hmm] at h7'
    rw [dpt_eq h7']
    omega
/-- two groups made one -/
def merge (rt : Nat → Nat) (a b u : Nat) : Nat := if rt u = rt a then rt b else rt u
theorem UF.link (h : UF n G rt) {a b : Nat} (ha : a < n) (hb : b < n) (hne : rt a ≠ rt b) : UF n (upd G (rt a) (rt b : Nat)) (merge rt a b) := by
  have h1 := (h.top a ha).1
  have h2 := (h.top b hb).1
  refine ⟨fun i hi => ?_, fun i hi => ?_⟩
  · unfold upd
    by_cases e : i = rt a
    · rw [if_pos e]; omega
    · rw [if_neg e]; exact h.lo i hi
  · obtain ⟨h3, k, h4⟩ := h.top i hi
    rw [upd_nat]
    obtain ⟨k', h5⟩ := h4.link (x := rt a) (y := rt b) (by show (G (rt a)).toNat = _; rw [h.root ha]; omega) (by show (G (rt b)).toNat = _; rw [h.root hb]; omega) hne
    refine ⟨?_, k', h5⟩
    unfold merge
    split
    · exact h2
    · exact h3
theorem UF.stay (h : UF n G rt) {a : Nat} (ha : a < n) : UF n (upd G (rt a) (rt a : Nat)) rt := by
  have e : ∀ i, i < n → upd G (rt a) (rt a : Nat) i = G i := fun i hi => by
    unfold upd
    by_cases e : i = rt a
    · rw [if_pos e, e, h.root ha]
    · rw [if_neg e]
  refine ⟨fun i hi => by rw [e i hi]; exact h.lo i hi, fun i hi => ?_⟩
  obtain ⟨h3, k, h4⟩ := h.top i hi
  exact ⟨h3, k, Top.congr (n := n) (fun i hi => by have := h.lo i hi; show (G i).toNat < n; omega) (fun i hi => by show (upd G (rt a) _ i).toNat = _; rw [e i hi]) h4 hi⟩
theorem merge_self {rt : Nat → Nat} {a b : Nat} (h : rt a = rt b) : merge rt a b = rt := by
  funext u
  unfold merge
  split
  · rename_i e; rw [e, h]
  · rfl
/-- a group fewer -/
theorem merge_count (h : UF n G rt) {a b : Nat} (ha : a < n) (hb : b < n) (hne : rt a ≠ rt b) : cntF (fun u => decide (merge rt a b u = u)) n < cntF (fun u => decide (rt u = u)) n := by
  refine cntF_lt (j := rt a) (fun i hi hp => ?_) (h.top a ha).1 ?_ ?_
  · have hp := of_decide_eq_true hp
    refine decide_eq_true ?_
    unfold merge at hp
    split at hp
    · rename_i e
      rw [← hp, h.idem hb]
    · exact hp
  · refine decide_eq_false ?_
    unfold merge
    rw [if_pos (h.idem ha)]
    exact hne.symm
  · exact decide_eq_true (h.idem ha)
end
def intAt2 (w : World) (g i : Nat) : Int := match w.cell? ⟨g, i, none⟩ with | some (.int _ z) => z | _ => 0
theorem intAt2_blk {w : World} {g n : Nat} {t : TypeId} {K : Nat → Int} (h : Blk w g t (arr eZ n K)) {i : Nat} (hi : i < n) : intAt2 w g i = K i := by
  unfold intAt2
  rw [blk_arrv h hi]
  rfl
theorem dpt_blk {w : World} {g n : Nat} {t : TypeId} {G : Nat → Int} {rt : Nat → Nat} (hb : Blk w g t (arr eZ n G)) (h : UF n G rt) {s : Nat} (hs : s < n) : dpt (fun i => (intAt2 w g i).toNat) s = dpt (fun i => (G i).toNat) s := by
  obtain ⟨_, k, h2⟩ := h.top s hs
  rw [dpt_eq h2]
  exact dpt_eq (Top.congr (n := n) (fun i hi => by have := h.lo i hi; show (G i).toNat < n; omega) (fun i hi => by show (intAt2 w g i).toNat = _; rw [intAt2_blk hb hi]) h2 hs)
end Go.Proofs.Ytgahdookojbbiaa
