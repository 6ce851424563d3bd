/- Part 9 of a proof; packed: the texts that it was made of follow one another. No condition beyond those named in each lemma. -/
import Derived.Test.YtkedgombccdamaaDoorPs1
import Derived.Test.YtkedgombccdamaaDoorPs2
import Derived.Test.YtkedgombccdamaaDoorPs7
import Derived.Test.YtkedgombccdamaaDoorPs8
import Derived.Test.YtkedgombccdamaaDoorRows
import Derived.Below
import Derived.ChangeOld
import Derived.Deep.Slices
import Derived.OpenShut
import Derived.OrdersIn
import Derived.ProofKit
import Derived.RangeFuncBound
import Derived.RangeFuncCalls
import Derived.RangeFuncLeaves
import Derived.RangeFuncNested
import Derived.ShutString
import Derived.SizedLaws
namespace Go.Proofs.YtkedgombccdamaaDoor
set_option linter.unusedVariables false
set_option linter.unusedSimpArgs false

namespace Mt
/-- a walk behind k bytes of the line -/
noncomputable def wkAt (E : List Edg) (N : Nat) (R : List Nat) (q : ByteArray) : Nat → Wk
  | 0 => begW E N R
  | k + 1 => byteW E N R (wkAt E N R q k) (Ere.chr q k)
section
variable {E : List Edg} {N : Nat} {R : List Nat} {q : ByteArray}
/-- the places ahead of the free moves, where the line does not end yet -/
noncomputable def wpre (E : List Edg) (N : Nat) (q : ByteArray) : Nat → Nat
  | 0 => 1
  | k + 1 => byteN E N (spreadN E N (decide (k = 0)) false (wpre E N q k)) (Ere.chr q k)
theorem wpre_eq (E : List Edg) (N : Nat) (q : ByteArray) : ∀ k, k ≤ q.size → wpre E N q k = mpre E N q k
  | 0, _ => rfl
  | k + 1, h => by
    unfold wpre mpre
    rw [wpre_eq E N q k (by omega), decide_eq_false (show ¬ k = q.size by omega)]
theorem wk_at (E : List Edg) (N : Nat) (R : List Nat) (q : ByteArray) : ∀ k, (wkAt E N R q k).at_ = spreadN E N (decide (k = 0)) false (wpre E N q k) ∧ (wkAt E N R q k).first = decide (k = 0)
  | 0 => ⟨rfl, rfl⟩
  | k + 1 => by
    have h := (wk_at E N R q k).1
    refine ⟨?_, by simp [wkAt, byteW]⟩
    show spreadN E N false false (byteN E N (wkAt E N R q k).at_ (Ere.chr q k)) = _
    rw [h]
    rfl
/-- what is met behind k bytes -/
theorem wk_met (E : List Edg) (N : Nat) (R : List Nat) (q : ByteArray) (j : Nat) : ∀ k, (wkAt E N R q k).met.testBit j = true ↔ ∃ i, i ≤ k ∧ (metN R (spreadN E N (decide (i = 0)) false (wpre E N q i)) N).testBit j = true
  | 0 => by
    constructor
    · intro h; exact ⟨0, Nat.le_refl _, h⟩
    · rintro ⟨i, hi, h⟩
      obtain rfl : i = 0 := by omega
      exact h
  | k + 1 => by
    have ih := wk_met E N R q j k
    have ha := (wk_at E N R q (k + 1)).1
    have hm : (wkAt E N R q (k + 1)).met = (wkAt E N R q k).met ||| metN R (wkAt E N R q (k + 1)).at_ N := rfl
    rw [hm, Nat.testBit_or, Bool.or_eq_true, ih, ha]
    constructor
    · rintro (⟨i, h1, h2⟩ | h)
      · exact ⟨i, by omega, h2⟩
      · exact ⟨k + 1, Nat.le_refl _, h⟩
    · rintro ⟨i, h1, h2⟩
      by_cases e : i = k + 1
      · subst e; exact .inr h2
      · exact .inl ⟨i, by omega, h2⟩
theorem wk_grows (E : List Edg) (N : Nat) (R : List Nat) (q : ByteArray) {k d : Nat} (h : k ≤ d) (j : Nat) (hj : (wkAt E N R q k).met.testBit j = true) : (wkAt E N R q d).met.testBit j = true := by
  rw [wk_met] at hj ⊢
  obtain ⟨i, h1, h2⟩ := hj
  exact ⟨i, by omega, h2⟩
theorem reach_more {b e : Bool} {x i : Nat} (h : Reach E b e x i) : Reach E b true x i := by
  induction h with
  | base h => exact .base h
  | step hd hm _ ih =>
    refine .step hd ?_ ih
    unfold may at hm ⊢
    revert hm
    cases e <;> simp (config := { contextual := true })
theorem spread_true (hE : ∀ d ∈ E, 0 ≤ d.tt ∧ d.tt < N) {b : Bool} {x : Nat} (hx : below x N) : spreadN E N b true (spreadN E N b false x) = spreadN E N b true x := by
  apply bits_ext
  intro i
  rw [spread_bit hE (spread_below _ _ _ _ _), spread_bit hE hx]
  constructor
  · intro h
    induction h with
    | base h => exact reach_more ((spread_bit hE hx _).1 h)
    | step hd hm _ ih => exact .step hd hm ih
  · intro h
    induction h with
    | base h => exact .base ((spread_bit hE hx _).2 (.base h))
    | step hd hm _ ih => exact .step hd hm ih
theorem wpre_below (hN : 1 ≤ N) (q : ByteArray) {k : Nat} (hk : k ≤ q.size) : below (wpre E N q k) N := by
  rw [wpre_eq E N q k hk]
  exact mpre_below hN q k
/-- at the line's end -/
theorem endW_mV (hN : 1 ≤ N) (hE : ∀ d ∈ E, 0 ≤ d.tt ∧ d.tt < N) (R : List Nat) (q : ByteArray) : endW E N R (wkAt E N R q q.size) = mV E R N q (q.size + 1) := by
  apply bits_ext
  intro j
  obtain ⟨h1, h2⟩ := wk_at E N R q q.size
  unfold endW
  rw [h1, h2, Nat.testBit_or, Bool.or_eq_true, wk_met, spread_true hE (wpre_below hN q (Nat.le_refl _)), mV_bit]
  have hlast : spreadN E N (decide (q.size = 0)) true (wpre E N q q.size) = mx E N q q.size := by
    unfold mx
    rw [wpre_eq E N q _ (Nat.le_refl _), decide_eq_true (rfl : q.size = q.size)]
  have hin : ∀ i, i < q.size → spreadN E N (decide (i = 0)) false (wpre E N q i) = mx E N q i := fun i hi => by
    unfold mx
    rw [wpre_eq E N q _ (by omega), decide_eq_false (show ¬ i = q.size by omega)]
  rw [hlast]
  constructor
  · rintro (⟨i, hi, h⟩ | h)
    · by_cases hl : i < q.size
      · rw [hin i hl, met_bit] at h
        obtain ⟨n, a1, a2, a3⟩ := h
        exact ⟨i, n, by omega, a1, a2, a3⟩
      · obtain rfl : i = q.size := by omega
        rw [met_bit] at h
        obtain ⟨n, a1, a2, a3⟩ := h
        refine ⟨q.size, n, by omega, a1, ?_, a3⟩
        rw [← hlast, spread_bit hE (wpre_below hN q (Nat.le_refl _))]
        rw [spread_bit hE (wpre_below hN q (Nat.le_refl _))] at a2
        exact reach_more a2
    · rw [met_bit] at h
      obtain ⟨n, a1, a2, a3⟩ := h
      exact ⟨q.size, n, by omega, a1, a2, a3⟩
  · rintro ⟨i, n, a0, a1, a2, a3⟩
    by_cases hl : i < q.size
    · left
      refine ⟨i, by omega, ?_⟩
      rw [hin i hl, met_bit]
      exact ⟨n, a1, a2, a3⟩
    · right
      obtain rfl : i = q.size := by omega
      rw [met_bit]
      exact ⟨n, a1, a2, a3⟩
end
end Mt
end Go.Proofs.YtkedgombccdamaaDoor
namespace Go.Proofs.YtkedgombccdamaaDoor
set_option linter.unusedVariables false
set_option linter.unusedSimpArgs false

namespace Ere
/-- q holds p from place a on, and no repeat stands behind it -/
structure Emb (p q : ByteArray) (a : Nat) : Prop where
  le : a + p.size ≤ q.size
  at_ : ∀ k, k < p.size → chr q (a + k) = chr p k
  fol : ∀ c, c = 42 ∨ c = 43 ∨ c = 63 ∨ c = 123 → isAt q (a + p.size) c = false
section
variable {p q : ByteArray} {a : Nat}
theorem Emb.isAt (A : Emb p q a) {k c : Nat} (h : k < p.size) : isAt q (a + k) c = isAt p k c := by
  unfold Ere.isAt
  rw [A.at_ k h, decide_eq_true h, decide_eq_true (show a + k < q.size by have := A.le; omega)]
theorem Emb.isAtR (A : Emb p q a) {k c : Nat} (h : k ≤ p.size) (hc : c = 42 ∨ c = 43 ∨ c = 63 ∨ c = 123) : Ere.isAt q (a + k) c = Ere.isAt p k c := by
  by_cases hk : k < p.size
  · exact A.isAt hk
  · obtain rfl : k = p.size := by omega
    rw [A.fol c hc]
    unfold Ere.isAt
    rw [decide_eq_false (by omega), Bool.false_and]
theorem Emb.oneOf (A : Emb p q a) {k : Nat} {l : List Nat} (h : k < p.size) : oneOf q (a + k) l = oneOf p k l := by
  unfold Ere.oneOf
  rw [A.at_ k h, decide_eq_true h, decide_eq_true (show a + k < q.size by have := A.le; omega)]
theorem Emb.digits (A : Emb p q a) : ∀ k i n c, (digits p k i n c).2.1 < p.size → digits q k (a + i) n c = ((digits p k i n c).1, a + (digits p k i n c).2.1, (digits p k i n c).2.2)
  | 0, i, n, c, h => rfl
  | k + 1, i, n, c, h => by
    have hi : i < p.size := by
      have := (digits_le p (k + 1) i n c).2
      omega
    unfold Ere.digits at h ⊢
    rw [decide_eq_true hi] at h ⊢
    rw [decide_eq_true (show a + i < q.size by have := A.le; omega), A.at_ i hi]
    split
    · rename_i h1
      rw [if_pos h1] at h
      exact A.digits k (i + 1) _ _ h
    · rfl
theorem Emb.countsR (A : Emb p q a) {i j : Nat} {c : Nat × Int} (h : countsR p i = .got c j) : countsR q (a + i) = .got c (a + j) := by
  have hf := countsR_fwd h
  have e1 := A.digits 4 (i + 1) 0 0
  have e2 := A.digits 4 ((Ere.digits p 4 (i + 1) 0 0).2.1 + 1) 0 0
  have l2 := (digits_le p 4 ((Ere.digits p 4 (i + 1) 0 0).2.1 + 1) 0 0).2
  unfold Ere.countsR at h ⊢
  simp only at h ⊢
  obtain ⟨⟨d1, d2, d3⟩, hd⟩ : ∃ d, Ere.digits p 4 (i + 1) 0 0 = d := ⟨_, rfl⟩
  rw [hd] at h e1 e2 l2
  simp only at h e1 e2 l2
  have key : d2 ≤ j := by
    split at h
    · split at h
      · injection h with _ h; omega
      · split at h
        · cases h
        · injection h with _ h; omega
    · split at h
      · cases h
      · injection h with _ h; omega
  rw [show a + i + 1 = a + (i + 1) from rfl, e1 (by omega)]
  simp only
  rw [A.isAt (show d2 < p.size by omega), A.isAt (show d2 < p.size by omega)]
  split at h
  · rename_i h1
    have h1' : (cntOk (d1, a + d2, d3) && Ere.isAt p d2 44) = true := h1
    rw [if_pos h1']
    have k2 : d2 + 1 ≤ j := by
      split at h
      · injection h with _ h; omega
      · split at h
        · cases h
        · injection h with _ h; omega
    rw [show a + d2 + 1 = a + (d2 + 1) from rfl, A.isAt (show d2 + 1 < p.size by omega)]
    split at h
    · rename_i h2
      rw [if_pos h2]
      injection h with h4 h5
      rw [h4, ← h5]
    · rename_i h2
      rw [if_neg h2]
      split at h
      · cases h
      · rename_i h3
        injection h with h4 h5
        rw [e2 (by omega)]
        simp only
        rw [A.isAt (show (Ere.digits p 4 (d2 + 1) 0 0).2.1 < p.size by omega)]
        have h3' : ¬ (((!cntOk ((Ere.digits p 4 (d2 + 1) 0 0).1, a + (Ere.digits p 4 (d2 + 1) 0 0).2.1, (Ere.digits p 4 (d2 + 1) 0 0).2.2) || !Ere.isAt p (Ere.digits p 4 (d2 + 1) 0 0).2.1 125) || decide ((Ere.digits p 4 (d2 + 1) 0 0).1 < d1)) = true) := h3
        rw [if_neg h3', h4, h5]
  · rename_i h1
    have h1' : ¬ ((cntOk (d1, a + d2, d3) && Ere.isAt p d2 44) = true) := h1
    rw [if_neg h1']
    split at h
    · cases h
    · rename_i h2
      have h2' : ¬ ((!cntOk (d1, a + d2, d3) || !Ere.isAt p d2 125) = true) := h2
      injection h with h4 h5
      rw [if_neg h2', h4, h5]
theorem Emb.repeatR (A : Emb p q a) {t u : Nd} {i j : Nat} (hi : i ≤ p.size) (h : repeatR p t i = .got u j) : repeatR q t (a + i) = .got u (a + j) := by
  unfold Ere.repeatR at h ⊢
  rw [A.isAtR hi (by omega), A.isAtR hi (by omega), A.isAtR hi (by omega), A.isAtR hi (by omega)]
  split at h
  · rename_i h1; rw [if_pos h1]; injection h with h1 h2; rw [h1, ← h2]; rfl
  rename_i h1
  rw [if_neg h1]
  split at h
  · rename_i h2; rw [if_pos h2]; injection h with h1 h2; rw [h1, ← h2]; rfl
  rename_i h2
  rw [if_neg h2]
  split at h
  · rename_i h3; rw [if_pos h3]; injection h with h1 h2; rw [h1, ← h2]; rfl
  rename_i h3
  rw [if_neg h3]
  split at h
  · rename_i h4
    rw [if_pos h4]
    cases hc : Ere.countsR p i with
    | fault e a => rw [hc] at h; cases h
    | got c k =>
      rw [hc] at h
      injection h with h5 h6
      rw [A.countsR hc]
      simp only [Res.bind]
      rw [h5, ← h6]
      rfl
  · rename_i h4
    rw [if_neg h4]
    injection h with h5 h6
    rw [h5, h6]
theorem Emb.hit (A : Emb p q a) {k : Nat} (h : k + 1 < p.size) : hit q (a + k) ↔ hit p k := by
  unfold Ere.hit
  rw [A.at_ k (by omega), show a + k + 1 = a + (k + 1) from rfl, A.at_ (k + 1) h]
  have := A.le
  constructor
  · rintro ⟨_, b, c⟩; exact ⟨by omega, b, c⟩
  · rintro ⟨_, b, c⟩; exact ⟨by omega, b, c⟩
theorem Emb.endAt (A : Emb p q a) {i j : Nat} (h : endAt p p.size i = some j) : endAt q q.size (a + i) = some (a + j) := by
  obtain ⟨h1, h2, h3⟩ := endAt_some p _ _ _ h
  have hj : j + 1 < p.size := h2.1
  cases hq : Ere.endAt q q.size (a + i) with
  | none => exact absurd ((A.hit hj).2 h2) (endAt_none q _ _ (by omega) hq (a + j) (by omega))
  | some k =>
    obtain ⟨k1, k2, k3⟩ := endAt_some q _ _ _ hq
    obtain ⟨k, rfl⟩ : ∃ k', k = a + k' := ⟨k - a, by omega⟩
    rcases Nat.lt_trichotomy k j with e | e | e
    · exact absurd ((A.hit (by omega)).1 k2) (h3 k (by omega) e)
    · rw [e]
    · exact absurd ((A.hit hj).2 h2) (k3 (a + j) (by omega) (by omega))
theorem Emb.sub (A : Emb p q a) {i j : Nat} (hj : j ≤ p.size) : sub q (a + i) (a + j) = sub p i j := by
  unfold Ere.sub
  rw [show a + j - (a + i) = j - i by omega]
  apply List.map_congr_left
  intro k hk
  rw [List.mem_range] at hk
  rw [Nat.add_assoc]
  exact A.at_ _ (by omega)
theorem Emb.classR (A : Emb p q a) {s s' i j : Nat} {x : BSet} (h : classR p s i = .got x j) : classR q s' (a + i) = .got x (a + j) := by
  unfold Ere.classR at h ⊢
  cases he : Ere.endAt p p.size (i + 2) with
  | none => rw [he] at h; cases h
  | some k =>
    rw [he] at h
    simp only at h
    have hk : k + 1 < p.size := (endAt_some p _ _ _ he).2.1.1
    rw [show a + i + 2 = a + (i + 2) from rfl, A.endAt he]
    simp only
    rw [A.sub (show k ≤ p.size by omega)]
    split at h
    · cases h
    · injection h with h1 h2
      rw [h1, ← h2]
      rfl
theorem isAt_eq {p : ByteArray} {i c : Nat} (h : isAt p i c = true) : chr p i = c := by
  unfold isAt at h
  simp only [Bool.and_eq_true, decide_eq_true_eq] at h
  exact h.2
theorem Emb.itemR (A : Emb p q a) {s s' i j k : Nat} {x : BSet} (hi : i < p.size) (h : itemR p s i = .got x j) (hjk : j ≤ k) (hk : Ere.isAt p k 93 = true) : itemR q s' (a + i) = .got x (a + j) := by
  have hf := itemR_fwd h hi
  have hks := isAt_lt hk
  have e1 : ∀ c, Ere.isAt q (a + i + 1) c = Ere.isAt p (i + 1) c := fun c => by rw [Nat.add_assoc]; exact A.isAt (by omega)
  have o1 : ∀ l, Ere.oneOf q (a + i + 1) l = Ere.oneOf p (i + 1) l := fun c => by rw [Nat.add_assoc]; exact A.oneOf (by omega)
  unfold Ere.itemR at h ⊢
  rw [A.isAt hi, e1, e1, o1]
  split at h
  · rename_i h1
    rw [if_pos h1]
    exact A.classR h
  rename_i h1
  rw [if_neg h1]
  split at h
  · cases h
  rename_i h2
  rw [if_neg h2]
  by_cases h45 : Ere.isAt p (i + 1) 45 = true
  · have hne : i + 1 ≠ k := fun e => by
      have q1 := isAt_eq h45
      have q2 := isAt_eq hk
      rw [← e, q1] at q2
      omega
    have hlast : i + 2 < p.size := by
      have hij : i + 1 ≤ k := by omega
      omega
    have e2 : Ere.isAt q (a + i + 2) 93 = Ere.isAt p (i + 2) 93 := by rw [Nat.add_assoc]; exact A.isAt hlast
    rw [e2, decide_eq_false (show ¬ q.size ≤ a + i + 2 by have := A.le; omega), A.at_ i hi, show chr q (a + i + 2) = chr p (i + 2) by rw [Nat.add_assoc]; exact A.at_ (i + 2) hlast]
    rw [decide_eq_false (show ¬ p.size ≤ i + 2 by omega)] at h
    split at h
    · rename_i h3
      rw [if_pos h3]
      injection h with h4 h5
      rw [h4, ← h5]
      rfl
    rename_i h3
    rw [if_neg h3]
    split at h
    · cases h
    rename_i h4
    injection h with h5 h6
    have o3 : Ere.oneOf q (a + i + 3) [58, 46, 61] = Ere.oneOf p (i + 3) [58, 46, 61] := by rw [Nat.add_assoc]; exact A.oneOf (by omega)
    rw [o3, if_neg h4, h5, ← h6]
    rfl
  · have e45 : Ere.isAt p (i + 1) 45 = false := by simpa using h45
    rw [e45, A.at_ i hi]
    rw [e45] at h
    simp only [Bool.not_false, Bool.true_or, if_true] at h ⊢
    injection h with h5 h6
    rw [h5, ← h6]
    rfl
theorem itemsR_end {p : ByteArray} {s : Nat} : ∀ n first i x y k, itemsR p s n first i x = .got y k → isAt p k 93 = true
  | 0, _, _, _, _, _, h => by cases h
  | n + 1, first, i, x, y, k, h => by
    unfold itemsR at h
    split at h
    · rename_i h1
      injection h with _ h
      simp only [Bool.and_eq_true] at h1
      rw [← h]
      exact h1.2
    · split at h
      · cases h
      · cases hc : itemR p s i with
        | fault e a => rw [hc] at h; cases h
        | got t j =>
          rw [hc] at h
          exact itemsR_end n _ _ _ _ _ h
theorem Emb.itemsR (A : Emb p q a) {s s' : Nat} : ∀ n n' first i x y k, i ≤ p.size → itemsR p s n first i x = .got y k → k + 1 ≤ n' + i → itemsR q s' n' first (a + i) x = .got y (a + k)
  | 0, _, _, _, _, _, _, _, h, _ => by cases h
  | n + 1, n', first, i, x, y, k, hi, h, hn => by
    have hf := itemsR_fwd _ _ _ _ _ _ h
    have he := itemsR_end _ _ _ _ _ _ h
    obtain ⟨n', rfl⟩ : ∃ c, n' = c + 1 := ⟨n' - 1, by omega⟩
    unfold Ere.itemsR at h ⊢
    rw [A.isAt (show i < p.size by omega)]
    split at h
    · rename_i h1
      rw [if_pos h1]
      injection h with h2 h3
      rw [h2, h3]
    · rename_i h1
      rw [if_neg h1]
      split at h
      · cases h
      · rename_i h2
        rw [if_neg (by have := A.le; omega)]
        cases hc : Ere.itemR p s i with
        | fault e a => rw [hc] at h; cases h
        | got t j =>
          rw [hc] at h
          simp only [Res.bind] at h
          have hj := itemR_fwd hc (by omega)
          have hjk := itemsR_fwd _ _ _ _ _ _ h
          rw [A.itemR (s' := s') (by omega) hc hjk.1 he]
          simp only [Res.bind]
          exact A.itemsR n n' false j _ y k hj.2 h (by omega)
theorem Emb.setR (A : Emb p q a) {s s' i j : Nat} {t : Nd} (hi : i < p.size) (h : setR p s i = .got t j) : setR q s' (a + i) = .got t (a + j) := by
  unfold Ere.setR at h ⊢
  rw [A.isAt hi]
  cases hc : Ere.itemsR p s (p.size + 2) true (if Ere.isAt p i 94 then i + 1 else i) 0 with
  | fault e a => rw [hc] at h; cases h
  | got y k =>
    rw [hc] at h
    injection h with h1 h2
    have hf := itemsR_fwd _ _ _ _ _ _ hc
    have := A.itemsR (s' := s') (p.size + 2) (q.size + 2) true _ 0 y k (by split <;> omega) hc (by have := A.le; omega)
    rw [show (if Ere.isAt p i 94 = true then a + i + 1 else a + i) = a + (if Ere.isAt p i 94 = true then i + 1 else i) by split <;> rfl, this]
    simp only [Res.bind]
    rw [h1, ← h2]
    rfl
end
end Ere
end Go.Proofs.YtkedgombccdamaaDoor
namespace Go.Proofs.YtkedgombccdamaaDoor
set_option linter.unusedVariables false
set_option linter.unusedSimpArgs false

namespace Ere
/-- where the class that begins at i - 1 ends -/
def clsE (p : ByteArray) : Nat → Nat → Nat
  | 0, i => i
  | n + 1, i => if i + 1 < p.size ∧ ¬ (chr p i = 58 ∧ chr p (i + 1) = 93 ∧ chr p (i - 1) ≠ 91) then clsE p n (i + 1) else i
def nextI (p : ByteArray) (i : Nat) : Nat :=
  if isAt p i 91 && isAt p (i + 1) 58 then clsE p p.size (i + 1) + 2
  else if isAt p (i + 1) 45 && decide (i + 2 < p.size) && !isAt p (i + 2) 93 then i + 3 else i + 1
def behL (p : ByteArray) : Nat → Bool → Nat → Nat
  | 0, _, i => i
  | n + 1, first, i => if i < p.size ∧ (first = true ∨ chr p i ≠ 93) then behL p n false (nextI p i) else i
/-- the place of the ']' that ends the set whose '[' stands at i -/
def behN (p : ByteArray) (i : Nat) : Nat := behL p (p.size + 1) true (if isAt p (i + 1) 94 then i + 2 else i + 1)
/-- bars, from a place on: how many '|' outside of all, how deep -/
def barL (p : ByteArray) : Nat → Nat → Int → Int → Int → Int × Int
  | 0, _, n, _, m => (n, m)
  | f + 1, i, n, d, m => if p.size ≤ i then (n, m)
    else if chr p i = 92 then barL p f (i + 2) n d m
    else if chr p i = 91 then barL p f (behN p i + 1) n d m
    else if chr p i = 40 then barL p f (i + 1) n (d + 1) (max m (d + 1))
    else if chr p i = 41 then barL p f (i + 1) n (d - 1) m
    else if chr p i = 124 then barL p f (i + 1) (if d = 0 then n + 1 else n) d m
    else barL p f (i + 1) n d m
def barsP (p : ByteArray) : Int × Int := barL p (p.size + 1) 0 0 0 0
section
variable {p : ByteArray}
theorem clsE_le : ∀ n i, i ≤ clsE p n i
  | 0, i => Nat.le_refl _
  | n + 1, i => by
    unfold clsE
    split
    · have := clsE_le n (i + 1); omega
    · exact Nat.le_refl _
theorem nextI_lt (i : Nat) : i < nextI p i := by
  unfold nextI
  have := clsE_le (p := p) p.size (i + 1)
  split
  · omega
  · split <;> omega
theorem behL_le : ∀ n first i, i ≤ behL p n first i
  | 0, _, i => Nat.le_refl _
  | n + 1, first, i => by
    unfold behL
    split
    · have := behL_le n false (nextI p i)
      have := nextI_lt (p := p) i
      omega
    · exact Nat.le_refl _
theorem behN_lt (i : Nat) : i < behN p i := by
  unfold behN
  have := behL_le (p := p) (p.size + 1) true (if isAt p (i + 1) 94 then i + 2 else i + 1)
  split at this <;> split <;> simp_all <;> omega
theorem barL_fuel : ∀ f f' i n d m, p.size + 1 ≤ f + i → p.size + 1 ≤ f' + i → barL p f i n d m = barL p f' i n d m
  | 0, f', i, n, d, m, h, h' => by
    cases f' with
    | zero => rfl
    | succ f' => unfold barL; rw [if_pos (by omega)]
  | f + 1, 0, i, n, d, m, h, h' => by
    show barL p (f + 1) i n d m = (n, m)
    unfold barL
    rw [if_pos (by omega)]
  | f + 1, f' + 1, i, n, d, m, h, h' => by
    unfold barL
    have hb := behN_lt (p := p) i
    split
    · rfl
    split
    · exact barL_fuel f f' _ _ _ _ (by omega) (by omega)
    split
    · exact barL_fuel f f' _ _ _ _ (by omega) (by omega)
    split
    · exact barL_fuel f f' _ _ _ _ (by omega) (by omega)
    split
    · exact barL_fuel f f' _ _ _ _ (by omega) (by omega)
    split
    · exact barL_fuel f f' _ _ _ _ (by omega) (by omega)
    · exact barL_fuel f f' _ _ _ _ (by omega) (by omega)
/-- bars, from a place on -/
def Bs (p : ByteArray) (i : Nat) (n d m : Int) : Int × Int := barL p (p.size + 1) i n d m
theorem Bs_end {i : Nat} {n d m : Int} (h : p.size ≤ i) : Bs p i n d m = (n, m) := by
  unfold Bs barL
  rw [if_pos h]
theorem Bs_step {i : Nat} {n d m : Int} (h : i < p.size) : Bs p i n d m =
    if chr p i = 92 then Bs p (i + 2) n d m
    else if chr p i = 91 then Bs p (behN p i + 1) n d m
    else if chr p i = 40 then Bs p (i + 1) n (d + 1) (max m (d + 1))
    else if chr p i = 41 then Bs p (i + 1) n (d - 1) m
    else if chr p i = 124 then Bs p (i + 1) (if d = 0 then n + 1 else n) d m
    else Bs p (i + 1) n d m := by
  have hb := behN_lt (p := p) i
  have k : ∀ j n d m, i < j → barL p p.size j n d m = Bs p j n d m := fun j n d m hj => barL_fuel _ _ _ _ _ _ (by omega) (by omega)
  conv => lhs; unfold Bs barL
  rw [if_neg (by omega), k _ _ _ _ (by omega), k _ _ _ _ (by omega), k _ _ _ _ (by omega), k _ _ _ _ (by omega), k _ _ _ _ (by omega), k _ _ _ _ (by omega)]
/-- a byte that bars passes by -/
def dull (c : Nat) : Prop := c ≠ 92 ∧ c ≠ 91 ∧ c ≠ 40 ∧ c ≠ 41 ∧ c ≠ 124
theorem Bs_dull1 {i : Nat} {n d m : Int} (h : i < p.size) (hd : dull (chr p i)) : Bs p i n d m = Bs p (i + 1) n d m := by
  obtain ⟨h1, h2, h3, h4, h5⟩ := hd
  rw [Bs_step h, if_neg h1, if_neg h2, if_neg h3, if_neg h4, if_neg h5]
theorem Bs_dull {j : Nat} {n d m : Int} (hj : j ≤ p.size) : ∀ k i, i + k = j → (∀ x, i ≤ x → x < j → dull (chr p x)) → Bs p i n d m = Bs p j n d m
  | 0, i, e, _ => by rw [show i = j by omega]
  | k + 1, i, e, h => by
    rw [Bs_dull1 (by omega) (h i (by omega) (by omega))]
    exact Bs_dull hj k (i + 1) (by omega) (fun x h1 h2 => h x (by omega) h2)
theorem digits_dull : ∀ k i n c x, i ≤ x → x < (digits p k i n c).2.1 → dull (chr p x)
  | 0, i, n, c, x, h1, h2 => by
    simp only [digits] at h2
    omega
  | k + 1, i, n, c, x, h1, h2 => by
    unfold digits at h2
    split at h2
    · rename_i h
      simp only [Bool.and_eq_true, decide_eq_true_eq] at h
      by_cases e : x = i
      · subst e
        unfold dull
        omega
      · exact digits_dull k (i + 1) _ _ x (by omega) h2
    · simp only at h2
      omega
theorem countsR_dull {i j : Nat} {c : Nat × Int} (h : countsR p i = .got c j) (x : Nat) (h1 : i < x) (h2 : x ≤ j) : dull (chr p x) := by
  have e1 := digits_dull (p := p) 4 (i + 1) 0 0 x (by omega)
  have e2 := digits_dull (p := p) 4 ((digits p 4 (i + 1) 0 0).2.1 + 1) 0 0 x
  have c44 : ∀ y, isAt p y 44 = true → x = y → dull (chr p x) := fun y hy e => by rw [e, isAt_eq hy]; unfold dull; omega
  have c125 : ∀ y, isAt p y 125 = true → x = y → dull (chr p x) := fun y hy e => by rw [e, isAt_eq hy]; unfold dull; omega
  unfold countsR at h
  simp only at h
  obtain ⟨d, hd⟩ : ∃ d, digits p 4 (i + 1) 0 0 = d := ⟨_, rfl⟩
  rw [hd] at h e1 e2
  by_cases hx : x < d.2.1
  · exact e1 hx
  split at h
  · rename_i h3
    simp only [Bool.and_eq_true] at h3
    by_cases hx2 : x = d.2.1
    · exact c44 _ h3.2 hx2
    split at h
    · rename_i h4
      injection h with _ h
      exact c125 _ h4 (by omega)
    · split at h
      · cases h
      · rename_i h4
        injection h with _ h
        simp only [Bool.or_eq_true, Bool.not_eq_true', not_or, Bool.not_eq_false] at h4
        by_cases hx3 : x < (digits p 4 (d.2.1 + 1) 0 0).2.1
        · exact e2 (by omega) hx3
        · exact c125 _ h4.1.2 (by omega)
  · split at h
    · cases h
    · rename_i h4
      injection h with _ h
      simp only [Bool.or_eq_true, Bool.not_eq_true', not_or, Bool.not_eq_false] at h4
      exact c125 _ h4.2 (by omega)
theorem repeatR_dull {t u : Nd} {i j : Nat} (h : repeatR p t i = .got u j) (x : Nat) (h1 : i ≤ x) (h2 : x < j) : dull (chr p x) := by
  have cc : ∀ c, isAt p i c = true → (c = 42 ∨ c = 43 ∨ c = 63 ∨ c = 123) → x = i → dull (chr p x) := fun c hy hc e => by rw [e, isAt_eq hy]; unfold dull; omega
  unfold repeatR at h
  split at h
  · rename_i h3; injection h with _ h; exact cc _ h3 (by omega) (by omega)
  split at h
  · rename_i h3; injection h with _ h; exact cc _ h3 (by omega) (by omega)
  split at h
  · rename_i h3; injection h with _ h; exact cc _ h3 (by omega) (by omega)
  split at h
  · rename_i h3
    cases hc : countsR p i with
    | fault e a => rw [hc] at h; cases h
    | got c k =>
      rw [hc] at h
      injection h with _ h
      by_cases e : x = i
      · exact cc _ h3 (by omega) e
      · exact countsR_dull hc x (by omega) (by omega)
  · injection h with _ h; omega
theorem Bs_repeat {t u : Nd} {i j : Nat} {n d m : Int} (h : repeatR p t i = .got u j) (hi : i ≤ p.size) : Bs p i n d m = Bs p j n d m := by
  have hf := repeatR_fwd h hi
  exact Bs_dull hf.2 (j - i) i (by omega) (fun x h1 h2 => repeatR_dull h x h1 h2)
theorem nameB_91 {l : List Nat} {s : BSet} (h : nameB l = some s) : 91 ∉ l := by
  intro hm
  unfold nameB at h
  iterate 12 rw [if_neg (by rintro rfl; revert hm; decide)] at h
  cases h
theorem clsE_at {e : Nat} (he : hit p e) (hm : chr p (e - 1) ≠ 91) : ∀ n i, e ≤ n + i → i ≤ e → (∀ k, i ≤ k → k < e → ¬ (chr p k = 58 ∧ chr p (k + 1) = 93 ∧ chr p (k - 1) ≠ 91)) → clsE p n i = e
  | 0, i, h1, h2, _ => by
    unfold clsE
    omega
  | n + 1, i, h1, h2, h3 => by
    obtain ⟨a1, a2, a3⟩ := he
    unfold clsE
    by_cases hi : i = e
    · rw [if_neg]
      · exact hi
      · rintro ⟨_, h5⟩
        exact h5 ⟨by rw [hi]; exact a2, by rw [hi]; exact a3, by rw [hi]; exact hm⟩
    · rw [if_pos ⟨by omega, h3 i (by omega) (by omega)⟩]
      exact clsE_at ⟨a1, a2, a3⟩ hm n (i + 1) (by omega) (by omega) (fun k k1 k2 => h3 k (by omega) k2)
theorem nextI_item {s i j k : Nat} {x : BSet} (hi : i < p.size) (h : itemR p s i = .got x j) (hjk : j ≤ k) (hk : isAt p k 93 = true) : nextI p i = j := by
  have hf := itemR_fwd h hi
  have hks := isAt_lt hk
  unfold itemR at h
  unfold nextI
  split at h
  · rename_i h1
    rw [if_pos h1]
    simp only [Bool.and_eq_true] at h1
    unfold classR at h
    cases he : endAt p p.size (i + 2) with
    | none => rw [he] at h; cases h
    | some e =>
      rw [he] at h
      simp only at h
      obtain ⟨k1, k2, k3⟩ := endAt_some p _ _ _ he
      cases hn : nameB (sub p (i + 2) e) with
      | none => rw [hn] at h; cases h
      | some y =>
        rw [hn] at h
        injection h with _ h
        have h91 : chr p (e - 1) ≠ 91 := by
          by_cases q : e = i + 2
          · rw [q, show i + 2 - 1 = i + 1 by omega, isAt_eq h1.2]
            omega
          · intro q2
            refine nameB_91 hn ?_
            unfold sub
            refine List.mem_map.2 ⟨e - 1 - (i + 2), List.mem_range.2 (by omega), ?_⟩
            rw [show i + 2 + (e - 1 - (i + 2)) = e - 1 by omega, q2]
        have := clsE_at k2 h91 p.size (i + 1) (by have := k2.1; omega) (by omega) (fun k q1 q2 => by
          rintro ⟨a1, a2, a3⟩
          by_cases q : k = i + 1
          · rw [q, show i + 1 - 1 = i by omega, isAt_eq h1.1] at a3
            exact a3 rfl
          · exact k3 k (by omega) q2 ⟨by have := k2.1; omega, a1, a2⟩)
        rw [this, h]
  rename_i h1
  rw [if_neg h1]
  split at h
  · cases h
  split at h
  · rename_i h3
    injection h with _ h
    rw [if_neg, h]
    simp only [Bool.or_eq_true, Bool.not_eq_true', decide_eq_true_eq] at h3
    simp only [Bool.and_eq_true, decide_eq_true_eq, Bool.not_eq_true']
    rintro ⟨⟨a1, a2⟩, a3⟩
    rcases h3 with (h3 | h3) | h3
    · rw [a1] at h3; cases h3
    · omega
    · rw [a3] at h3; cases h3
  · rename_i h3
    split at h
    · cases h
    · injection h with _ h
      rw [if_pos, h]
      simp only [Bool.or_eq_true, Bool.not_eq_true', decide_eq_true_eq, not_or] at h3
      simp only [Bool.and_eq_true, decide_eq_true_eq, Bool.not_eq_true']
      refine ⟨⟨by simpa using h3.1.1, by omega⟩, by simpa using h3.2⟩
theorem behL_items {s : Nat} : ∀ n n' first i x y k, i ≤ p.size → itemsR p s n first i x = .got y k → k + 1 ≤ n' + i → behL p n' first i = k
  | 0, _, _, _, _, _, _, _, h, _ => by cases h
  | n + 1, n', first, i, x, y, k, hi, h, hn => by
    have hf := itemsR_fwd _ _ _ _ _ _ h
    have he := itemsR_end _ _ _ _ _ _ h
    obtain ⟨n', rfl⟩ : ∃ c, n' = c + 1 := ⟨n' - 1, by omega⟩
    unfold itemsR at h
    unfold behL
    split at h
    · rename_i h1
      injection h with _ h3
      simp only [Bool.and_eq_true, Bool.not_eq_true'] at h1
      rw [if_neg]
      · exact h3
      · rintro ⟨_, h4 | h4⟩
        · rw [h1.1] at h4; cases h4
        · exact h4 (isAt_eq h1.2)
    · rename_i h1
      split at h
      · cases h
      · rename_i h2
        cases hc : itemR p s i with
        | fault e a => rw [hc] at h; cases h
        | got t j =>
          rw [hc] at h
          simp only [Res.bind] at h
          have hj := itemR_fwd hc (by omega)
          have hjk := itemsR_fwd _ _ _ _ _ _ h
          rw [if_pos, nextI_item (by omega) hc hjk.1 he]
          · exact behL_items n n' false j _ y k hj.2 h (by omega)
          · refine ⟨by omega, ?_⟩
            cases first with
            | true => exact .inl rfl
            | false =>
              right
              intro q
              apply h1
              unfold isAt
              rw [decide_eq_true (show i < p.size by omega), q]
              rfl
theorem behN_set {s i j : Nat} {t : Nd} (hi : i + 1 ≤ p.size) (h : setR p s (i + 1) = .got t j) : behN p i + 1 = j := by
  unfold setR at h
  cases hc : itemsR p s (p.size + 2) true (if isAt p (i + 1) 94 then i + 1 + 1 else i + 1) 0 with
  | fault e a => rw [hc] at h; cases h
  | got y k =>
    rw [hc] at h
    injection h with _ h2
    have hf := itemsR_fwd _ _ _ _ _ _ hc
    unfold behN
    rw [behL_items (p.size + 2) (p.size + 1) true _ 0 y k (by omega) hc (by omega), h2]
end
end Ere
end Go.Proofs.YtkedgombccdamaaDoor
namespace Go.Proofs.YtkedgombccdamaaDoor
set_option linter.unusedVariables false
set_option linter.unusedSimpArgs false

namespace Ere
/-- the first m bytes are the same -/
structure Agree (p q : ByteArray) (m : Nat) : Prop where
  lp : m ≤ p.size
  lq : m ≤ q.size
  at_ : ∀ k, k < m → chr p k = chr q k
section
variable {p q : ByteArray} {m : Nat}
theorem Agree.isAt (A : Agree p q m) {k c : Nat} (h : k < m) : isAt q k c = isAt p k c := by
  unfold Ere.isAt
  rw [A.at_ k h, decide_eq_true (show k < p.size by have := A.lp; omega), decide_eq_true (show k < q.size by have := A.lq; omega)]
theorem Agree.oneOf (A : Agree p q m) {k : Nat} {l : List Nat} (h : k < m) : oneOf q k l = oneOf p k l := by
  unfold Ere.oneOf
  rw [A.at_ k h, decide_eq_true (show k < p.size by have := A.lp; omega), decide_eq_true (show k < q.size by have := A.lq; omega)]
theorem Agree.digits (A : Agree p q m) : ∀ k i n c, (digits p k i n c).2.1 < m → digits q k i n c = digits p k i n c
  | 0, i, n, c, h => rfl
  | k + 1, i, n, c, h => by
    have hi : i < m := by
      have := (digits_le p (k + 1) i n c).2
      omega
    unfold Ere.digits at h ⊢
    rw [decide_eq_true (show i < p.size by have := A.lp; omega)] at h ⊢
    rw [decide_eq_true (show i < q.size by have := A.lq; omega), ← A.at_ i hi]
    split
    · rename_i h1
      rw [if_pos h1] at h
      exact A.digits k (i + 1) _ _ h
    · rfl
theorem Agree.countsR (A : Agree p q m) {i j : Nat} {c : Nat × Int} (h : countsR p i = .got c j) (hj : j < m) : countsR q i = .got c j := by
  have hf := countsR_fwd h
  have e1 := A.digits 4 (i + 1) 0 0
  have e2 := A.digits 4 ((Ere.digits p 4 (i + 1) 0 0).2.1 + 1) 0 0
  have l2 := (digits_le p 4 ((Ere.digits p 4 (i + 1) 0 0).2.1 + 1) 0 0).2
  unfold Ere.countsR at h ⊢
  simp only at h ⊢
  obtain ⟨d, hd⟩ : ∃ d, Ere.digits p 4 (i + 1) 0 0 = d := ⟨_, rfl⟩
  rw [hd] at h e1 e2 l2
  have key : d.2.1 ≤ j := by
    split at h
    · split at h
      · injection h with _ h; omega
      · split at h
        · cases h
        · injection h with _ h; omega
    · split at h
      · cases h
      · injection h with _ h; omega
  rw [e1 (by omega), A.isAt (show d.2.1 < m by omega), A.isAt (show d.2.1 < m by omega)]
  split at h
  · rename_i h1
    rw [if_pos h1]
    have k2 : d.2.1 + 1 ≤ j := by
      split at h
      · injection h with _ h; omega
      · split at h
        · cases h
        · injection h with _ h; omega
    rw [A.isAt (show d.2.1 + 1 < m by omega)]
    split at h
    · rename_i h2
      rw [if_pos h2]
      exact h
    · rename_i h2
      rw [if_neg h2]
      split at h
      · cases h
      · rename_i h3
        injection h with h4 h5
        rw [e2 (by omega), A.isAt (show (Ere.digits p 4 (d.2.1 + 1) 0 0).2.1 < m by omega), if_neg h3, h4, h5]
  · rename_i h1
    rw [if_neg h1]
    exact h
theorem Agree.repeatR (A : Agree p q m) {t u : Nd} {i j : Nat} (hi : i ≤ p.size) (h : repeatR p t i = .got u j) (hj : j < m) : repeatR q t i = .got u j := by
  have hf := repeatR_fwd h hi
  have hm : i < m := by omega
  unfold Ere.repeatR at h ⊢
  rw [A.isAt hm, A.isAt hm, A.isAt hm, A.isAt hm]
  split at h
  · rename_i h1; rw [if_pos h1]; exact h
  rename_i h1
  rw [if_neg h1]
  split at h
  · rename_i h2; rw [if_pos h2]; exact h
  rename_i h2
  rw [if_neg h2]
  split at h
  · rename_i h3; rw [if_pos h3]; exact h
  rename_i h3
  rw [if_neg h3]
  split at h
  · rename_i h4
    rw [if_pos h4]
    cases hc : Ere.countsR p i with
    | fault e a => rw [hc] at h; cases h
    | got c k =>
      rw [hc] at h
      injection h with h5 h6
      rw [A.countsR hc (by omega)]
      simp only [Res.bind]
      rw [h5, h6]
  · rename_i h4
    rw [if_neg h4]
    exact h
theorem Agree.hit (A : Agree p q m) {k : Nat} (h : k + 1 < m) : hit q k ↔ hit p k := by
  unfold Ere.hit
  rw [A.at_ k (by omega), A.at_ (k + 1) h]
  have := A.lp
  have := A.lq
  constructor
  · rintro ⟨_, b, c⟩; exact ⟨by omega, b, c⟩
  · rintro ⟨_, b, c⟩; exact ⟨by omega, b, c⟩
theorem Agree.endAt (A : Agree p q m) {i j : Nat} (h : endAt p p.size i = some j) (hj : j + 1 < m) : endAt q q.size i = some j := by
  obtain ⟨h1, h2, h3⟩ := endAt_some p _ _ _ h
  cases hq : Ere.endAt q q.size i with
  | none => exact absurd ((A.hit hj).2 h2) (endAt_none q _ _ (by omega) hq j h1)
  | some k =>
    obtain ⟨k1, k2, k3⟩ := endAt_some q _ _ _ hq
    rcases Nat.lt_trichotomy k j with e | e | e
    · exact absurd ((A.hit (by omega)).1 k2) (h3 k k1 e)
    · rw [e]
    · exact absurd ((A.hit hj).2 h2) (k3 j h1 e)
theorem Agree.sub (A : Agree p q m) {i j : Nat} (hj : j ≤ m) : sub q i j = sub p i j := by
  unfold Ere.sub
  apply List.map_congr_left
  intro k hk
  rw [List.mem_range] at hk
  exact (A.at_ _ (by omega)).symm
theorem Agree.classR (A : Agree p q m) {s i j : Nat} {x : BSet} (h : classR p s i = .got x j) (hj : j < m) : classR q s i = .got x j := by
  unfold Ere.classR at h ⊢
  cases he : Ere.endAt p p.size (i + 2) with
  | none => rw [he] at h; cases h
  | some k =>
    rw [he] at h
    simp only at h
    have hk : k + 2 = j := by
      split at h
      · cases h
      · injection h
    rw [A.endAt he (by omega)]
    simp only
    rw [A.sub (show k ≤ m by omega)]
    exact h
theorem Agree.itemR (A : Agree p q m) {s i j : Nat} {x : BSet} (hi : i < p.size) (h : itemR p s i = .got x j) (hj : j + 1 < m) : itemR q s i = .got x j := by
  have hf := itemR_fwd h hi
  unfold Ere.itemR at h ⊢
  rw [A.isAt (show i < m by omega), A.isAt (show i + 1 < m by omega), A.isAt (show i + 1 < m by omega), A.oneOf (show i + 1 < m by omega)]
  split at h
  · rename_i h1
    rw [if_pos h1]
    exact A.classR h (by omega)
  rename_i h1
  rw [if_neg h1]
  split at h
  · cases h
  rename_i h2
  rw [if_neg h2]
  have h2m : i + 2 < m ∨ i + 1 < j → i + 2 < m := by omega
  have hlast : i + 2 < m := by
    split at h
    · injection h with _ h; omega
    · split at h
      · cases h
      · injection h with _ h; omega
  rw [A.isAt hlast, decide_eq_false (show ¬ q.size ≤ i + 2 by have := A.lq; omega), ← A.at_ i (by omega), ← A.at_ (i + 2) hlast]
  rw [decide_eq_false (show ¬ p.size ≤ i + 2 by have := A.lp; omega)] at h
  split at h
  · rename_i h3; rw [if_pos h3]; exact h
  rename_i h3
  rw [if_neg h3]
  split at h
  · cases h
  rename_i h4
  injection h with h5 h6
  rw [A.oneOf (show i + 3 < m by omega), if_neg h4, h5, h6]
theorem Agree.itemsR (A : Agree p q m) {s : Nat} : ∀ n n' first i x y k, i ≤ p.size → itemsR p s n first i x = .got y k → k + 1 < m → k + 1 ≤ n' + i → itemsR q s n' first i x = .got y k
  | 0, _, _, _, _, _, _, _, h, _, _ => by cases h
  | n + 1, n', first, i, x, y, k, hi, h, hk, hn => by
    have hf := itemsR_fwd _ _ _ _ _ _ h
    obtain ⟨n', rfl⟩ : ∃ c, n' = c + 1 := ⟨n' - 1, by omega⟩
    unfold Ere.itemsR at h ⊢
    rw [A.isAt (show i < m by omega)]
    split at h
    · rename_i h1; rw [if_pos h1]; exact h
    · rename_i h1
      rw [if_neg h1]
      split at h
      · cases h
      · rename_i h2
        rw [if_neg (by have := A.lq; omega)]
        cases hc : Ere.itemR p s i with
        | fault e a => rw [hc] at h; cases h
        | got t j =>
          rw [hc] at h
          simp only [Res.bind] at h
          have hj := itemR_fwd hc (by omega)
          have hjk := itemsR_fwd _ _ _ _ _ _ h
          rw [A.itemR (by omega) hc (by omega)]
          simp only [Res.bind]
          exact A.itemsR n n' false j _ y k hj.2 h hk (by omega)
theorem Agree.setR (A : Agree p q m) {s i j : Nat} {t : Nd} (hi : i < m) (h : setR p s i = .got t j) (hj : j < m) : setR q s i = .got t j := by
  unfold Ere.setR at h ⊢
  rw [A.isAt hi]
  cases hc : Ere.itemsR p s (p.size + 2) true (if Ere.isAt p i 94 then i + 1 else i) 0 with
  | fault e a => rw [hc] at h; cases h
  | got y k =>
    rw [hc] at h
    injection h with h1 h2
    rw [A.itemsR (p.size + 2) (q.size + 2) true _ 0 y k (by have := A.lp; split <;> omega) hc (by omega) (by have := A.lq; omega)]
    simp only [Res.bind]
    rw [h1, h2]
/-- a fault that stands -/
def Good (p : ByteArray) (m e a : Nat) : Prop := ((e = 44 ∨ e = 47) ∧ a + 1 ≤ m) ∨ (e = 46 ∧ a + 2 ≤ m) ∨ (e = 42 ∧ chr p a = 41 ∧ a + 1 ≤ m)
theorem Good.lt {e a : Nat} (h : Good p m e a) : a < m := by unfold Good at h; omega
/-- two readers that agree -/
def Like (p q : ByteArray) (m : Nat) (f f' : Nat → Res Nd) : Prop := (∀ i t j, i ≤ p.size → f i = .got t j → j < m → f' i = .got t j) ∧ ∀ i e a, i ≤ p.size → f i = .fault e a → Good p m e a → f' i = .fault e a
def LikeO (p q : ByteArray) (m : Nat) : Option (Nat → Res Nd) → Option (Nat → Res Nd) → Prop
  | none, none => True
  | some f, some f' => Like p q m f f' ∧ (∀ i t j, i ≤ p.size → f i = .got t j → i ≤ j ∧ j ≤ p.size) ∧ ∀ i e a, i ≤ p.size → f i = .fault e a → BadF p i e a
  | _, _ => False
theorem Agree.piece_got (A : Agree p q m) {inner inner' : Option (Nat → Res Nd)} (hl : LikeO p q m inner inner') {i j : Nat} {t : Nd} (hi : i < p.size) (h : pieceR p inner i = .got t j) (hj : j < m) : pieceR q inner' i = .got t j := by
  have hfw : ∀ f, inner = some f → ∀ i t j, i ≤ p.size → f i = .got t j → i ≤ j ∧ j ≤ p.size := fun f e => by
    subst e
    cases inner' with
    | none => exact hl.elim
    | some f' => exact hl.2.1
  have hf := pieceR_fwd hfw h hi
  have him : i < m := by omega
  unfold pieceR at h ⊢
  simp only at h ⊢
  rw [← A.at_ i him]
  split at h
  · rename_i h1; rw [if_pos h1]; exact h
  rename_i h1; rw [if_neg h1]
  split at h
  · rename_i h2; rw [if_pos h2]; exact h
  rename_i h2; rw [if_neg h2]
  split at h
  · cases h
  rename_i h3; rw [if_neg h3]
  split at h
  · rename_i h4
    rw [if_pos h4]
    cases inner with
    | none => cases h
    | some f =>
      cases inner' with
      | none => exact hl.elim
      | some f' =>
        simp only at h ⊢
        cases hc : f (i + 1) with
        | fault e a => rw [hc] at h; cases h
        | got u k =>
          rw [hc] at h
          simp only [Res.bind] at h
          have hk := hfw f rfl (i + 1) u k (by omega) hc
          split at h
          · cases h
          · rename_i h5
            have hkj := repeatR_fwd h (by omega)
            rw [hl.1.1 (i + 1) u k (by omega) hc (by omega)]
            simp only [Res.bind]
            rw [if_neg (by have := A.lq; omega)]
            exact A.repeatR (by omega) h hj
  rename_i h4; rw [if_neg h4]
  split at h
  · rename_i h5
    rw [if_pos h5]
    cases hc : Ere.setR p i (i + 1) with
    | fault e a => rw [hc] at h; cases h
    | got u k =>
      rw [hc] at h
      simp only [Res.bind] at h
      have hk := setR_fwd hc
      have hkj := repeatR_fwd h (by omega)
      rw [A.setR (by omega) hc (by omega)]
      simp only [Res.bind]
      exact A.repeatR (by omega) h hj
  rename_i h5; rw [if_neg h5]
  split at h
  · rename_i h6
    rw [if_pos h6]
    exact A.repeatR (by omega) h hj
  rename_i h6; rw [if_neg h6]
  split at h
  · rename_i h7
    rw [if_pos h7]
    split at h
    · rename_i h8
      have h8' := h8
      unfold Ere.oneOf at h8'
      simp only [Bool.and_eq_true, decide_eq_true_eq] at h8'
      have hkj := repeatR_fwd h (by omega)
      rw [A.oneOf (show i + 1 < m by omega), if_pos h8, ← A.at_ (i + 1) (by omega)]
      exact A.repeatR (by omega) h hj
    · cases h
  · rename_i h7
    rw [if_neg h7]
    exact A.repeatR (by omega) h hj
theorem Agree.piece_fault (A : Agree p q m) {inner inner' : Option (Nat → Res Nd)} (hl : LikeO p q m inner inner') {i e a : Nat} (hi : i < p.size) (h : pieceR p inner i = .fault e a) (hg : Good p m e a) : pieceR q inner' i = .fault e a := by
  have hfw : ∀ f, inner = some f → ∀ i t j, i ≤ p.size → f i = .got t j → i ≤ j ∧ j ≤ p.size := fun f e => by
    subst e
    cases inner' with
    | none => exact hl.elim
    | some f' => exact hl.2.1
  have hbd : ∀ f, inner = some f → ∀ i e a, i ≤ p.size → f i = .fault e a → BadF p i e a := fun f e => by
    subst e
    cases inner' with
    | none => exact hl.elim
    | some f' => exact hl.2.2
  have hb := pieceR_bad hfw hbd hi h
  have him : i < m := by have := hg.lt; unfold BadF at hb; omega
  unfold pieceR at h ⊢
  simp only at h ⊢
  rw [← A.at_ i him]
  split at h
  · cases h
  rename_i h1; rw [if_neg h1]
  split at h
  · cases h
  rename_i h2; rw [if_neg h2]
  split at h
  · rename_i h3; rw [if_pos h3]; exact h
  rename_i h3; rw [if_neg h3]
  split at h
  · rename_i h4
    rw [if_pos h4]
    cases inner with
    | none =>
      cases inner' with
      | none => exact h
      | some f' => exact hl.elim
    | some f =>
      cases inner' with
      | none => exact hl.elim
      | some f' =>
        simp only at h ⊢
        cases hc : f (i + 1) with
        | fault e' a' =>
          rw [hc] at h
          simp only [Res.bind] at h
          injection h with h5 h6
          subst h5 h6
          rw [hl.1.2 (i + 1) _ _ (by omega) hc hg]
          rfl
        | got u k =>
          rw [hc] at h
          simp only [Res.bind] at h
          split at h
          · injection h with h5 h6
            subst h5 h6
            unfold Good at hg
            omega
          · have := repeatR_bad h
            unfold Good at hg
            omega
  rename_i h4; rw [if_neg h4]
  split at h
  · cases hc : Ere.setR p i (i + 1) with
    | fault e' a' =>
      rw [hc] at h
      simp only [Res.bind] at h
      injection h with h5 h6
      have := setR_bad (by omega) hc
      unfold Good at hg
      omega
    | got u k =>
      rw [hc] at h
      simp only [Res.bind] at h
      have := repeatR_bad h
      unfold Good at hg
      omega
  rename_i h5; rw [if_neg h5]
  split at h
  · have := repeatR_bad h
    unfold Good at hg
    omega
  rename_i h6; rw [if_neg h6]
  split at h
  · rename_i h7
    rw [if_pos h7]
    split at h
    · have := repeatR_bad h
      unfold Good at hg
      omega
    · rename_i h8
      injection h with h9 h10
      subst h9 h10
      rw [A.oneOf (show i + 1 < m by unfold Good at hg; omega), if_neg h8]
  · have := repeatR_bad h
    unfold Good at hg
    omega
end
end Ere
end Go.Proofs.YtkedgombccdamaaDoor
namespace Go.Proofs.YtkedgombccdamaaDoor
set_option linter.unusedVariables false
set_option linter.unusedSimpArgs false

namespace Ere
section
variable {p q : ByteArray} {m : Nat}
theorem Agree.alt_got (A : Agree p q m) {top : Bool} {pc pc' : Nat → Res Nd} (hfw : ∀ i t j, i < p.size → pc i = .got t j → i < j ∧ j ≤ p.size) (hpc : ∀ i t j, i < p.size → pc i = .got t j → j < m → pc' i = .got t j) :
    ∀ n n' i l t j, i ≤ p.size → altR p top pc n i l = .got t j → j < m → j + 1 ≤ n' + i → altR q top pc' n' i l = .got t j
  | 0, _, _, _, _, _, _, h, _, _ => by cases h
  | n + 1, n', i, l, t, j, hi, h, hj, hn => by
    have hf := altR_fwd hfw _ _ _ _ _ hi h
    obtain ⟨n', rfl⟩ : ∃ c, n' = c + 1 := ⟨n' - 1, by omega⟩
    unfold altR at h ⊢
    rw [A.isAt (show i < m by omega), A.isAt (show i < m by omega), decide_eq_false (show ¬ q.size ≤ i by have := A.lq; omega)]
    rw [decide_eq_false (show ¬ p.size ≤ i by have := A.lp; omega)] at h
    split at h
    · rename_i h1; rw [if_pos h1]; exact h
    rename_i h1; rw [if_neg h1]
    split at h
    · rename_i h2; rw [if_pos h2]; exact h
    rename_i h2; rw [if_neg h2]
    cases hc : pc i with
    | fault e a => rw [hc] at h; cases h
    | got u k =>
      rw [hc] at h
      simp only [Res.bind] at h
      have hk := hfw i u k (by have := A.lp; omega) hc
      have hkj := altR_fwd hfw _ _ _ _ _ hk.2 h
      rw [hpc i u k (by have := A.lp; omega) hc (by omega)]
      simp only [Res.bind]
      exact A.alt_got hfw hpc n n' k (l ++ [u]) t j hk.2 h hj (by omega)
theorem Agree.alt_fault (A : Agree p q m) {top : Bool} {pc pc' : Nat → Res Nd} (hfw : ∀ i t j, i < p.size → pc i = .got t j → i < j ∧ j ≤ p.size) (hbad : ∀ i e a, i < p.size → pc i = .fault e a → BadF p i e a)
    (hpc : ∀ i t j, i < p.size → pc i = .got t j → j < m → pc' i = .got t j) (hpf : ∀ i e a, i < p.size → pc i = .fault e a → Good p m e a → pc' i = .fault e a) :
    ∀ n n' i l e a, p.size + 1 ≤ n + i → i ≤ p.size → altR p top pc n i l = .fault e a → Good p m e a → a + 1 ≤ n' + i → altR q top pc' n' i l = .fault e a
  | 0, _, i, _, _, _, hn, hi, _, _, _ => by omega
  | n + 1, n', i, l, e, a, hn, hi, h, hg, hn' => by
    have hb := altR_bad hfw hbad _ _ _ _ _ hn hi h
    unfold BadF at hb
    have ham := hg.lt
    obtain ⟨n', rfl⟩ : ∃ c, n' = c + 1 := ⟨n' - 1, by omega⟩
    unfold altR at h ⊢
    rw [A.isAt (show i < m by omega), A.isAt (show i < m by omega), decide_eq_false (show ¬ q.size ≤ i by have := A.lq; omega)]
    rw [decide_eq_false (show ¬ p.size ≤ i by have := A.lp; omega)] at h
    split at h
    · cases h
    rename_i h1; rw [if_neg h1]
    split at h
    · rename_i h2; rw [if_pos h2]; exact h
    rename_i h2; rw [if_neg h2]
    cases hc : pc i with
    | fault e' a' =>
      rw [hc] at h
      simp only [Res.bind] at h
      injection h with h5 h6
      subst h5 h6
      rw [hpf i _ _ (by have := A.lp; omega) hc hg]
      rfl
    | got u k =>
      rw [hc] at h
      simp only [Res.bind] at h
      have hk := hfw i u k (by have := A.lp; omega) hc
      have hkb := altR_bad hfw hbad n k (l ++ [u]) e a (by omega) hk.2 h
      unfold BadF at hkb
      rw [hpc i u k (by have := A.lp; omega) hc (by omega)]
      simp only [Res.bind]
      exact A.alt_fault hfw hbad hpc hpf n n' k (l ++ [u]) e a (by omega) hk.2 h hg (by omega)
theorem Agree.patL_got (A : Agree p q m) {al al' : Nat → Res Nd} (hfw : ∀ i t j, i ≤ p.size → al i = .got t j → i ≤ j ∧ j ≤ p.size) (hal : ∀ i t j, i ≤ p.size → al i = .got t j → j < m → al' i = .got t j) :
    ∀ n n' i l t j, i ≤ p.size → patL p al n i l = .got t j → j < m → j + 1 ≤ n' + i → patL q al' n' i l = .got t j
  | 0, _, _, _, _, _, _, h, _, _ => by cases h
  | n + 1, n', i, l, t, j, hi, h, hj, hn => by
    have hf := patL_fwd hfw _ _ _ _ _ hi h
    obtain ⟨n', rfl⟩ : ∃ c, n' = c + 1 := ⟨n' - 1, by omega⟩
    unfold patL at h ⊢
    cases hc : al i with
    | fault e a => rw [hc] at h; cases h
    | got u k =>
      rw [hc] at h
      simp only [Res.bind] at h
      have hk := hfw i u k hi hc
      have hkj : k ≤ j := by
        split at h
        · rename_i h1
          have := isAt_lt h1
          have := patL_fwd hfw _ _ _ _ _ (by omega) h
          omega
        · injection h with _ h; omega
      rw [hal i u k hi hc (by omega)]
      simp only [Res.bind]
      rw [A.isAt (show k < m by omega)]
      split at h
      · rename_i h1
        have := isAt_lt h1
        rw [if_pos h1]
        exact A.patL_got hfw hal n n' (k + 1) (l ++ [u]) t j (by omega) h hj (by omega)
      · rename_i h1
        rw [if_neg h1]
        exact h
theorem Agree.patL_fault (A : Agree p q m) {al al' : Nat → Res Nd} (hfw : ∀ i t j, i ≤ p.size → al i = .got t j → i ≤ j ∧ j ≤ p.size) (hbad : ∀ i e a, i ≤ p.size → al i = .fault e a → BadF p i e a)
    (hal : ∀ i t j, i ≤ p.size → al i = .got t j → j < m → al' i = .got t j) (haf : ∀ i e a, i ≤ p.size → al i = .fault e a → Good p m e a → al' i = .fault e a) :
    ∀ n n' i l e a, p.size + 1 ≤ n + i → i ≤ p.size → patL p al n i l = .fault e a → Good p m e a → a + 1 ≤ n' + i → patL q al' n' i l = .fault e a
  | 0, _, i, _, _, _, hn, hi, _, _, _ => by omega
  | n + 1, n', i, l, e, a, hn, hi, h, hg, hn' => by
    have hb := patL_bad hfw hbad _ _ _ _ _ hn hi h
    unfold BadF at hb
    have ham := hg.lt
    obtain ⟨n', rfl⟩ : ∃ c, n' = c + 1 := ⟨n' - 1, by omega⟩
    unfold patL at h ⊢
    cases hc : al i with
    | fault e' a' =>
      rw [hc] at h
      simp only [Res.bind] at h
      injection h with h5 h6
      subst h5 h6
      rw [haf i _ _ hi hc hg]
      rfl
    | got u k =>
      rw [hc] at h
      simp only [Res.bind] at h
      have hk := hfw i u k hi hc
      split at h
      · rename_i h1
        have hks := isAt_lt h1
        have hkb := patL_bad hfw hbad n (k + 1) (l ++ [u]) e a (by omega) (by omega) h
        unfold BadF at hkb
        rw [hal i u k hi hc (by omega)]
        simp only [Res.bind]
        rw [A.isAt (show k < m by omega), if_pos h1]
        exact A.patL_fault hfw hbad hal haf n n' (k + 1) (l ++ [u]) e a (by omega) (by omega) h hg (by omega)
      · cases h
theorem Agree.layer (A : Agree p q m) {inner inner' : Option (Nat → Res Nd)} (hl : LikeO p q m inner inner') (top : Bool) :
    Like p q m (fun i => patL p (fun i => altR p top (pieceR p inner) (p.size + 2) i []) (p.size + 2) i []) (fun i => patL q (fun i => altR q top (pieceR q inner') (q.size + 2) i []) (q.size + 2) i []) := by
  have hfw : ∀ f, inner = some f → ∀ i t j, i ≤ p.size → f i = .got t j → i ≤ j ∧ j ≤ p.size := fun f e => by
    subst e
    cases inner' with
    | none => exact hl.elim
    | some f' => exact hl.2.1
  have hbd : ∀ f, inner = some f → ∀ i e a, i ≤ p.size → f i = .fault e a → BadF p i e a := fun f e => by
    subst e
    cases inner' with
    | none => exact hl.elim
    | some f' => exact hl.2.2
  have pf : ∀ i t j, i < p.size → pieceR p inner i = .got t j → i < j ∧ j ≤ p.size := fun i t j hi h => pieceR_fwd hfw h hi
  have pb : ∀ i e a, i < p.size → pieceR p inner i = .fault e a → BadF p i e a := fun i e a hi h => pieceR_bad hfw hbd hi h
  have af : ∀ i t j, i ≤ p.size → altR p top (pieceR p inner) (p.size + 2) i [] = .got t j → i ≤ j ∧ j ≤ p.size := fun i t j hi h => altR_fwd pf _ _ _ _ _ hi h
  have ab : ∀ i e a, i ≤ p.size → altR p top (pieceR p inner) (p.size + 2) i [] = .fault e a → BadF p i e a := fun i e a hi h => altR_bad pf pb _ _ _ _ _ (by omega) hi h
  have ag : ∀ i t j, i ≤ p.size → altR p top (pieceR p inner) (p.size + 2) i [] = .got t j → j < m → altR q top (pieceR q inner') (q.size + 2) i [] = .got t j := fun i t j hi h hj => A.alt_got pf (fun i t j hi h hj => A.piece_got hl hi h hj) _ _ _ _ _ _ hi h hj (by have := A.lq; omega)
  have afl : ∀ i e a, i ≤ p.size → altR p top (pieceR p inner) (p.size + 2) i [] = .fault e a → Good p m e a → altR q top (pieceR q inner') (q.size + 2) i [] = .fault e a := fun i e a hi h hg => A.alt_fault pf pb (fun i t j hi h hj => A.piece_got hl hi h hj) (fun i e a hi h hg => A.piece_fault hl hi h hg) _ _ _ _ _ _ (by omega) hi h hg (by have := hg.lt; have := A.lq; omega)
  exact ⟨fun i t j hi h hj => A.patL_got af ag _ _ _ _ _ _ hi h hj (by have := A.lq; omega), fun i e a hi h hg => A.patL_fault af ab ag afl _ _ _ _ _ _ (by omega) hi h hg (by have := hg.lt; have := A.lq; omega)⟩
theorem Agree.patR (A : Agree p q m) : ∀ n, Like p q m (patR p n) (patR q n)
  | 0 => by
    have := A.layer (inner := none) (inner' := none) trivial false
    exact this
  | n + 1 => by
    have := A.layer (inner := some (Ere.patR p n)) (inner' := some (Ere.patR q n)) ⟨A.patR n, patR_fwd n, patR_bad n⟩ (decide (n + 1 = 64))
    exact this
end
theorem nlAt_all {p : ByteArray} (h : ∀ k, k < p.size → chr p k ≠ 10) : nlAt p (p.size + 1) 0 = none := by
  cases hc : nlAt p (p.size + 1) 0 with
  | none => rfl
  | some j =>
    have := nlAt_some p _ _ _ hc
    exact absurd this.2.2.1 (h j this.2.1)
end Ere
end Go.Proofs.YtkedgombccdamaaDoor
namespace Go.Proofs.YtkedgombccdamaaDoor
set_option linter.unusedVariables false
set_option linter.unusedSimpArgs false

namespace Ere
def inn (p : ByteArray) : Nat → Option (Nat → Res Nd)
  | 0 => none
  | d + 1 => some (patR p d)
def alF (p : ByteArray) (d n i : Nat) (l : List Nd) : Res Nd := altR p (decide (d = 64)) (pieceR p (inn p d)) n i l
def alR (p : ByteArray) (d i : Nat) : Res Nd := alF p d (p.size + 2) i []
theorem patR_al (p : ByteArray) (d i : Nat) : patR p d i = patL p (alR p d) (p.size + 2) i [] := by
  cases d <;> rfl
/-- a fault for the depth alone -/
def Deep (r : Res Nd) : Prop := ∃ x, r = .fault 47 x
def ScB (p : ByteArray) (i j : Nat) (L : Int) (c h : Nat) : Prop := ∀ n M : Int, L ≤ M → Bs p i n L M = Bs p j (n + c) L (max M (L + h))
theorem ScB.trans {p : ByteArray} {i j k : Nat} {L : Int} {c1 c2 h1 h2 : Nat} (a : ScB p i j L c1 h1) (b : ScB p j k L c2 h2) : ScB p i k L (c1 + c2) (max h1 h2) := fun n M hM => by
  rw [a n M hM, b _ _ (by omega)]
  congr 1 <;> omega
theorem ScB.of_eq {p : ByteArray} {i j : Nat} {L : Int} (h : ∀ n M, Bs p i n L M = Bs p j n L M) : ScB p i j L 0 0 := fun n M hM => by
  rw [h]
  congr 1 <;> omega
/-- where an alternative may end -/
def EndA (q : ByteArray) (top : Bool) (x : Nat) : Prop := q.size ≤ x ∨ isAt q x 124 = true ∨ (isAt q x 41 = true ∧ isAt q x 124 = false ∧ top = false)
def EndP (q : ByteArray) (top : Bool) (x : Nat) : Prop := q.size ≤ x ∨ (isAt q x 41 = true ∧ isAt q x 124 = false ∧ top = false)
theorem EndP.a {q : ByteArray} {top : Bool} {x : Nat} (h : EndP q top x) : EndA q top x := by
  rcases h with h | h
  · exact .inl h
  · exact .inr (.inr h)
theorem EndP.no {q : ByteArray} {top : Bool} {x : Nat} (h : EndP q top x) : isAt q x 124 = false := by
  rcases h with h | h
  · unfold isAt; rw [decide_eq_false (by omega), Bool.false_and]
  · exact h.2.1
/-- a piece is read alike -/
def PcOk (p : ByteArray) (d i : Nat) (t : Nd) (j : Nat) : Prop := ∃ h, h ≤ d ∧ (∀ q a d', Emb p q a → d' ≤ 64 → (h ≤ d' → pieceR q (inn q d') (a + i) = .got t (a + j)) ∧ (d' < h → Deep (pieceR q (inn q d') (a + i)))) ∧ t.isT = true ∧ ∀ L : Int, 0 ≤ L → ScB p i j L 0 h
def AlOk (p : ByteArray) (d i : Nat) (t : Nd) (j : Nat) : Prop := ∃ h, h ≤ d ∧ (∀ q a d', Emb p q a → d' ≤ 64 → (d' = 64 → d = 64) → (j = p.size → EndA q (decide (d' = 64)) (a + p.size)) → (h ≤ d' → alR q d' (a + i) = .got t (a + j)) ∧ (d' < h → Deep (alR q d' (a + i)))) ∧ t.isT = true ∧ ∀ L : Int, 0 ≤ L → ScB p i j L 0 h
def PtOk (p : ByteArray) (d i : Nat) (t : Nd) (j : Nat) : Prop := ∃ h c, h ≤ d ∧ (∀ q a d', Emb p q a → d' ≤ 64 → (d' = 64 → d = 64) → (j = p.size → EndP q (decide (d' = 64)) (a + p.size)) → (h ≤ d' → patR q d' (a + i) = .got t (a + j)) ∧ (d' < h → Deep (patR q d' (a + i)))) ∧ t.isT = true ∧ (∀ L : Int, 0 ≤ L → ScB p i j L (if L = 0 then c else 0) h) ∧ (c = 0 → alR p d i = .got t j)
section
variable {p : ByteArray}
theorem isT_set (x : BSet) : (setN x).isT = true := by
  have h : (x &&& notB 0).getLsbD 10 = false := by
    rw [BitVec.getLsbD_and, notB0_get 10 (by omega)]
    simp
  unfold setN Nd.isT headOk
  rw [if_neg (by omega), if_pos rfl, h]
  simp [Nd.areT]
theorem isT_some3 {l : List Nd} (h : ∀ x ∈ l, x.isT = true) {k : Int} (hk : k = 3 ∨ k = 4) : (someN k l).isT = true := by
  rcases l with _ | ⟨x, _ | ⟨y, l⟩⟩
  · rfl
  · exact h x (by simp)
  · unfold someN Nd.isT headOk
    rw [if_neg (by omega), if_neg (by omega), if_pos (by omega), Nd.areT_all, List.all_eq_true.2 h]
    simp
theorem cntOk_le {d : Nat × Nat × Nat} (h : cntOk d = true) : d.1 ≤ 255 := by
  unfold cntOk at h
  simp only [Bool.and_eq_true, decide_eq_true_eq] at h
  exact h.2
theorem countsR_ok {i j : Nat} {c : Nat × Int} (h : countsR p i = .got c j) : c.1 ≤ 255 ∧ (c.2 = -1 ∨ ((c.1 : Int) ≤ c.2 ∧ c.2 ≤ 255)) := by
  unfold countsR at h
  simp only at h
  split at h
  · rename_i h1
    simp only [Bool.and_eq_true] at h1
    have := cntOk_le h1.1
    split at h
    · injection h with h _
      rw [← h]
      exact ⟨this, .inl rfl⟩
    · split at h
      · cases h
      · rename_i h2
        simp only [Bool.or_eq_true, Bool.not_eq_true', not_or, Bool.not_eq_false, decide_eq_true_eq] at h2
        have := cntOk_le h2.1.1
        injection h with h _
        rw [← h]
        exact ⟨by assumption, .inr ⟨by simp only; omega, by simp only; omega⟩⟩
  · split at h
    · cases h
    · rename_i h2
      simp only [Bool.or_eq_true, Bool.not_eq_true', not_or, Bool.not_eq_false] at h2
      have := cntOk_le h2.1
      injection h with h _
      rw [← h]
      exact ⟨this, .inr ⟨by simp only; omega, by simp only; omega⟩⟩
theorem isT_times {t : Nd} (h : t.isT = true) {a b : Int} (h0 : 0 ≤ a) (h1 : a ≤ 255) (h2 : b = -1 ∨ (a ≤ b ∧ b ≤ 255)) : (timesN t a b).isT = true := by
  unfold timesN Nd.isT headOk
  rw [if_neg (by omega), if_neg (by omega), if_neg (by omega), if_pos rfl]
  have : Nd.areT [t] = true := by simp [Nd.areT, h]
  rw [this]
  rcases h2 with h2 | h2
  · simp [h0, h1, h2]
  · simp [h0, h1, h2.1, h2.2]
theorem repeatR_isT {t u : Nd} {i j : Nat} (ht : t.isT = true) (h : repeatR p t i = .got u j) : u.isT = true := by
  unfold repeatR at h
  split at h
  · injection h with h _; rw [← h]; exact isT_times ht (by omega) (by omega) (by omega)
  split at h
  · injection h with h _; rw [← h]; exact isT_times ht (by omega) (by omega) (by omega)
  split at h
  · injection h with h _; rw [← h]; exact isT_times ht (by omega) (by omega) (by omega)
  split at h
  · cases hc : countsR p i with
    | fault e a => rw [hc] at h; cases h
    | got c k =>
      rw [hc] at h
      injection h with h _
      have := countsR_ok hc
      rw [← h]
      exact isT_times ht (by omega) (by omega) this.2
  · injection h with h _; rw [← h]; exact ht
theorem setR_isT {s i j : Nat} {t : Nd} (h : setR p s i = .got t j) : t.isT = true := by
  unfold setR at h
  cases hc : itemsR p s (p.size + 2) true (if isAt p i 94 then i + 1 else i) 0 with
  | fault e a => rw [hc] at h; cases h
  | got y k =>
    rw [hc] at h
    injection h with h _
    rw [← h]
    exact isT_set _
theorem inn_fwd (d : Nat) : ∀ f, inn p d = some f → ∀ i t j, i ≤ p.size → f i = .got t j → i ≤ j ∧ j ≤ p.size := by
  intro f hf
  cases d with
  | zero => cases hf
  | succ d => injection hf with hf; subst hf; exact fun i t j h1 h2 => patR_fwd d i t j h1 h2
theorem piece_ok {d : Nat} (hd : d ≤ 64) (ih : ∀ d0, d = d0 + 1 → ∀ i t j, i ≤ p.size → patR p d0 i = .got t j → PtOk p d0 i t j) {i j : Nat} {t : Nd} (hi : i < p.size) (h41 : chr p i ≠ 41) (h124 : chr p i ≠ 124) (h : pieceR p (inn p d) i = .got t j) : PcOk p d i t j := by
  have hf := pieceR_fwd (inn_fwd d) h hi
  unfold pieceR at h
  simp only at h
  have stp : ∀ n d m, _ := fun (n d m : Int) => Bs_step (p := p) (n := n) (d := d) (m := m) hi
  -- anchors
  by_cases h94 : chr p i = 94
  · rw [if_pos h94] at h
    injection h with h1 h2
    subst h1 h2
    refine ⟨0, by omega, fun q a d' A hd' => ⟨fun _ => ?_, fun h => by omega⟩, by rfl, fun L hL => ScB.of_eq fun n M => Bs_dull1 hi (by unfold dull; omega)⟩
    unfold pieceR
    simp only
    rw [A.at_ i hi, if_pos h94]
    rfl
  rw [if_neg h94] at h
  by_cases h36 : chr p i = 36
  · rw [if_pos h36] at h
    injection h with h1 h2
    subst h1 h2
    refine ⟨0, by omega, fun q a d' A hd' => ⟨fun _ => ?_, fun h => by omega⟩, by rfl, fun L hL => ScB.of_eq fun n M => Bs_dull1 hi (by unfold dull; omega)⟩
    unfold pieceR
    simp only
    rw [A.at_ i hi, if_neg h94, if_pos h36]
    rfl
  rw [if_neg h36] at h
  split at h
  · cases h
  rename_i hrp
  by_cases h40 : chr p i = 40
  · rw [if_pos h40] at h
    cases d with
    | zero => cases h
    | succ d0 =>
      simp only [inn] at h
      cases hc : patR p d0 (i + 1) with
      | fault e a => rw [hc] at h; cases h
      | got u k =>
        rw [hc] at h
        simp only [Res.bind] at h
        have hk := patR_fwd d0 _ _ _ (by omega) hc
        have hend := patR_end d0 _ _ _ hc
        split at h
        · cases h
        rename_i hks
        have hk41 : isAt p k 41 = true := by
          rcases hend with h | h
          · exact absurd h hks
          · exact h
        obtain ⟨h0, c, hh0, hemb, hT, hsc, -⟩ := ih d0 rfl _ _ _ (by omega) hc
        refine ⟨h0 + 1, by omega, fun q a d' A hd' => ⟨fun hle => ?_, fun hlt => ?_⟩, repeatR_isT hT h, fun L hL n M hM => ?_⟩
        · obtain ⟨d1, rfl⟩ : ∃ x, d' = x + 1 := ⟨d' - 1, by omega⟩
          have e1 := (hemb q a d1 A (by omega) (by omega) (fun e => by omega)).1 (by omega)
          unfold pieceR
          simp only [inn]
          rw [A.at_ i hi, if_neg h94, if_neg h36, if_neg hrp, if_pos h40, Nat.add_assoc, e1]
          simp only [Res.bind]
          rw [if_neg (by have := A.le; omega)]
          exact A.repeatR (by omega) h
        · unfold pieceR
          rw [A.at_ i hi, if_neg h94, if_neg h36, if_neg hrp, if_pos h40]
          cases d' with
          | zero => exact ⟨_, rfl⟩
          | succ d1 =>
            simp only [inn]
            obtain ⟨x, e1⟩ := (hemb q a d1 A (by omega) (by omega) (fun e => by omega)).2 (by omega)
            rw [Nat.add_assoc, e1]
            exact ⟨x, rfl⟩
        · have e1 := hsc (L + 1) (by omega) n (max M (L + 1)) (by omega)
          rw [if_neg (by omega)] at e1
          have q1 : chr p k = 41 := isAt_eq hk41
          have q2 := isAt_lt hk41
          have h5 : chr p k ≠ 92 ∧ chr p k ≠ 91 ∧ chr p k ≠ 40 := by omega
          rw [stp, if_neg (by omega), if_neg (by omega), if_pos h40, e1, Bs_step q2, if_neg h5.1, if_neg h5.2.1, if_neg h5.2.2, if_pos q1, Bs_repeat h (by omega)]
          congr 1 <;> omega
  rw [if_neg h40] at h
  by_cases h91 : chr p i = 91
  · rw [if_pos h91] at h
    cases hc : setR p i (i + 1) with
    | fault e a => rw [hc] at h; cases h
    | got u k =>
      rw [hc] at h
      simp only [Res.bind] at h
      have hk := setR_fwd hc
      have hb := behN_set (by omega) hc
      by_cases hi1 : i + 1 < p.size
      · refine ⟨0, by omega, fun q a d' A hd' => ⟨fun _ => ?_, fun h => by omega⟩, repeatR_isT (setR_isT hc) h, fun L hL => ScB.of_eq fun n M => ?_⟩
        · unfold pieceR
          simp only
          rw [A.at_ i hi, if_neg h94, if_neg h36, if_neg hrp, if_neg h40, if_pos h91, Nat.add_assoc, A.setR (s' := a + i) hi1 hc]
          simp only [Res.bind]
          exact A.repeatR (by omega) h
        · rw [stp, if_neg (by omega), if_pos h91, hb, Bs_repeat h (by omega)]
      · exfalso
        unfold setR at hc
        cases hd : itemsR p i (p.size + 2) true (if isAt p (i + 1) 94 then i + 1 + 1 else i + 1) 0 with
        | fault e a => rw [hd] at hc; cases hc
        | got y z =>
          rw [hd] at hc
          have := itemsR_fwd _ _ _ _ _ _ hd
          split at this <;> omega
  rw [if_neg h91] at h
  by_cases h46 : chr p i = 46
  · rw [if_pos h46] at h
    refine ⟨0, by omega, fun q a d' A hd' => ⟨fun _ => ?_, fun h => by omega⟩, repeatR_isT (isT_set _) h, fun L hL => ScB.of_eq fun n M => ?_⟩
    · unfold pieceR
      simp only
      rw [A.at_ i hi, if_neg h94, if_neg h36, if_neg hrp, if_neg h40, if_neg h91, if_pos h46, Nat.add_assoc]
      exact A.repeatR (by omega) h
    · rw [Bs_dull1 hi (by unfold dull; omega), Bs_repeat h (by omega)]
  rw [if_neg h46] at h
  by_cases h92 : chr p i = 92
  · rw [if_pos h92] at h
    split at h
    · rename_i h8
      have h8' := h8
      unfold oneOf at h8'
      simp only [Bool.and_eq_true, decide_eq_true_eq] at h8'
      refine ⟨0, by omega, fun q a d' A hd' => ⟨fun _ => ?_, fun h => by omega⟩, repeatR_isT (isT_set _) h, fun L hL => ScB.of_eq fun n M => ?_⟩
      · unfold pieceR
        simp only
        have o1 : Ere.oneOf q (a + i + 1) marks = true := by rw [Nat.add_assoc, A.oneOf h8'.1]; exact h8
        rw [A.at_ i hi, if_neg h94, if_neg h36, if_neg hrp, if_neg h40, if_neg h91, if_neg h46, if_pos h92, o1, if_pos rfl, Nat.add_assoc, A.at_ (i + 1) h8'.1, Nat.add_assoc]
        exact A.repeatR (by omega) h
      · rw [stp, if_pos h92, Bs_repeat h (by omega)]
    · cases h
  rw [if_neg h92] at h
  refine ⟨0, by omega, fun q a d' A hd' => ⟨fun _ => ?_, fun h => by omega⟩, repeatR_isT (isT_set _) h, fun L hL => ?_⟩
  · unfold pieceR
    simp only
    rw [A.at_ i hi, if_neg h94, if_neg h36, if_neg hrp, if_neg h40, if_neg h91, if_neg h46, if_neg h92, Nat.add_assoc]
    exact A.repeatR (by omega) h
  · exact ScB.of_eq fun n M => by rw [Bs_dull1 hi (by unfold dull; omega), Bs_repeat h (by omega)]
/-- the pieces of an alternative -/
theorem alt_ok {d : Nat} (hd : d ≤ 64) (hpc : ∀ i t j, i < p.size → chr p i ≠ 41 → chr p i ≠ 124 → pieceR p (inn p d) i = .got t j → PcOk p d i t j) :
    ∀ n i l t j, i ≤ p.size → (∀ x ∈ l, x.isT = true) → alF p d n i l = .got t j →
      ∃ h, h ≤ d ∧ (∀ q a d' n', Emb p q a → d' ≤ 64 → (d' = 64 → d = 64) → (j = p.size → EndA q (decide (d' = 64)) (a + p.size)) → a + p.size + 1 ≤ n' + (a + i) → (h ≤ d' → alF q d' n' (a + i) l = .got t (a + j)) ∧ (d' < h → Deep (alF q d' n' (a + i) l))) ∧ t.isT = true ∧ ∀ L : Int, 0 ≤ L → ScB p i j L 0 h
  | 0, _, _, _, _, _, _, h => by cases h
  | n + 1, i, l, t, j, hi, hl, h => by
    have pf : ∀ i t j, i < p.size → pieceR p (inn p d) i = .got t j → i < j ∧ j ≤ p.size := fun i t j hi h => pieceR_fwd (inn_fwd d) h hi
    have hf := altR_fwd pf _ _ _ _ _ hi h
    unfold alF altR at h
    by_cases hend : (decide (p.size ≤ i) || isAt p i 124) = true
    · rw [if_pos hend] at h
      injection h with h1 h2
      subst h1 h2
      refine ⟨0, by omega, fun q a d' n' A hd' htop hE hn' => ⟨fun _ => ?_, fun h => by omega⟩, isT_some3 hl (.inl rfl), fun L hL => ScB.of_eq fun n M => rfl⟩
      obtain ⟨n', rfl⟩ : ∃ c, n' = c + 1 := ⟨n' - 1, by omega⟩
      unfold alF altR
      simp only [Bool.or_eq_true, decide_eq_true_eq] at hend
      rcases hend with hend | hend
      · have hip : i = p.size := by omega
        subst hip
        rcases hE rfl with e | e | e
        · rw [decide_eq_true (show q.size ≤ a + p.size by omega)]; rfl
        · rw [e, Bool.or_true]; rfl
        · rw [e.1, e.2.1, e.2.2]
          by_cases hz : q.size ≤ a + p.size
          · rw [decide_eq_true hz]; rfl
          · rw [decide_eq_false hz]; rfl
      · rw [A.isAt (isAt_lt hend), hend, Bool.or_true]
        rfl
    · rw [if_neg hend] at h
      simp only [Bool.or_eq_true, decide_eq_true_eq, not_or] at hend
      have hip : i < p.size := by omega
      have e124 : isAt p i 124 = false := by simpa using hend.2
      by_cases h41 : isAt p i 41 = true
      · rw [if_pos h41] at h
        split at h
        · cases h
        rename_i htp
        injection h with h1 h2
        subst h1 h2
        have hd64 : d ≠ 64 := by simpa using htp
        refine ⟨0, by omega, fun q a d' n' A hd' htop hE hn' => ⟨fun _ => ?_, fun h => by omega⟩, isT_some3 hl (.inl rfl), fun L hL => ScB.of_eq fun n M => rfl⟩
        obtain ⟨n', rfl⟩ : ∃ c, n' = c + 1 := ⟨n' - 1, by omega⟩
        unfold alF altR
        rw [A.isAt hip, A.isAt hip, e124, h41, decide_eq_false (show ¬ q.size ≤ a + i by have := A.le; omega), decide_eq_false (show ¬ d' = 64 by omega)]
        rfl
      · rw [if_neg h41] at h
        have e41 : isAt p i 41 = false := by simpa using h41
        have c41 : chr p i ≠ 41 := fun e => h41 (by unfold isAt; rw [decide_eq_true hip, e]; rfl)
        have c124 : chr p i ≠ 124 := fun e => hend.2 (by unfold isAt; rw [decide_eq_true hip, e]; rfl)
        cases hc : pieceR p (inn p d) i with
        | fault e a => rw [hc] at h; cases h
        | got u k =>
          rw [hc] at h
          simp only [Res.bind] at h
          have hk := pf i u k hip hc
          obtain ⟨h1, hh1, hemb1, hT1, hsc1⟩ := hpc i u k hip c41 c124 hc
          obtain ⟨h2, hh2, hemb2, hT2, hsc2⟩ := alt_ok hd hpc n k (l ++ [u]) t j hk.2 (fun x hx => by
            rcases List.mem_append.1 hx with hx | hx
            · exact hl x hx
            · rw [List.mem_singleton.1 hx]; exact hT1) h
          refine ⟨max h1 h2, by omega, fun q a d' n' A hd' htop hE hn' => ?_, hT2, fun L hL => (hsc1 L hL).trans (hsc2 L hL)⟩
          obtain ⟨n', rfl⟩ : ∃ c, n' = c + 1 := ⟨n' - 1, by omega⟩
          have g1 := hemb1 q a d' A hd'
          have g2 := hemb2 q a d' n' A hd' htop hE (by omega)
          have key : alF q d' (n' + 1) (a + i) l = (pieceR q (inn q d') (a + i)).bind fun t j => alF q d' n' j (l ++ [t]) := by
            unfold alF
            conv => lhs; unfold altR
            rw [A.isAt hip, A.isAt hip, e124, e41, decide_eq_false (show ¬ q.size ≤ a + i by have := A.le; omega)]
            rfl
          rw [key]
          by_cases hle : h1 ≤ d'
          · rw [g1.1 hle]
            simp only [Res.bind]
            exact ⟨fun h => g2.1 (by omega), fun h => g2.2 (by omega)⟩
          · obtain ⟨x, e⟩ := g1.2 (by omega)
            rw [e]
            exact ⟨fun h => by omega, fun h => ⟨x, rfl⟩⟩
/-- the alternatives of a pattern -/
theorem patL_ok {d : Nat} (hd : d ≤ 64) (hal : ∀ i t j, i ≤ p.size → alR p d i = .got t j → AlOk p d i t j) :
    ∀ n i l t j, i ≤ p.size → (∀ x ∈ l, x.isT = true) → patL p (alR p d) n i l = .got t j →
      ∃ h c, h ≤ d ∧ (∀ q a d' n', Emb p q a → d' ≤ 64 → (d' = 64 → d = 64) → (j = p.size → EndP q (decide (d' = 64)) (a + p.size)) → a + p.size + 1 ≤ n' + (a + i) → (h ≤ d' → patL q (alR q d') n' (a + i) l = .got t (a + j)) ∧ (d' < h → Deep (patL q (alR q d') n' (a + i) l))) ∧ t.isT = true ∧ (∀ L : Int, 0 ≤ L → ScB p i j L (if L = 0 then c else 0) h) ∧ (c = 0 → l = [] → alR p d i = .got t j)
  | 0, _, _, _, _, _, _, h => by cases h
  | n + 1, i, l, t, j, hi, hl, h => by
    have pf : ∀ i t j, i < p.size → pieceR p (inn p d) i = .got t j → i < j ∧ j ≤ p.size := fun i t j hi h => pieceR_fwd (inn_fwd d) h hi
    have af : ∀ i t j, i ≤ p.size → alR p d i = .got t j → i ≤ j ∧ j ≤ p.size := fun i t j hi h => altR_fwd pf _ _ _ _ _ hi h
    unfold patL at h
    cases hc : alR p d i with
    | fault e a => rw [hc] at h; cases h
    | got u k =>
      rw [hc] at h
      simp only [Res.bind] at h
      have hk := af i u k hi hc
      have hkend := altR_end _ _ _ _ _ hc
      obtain ⟨h1, hh1, hemb1, hT1, hsc1⟩ := hal i u k hi hc
      have hlu : ∀ x ∈ l ++ [u], x.isT = true := fun x hx => by
        rcases List.mem_append.1 hx with hx | hx
        · exact hl x hx
        · rw [List.mem_singleton.1 hx]; exact hT1
      have key : ∀ q (a d' n' : Nat), patL q (alR q d') (n' + 1) (a + i) l = (alR q d' (a + i)).bind fun t j => if isAt q j 124 then patL q (alR q d') n' (j + 1) (l ++ [t]) else .got (someN 4 (l ++ [t])) j := fun q a d' n' => by
        conv => lhs; unfold patL
      split at h
      · rename_i hb
        have hkl := isAt_lt hb
        have hkj := patL_fwd af _ _ _ _ _ (by omega) h
        obtain ⟨h2, c, hh2, hemb2, hT2, hsc2, -⟩ := patL_ok hd hal n (k + 1) (l ++ [u]) t j (by omega) hlu h
        refine ⟨max h1 h2, c + 1, by omega, fun q a d' n' A hd' htop hE hn' => ?_, hT2, fun L hL => ?_, fun e => by omega⟩
        · obtain ⟨n', rfl⟩ : ∃ c, n' = c + 1 := ⟨n' - 1, by omega⟩
          have g1 := hemb1 q a d' A hd' htop (fun e => by omega)
          have g2 := hemb2 q a d' n' A hd' htop hE (by omega)
          rw [key]
          by_cases hle : h1 ≤ d'
          · rw [g1.1 hle]
            simp only [Res.bind]
            rw [A.isAt hkl, if_pos hb]
            exact ⟨fun h => g2.1 (by omega), fun h => g2.2 (by omega)⟩
          · obtain ⟨x, e⟩ := g1.2 (by omega)
            rw [e]
            exact ⟨fun h => by omega, fun h => ⟨x, rfl⟩⟩
        · intro nn M hM
          have q1 : chr p k = 124 := isAt_eq hb
          have h5 : chr p k ≠ 92 ∧ chr p k ≠ 91 ∧ chr p k ≠ 40 ∧ chr p k ≠ 41 := by omega
          rw [hsc1 L hL nn M hM, Bs_step hkl, if_neg h5.1, if_neg h5.2.1, if_neg h5.2.2.1, if_neg h5.2.2.2, if_pos q1, hsc2 L hL _ _ (by omega)]
          by_cases hL0 : L = 0
          · rw [if_pos hL0, if_pos hL0, if_pos hL0]
            congr 1 <;> omega
          · rw [if_neg hL0, if_neg hL0, if_neg hL0]
            congr 1 <;> omega
      · rename_i hb
        injection h with h3 h4
        subst h3 h4
        refine ⟨h1, 0, hh1, fun q a d' n' A hd' htop hE hn' => ?_, isT_some3 hlu (.inr rfl), fun L hL => ?_, fun _ e => by rw [e]; rfl⟩
        · obtain ⟨n', rfl⟩ : ∃ c, n' = c + 1 := ⟨n' - 1, by omega⟩
          have g1 := hemb1 q a d' A hd' htop (fun e => (hE e).a)
          rw [key]
          by_cases hle : h1 ≤ d'
          · rw [g1.1 hle]
            simp only [Res.bind]
            have hno : isAt q (a + k) 124 = false := by
              by_cases e : k < p.size
              · rw [A.isAt e]; simpa using hb
              · obtain rfl : k = p.size := by omega
                exact (hE rfl).no
            rw [hno]
            exact ⟨fun h => rfl, fun h => by omega⟩
          · obtain ⟨x, e⟩ := g1.2 (by omega)
            rw [e]
            exact ⟨fun h => by omega, fun h => ⟨x, rfl⟩⟩
        · rw [show (if L = 0 then 0 else 0) = 0 by split <;> rfl]
          exact hsc1 L hL
theorem al_ok {d : Nat} (hd : d ≤ 64) (ih : ∀ d0, d = d0 + 1 → ∀ i t j, i ≤ p.size → patR p d0 i = .got t j → PtOk p d0 i t j) (i : Nat) (t : Nd) (j : Nat) (hi : i ≤ p.size) (h : alR p d i = .got t j) : AlOk p d i t j := by
  obtain ⟨x, h1, h2, h3, h4⟩ := alt_ok hd (fun i t j hi h41 h124 h => piece_ok hd ih hi h41 h124 h) _ i [] t j hi (fun x hx => by simp at hx) h
  exact ⟨x, h1, fun q a d' A hd' htop hE => h2 q a d' (q.size + 2) A hd' htop hE (by have := A.le; omega), h3, h4⟩
theorem pat_ok : ∀ d, d ≤ 64 → ∀ i t j, i ≤ p.size → patR p d i = .got t j → PtOk p d i t j
  | d, hd, i, t, j, hi, h => by
    have ih : ∀ d0, d = d0 + 1 → ∀ i t j, i ≤ p.size → patR p d0 i = .got t j → PtOk p d0 i t j := fun d0 e i t j hi h => pat_ok d0 (by omega) i t j hi h
    rw [patR_al] at h
    obtain ⟨x, c, h1, h2, h3, h4, h5⟩ := patL_ok hd (al_ok hd ih) _ i [] t j hi (fun x hx => by simp at hx) h
    refine ⟨x, c, h1, fun q a d' A hd' htop hE => ?_, h3, h4, fun e => h5 e rfl⟩
    rw [patR_al]
    exact h2 q a d' (q.size + 2) A hd' htop hE (by have := A.le; omega)
end
end Ere
end Go.Proofs.YtkedgombccdamaaDoor
namespace Go.Proofs.YtkedgombccdamaaDoor
set_option linter.unusedVariables false
set_option linter.unusedSimpArgs false

namespace Ere
theorem chr_app (p t : ByteArray) (k : Nat) : chr (p ++ t) k = if k < p.size then chr p k else chr t (k - p.size) := by
  unfold chr
  by_cases hk : k < p.size
  · rw [if_pos hk, dif_pos (by rw [ByteArray.size_append]; omega), dif_pos hk, ByteArray.getElem_append_left hk]
  · rw [if_neg hk]
    by_cases h2 : k - p.size < t.size
    · rw [dif_pos (by rw [ByteArray.size_append]; omega), dif_pos h2, ByteArray.getElem_append_right (by omega)]
    · rw [dif_neg (by rw [ByteArray.size_append]; omega), dif_neg h2]
theorem isAt_of {p : ByteArray} {i c : Nat} (h : i < p.size) (e : chr p i = c) : isAt p i c = true := by
  unfold isAt
  rw [decide_eq_true h, e]
  simp
theorem isAt_ne {p : ByteArray} {i c : Nat} (e : chr p i ≠ c) : isAt p i c = false := by
  unfold isAt
  rw [decide_eq_false e, Bool.and_false]
theorem isAt_out {p : ByteArray} {i c : Nat} (h : p.size ≤ i) : isAt p i c = false := by
  unfold isAt
  rw [decide_eq_false (by omega), Bool.false_and]
section
variable {p : ByteArray}
theorem alF_piece {d n i k : Nat} {l : List Nd} {u : Nd} (hi : i < p.size) (h1 : chr p i ≠ 124) (h2 : chr p i ≠ 41) (h : pieceR p (inn p d) i = .got u k) : alF p d (n + 1) i l = alF p d n k (l ++ [u]) := by
  conv => lhs; unfold alF altR
  rw [isAt_ne h1, isAt_ne h2, decide_eq_false (by omega), h]
  rfl
theorem alF_fault {d n i e x : Nat} {l : List Nd} (hi : i < p.size) (h1 : chr p i ≠ 124) (h2 : chr p i ≠ 41) (h : pieceR p (inn p d) i = .fault e x) : alF p d (n + 1) i l = .fault e x := by
  conv => lhs; unfold alF altR
  rw [isAt_ne h1, isAt_ne h2, decide_eq_false (by omega), h]
  rfl
theorem alF_end {d n i : Nat} {l : List Nd} (hi : p.size ≤ i ∨ isAt p i 124 = true) : alF p d (n + 1) i l = .got (someN 3 l) i := by
  unfold alF altR
  rw [if_pos]
  rcases hi with h | h
  · rw [decide_eq_true h]; rfl
  · rw [h, Bool.or_true]
theorem patL_end' {al : Nat → Res Nd} {n i k : Nat} {l : List Nd} {u : Nd} (h : al i = .got u k) (hk : isAt p k 124 = false) : patL p al (n + 1) i l = .got (someN 4 (l ++ [u])) k := by
  unfold patL
  rw [h]
  simp only [Res.bind]
  rw [hk]
  rfl
theorem patL_fault {al : Nat → Res Nd} {n i e x : Nat} {l : List Nd} (h : al i = .fault e x) : patL p al (n + 1) i l = .fault e x := by
  unfold patL
  rw [h]
  rfl
theorem piece_group {d i k : Nat} {u : Nd} (hi : chr p i = 40) (h : patR p d (i + 1) = .got u k) (hk : k < p.size) : pieceR p (inn p (d + 1)) i = repeatR p u (k + 1) := by
  unfold pieceR
  simp only [inn]
  rw [if_neg (by omega), if_neg (by omega), if_neg (by omega), if_pos hi, h]
  simp only [Res.bind]
  rw [if_neg (by omega)]
theorem piece_group_fault {d i e x : Nat} (hi : chr p i = 40) (h : patR p d (i + 1) = .fault e x) : pieceR p (inn p (d + 1)) i = .fault e x := by
  unfold pieceR
  simp only [inn]
  rw [if_neg (by omega), if_neg (by omega), if_neg (by omega), if_pos hi, h]
  rfl
/-- at the top a pattern is read to its end -/
theorem alR_top {i j : Nat} {t : Nd} : ∀ n l, alF p 64 n i l = .got t j → p.size ≤ j ∨ isAt p j 124 = true := by
  intro n
  induction n generalizing i with
  | zero => intro l h; cases h
  | succ n ih =>
    intro l h
    unfold alF altR at h
    split at h
    · rename_i h1
      injection h with _ h2
      subst h2
      simp only [Bool.or_eq_true, decide_eq_true_eq] at h1
      exact h1
    · split at h
      · rw [if_pos (by decide)] at h
        cases h
      · cases hc : pieceR p (inn p 64) i with
        | fault e a => rw [hc] at h; cases h
        | got u k =>
          rw [hc] at h
          exact ih _ h
theorem patL_top {j : Nat} {t : Nd} : ∀ n i l, patL p (alR p 64) n i l = .got t j → p.size ≤ j
  | 0, _, _, h => by cases h
  | n + 1, i, l, h => by
    unfold patL at h
    cases hc : alR p 64 i with
    | fault e a => rw [hc] at h; cases h
    | got u k =>
      rw [hc] at h
      simp only [Res.bind] at h
      split at h
      · exact patL_top n _ _ h
      · rename_i h1
        injection h with _ h2
        subst h2
        rcases alR_top _ _ hc with h3 | h3
        · exact h3
        · exact absurd h3 h1
theorem patR_top {j : Nat} {t : Nd} (h : patR p 64 0 = .got t j) : j = p.size := by
  have h1 := patR_fwd 64 0 t j (by omega) h
  rw [patR_al] at h
  have := patL_top _ _ _ h
  omega
/-- a pattern that is read -/
structure Good4 (p : ByteArray) (t : Nd) : Prop where
  size : p.size ≤ 1024
  nl : ∀ k, k < p.size → chr p k ≠ 10
  got : patR p 64 0 = .got t p.size
  places : placesN t ≤ 2048
theorem parse_ok (h : (parseR p).2.2 = 0) : Good4 p (parseR p).1 ∧ (parseR p).2.1 = 0 := by
  obtain ⟨R, hR⟩ : ∃ R, parseR p = R := ⟨_, rfl⟩
  rw [hR] at h ⊢
  unfold parseR at hR
  split at hR
  · subst hR; cases h
  rename_i hs
  split at hR
  · subst hR; cases h
  rename_i hn
  split at hR
  · rename_i e a he
    have := patR_bad 64 0 e a (by omega) he
    subst hR
    unfold BadF okE at this
    simp only at h
    omega
  rename_i t j he
  split at hR
  · subst hR; cases h
  rename_i hp
  have := patR_top he
  subst this
  subst hR
  exact ⟨⟨by omega, fun k hk => nlAt_none p (p.size + 1) 0 (by omega) hn k (by omega) hk, he, by show placesN t ≤ 2048; omega⟩, rfl⟩
theorem parse_of {t : Nd} {j : Nat} (hs : p.size ≤ 1024) (hn : ∀ k, k < p.size → chr p k ≠ 10) (h : patR p 64 0 = .got t j) : parseR p = if 2048 < placesN t then (zeroN, 0, 48) else (t, 0, 0) := by
  unfold parseR
  rw [if_neg (by omega), nlAt_all hn]
  simp only [h]
theorem parse_fault {e x : Nat} (hs : p.size ≤ 1024) (hn : ∀ k, k < p.size → chr p k ≠ 10) (h : patR p 64 0 = .fault e x) : parseR p = (zeroN, x, e) := by
  unfold parseR
  rw [if_neg (by omega), nlAt_all hn]
  simp only [h]
theorem parse_long (hs : 1024 < p.size) : parseR p = (zeroN, 1024, 40) := by
  unfold parseR
  rw [if_pos hs]
/-- bars and depth of a pattern that is read -/
theorem good_bars {t : Nd} (g : Good4 p t) : ∃ h c : Nat, barsP p = ((c : Int), (h : Int)) ∧ h ≤ 64 ∧ t.isT = true ∧
    (∀ q a, Emb p q a → EndP q false (a + p.size) → (h ≤ 63 → patR q 63 a = .got t (a + p.size)) ∧ (63 < h → Deep (patR q 63 a))) ∧
    (c = 0 → ∀ q a, Emb p q a → EndA q true (a + p.size) → alR q 64 a = .got t (a + p.size)) := by
  obtain ⟨h, c, h1, h2, h3, h4, h5⟩ := pat_ok 64 (by omega) 0 t p.size (by omega) g.got
  refine ⟨h, c, ?_, h1, h3, fun q a A hE => ?_, fun hc q a A hE => ?_⟩
  · have := h4 0 (by omega) 0 0 (by omega)
    rw [if_pos rfl, Bs_end (Nat.le_refl _)] at this
    unfold barsP
    unfold Bs at this
    rw [this]
    congr 1 <;> omega
  · have := h2 q a 63 A (by omega) (by omega) (fun _ => by rwa [decide_eq_false (by omega)])
    exact ⟨fun h => this.1 h, fun h => this.2 h⟩
  · obtain ⟨h', h6, h7, -, -⟩ := al_ok (by omega) (fun d0 e i t j hi h => pat_ok d0 (by omega) i t j hi h) 0 t p.size (by omega) (h5 hc)
    exact (h7 q a 64 A (by omega) (fun _ => rfl) (fun _ => by rwa [decide_eq_true rfl])).1 h6
end
/-- in brackets -/
def brk (p : ByteArray) : ByteArray := ⟨#[40]⟩ ++ p ++ ⟨#[41]⟩
theorem brk_size (p : ByteArray) : (brk p).size = p.size + 2 := by
  unfold brk
  rw [ByteArray.size_append, ByteArray.size_append]
  show 1 + p.size + 1 = _
  omega
theorem brk_chr (p : ByteArray) (k : Nat) : chr (brk p) k = if k = 0 then 40 else if k < p.size + 1 then chr p (k - 1) else if k = p.size + 1 then 41 else 0 := by
  unfold brk
  rw [chr_app, chr_app, ByteArray.size_append]
  have s1 : (⟨#[40]⟩ : ByteArray).size = 1 := rfl
  rw [s1]
  by_cases h0 : k = 0
  · subst h0
    rw [if_pos (by omega), if_pos (by omega), if_pos rfl]
    rfl
  rw [if_neg h0]
  by_cases h1 : k < p.size + 1
  · rw [if_pos (by omega), if_neg (by omega), if_pos h1]
  rw [if_neg (by omega), if_neg h1]
  by_cases h2 : k = p.size + 1
  · rw [if_pos h2, h2, show p.size + 1 - (1 + p.size) = 0 by omega]
    rfl
  rw [if_neg h2]
  unfold chr
  rw [dif_neg]
  show ¬ (k - (1 + p.size) < 1)
  omega
theorem brk_emb (p : ByteArray) : Emb p (brk p) 1 := by
  refine ⟨by rw [brk_size]; omega, fun k hk => ?_, fun c hc => isAt_ne ?_⟩
  · rw [brk_chr, if_neg (by omega), if_pos (by omega), show 1 + k - 1 = k by omega]
  · rw [brk_chr, if_neg (by omega), if_neg (by omega), if_pos (by omega)]
    omega
theorem brk_nl {p : ByteArray} (h : ∀ k, k < p.size → chr p k ≠ 10) : ∀ k, k < (brk p).size → chr (brk p) k ≠ 10 := by
  intro k hk
  rw [brk_size] at hk
  rw [brk_chr]
  split
  · omega
  split
  · exact h _ (by omega)
  · rw [if_pos (by omega)]; omega
/-- what EreTrees says -/
structure TreesHold (p : ByteArray) : Prop where
  bad : (parseR p).2.2 ≠ 0 → (parseR p).1 = zeroN ∧ (parseR p).2.1 ≤ p.size ∧ ((40 ≤ (parseR p).2.2 ∧ (parseR p).2.2 ≤ 48) ∨ (parseR p).2.2 = 30) ∧ (p.size ≤ 1024 ∨ ((parseR p).2.2 = 40 ∧ (parseR p).2.1 = 1024))
  good : (parseR p).2.2 = 0 → (parseR p).2.1 = 0 ∧ (parseR p).1.isT = true ∧ 1 ≤ placesN (parseR p).1 ∧ placesN (parseR p).1 ≤ 2048 ∧ p.size ≤ 1024 ∧ ∃ c h : Nat, barsP p = ((c : Int), (h : Int)) ∧
    (1022 < p.size → parseR (brk p) = (zeroN, 1024, 40)) ∧ (p.size ≤ 1022 → 64 ≤ h → (parseR (brk p)).2.2 = 47) ∧ (p.size ≤ 1022 → h ≤ 63 → parseR (brk p) = ((parseR p).1, 0, 0))
theorem brk_alF {p : ByteArray} {u : Nd} (h : patR (brk p) 63 1 = .got u (1 + p.size)) : patR (brk p) 64 0 = .got u (brk p).size := by
  have hs := brk_size p
  have hc : chr (brk p) 0 = 40 := by rw [brk_chr, if_pos rfl]
  rw [patR_al]
  refine patL_end' (n := (brk p).size + 1) (l := []) (u := u) ?_ (isAt_out (Nat.le_refl _))
  unfold alR
  have hp : pieceR (brk p) (inn (brk p) 64) 0 = .got u (brk p).size := by
    rw [piece_group (d := 63) hc h (by omega), show 1 + p.size + 1 = (brk p).size by omega, repeatR_end (Nat.le_refl _)]
  rw [show (brk p).size + 2 = ((brk p).size + 1) + 1 from rfl, alF_piece (by omega) (by omega) (by omega) hp, alF_end (.inl (Nat.le_refl _))]
  rfl
theorem trees_hold (p : ByteArray) : TreesHold p := by
  refine ⟨fun h => ?_, fun h => ?_⟩
  · obtain ⟨R, hR⟩ : ∃ R, parseR p = R := ⟨_, rfl⟩
    rw [hR] at h ⊢
    unfold parseR at hR
    split at hR
    · rename_i hs
      subst hR
      exact ⟨rfl, by simp only; omega, .inl ⟨by simp only; omega, by simp only; omega⟩, .inr ⟨rfl, rfl⟩⟩
    rename_i hs
    split at hR
    · rename_i i hn
      have := nlAt_some p _ _ _ hn
      subst hR
      exact ⟨rfl, by simp only; omega, .inl ⟨by simp only; omega, by simp only; omega⟩, .inl (by omega)⟩
    rename_i hn
    split at hR
    · rename_i e a he
      have := patR_bad 64 0 e a (by omega) he
      unfold BadF okE at this
      subst hR
      exact ⟨rfl, by simp only; omega, by simp only; omega, .inl (by omega)⟩
    rename_i t j he
    split at hR
    · rename_i hp
      subst hR
      exact ⟨rfl, by simp only; omega, .inl ⟨by simp only; omega, by simp only; omega⟩, .inl (by omega)⟩
    · subst hR; exact absurd rfl h
  · obtain ⟨g, ha⟩ := parse_ok h
    obtain ⟨t, ht⟩ : ∃ t, (parseR p).1 = t := ⟨_, rfl⟩
    rw [ht] at g ⊢
    obtain ⟨hh, c, hb, h64, hT, hemb, -⟩ := good_bars g
    have hs := brk_size p
    have hE := hemb (brk p) 1 (brk_emb p) (.inr ⟨isAt_of (by omega) (by rw [brk_chr, if_neg (by omega), if_neg (by omega), if_pos (by omega)]), isAt_ne (by rw [brk_chr, if_neg (by omega), if_neg (by omega), if_pos (by omega)]; omega), rfl⟩)
    have hp1 : 1 ≤ placesN t := by unfold placesN; rw [hT, if_pos rfl]; omega
    refine ⟨ha, hT, hp1, g.places, g.size, c, hh, hb, fun h1 => parse_long (by omega), fun h1 h2 => ?_, fun h1 h2 => ?_⟩
    · obtain ⟨x, e⟩ := hE.2 (by omega)
      have hc : chr (brk p) 0 = 40 := by rw [brk_chr, if_pos rfl]
      have : patR (brk p) 64 0 = .fault 47 x := by
        rw [patR_al]
        refine patL_fault (n := (brk p).size + 1) ?_
        unfold alR
        rw [show (brk p).size + 2 = ((brk p).size + 1) + 1 from rfl]
        exact alF_fault (by omega) (by omega) (by omega) (piece_group_fault (d := 63) hc e)
      rw [parse_fault (by omega) (brk_nl g.nl) this]
    · rw [parse_of (by omega) (brk_nl g.nl) (brk_alF (hE.1 h2)), if_neg (by have := g.places; omega)]
end Ere
end Go.Proofs.YtkedgombccdamaaDoor
namespace Go.Proofs.YtkedgombccdamaaDoor
open Go.ChangeShapes Go.WideShapes Go.ChangeAt Go.RowKit
open Go.ChangeMaps (open_string shut_string)
set_option linter.unusedVariables false
set_option linter.unusedSimpArgs false

theorem own : ownKnob Tryd.prog.godebug = none := by kernel_rfl
theorem laidOut : laidOutB Tryd.prog = true := by kernel_rfl
section
variable {H : Type} {enc : TypeId × Value → H} {w : World} {base : Nat} {spare : Nat → Bool} {held : Bool} {fuel : Nat}
end

theorem choose_list {α : Type} {p : Nat → α → Prop} : ∀ (n : Nat), (∀ i, i < n → ∃ y, p i y) → ∃ l : List α, l.length = n ∧ ∀ i (h : i < l.length), p i l[i]
  | 0, _ => ⟨[], rfl, fun i h => absurd h (by simp)⟩
  | n + 1, h => by
    obtain ⟨l, hl, hp⟩ := choose_list n (fun i hi => h i (by omega))
    obtain ⟨y, hy⟩ := h n (by omega)
    refine ⟨l ++ [y], by simp [hl], fun i hi => ?_⟩
    by_cases e : i < l.length
    · rw [List.getElem_append_left e]; exact hp i e
    · have : i = n := by simp at hi; omega
      subst this
      rw [List.getElem_append_right (by omega)]
      simpa using hy
theorem spot_none {w : World} {a : Addr} {v : Value} (h : w.cell? a = some v) : a.spot = none := World.cell?_spot h
end Go.Proofs.YtkedgombccdamaaDoor
namespace Go.Proofs.YtkedgombccdamaaDoor
open Go.ChangeShapes Go.WideShapes Go.ChangeAt Go.RowKit
set_option linter.unusedVariables false
set_option linter.unusedSimpArgs false

def encStr (s : ByteArray) : Array Value := #[.string s]
theorem encStr_size (s : ByteArray) : (encStr s).size = 1 := rfl
theorem cells_string : Tryd.prog.cellsOf 9 = 1 := by kernel_rfl
end Go.Proofs.YtkedgombccdamaaDoor
namespace Go.Proofs.YtkedgombccdamaaDoor
open Go.RowKit
set_option linter.unusedVariables false
set_option linter.unusedSimpArgs false

/-- what is left is left by the end alone -/
def onlyN (K : Act → World → Prop) : Exit → Act → World → Prop
  | .normal, a, w => K a w
  | _, _, _ => False
theorem onlyN_normal {K : Act → World → Prop} {a : Act} {w : World} (h : K a w) : onlyN K .normal a w := h
theorem onlyN_out (K : Act → World → Prop) (h : LetsOut (onlyN K)) : False := by
  obtain ⟨_, _, h⟩ := h
  exact h
def noDefer (o : Oper) : Bool := match o.op with | .defer _ => false | _ => true
theorem noDefer_ne {o : Oper} (h : noDefer o = true) : ∀ c, o.op ≠ .defer c := by
  intro c e
  unfold noDefer at h
  rw [e] at h
  cases h
section
variable {P : Program} {n r : Nat} {Q : Exit → Act → World → Prop} {X : Act → World → Prop} {ops : Array Oper}
theorem oper_in {o : Oper} {a : Act} {w : World} {K : Act → World → Prop} (hd : noDefer o = true) (h : o.wp P a w K (onlyN X)) : o.wpIn (Fence.wide.inRound r) n P a w K Q := by
  unfold Oper.wp at h
  refine ⟨fun _ _ => trivial, ?_⟩
  rw [Fence.inRound_round, Oper.semAt_some r _ o (noDefer_ne hd)]
  generalize (execOp a.eval o).run P w = res at h
  cases res with
  | ok x w' =>
    cases x with
    | value v => exact h
    | skip => exact h
    | defer d => exact h
    | enter f args =>
      refine ⟨fun e => by simp [Fence.wide] at e, ?_⟩
      have h' : Calls P f args w' _ := h
      refine (CallsIn.inRound r ((callsIn_wide (n := n - 1)).2 h')).mono ?_
      intro e w'' he
      cases e with
      | returned v => exact he
      | panicked c => exact he.elim
      | outgrown => exact (onlyN_out X he).elim
    | row row args =>
      refine ⟨fun e => by simp [Fence.wide] at e, ?_⟩
      intro c cs _
      obtain ⟨v, w2, h1, h2⟩ := h c cs
      exact ⟨v, w2, h1, stepsIn_wide.2 h2⟩
    | _ => exact h.elim
  | halt x w' =>
    cases x with
    | panic v => exact h.elim
    | _ => exact h.elim
theorem list_in : ∀ (l : List Oper) (a : Act) (w : World), l.all noDefer = true → wpList P ops (onlyN fun a w => Q .normal a w) l a w → wpListIn (Fence.wide.inRound r) n P ops Q l a w
  | [], a, w, _, h => h
  | o :: l, a, w, hd, h => by
    simp only [List.all_cons, Bool.and_eq_true] at hd
    unfold wpList at h
    unfold wpListIn
    split
    · rename_i hw
      rw [if_pos hw] at h
      rcases h with h | ⟨_, h⟩
      · exact Oper.wpIn_mono (fun a w h => list_in l a w hd.2 h) (oper_in hd.1 h)
      · exact (onlyN_out _ h).elim
    · rename_i hw
      rw [if_neg hw] at h
      exact ⟨fun _ _ => trivial, list_in l _ w hd.2 h⟩
theorem any_in (hd : ops.all noDefer = true) : ∀ (m : Nat) (listed : Array Bool) (a : Act) (w : World), wpAny P .any ops (onlyN fun a w => Q .normal a w) m listed a w → wpAnyIn (Fence.wide.inRound r) n P .any ops Q m listed a w
  | 0, listed, a, w, h => h
  | m + 1, listed, a, w, h => by
    refine ⟨h.1, fun i hi => ?_⟩
    have h2 := h.2 i hi
    unfold wpOp at h2
    unfold wpOpIn
    cases ho : ops[i]? with
    | none =>
      rw [ho] at h2
      exact any_in hd m _ a w h2
    | some o =>
      rw [ho] at h2
      simp only at h2 ⊢
      have hno : noDefer o = true := by
        obtain ⟨hlt, he⟩ := Array.getElem?_eq_some_iff.1 ho
        exact (Array.all_eq_true_iff_forall_mem.1 hd) o (he ▸ Array.getElem_mem hlt)
      split
      · rename_i hw
        rw [if_pos hw] at h2
        rcases h2 with h2 | ⟨_, h2⟩
        · exact Oper.wpIn_mono (fun a w h => any_in hd m _ a w h) (oper_in hno h2)
        · exact (onlyN_out _ h2).elim
      · rename_i hw
        rw [if_neg hw] at h2
        exact ⟨fun _ _ => trivial, any_in hd m _ _ w h2⟩
theorem region_in {id : Nat} {l : List Oper} {a : Act} {w : World} (hd : l.all noDefer = true) (h : wpList P l.toArray (onlyN fun a w => Q .normal a w) l a w) : (Code.region id l.toArray false).wpIn (Fence.wide.inRound r) n P Q a w :=
  wpIn_region_lit (list_in l a w hd h)
end

end Go.Proofs.YtkedgombccdamaaDoor
namespace Go.Proofs.YtkedgombccdamaaDoor
open Go.RowKit
set_option linter.unusedVariables false
set_option linter.unusedSimpArgs false

section
variable {P : Program} {Q : Exit → Act → World → Prop} {a : Act} {w : World} {l : List Oper}
theorem any_steps (n : Nat) (S : List GSpec) (ds : List Nat) (hB : growB l.toArray n a.tmps.size = true)
    (hds : headDsts l.toArray n = ds) (hstep : Steps P l.toArray (specAt S) Q n a w (l.take n) 0)
    (hend : ∀ (u : Nat → Value) w', Below w.heap.size w w' → (∀ j d, j < n → (l[j]?).bind (·.dst) = some d → (specAt S j).p (u d) w') → wpList P l.toArray Q (l.drop n) (putAll a ds u) w') :
    wpAny P .any l.toArray Q l.toArray.size (Array.replicate l.toArray.size false) a w.drew := by
  subst hds
  have hdr : ∀ {x : World}, Below w.heap.size w x → Below w.heap.size w.drew x := fun h => ⟨h.os, h.tape, h.output, h.size, h.block⟩
  have hrd : ∀ {x : World}, Below w.heap.size w.drew x → Below w.heap.size w x := fun h => ⟨h.os, h.tape, h.output, h.size, h.block⟩
  have hn : n ≤ l.length := by
    simp only [growB, Bool.and_eq_true, decide_eq_true_eq] at hB
    simpa using hB.1.1.1.1.1
  have key := wpAny_grow (P := P) (ops := l.toArray) (n := n) (S := specAt S) (Q := Q) (a0 := a) (W0 := w.drew) hB
    (fun i o hi ho a' w' hb hw hd => by
      have := hstep.at_ i o (by rw [List.getElem?_take, if_pos hi]; simpa using ho) a' w' hb (hrd hw) (fun j hj => by
        obtain ⟨e, he, hh⟩ := List.any_eq_true.1 hj
        simp only [Bool.and_eq_true, beq_iff_eq] at hh
        rw [← hh.2]
        exact hd e (Array.mem_toList_iff.1 he) hh.1)
      rw [Nat.zero_add] at this
      exact this)
    (fun a' w' hb hw hd => by
      rw [act_eq hb]
      have := hend (fun d => a'.tmps.getD d undef) w' (hrd hw) (fun j d hj hd' => hd j hj d (by simpa using hd'))
      simpa using this)
    n (Array.replicate l.toArray.size false) a w.drew
    ⟨⟨by simp, fun j oj _ hl => (by rw [getD_replicate_false] at hl; cases hl), fun t _ ht => getD_in (by simpa using ht) (getD_replicate_false _ _)⟩, ⟨rfl, rfl, fun _ _ => rfl⟩, Below.refl _ _, fun j _ hl => (by rw [getD_replicate_false] at hl; cases hl)⟩
    (by
      unfold unl
      rw [List.filter_eq_self.2 (fun j _ => by rw [getD_replicate_false]; rfl), List.length_range])
  rw [show n + (l.toArray.size - n) = l.toArray.size by simp; omega] at key
  exact key
end
section
variable {P : Program} {n r : Nat} {Q : Exit → Act → World → Prop} {a : Act} {w : World} {l : List Oper} {id : Nat}
/-- THE LAW, in a round. -/
theorem regionIn_steps (k : Nat) (S : List GSpec) (ds : List Nat) (hm : P.follows .mixedOrders = true) (hB : growB l.toArray k a.tmps.size = true) (hd : l.toArray.all noDefer = true)
    (hds : headDsts l.toArray k = ds) (hstep : Steps P l.toArray (specAt S) (onlyN fun a w => Q .normal a w) k a w (l.take k) 0)
    (hend : ∀ (u : Nat → Value) w', Below w.heap.size w w' → (∀ j d, j < k → (l[j]?).bind (·.dst) = some d → (specAt S j).p (u d) w') → wpList P l.toArray (onlyN fun a w => Q .normal a w) (l.drop k) (putAll a ds u) w') :
    (Code.region id l.toArray true).wpIn (Fence.wide.inRound r) n P Q a w :=
  wpIn_region_any hm (any_in hd _ _ a w.drew (any_steps k S ds hB hds hstep hend))
end

end Go.Proofs.YtkedgombccdamaaDoor
namespace Go.Proofs.YtkedgombccdamaaDoor
open Go.RowKit
set_option linter.unusedVariables false
set_option linter.unusedSimpArgs false
theorem field_mach_1 (b : Nat) (w : World) : (Instr.fieldAt 146 (.pointer (some ⟨b, 0, none⟩)) 1).run Tryd.prog w = .ok (.pointer (some ⟨b, 1, none⟩)) w := by kernel_rfl
theorem field_mach_2 (b : Nat) (w : World) : (Instr.fieldAt 146 (.pointer (some ⟨b, 0, none⟩)) 2).run Tryd.prog w = .ok (.pointer (some ⟨b, 2, none⟩)) w := by kernel_rfl
theorem field_walk_0 (b : Nat) (w : World) : (Instr.fieldAt 149 (.pointer (some ⟨b, 0, none⟩)) 0).run Tryd.prog w = .ok (.pointer (some ⟨b, 0, none⟩)) w := by kernel_rfl
theorem field_walk_2 (b : Nat) (w : World) : (Instr.fieldAt 149 (.pointer (some ⟨b, 0, none⟩)) 2).run Tryd.prog w = .ok (.pointer (some ⟨b, 2, none⟩)) w := by kernel_rfl
theorem field_walk_3 (b : Nat) (w : World) : (Instr.fieldAt 149 (.pointer (some ⟨b, 0, none⟩)) 3).run Tryd.prog w = .ok (.pointer (some ⟨b, 3, none⟩)) w := by kernel_rfl

def deB : List Nat := [0, 1, 56, 2, 57, 49, 28, 3, 61, 58, 42, 50, 38, 29, 17, 4, 62, 47, 59, 36, 45, 43, 51, 22, 53, 39, 33, 30, 24, 18, 12, 5, 63, 55, 48, 27, 60, 41, 37, 16, 46, 35, 44, 21, 52, 32, 23, 11, 54, 26, 40, 15, 34, 20, 31, 10, 25, 14, 19, 9, 13, 8, 7, 6]
/-- the table of package math/bits lies where the program lays it -/
def TabOk (W : World) : Prop := ∀ i, i < 64 → W.cell? ⟨0, i, none⟩ = some (.int .u8 (deB.getD i 0 : Nat))
theorem TabOk.size {W : World} (h : TabOk W) : 0 < W.heap.size := by
  have h1 := h 0 (by decide)
  refine Classical.byContradiction fun hn => ?_
  have : W.heap[0]? = none := Array.getElem?_eq_none (by omega)
  simp [World.cell?, this] at h1
theorem TabOk.then_ {n : Nat} {W W' : World} (h : TabOk W) (hn : 0 < n) (hb : Below n W W') : TabOk W' := fun i hi => (hb.cell (p := ⟨0, i, none⟩) hn).trans (h i hi)
theorem deB_at : ∀ t, t < 64 → deB.getD (2 ^ t * 285870213051353865 % 2 ^ 64 / 2 ^ 58) 0 = t ∧ 2 ^ t * 285870213051353865 % 2 ^ 64 / 2 ^ 58 < 64 := by decide
theorem neg_u64 {w : Nat} (h0 : 0 < w) (h : w < 2 ^ 64) : IntKind.u64.wrap (-(w : Int)) = ((2 ^ 64 - w : Nat) : Int) := by
  rw [IntKind.wrap_u64]
  omega
set_option maxHeartbeats 400000 in
theorem tz_any (w t : Nat) (hw : w < 2 ^ 64) (h : LowBit w t) (W : World) (hT : TabOk W) : Calls Tryd.prog 91 #[.int .u64 w] W fun e W' => e = .returned (.int .i64 t) ∧ W' = W := by
  have h0 : 0 < w := by
    rcases Nat.eq_zero_or_pos w with h0 | h0
    · rw [h0] at h; have := h.1; simp at this
    · exact h0
  have hne : ((w : Int) == 0) = false := by rw [beq_eq_false_iff_ne]; omega
  go_enter Tryd.func91, Tryd.ntmps91
  have ht : t < 64 := by
    refine Classical.byContradiction fun hn => ?_
    have h2 := Nat.testBit_lt_two_pow (Nat.lt_of_lt_of_le hw (Nat.pow_le_pow_right (show 0 < 2 by decide) (show 64 ≤ t by omega)))
    rw [h.1] at h2
    cases h2
  have hix : ∃ ix : Nat, IntKind.u64.wrap (bits BinOp.and IntKind.u64 (w : Int) (IntKind.u64.wrap (-(w : Int))) * 285870213051353865) / 288230376151711744 = (ix : Int) ∧ (ix : Int) < 64 ∧ W.cell? ⟨0, ix, none⟩ = some (.int .u8 (t : Int)) := by
    obtain ⟨h3, h4⟩ := deB_at t ht
    refine ⟨2 ^ t * 285870213051353865 % 2 ^ 64 / 2 ^ 58, ?_, Int.ofNat_lt.2 h4, ?_⟩
    · rw [neg_u64 h0 hw, u64_and_nat _ _ hw (by omega), low_and_neg h hw, IntKind.wrap_u64]
      generalize 2 ^ t = y
      omega
    · rw [hT _ h4, h3]
  obtain ⟨ix, hix, hlt, hcell⟩ := hix
  go_wp2
  go_ret
  exact ⟨rfl, rfl⟩

def encU (v : Nat) : Array Value := #[.int .u64 (v : Int)]
theorem encU_size (v : Nat) : (encU v).size = 1 := rfl
theorem encU_one (v : Nat) : (encU v).all (·.oneCell') = true := by simp [encU, Value.oneCell']
theorem u64_bit {v n : Nat} (hv : v < 18446744073709551616) : (bits BinOp.and IntKind.u64 ((v : Int) / 2 ^ n) 1 == 1) = v.testBit n := by
  have e1 : ((v : Int) / 2 ^ n) = ((v / 2 ^ n : Nat) : Int) := by
    rw [Int.natCast_ediv, Int.natCast_pow]; rfl
  have hlt : v / 2 ^ n < 18446744073709551616 := Nat.lt_of_le_of_lt (Nat.div_le_self _ _) hv
  rw [e1]
  have e2 := u64_and_nat (v / 2 ^ n) 1 hlt (by omega)
  rw [show ((1 : Nat) : Int) = 1 from rfl] at e2
  rw [e2, Nat.and_one_is_mod, Nat.testBit_eq_decide_div_mod_eq]
  rw [Bool.eq_iff_iff]
  simp only [beq_iff_eq, decide_eq_true_eq]
  omega
set_option maxHeartbeats 400000 in
theorem shas_any (A : Option Addr) (k c x n : Nat) (hn : n < 64 * k) (hkb : k ≤ 1099511627776) (B : Nat) (w : World) (hs : SliceOf w B 1 encU A (wordsN x k)) :
    Calls Tryd.prog 92 #[.slice A k c, .int .i64 n] w fun e w' => e = .returned (.bool (x.testBit n)) ∧ w' = w := by
  have hj : n / 64 < (wordsN x k).length := by rw [wordsN_length]; omega
  obtain ⟨b, off, rfl, hb, hrow⟩ := hs.at_ (by omega)
  have hc := hrow (n / 64) hj 0 _ rfl
  rw [wordsN_get] at hc
  have hc' : w.cell? ⟨b, off + n / 64, none⟩ = some (.int .u64 (wordN x (n / 64) : Nat)) := by rw [Nat.mul_one] at hc; exact hc
  have hk : n / 64 < k := by omega
  have hbit := u64_bit (n := n % 64) (wordN_lt' x (n / 64))
  rw [has_word] at hbit
  clear hc hrow hs
  go_enter Tryd.func92, Tryd.ntmps92
  go_wp2
  go_ret
  exact ⟨rfl, rfl⟩
theorem u64_or_pow {v n : Nat} (hv : v < 18446744073709551616) (hn : n < 64) : bits BinOp.or IntKind.u64 (v : Int) (IntKind.u64.wrap (2 ^ n)) = ((v ||| 2 ^ n : Nat) : Int) := by
  have hlt : 2 ^ n < 18446744073709551616 := Nat.lt_of_lt_of_le (Nat.pow_lt_pow_right (by omega) hn) (Nat.le_refl _)
  have e1 : IntKind.u64.wrap (2 ^ n) = ((2 ^ n : Nat) : Int) := by
    rw [show (2 ^ n : Int) = ((2 ^ n : Nat) : Int) by rw [Int.natCast_pow]; rfl, IntKind.wrap_u64]
    exact Int.emod_eq_of_lt (Int.natCast_nonneg _) (Int.ofNat_lt.2 hlt)
  rw [e1]
  exact u64_or_nat _ _ hv hlt
set_option maxHeartbeats 400000 in
theorem sadd_any (g k c x n base : Nat) (hn : n < 64 * k) (hkb : k ≤ 1099511627776) (w : World) (hs : Own w base 50 1 encU (.slice (some ⟨g, 0, none⟩) k c) (wordsN x k)) :
    Calls Tryd.prog 75 #[.slice (some ⟨g, 0, none⟩) k c, .int .i64 n] w fun e w' => e = .returned (.tuple #[]) ∧ Own w' base 50 1 encU (.slice (some ⟨g, 0, none⟩) k c) (wordsN (x ||| 2 ^ n) k) ∧ w.grownBy w' (some g) := by
  have hj : n / 64 < (wordsN x k).length := by rw [wordsN_length]; omega
  have hc := hs.row encU_size (n / 64) hj 0 _ rfl
  rw [wordsN_get, Nat.mul_one] at hc
  have hc' : w.cell? ⟨g, n / 64, none⟩ = some (.int .u64 (wordN x (n / 64) : Nat)) := hc
  have f1 := hs.frozen (n / 64)
  have hk : n / 64 < k := by omega
  have hor := u64_or_pow (n := n % 64) (wordN_lt' x (n / 64)) (by omega)
  clear hc
  go_enter Tryd.func75, Tryd.ntmps75
  go_region
  go_end0
  refine ⟨rfl, ?_, only_drew (only_setCell (only_refl _ _) (.inl rfl) _)⟩
  have o1 := hs.setCell (i := n / 64) (q := 0) (y' := wordN x (n / 64) ||| 2 ^ (n % 64)) (u := .int .u64 ((wordN x (n / 64) ||| 2 ^ (n % 64) : Nat) : Int)) encU_size hj (by omega) rfl
  rw [words_add, Nat.mul_one, Nat.add_zero] at o1
  exact o1.drew
end Go.Proofs.YtkedgombccdamaaDoor
