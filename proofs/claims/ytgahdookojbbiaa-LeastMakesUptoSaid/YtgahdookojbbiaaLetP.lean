/- The plain law of heronlaw11.fixed: the tables that look for one byte. No program in sight. -/
import Derived.Test.YtgahdookojbbiaaLLet
namespace Go.Proofs.Ytgahdookojbbiaa
set_option linter.unusedVariables false
set_option linter.unusedSimpArgs false

theorem letT_fits (b : Nat) (hb : b < 256) (wide : Bool) : Fits (letT b wide) := by
  cases wide with
  | false =>
    refine ⟨of_decide_eq_true (by kernel_rfl), of_decide_eq_true (by kernel_rfl), rfl, rfl, of_decide_eq_true (by kernel_rfl), of_decide_eq_true (by kernel_rfl), fun c hc => ?_, fun s hs => ?_, fun s hs => ?_, fun s c hs hc => ?_⟩
    · show 0 ≤ (if c = b then (1 : Int) else 0) ∧ (if c = b then (1 : Int) else 0) < 2
      split <;> omega
    · have : s = 0 ∨ s = 1 := by have : s < 2 := hs; omega
      rcases this with rfl | rfl <;> rfl
    · have : s = 0 ∨ s = 1 := by have : s < 2 := hs; omega
      rcases this with rfl | rfl <;> exact of_decide_eq_true (by kernel_rfl)
    · have h1 : s = 0 ∨ s = 1 := by have : s < 2 := hs; omega
      have h2 : c = 0 ∨ c = 1 := by have : c < 2 := hc; omega
      rcases h1 with rfl | rfl <;> rcases h2 with rfl | rfl <;> exact of_decide_eq_true (by kernel_rfl)
  | true =>
    refine ⟨of_decide_eq_true (by kernel_rfl), of_decide_eq_true (by kernel_rfl), rfl, rfl, of_decide_eq_true (by kernel_rfl), of_decide_eq_true (by kernel_rfl), fun c hc => ?_, fun s hs => ?_, fun s hs => ?_, fun s c hs hc => ?_⟩
    · show 0 ≤ (if c = b then (1 : Int) else 0) ∧ (if c = b then (1 : Int) else 0) < 2
      split <;> omega
    · have : s = 0 ∨ s = 1 ∨ s = 2 := by have : s < 3 := hs; omega
      rcases this with rfl | rfl | rfl <;> rfl
    · have : s = 0 ∨ s = 1 ∨ s = 2 := by have : s < 3 := hs; omega
      rcases this with rfl | rfl | rfl <;> exact of_decide_eq_true (by kernel_rfl)
    · have h1 : s = 0 ∨ s = 1 ∨ s = 2 := by have : s < 3 := hs; omega
      have h2 : c = 0 ∨ c = 1 := by have : c < 2 := hc; omega
      rcases h1 with rfl | rfl | rfl <;> rcases h2 with rfl | rfl <;> exact of_decide_eq_true (by kernel_rfl)
def k01 (s : Nat) : Int := if s = 0 then 0 else 1
theorem let_n0 (b c : Nat) (wide : Bool) : (letT b wide).au.go 0 c = if c = b then 1 else 0 := by
  show (((letT b wide).nxt 0 (if c = b then (1 : Int) else 0))).toNat = _
  by_cases h : c = b
  · rw [if_pos h, if_pos h]; cases wide <;> rfl
  · rw [if_neg h, if_neg h]; cases wide <;> rfl
theorem let_n1 (b c : Nat) : (letT b false).au.go 1 c = 1 := by
  show (((letT b false).nxt 1 (if c = b then (1 : Int) else 0))).toNat = _
  by_cases h : c = b
  · rw [if_pos h]; rfl
  · rw [if_neg h]; rfl
theorem let_w1 (b c s : Nat) (hs : s = 1 ∨ s = 2) : (letT b true).au.go s c = if c = b then 1 else 2 := by
  show (((letT b true).nxt s (if c = b then (1 : Int) else 0))).toNat = _
  by_cases h : c = b
  · rw [if_pos h, if_pos h]; rcases hs with rfl | rfl <;> rfl
  · rw [if_neg h, if_neg h]; rcases hs with rfl | rfl <;> rfl
theorem let_reach_n {b s : Nat} (h : Reach (letT b false).au s) : s = 0 ∨ s = 1 := by
  induction h with
  | zero => exact .inl rfl
  | @step s c hs hc ih =>
    rcases ih with rfl | rfl
    · rw [let_n0]; split <;> simp
    · rw [let_n1]; exact .inr rfl
theorem let_reach_w {b s : Nat} (h : Reach (letT b true).au s) : s = 0 ∨ s = 1 ∨ s = 2 := by
  induction h with
  | zero => exact .inl rfl
  | @step s c hs hc ih =>
    rcases ih with rfl | h
    · rw [let_n0]; split <;> simp
    · rw [let_w1 _ _ _ h]; split <;> simp
/-- the wide one and the narrow one tell the same -/
theorem let_alk (b : Nat) {s t : Nat} (h : (s = 0 ∧ t = 0) ∨ ((s = 1 ∨ s = 2) ∧ t = 1)) : Alk (letT b true).au s (letT b false).au t := by
  refine alk_of (fun s t => (s = 0 ∧ t = 0) ∨ ((s = 1 ∨ s = 2) ∧ t = 1)) (fun s t h => ?_) h
  rcases h with ⟨rfl, rfl⟩ | ⟨h1, rfl⟩
  · refine ⟨rfl, fun c hc => ?_⟩
    rw [let_n0, let_n0]
    split <;> simp
  · refine ⟨by rcases h1 with rfl | rfl <;> rfl, fun c hc => ?_⟩
    rw [let_w1 _ _ _ h1, let_n1]
    split <;> simp
theorem let_ker_n (b : Nat) : Ker (letT b false).au k01 := by
  intro s t hs ht
  have h1 := let_reach_n hs
  have h2 := let_reach_n ht
  constructor
  · intro e
    have : s = t := by rcases h1 with rfl | rfl <;> rcases h2 with rfl | rfl <;> first | rfl | (exact absurd e (by decide))
    subst this
    exact Alk.refl _ _
  · intro ha
    have ho := ha.out
    rcases h1 with rfl | rfl <;> rcases h2 with rfl | rfl <;> first | rfl | (exact absurd ho (of_decide_eq_true (by kernel_rfl)))
theorem leastT_nx (A : Au) (k : Nat → Int) : (leastT A k).nx = (likes A k).map fun s => (reps A k).map fun b => (((likes A k).map k).idxOf (k (A.go s b)) : Int) := rfl
theorem leastT_fo (A : Au) (k : Nat → Int) : (leastT A k).fo = (likes A k).map fun s => (A.out s).1 := rfl
theorem leastT_en (A : Au) (k : Nat → Int) : (leastT A k).en = (likes A k).map fun s => (A.out s).2 := rfl
theorem let_least : TEq (leastOf (letT 97 true)) (letT 97 false) := by
  have hw := letT_fits 97 (by omega) true
  have hn := letT_fits 97 (by omega) false
  have hkw : Ker (letT 97 true).au k01 := by
    intro s t hs ht
    have h1 := let_reach_w hs
    have h2 := let_reach_w ht
    have hal : ∀ s, (s = 0 ∨ s = 1 ∨ s = 2) → Alk (letT 97 true).au s (letT 97 false).au (if s = 0 then 0 else 1) := fun s h => let_alk 97 (by rcases h with rfl | rfl | rfl <;> simp)
    have hr : ∀ s, (s = 0 ∨ s = 1 ∨ s = 2) → Reach (letT 97 false).au (if s = 0 then 0 else 1) := fun s h => by
      by_cases e : s = 0
      · rw [if_pos e]; exact .zero
      · rw [if_neg e]
        have := Reach.step (A := (letT 97 false).au) (b := 97) .zero (by omega)
        rw [let_n0] at this
        exact this
    have hk : ∀ s, k01 s = k01 (if s = 0 then 0 else 1) := fun s => by unfold k01; by_cases e : s = 0 <;> simp [e]
    have h3 := let_ker_n 97 _ _ (hr s h1) (hr t h2)
    rw [hk s, hk t, h3]
    exact ⟨fun h => ((hal s h1).trans h).trans (hal t h2).symm, fun h => ((hal s h1).symm.trans h).trans (hal t h2)⟩
  rw [leastOf_eq hw hkw, least_alk hw.ok hn.ok hkw (let_ker_n 97) (let_alk 97 (.inl ⟨rfl, rfl⟩))]
  have hvk : ∀ a b, a < 256 → b < 256 → (vec (letT 97 false).au k01 a = vec (letT 97 false).au k01 b ↔ decide (a = 97) = decide (b = 97)) := fun a b ha hb => by
    rw [vec_eq hn.ok]
    constructor
    · intro h
      have h0 := h 0 .zero
      rw [let_n0, let_n0] at h0
      by_cases e1 : a = 97 <;> by_cases e2 : b = 97 <;> simp [e1, e2, k01] at h0 ⊢
    · intro h s hs
      rcases let_reach_n hs with rfl | rfl
      · rw [let_n0, let_n0]
        by_cases e1 : a = 97 <;> by_cases e2 : b = 97 <;> simp [e1, e2] at h ⊢
      · rw [let_n1, let_n1]
  have hreps : reps (letT 97 false).au k01 = [0, 97] := (fb_kernel _ (fun a => decide (a = 97)) 256 hvk 256 (Nat.le_refl _)).trans (by kernel_rfl)
  have hlikes : likes (letT 97 false).au k01 = [0, 1] := by unfold likes; rw [hreps]; kernel_rfl
  refine ⟨fun c hc => ?_, ?_, ?_, ?_⟩
  · show (if c < 256 then (num (vec (letT 97 false).au k01) c : Int) else 0) = if c = 97 then 1 else 0
    rw [if_pos hc, num_kernel _ (fun a => decide (a = 97)) 256 hvk c hc]
    have h : ∀ c : Fin 256, (num (fun a => decide (a = 97)) c.val) = if c.val = 97 then 1 else 0 := of_decide_eq_true (by kernel_rfl)
    rw [h ⟨c, hc⟩]
    split <;> simp_all
  · rw [leastT_nx, hlikes, hreps]
    kernel_rfl
  · rw [leastT_fo, hlikes]
    kernel_rfl
  · rw [leastT_en, hlikes]
    kernel_rfl
theorem let_same (u : List Nat) : ¬ Tells (letT 97 true).au (letT 97 false).au u := fun h => h.2 (by
  have := let_alk 97 (.inl ⟨rfl, rfl⟩ : (0 = 0 ∧ 0 = 0) ∨ _) u (fun c hc => (h.1 c hc).1)
  rw [this])
theorem let_two {u : List Nat} (h : Tells (letT 97 true).au (letT 98 false).au u) (hs : ∀ u', Tells (letT 97 true).au (letT 98 false).au u' → u.length ≤ u'.length) : u = [97] ∨ u = [98] := by
  have h1 : Tells (letT 97 true).au (letT 98 false).au [97] := ⟨fun c hc => by rw [List.mem_singleton.1 hc]; omega, by
    show ((letT 97 true).au.out ((letT 97 true).au.go 0 97)).2 ≠ ((letT 98 false).au.out ((letT 98 false).au.go 0 97)).2
    rw [let_n0, let_n0]
    decide⟩
  have hl := hs _ h1
  match u, hl with
  | [], _ => exact absurd rfl h.2
  | [c], _ =>
    have h2 := h.2
    have h3 : ((letT 97 true).au.out ((letT 97 true).au.go 0 c)).2 ≠ ((letT 98 false).au.out ((letT 98 false).au.go 0 c)).2 := h2
    rw [let_n0, let_n0] at h3
    by_cases e1 : c = 97
    · exact .inl (by rw [e1])
    · by_cases e2 : c = 98
      · exact .inr (by rw [e2])
      · rw [if_neg e1, if_neg e2] at h3
        exact absurd rfl h3
end Go.Proofs.Ytgahdookojbbiaa
