/- The least table goes in step with the table that it is made of. No condition beyond those named in each lemma. -/
import Derived.Test.YtgahdookojbbiaaLFix0
namespace Go.Proofs.Ytgahdookojbbiaa
open Go.RowKit Go.Maps
set_option linter.unusedVariables false
set_option linter.unusedSimpArgs false

theorem least_sim {A : Au} (o : A.Ok) {k : Nat → Int} (hk : Ker A k) {s : Nat} (hs : Reach A s) :
    (leastT A k).au.out (((likes A k).map k).idxOf (k s)) = A.out s ∧ ∀ b < 256, (leastT A k).au.go (((likes A k).map k).idxOf (k s)) b = ((likes A k).map k).idxOf (k (A.go s b)) := by
  have hlt := List.idxOf_lt_length_of_mem (likes_all o hk hs)
  have h0 := List.getElem_idxOf hlt
  obtain ⟨i, hi⟩ : ∃ i, ((likes A k).map k).idxOf (k s) = i := ⟨_, rfl⟩
  simp only [hi, List.getElem_map] at h0
  rw [hi] at hlt ⊢
  have hil : i < (likes A k).length := by simpa using hlt
  have hr := likes_reach A k _ (List.getElem_mem hil)
  have ha : Alk A (likes A k)[i] A s := (hk _ _ hr hs).1 h0
  constructor
  · rw [← ha.out]
    show (((likes A k).map fun s => (A.out s).1).getD i 0, ((likes A k).map fun s => (A.out s).2).getD i 0) = _
    rw [getD_at _ _ (by simpa using hil), getD_at _ _ (by simpa using hil), List.getElem_map, List.getElem_map]
  · intro b hb
    obtain ⟨hl, hv⟩ := vec_rep o (k := k) hb
    have e1 : ((likes A k).map fun s => (reps A k).map fun b => (((likes A k).map k).idxOf (k (A.go s b)) : Int)).getD i [] = (reps A k).map fun b => (((likes A k).map k).idxOf (k (A.go (likes A k)[i] b)) : Int) := by rw [getD_at _ _ (by simpa using hil), List.getElem_map]
    show (((((likes A k).map fun s => (reps A k).map fun b => (((likes A k).map k).idxOf (k (A.go s b)) : Int)).getD i []).getD ((if b < 256 then (num (vec A k) b : Int) else 0)).toNat 0)).toNat = _
    rw [if_pos hb, Int.toNat_natCast, e1, getD_at _ _ (by simpa using hl), List.getElem_map, hv _ hr, (hk _ _ (hr.step hb) (hs.step hb)).2 (ha.go hb), Int.toNat_natCast]
theorem least_run {A : Au} (o : A.Ok) {k : Nat → Int} (hk : Ker A k) : ∀ (w : List Nat), (∀ b ∈ w, b < 256) → ∀ {s : Nat}, Reach A s →
    Reach A (A.run s w) ∧ (leastT A k).au.run (((likes A k).map k).idxOf (k s)) w = ((likes A k).map k).idxOf (k (A.run s w))
  | [], _, s, hs => ⟨hs, rfl⟩
  | b :: w, hw, s, hs => by
    have hb := hw b (by simp)
    have h := least_run o hk w (fun c hc => hw c (by simp [hc])) (hs.step hb)
    refine ⟨h.1, ?_⟩
    show (leastT A k).au.run ((leastT A k).au.go (((likes A k).map k).idxOf (k s)) b) w = _
    rw [(least_sim o hk hs).2 b hb]
    exact h.2
theorem least_zero (A : Au) (k : Nat → Int) : ((likes A k).map k).idxOf (k 0) = 0 := by
  obtain ⟨r, hr⟩ := like_pos (A := A) (k := k) (rs := reps A k) A.n
  unfold likes
  rw [hr, List.map_cons, List.idxOf_cons_self]
theorem least_like {A : Au} (o : A.Ok) {k : Nat → Int} (hk : Ker A k) : Alk (leastT A k).au 0 A 0 := fun w hw => by
  have h := least_run o hk w hw Reach.zero
  rw [least_zero] at h
  rw [h.2, (least_sim o hk h.1).1]
end Go.Proofs.Ytgahdookojbbiaa
