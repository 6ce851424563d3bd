/- The least table of a table that fits, fits. No condition beyond those named in each lemma. -/
import Derived.Test.YtgahdookojbbiaaLTellP
namespace Go.Proofs.Ytgahdookojbbiaa
open Go.RowKit Go.Maps
set_option linter.unusedVariables false
set_option linter.unusedSimpArgs false

set_option maxRecDepth 20000 in
theorem least_fits {T : Tb} (h : Fits T) {k : Nat → Int} (hk : Ker T.au k) : Fits (leastT T.au k) := by
  have o := h.ok
  have hll := likes_len o k
  have hlp : 0 < (likes T.au k).length := by
    obtain ⟨r, hr⟩ := like_pos (A := T.au) (k := k) (rs := reps T.au k) T.au.n
    unfold likes; rw [hr]; simp
  obtain ⟨hr0, _⟩ := vec_rep o (k := k) (b := 0) (by omega)
  have hrl := reps_le T.au k
  have hnl : (leastT T.au k).nx.length = (likes T.au k).length := by show (List.map _ _).length = _; simp
  have hrow : ∀ s, s < (likes T.au k).length → (leastT T.au k).nx.getD s [] = (reps T.au k).map fun b => (((likes T.au k).map k).idxOf (k (T.au.go ((likes T.au k).getD s 0) b)) : Int) := fun s hs => by
    show ((likes T.au k).map _).getD s [] = _
    rw [getD_at _ _ (by simpa using hs), List.getElem_map, getD_at _ _ hs]
  have hmy : (leastT T.au k).many = (reps T.au k).length := by show ((leastT T.au k).nx.getD 0 []).length = _; rw [hrow 0 hlp, List.length_map]
  have hfo : ∀ s, s < (likes T.au k).length → (leastT T.au k).fo.getD s 0 = T.fo.getD ((likes T.au k).getD s 0) 0 := fun s hs => by
    show ((likes T.au k).map _).getD s 0 = _
    rw [getD_at _ _ (by simpa using hs), List.getElem_map, getD_at _ _ hs]; rfl
  have hen : ∀ s, s < (likes T.au k).length → (leastT T.au k).en.getD s 0 = T.en.getD ((likes T.au k).getD s 0) 0 := fun s hs => by
    show ((likes T.au k).map _).getD s 0 = _
    rw [getD_at _ _ (by simpa using hs), List.getElem_map, getD_at _ _ hs]; rfl
  have hre : ∀ s, s < (likes T.au k).length → Reach T.au ((likes T.au k).getD s 0) := fun s hs => by
    rw [getD_at _ _ hs]; exact likes_reach _ _ _ (List.getElem_mem hs)
  have hn2 := h.n2
  have hau : T.au.n = T.nx.length := rfl
  refine ⟨by omega, by omega, by rw [hnl]; show (List.map _ _).length = _; simp, by rw [hnl]; show (List.map _ _).length = _; simp, by omega, by omega, fun b hb => ?_, fun s hs => ?_, fun s hs => ?_, fun s c hs hc => ?_⟩
  · obtain ⟨hl, _⟩ := vec_rep o (k := k) hb
    rw [hmy]
    show 0 ≤ (if b < 256 then (num (vec T.au k) b : Int) else 0) ∧ (if b < 256 then (num (vec T.au k) b : Int) else 0) < _
    rw [if_pos hb]
    omega
  · rw [hmy, hrow s (by omega), List.length_map]
  · rw [hfo s (by omega), hen s (by omega)]
    exact h.fe _ ((hre s (by omega)).lt o)
  · rw [hnl] at hs ⊢
    have hcl : c < (reps T.au k).length := hmy ▸ hc
    clear hc
    obtain ⟨b, hbe⟩ : ∃ b, (reps T.au k).getD c 0 = b := ⟨_, rfl⟩
    have hb : b < 256 := by rw [← hbe, getD_at _ _ hcl]; exact reps_lt _ _ _ (List.getElem_mem hcl)
    have hR := hre s hs
    have e : (leastT T.au k).nxt s (c : Nat) = (((likes T.au k).map k).idxOf (k (T.au.go ((likes T.au k).getD s 0) b)) : Int) := by
      show ((leastT T.au k).nx.getD s []).getD ((c : Int)).toNat 0 = _
      rw [hrow s hs, Int.toNat_natCast, getD_at _ _ (by simpa using hcl), List.getElem_map, ← getD_at (reps T.au k) 0 hcl, hbe]
    have hi := List.idxOf_lt_length_of_mem (likes_all o hk (hR.step hb))
    have ho := (least_sim o hk (hR.step hb)).1
    rw [List.length_map] at hi
    rw [e, Int.toNat_natCast]
    refine ⟨by omega, by omega, ?_⟩
    have ho1 : (leastT T.au k).fo.getD (((likes T.au k).map k).idxOf (k (T.au.go ((likes T.au k).getD s 0) b))) 0 = T.fo.getD (T.au.go ((likes T.au k).getD s 0) b) 0 := congrArg Prod.fst ho
    rw [ho1, hfo s hs]
    obtain ⟨c0, c1⟩ := h.cl _ hb
    have := (h.tr _ (T.cls b).toNat (hR.lt o) (by omega)).2.2
    rw [Int.toNat_of_nonneg c0] at this
    exact this
end Go.Proofs.Ytgahdookojbbiaa
