/- heronref11.Make: the least table of a table that fits. No condition beyond those named in each lemma. -/
import Derived.Test.YtgahdookojbbiaaLClasses
import Derived.Test.YtgahdookojbbiaaOwns
namespace Go.Proofs.Ytgahdookojbbiaa
open Go.RowKit Go.Maps
set_option linter.unusedVariables false
set_option linter.unusedSimpArgs false
attribute [local go_sem] Oper.semAt_some

open Classical in
/-- the least table of a table, whichever mark tells its states -/
noncomputable def leastOf (T : Tb) : Tb := if Fits T then leastT T.au (epsilon (Ker T.au)) else ⟨fun _ => 0, [], [], []⟩
theorem leastOf_eq {T : Tb} (h : Fits T) {K : Nat → Int} (hk : Ker T.au K) : leastOf T = leastT T.au K := by
  unfold leastOf
  rw [if_pos h]
  exact least_alk h.ok h.ok (Classical.epsilon_spec ⟨K, hk⟩) hk (Alk.refl _ _)
theorem leastOf_no {T : Tb} (h : ¬ Fits T) : leastOf T = ⟨fun _ => 0, [], [], []⟩ := by
  unfold leastOf
  rw [if_neg h]
/-- what the walk's numbers hold: of a kind the number of its state, and one -/
def numM (k : Nat → Int) (L : List Nat) (v : Nat) : Int := if (v : Int) ∈ L.map k then (((L.map k).idxOf (v : Int) + 1 : Nat) : Int) else 0
theorem numM_start {k : Nat → Int} (h : k 0 = 0) : upd (fun _ => 0) 0 1 = numM k [0] := by
  funext v
  unfold upd numM
  by_cases e : v = 0
  · subst e; simp [h]
  · simp [h, e]
section
variable {k : Nat → Int} {L : List Nat} {t m : Nat}
theorem numM_in (h : k t = m) : k t ∈ L.map k → numM k L m = (((L.map k).idxOf (k t) + 1 : Nat) : Int) := fun hm => by
  unfold numM
  rw [← h, if_pos hm]
theorem numM_out (h : k t = m) : ¬ k t ∈ L.map k → numM k L m = 0 := fun hm => by
  unfold numM
  rw [← h, if_neg hm]
theorem numM_put (h : k t = m) (hm : ¬ k t ∈ L.map k) : upd (numM k L) m ((L.length + 1 : Nat) : Int) = numM k (L ++ [t]) := by
  funext v
  unfold upd numM
  rw [List.map_append]
  by_cases e : v = m
  · subst e
    rw [if_pos rfl, ← h, if_pos (by simp), idx_not hm]
    simp
  · rw [if_neg e]
    have hne : (v : Int) ≠ k t := by rw [h]; omega
    by_cases hv : (v : Int) ∈ L.map k
    · rw [if_pos hv, if_pos (List.mem_append_left _ hv), idx_mem hv]
    · rw [if_neg hv, if_neg]
      intro h2
      rcases List.mem_append.1 h2 with h2 | h2
      · exact hv h2
      · exact hne (by simpa using h2)
end
/-- the states met when x of the classes of state s are gone through -/
def foldT (A : Au) (k : Nat → Int) (s : Nat) (rs : List Nat) (L : List Nat) (x : Nat) : List Nat := ((rs.take x).map (A.go s)).foldl (addK k) L
section
variable {A : Au} {k : Nat → Int} {s : Nat} {rs L : List Nat}
theorem foldT_zero : foldT A k s rs L 0 = L := rfl
theorem foldT_succ {x : Nat} (h : x < rs.length) : foldT A k s rs L (x + 1) = addK k (foldT A k s rs L x) (A.go s rs[x]) := by
  unfold foldT
  rw [List.take_succ_eq_append_getElem h, List.map_append, List.foldl_append]
  rfl
theorem foldT_all {i : Nat} (h : (likeN A k rs i)[i]? = some s) : foldT A k s rs (likeN A k rs i) rs.length = likeN A k rs (i + 1) := by
  unfold foldT
  rw [List.take_length, like_succ i s h]
theorem foldT_prefix {x y : Nat} (h : x ≤ y) : ∃ r, foldT A k s rs L y = foldT A k s rs L x ++ r := by
  unfold foldT
  have e : rs.take y = rs.take x ++ (rs.drop x).take (y - x) := by
    have := List.take_add (l := rs) (i := x) (j := y - x)
    rwa [Nat.add_sub_cancel' h] at this
  rw [e, List.map_append, List.foldl_append]
  exact foldK_prefix _ _ _
theorem foldT_likes (o : A.Ok) {i : Nat} (h : (likeN A k (reps A k) i)[i]? = some s) {x : Nat} (hx : x ≤ (reps A k).length) : ∃ r, likes A k = foldT A k s (reps A k) (likeN A k (reps A k) i) x ++ r := by
  obtain ⟨r, hr⟩ := foldT_prefix (A := A) (k := k) (s := s) (rs := reps A k) (L := likeN A k (reps A k) i) hx
  rw [foldT_all h] at hr
  have hi : i < (likeN A k (reps A k) i).length := (List.getElem?_eq_some_iff.1 h).1
  have := like_len o (k := k) (reps_lt A k) i
  obtain ⟨q, hq⟩ := like_prefix (A := A) (k := k) (rs := reps A k) (show i + 1 ≤ A.n by omega)
  exact ⟨r ++ q, by unfold likes; rw [hq, hr, List.append_assoc]⟩
theorem idx_likes (h : ∃ r, likes A k = L ++ r) {t : Nat} (ht : k t ∈ L.map k) : ((likes A k).map k).idxOf (k t) = (L.map k).idxOf (k t) := by
  obtain ⟨r, hr⟩ := h
  rw [hr, List.map_append, idx_mem ht]
theorem likes_get {i : Nat} (hi : i < (likeN A k (reps A k) i).length) (o : A.Ok) : ∃ h : i < (likes A k).length, (likes A k)[i] = (likeN A k (reps A k) i)[i] := by
  have := like_len o (reps_lt A k) (k := k) i
  obtain ⟨q, hq⟩ := like_prefix (A := A) (k := k) (rs := reps A k) (show i ≤ A.n by omega)
  have e : likes A k = likeN A k (reps A k) i ++ q := hq
  refine ⟨by rw [e, List.length_append]; omega, ?_⟩
  simp only [e]
  rw [List.getElem_append_left hi]
end
/-- of a state where it goes, by the classes, as the least table numbers it -/
noncomputable def rowL (A : Au) (k : Nat → Int) (s : Nat) : List Int := (reps A k).map fun b => (((likes A k).map k).idxOf (k (A.go s b)) : Int)
def zs (L : List Nat) : List Int := L.map fun n : Nat => (n : Int)
theorem zs_add (L : List Nat) (t : Nat) : zs (L ++ [t]) = zs L ++ [(t : Int)] := by simp [zs]
theorem zs_len (L : List Nat) : (zs L).length = L.length := by simp [zs]
/-- the first byte of a class -/
theorem rep_at {α : Type} [DecidableEq α] (f : Nat → α) {N x b : Nat} (hx : x < (fb f N).length) (hb : b < N) (h1 : num f b = x) (h2 : ∀ j, j < b → num f j ≠ x) : (fb f N)[x] = b := by
  have hnew : ¬ f b ∈ firsts f b := by
    rw [mem_firsts]
    rintro ⟨j, hj, e⟩
    exact h2 j hj (by rw [← h1]; exact (num_iff f j b).2 e)
  have e1 := fb_new f b hnew
  have e2 := num_new f b hnew
  rw [← fb_length] at e2
  have hp : ∀ d, ∃ r, fb f (b + 1 + d) = fb f (b + 1) ++ r := by
    intro d
    induction d with
    | zero => exact ⟨[], by simp⟩
    | succ d ih =>
      obtain ⟨r, hr⟩ := ih
      by_cases hm : f (b + 1 + d) ∈ firsts f (b + 1 + d)
      · exact ⟨r, by rw [show b + 1 + (d + 1) = b + 1 + d + 1 by omega, fb_old f _ hm, hr]⟩
      · exact ⟨r ++ [b + 1 + d], by rw [show b + 1 + (d + 1) = b + 1 + d + 1 by omega, fb_new f _ hm, hr, List.append_assoc]⟩
  obtain ⟨r, hr⟩ := hp (N - (b + 1))
  rw [show b + 1 + (N - (b + 1)) = N by omega] at hr
  have h3 : x = (fb f b).length := by omega
  subst h3
  simp only [hr, e1]
  simp
theorem rep_num {α : Type} [DecidableEq α] (f : Nat → α) {N x : Nat} (hx : x < (fb f N).length) : (fb f N)[x] < N ∧ num f ((fb f N)[x]) = x := by
  have h1 := fb_lt f N _ (List.getElem_mem hx)
  refine ⟨h1, ?_⟩
  rw [num_eq f h1]
  have hx2 : x < (firsts f N).length := by rw [← fb_length]; exact hx
  have e : f ((fb f N)[x]) = (firsts f N)[x] := by
    have := List.getElem_map (f := f) (l := fb f N) (i := x) (h := by simpa using hx)
    rw [← this]
    simp only [fb_map]
  rw [e]
  exact (firsts_nodup f N).idxOf_getElem x hx2
theorem reps_first (A : Au) (k : Nat → Int) {x b : Nat} (hx : x < (reps A k).length) (hb : b < 256) (h1 : num (vec A k) b = x) (h2 : ∀ j, j < b → num (vec A k) j ≠ x) : (reps A k)[x] = b := by
  unfold reps at hx ⊢
  exact rep_at (vec A k) (N := 256) hx hb h1 h2
theorem reps_firstD (A : Au) (k : Nat → Int) {x b : Nat} (hx : x < (reps A k).length) (hb : b < 256) (h1 : num (vec A k) b = x) (h2 : ∀ j, j < b → num (vec A k) j ≠ x) : (reps A k).getD x 0 = b := by
  rw [getD_at _ _ hx]
  exact reps_first A k hx hb h1 h2
theorem foldT_succD {A : Au} {k : Nat → Int} {s : Nat} {rs L : List Nat} {x : Nat} (h : x < rs.length) : foldT A k s rs L (x + 1) = addK k (foldT A k s rs L x) (A.go s (rs.getD x 0)) := by
  rw [foldT_succ h, getD_at _ _ h]
theorem reps_num (A : Au) (k : Nat → Int) {x : Nat} (hx : x < (reps A k).length) : (reps A k)[x] < 256 ∧ num (vec A k) ((reps A k)[x]) = x := by
  unfold reps at hx ⊢
  exact rep_num (vec A k) (N := 256) hx
end Go.Proofs.Ytgahdookojbbiaa
