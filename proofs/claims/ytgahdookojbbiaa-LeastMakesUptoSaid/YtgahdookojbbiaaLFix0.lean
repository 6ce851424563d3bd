/- least.Make and least.Same of tables that fit, in the form in which the laws use them. No condition beyond those named in each lemma. -/
import Derived.Test.YtgahdookojbbiaaLetP
namespace Go.Proofs.Ytgahdookojbbiaa
open Go.RowKit Go.Maps
set_option linter.unusedVariables false
set_option linter.unusedSimpArgs false

theorem leastOf_eps {T : Tb} (h : Fits T) : leastOf T = leastT T.au (Classical.epsilon (Ker T.au)) := by unfold leastOf; rw [if_pos h]
theorem getDn_lt {l : List Nat} {N : Nat} (h : ∀ y ∈ l, y < N) (hN : 0 < N) (s : Nat) : l.getD s 0 < N := by
  by_cases hs : s < l.length
  · rw [getD_at _ _ hs]; exact h _ (List.getElem_mem hs)
  · have : l[s]? = none := List.getElem?_eq_none (by omega)
    rw [List.getD_eq_getElem?_getD, this]; exact hN
theorem least_tab {x y : TV} {w w' : World} {N base : Nat} (hT : TabIn w N x) (hF : Fits x.T) (hO : TOwn w' base y [] [] []) (hy : y.T = leastOf x.T) : TabIn w' w'.heap.size y ∧ y.rs.length ≤ x.rs.length ∧ (∀ r ∈ y.rs, r.l.length ≤ 256) ∧ y.fo.length = y.rs.length ∧ y.en.length = y.rs.length := by
  rw [leastOf_eps hF] at hy
  obtain ⟨K, hK⟩ : ∃ K, Classical.epsilon (Ker x.T.au) = K := ⟨_, rfl⟩
  rw [hK] at hy
  have hn : y.rs.map (·.l) = (likes x.T.au K).map fun s => (reps x.T.au K).map fun b => (((likes x.T.au K).map K).idxOf (K (x.T.au.go s b)) : Int) := by
    rw [← leastT_nx, ← hy]; rfl
  have hf : y.fo = (likes x.T.au K).map fun s => x.fo.getD s 0 := by
    have := leastT_fo x.T.au K
    rw [← hy] at this
    exact this
  have he : y.en = (likes x.T.au K).map fun s => x.en.getD s 0 := by
    have := leastT_en x.T.au K
    rw [← hy] at this
    exact this
  have hl := likes_len hF.ok K
  rw [fits_au] at hl
  have hn1 := congrArg List.length hn
  simp only [List.length_map] at hn1
  have hf1 := congrArg List.length hf
  simp only [List.length_map] at hf1
  have he1 := congrArg List.length he
  simp only [List.length_map] at he1
  have hn2 : x.rs.length ≤ 4096 := by have := hF.n2; rwa [fits_n] at this
  have hrow : ∀ r ∈ y.rs, r.l.length ≤ 256 := fun r hr => by
    have h1 : r.l ∈ y.rs.map (·.l) := List.mem_map_of_mem hr
    rw [hn] at h1
    obtain ⟨s, _, e⟩ := List.mem_map.1 h1
    rw [← e, List.length_map]
    exact reps_le _ _
  refine ⟨hO.tab (by omega) (fun r hr => by have := hrow r hr; omega) (by omega) (by omega) (fun v hv => ?_) (fun v hv => ?_), by omega, hrow, by omega, by omega⟩
  · rw [hf] at hv
    obtain ⟨s, _, e⟩ := List.mem_map.1 hv
    rw [← e]
    exact getDn_lt hT.f32 (by omega) s
  · rw [he] at hv
    obtain ⟨s, _, e⟩ := List.mem_map.1 hv
    rw [← e]
    exact getDn_lt hT.e32 (by omega) s
theorem lmake_fits (x : TV) (hF : Fits x.T) (w : World) (hT : TabIn w w.heap.size x) :
    Calls Try.prog 22 #[.agg x.C'] w fun e w' => Below w.heap.size w w' ∧ ∃ y : TV, e = .returned (.tuple #[.agg y.C', .int .i64 0]) ∧ TOwn w' w.heap.size y [] [] [] ∧ y.T = leastOf x.T := by
  refine (lmake_any x w hT).mono ?_
  rintro e w' ⟨hB, y, rfl, hO, hy⟩
  exact ⟨hB, y, by rw [fitsB_yes hF]; rfl, hO, hy⟩
theorem lmake_no (x : TV) (hF : ¬ Fits x.T) (w : World) (hT : TabIn w w.heap.size x) :
    Calls Try.prog 22 #[.agg x.C'] w fun e w' => Below w.heap.size w w' ∧ ∃ y : TV, e = .returned (.tuple #[.agg y.C', .int .i64 70]) ∧ TOwn w' w.heap.size y [] [] [] ∧ y.rs = [] ∧ y.fo = [] ∧ y.en = [] ∧ y.T = ⟨fun _ => 0, [], [], []⟩ := by
  refine (lmake_any x w hT).mono ?_
  rintro e w' ⟨hB, y, rfl, hO, hy⟩
  rw [leastOf_no hF] at hy
  refine ⟨hB, y, by rw [fitsB_no hF]; rfl, hO, ?_, ?_, ?_, hy⟩
  · have h1 : y.rs.map (·.l) = [] := congrArg Tb.nx hy
    simpa using h1
  · exact congrArg Tb.fo hy
  · exact congrArg Tb.en hy
theorem lsm_same (x y : TV) (hx : Fits x.T) (hy : Fits y.T) (h : ∀ u, ¬ Tells x.T.au y.T.au u) (w : World) (hX : TabIn w w.heap.size x) (hY : TabIn w w.heap.size y) :
    Calls Try.prog 29 #[.agg x.C', .agg y.C'] w fun e w' => e = .returned (.tuple #[.bool true, .string ⟨#[]⟩, .int .i64 0]) ∧ Below w.heap.size w w' := by
  refine (lsm_any x y w hX hY).mono ?_
  rintro e w' ⟨hB, v, rfl, hv⟩
  refine ⟨?_, hB⟩
  rcases hv with ⟨h1, _⟩ | ⟨_, _, _, rfl⟩ | ⟨_, _, u, h1, _⟩
  · exact absurd ⟨hx, hy⟩ h1
  · rfl
  · exact absurd h1 (h u)
end Go.Proofs.Ytgahdookojbbiaa
