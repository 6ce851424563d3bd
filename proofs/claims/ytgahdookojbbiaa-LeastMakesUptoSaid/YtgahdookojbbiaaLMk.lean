/- What the walk of LeastMakes says of its tables. No condition beyond those named in each lemma. -/
import Derived.Test.YtgahdookojbbiaaLGro
import Derived.Test.YtgahdookojbbiaaLKep
import Derived.Test.YtgahdookojbbiaaLFix
namespace Go.Proofs.Ytgahdookojbbiaa
open Go.RowKit Go.Maps
set_option linter.unusedVariables false
set_option linter.unusedSimpArgs false

theorem blk_mid {w w' : World} {lo hi g : Nat} {t : TypeId} {cs : Array Value} (h : Blk w g t cs) (hm : Mid lo hi w w') (hg : g < lo ∨ hi ≤ g) : Blk w' g t cs := (hm.block g h.lt hg).trans h
/-- a table of the call's own with all its bounds -/
structure Tbl (w : World) (base B : Nat) (x : TV) : Prop where
  own : TOwn w base x [] [] []
  n : x.rs.length ≤ B
  r : ∀ r ∈ x.rs, r.l.length ≤ B
  f : x.fo.length ≤ B
  e : x.en.length ≤ B
  f32 : ∀ y ∈ x.fo, y < 4294967296
  e32 : ∀ y ∈ x.en, y < 4294967296
section
variable {w w' : World} {base B m : Nat} {x p : TV}
theorem Tbl.then_ (h : Tbl w base B x) (hb : Below w.heap.size w w') : Tbl w' base B x := ⟨h.own.then_ hb, h.n, h.r, h.f, h.e, h.f32, h.e32⟩
theorem Tbl.mid {lo hi : Nat} (h : Tbl w base B x) (hm : Mid lo hi w w') (hk : ∀ j, OfAll x j → j < lo ∨ hi ≤ j) : Tbl w' base B x := ⟨h.own.mid hm hk, h.n, h.r, h.f, h.e, h.f32, h.e32⟩
theorem Tbl.tab (h : Tbl w base B x) (hB : B ≤ 1048576) : TabIn w w.heap.size x := h.own.tab (by have := h.n; omega) (fun r hr => by have := h.r r hr; omega) (by have := h.f; omega) (by have := h.e; omega) h.f32 h.e32
theorem Tbl.sml (h : Tbl w base B x) (hB : B ≤ 1048576) : Sml x := ⟨by have := h.n; omega, fun r hr => by have := h.r r hr; omega, by have := h.f; omega, by have := h.e; omega⟩
theorem mk_tbl {y : TV} {N : Nat} (hT : TabIn w N x) (hO : TOwn w' base y [] [] []) (hy : y.T = leastOf x.T) : Tbl w' base 4096 y := by
  by_cases hF : Fits x.T
  · obtain ⟨h1, h2, h3, h4, h5⟩ := least_tab hT hF hO hy
    have h6 : x.rs.length ≤ 4096 := by have := hF.n2; rwa [fits_n] at this
    exact ⟨hO, by omega, fun r hr => by have := h3 r hr; omega, by omega, by omega, h1.f32, h1.e32⟩
  · rw [leastOf_no hF] at hy
    have h1 : y.rs = [] := by
      have h1 : y.rs.map (·.l) = [] := congrArg Tb.nx hy
      simpa using h1
    have h2 : y.fo = [] := congrArg Tb.fo hy
    have h3 : y.en = [] := congrArg Tb.en hy
    exact ⟨hO, by simp [h1], by simp [h1], by simp [h2], by simp [h3], by simp [h2], by simp [h3]⟩
theorem mk_of {e : Ending} (h : MakeAns w w' e x.T) {N : Nat} (hT : TabIn w N x) {E : Int} (hE : (if fitsB x.T then (0 : Int) else 70) = E) :
    Below w.heap.size w w' ∧ ∃ y : TV, e = .returned (.tuple #[.agg y.C', .int .i64 E]) ∧ Tbl w' w.heap.size 4096 y ∧ y.T = leastOf x.T := by
  obtain ⟨hB, y, rfl, hO, hy⟩ := h
  exact ⟨hB, y, by rw [← hE], mk_tbl hT hO hy, hy⟩
theorem ofall_fill {k : Nat} (h : OfAll (fillT x m) k) : OfAll x k := by
  rcases h with h | h | h | ⟨i, hi, a, h1, h2⟩
  · exact .inl h
  · exact .inr (.inl h)
  · exact .inr (.inr (.inl h))
  · refine .inr (.inr (.inr ⟨i, by simpa [fillT] using hi, a, ?_, h2⟩))
    simpa [fillT] using h1
theorem fill_tbl (h : Tbl w base B x) (hm : m ≤ 1000) (hO : TOwn w' base (fillT x m) [] [] []) : Tbl w' base B (fillT x m) := by
  refine ⟨hO, by simpa [fillT] using h.n, fun r hr => ?_, by simpa [fillT] using h.f, by simpa [fillT] using h.e, fun y hy => ?_, fun y hy => ?_⟩
  · obtain ⟨q, hq, rfl⟩ := List.mem_map.1 hr
    simpa using h.r q hq
  · have := List.eq_of_mem_replicate hy; omega
  · have := List.eq_of_mem_replicate hy; omega
theorem gro_row (e1 : p.rs.map (·.l) = x.rs.map (fun r => r.l ++ [(m : Int)])) {r : RV} (hr : r ∈ p.rs) : ∃ q ∈ x.rs, q.l ++ [(m : Int)] = r.l := by
  have h1 : r.l ∈ p.rs.map (·.l) := List.mem_map_of_mem hr
  rw [e1] at h1
  exact List.mem_map.1 h1
theorem gro_tbl (h : Tbl w base B x) (hm : m ≤ 1000) (hO : TOwn w' base p [] [] []) (e1 : p.rs.map (·.l) = x.rs.map (fun r => r.l ++ [(m : Int)])) (e2 : p.fo = x.fo ++ [m]) (e3 : p.en = x.en ++ [m + 1]) : Tbl w' base (B + 1) p := by
  have hl := congrArg List.length e1
  simp only [List.length_map] at hl
  refine ⟨hO, by have := h.n; omega, fun r hr => ?_, by have := h.f; simp [e2]; omega, by have := h.e; simp [e3]; omega, fun y hy => ?_, fun y hy => ?_⟩
  · obtain ⟨q, hq, hql⟩ := gro_row e1 hr
    have := h.r q hq
    have := congrArg List.length hql
    simp at this
    omega
  · rw [e2] at hy
    rcases List.mem_append.1 hy with hy | hy
    · exact h.f32 y hy
    · simp at hy; omega
  · rw [e3] at hy
    rcases List.mem_append.1 hy with hy | hy
    · exact h.e32 y hy
    · simp at hy; omega
theorem gro_full (h : Full x m) (e1 : p.rs.map (·.l) = x.rs.map (fun r => r.l ++ [(m : Int)])) (e2 : p.fo = x.fo ++ [m]) (e3 : p.en = x.en ++ [m + 1]) : Full p m := by
  refine ⟨fun r hr z hz => ?_, fun y hy => ?_, fun y hy => ?_⟩
  · obtain ⟨q, hq, hql⟩ := gro_row e1 hr
    rw [← hql] at hz
    rcases List.mem_append.1 hz with hz | hz
    · exact h.r q hq z hz
    · simpa using hz
  · rw [e2] at hy
    rcases List.mem_append.1 hy with hy | hy
    · exact h.f y hy
    · simpa using hy
  · rw [e3] at hy
    rcases List.mem_append.1 hy with hy | hy
    · exact h.e y hy
    · simpa using hy
/-- the list of ends turns -/
theorem TOwn.setE {xr : List Int} {xf : List Nat} {xn : List RV} (h : TOwn w base x xr xf xn) (hg : w.grownBy w' (Value.slice x.C (x.en.length + xf.length) x.e).ownBlock) {l : List Nat} (hl : l.length = x.en.length)
    (ho : Own w' base 55 1 encR (.slice x.C (x.en.length + xf.length) x.e) (l ++ xf)) : TOwn w' base { x with en := l } xr xf xn := by
  have h0 := h.en
  refine ⟨own_own h.rows h0 hg (by decide), own_apart h.fo h0 (fun a b ha hb => h.fe a b ha hb) hg, ?_, fun j hj => own_own (h.row j hj) h0 hg (by decide), h.ap, h.fe⟩
  show Own w' base 55 1 encR (.slice x.C (l.length + xf.length) x.e) (l ++ xf)
  rw [hl]
  exact ho
theorem ofall_en {l : List Nat} {k : Nat} (h : OfAll { x with en := l } k) : OfAll x k := h
theorem cop_own_tab {y x : TV} {rz : RV} {N base : Nat} (he : y.rs.map (·.l) = x.rs.map (·.l)) (hf : y.fo = x.fo) (hl : y.en.length = x.en.length) (h32 : ∀ v ∈ y.en, v < 4294967296) (hS : Sml x) (hT : TabIn w N x) (hO : TOwn w' base y [77] [77] [rz]) : TabIn w' w'.heap.size y := by
  have hlr : y.rs.length = x.rs.length := by have := congrArg List.length he; simpa using this
  have hrl : ∀ i (h1 : i < y.rs.length) (h2 : i < x.rs.length), y.rs[i].l = x.rs[i].l := fun i h1 h2 => by
    have h4 : (y.rs.map (·.l))[i]'(by simpa using h1) = (x.rs.map (·.l))[i]'(by simpa using h2) := by simp only [he]
    simpa using h4
  exact hO.tab (by have := hS.n; omega) (fun r hr => by
      obtain ⟨i, hi, rfl⟩ := List.mem_iff_getElem.1 hr
      rw [hrl i hi (by omega)]
      have := hS.r _ (List.getElem_mem (show i < x.rs.length by omega))
      omega) (by rw [hf]; have := hS.f; omega) (by have := hS.e; omega) (by rw [hf]; exact hT.f32) h32
theorem set_back {l : List Nat} {i v u : Nat} (hi : i < l.length) (hu : u = l[i]) : (l.set i v).set i u = l := by
  rw [List.set_set, hu, List.set_getElem_self]
end
end Go.Proofs.Ytgahdookojbbiaa
