/- sim.Begin: the map of edges while it is filled; the machine stands. No condition beyond those named in each lemma. -/
import Derived.Test.YtgahdookojbbiaaDoorSimL
namespace Go.Proofs.YtgahdookojbbiaaDoor
open Go.RowKit Go.Shelf Go.Maps
set_option linter.unusedVariables false
set_option linter.unusedSimpArgs false

def vAt (mf : Int → Option Value) (n : Nat) : Value := (mf (n : Int)).getD (.slice none 0 0)
/-- the map while the edges es are behind -/
structure EdMap (lo : Nat) (W : World) (bm N : Nat) (es : List Edg) (nm : Nat) (mf : Int → Option Value) : Prop where
  cnt : nm ≤ es.length
  low : lo ≤ bm
  map : ValMap W bm nm mf
  own : ∀ n : Nat, n < N → Own W lo 53 7 edgC (vAt mf n) (edgesAt es n)
  apart : ∀ n n' k : Nat, n < N → n' < N → n ≠ n' → (vAt mf n).ownBlock = some k → (vAt mf n').ownBlock ≠ some k
theorem own_map_ne {α : Type} {enc : α → Array Value} {W : World} {lo size bm nm : Nat} {e : TypeId} {v : Value} {ys : List α} {mf : Int → Option Value} (h : Own W lo e size enc v ys) (hm : ValMap W bm nm mf) : v.ownBlock ≠ some bm := by
  intro hv0
  obtain ⟨D, ⟨es, clock, hb, _⟩, _⟩ := hm
  rcases h.2 with ⟨hv, _⟩ | ⟨g', cap, cur, hv, _, hh, _⟩
  · rw [hv] at hv0; cases hv0
  · rw [hv] at hv0
    have a1 : g' = bm := by simpa [Value.ownBlock] using hv0
    subst a1
    rw [hb] at hh
    injection hh with hh
    cases hh
theorem blk_map_ne {W : World} {g bm nm : Nat} {t : TypeId} {cs : Array Value} {mf : Int → Option Value} (h : Blk W g t cs) (hm : ValMap W bm nm mf) : g ≠ bm := by
  rintro rfl
  obtain ⟨D, ⟨es, clock, hb, _⟩, _⟩ := hm
  unfold Blk at h
  rw [hb] at h
  injection h with h
  cases h
theorem EdMap.new {lo bm N : Nat} {W : World} (hl : lo ≤ bm) (hm : ValMap W bm 0 noKeys) : EdMap lo W bm N [] 0 noKeys :=
  ⟨Nat.le_refl _, hl, hm, fun n _ => Own.nil_ _ _ _ _ _, fun n n' k _ _ _ h => by cases h⟩
theorem EdMap.then_ {lo bm N nm : Nat} {W W' : World} {es : List Edg} {mf : Int → Option Value} (h : EdMap lo W bm N es nm mf) (hb : Below W.heap.size W W') : EdMap lo W' bm N es nm mf :=
  ⟨h.cnt, h.low, h.map.then_ hb, fun n hn => (h.own n hn).then_ hb, h.apart⟩
theorem edgesAt_snoc (es : List Edg) (d : Edg) (n : Nat) : edgesAt (es ++ [d]) n = edgesAt es n ++ (if d.fr = n then [d] else []) := by
  unfold edgesAt
  rw [List.filter_append]
  congr 1
  by_cases h : d.fr = (n : Int) <;> simp [h]
theorem EdMap.step {lo bm N nm n0 : Nat} {W w4 w5 : World} {es : List Edg} {mf : Int → Option Value} {dd : Edg} {v' : Value} (h : EdMap lo W bm N es nm mf) (hn0 : n0 < N) (hdd : dd.fr = n0)
    (hg : W.grownBy w4 (vAt mf n0).ownBlock) (hm4 : ValMap w4 bm nm mf) (hv : Own w4 lo 53 7 edgC v' (edgesAt es n0 ++ [dd])) (hat : v'.ownBlock = (vAt mf n0).ownBlock ∨ ∃ k, v'.ownBlock = some k ∧ W.heap.size ≤ k)
    (hm : ValMap w5 bm (nm + 1) (fun z => if z = (n0 : Int) then some v' else mf z)) (hg5 : w4.grownBy w5 (some bm)) : EdMap lo w5 bm N (es ++ [dd]) (nm + 1) (fun z => if z = (n0 : Int) then some v' else mf z) := by
  have e0 : vAt (fun z => if z = (n0 : Int) then some v' else mf z) n0 = v' := by simp [vAt]
  have e1 : ∀ n : Nat, n ≠ n0 → vAt (fun z => if z = (n0 : Int) then some v' else mf z) n = vAt mf n := fun n hn => by
    have : ¬ (n : Int) = n0 := by omega
    simp [vAt, this]
  have hfar : ∀ n k : Nat, n < N → n ≠ n0 → (vAt mf n).ownBlock = some k → v'.ownBlock ≠ some k := fun n k hn hne hk h2 => by
    rcases hat with h3 | ⟨k3, h3, h4⟩
    · exact h.apart n n0 k hn hn0 hne hk (h3 ▸ h2)
    · rw [h3] at h2
      injection h2 with h2
      have := ((h.own n hn).lt k hk).2
      omega
  refine ⟨by have := h.cnt; simp; omega, h.low, hm, fun n hn => ?_, fun n n' k hn hn' hne hk => ?_⟩
  · by_cases e : n = n0
    · subst e
      rw [e0, edgesAt_snoc, if_pos hdd]
      exact hv.kept_ hg5 (fun j h1 h2 => by injection h2 with h2; subst h2; exact own_map_ne hv hm4 h1)
    · rw [e1 n e, edgesAt_snoc, if_neg (by omega), List.append_nil]
      have h4 : Own w4 lo 53 7 edgC (vAt mf n) (edgesAt es n) := (h.own n hn).kept_ hg (fun j h1 h2 => h.apart n n0 j hn hn0 e h1 h2)
      exact h4.kept_ hg5 (fun j h1 h2 => by injection h2 with h2; subst h2; exact own_map_ne h4 hm4 h1)
  · by_cases e : n = n0
    · subst e
      rw [e0] at hk
      rw [e1 n' (fun e => hne e.symm)]
      exact fun h2 => hfar n' k hn' (fun e => hne e.symm) h2 hk
    · rw [e1 n e] at hk
      by_cases e' : n' = n0
      · subst e'
        rw [e0]
        exact hfar n k hn e hk
      · rw [e1 n' e']
        exact h.apart n n' k hn hn' hne hk
theorem own_sliceof {α : Type} {enc : α → Array Value} {W W' : World} {lo size n c : Nat} {e : TypeId} {A : Option Addr} {ys : List α} (hs : ∀ y, (enc y).size = size) (h : Own W lo e size enc (.slice A n c) ys) (hk : ∀ k, lo ≤ k → k < W.heap.size → W'.heap[k]? = W.heap[k]?) : SliceOf W' W.heap.size size enc A ys := by
  have h1 := h.slice_all hs
  rcases h1 with h1 | ⟨b, off, hA, hlt, hr⟩
  · exact .inl h1
  · subst hA
    exact .inr ⟨b, off, rfl, hlt, fun i hi => (hr i hi).keep (hk b ((h.lt b rfl).1) hlt)⟩
theorem mach_of {lo gm bm N nm : Nat} {W : World} {E : List Edg} {R : List Nat} {mf : Int → Option Value} {u : Value} (hf : Fits N E R) (hN : N ≤ 1099511627776) (hE : E.length ≤ 1099511627776) (hR : ∀ r ∈ R, r < 4294967296) (hlo : 0 < lo) (hg : lo ≤ gm)
    (hb : Blk W gm 67 #[.int .i64 (N : Int), .map (some bm), u]) (hu : Own W lo 28 1 encR u R) (hm : EdMap lo W bm N E nm mf) : MachIn lo W.heap.size W gm N E R := by
  intro W' hk hs
  obtain ⟨B, d, rfl, _, _⟩ := hu.shape
  have hgl := hb.lt
  have hbl := hm.map.lt
  refine ⟨hf, hN, hE, hR, by omega, hs, hgl, bm, nm, B, _, d, mf, hbl, (hk gm hg hgl).trans hb, rfl, own_sliceof encR_size hu hk, hm.map.keep (hk bm hm.low hbl), fun n hn => ?_⟩
  have ho := hm.own n hn
  obtain ⟨A, c, hv, _, _⟩ := ho.shape
  rw [hv] at ho
  exact ⟨A, _, c, hv, rfl, own_sliceof edgC_size ho hk⟩
theorem right_fits {s : Int} {E : List Edg} {R : List Nat} (h : rightB s E R.length = true) : ∃ N : Nat, s = N ∧ Fits N E R := by
  unfold rightB at h
  simp only [Bool.and_eq_true, decide_eq_true_eq, List.all_eq_true] at h
  obtain ⟨⟨h1, h2⟩, h3⟩ := h
  refine ⟨R.length, h2.symm, ⟨by omega, rfl, fun d hd => ?_, fun d hd => ?_, fun d hd => ?_, fun d hd hk => ?_⟩⟩
  all_goals
    have h4 := h3 d hd
    unfold badE inS at h4
    simp only [Bool.not_or, Bool.not_and, Bool.and_eq_true, Bool.or_eq_true, Bool.not_eq_true', Bool.not_not, decide_eq_true_eq, decide_eq_false_iff_not, bne_iff_ne, bne_eq_false_iff_eq, Bool.not_eq_false'] at h4
  · omega
  · omega
  · omega
  · rcases h4.2 with h5 | h5
    · exact absurd h5 hk
    · exact h5
end Go.Proofs.YtgahdookojbbiaaDoor
