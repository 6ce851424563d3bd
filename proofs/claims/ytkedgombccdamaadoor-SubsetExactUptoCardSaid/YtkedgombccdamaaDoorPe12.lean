/- Part 12 of a proof; packed: the texts that it was made of follow one another. No condition beyond those named in each lemma. -/
import Derived.Test.YtkedgombccdamaaDoorPe10
import Derived.Test.YtkedgombccdamaaDoorPe11
import Derived.Test.YtkedgombccdamaaDoorPe2
import Derived.Test.YtkedgombccdamaaDoorPe3
import Derived.Test.YtkedgombccdamaaDoorPe8
namespace Go.Proofs.YtkedgombccdamaaDoor
open Go.RowKit Go.Shelf Go.Maps
set_option linter.unusedVariables false
set_option linter.unusedSimpArgs false
attribute [local go_sem] Oper.semAt_some

set_option maxRecDepth 100000 in
set_option maxHeartbeats 8000000 in
theorem copied10_any (F : NF) (A : Option Addr) (n c : Nat) (B : Option Addr) (m d : Nat) (hn : n = F.E.length) (hm : m = F.R.length) (hE : F.E.length ≤ 1048576) (hRl : F.R.length ≤ 1048576) (w : World)
    (hsE : SliceOf w w.heap.size 7 edgC A F.E) (hsR : SliceOf w w.heap.size 1 encR B F.R) :
    Calls Tryd.prog 9 #[.agg (nfaC F.s A n c B m d)] w fun e w' => Below w.heap.size w w' ∧ ∃ x : CP, x.F = F ∧ e = .returned (.agg x.C) ∧ x.In w' w.heap.size := by
  obtain ⟨s, E, R⟩ := F
  simp only at hn hm hE hRl hsE hsR
  have hn2 : n ≤ 1048576 := by omega
  have hm2 : m ≤ 1048576 := by omega
  have Hn := Lib.hid hn
  have Hm := Lib.hid hm
  clear hn hm
  go_enter Tryd.func9, Tryd.ntmps9
  have h1 := (Blk.new w 25 (nfaC s A n c B m d)).alloc (.cells #[.int .i64 0, .slice none 0 0, .slice none 0 0] 25)
  have h2 : Blk ((w.alloc (.cells (nfaC s A n c B m d) 25)).alloc (.cells #[.int .i64 0, .slice none 0 0, .slice none 0 0] 25)) (w.heap.size + 1) 25 (nfaC 0 none 0 0 none 0 0) := Blk.new' _ _ _ (by simp)
  have hB1 := below_alloc (below_alloc (Below.refl w.heap.size w) (.cells (nfaC s A n c B m d) 25)) (.cells #[.int .i64 0, .slice none 0 0, .slice none 0 0] 25)
  go_upto_region 1 with (fail)
  obtain ⟨w1, hw1⟩ : ∃ y, y = (w.alloc (.cells (nfaC s A n c B m d) 25)).alloc (.cells #[.int .i64 0, .slice none 0 0, .slice none 0 0] 25) := ⟨_, rfl⟩
  rw [← hw1] at h1 h2 hB1 ⊢
  clear hw1
  have hl2 := h2.lt
  obtain ⟨ie, hie, hye0, hye1, hye2⟩ := info_parts info_edge3
  obtain ⟨iu, hiu, hyu0, hyu1, hyu2⟩ := info_parts info_r3
  have hcells : ∀ X : World, Below w1.heap.size w1 X → X.cell? ⟨w.heap.size, 1, none⟩ = some (.slice A n c) := fun X hb => (blk_then h1 hb).cellv (i := 1) rfl
  have hcells2 : ∀ X : World, Below w1.heap.size w1 X → X.cell? ⟨w.heap.size, 2, none⟩ = some (.slice B m d) := fun X hb => (blk_then h1 hb).cellv (i := 2) rfl
  have HC1 := Lib.hid hcells
  have HC2 := Lib.hid hcells2
  clear hcells hcells2
  have hBa : Below w1.heap.size w1 (w1.alloc (.cells #[] 76)) := below_alloc (Below.refl _ _) _
  have c1 := HC1.out _ hBa
  have o1 := own_empty (α := Edg) (enc := edgC) (size := 7) (e := 76) (base := w1.heap.size) (w := w1) (Nat.le_refl _)
  go_upto_region 2 with (first | (refine wl_b0e rfl rfl ?_) | (at_builtin; refine park ?_))
  refine Parked.mk ?_
  have hsE2 := hsE.keep (w' := w1.alloc (.cells #[] 76)) (fun k hk => (hBa.block k (by have := hB1.size; omega)).trans (hB1.block k hk))
  refine wl_append _ rfl _ _ 22 rfl w1.heap.size 76 ie _ 7 56 Tryd.underlying22 hie hye0 hye1 hye2 rfl (by decide) edgC_size edgC_one _ [] rfl o1 _ A n c E rfl Hn.out hsE2 (by simp only [List.length_nil]; unfold maxLen; omega) (by simp only [List.length_nil]; omega) hBa.size ?_
  intro v3 w3 hs3 hg3 _
  rw [List.nil_append] at hs3
  have hB3 : Below w1.heap.size w1 w3 := hBa.grown hg3 hBa.size (fun q e => (o1.lt q e).1)
  clear hg3 c1 hsE2 o1 hBa
  obtain ⟨A3, k3, rfl, _, _⟩ := hs3.shape
  simp only [Act.put, List.setIfInBounds_toArray, List.set_cons_zero, List.set_cons_succ]
  go_upto_region 2 with (first
    | (refine wl_build77 rfl rfl ?_)
    | (refine wl_one (d := edge77) rfl _ rfl rfl ?_)
    | (at_builtin; refine park ?_))
  refine Parked.mk ?_
  have hB4 : Below w3.heap.size w3 (w3.alloc (.cells (edgC edge77) 76)) := below_alloc (Below.refl _ _) _
  have hs4 := hs3.then_ hB4
  have hz3 := hB3.size
  have hz4 := hB4.size
  refine wl_append _ rfl _ _ 22 rfl w1.heap.size 76 ie _ 7 56 Tryd.underlying22 hie hye0 hye1 hye2 rfl (by decide) edgC_size edgC_one (.slice A3 _ k3) E rfl hs4 _ _ 1 1 [edge77] rfl rfl (slice_one (enc := edgC) (Blk.new w3 _ _)) (by unfold maxLen; omega) (by omega) (by omega) ?_
  intro v5 w5 hs5 hg5 _
  have hB5 : Below w1.heap.size w1 w5 := (below_then hB3 hB4).grown hg5 (by omega) (fun q e => (hs4.lt q e).1)
  clear hg5 hB4 hs4 hs3 hB3 hz3 hz4
  obtain ⟨ge, ce, rfl, hge, hgel, hce, _⟩ := hs5.form (by simp)
  have hlE : (E ++ [edge77]).length = n + 1 := by rw [List.length_append, ← Hn.out]; rfl
  rw [hlE] at hs5 hce ⊢
  have hz5 := hB5.size
  clear hlE
  simp only [Act.put, List.setIfInBounds_toArray, List.set_cons_zero, List.set_cons_succ]
  go_upto_region 2 with (fail)
  have hB6 : Below w5.heap.size w5 (w5.alloc (.cells #[] 43)) := below_alloc (Below.refl _ _) _
  have c2 := HC2.out _ (below_then hB5 hB6)
  have o2 := own_empty (α := Nat) (enc := encR) (size := 1) (e := 43) (base := w5.heap.size) (w := w5) (Nat.le_refl _)
  go_upto_region 3 with (first | (refine wl_b0r rfl rfl ?_) | (at_builtin; refine park ?_))
  refine Parked.mk ?_
  have hsR6 := hsR.keep (w' := w5.alloc (.cells #[] 43)) (fun k hk => (hB6.block k (by have := hB1.size; omega)).trans ((hB5.block k (by have := hB1.size; omega)).trans (hB1.block k hk)))
  refine wl_append _ rfl _ _ 23 rfl w5.heap.size 43 iu _ 1 4 Tryd.underlying23 hiu hyu0 hyu1 hyu2 rfl (by decide) encR_size encR_one _ [] rfl o2 _ B m d R rfl Hm.out hsR6 (by simp only [List.length_nil]; unfold maxLen; omega) (by simp only [List.length_nil]; omega) hB6.size ?_
  intro v7 w7 hr7 hg7 _
  rw [List.nil_append] at hr7
  have hB7 : Below w5.heap.size w5 w7 := hB6.grown hg7 hB6.size (fun q e => (o2.lt q e).1)
  clear hg7 c2 hsR6 o2 hB6
  obtain ⟨A7, k7, rfl, _, _⟩ := hr7.shape
  simp only [Act.put, List.setIfInBounds_toArray, List.set_cons_zero, List.set_cons_succ]
  go_upto_region 3 with (first
    | (refine wl_bs77 rfl rfl ?_)
    | (at_builtin; refine park ?_))
  refine Parked.mk ?_
  have hB8 : Below w7.heap.size w7 (w7.alloc (.cells (encR 77) 43)) := below_alloc (Below.refl _ _) _
  have hr8 := hr7.then_ hB8
  have hz7 := hB7.size
  have hz8 := hB8.size
  refine wl_append _ rfl _ _ 23 rfl w5.heap.size 43 iu _ 1 4 Tryd.underlying23 hiu hyu0 hyu1 hyu2 rfl (by decide) encR_size encR_one (.slice A7 _ k7) R rfl hr8 _ _ 1 1 [77] rfl rfl (slice_one (enc := encR) (Blk.new w7 _ _)) (by unfold maxLen; omega) (by omega) (by omega) ?_
  intro v9 w9 hr9 hg9 _
  have hB9 : Below w5.heap.size w5 w9 := (below_then hB7 hB8).grown hg9 (by omega) (fun q e => (hr8.lt q e).1)
  clear hg9 hB8 hr8 hr7 hB7 hz7 hz8
  obtain ⟨gu, cu, rfl, hgu, hgul, hcu, _⟩ := hr9.form (by simp)
  have hlR : (R ++ [77]).length = m + 1 := by rw [List.length_append, ← Hm.out]; rfl
  rw [hlR] at hr9 hcu ⊢
  clear hlR
  simp only [Act.put, List.setIfInBounds_toArray, List.set_cons_zero, List.set_cons_succ]
  have hB19 := below_then hB5 hB9
  have h19 := blk_then h1 hB19
  have h29 := blk_then h2 hB19
  have hs9 := hs5.then_ hB9
  have hBw9 := below_then hB1 hB19
  clear hs5 hB9 hB5 h1 h2 HC1 HC2 hB1
  go_upto_region 3 with (fail)
  refine wp_region_steps 13 [eqS (.pointer (some ⟨w.heap.size, 0, none⟩)), eqS (.int .i64 s), eqS (.slice (some ⟨ge, 0, none⟩) (n + 1) ce), eqS (.pointer (some ⟨w.heap.size, 1, none⟩)), eqS (.slice A n c), eqS (.int .i64 (n : Int)), eqS (.slice (some ⟨ge, 0, none⟩) n ce), eqS (.slice (some ⟨gu, 0, none⟩) (m + 1) cu), eqS (.pointer (some ⟨w.heap.size, 2, none⟩)), eqS (.slice B m d), eqS (.int .i64 (m : Int)), eqS (.slice (some ⟨gu, 0, none⟩) m cu), eqS (.agg (nfaC s (some ⟨ge, 0, none⟩) n ce (some ⟨gu, 0, none⟩) m cu))] [18, 19, 20, 21, 22, 23, 24, 25, 26, 27, 28, 29, 30] rfl (by kernel_rfl) rfl ?_ ?_
  · skip
    refine Steps.cons (fun a' w' hG hB dep => gs_field (want_none rfl) _ _ _ rfl w.heap.size 0 0 (hG.other 1 rfl) (fun wz => field_nfa_0 w.heap.size 0 wz) rfl) ?_
    refine Steps.cons (fun a' w' hG hB dep => gs_load1 (want_none rfl) _ _ rfl w.heap.size 0 (dep 0 rfl 18 rfl) (.int .i64 s) ((blk_then h19 hB).cellv (i := 0) rfl) _ Tryd.underlying3 rfl rfl) ?_
    refine Steps.cons (fun a' w' hG hB dep => gs_move (want_none rfl) _ rfl (hG.other 3 rfl)) ?_
    refine Steps.cons (fun a' w' hG hB dep => gs_field (want_none rfl) _ _ _ rfl w.heap.size 0 1 (hG.other 1 rfl) (fun wz => field_nfa_1 w.heap.size 0 wz) rfl) ?_
    refine Steps.cons (fun a' w' hG hB dep => gs_load1 (want_none rfl) _ _ rfl w.heap.size 1 (dep 3 rfl 21 rfl) (.slice A n c) ((blk_then h19 hB).cellv (i := 1) rfl) _ Tryd.underlying22 rfl rfl) ?_
    refine Steps.cons (fun a' w' hG hB dep => gs_len (want_none rfl) _ _ rfl under_edges _ n c (dep 4 rfl 22 rfl) rfl) ?_
    refine Steps.cons (fun a' w' hG hB dep => gs_slice_to (want_none rfl) _ _ _ rfl under_edges 7 size_edgeE ⟨ge, 0, none⟩ (n + 1) ce n (dep 2 rfl 20 rfl) (dep 5 rfl 23 rfl) (by omega) rfl) ?_
    refine Steps.cons (fun a' w' hG hB dep => gs_move (want_none rfl) _ rfl (hG.other 4 rfl)) ?_
    refine Steps.cons (fun a' w' hG hB dep => gs_field (want_none rfl) _ _ _ rfl w.heap.size 0 2 (hG.other 1 rfl) (fun wz => field_nfa_2 w.heap.size 0 wz) rfl) ?_
    refine Steps.cons (fun a' w' hG hB dep => gs_load1 (want_none rfl) _ _ rfl w.heap.size 2 (dep 8 rfl 26 rfl) (.slice B m d) ((blk_then h19 hB).cellv (i := 2) rfl) _ Tryd.underlying23 rfl rfl) ?_
    refine Steps.cons (fun a' w' hG hB dep => gs_len (want_none rfl) _ _ rfl under_rules _ m d (dep 9 rfl 27 rfl) rfl) ?_
    refine Steps.cons (fun a' w' hG hB dep => gs_slice_to (want_none rfl) _ _ _ rfl under_rules 1 size_ruleE ⟨gu, 0, none⟩ (m + 1) cu m (dep 7 rfl 25 rfl) (dep 10 rfl 28 rfl) (by omega) rfl) ?_
    refine Steps.cons (fun a' w' hG hB dep => gs_build_nfa (want_none rfl) _ _ _ rfl _ _ _ _ _ _ _ (dep 1 rfl 19 rfl) (dep 6 rfl 24 rfl) (dep 11 rfl 29 rfl) rfl) ?_
    exact Steps.nil
  intro uz w10 hB10 ans
  have v30 : uz 30 = .agg (nfaC s (some ⟨ge, 0, none⟩) n ce (some ⟨gu, 0, none⟩) m cu) := ans 12 30 (by decide) rfl
  clear ans
  simp only [putAll, List.foldl_cons, List.foldl_nil, Act.put, List.setIfInBounds_toArray, List.set_cons_zero, List.set_cons_succ, v30]
  clear v30
  simp only [List.drop]
  have h210 := blk_then h29 hB10
  refine wl_store_nfa rfl _ _ rfl (w.heap.size + 1) _ _ _ _ _ _ _ rfl rfl _ _ _ _ _ _ _ h210 ?_
  intro w11 h211 hg11
  have hsF := own_box (hs9.then_ hB10) h210 hg11 (by decide)
  have hrF := own_box (hr9.then_ hB10) h210 hg11 (by decide)
  have hBe := (below_then hBw9 hB10).grown hg11 (by have := hBw9.size; have := hB10.size; omega) (fun j e => by injection e with e; omega)
  clear hs9 hr9 h29 h210 h19 hB10 hg11
  refine wpList_nil ?_
  go_wp2_with (fail)
  refine ret_nfa1 rfl rfl h211 rfl ?_
  refine ⟨hBe, ⟨⟨s, E, R⟩, ge, ce, gu, cu⟩, rfl, ?_, ?_, ?_⟩
  · rw [Hn.out, Hm.out]; rfl
  · have := hsF.mono (base' := w.heap.size) (by omega)
    rw [Hn.out] at this
    exact this
  · have := hrF.mono (base' := w.heap.size) (by omega)
    rw [Hm.out] at this
    exact this
set_option maxRecDepth 100000 in
set_option maxHeartbeats 8000000 in
theorem kept10_any (s : Int) (A : Option Addr) (n c : Nat) (B : Option Addr) (m d ge ce gu cu : Nat) (E : List Edg) (R : List Nat) (hn : n = E.length) (hm : m = R.length) (hE : E.length ≤ 1048576) (hRl : R.length ≤ 1048576) (hce : n + 1 ≤ ce) (hcu : m + 1 ≤ cu) (w : World)
    (hsE : SliceOf w w.heap.size 7 edgC A E) (hsR : SliceOf w w.heap.size 1 encR B R) (hxE : SliceOf w w.heap.size 7 edgC (some ⟨ge, 0, none⟩) (E ++ [edge77])) (hxR : SliceOf w w.heap.size 1 encR (some ⟨gu, 0, none⟩) (R ++ [77])) :
    Calls Tryd.prog 13 #[.agg (nfaC s (some ⟨ge, 0, none⟩) n ce (some ⟨gu, 0, none⟩) m cu), .agg (nfaC s A n c B m d)] w fun e w' => e = .returned (.bool true) ∧ Below w.heap.size w w' := by
  have hn2 : n ≤ 1048576 := by omega
  have hm2 : m ≤ 1048576 := by omega
  go_enter Tryd.func13, Tryd.ntmps13
  have h2 := (Blk.new w 25 (nfaC s (some ⟨ge, 0, none⟩) n ce (some ⟨gu, 0, none⟩) m cu)).alloc (.cells (nfaC s A n c B m d) 25)
  have h3 : Blk ((w.alloc (.cells (nfaC s (some ⟨ge, 0, none⟩) n ce (some ⟨gu, 0, none⟩) m cu) 25)).alloc (.cells (nfaC s A n c B m d) 25)) (w.heap.size + 1) 25 (nfaC s A n c B m d) := Blk.new' _ _ _ (by simp)
  have hB1 := below_alloc (below_alloc (Below.refl w.heap.size w) (.cells (nfaC s (some ⟨ge, 0, none⟩) n ce (some ⟨gu, 0, none⟩) m cu) 25)) (.cells (nfaC s A n c B m d) 25)
  have Hn := Lib.hid hn
  have Hm := Lib.hid hm
  clear hn hm
  go_upto_region 1 with (fail)
  obtain ⟨w1, hw1⟩ : ∃ y, y = (w.alloc (.cells (nfaC s (some ⟨ge, 0, none⟩) n ce (some ⟨gu, 0, none⟩) m cu) 25)).alloc (.cells (nfaC s A n c B m d) 25) := ⟨_, rfl⟩
  rw [← hw1] at h2 h3 hB1 ⊢
  clear hw1
  obtain ⟨g2, hg2⟩ : ∃ g, g = w.heap.size := ⟨_, rfl⟩
  obtain ⟨g3, hg3⟩ : ∃ g, g = w.heap.size + 1 := ⟨_, rfl⟩
  try rw [← hg3] at h3 ⊢
  try rw [← hg2] at h2 ⊢
  clear hg2 hg3
  have hgE : ge < w.heap.size := by
    obtain ⟨b, off, e1, hb2, _⟩ := hxE.at_ (by simp)
    injection e1 with e1
    injection e1 with e1 e2
    omega
  have hxrow : ∀ i (h : i < E.length), RowAt w ge (i * 7) (edgC E[i]) := fun i h => by
    obtain ⟨b, off, e1, hb2, hr⟩ := hxE.at_ (by simp)
    injection e1 with e1
    injection e1 with e1 e2
    subst e1 e2
    have h9 := hr i (by rw [List.length_append]; omega)
    rw [List.getElem_append_left h] at h9
    rw [Nat.zero_add] at h9
    exact h9
  have hgU : gu < w.heap.size := by
    obtain ⟨b, off, e1, hb2, _⟩ := hxR.at_ (by simp)
    injection e1 with e1
    injection e1 with e1 e2
    omega
  have hurow : ∀ i (h : i < R.length), w.cell? ⟨gu, i, none⟩ = some (.int .u32 ((R[i] : Nat) : Int)) := fun i h => by
    obtain ⟨b, off, e1, hb2, hr⟩ := hxR.at_ (by simp)
    injection e1 with e1
    injection e1 with e1 e2
    subst e1 e2
    have h9 := hr i (by rw [List.length_append]; omega) 0 _ rfl
    rw [List.getElem_append_left h] at h9
    rw [Nat.zero_add, Nat.mul_one, Nat.add_zero] at h9
    exact h9
  have hl1 : ∀ W : World, Below w1.heap.size w1 W → W.cell? ⟨ge, 0 + n * 7, none⟩ = some (.int .i64 77) := fun W hb => by
    have hbb := below_then hB1 hb
    obtain ⟨b, off, e1, hb2, hr⟩ := (hxE.below hbb).at_ (by simp)
    injection e1 with e1
    injection e1 with e1 e2
    subst e1 e2
    have h := (hr n (by rw [List.length_append, Hn.out]; simp)).kd
    refine h.trans ?_
    have : (E ++ [edge77])[n]'(by rw [List.length_append, Hn.out]; simp) = edge77 := by
      rw [List.getElem_append_right (by rw [Hn.out]; exact Nat.le_refl _)]
      simp
    rw [this]
    rfl
  have hl2 : ∀ W : World, Below w1.heap.size w1 W → W.cell? ⟨gu, 0 + m * 1, none⟩ = some (.int .u32 77) := fun W hb => by
    have hbb := below_then hB1 hb
    obtain ⟨b, off, e1, hb2, hr⟩ := (hxR.below hbb).at_ (by simp)
    injection e1 with e1
    injection e1 with e1 e2
    subst e1 e2
    have h := (hr m (by rw [List.length_append, Hm.out]; simp)) 0 _ rfl
    refine h.trans ?_
    have : (R ++ [77])[m]'(by rw [List.length_append, Hm.out]; simp) = 77 := by
      rw [List.getElem_append_right (by rw [Hm.out]; exact Nat.le_refl _)]
      simp
    rw [this]
    rfl
  have hl1 := Lib.hid hl1
  have hl2 := Lib.hid hl2
  have Hxrow := Lib.hid hxrow
  have Hurow := Lib.hid hurow
  have hsE1 := Lib.hid (hsE.below hB1)
  have hsR1 := Lib.hid (hsR.below hB1)
  have c0 : w1.cell? ⟨g3, 1, none⟩ = some (.slice A n c) := h3.cellv (i := 1) rfl
  clear hxrow hurow hsE hsR hxE hxR
  go_wp2_with (fail)
  clear c0
  go_loopw [12] (fun iv wr => ∃ i : Nat, i ≤ n ∧ iv = .int .i64 i ∧ Below w1.heap.size w1 wr ∧ Blk wr g2 25 (nfaC s (some ⟨ge, 0, none⟩) n ce (some ⟨gu, 0, none⟩) m cu) ∧ Blk wr g3 25 (nfaC s A n c B m d)) (fun iv _ => n - (intOf iv).toNat)
  case atStart => exact ⟨0, by omega, rfl, Below.refl _ _, h2, h3⟩
  case round =>
    clear h2 h3
    obtain ⟨i, hi, rfl, hB2, h2, h3⟩ := hrel
    by_cases hin : i < n
    · have hiI : (i : Int) < n := by omega
      have hiE : i < E.length := by rw [← Hn.out]; exact hin
      obtain ⟨bA, oA, hA, hbA, hrows⟩ := hsE1.out.at_ (by omega)
      have hr7 := (hrows i hiE).keep (hB2.block bA (by have := hB1.size; omega))
      have hx7 := Hxrow.out i hiE
      obtain ⟨dd, hd⟩ : ∃ d, d = E[i] := ⟨_, rfl⟩
      rw [← hd] at hr7 hx7
      have hrE : ∀ X : World, Below wr.heap.size wr X → RowAt X ge (0 + i * 7) (edgC dd) := fun X hB => by
        rw [Nat.zero_add]
        exact hx7.keep ((below_then (below_then hB1 hB2) hB).block ge hgE)
      have HrE := Lib.hid hrE
      clear hd hrE hx7 hrows
      rw [hA]
      go_upto_region 4 with (first | (refine wl_load_edge_at rfl _ rfl _ _ rfl _ hr7 ?_) | (refine wl_store_edge rfl _ _ rfl _ _ rfl rfl edge0 (Blk.new _ _ _) ?_; intro w6 h6 hg6))
      have hB6 := below_grown (below_alloc (Below.refl _ wr) (.cells #[.int .i64 0, .int .i64 0, .int .i64 0, .int .u64 0, .int .u64 0, .int .u64 0, .int .u64 0] 76)) hg6 (Nat.le_refl _)
      obtain ⟨ge6, hge6⟩ : ∃ y, y = wr.heap.size := ⟨_, rfl⟩
      rw [← hge6] at h6 ⊢
      have hrE : ∀ X : World, Below w6.heap.size w6 X → RowAt X ge (0 + i * 7) (edgC dd) := fun X hB => HrE.out X (below_then hB6 hB)
      replace h2 := blk_then h2 hB6
      replace h3 := blk_then h3 hB6
      replace hB2 := below_then hB2 hB6
      clear hge6 hg6 hB6 hr7
      refine wp_region_steps 7 [eqS (.pointer (some ⟨g2, 1, none⟩)), eqS (.slice (some ⟨ge, 0, none⟩) n ce), eqS (.int .i64 (((i : Nat) : Int))), eqS (.pointer (some ⟨ge, 0 + i * 7, none⟩)), eqS (.agg (edgC dd)), eqS (.agg (edgC dd)), eqS (.bool false)] [17, 18, 19, 20, 21, 22, 23] follows_mixed (by kernel_rfl) (by kernel_rfl) ?_ ?_
      · skip
        refine Steps.cons (fun a' w' hG hB dep => gs_field (want_none rfl) _ _ _ rfl g2 (0) (1) (hG.other 2 rfl) (fun wz => field_nfa_1 g2 (0) wz) rfl) ?_
        refine Steps.cons (fun a' w' hG hB dep => gs_load1 (want_none rfl) _ _ rfl g2 (1) (dep 0 rfl 17 rfl) (.slice (some ⟨ge, 0, none⟩) n ce) ((blk_then h2 hB).cellv (i := 1) rfl) _ Tryd.underlying22 rfl rfl) ?_
        refine Steps.cons (fun a' w' hG hB dep => gs_move (want_none rfl) _ rfl (id (hG.other 5 rfl))) ?_
        refine Steps.cons (fun a' w' hG hB dep => gs_index (want_none rfl) _ _ _ rfl under_edges 7 size_edgeE ge 0 n ce (i) (dep 1 rfl 18 rfl) (dep 2 rfl 19 rfl) hin rfl) ?_
        refine Steps.cons (fun a' w' hG hB dep => gs_load_edge_at (want_none rfl) _ rfl ge (0 + i * 7) (dep 3 rfl 20 rfl) _ (hrE _ hB) rfl) ?_
        refine Steps.cons (fun a' w' hG hB dep => gs_load_edge_at (want_none rfl) _ rfl ge6 (0) (hG.other 6 rfl) _ (RowAt.of_blk (blk_then h6 hB)) rfl) ?_
        refine Steps.cons (fun a' w' hG hB dep => gs_neq_edge (want_none rfl) _ _ _ rfl _ _ (dep 4 rfl 21 rfl) (dep 5 rfl 22 rfl) (id (congrArg Value.bool (by simp)))) ?_
        exact Steps.nil
      intro u wu hwu ans
      have hus23 : u 23 = (.bool false) := ans 6 23 (by decide) rfl
      clear ans
      simp only [putAll, List.foldl_cons, List.foldl_nil, Act.put, List.setIfInBounds_toArray, List.set_cons_zero, List.set_cons_succ, hus23]
      clear hus23
      simp only [List.drop]
      refine wpList_nil ?_
      replace h2 := blk_then h2 hwu
      replace h3 := blk_then h3 hwu
      replace hB2 := below_then hB2 hwu
      have HA := Lib.hid hA
      clear hwu hrE h6 hA
      go_wp2_with (fail)
      exact ⟨⟨i + 1, by omega, rfl, hB2, h2, by rw [← HA.out]; exact h3⟩, by simp only [intOf]; omega⟩
    · have hiI : ¬ (i : Int) < n := by omega
      have c1 : wr.cell? ⟨g3, 2, none⟩ = some (.slice B m d) := h3.cellv (i := 2) rfl
      clear hin
      go_upto_region 8 with (fail)
      clear c1 hiI
      go_loopw [28] (fun iv wr => ∃ i : Nat, i ≤ m ∧ iv = .int .i64 i ∧ Below w1.heap.size w1 wr ∧ Blk wr g2 25 (nfaC s (some ⟨ge, 0, none⟩) n ce (some ⟨gu, 0, none⟩) m cu) ∧ Blk wr g3 25 (nfaC s A n c B m d)) (fun iv _ => m - (intOf iv).toNat)
      case atStart => exact ⟨0, by omega, rfl, hB2, h2, h3⟩
      case round =>
        clear h2 h3 hB2
        obtain ⟨i, hi, rfl, hB2, h2, h3⟩ := hrel
        by_cases hin : i < m
        · have hiI : (i : Int) < m := by omega
          have hiR : i < R.length := by rw [← Hm.out]; exact hin
          obtain ⟨bR, oR, hA, hbR, hrows⟩ := hsR1.out.at_ (by omega)
          have hcu0 := Hurow.out i hiR
          obtain ⟨z, hz⟩ : ∃ z, z = R[i] := ⟨_, rfl⟩
          have hcz : wr.cell? ⟨bR, oR + i, none⟩ = some (.int .u32 ((z : Nat) : Int)) := by
            have h9 := (hrows i hiR) 0 _ rfl
            rw [Nat.mul_one, Nat.add_zero, ← hz] at h9
            exact (World.cell?_of_block (hB2.block bR (by have := hB1.size; omega))).trans h9
          rw [← hz] at hcu0
          have hrR : ∀ X : World, Below wr.heap.size wr X → X.cell? ⟨gu, 0 + i * 1, none⟩ = some (.int .u32 ((z : Nat) : Int)) := fun X hB => by
            rw [Nat.zero_add, Nat.mul_one]
            exact (World.cell?_of_block ((below_then (below_then hB1 hB2) hB).block gu hgU)).trans hcu0
          have HrR := Lib.hid hrR
          clear hz hrows hcu0 hrR
          rw [hA]
          go_upto_region 10 with (fail)
          have hrR := HrR.out
          clear hcz
          refine wp_region_text 7 [eqS (.pointer (some ⟨g2, 2, none⟩)), eqS (.slice (some ⟨gu, 0, none⟩) m cu), eqS (.int .i64 (((i : Nat) : Int))), eqS (.pointer (some ⟨gu, 0 + i * 1, none⟩)), eqS (.int .u32 (((z : Nat) : Int))), eqS (.int .u32 (((z : Nat) : Int))), eqS (.bool false)] [33, 34, 35, 36, 37, 38, 39] (by kernel_rfl) (by kernel_rfl) ?_ ?_
          · skip
            refine Steps.cons (fun a' w' hG hB dep => gs_field (want_none rfl) _ _ _ rfl g2 (0) (2) (hG.other 2 rfl) (fun wz => field_nfa_2 g2 (0) wz) rfl) ?_
            refine Steps.cons (fun a' w' hG hB dep => gs_load1 (want_none rfl) _ _ rfl g2 (2) (dep 0 rfl 33 rfl) (.slice (some ⟨gu, 0, none⟩) m cu) ((blk_then h2 hB).cellv (i := 2) rfl) _ Tryd.underlying23 rfl rfl) ?_
            refine Steps.cons (fun a' w' hG hB dep => gs_move (want_none rfl) _ rfl (id (hG.other 7 rfl))) ?_
            refine Steps.cons (fun a' w' hG hB dep => gs_index (want_none rfl) _ _ _ rfl under_rules 1 size_ruleE gu 0 m cu (i) (dep 1 rfl 34 rfl) (dep 2 rfl 35 rfl) hin rfl) ?_
            refine Steps.cons (fun a' w' hG hB dep => gs_load1 (want_none rfl) _ _ rfl gu (0 + i * 1) (dep 3 rfl 36 rfl) (.int .u32 (((z : Nat) : Int))) (hrR _ hB) _ Tryd.underlying43 rfl rfl) ?_
            refine Steps.cons (fun a' w' hG hB dep => gs_move (want_none rfl) _ rfl (id (hG.other 8 rfl))) ?_
            refine Steps.cons (fun a' w' hG hB dep => gs_neq_int (want_none rfl) _ _ _ _ rfl _ _ _ (dep 4 rfl 37 rfl) (dep 5 rfl 38 rfl) (id (congrArg Value.bool (bne_self_eq_false _)))) ?_
            exact Steps.nil
          intro u wu hwu ans
          have hus39 : u 39 = (.bool false) := ans 6 39 (by decide) rfl
          clear ans
          simp only [putAll, List.foldl_cons, List.foldl_nil, Act.put, List.setIfInBounds_toArray, List.set_cons_zero, List.set_cons_succ, hus39]
          clear hus39
          simp only [List.drop]
          refine wpList_nil ?_
          replace h2 := blk_then h2 hwu
          replace h3 := blk_then h3 hwu
          replace hB2 := below_then hB2 hwu
          have HA := Lib.hid hA
          clear hwu hrR hA
          go_wp2_with (fail)
          exact ⟨⟨i + 1, by omega, rfl, hB2, h2, by rw [← HA.out]; exact h3⟩, by simp only [intOf]; omega⟩
        · have hiI : ¬ (i : Int) < m := by omega
          go_upto_region 13 with (fail)
          have hl1 := hl1.out
          have hl2 := hl2.out
          refine wp_region_steps 30 [eqS (.pointer (some ⟨g2, 1, none⟩)), eqS (.slice (some ⟨ge, 0, none⟩) n ce), eqS (.pointer (some ⟨g3, 1, none⟩)), eqS (.slice A n c), eqS (.int .i64 (((n : Nat) : Int))), eqS (.int .i64 (((n + 1 : Nat) : Int))), eqS (.slice (some ⟨ge, 0, none⟩) (n + 1) ce), eqS (.pointer (some ⟨g3, 1, none⟩)), eqS (.slice A n c), eqS (.int .i64 (((n : Nat) : Int))), eqS (.pointer (some ⟨ge, 0 + n * 7, none⟩)), eqS (.pointer (some ⟨ge, 0 + n * 7, none⟩)), eqS (.int .i64 (77)), eqS (.bool true), eqS (.bool true), eqS (vF (true && (true == true)) (.pointer (some ⟨g2, 2, none⟩))), eqS (vF (true && (true == true)) (.slice (some ⟨gu, 0, none⟩) m cu)), eqS (vF (true && (true == true)) (.pointer (some ⟨g3, 2, none⟩))), eqS (vF (true && (true == true)) (.slice B m d)), eqS (vF (true && (true == true)) (.int .i64 (((m : Nat) : Int)))), eqS (vF (true && (true == true)) (.int .i64 (((m + 1 : Nat) : Int)))), eqS (vF (true && (true == true)) (.slice (some ⟨gu, 0, none⟩) (m + 1) cu)), eqS (vF (true && (true == true)) (.pointer (some ⟨g3, 2, none⟩))), eqS (vF (true && (true == true)) (.slice B m d)), eqS (vF (true && (true == true)) (.int .i64 (((m : Nat) : Int)))), eqS (vF (true && (true == true)) (.pointer (some ⟨gu, 0 + m * 1, none⟩))), eqS (vF (true && (true == true)) (.int .u32 (77))), eqS (vF (true && (true == true)) (.bool true)), eqS (.bool (true && true)), eqS (.bool (true && true))] [41, 42, 43, 44, 45, 46, 47, 48, 49, 50, 51, 52, 53, 54, 55, 56, 57, 58, 59, 60, 61, 62, 63, 64, 65, 66, 67, 68, 69, 4] follows_mixed (by kernel_rfl) (by kernel_rfl) ?_ ?_
          · skip
            refine Steps.cons (fun a' w' hG hB dep => gs_field (want_none rfl) _ _ _ rfl g2 (0) (1) (hG.other 2 rfl) (fun wz => field_nfa_1 g2 (0) wz) rfl) ?_
            refine Steps.cons (fun a' w' hG hB dep => gs_load1 (want_none rfl) _ _ rfl g2 (1) (dep 0 rfl 41 rfl) (.slice (some ⟨ge, 0, none⟩) n ce) ((blk_then h2 hB).cellv (i := 1) rfl) _ Tryd.underlying22 rfl rfl) ?_
            refine Steps.cons (fun a' w' hG hB dep => gs_field (want_none rfl) _ _ _ rfl g3 (0) (1) (hG.other 3 rfl) (fun wz => field_nfa_1 g3 (0) wz) rfl) ?_
            refine Steps.cons (fun a' w' hG hB dep => gs_load1 (want_none rfl) _ _ rfl g3 (1) (dep 2 rfl 43 rfl) (.slice A n c) ((blk_then h3 hB).cellv (i := 1) rfl) _ Tryd.underlying22 rfl rfl) ?_
            refine Steps.cons (fun a' w' hG hB dep => gs_len (want_none rfl) _ _ rfl under_edges _ n c (dep 3 rfl 44 rfl) rfl) ?_
            refine Steps.cons (fun a' w' hG hB dep => gs_add_nat (want_none rfl) _ _ _ _ rfl n 1 (n + 1) (dep 4 rfl 45 rfl) rfl (by omega) (by omega) rfl) ?_
            refine Steps.cons (fun a' w' hG hB dep => gs_slice_to (want_none rfl) _ _ _ rfl under_edges 7 size_edgeE ⟨ge, 0, none⟩ n ce (n + 1) (dep 1 rfl 42 rfl) (dep 5 rfl 46 rfl) hce rfl) ?_
            refine Steps.cons (fun a' w' hG hB dep => gs_field (want_none rfl) _ _ _ rfl g3 (0) (1) (hG.other 3 rfl) (fun wz => field_nfa_1 g3 (0) wz) rfl) ?_
            refine Steps.cons (fun a' w' hG hB dep => gs_load1 (want_none rfl) _ _ rfl g3 (1) (dep 7 rfl 48 rfl) (.slice A n c) ((blk_then h3 hB).cellv (i := 1) rfl) _ Tryd.underlying22 rfl rfl) ?_
            refine Steps.cons (fun a' w' hG hB dep => gs_len (want_none rfl) _ _ rfl under_edges _ n c (dep 8 rfl 49 rfl) rfl) ?_
            refine Steps.cons (fun a' w' hG hB dep => gs_index (want_none rfl) _ _ _ rfl under_edges 7 size_edgeE ge 0 (n + 1) ce (n) (dep 6 rfl 47 rfl) (dep 9 rfl 50 rfl) (Nat.lt_succ_self _) rfl) ?_
            refine Steps.cons (fun a' w' hG hB dep => gs_field (want_none rfl) _ _ _ rfl ge (0 + n * 7) (0 + n * 7) (dep 10 rfl 51 rfl) (fun wz => field_edge_0 ge (0 + n * 7) wz) rfl) ?_
            refine Steps.cons (fun a' w' hG hB dep => gs_load1 (want_none rfl) _ _ rfl ge (0 + n * 7) (dep 11 rfl 52 rfl) (.int .i64 (77)) (hl1 w' (below_then hB2 hB)) _ Tryd.underlying3 rfl rfl) ?_
            refine Steps.cons (fun a' w' hG hB dep => gs_eql_int (want_none rfl) _ _ _ _ rfl _ _ _ (dep 12 rfl 53 rfl) rfl (id (congrArg Value.bool rfl))) ?_
            refine Steps.cons (fun a' w' hG hB dep => gs_move (want_none rfl) _ rfl (id (dep 13 rfl 54 rfl))) ?_
            refine Steps.cons (fun a' w' hG hB dep => gs_guard (c := true) (b' := true) rfl rfl (dep 14 rfl 55 rfl) (fun hc he hw => gs_field hw _ _ _ rfl g2 (0) (2) (hG.other 2 rfl) (fun wz => field_nfa_2 g2 (0) wz) (vF_yes (on_g hc he) _).symm) (fun hn => vF_no hn _)) ?_
            refine Steps.cons (fun a' w' hG hB dep => gs_guard (c := true) (b' := true) rfl rfl (dep 14 rfl 55 rfl) (fun hc he hw => gs_load1 hw _ _ rfl g2 (2) (Eq.trans (dep 15 rfl 56 rfl) (vF_yes (on_g hc he) _)) (.slice (some ⟨gu, 0, none⟩) m cu) ((blk_then h2 hB).cellv (i := 2) rfl) _ Tryd.underlying23 rfl (vF_yes (on_g hc he) _).symm) (fun hn => vF_no hn _)) ?_
            refine Steps.cons (fun a' w' hG hB dep => gs_guard (c := true) (b' := true) rfl rfl (dep 14 rfl 55 rfl) (fun hc he hw => gs_field hw _ _ _ rfl g3 (0) (2) (hG.other 3 rfl) (fun wz => field_nfa_2 g3 (0) wz) (vF_yes (on_g hc he) _).symm) (fun hn => vF_no hn _)) ?_
            refine Steps.cons (fun a' w' hG hB dep => gs_guard (c := true) (b' := true) rfl rfl (dep 14 rfl 55 rfl) (fun hc he hw => gs_load1 hw _ _ rfl g3 (2) (Eq.trans (dep 17 rfl 58 rfl) (vF_yes (on_g hc he) _)) (.slice B m d) ((blk_then h3 hB).cellv (i := 2) rfl) _ Tryd.underlying23 rfl (vF_yes (on_g hc he) _).symm) (fun hn => vF_no hn _)) ?_
            refine Steps.cons (fun a' w' hG hB dep => gs_guard (c := true) (b' := true) rfl rfl (dep 14 rfl 55 rfl) (fun hc he hw => gs_len hw _ _ rfl under_rules _ m d (Eq.trans (dep 18 rfl 59 rfl) (vF_yes (on_g hc he) _)) (vF_yes (on_g hc he) _).symm) (fun hn => vF_no hn _)) ?_
            refine Steps.cons (fun a' w' hG hB dep => gs_guard (c := true) (b' := true) rfl rfl (dep 14 rfl 55 rfl) (fun hc he hw => gs_add_nat hw _ _ _ _ rfl m 1 (m + 1) (Eq.trans (dep 19 rfl 60 rfl) (vF_yes (on_g hc he) _)) rfl (by omega) (by omega) (vF_yes (on_g hc he) _).symm) (fun hn => vF_no hn _)) ?_
            refine Steps.cons (fun a' w' hG hB dep => gs_guard (c := true) (b' := true) rfl rfl (dep 14 rfl 55 rfl) (fun hc he hw => gs_slice_to hw _ _ _ rfl under_rules 1 size_ruleE ⟨gu, 0, none⟩ m cu (m + 1) (Eq.trans (dep 16 rfl 57 rfl) (vF_yes (on_g hc he) _)) (Eq.trans (dep 20 rfl 61 rfl) (vF_yes (on_g hc he) _)) hcu (vF_yes (on_g hc he) _).symm) (fun hn => vF_no hn _)) ?_
            refine Steps.cons (fun a' w' hG hB dep => gs_guard (c := true) (b' := true) rfl rfl (dep 14 rfl 55 rfl) (fun hc he hw => gs_field hw _ _ _ rfl g3 (0) (2) (hG.other 3 rfl) (fun wz => field_nfa_2 g3 (0) wz) (vF_yes (on_g hc he) _).symm) (fun hn => vF_no hn _)) ?_
            refine Steps.cons (fun a' w' hG hB dep => gs_guard (c := true) (b' := true) rfl rfl (dep 14 rfl 55 rfl) (fun hc he hw => gs_load1 hw _ _ rfl g3 (2) (Eq.trans (dep 22 rfl 63 rfl) (vF_yes (on_g hc he) _)) (.slice B m d) ((blk_then h3 hB).cellv (i := 2) rfl) _ Tryd.underlying23 rfl (vF_yes (on_g hc he) _).symm) (fun hn => vF_no hn _)) ?_
            refine Steps.cons (fun a' w' hG hB dep => gs_guard (c := true) (b' := true) rfl rfl (dep 14 rfl 55 rfl) (fun hc he hw => gs_len hw _ _ rfl under_rules _ m d (Eq.trans (dep 23 rfl 64 rfl) (vF_yes (on_g hc he) _)) (vF_yes (on_g hc he) _).symm) (fun hn => vF_no hn _)) ?_
            refine Steps.cons (fun a' w' hG hB dep => gs_guard (c := true) (b' := true) rfl rfl (dep 14 rfl 55 rfl) (fun hc he hw => gs_index hw _ _ _ rfl under_rules 1 size_ruleE gu 0 (m + 1) cu (m) (Eq.trans (dep 21 rfl 62 rfl) (vF_yes (on_g hc he) _)) (Eq.trans (dep 24 rfl 65 rfl) (vF_yes (on_g hc he) _)) (Nat.lt_succ_self _) (vF_yes (on_g hc he) _).symm) (fun hn => vF_no hn _)) ?_
            refine Steps.cons (fun a' w' hG hB dep => gs_guard (c := true) (b' := true) rfl rfl (dep 14 rfl 55 rfl) (fun hc he hw => gs_load1 hw _ _ rfl gu (0 + m * 1) (Eq.trans (dep 25 rfl 66 rfl) (vF_yes (on_g hc he) _)) (.int .u32 (77)) (hl2 w' (below_then hB2 hB)) _ Tryd.underlying43 rfl (vF_yes (on_g hc he) _).symm) (fun hn => vF_no hn _)) ?_
            refine Steps.cons (fun a' w' hG hB dep => gs_guard (c := true) (b' := true) rfl rfl (dep 14 rfl 55 rfl) (fun hc he hw => gs_eql_int hw _ _ _ _ rfl _ _ _ (Eq.trans (dep 26 rfl 67 rfl) (vF_yes (on_g hc he) _)) rfl (Eq.trans (congrArg Value.bool rfl) (vF_yes (on_g hc he) _).symm)) (fun hn => vF_no hn _)) ?_
            refine Steps.cons (fun a' w' hG hB dep => gs_pick (want_none rfl) _ _ _ rfl true (dep 14 rfl 55 rfl) (id (pick_and2 (c := true) rfl (dep 27 rfl 68 rfl)))) ?_
            refine Steps.cons (fun a' w' hG hB dep => gs_assign (want_none rfl) _ rfl (id (dep 28 rfl 69 rfl))) ?_
            exact Steps.nil
          intro u wz hwz ans
          have hus4 : u 4 = (.bool (true && true)) := ans 29 4 (by decide) rfl
          clear ans
          simp only [putAll, List.foldl_cons, List.foldl_nil, Act.put, List.setIfInBounds_toArray, List.set_cons_zero, List.set_cons_succ, hus4]
          clear hus4
          simp only [List.drop]
          refine wpList_nil ?_
          replace hB2 := below_then hB2 hwz
          rw [show (true && true) = true from rfl]
          clear hl1 hl2
          go_wp2_with (fail)
          go_ret
          exact ⟨rfl, below_then hB1 hB2⟩
theorem enter_kept10 (args : Array Value) (w : World) : (callFunc 13 args).run Tryd.prog w = .ok (.enter 13 args) w := by kernel_rfl
end Go.Proofs.YtkedgombccdamaaDoor
namespace Go.Proofs.YtkedgombccdamaaDoor
set_option linter.unusedVariables false
set_option linter.unusedSimpArgs false

def st97 : BSet := BitVec.twoPow 256 97
def e97 : Edg := ⟨2, 0, 1, st97⟩
theorem st97_bit (b : Nat) : st97.getLsbD b = decide (b = 97) := by
  unfold st97
  rw [BitVec.getLsbD_twoPow]
  by_cases h : b = 97
  · subst h; rfl
  · have : ¬ 97 = b := fun e => h e.symm
    simp [h, this]
theorem sets97 : setsL [e97] = [st97] := by
  show stepS [] e97 = _
  unfold stepS
  rw [if_pos ⟨rfl, by simp⟩]
  rfl
theorem e97_in : ∀ d ∈ [e97], 0 ≤ d.tt ∧ d.tt < ((2 : Nat) : Int) := fun d hd => by
  rw [List.mem_singleton] at hd; subst hd; decide
theorem e97_free (b e : Bool) : ∀ d ∈ [e97], may b e d = false := fun d hd => by
  rw [List.mem_singleton] at hd; subst hd; cases b <;> cases e <;> rfl
theorem below2 {x : Nat} (h : x < 4) : below x 2 := fun i hi => by
  rcases Nat.lt_or_ge i 2 with h2 | h2
  · exact h2
  · exfalso
    have h3 : 2 ^ 2 ≤ 2 ^ i := Nat.pow_le_pow_right (by omega) h2
    have h4 : x < 2 ^ i := by omega
    rw [Nat.testBit_lt_two_pow h4] at hi
    cases hi
theorem byte97 (x c : Nat) : byteN [e97] 2 x c = if x.testBit 0 = true ∧ c = 97 then 3 else 1 := by
  refine bits_upto (byte_below _ _ _ _) (below2 (by split <;> decide)) fun i hi => ?_
  have hb := byte_bit [e97] 2 x c i
  have e : ((∃ d ∈ [e97], d.kd = 2 ∧ x.testBit d.fr.toNat = true ∧ d.st.getLsbD c = true ∧ d.tt.toNat = i)) ↔ (x.testBit 0 = true ∧ c = 97 ∧ i = 1) := by
    constructor
    · rintro ⟨d, hd, h1, h2, h3, h4⟩
      rw [List.mem_singleton] at hd
      subst hd
      rw [show e97.st = st97 from rfl, st97_bit] at h3
      exact ⟨h2, of_decide_eq_true h3, h4.symm⟩
    · rintro ⟨h1, h2, h3⟩
      exact ⟨e97, List.mem_singleton.2 rfl, rfl, h1, by rw [show e97.st = st97 from rfl, st97_bit]; exact decide_eq_true h2, h3.symm⟩
  rw [e] at hb
  by_cases hc : x.testBit 0 = true ∧ c = 97
  · rw [if_pos hc]
    have : i = 0 ∨ i = 1 := by omega
    rcases this with rfl | rfl
    · exact hb.2 ⟨hi, .inl rfl⟩
    · exact hb.2 ⟨hi, .inr ⟨hc.1, hc.2, rfl⟩⟩
  · rw [if_neg hc]
    have : i = 0 ∨ i = 1 := by omega
    rcases this with rfl | rfl
    · exact hb.2 ⟨hi, .inl rfl⟩
    · rw [show Nat.testBit 1 1 = false from rfl]
      cases h : (byteN [e97] 2 x c).testBit 1 with
      | false => rfl
      | true =>
        exfalso
        rcases (hb.1 h).2 with h1 | h1
        · omega
        · exact hc ⟨h1.1, h1.2.1⟩
theorem spread97 {b e : Bool} {x : Nat} (h : x < 4) : spreadN [e97] 2 b e x = x := spread_none e97_in (e97_free b e) (below2 h)
theorem mo97 {x : Nat} (met : Nat) (b : Bool) (h : x < 4) (h1 : x ||| 1 = x) : moN [e97] 2 [0, 1] x met b = ⟨x, met ||| metN [0, 1] x 2, (met ||| metN [0, 1] x 2) ||| metN [0, 1] x 2⟩ := by
  unfold moN
  rw [h1, spread97 h, spread97 h]
/-- a step of it, by reckoning -/
def stp97 (q : Mo) (b : Nat) : Mo := if q.at_.testBit 0 = true ∧ b = 97 then ⟨3, q.met ||| 1, q.met ||| 1 ||| 1⟩ else ⟨1, q.met ||| 0, q.met ||| 0 ||| 0⟩
theorem step97 : stepM [e97] 2 [0, 1] = stp97 := by
  funext q b
  unfold stepM stp97
  rw [byte97]
  by_cases h : q.at_.testBit 0 = true ∧ b = 97
  · rw [if_pos h, if_pos h, mo97 _ _ (by decide) (by decide)]
    rfl
  · rw [if_neg h, if_neg h, mo97 _ _ (by decide) (by decide)]
    rfl
theorem first97 : mo0 [e97] 2 [0, 1] = ⟨1, 0, 0⟩ := by
  unfold mo0
  have e : moN [e97] 2 [0, 1] 0 0 true = moN [e97] 2 [0, 1] 1 0 true := by
    unfold moN
    rw [show (0 ||| 1 : Nat) = 1 from rfl, show (1 ||| 1 : Nat) = 1 from rfl]
  rw [e, mo97 _ _ (by decide) (by decide)]
  rfl
theorem sig97 : sig [st97] = fun b => [decide (b = 97)] := by
  funext b
  unfold sig
  rw [List.map_cons, List.map_nil, st97_bit]
theorem firsts97 : ∀ n, firsts (fun b => [decide (b = 97)]) n = if n = 0 then [] else if n ≤ 97 then [[false]] else [[false], [true]]
  | 0 => rfl
  | n + 1 => by
    rw [firsts_succ, firsts97 n]
    by_cases h0 : n = 0
    · subst h0; rfl
    · rw [if_neg h0, if_neg (Nat.succ_ne_zero n)]
      by_cases h1 : n ≤ 97
      · rw [if_pos h1]
        by_cases h2 : n = 97
        · subst h2; rfl
        · rw [if_pos (show n + 1 ≤ 97 by omega)]
          simp [h2]
      · rw [if_neg h1, if_neg (show ¬ n + 1 ≤ 97 by omega)]
        have : ¬ n = 97 := by omega
        simp [this]
theorem many97 : many (setsL [e97]) = 2 := by
  rw [sets97]
  unfold many
  rw [sig97, firsts97]
  rfl
theorem cls97 : cls (setsL [e97]) = fun b => if b = 97 then 1 else 0 := by
  rw [sets97]
  funext b
  unfold cls num
  rw [sig97, firsts97, if_neg (Nat.succ_ne_zero b)]
  by_cases h : b = 97
  · subst h; rfl
  · by_cases h1 : b + 1 ≤ 97
    · rw [if_pos h1]
      simp [h]
    · rw [if_neg h1]
      simp [h]
set_option maxRecDepth 20000 in
theorem reps97 : repE [e97] = [0, 97] := by
  unfold repE
  rw [many97, cls97]
  decide
theorem done97 : Done (stepM [e97] 2 [0, 1]) (repE [e97]) (mo0 [e97] 2 [0, 1]) 3 := by
  rw [step97, reps97, first97]
  show (bfsN stp97 [0, 97] ⟨1, 0, 0⟩ 3).length = 3
  decide
/-- its table -/
def tab97 : Tb := ⟨fun b => if b = 97 then 1 else 0, [[0, 1], [2, 1], [2, 1]], [0, 1, 1], [0, 1, 1]⟩
theorem tabQ97 : tabQ [e97] 2 [0, 1] (clsE [e97]) (repE [e97]) 3 = tab97 := by
  unfold tabQ clsE
  rw [step97, reps97, first97, cls97]
  rfl
theorem right97 : rightB 2 [e97] 2 = true := by decide
theorem fits97 : s_Fits tab97 :=
  ⟨by decide, by decide, by decide, by decide, by decide, by decide, fun b hb => by
    show 0 ≤ (if b = 97 then (1 : Int) else 0) ∧ (if b = 97 then (1 : Int) else 0) < _
    split <;> decide, by decide, by decide, fun s c hs hc => (show ∀ s, s < 3 → ∀ c, c < 2 → 0 ≤ tab97.nxt s ((c : Nat) : Int) ∧ tab97.nxt s ((c : Nat) : Int) < ((3 : Nat) : Int) ∧ tab97.fo.getD s 0 &&& tab97.fo.getD (tab97.nxt s ((c : Nat) : Int)).toNat 0 = tab97.fo.getD s 0 by decide) s hs c hc⟩
theorem fitsB97 : fitsB tab97 = true := by
  unfold fitsB
  exact @decide_eq_true _ (Classical.propDecidable _) fits97
theorem fitsB0 (f : Nat → Int) : fitsB ⟨f, [], [], []⟩ = false := by
  unfold fitsB
  refine @decide_eq_false _ (Classical.propDecidable _) (fun h => ?_)
  have := h.n1
  simp at this
theorem run97 : tab97.au.run 0 [120, 97, 120] = 2 ∧ tab97.au.run 0 [120] = 0 := by decide
end Go.Proofs.YtkedgombccdamaaDoor
namespace Go.Proofs.YtkedgombccdamaaDoor
open Go.RowKit Go.Shelf Go.Maps
set_option linter.unusedVariables false
set_option linter.unusedSimpArgs false
attribute [local go_sem] Oper.semAt_some

theorem run_set97 (w : World) : (Instr.build 52 #[(0, .int .u64 0), (1, .int .u64 8589934592)]).run Tryd.prog w = .ok (.agg (setC st97)) w := by kernel_rfl
theorem run_edge97 (w : World) : (Instr.build 76 #[(0, .int .i64 2), (1, .int .i64 0), (2, .int .i64 1), (3, .agg (setC st97))]).run Tryd.prog w = .ok (.agg (edgC e97)) w := by kernel_rfl
theorem run_two32 (w : World) : (Instr.buildSlice 23 2 #[(0, .int .u32 0), (1, .int .u32 1)]).run Tryd.prog w = .ok (.slice (some ⟨w.heap.size, 0, none⟩) 2 2) (w.alloc (.cells #[.int .u32 0, .int .u32 1] 43)) := by kernel_rfl
theorem run_nfa3 (s : Int) (A B : Option Addr) (n c m d : Nat) (w : World) : (Instr.build 25 #[(0, .int .i64 s), (1, .slice A n c), (2, .slice B m d)]).run Tryd.prog w = .ok (.agg (nfaC s A n c B m d)) w := by kernel_rfl
section
variable {w : World} {ops : Array Oper} {rest : List Oper} {o : Oper} {a : Act} {Q : Exit → Act → World → Prop}
theorem wl_set97 (hgd : o.guard = none) (ho : o.op = .build 52 #[(0, .const (.int .u64 0)), (1, .const (.int .u64 8589934592))])
    (h : wpList Tryd.prog ops Q rest (a.put o.dst (.agg (setC st97))) w) : wpList Tryd.prog ops Q (o :: rest) a w :=
  wl_run hgd (v := .agg (setC st97)) (by unfold execOp; simp only [ho, List.map_toArray, List.map_cons, List.map_nil, Act.eval, Sem.run_bind, run_set97, Result.andThen_ok, Sem.run_pure]) h
theorem wl_edge97 (hgd : o.guard = none) (x : Operand) (ho : o.op = .build 76 #[(0, .const (.int .i64 2)), (1, .const (.int .i64 0)), (2, .const (.int .i64 1)), (3, x)]) (hx : a.eval x = .agg (setC st97))
    (h : wpList Tryd.prog ops Q rest (a.put o.dst (.agg (edgC e97))) w) : wpList Tryd.prog ops Q (o :: rest) a w :=
  wl_run hgd (v := .agg (edgC e97)) (by
    have hc : ∀ v : Value, a.eval (.const v) = v := fun _ => rfl
    unfold execOp; simp only [ho, List.map_toArray, List.map_cons, List.map_nil, hc, hx, Sem.run_bind, run_edge97, Result.andThen_ok, Sem.run_pure]) h
theorem wl_two32 (hgd : o.guard = none) (ho : o.op = .buildSlice 23 2 #[(0, .const (.int .u32 0)), (1, .const (.int .u32 1))])
    (h : wpList Tryd.prog ops Q rest (a.put o.dst (.slice (some ⟨w.heap.size, 0, none⟩) 2 2)) (w.alloc (.cells #[.int .u32 0, .int .u32 1] 43))) : wpList Tryd.prog ops Q (o :: rest) a w :=
  wl_run hgd (v := .slice (some ⟨w.heap.size, 0, none⟩) 2 2) (by unfold execOp; simp only [ho, List.map_toArray, List.map_cons, List.map_nil, Act.eval, Sem.run_bind, run_two32, Result.andThen_ok, Sem.run_pure]) h
theorem wl_nfa3 (hgd : o.guard = none) (s : Int) (y z : Operand) (ho : o.op = .build 25 #[(0, .const (.int .i64 s)), (1, y), (2, z)]) (A B : Option Addr) (n c m d : Nat) (hy : a.eval y = .slice A n c) (hz : a.eval z = .slice B m d)
    (h : wpList Tryd.prog ops Q rest (a.put o.dst (.agg (nfaC s A n c B m d))) w) : wpList Tryd.prog ops Q (o :: rest) a w :=
  wl_run hgd (v := .agg (nfaC s A n c B m d)) (by
    have hc : ∀ v : Value, a.eval (.const v) = v := fun _ => rfl
    unfold execOp; simp only [ho, List.map_toArray, List.map_cons, List.map_nil, hc, hy, hz, Sem.run_bind, run_nfa3, Result.andThen_ok, Sem.run_pure]) h
end
theorem gs_build_dfa0 {ops : Array Oper} {S : Nat → GSpec} {Q : Exit → Act → World → Prop} {i : Nat} {o : Oper} {a : Act} {w : World} (hw : Region.wanted o (yielded ops a.tmps) = true) (ho : o.op = .build 33 #[]) (hp : (S i).p (.agg (dfaC (fun _ => 0) none 0 0 none 0 0 none 0 0)) w) : GStep Tryd.prog ops S Q i o a w :=
  gs_run hw (v := .agg (dfaC (fun _ => 0) none 0 0 none 0 0 none 0 0)) (by unfold execOp; simp only [ho, List.map_toArray, List.map_nil, Sem.run_bind, build_dfa0, Result.andThen_ok, Sem.run_pure]) (Below.refl _ _) hp
set_option maxRecDepth 100000 in
set_option maxHeartbeats 4000000 in
theorem one10_any (w : World) : Calls Tryd.prog 31 #[] w fun e w' => ∃ ge gu : Nat, e = .returned (.agg (nfaC 2 (some ⟨ge, 0, none⟩) 1 1 (some ⟨gu, 0, none⟩) 2 2)) ∧ SliceOf w' w'.heap.size 7 edgC (some ⟨ge, 0, none⟩) [e97] ∧ SliceOf w' w'.heap.size 1 encR (some ⟨gu, 0, none⟩) [0, 1] ∧ Below w.heap.size w w' := by
  go_enter Tryd.func31, Tryd.ntmps31
  go_upto_region 1 with (fail)
  have h0 : Blk (w.alloc (.cells #[.int .i64 0, .slice none 0 0, .slice none 0 0] 25)) w.heap.size 25 (nfaC 0 none 0 0 none 0 0) := Blk.new w _ _
  have hB1 := below_alloc (Below.refl w.heap.size w) (.cells #[.int .i64 0, .slice none 0 0, .slice none 0 0] 25)
  obtain ⟨w1, hw1⟩ : ∃ y, y = w.alloc (.cells #[.int .i64 0, .slice none 0 0, .slice none 0 0] 25) := ⟨_, rfl⟩
  rw [← hw1] at h0 hB1 ⊢
  clear hw1
  have hlw := h0.lt
  have hBe := below_alloc (Below.refl w1.heap.size w1) (.cells (edgC e97) 76)
  have he := Blk.new w1 76 (edgC e97)
  have hBr := below_alloc (Below.refl (w1.alloc (.cells (edgC e97) 76)).heap.size (w1.alloc (.cells (edgC e97) 76))) (.cells #[.int .u32 0, .int .u32 1] 43)
  have hu := Blk.new (w1.alloc (.cells (edgC e97) 76)) 43 #[.int .u32 0, .int .u32 1]
  have h2 := blk_then (blk_then h0 hBe) hBr
  have he2 := blk_then he hBr
  have hB2 := below_then (below_then hB1 hBe) hBr
  have HU := Lib.hid hu
  have HE := Lib.hid he2
  have HB := Lib.hid hB2
  clear hu he he2 hB2 hBe hBr h0 hB1
  go_wp2_with (first
    | (refine wl_set97 rfl rfl ?_)
    | (refine wl_edge97 rfl _ rfl rfl ?_)
    | (refine wl_one (d := e97) rfl _ rfl rfl ?_)
    | (refine wl_two32 rfl rfl ?_)
    | (refine wl_nfa3 rfl 2 _ _ rfl _ _ _ _ _ _ rfl rfl ?_)
    | (refine wl_store_nfa rfl _ _ rfl w.heap.size _ _ _ _ _ _ _ rfl rfl _ _ _ _ _ _ _ h2 ?_; intro w5 h5 hg5))
  refine ret_nfa1 rfl rfl h5 rfl ?_
  refine ⟨_, _, rfl, ?_, ?_, below_grown HB.out hg5 (Nat.le_refl _)⟩
  · exact slice_one (enc := edgC) (blk_grown HE.out hg5 (by have := HB.out.size; omega))
  · have := (own_made (enc := encR) (size := 1) (ys := [0, 1]) encR_size (blk_grown HU.out hg5 (by rw [World.size_alloc]; have := HB.out.size; omega)) rfl rfl (Nat.le_refl _) (by unfold maxLen; decide)).slice_all encR_size
    exact this
theorem num10_any (v : Int) (w : World) : Calls Tryd.prog 27 #[.int .i64 v] w fun e w' => e = .returned (.int .i64 v) ∧ Below w.heap.size w w' := by
  go_enter Tryd.func27, Tryd.ntmps27
  go_wp2_with (fail)
  go_ret
  exact ⟨rfl, Below.refl _ _⟩
theorem enter_num10 (args : Array Value) (w : World) : (callFunc 27 args).run Tryd.prog w = .ok (.enter 27 args) w := by kernel_rfl
set_option maxRecDepth 100000 in
set_option maxHeartbeats 4000000 in
theorem small10_any (s : Int) (A : Option Addr) (n c : Nat) (B : Option Addr) (m d : Nat) (w : World) : Calls Tryd.prog 8 #[.agg (nfaC s A n c B m d)] w fun e w' => e = .returned (.bool (decide (s ≤ 40) && decide ((n : Int) ≤ 120))) ∧ Below w.heap.size w w' := by
  obtain ⟨p1, hp1⟩ : ∃ p, decide (s ≤ 40) = p := ⟨_, rfl⟩
  obtain ⟨p2, hp2⟩ : ∃ p, decide (((n : Nat) : Int) ≤ 120) = p := ⟨_, rfl⟩
  rw [hp1, hp2]
  go_enter Tryd.func8, Tryd.ntmps8
  go_upto_region 1 with (fail)
  have h1 : Blk (w.alloc (.cells (nfaC s A n c B m d) 25)) w.heap.size 25 (nfaC s A n c B m d) := Blk.new w _ _
  have hB1 := below_alloc (Below.refl w.heap.size w) (.cells (nfaC s A n c B m d) 25)
  obtain ⟨w1, hw1⟩ : ∃ y, y = w.alloc (.cells (nfaC s A n c B m d) 25) := ⟨_, rfl⟩
  rw [← hw1] at h1 hB1 ⊢
  obtain ⟨g1, hg1⟩ : ∃ y, y = w.heap.size := ⟨_, rfl⟩
  rw [← hg1] at h1 ⊢
  clear hw1 hg1
  refine wp_region_text 10 [eqS (.pointer (some ⟨g1, 0, none⟩)), eqS (.int .i64 (s)), eqS (.bool p1), eqS (.bool p1), eqS (vF (true && (p1 == true)) (.pointer (some ⟨g1, 1, none⟩))), eqS (vF (true && (p1 == true)) (.slice A n c)), eqS (vF (true && (p1 == true)) (.int .i64 (((n : Nat) : Int)))), eqS (vF (true && (p1 == true)) (.bool p2)), eqS (.bool (p1 && p2)), eqS (.bool (p1 && p2))] [3, 4, 5, 6, 7, 8, 9, 10, 11, 2] (by kernel_rfl) (by kernel_rfl) ?_ ?_
  · skip
    refine Steps.cons (fun a' w' hG hB dep => gs_field (want_none rfl) _ _ _ rfl g1 (0) (0) (hG.other 1 rfl) (fun wz => field_nfa_0 g1 (0) wz) rfl) ?_
    refine Steps.cons (fun a' w' hG hB dep => gs_load1 (want_none rfl) _ _ rfl g1 (0) (dep 0 rfl 3 rfl) (.int .i64 (s)) ((blk_then h1 hB).cellv (i := 0) rfl) _ Tryd.underlying3 rfl rfl) ?_
    refine Steps.cons (fun a' w' hG hB dep => gs_leq_int (want_none rfl) _ _ _ _ rfl _ _ _ (dep 1 rfl 4 rfl) rfl (id (congrArg Value.bool hp1))) ?_
    refine Steps.cons (fun a' w' hG hB dep => gs_move (want_none rfl) _ rfl (id (dep 2 rfl 5 rfl))) ?_
    refine Steps.cons (fun a' w' hG hB dep => gs_guard (c := true) (b' := p1) rfl rfl (dep 3 rfl 6 rfl) (fun hc he hw => gs_field hw _ _ _ rfl g1 (0) (1) (hG.other 1 rfl) (fun wz => field_nfa_1 g1 (0) wz) (vF_yes (on_g hc he) _).symm) (fun hn => vF_no hn _)) ?_
    refine Steps.cons (fun a' w' hG hB dep => gs_guard (c := true) (b' := p1) rfl rfl (dep 3 rfl 6 rfl) (fun hc he hw => gs_load1 hw _ _ rfl g1 (1) (Eq.trans (dep 4 rfl 7 rfl) (vF_yes (on_g hc he) _)) (.slice A n c) ((blk_then h1 hB).cellv (i := 1) rfl) _ Tryd.underlying22 rfl (vF_yes (on_g hc he) _).symm) (fun hn => vF_no hn _)) ?_
    refine Steps.cons (fun a' w' hG hB dep => gs_guard (c := true) (b' := p1) rfl rfl (dep 3 rfl 6 rfl) (fun hc he hw => gs_len hw _ _ rfl under_edges _ n c (Eq.trans (dep 5 rfl 8 rfl) (vF_yes (on_g hc he) _)) (vF_yes (on_g hc he) _).symm) (fun hn => vF_no hn _)) ?_
    refine Steps.cons (fun a' w' hG hB dep => gs_guard (c := true) (b' := p1) rfl rfl (dep 3 rfl 6 rfl) (fun hc he hw => gs_leq_int hw _ _ _ _ rfl _ _ _ (Eq.trans (dep 6 rfl 9 rfl) (vF_yes (on_g hc he) _)) rfl (Eq.trans (congrArg Value.bool hp2) (vF_yes (on_g hc he) _).symm)) (fun hn => vF_no hn _)) ?_
    refine Steps.cons (fun a' w' hG hB dep => gs_pick (want_none rfl) _ _ _ rfl p1 (dep 3 rfl 6 rfl) (id (pick_and2 (c := true) rfl (dep 7 rfl 10 rfl)))) ?_
    refine Steps.cons (fun a' w' hG hB dep => gs_assign (want_none rfl) _ rfl (id (dep 8 rfl 11 rfl))) ?_
    exact Steps.nil
  intro u wz hwz ans
  have hus2 : u 2 = (.bool (p1 && p2)) := ans 9 2 (by decide) rfl
  clear ans
  simp only [putAll, List.foldl_cons, List.foldl_nil, Act.put, List.setIfInBounds_toArray, List.set_cons_zero, List.set_cons_succ, hus2]
  clear hus2
  simp only [List.drop]
  refine wpList_nil ?_
  have hB5 := below_then hB1 hwz
  clear hp1 hp2
  go_wp2_with (fail)
  go_ret
  exact ⟨rfl, hB5⟩
theorem enter_sright (args : Array Value) (w : World) : (callFunc 15 args).run Tryd.prog w = .ok (.enter 15 args) w := by kernel_rfl
theorem dfa97_yes {base : Nat} {e : Ending} {w' : World} (h : DRes 2 [e97] 2 [0, 1] 9 base e w') : ∃ x : TV, e = .returned (.tuple #[.agg x.C', .int .i64 0]) ∧ x.T = tab97 ∧ TOwn w' base x [] [] [] := by
  rcases h with ⟨h, _⟩ | ⟨_, i, x, hd, _, he, hT, hO⟩ | ⟨_, h, _⟩
  · rw [right97] at h; cases h
  · have e3 : i = 3 := Done.one hd done97
    subst e3
    exact ⟨x, he, hT.trans tabQ97, hO⟩
  · have := h 3 done97
    omega
theorem dfa97_no {base : Nat} {e : Ending} {w' : World} (h : DRes 2 [e97] 2 [0, 1] 2 base e w') : e = .returned (.tuple #[zeroD, .int .i64 100]) := by
  rcases h with ⟨h, _⟩ | ⟨_, i, x, hd, hi, _⟩ | ⟨_, _, h⟩
  · rw [right97] at h; cases h
  · have e3 : i = 3 := Done.one hd done97
    omega
  · exact h
theorem tabIn97 {x : TV} {w : World} {base : Nat} (hT : x.T = tab97) (hO : TOwn w base x [] [] []) : TabIn w w.heap.size x := by
  have hr : x.rs.map (·.l) = [[0, 1], [2, 1], [2, 1]] := congrArg Tb.nx hT
  have hf : x.fo = [0, 1, 1] := congrArg Tb.fo hT
  have he : x.en = [0, 1, 1] := congrArg Tb.en hT
  have hl : x.rs.length = 3 := by have := congrArg List.length hr; simpa using this
  refine hO.tab (by omega) (fun r h => ?_) (by rw [hf]; decide) (by rw [he]; decide) (by rw [hf]; decide) (by rw [he]; decide)
  have : r.l ∈ x.rs.map (·.l) := List.mem_map_of_mem h
  rw [hr] at this
  simp at this
  rcases this with h | h <;> rw [h] <;> decide
theorem zero_tab (w : World) : TabIn w w.heap.size ⟨fun _ => 0, [], none, 0, [], none, 0, [], none, 0⟩ :=
  (TOwn.nil w w.heap.size (fun _ => 0)).tab (by simp) (by simp) (by simp) (by simp) (by simp) (by simp)
set_option maxRecDepth 100000 in
set_option maxHeartbeats 8000000 in
theorem known10_any (w : World) : Calls Tryd.prog 7 #[] w fun e w' => e = .returned (.bool true) ∧ Below w.heap.size w w' := by
  go_enter Tryd.func7, Tryd.ntmps7
  go_upto_region 1 with (fail)
  go_upto_region 2 with (first
    | (go_at_call 31; refine (one10_any w).mono ?_; rintro e w1 ⟨ge, gu, rfl, hsE, hsR, hB1⟩)
    | (go_at_call 10; refine (dfa_any 2 _ 1 1 _ 2 2 [e97] [0, 1] 9 rfl (by decide) rfl (by decide) (by decide) w1 hsE hsR).mono ?_; rintro e w2 ⟨hD, hB2⟩; obtain ⟨x, rfl, hT, hO⟩ := dfa97_yes hD; clear hD hsE hsR; unfold TV.C'; have hzc := Blk.new w2 33 Tryd.zeroCells33; rw [zero_cells_dfa] at hzc)
    | (rw [zero_cells_dfa]; refine wl_store_dfa rfl _ _ rfl w2.heap.size rfl rfl hzc ?_; intro w3 hx hg3))
  have hB3a := below_alloc (Below.refl w2.heap.size w2) (.cells (dfaC (fun _ => 0) none 0 0 none 0 0 none 0 0) 33)
  have hB3b := below_grown hB3a hg3 (Nat.le_refl _)
  have hB3 := below_then (below_then hB1 hB2) hB3b
  replace hO := hO.then_ hB3b
  obtain ⟨gx, hgx⟩ : ∃ y, y = w2.heap.size := ⟨_, rfl⟩
  rw [← hgx] at hx ⊢
  clear hzc hg3 hB1 hB2 hB3a hB3b hgx
  have hr : x.rs.map (·.l) = [[0, 1], [2, 1], [2, 1]] := congrArg Tb.nx hT
  have hf : x.fo = [0, 1, 1] := congrArg Tb.fo hT
  have he : x.en = [0, 1, 1] := congrArg Tb.en hT
  have hl : x.rs.length = 3 := by have := congrArg List.length hr; simpa using this
  have hfl : x.fo.length = 3 := by rw [hf]; rfl
  have hel : x.en.length = 3 := by rw [he]; rfl
  have hf97 : Hid (x.f 97 = 1) := Lib.hid (by rw [show x.f = tab97.cls from congrArg Tb.cls hT]; rfl)
  have hf98 : Hid (x.f 98 = 0) := Lib.hid (by rw [show x.f = tab97.cls from congrArg Tb.cls hT]; rfl)
  have hTx := tabIn97 hT hO
  have hfit : fitsB x.T = true := by rw [hT]; exact fitsB97
  have hRun : ∀ (q : ByteArray) (r : Nat), q.size ≤ 10 → endOf x q = r → ∀ W : World, Below w3.heap.size w3 W → Calls Tryd.prog 17 #[.agg (dfaC x.f x.A 3 x.c x.B 3 x.d x.C 3 x.e), .string q] W fun e w' => e = .returned (.tuple #[.int .u32 ((r : Nat) : Int), .int .i64 0]) ∧ Below W.heap.size W w' := fun q r hq hr W hW => by
    have h9 := srun_any x q (by omega) W (hTx.then_ hW)
    unfold TV.C' at h9
    rw [hl, hfl, hel, runV_yes hfit, hr] at h9
    exact h9
  have hxa : endOf x ⟨#[120, 97, 120]⟩ = 1 := by
    unfold endOf
    rw [hT, show bytesN ⟨#[120, 97, 120]⟩ = [120, 97, 120] from by decide, run97.1, he]
    rfl
  have hxb : endOf x ⟨#[120]⟩ = 0 := by
    unfold endOf
    rw [hT, show bytesN ⟨#[120]⟩ = [120] from by decide, run97.2, he]
    rfl
  have hR1 : ∀ W : World, Below w3.heap.size w3 W → Calls Tryd.prog 15 #[.agg (dfaC x.f x.A 3 x.c x.B 3 x.d x.C 3 x.e)] W fun e w' => e = .returned (.bool true) ∧ Below W.heap.size W w' := fun W hW => by
    have h9 := s_right_any x W (hTx.then_ hW)
    unfold TV.C' at h9
    rw [hl, hfl, hel, hfit] at h9
    exact h9
  have hR0 : ∀ W : World, Calls Tryd.prog 15 #[.agg (dfaC (fun _ => 0) none 0 0 none 0 0 none 0 0)] W fun e w' => e = .returned (.bool false) ∧ Below W.heap.size W w' := fun W => by
    have h9 := s_right_any ⟨fun _ => 0, [], none, 0, [], none, 0, [], none, 0⟩ W (zero_tab W)
    rw [show fitsB (TV.T ⟨fun _ => 0, [], none, 0, [], none, 0, [], none, 0⟩) = false from fitsB0 _] at h9
    exact h9
  obtain ⟨bN, cN, hvN, hbN1, hbN2, _, _⟩ := hO.rows0.form (by omega)
  injection hvN with hXA hvN2 hvN3
  have h1l : 1 < x.rs.length := by omega
  have hrows := hO.rows0
  rw [hXA] at hrows
  have hrow : w3.cell? ⟨bN, 1 * 1 + 0, none⟩ = some (.slice x.rs[1].a x.rs[1].l.length x.rs[1].c) := hrows.row rowC_size 1 h1l 0 _ rfl
  have hr1 : x.rs[1].l = [2, 1] := by
    have h9 : (x.rs.map (·.l))[1]? = some [2, 1] := by rw [hr]; rfl
    rw [List.getElem?_map, List.getElem?_eq_getElem h1l] at h9
    simpa using h9
  have hro := hO.row 1 h1l
  rw [hr1] at hro
  simp only [List.append_nil] at hro
  obtain ⟨bR, cR, hvR, hbR1, hbR2, _, _⟩ := hro.form (by simp)
  injection hvR with hRA hvR2 hvR3
  rw [hRA] at hro
  have hro0 : w3.cell? ⟨bR, 0 * 1 + 0, none⟩ = some (.int .i64 2) := hro.row encZ_size 0 (by simp) 0 _ rfl
  rw [hr1, hRA] at hrow
  obtain ⟨cR', hcR'⟩ : ∃ c, c = x.rs[1].c := ⟨_, rfl⟩
  rw [← hcR'] at hrow
  have hc1 : ∀ W : World, Below w3.heap.size w3 W → W.cell? ⟨bN, 0 + 1 * 1, none⟩ = some (.slice (some ⟨bR, 0, none⟩) 2 cR') := fun W hW => (World.cell?_of_block (hW.block bN hbN2)).trans hrow
  have hc2 : ∀ W : World, Below w3.heap.size w3 W → W.cell? ⟨bR, 0 + 0 * 1, none⟩ = some (.int .i64 2) := fun W hW => (World.cell?_of_block (hW.block bR hbR2)).trans hro0
  rw [hl, hfl, hel] at hx ⊢
  have HXA := Lib.hid hXA
  have Hc1 := Lib.hid hc1
  have Hc2 := Lib.hid hc2
  have HR1 := Lib.hid hR1
  have HR0 := Lib.hid hR0
  have Hra := Lib.hid (hRun ⟨#[120, 97, 120]⟩ 1 (by decide) hxa)
  have Hrb := Lib.hid (hRun ⟨#[120]⟩ 0 (by decide) hxb)
  clear hvN2 hvN3 hbN1 hbN2 hrow hr1 hro hbR1 hbR2 hvR2 hvR3 hRA hro0 hcR' hXA hc1 hc2 hR1 hR0 hRun hxa hxb hrows h1l hr hf he hl hfl hel hTx hfit hT hO
  try simp only [Act.put]
  go_upto_region 3 with (first
    | (go_at_call 31; refine (one10_any w3).mono ?_; rintro e w4 ⟨ge2, gu2, rfl, hsE, hsR, hB4⟩)
    | (go_at_call 10; refine (dfa_any 2 _ 1 1 _ 2 2 [e97] [0, 1] 2 rfl (by decide) rfl (by decide) (by decide) w4 hsE hsR).mono ?_; rintro e w5 ⟨hD, hB5⟩; obtain rfl := dfa97_no hD; clear hD hsE hsR; unfold zeroD; have hzc := Blk.new w5 33 Tryd.zeroCells33; rw [zero_cells_dfa] at hzc)
    | (rw [zero_cells_dfa]; refine wl_store_dfa rfl _ _ rfl w5.heap.size rfl rfl hzc ?_; intro w6 hx6 hg6))
  have hB6a := below_alloc (Below.refl w5.heap.size w5) (.cells (dfaC (fun _ => 0) none 0 0 none 0 0 none 0 0) 33)
  have hB6 := below_then (below_then hB4 hB5) (below_grown hB6a hg6 (Nat.le_refl _))
  replace hx := blk_then hx hB6
  clear hB6a hB4 hB5 hzc hx6 hg6
  try simp only [Act.put]
  have hra := Hra.out w6 hB6
  go_upto_region 4 with (first
    | (refine wl_load_dfa rfl _ rfl gx rfl hx ?_)
    | (go_at_call 17; refine hra.mono ?_; rintro e w7 ⟨rfl, hB7⟩))
  replace hx := blk_then hx hB7
  replace hB6 := below_then hB6 hB7
  clear hB7 hra
  have hrb := Hrb.out w7 hB6
  go_upto_region 5 with (first
    | (refine wl_load_dfa rfl _ rfl gx rfl hx ?_)
    | (go_at_call 17; refine hrb.mono ?_; rintro e w8 ⟨rfl, hB8⟩))
  replace hx := blk_then hx hB8
  replace hB6 := below_then hB6 hB8
  clear hB8 hrb
  have hR1 : ∀ W : World, Below w8.heap.size w8 W → Calls Tryd.prog 15 #[.agg (dfaC x.f x.A 3 x.c x.B 3 x.d x.C 3 x.e)] W fun e w' => e = .returned (.bool true) ∧ Below W.heap.size W w' := fun W hW => HR1.out W (below_then hB6 hW)
  have hR0 : ∀ W : World, Below w8.heap.size w8 W → Calls Tryd.prog 15 #[.agg (dfaC (fun _ => 0) none 0 0 none 0 0 none 0 0)] W fun e w' => e = .returned (.bool false) ∧ Below W.heap.size W w' := fun W hW => HR0.out W
  refine wp_region_text 35 [eqS (.int .i64 (0)), eqS (.int .i64 (0)), eqS (.bool false), eqS (.bool false), eqS (vF (true && (false == false)) (.int .i64 (100))), eqS (vF (true && (false == false)) (.int .i64 (100))), eqS (vF (true && (false == false)) (.bool false)), eqS (.bool (false || false)), eqS (.bool (false || false)), eqS (vF (true && ((false || false) == false)) (.int .i64 (0))), eqS (vF (true && ((false || false) == false)) (.int .i64 (0))), eqS (vF (true && ((false || false) == false)) (.bool false)), eqS (.bool ((false || false) || false)), eqS (.bool ((false || false) || false)), eqS (vF (true && (((false || false) || false) == false)) (.int .i64 (0))), eqS (vF (true && (((false || false) || false) == false)) (.int .i64 (0))), eqS (vF (true && (((false || false) || false) == false)) (.bool false)), eqS (.bool (((false || false) || false) || false)), eqS (.bool (((false || false) || false) || false)), eqS (vF (true && ((((false || false) || false) || false) == false)) (.int .u32 (1))), eqS (vF (true && ((((false || false) || false) || false) == false)) (.bool false)), eqS (.bool ((((false || false) || false) || false) || false)), eqS (.bool ((((false || false) || false) || false) || false)), eqS (vF (true && (((((false || false) || false) || false) || false) == false)) (.int .u32 (0))), eqS (vF (true && (((((false || false) || false) || false) || false) == false)) (.bool false)), eqS (.bool (((((false || false) || false) || false) || false) || false)), eqS (.bool (((((false || false) || false) || false) || false) || false)), eqS (vF (true && ((((((false || false) || false) || false) || false) || false) == false)) (.agg (dfaC x.f x.A 3 x.c x.B 3 x.d x.C 3 x.e))), eqS (vF (true && ((((((false || false) || false) || false) || false) || false) == false)) (.bool true)), eqS (vF (true && ((((((false || false) || false) || false) || false) || false) == false)) (.bool (!true))), eqS (.bool ((((((false || false) || false) || false) || false) || false) || (!true))), eqS (.bool ((((((false || false) || false) || false) || false) || false) || (!true))), eqS (vF (true && (((((((false || false) || false) || false) || false) || false) || (!true)) == false)) (.agg (dfaC (fun _ => 0) none 0 0 none 0 0 none 0 0))), eqS (vF (true && (((((((false || false) || false) || false) || false) || false) || (!true)) == false)) (.bool false)), eqS (.bool (((((((false || false) || false) || false) || false) || false) || (!true)) || false))] [29, 30, 31, 32, 33, 34, 35, 36, 37, 38, 39, 40, 41, 42, 43, 44, 45, 46, 47, 48, 49, 50, 51, 52, 53, 54, 55, 56, 57, 58, 59, 60, 61, 62, 63] (by kernel_rfl) (by kernel_rfl) ?_ ?_
  · skip
    refine Steps.cons (fun a' w' hG hB dep => gs_move (want_none rfl) _ rfl (id (hG.other 2 rfl))) ?_
    refine Steps.cons (fun a' w' hG hB dep => gs_call (want_none rfl) _ _ _ rfl enter_num10 _ (map1 (dep 0 rfl 29 rfl)) ((num10_any 0 w').mono fun e w2 ⟨hq9, hb9⟩ => ⟨_, hq9, hb9, rfl⟩)) ?_
    refine Steps.cons (fun a' w' hG hB dep => gs_neq_int (want_none rfl) _ _ _ _ rfl _ _ _ (dep 1 rfl 30 rfl) rfl (id (congrArg Value.bool rfl))) ?_
    refine Steps.cons (fun a' w' hG hB dep => gs_move (want_none rfl) _ rfl (id (dep 2 rfl 31 rfl))) ?_
    refine Steps.cons (fun a' w' hG hB dep => gs_guard (c := true) (b' := false) rfl rfl (dep 3 rfl 32 rfl) (fun hc he hw => gs_move hw _ rfl (Eq.trans (hG.other 4 rfl) (vF_yes (on_g hc he) _).symm)) (fun hn => vF_no hn _)) ?_
    refine Steps.cons (fun a' w' hG hB dep => gs_guard (c := true) (b' := false) rfl rfl (dep 3 rfl 32 rfl) (fun hc he hw => gs_call hw _ _ _ rfl enter_num10 _ (map1 (Eq.trans (dep 4 rfl 33 rfl) (vF_yes (on_g hc he) _))) ((num10_any 100 w').mono fun e w2 ⟨hq9, hb9⟩ => ⟨_, hq9, hb9, (vF_yes (on_g hc he) _).symm⟩)) (fun hn => vF_no hn _)) ?_
    refine Steps.cons (fun a' w' hG hB dep => gs_guard (c := true) (b' := false) rfl rfl (dep 3 rfl 32 rfl) (fun hc he hw => gs_neq_int hw _ _ _ _ rfl _ _ _ (Eq.trans (dep 5 rfl 34 rfl) (vF_yes (on_g hc he) _)) rfl (Eq.trans (congrArg Value.bool rfl) (vF_yes (on_g hc he) _).symm)) (fun hn => vF_no hn _)) ?_
    refine Steps.cons (fun a' w' hG hB dep => gs_pick (want_none rfl) _ _ _ rfl false (dep 3 rfl 32 rfl) (id (pick_or2 (c := true) rfl (dep 6 rfl 35 rfl)))) ?_
    refine Steps.cons (fun a' w' hG hB dep => gs_move (want_none rfl) _ rfl (id (dep 7 rfl 36 rfl))) ?_
    refine Steps.cons (fun a' w' hG hB dep => gs_guard (c := true) (b' := (false || false)) rfl rfl (dep 8 rfl 37 rfl) (fun hc he hw => gs_move hw _ rfl (Eq.trans (hG.other 6 rfl) (vF_yes (on_g hc he) _).symm)) (fun hn => vF_no hn _)) ?_
    refine Steps.cons (fun a' w' hG hB dep => gs_guard (c := true) (b' := (false || false)) rfl rfl (dep 8 rfl 37 rfl) (fun hc he hw => gs_call hw _ _ _ rfl enter_num10 _ (map1 (Eq.trans (dep 9 rfl 38 rfl) (vF_yes (on_g hc he) _))) ((num10_any 0 w').mono fun e w2 ⟨hq9, hb9⟩ => ⟨_, hq9, hb9, (vF_yes (on_g hc he) _).symm⟩)) (fun hn => vF_no hn _)) ?_
    refine Steps.cons (fun a' w' hG hB dep => gs_guard (c := true) (b' := (false || false)) rfl rfl (dep 8 rfl 37 rfl) (fun hc he hw => gs_neq_int hw _ _ _ _ rfl _ _ _ (Eq.trans (dep 10 rfl 39 rfl) (vF_yes (on_g hc he) _)) rfl (Eq.trans (congrArg Value.bool rfl) (vF_yes (on_g hc he) _).symm)) (fun hn => vF_no hn _)) ?_
    refine Steps.cons (fun a' w' hG hB dep => gs_pick (want_none rfl) _ _ _ rfl (false || false) (dep 8 rfl 37 rfl) (id (pick_or2 (c := true) rfl (dep 11 rfl 40 rfl)))) ?_
    refine Steps.cons (fun a' w' hG hB dep => gs_move (want_none rfl) _ rfl (id (dep 12 rfl 41 rfl))) ?_
    refine Steps.cons (fun a' w' hG hB dep => gs_guard (c := true) (b' := ((false || false) || false)) rfl rfl (dep 13 rfl 42 rfl) (fun hc he hw => gs_move hw _ rfl (Eq.trans (hG.other 8 rfl) (vF_yes (on_g hc he) _).symm)) (fun hn => vF_no hn _)) ?_
    refine Steps.cons (fun a' w' hG hB dep => gs_guard (c := true) (b' := ((false || false) || false)) rfl rfl (dep 13 rfl 42 rfl) (fun hc he hw => gs_call hw _ _ _ rfl enter_num10 _ (map1 (Eq.trans (dep 14 rfl 43 rfl) (vF_yes (on_g hc he) _))) ((num10_any 0 w').mono fun e w2 ⟨hq9, hb9⟩ => ⟨_, hq9, hb9, (vF_yes (on_g hc he) _).symm⟩)) (fun hn => vF_no hn _)) ?_
    refine Steps.cons (fun a' w' hG hB dep => gs_guard (c := true) (b' := ((false || false) || false)) rfl rfl (dep 13 rfl 42 rfl) (fun hc he hw => gs_neq_int hw _ _ _ _ rfl _ _ _ (Eq.trans (dep 15 rfl 44 rfl) (vF_yes (on_g hc he) _)) rfl (Eq.trans (congrArg Value.bool rfl) (vF_yes (on_g hc he) _).symm)) (fun hn => vF_no hn _)) ?_
    refine Steps.cons (fun a' w' hG hB dep => gs_pick (want_none rfl) _ _ _ rfl ((false || false) || false) (dep 13 rfl 42 rfl) (id (pick_or2 (c := true) rfl (dep 16 rfl 45 rfl)))) ?_
    refine Steps.cons (fun a' w' hG hB dep => gs_move (want_none rfl) _ rfl (id (dep 17 rfl 46 rfl))) ?_
    refine Steps.cons (fun a' w' hG hB dep => gs_guard (c := true) (b' := (((false || false) || false) || false)) rfl rfl (dep 18 rfl 47 rfl) (fun hc he hw => gs_move hw _ rfl (Eq.trans (hG.other 5 rfl) (vF_yes (on_g hc he) _).symm)) (fun hn => vF_no hn _)) ?_
    refine Steps.cons (fun a' w' hG hB dep => gs_guard (c := true) (b' := (((false || false) || false) || false)) rfl rfl (dep 18 rfl 47 rfl) (fun hc he hw => gs_neq_int hw _ _ _ _ rfl _ _ _ (Eq.trans (dep 19 rfl 48 rfl) (vF_yes (on_g hc he) _)) rfl (Eq.trans (congrArg Value.bool rfl) (vF_yes (on_g hc he) _).symm)) (fun hn => vF_no hn _)) ?_
    refine Steps.cons (fun a' w' hG hB dep => gs_pick (want_none rfl) _ _ _ rfl (((false || false) || false) || false) (dep 18 rfl 47 rfl) (id (pick_or2 (c := true) rfl (dep 20 rfl 49 rfl)))) ?_
    refine Steps.cons (fun a' w' hG hB dep => gs_move (want_none rfl) _ rfl (id (dep 21 rfl 50 rfl))) ?_
    refine Steps.cons (fun a' w' hG hB dep => gs_guard (c := true) (b' := ((((false || false) || false) || false) || false)) rfl rfl (dep 22 rfl 51 rfl) (fun hc he hw => gs_move hw _ rfl (Eq.trans (hG.other 7 rfl) (vF_yes (on_g hc he) _).symm)) (fun hn => vF_no hn _)) ?_
    refine Steps.cons (fun a' w' hG hB dep => gs_guard (c := true) (b' := ((((false || false) || false) || false) || false)) rfl rfl (dep 22 rfl 51 rfl) (fun hc he hw => gs_neq_int hw _ _ _ _ rfl _ _ _ (Eq.trans (dep 23 rfl 52 rfl) (vF_yes (on_g hc he) _)) rfl (Eq.trans (congrArg Value.bool rfl) (vF_yes (on_g hc he) _).symm)) (fun hn => vF_no hn _)) ?_
    refine Steps.cons (fun a' w' hG hB dep => gs_pick (want_none rfl) _ _ _ rfl ((((false || false) || false) || false) || false) (dep 22 rfl 51 rfl) (id (pick_or2 (c := true) rfl (dep 24 rfl 53 rfl)))) ?_
    refine Steps.cons (fun a' w' hG hB dep => gs_move (want_none rfl) _ rfl (id (dep 25 rfl 54 rfl))) ?_
    refine Steps.cons (fun a' w' hG hB dep => gs_guard (c := true) (b' := (((((false || false) || false) || false) || false) || false)) rfl rfl (dep 26 rfl 55 rfl) (fun hc he hw => gs_load_dfa hw _ rfl gx (hG.other 1 rfl) (blk_then hx hB) (vF_yes (on_g hc he) _).symm) (fun hn => vF_no hn _)) ?_
    refine Steps.cons (fun a' w' hG hB dep => gs_guard (c := true) (b' := (((((false || false) || false) || false) || false) || false)) rfl rfl (dep 26 rfl 55 rfl) (fun hc he hw => gs_call hw _ _ _ rfl enter_sright _ (map1 (Eq.trans (dep 27 rfl 56 rfl) (vF_yes (on_g hc he) _))) ((hR1 w' hB).mono fun e w2 ⟨hq9, hb9⟩ => ⟨_, hq9, hb9, (vF_yes (on_g hc he) _).symm⟩)) (fun hn => vF_no hn _)) ?_
    refine Steps.cons (fun a' w' hG hB dep => gs_guard (c := true) (b' := (((((false || false) || false) || false) || false) || false)) rfl rfl (dep 26 rfl 55 rfl) (fun hc he hw => gs_not_bool hw _ _ rfl _ (Eq.trans (dep 28 rfl 57 rfl) (vF_yes (on_g hc he) _)) (vF_yes (on_g hc he) _).symm) (fun hn => vF_no hn _)) ?_
    refine Steps.cons (fun a' w' hG hB dep => gs_pick (want_none rfl) _ _ _ rfl (((((false || false) || false) || false) || false) || false) (dep 26 rfl 55 rfl) (id (pick_or2 (c := true) rfl (dep 29 rfl 58 rfl)))) ?_
    refine Steps.cons (fun a' w' hG hB dep => gs_move (want_none rfl) _ rfl (id (dep 30 rfl 59 rfl))) ?_
    refine Steps.cons (fun a' w' hG hB dep => gs_guard (c := true) (b' := ((((((false || false) || false) || false) || false) || false) || (!true))) rfl rfl (dep 31 rfl 60 rfl) (fun hc he hw => gs_build_dfa0 hw rfl (vF_yes (on_g hc he) _).symm) (fun hn => vF_no hn _)) ?_
    refine Steps.cons (fun a' w' hG hB dep => gs_guard (c := true) (b' := ((((((false || false) || false) || false) || false) || false) || (!true))) rfl rfl (dep 31 rfl 60 rfl) (fun hc he hw => gs_call hw _ _ _ rfl enter_sright _ (map1 (Eq.trans (dep 32 rfl 61 rfl) (vF_yes (on_g hc he) _))) ((hR0 w' hB).mono fun e w2 ⟨hq9, hb9⟩ => ⟨_, hq9, hb9, (vF_yes (on_g hc he) _).symm⟩)) (fun hn => vF_no hn _)) ?_
    refine Steps.cons (fun a' w' hG hB dep => gs_pick (want_none rfl) _ _ _ rfl ((((((false || false) || false) || false) || false) || false) || (!true)) (dep 31 rfl 60 rfl) (id (pick_or2 (c := true) rfl (dep 33 rfl 62 rfl)))) ?_
    exact Steps.nil
  intro u wp hwp ans
  have hus63 : u 63 = (.bool (((((((false || false) || false) || false) || false) || false) || (!true)) || false)) := ans 34 63 (by decide) rfl
  clear ans
  simp only [putAll, List.foldl_cons, List.foldl_nil, Act.put, List.setIfInBounds_toArray, List.set_cons_zero, List.set_cons_succ, hus63]
  clear hus63
  simp only [List.drop]
  refine wpList_nil ?_
  replace hx := blk_then hx hwp
  replace hB6 := below_then hB6 hwp
  rw [show (((((((false || false) || false) || false) || false) || false) || (!true)) || false) = false from rfl]
  have hc1 : ∀ W : World, Below wp.heap.size wp W → W.cell? ⟨bN, 0 + 1 * 1, none⟩ = some (.slice (some ⟨bR, 0, none⟩) 2 cR') := fun W hW => Hc1.out W (below_then hB6 hW)
  have hc2 : ∀ W : World, Below wp.heap.size wp W → W.cell? ⟨bR, 0 + 0 * 1, none⟩ = some (.int .i64 2) := fun W hW => Hc2.out W (below_then hB6 hW)
  have hXA := HXA
  clear hR1 hR0 hwp
  have HX := Lib.hid hx
  have Hc1' := Lib.hid hc1
  have Hc2' := Lib.hid hc2
  clear hx hc1 hc2
  go_upto_region 7 with (fail)
  have hx := HX.out
  have hc1 := Hc1'.out
  have hc2 := Hc2'.out
  refine wp_region_text 46 [eqS (.pointer (some ⟨gx, 256, none⟩)), eqS (.slice (some ⟨bN, 0, none⟩) 3 x.c), eqS (.int .i64 (((3 : Nat) : Int))), eqS (.bool true), eqS (.bool true), eqS (vF (true && (true == true)) (.pointer (some ⟨gx, 257, none⟩))), eqS (vF (true && (true == true)) (.slice x.B 3 x.d)), eqS (vF (true && (true == true)) (.int .i64 (((3 : Nat) : Int)))), eqS (vF (true && (true == true)) (.bool true)), eqS (.bool (true && true)), eqS (.bool (true && true)), eqS (vF (true && ((true && true) == true)) (.pointer (some ⟨gx, 258, none⟩))), eqS (vF (true && ((true && true) == true)) (.slice x.C 3 x.e)), eqS (vF (true && ((true && true) == true)) (.int .i64 (((3 : Nat) : Int)))), eqS (vF (true && ((true && true) == true)) (.bool true)), eqS (.bool ((true && true) && true)), eqS (.bool ((true && true) && true)), eqS (vF (true && (((true && true) && true) == true)) (.pointer (some ⟨gx, 0, none⟩))), eqS (vF (true && (((true && true) && true) == true)) (.pointer (some ⟨gx, 0 + 97 * 1, none⟩))), eqS (vF (true && (((true && true) && true) == true)) (.int .i64 (1))), eqS (vF (true && (((true && true) && true) == true)) (.bool true)), eqS (.bool (((true && true) && true) && true)), eqS (.bool (((true && true) && true) && true)), eqS (vF (true && ((((true && true) && true) && true) == true)) (.pointer (some ⟨gx, 0, none⟩))), eqS (vF (true && ((((true && true) && true) && true) == true)) (.pointer (some ⟨gx, 0 + 98 * 1, none⟩))), eqS (vF (true && ((((true && true) && true) && true) == true)) (.int .i64 (0))), eqS (vF (true && ((((true && true) && true) && true) == true)) (.bool true)), eqS (.bool ((((true && true) && true) && true) && true)), eqS (.bool ((((true && true) && true) && true) && true)), eqS (vF (true && (((((true && true) && true) && true) && true) == true)) (.pointer (some ⟨gx, 256, none⟩))), eqS (vF (true && (((((true && true) && true) && true) && true) == true)) (.slice (some ⟨bN, 0, none⟩) 3 x.c)), eqS (vF (true && (((((true && true) && true) && true) && true) == true)) (.pointer (some ⟨bN, 0 + 1 * 1, none⟩))), eqS (vF (true && (((((true && true) && true) && true) && true) == true)) (.slice (some ⟨bR, 0, none⟩) 2 cR')), eqS (vF (true && (((((true && true) && true) && true) && true) == true)) (.int .i64 (((2 : Nat) : Int)))), eqS (vF (true && (((((true && true) && true) && true) && true) == true)) (.bool true)), eqS (.bool (((((true && true) && true) && true) && true) && true)), eqS (.bool (((((true && true) && true) && true) && true) && true)), eqS (vF (true && ((((((true && true) && true) && true) && true) && true) == true)) (.pointer (some ⟨gx, 256, none⟩))), eqS (vF (true && ((((((true && true) && true) && true) && true) && true) == true)) (.slice (some ⟨bN, 0, none⟩) 3 x.c)), eqS (vF (true && ((((((true && true) && true) && true) && true) && true) == true)) (.pointer (some ⟨bN, 0 + 1 * 1, none⟩))), eqS (vF (true && ((((((true && true) && true) && true) && true) && true) == true)) (.slice (some ⟨bR, 0, none⟩) 2 cR')), eqS (vF (true && ((((((true && true) && true) && true) && true) && true) == true)) (.pointer (some ⟨bR, 0 + 0 * 1, none⟩))), eqS (vF (true && ((((((true && true) && true) && true) && true) && true) == true)) (.int .i64 (2))), eqS (vF (true && ((((((true && true) && true) && true) && true) && true) == true)) (.bool true)), eqS (.bool ((((((true && true) && true) && true) && true) && true) && true)), eqS (.bool ((((((true && true) && true) && true) && true) && true) && true))] [64, 65, 66, 67, 68, 69, 70, 71, 72, 73, 74, 75, 76, 77, 78, 79, 80, 81, 82, 83, 84, 85, 86, 87, 88, 89, 90, 91, 92, 93, 94, 95, 96, 97, 98, 99, 100, 101, 102, 103, 104, 105, 106, 107, 108, 0] (by kernel_rfl) (by kernel_rfl) ?_ ?_
  · skip
    refine Steps.cons (fun a' w' hG hB dep => gs_field (want_none rfl) _ _ _ rfl gx (0) (256) (hG.other 1 rfl) (fun wz => field_dfa_1 gx (0) wz) rfl) ?_
    refine Steps.cons (fun a' w' hG hB dep => gs_load1 (want_none rfl) _ _ rfl gx (256) (dep 0 rfl 64 rfl) (.slice (some ⟨bN, 0, none⟩) 3 x.c) (by have h9 := blk_d1 (blk_then hx hB); rw [hXA.out] at h9; exact h9) _ Tryd.underlying31 rfl rfl) ?_
    refine Steps.cons (fun a' w' hG hB dep => gs_len (want_none rfl) _ _ rfl under_rows _ 3 x.c (dep 1 rfl 65 rfl) rfl) ?_
    refine Steps.cons (fun a' w' hG hB dep => gs_eql_int (want_none rfl) _ _ _ _ rfl _ _ _ (dep 2 rfl 66 rfl) rfl (id (congrArg Value.bool rfl))) ?_
    refine Steps.cons (fun a' w' hG hB dep => gs_move (want_none rfl) _ rfl (id (dep 3 rfl 67 rfl))) ?_
    refine Steps.cons (fun a' w' hG hB dep => gs_guard (c := true) (b' := true) rfl rfl (dep 4 rfl 68 rfl) (fun hc he hw => gs_field hw _ _ _ rfl gx (0) (257) (hG.other 1 rfl) (fun wz => field_dfa_2 gx (0) wz) (vF_yes (on_g hc he) _).symm) (fun hn => vF_no hn _)) ?_
    refine Steps.cons (fun a' w' hG hB dep => gs_guard (c := true) (b' := true) rfl rfl (dep 4 rfl 68 rfl) (fun hc he hw => gs_load1 hw _ _ rfl gx (257) (Eq.trans (dep 5 rfl 69 rfl) (vF_yes (on_g hc he) _)) (.slice x.B 3 x.d) (blk_d2 (blk_then hx hB)) _ Tryd.underlying23 rfl (vF_yes (on_g hc he) _).symm) (fun hn => vF_no hn _)) ?_
    refine Steps.cons (fun a' w' hG hB dep => gs_guard (c := true) (b' := true) rfl rfl (dep 4 rfl 68 rfl) (fun hc he hw => gs_len hw _ _ rfl under_rules _ 3 x.d (Eq.trans (dep 6 rfl 70 rfl) (vF_yes (on_g hc he) _)) (vF_yes (on_g hc he) _).symm) (fun hn => vF_no hn _)) ?_
    refine Steps.cons (fun a' w' hG hB dep => gs_guard (c := true) (b' := true) rfl rfl (dep 4 rfl 68 rfl) (fun hc he hw => gs_eql_int hw _ _ _ _ rfl _ _ _ (Eq.trans (dep 7 rfl 71 rfl) (vF_yes (on_g hc he) _)) rfl (Eq.trans (congrArg Value.bool rfl) (vF_yes (on_g hc he) _).symm)) (fun hn => vF_no hn _)) ?_
    refine Steps.cons (fun a' w' hG hB dep => gs_pick (want_none rfl) _ _ _ rfl true (dep 4 rfl 68 rfl) (id (pick_and2 (c := true) rfl (dep 8 rfl 72 rfl)))) ?_
    refine Steps.cons (fun a' w' hG hB dep => gs_move (want_none rfl) _ rfl (id (dep 9 rfl 73 rfl))) ?_
    refine Steps.cons (fun a' w' hG hB dep => gs_guard (c := true) (b' := (true && true)) rfl rfl (dep 10 rfl 74 rfl) (fun hc he hw => gs_field hw _ _ _ rfl gx (0) (258) (hG.other 1 rfl) (fun wz => field_dfa_3 gx (0) wz) (vF_yes (on_g hc he) _).symm) (fun hn => vF_no hn _)) ?_
    refine Steps.cons (fun a' w' hG hB dep => gs_guard (c := true) (b' := (true && true)) rfl rfl (dep 10 rfl 74 rfl) (fun hc he hw => gs_load1 hw _ _ rfl gx (258) (Eq.trans (dep 11 rfl 75 rfl) (vF_yes (on_g hc he) _)) (.slice x.C 3 x.e) (blk_d3 (blk_then hx hB)) _ Tryd.underlying23 rfl (vF_yes (on_g hc he) _).symm) (fun hn => vF_no hn _)) ?_
    refine Steps.cons (fun a' w' hG hB dep => gs_guard (c := true) (b' := (true && true)) rfl rfl (dep 10 rfl 74 rfl) (fun hc he hw => gs_len hw _ _ rfl under_rules _ 3 x.e (Eq.trans (dep 12 rfl 76 rfl) (vF_yes (on_g hc he) _)) (vF_yes (on_g hc he) _).symm) (fun hn => vF_no hn _)) ?_
    refine Steps.cons (fun a' w' hG hB dep => gs_guard (c := true) (b' := (true && true)) rfl rfl (dep 10 rfl 74 rfl) (fun hc he hw => gs_eql_int hw _ _ _ _ rfl _ _ _ (Eq.trans (dep 13 rfl 77 rfl) (vF_yes (on_g hc he) _)) rfl (Eq.trans (congrArg Value.bool rfl) (vF_yes (on_g hc he) _).symm)) (fun hn => vF_no hn _)) ?_
    refine Steps.cons (fun a' w' hG hB dep => gs_pick (want_none rfl) _ _ _ rfl (true && true) (dep 10 rfl 74 rfl) (id (pick_and2 (c := true) rfl (dep 14 rfl 78 rfl)))) ?_
    refine Steps.cons (fun a' w' hG hB dep => gs_move (want_none rfl) _ rfl (id (dep 15 rfl 79 rfl))) ?_
    refine Steps.cons (fun a' w' hG hB dep => gs_guard (c := true) (b' := ((true && true) && true)) rfl rfl (dep 16 rfl 80 rfl) (fun hc he hw => gs_field hw _ _ _ rfl gx (0) (0) (hG.other 1 rfl) (fun wz => field_dfa_0 gx (0) wz) (vF_yes (on_g hc he) _).symm) (fun hn => vF_no hn _)) ?_
    refine Steps.cons (fun a' w' hG hB dep => gs_guard (c := true) (b' := ((true && true) && true)) rfl rfl (dep 16 rfl 80 rfl) (fun hc he hw => gs_index_arr hw _ _ _ rfl gx (0) 97 (Eq.trans (dep 17 rfl 81 rfl) (vF_yes (on_g hc he) _)) rfl (fun wz => index_cls _ _ _ (by omega) wz) (vF_yes (on_g hc he) _).symm) (fun hn => vF_no hn _)) ?_
    refine Steps.cons (fun a' w' hG hB dep => gs_guard (c := true) (b' := ((true && true) && true)) rfl rfl (dep 16 rfl 80 rfl) (fun hc he hw => gs_load1 hw _ _ rfl gx (0 + 97 * 1) (Eq.trans (dep 18 rfl 82 rfl) (vF_yes (on_g hc he) _)) (.int .i64 (1)) (by have h9 := blk_cls (blk_then hx hB) (show 97 < 256 by omega); rw [hf97.out] at h9; exact h9) _ Tryd.underlying3 rfl (vF_yes (on_g hc he) _).symm) (fun hn => vF_no hn _)) ?_
    refine Steps.cons (fun a' w' hG hB dep => gs_guard (c := true) (b' := ((true && true) && true)) rfl rfl (dep 16 rfl 80 rfl) (fun hc he hw => gs_eql_int hw _ _ _ _ rfl _ _ _ (Eq.trans (dep 19 rfl 83 rfl) (vF_yes (on_g hc he) _)) rfl (Eq.trans (congrArg Value.bool rfl) (vF_yes (on_g hc he) _).symm)) (fun hn => vF_no hn _)) ?_
    refine Steps.cons (fun a' w' hG hB dep => gs_pick (want_none rfl) _ _ _ rfl ((true && true) && true) (dep 16 rfl 80 rfl) (id (pick_and2 (c := true) rfl (dep 20 rfl 84 rfl)))) ?_
    refine Steps.cons (fun a' w' hG hB dep => gs_move (want_none rfl) _ rfl (id (dep 21 rfl 85 rfl))) ?_
    refine Steps.cons (fun a' w' hG hB dep => gs_guard (c := true) (b' := (((true && true) && true) && true)) rfl rfl (dep 22 rfl 86 rfl) (fun hc he hw => gs_field hw _ _ _ rfl gx (0) (0) (hG.other 1 rfl) (fun wz => field_dfa_0 gx (0) wz) (vF_yes (on_g hc he) _).symm) (fun hn => vF_no hn _)) ?_
    refine Steps.cons (fun a' w' hG hB dep => gs_guard (c := true) (b' := (((true && true) && true) && true)) rfl rfl (dep 22 rfl 86 rfl) (fun hc he hw => gs_index_arr hw _ _ _ rfl gx (0) 98 (Eq.trans (dep 23 rfl 87 rfl) (vF_yes (on_g hc he) _)) rfl (fun wz => index_cls _ _ _ (by omega) wz) (vF_yes (on_g hc he) _).symm) (fun hn => vF_no hn _)) ?_
    refine Steps.cons (fun a' w' hG hB dep => gs_guard (c := true) (b' := (((true && true) && true) && true)) rfl rfl (dep 22 rfl 86 rfl) (fun hc he hw => gs_load1 hw _ _ rfl gx (0 + 98 * 1) (Eq.trans (dep 24 rfl 88 rfl) (vF_yes (on_g hc he) _)) (.int .i64 (0)) (by have h9 := blk_cls (blk_then hx hB) (show 98 < 256 by omega); rw [hf98.out] at h9; exact h9) _ Tryd.underlying3 rfl (vF_yes (on_g hc he) _).symm) (fun hn => vF_no hn _)) ?_
    refine Steps.cons (fun a' w' hG hB dep => gs_guard (c := true) (b' := (((true && true) && true) && true)) rfl rfl (dep 22 rfl 86 rfl) (fun hc he hw => gs_eql_int hw _ _ _ _ rfl _ _ _ (Eq.trans (dep 25 rfl 89 rfl) (vF_yes (on_g hc he) _)) rfl (Eq.trans (congrArg Value.bool rfl) (vF_yes (on_g hc he) _).symm)) (fun hn => vF_no hn _)) ?_
    refine Steps.cons (fun a' w' hG hB dep => gs_pick (want_none rfl) _ _ _ rfl (((true && true) && true) && true) (dep 22 rfl 86 rfl) (id (pick_and2 (c := true) rfl (dep 26 rfl 90 rfl)))) ?_
    refine Steps.cons (fun a' w' hG hB dep => gs_move (want_none rfl) _ rfl (id (dep 27 rfl 91 rfl))) ?_
    refine Steps.cons (fun a' w' hG hB dep => gs_guard (c := true) (b' := ((((true && true) && true) && true) && true)) rfl rfl (dep 28 rfl 92 rfl) (fun hc he hw => gs_field hw _ _ _ rfl gx (0) (256) (hG.other 1 rfl) (fun wz => field_dfa_1 gx (0) wz) (vF_yes (on_g hc he) _).symm) (fun hn => vF_no hn _)) ?_
    refine Steps.cons (fun a' w' hG hB dep => gs_guard (c := true) (b' := ((((true && true) && true) && true) && true)) rfl rfl (dep 28 rfl 92 rfl) (fun hc he hw => gs_load1 hw _ _ rfl gx (256) (Eq.trans (dep 29 rfl 93 rfl) (vF_yes (on_g hc he) _)) (.slice (some ⟨bN, 0, none⟩) 3 x.c) (by have h9 := blk_d1 (blk_then hx hB); rw [hXA.out] at h9; exact h9) _ Tryd.underlying31 rfl (vF_yes (on_g hc he) _).symm) (fun hn => vF_no hn _)) ?_
    refine Steps.cons (fun a' w' hG hB dep => gs_guard (c := true) (b' := ((((true && true) && true) && true) && true)) rfl rfl (dep 28 rfl 92 rfl) (fun hc he hw => gs_index hw _ _ _ rfl under_rows 1 size_rowE bN 0 3 x.c (1) (Eq.trans (dep 30 rfl 94 rfl) (vF_yes (on_g hc he) _)) rfl (by omega) (vF_yes (on_g hc he) _).symm) (fun hn => vF_no hn _)) ?_
    refine Steps.cons (fun a' w' hG hB dep => gs_guard (c := true) (b' := ((((true && true) && true) && true) && true)) rfl rfl (dep 28 rfl 92 rfl) (fun hc he hw => gs_load1 hw _ _ rfl bN (0 + 1 * 1) (Eq.trans (dep 31 rfl 95 rfl) (vF_yes (on_g hc he) _)) (.slice (some ⟨bR, 0, none⟩) 2 cR') (hc1 _ hB) _ Tryd.underlying67 rfl (vF_yes (on_g hc he) _).symm) (fun hn => vF_no hn _)) ?_
    refine Steps.cons (fun a' w' hG hB dep => gs_guard (c := true) (b' := ((((true && true) && true) && true) && true)) rfl rfl (dep 28 rfl 92 rfl) (fun hc he hw => gs_len hw _ _ rfl under_ints _ 2 cR' (Eq.trans (dep 32 rfl 96 rfl) (vF_yes (on_g hc he) _)) (vF_yes (on_g hc he) _).symm) (fun hn => vF_no hn _)) ?_
    refine Steps.cons (fun a' w' hG hB dep => gs_guard (c := true) (b' := ((((true && true) && true) && true) && true)) rfl rfl (dep 28 rfl 92 rfl) (fun hc he hw => gs_eql_int hw _ _ _ _ rfl _ _ _ (Eq.trans (dep 33 rfl 97 rfl) (vF_yes (on_g hc he) _)) rfl (Eq.trans (congrArg Value.bool rfl) (vF_yes (on_g hc he) _).symm)) (fun hn => vF_no hn _)) ?_
    refine Steps.cons (fun a' w' hG hB dep => gs_pick (want_none rfl) _ _ _ rfl ((((true && true) && true) && true) && true) (dep 28 rfl 92 rfl) (id (pick_and2 (c := true) rfl (dep 34 rfl 98 rfl)))) ?_
    refine Steps.cons (fun a' w' hG hB dep => gs_move (want_none rfl) _ rfl (id (dep 35 rfl 99 rfl))) ?_
    refine Steps.cons (fun a' w' hG hB dep => gs_guard (c := true) (b' := (((((true && true) && true) && true) && true) && true)) rfl rfl (dep 36 rfl 100 rfl) (fun hc he hw => gs_field hw _ _ _ rfl gx (0) (256) (hG.other 1 rfl) (fun wz => field_dfa_1 gx (0) wz) (vF_yes (on_g hc he) _).symm) (fun hn => vF_no hn _)) ?_
    refine Steps.cons (fun a' w' hG hB dep => gs_guard (c := true) (b' := (((((true && true) && true) && true) && true) && true)) rfl rfl (dep 36 rfl 100 rfl) (fun hc he hw => gs_load1 hw _ _ rfl gx (256) (Eq.trans (dep 37 rfl 101 rfl) (vF_yes (on_g hc he) _)) (.slice (some ⟨bN, 0, none⟩) 3 x.c) (by have h9 := blk_d1 (blk_then hx hB); rw [hXA.out] at h9; exact h9) _ Tryd.underlying31 rfl (vF_yes (on_g hc he) _).symm) (fun hn => vF_no hn _)) ?_
    refine Steps.cons (fun a' w' hG hB dep => gs_guard (c := true) (b' := (((((true && true) && true) && true) && true) && true)) rfl rfl (dep 36 rfl 100 rfl) (fun hc he hw => gs_index hw _ _ _ rfl under_rows 1 size_rowE bN 0 3 x.c (1) (Eq.trans (dep 38 rfl 102 rfl) (vF_yes (on_g hc he) _)) rfl (by omega) (vF_yes (on_g hc he) _).symm) (fun hn => vF_no hn _)) ?_
    refine Steps.cons (fun a' w' hG hB dep => gs_guard (c := true) (b' := (((((true && true) && true) && true) && true) && true)) rfl rfl (dep 36 rfl 100 rfl) (fun hc he hw => gs_load1 hw _ _ rfl bN (0 + 1 * 1) (Eq.trans (dep 39 rfl 103 rfl) (vF_yes (on_g hc he) _)) (.slice (some ⟨bR, 0, none⟩) 2 cR') (hc1 _ hB) _ Tryd.underlying67 rfl (vF_yes (on_g hc he) _).symm) (fun hn => vF_no hn _)) ?_
    refine Steps.cons (fun a' w' hG hB dep => gs_guard (c := true) (b' := (((((true && true) && true) && true) && true) && true)) rfl rfl (dep 36 rfl 100 rfl) (fun hc he hw => gs_index hw _ _ _ rfl under_ints 1 size_intE bR 0 2 cR' (0) (Eq.trans (dep 40 rfl 104 rfl) (vF_yes (on_g hc he) _)) rfl (by omega) (vF_yes (on_g hc he) _).symm) (fun hn => vF_no hn _)) ?_
    refine Steps.cons (fun a' w' hG hB dep => gs_guard (c := true) (b' := (((((true && true) && true) && true) && true) && true)) rfl rfl (dep 36 rfl 100 rfl) (fun hc he hw => gs_load1 hw _ _ rfl bR (0 + 0 * 1) (Eq.trans (dep 41 rfl 105 rfl) (vF_yes (on_g hc he) _)) (.int .i64 (2)) (hc2 _ hB) _ Tryd.underlying3 rfl (vF_yes (on_g hc he) _).symm) (fun hn => vF_no hn _)) ?_
    refine Steps.cons (fun a' w' hG hB dep => gs_guard (c := true) (b' := (((((true && true) && true) && true) && true) && true)) rfl rfl (dep 36 rfl 100 rfl) (fun hc he hw => gs_eql_int hw _ _ _ _ rfl _ _ _ (Eq.trans (dep 42 rfl 106 rfl) (vF_yes (on_g hc he) _)) rfl (Eq.trans (congrArg Value.bool rfl) (vF_yes (on_g hc he) _).symm)) (fun hn => vF_no hn _)) ?_
    refine Steps.cons (fun a' w' hG hB dep => gs_pick (want_none rfl) _ _ _ rfl (((((true && true) && true) && true) && true) && true) (dep 36 rfl 100 rfl) (id (pick_and2 (c := true) rfl (dep 43 rfl 107 rfl)))) ?_
    refine Steps.cons (fun a' w' hG hB dep => gs_assign (want_none rfl) _ rfl (id (dep 44 rfl 108 rfl))) ?_
    exact Steps.nil
  intro u wq hwq ans
  have hus0 : u 0 = (.bool ((((((true && true) && true) && true) && true) && true) && true)) := ans 45 0 (by decide) rfl
  clear ans
  simp only [putAll, List.foldl_cons, List.foldl_nil, Act.put, List.setIfInBounds_toArray, List.set_cons_zero, List.set_cons_succ, hus0]
  clear hus0
  simp only [List.drop]
  refine wpList_nil ?_
  replace hB6 := below_then hB6 hwq
  rw [show ((((((true && true) && true) && true) && true) && true) && true) = true from rfl]
  clear hc1 hc2 hx
  go_wp2_with (fail)
  go_ret
  exact ⟨rfl, below_then hB3 hB6⟩
end Go.Proofs.YtkedgombccdamaaDoor
