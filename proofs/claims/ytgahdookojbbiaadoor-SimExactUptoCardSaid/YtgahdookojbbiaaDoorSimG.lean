/- sim.Walk's End. No condition beyond those named in each lemma. -/
import Derived.Test.YtgahdookojbbiaaDoorSimF
namespace Go.Proofs.YtgahdookojbbiaaDoor
open Go.RowKit Go.Shelf Go.Maps
set_option linter.unusedVariables false
set_option linter.unusedSimpArgs false
attribute [local go_sem] Oper.semAt_some

theorem own_empty {α : Type} {enc : α → Array Value} (w : World) (e : TypeId) (size base : Nat) (hb : base ≤ w.heap.size) : Own (w.alloc (.cells #[] e)) base e size enc (.slice (some ⟨w.heap.size, 0, none⟩) 0 0) ([] : List α) :=
  ⟨by simp [flat], .inr ⟨w.heap.size, 0, #[], rfl, hb, heap_alloc_new w _, Nat.le_refl _, Nat.zero_le _, by simp, by simp [flat]⟩⟩
set_option maxRecDepth 100000 in
set_option maxHeartbeats 2000000 in
theorem end_any (lo nb gw gm N : Nat) (E : List Edg) (R : List Nat) (k : Wk) (w : World) (h : WalkOk lo nb w gw gm N E R k) (hT : TabOk w) :
    Calls Tryd.prog 21 #[.pointer (some ⟨gw, 0, none⟩)] w fun e w' => e = .returned (.int .u32 (endW E N R k : Nat)) ∧ Below w.heap.size w w' := by
  obtain ⟨hMI, hnw, hr, hx, g, c, hne, hw, hs⟩ := h
  obtain ⟨x, r, b⟩ := k
  simp only at hr hx hw hs
  have hM := hMI.ok
  clear hMI
  have hN := hM.2.1
  have hone := hM.1.one
  have hnb0 := hM.2.2.2.2.1
  have hnb2 := hM.2.2.2.2.2.1
  have hkb : wordsFor N ≤ 549755813889 := by unfold wordsFor; omega
  have hk1 : 0 < wordsFor N := by unfold wordsFor; omega
  have hgb := hs.lt g rfl
  obtain ⟨y, hy⟩ : ∃ y, y = spreadN E N b true x := ⟨_, rfl⟩
  have hyN : below y N := by rw [hy]; exact spread_below _ _ _ _ _
  have hend : endW E N R ⟨x, r, b⟩ = r ||| metN R y N := by rw [hy]; rfl
  rw [hend]
  have Hy := Lib.hid hy
  clear hy hend
  obtain ⟨i0, hi0, hz0, hz1, hz2⟩ := info_parts info_u64z
  have c1 : (w.alloc (.cells #[] 49)).cell? ⟨gw, 1, none⟩ = some (.slice (some ⟨g, 0, none⟩) (wordsFor N) c) := (hw.alloc _).cellv (i := 1) rfl
  go_enter Tryd.func21, Tryd.ntmps21
  go_upto_region 2 with (at_builtin; refine wl_append (enc := encU) _ rfl _ _ 69 rfl w.heap.size 49 i0 _ 1 8 Tryd.underlying69 hi0 hz0 hz1 hz2 rfl (by decide) encU_size encU_one _ _ rfl (own_empty w 49 1 w.heap.size (Nat.le_refl _)) _ _ _ _ (wordsN x (wordsFor N)) rfl (wordsN_length _ _).symm ((hs.alloc _).slice_all encU_size) (by simp only [List.length_nil]; unfold maxLen; omega) (by simp only [List.length_nil]; omega) (by simp) ?_; intro v1 w1 hs1 hg1 _)
  rw [List.nil_append] at hs1
  obtain ⟨g1, cap, hv1, hgb1, hgb2, _⟩ := hs1.form (by rw [wordsN_length]; exact hk1)
  rw [wordsN_length] at hv1
  subst hv1
  have hB1 : Below w.heap.size w w1 := below_grown (below_alloc (Below.refl _ w) (.cells #[] 49)) hg1 (Nat.le_refl _)
  have hw1 := blk_then hw hB1
  have hM1 := hM.below hB1 hnb2
  have hT1 := hT.then_ hT.size hB1
  clear hs hw hg1 c1 hi0 hz0 hz1 hz2 hM hT
  refine wp_region_steps 9 [eqS (.pointer (some ⟨gw, 0, none⟩)), eqS (.pointer (some ⟨gw, 0, none⟩)), eqS (.pointer (some ⟨gw, 0, none⟩)), eqS (.pointer (some ⟨gm, 0, none⟩)), eqS (.slice (some ⟨g1, 0, none⟩) (wordsFor N) cap), eqS (.pointer (some ⟨gw, 0, none⟩)), eqS (.pointer (some ⟨gw, 0, none⟩)), eqS (.pointer (some ⟨gw, 3, none⟩)), eqS (.bool b)] [10, 11, 12, 13, 14, 15, 16, 17, 18] rfl (by kernel_rfl) rfl ?_ ?_
  · refine Steps.cons (fun a' w' hG hB dep => gs_move (want_none rfl) _ rfl (hG.other 0 rfl)) ?_
    refine Steps.cons (fun a' w' hG hB dep => gs_nil (want_none rfl) _ rfl _ (dep 0 rfl 10 rfl) rfl) ?_
    refine Steps.cons (fun a' w' hG hB dep => gs_field (want_none rfl) _ _ _ rfl gw 0 0 (dep 1 rfl 11 rfl) (field_walk_0 gw) rfl) ?_
    refine Steps.cons (fun a' w' hG hB dep => gs_load1 (want_none rfl) _ _ rfl gw 0 (dep 2 rfl 12 rfl) _ ((blk_then hw1 hB).cellv (i := 0) rfl) _ Tryd.underlying64 rfl rfl) ?_
    refine Steps.cons (fun a' w' hG hB dep => gs_move (want_none rfl) _ rfl (hG.other 3 rfl)) ?_
    refine Steps.cons (fun a' w' hG hB dep => gs_move (want_none rfl) _ rfl (hG.other 0 rfl)) ?_
    refine Steps.cons (fun a' w' hG hB dep => gs_nil (want_none rfl) _ rfl _ (dep 5 rfl 15 rfl) rfl) ?_
    refine Steps.cons (fun a' w' hG hB dep => gs_field (want_none rfl) _ _ _ rfl gw 0 3 (dep 6 rfl 16 rfl) (field_walk_3 gw) rfl) ?_
    refine Steps.cons (fun a' w' hG hB dep => gs_load1 (want_none rfl) _ _ rfl gw 3 (dep 7 rfl 17 rfl) _ ((blk_then hw1 hB).cellv (i := 3) rfl) _ Tryd.underlying4 rfl rfl) ?_
    exact Steps.nil
  intro u w2 hB2 ans
  have u13 : u 13 = .pointer (some ⟨gm, 0, none⟩) := ans 3 13 (by decide) rfl
  have u14 : u 14 = (.slice (some ⟨g1, 0, none⟩) (wordsFor N) cap) := ans 4 14 (by decide) rfl
  have u18 : u 18 = .bool b := ans 8 18 (by decide) rfl
  clear ans
  simp only [putAll, List.foldl_cons, List.foldl_nil, Act.put, List.setIfInBounds_toArray, List.set_cons_zero, List.set_cons_succ, u13, u14, u18]
  clear u13 u14 u18
  simp only [List.drop]
  have hs2 := hs1.then_ hB2
  have hM2 := hM1.below hB2 hM1.2.2.2.2.2.1
  have hT2 := hT1.then_ hT1.size hB2
  have hw2 := blk_then hw1 hB2
  refine wl_call rfl _ _ _ rfl enter_goes _ (map4 rfl rfl rfl rfl) ((goes_any nb gm N E R w.heap.size g1 cap x b true hx w2 hM2 hs2 hnb2 hT2).mono ?_)
  rintro e w3 ⟨rfl, hs3, hg3⟩
  refine ⟨_, rfl, ?_⟩
  simp only [Act.put, List.setIfInBounds_toArray, List.set_cons_zero, List.set_cons_succ]
  refine wpList_nil ?_
  rw [← Hy.out] at hs3
  have hlw := hw2.lt
  have hlw1 := hw1.lt
  have hw3 := blk_grown hw2 hg3 (fun e => by
    subst e
    have h1 := (hs3.2)
    rcases hs2.2 with ⟨hv, _⟩ | ⟨g', cap', cur, hv, _, hh, _⟩
    · cases hv
    · injection hv with hv _ _
      injection hv with hv
      injection hv with hv
      subst hv
      unfold Blk at hw2
      rw [hh] at hw2
      injection hw2 with hw2
      injection hw2 with _ hw2
      cases hw2)
  have hM3 := hM2.grown hg3 (by omega)
  have hT3 := tab_grown hT2 hg3 (by omega)
  have hB3 : Below w.heap.size w w3 := below_grown (below_then hB1 hB2) hg3 hgb1
  clear hs1 hs2 hw2 hw1 hM1 hM2 hT1 hT2 hg3 hB2 hB1
  have hgb3 := hs3.lt g1 rfl
  have hrw : ∀ {w' : World}, Below w3.heap.size w3 w' → ∀ i (h : i < (wordsN y (wordsFor N)).length), RowAt w' g1 (0 + i) (encU (wordsN y (wordsFor N))[i]) := fun hB i h => by
    have := (hs3.then_ hB).row encU_size i h
    rw [Nat.mul_one] at this
    rw [Nat.zero_add]
    exact this
  have hmet : metN R y N < 4294967296 := met_lt hM3.2.2.2.1 y N
  have hor := u32_or_nat r (metN R y N) hr hmet
  go_upto_region 3 with (fail)
  refine wp_region_steps 12 [eqS (.pointer (some ⟨gw, 0, none⟩)), eqS (.pointer (some ⟨gw, 0, none⟩)), eqS (.pointer (some ⟨gw, 2, none⟩)), eqS (.int .u32 (r : Int)), eqS (.pointer (some ⟨gw, 0, none⟩)), eqS (.pointer (some ⟨gw, 0, none⟩)), eqS (.pointer (some ⟨gw, 0, none⟩)), eqS (.pointer (some ⟨gm, 0, none⟩)), eqS (.slice (some ⟨g1, 0, none⟩) (wordsFor N) cap), eqS (.int .u32 (metN R y N : Nat)), eqS (.int .u32 (r ||| metN R y N : Nat)), eqS (.int .u32 (r ||| metN R y N : Nat))] [20, 21, 22, 23, 24, 25, 26, 27, 28, 29, 30, 2] rfl (by kernel_rfl) rfl ?_ ?_
  · refine Steps.cons (fun a' w' hG hB dep => gs_move (want_none rfl) _ rfl (hG.other 0 rfl)) ?_
    refine Steps.cons (fun a' w' hG hB dep => gs_nil (want_none rfl) _ rfl _ (dep 0 rfl 20 rfl) rfl) ?_
    refine Steps.cons (fun a' w' hG hB dep => gs_field (want_none rfl) _ _ _ rfl gw 0 2 (dep 1 rfl 21 rfl) (field_walk_2 gw) rfl) ?_
    refine Steps.cons (fun a' w' hG hB dep => gs_load1 (want_none rfl) _ _ rfl gw 2 (dep 2 rfl 22 rfl) _ ((blk_then hw3 hB).cellv (i := 2) rfl) _ Tryd.underlying28 rfl rfl) ?_
    refine Steps.cons (fun a' w' hG hB dep => gs_move (want_none rfl) _ rfl (hG.other 0 rfl)) ?_
    refine Steps.cons (fun a' w' hG hB dep => gs_nil (want_none rfl) _ rfl _ (dep 4 rfl 24 rfl) rfl) ?_
    refine Steps.cons (fun a' w' hG hB dep => gs_field (want_none rfl) _ _ _ rfl gw 0 0 (dep 5 rfl 25 rfl) (field_walk_0 gw) rfl) ?_
    refine Steps.cons (fun a' w' hG hB dep => gs_load1 (want_none rfl) _ _ rfl gw 0 (dep 6 rfl 26 rfl) _ ((blk_then hw3 hB).cellv (i := 0) rfl) _ Tryd.underlying64 rfl rfl) ?_
    refine Steps.cons (fun a' w' hG hB dep => gs_move (want_none rfl) _ rfl (hG.other 3 rfl)) ?_
    refine Steps.cons (fun a' w' hG hB dep => gs_call (want_none rfl) _ _ _ rfl enter_met _ (map2 (dep 7 rfl 27 rfl) (dep 8 rfl 28 rfl)) ((met_any nb gm N E R g1 0 cap y hyN w' (hM3.below hB hM3.2.2.2.2.2.1) (hrw hB) (Nat.lt_of_lt_of_le hgb3.2 hB.size) (hT3.then_ hT3.size hB)).mono fun e w2 ⟨he, hb⟩ => ⟨_, he, hb, rfl⟩)) ?_
    refine Steps.cons (fun a' w' hG hB dep => gs_or_u32 (want_none rfl) _ _ _ _ rfl _ _ (dep 3 rfl 23 rfl) (dep 9 rfl 29 rfl) _ hor rfl) ?_
    refine Steps.cons (fun a' w' hG hB dep => gs_assign (want_none rfl) _ rfl (dep 10 rfl 30 rfl)) ?_
    exact Steps.nil
  intro u w5 hB5 ans
  have u2 : u 2 = .int .u32 (r ||| metN R y N : Nat) := ans 11 2 (by decide) rfl
  clear ans
  simp only [putAll, List.foldl_cons, List.foldl_nil, Act.put, List.setIfInBounds_toArray, List.set_cons_zero, List.set_cons_succ, u2]
  clear u2
  simp only [List.drop]
  refine wpList_nil ?_
  have hB6 := below_then hB3 hB5
  clear hw3 hs3 hM3 hT3 hB3 hB5 hrw hor
  go_wp2_with (fail)
  go_ret
  exact ⟨rfl, hB6⟩
end Go.Proofs.YtgahdookojbbiaaDoor
