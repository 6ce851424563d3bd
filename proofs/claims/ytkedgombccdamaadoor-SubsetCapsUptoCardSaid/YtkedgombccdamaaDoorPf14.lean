/- Part 14 of a proof; packed: the texts that it was made of follow one another. No condition beyond those named in each lemma. -/
import Derived.Test.YtkedgombccdamaaDoorPf12
import Derived.Test.YtkedgombccdamaaDoorPf13
import Derived.ArgAppend
namespace Go.Proofs.YtkedgombccdamaaDoor
open Go.RowKit Go.Shelf Go.Maps
set_option linter.unusedVariables false
set_option linter.unusedSimpArgs false
attribute [local go_sem] Oper.semAt_some
set_option maxRecDepth 100000 in
set_option maxHeartbeats 4000000 in
theorem alike10_any (x y : TV) (he : TEq x.T y.T) (hfn : x.fo.length = x.rs.length) (hen : x.en.length = x.rs.length) (w : World) (hX : TabIn w w.heap.size x) (hY : TabIn w w.heap.size y) :
    Calls Tryd.prog 28 #[.agg x.C', .agg y.C'] w fun e w' => e = .returned (.bool true) ∧ Below w.heap.size w w' := by
  obtain ⟨he1, he2, he3, he4⟩ := he
  have hnl : x.rs.length = y.rs.length := by have := congrArg List.length he2; simpa [TV.T] using this
  have hfl : y.fo = x.fo := he3.symm
  have hel : y.en = x.en := he4.symm
  have hrow : ∀ i (h : i < x.rs.length) (h2 : i < y.rs.length), y.rs[i].l = x.rs[i].l := fun i h h2 => by
    have h9 : x.rs.map (·.l) = y.rs.map (·.l) := he2
    have h3 : (x.rs.map (·.l))[i]'(by simpa using h) = (y.rs.map (·.l))[i]'(by simpa using h2) := by simp only [h9]
    rw [List.getElem_map, List.getElem_map] at h3
    exact h3.symm
  have hXF : ∀ {X : World}, Below w.heap.size w X → SliceOf X X.heap.size 1 encR x.B x.fo := fun hB => (hX.fo.below hB).more hB.size
  have hYF : ∀ {X : World}, Below w.heap.size w X → SliceOf X X.heap.size 1 encR y.B x.fo := fun hB => by rw [← hfl]; exact (hY.fo.below hB).more hB.size
  have hXE : ∀ {X : World}, Below w.heap.size w X → SliceOf X X.heap.size 1 encR x.C x.en := fun hB => (hX.en.below hB).more hB.size
  have hYE : ∀ {X : World}, Below w.heap.size w X → SliceOf X X.heap.size 1 encR y.C x.en := fun hB => by rw [← hel]; exact (hY.en.below hB).more hB.size
  have hfob := hX.fb
  have henb := hX.eb
  have hnb := hX.nb
  have hCy : y.C' = dfaC x.f y.A x.rs.length y.c y.B x.fo.length y.d y.C x.en.length y.e := by
    unfold TV.C'
    rw [hfl, hel, hnl]
    exact dfaC_ext _ _ _ _ _ _ _ _ _ (fun b hb => (he1 b hb).symm)
  rw [hCy]
  unfold TV.C'
  obtain ⟨n, hn⟩ : ∃ n, x.rs.length = n := ⟨_, rfl⟩
  rw [hn] at hnb ⊢
  obtain ⟨f, hf⟩ : ∃ f, x.f = f := ⟨_, rfl⟩
  rw [hf]
  have hXf := hXF (Below.refl _ _)
  have hYf := hYF (Below.refl _ _)
  have hXe := hXE (Below.refl _ _)
  have hYe := hYE (Below.refl _ _)
  replace hn := Lib.hid hn
  have Hfn := Lib.hid hfn
  have Hen := Lib.hid hen
  clear hfn hen
  replace hnl := Lib.hid hnl
  replace hrow := Lib.hid hrow
  clear hCy hfl hel he1 he2 he3 he4 hf
  go_enter Tryd.func28, Tryd.ntmps28
  have h2 := (Blk.new w 33 (dfaC f x.A n x.c x.B x.fo.length x.d x.C x.en.length x.e)).alloc (.cells (dfaC f y.A n y.c y.B x.fo.length y.d y.C x.en.length y.e) 33)
  have h3 : Blk ((w.alloc (.cells (dfaC f x.A n x.c x.B x.fo.length x.d x.C x.en.length x.e) 33)).alloc (.cells (dfaC f y.A n y.c y.B x.fo.length y.d y.C x.en.length y.e) 33)) (w.heap.size + 1) 33 (dfaC f y.A n y.c y.B x.fo.length y.d y.C x.en.length y.e) := Blk.new' _ _ _ (World.size_alloc _ _).symm
  have hB1 := below_alloc (below_alloc (Below.refl w.heap.size w) (.cells (dfaC f x.A n x.c x.B x.fo.length x.d x.C x.en.length x.e) 33)) (.cells (dfaC f y.A n y.c y.B x.fo.length y.d y.C x.en.length y.e) 33)
  go_upto_region 1 with (fail)
  obtain ⟨w1, hw1⟩ : ∃ ww, ww = ((w.alloc (.cells (dfaC f x.A n x.c x.B x.fo.length x.d x.C x.en.length x.e) 33)).alloc (.cells (dfaC f y.A n y.c y.B x.fo.length y.d y.C x.en.length y.e) 33)) := ⟨_, rfl⟩
  first | rw [← hw1] at h2 h3 hB1 ⊢ | (simp only [World.size_alloc]; rw [← hw1] at h2 h3 hB1 ⊢)
  clear hw1
  obtain ⟨g2, hg2⟩ : ∃ g, g = w.heap.size := ⟨_, rfl⟩
  obtain ⟨g3, hg3⟩ : ∃ g, g = w.heap.size + 1 := ⟨_, rfl⟩
  try rw [← hg3] at h3 ⊢
  try rw [← hg2] at h2 ⊢
  clear hg2 hg3
  replace hXF : ∀ {X : World}, Below w1.heap.size w1 X → SliceOf X X.heap.size 1 encR x.B x.fo := fun hB => hXF (below_then hB1 hB)
  replace hYF : ∀ {X : World}, Below w1.heap.size w1 X → SliceOf X X.heap.size 1 encR y.B x.fo := fun hB => hYF (below_then hB1 hB)
  replace hXE : ∀ {X : World}, Below w1.heap.size w1 X → SliceOf X X.heap.size 1 encR x.C x.en := fun hB => hXE (below_then hB1 hB)
  replace hYE : ∀ {X : World}, Below w1.heap.size w1 X → SliceOf X X.heap.size 1 encR y.C x.en := fun hB => hYE (below_then hB1 hB)
  refine wp_region_text 32 [eqS (.pointer (some ⟨g2, 0, none⟩)), eqS (.agg (clsC f)), eqS (.pointer (some ⟨g3, 0, none⟩)), eqS (.agg (clsC f)), eqS (.bool false), eqS (.bool false), eqS (vF (true && (false == false)) (.pointer (some ⟨g2, 256, none⟩))), eqS (vF (true && (false == false)) (.slice x.A n x.c)), eqS (vF (true && (false == false)) (.int .i64 (((n : Nat) : Int)))), eqS (vF (true && (false == false)) (.pointer (some ⟨g3, 256, none⟩))), eqS (vF (true && (false == false)) (.slice y.A n y.c)), eqS (vF (true && (false == false)) (.int .i64 (((n : Nat) : Int)))), eqS (vF (true && (false == false)) (.bool false)), eqS (.bool (false || false)), eqS (.bool (false || false)), eqS (vF (true && ((false || false) == false)) (.pointer (some ⟨g2, 257, none⟩))), eqS (vF (true && ((false || false) == false)) (.slice x.B x.fo.length x.d)), eqS (vF (true && ((false || false) == false)) (.int .i64 (((x.fo.length : Nat) : Int)))), eqS (vF (true && ((false || false) == false)) (.pointer (some ⟨g3, 257, none⟩))), eqS (vF (true && ((false || false) == false)) (.slice y.B x.fo.length y.d)), eqS (vF (true && ((false || false) == false)) (.int .i64 (((x.fo.length : Nat) : Int)))), eqS (vF (true && ((false || false) == false)) (.bool false)), eqS (.bool ((false || false) || false)), eqS (.bool ((false || false) || false)), eqS (vF (true && (((false || false) || false) == false)) (.pointer (some ⟨g2, 258, none⟩))), eqS (vF (true && (((false || false) || false) == false)) (.slice x.C x.en.length x.e)), eqS (vF (true && (((false || false) || false) == false)) (.int .i64 (((x.en.length : Nat) : Int)))), eqS (vF (true && (((false || false) || false) == false)) (.pointer (some ⟨g3, 258, none⟩))), eqS (vF (true && (((false || false) || false) == false)) (.slice y.C x.en.length y.e)), eqS (vF (true && (((false || false) || false) == false)) (.int .i64 (((x.en.length : Nat) : Int)))), eqS (vF (true && (((false || false) || false) == false)) (.bool false)), eqS (.bool (((false || false) || false) || false))] [7, 8, 9, 10, 11, 12, 13, 14, 15, 16, 17, 18, 19, 20, 21, 22, 23, 24, 25, 26, 27, 28, 29, 30, 31, 32, 33, 34, 35, 36, 37, 38] (by kernel_rfl) (by kernel_rfl) ?_ ?_
  · skip
    refine Steps.cons (fun a' w' hG hB dep => gs_field (want_none rfl) _ _ _ rfl g2 (0) (0) (hG.other 2 rfl) (fun wz => field_dfa_0 g2 (0) wz) rfl) ?_
    refine Steps.cons (fun a' w' hG hB dep => gs_load_clsr (want_none rfl) _ rfl g2 (dep 0 rfl 7 rfl) f (dfaC_cls _ _ _ _ _ _ _ _ _ _ (RowAt.of_blk (blk_then h2 hB))) rfl) ?_
    refine Steps.cons (fun a' w' hG hB dep => gs_field (want_none rfl) _ _ _ rfl g3 (0) (0) (hG.other 3 rfl) (fun wz => field_dfa_0 g3 (0) wz) rfl) ?_
    refine Steps.cons (fun a' w' hG hB dep => gs_load_clsr (want_none rfl) _ rfl g3 (dep 2 rfl 9 rfl) f (dfaC_cls _ _ _ _ _ _ _ _ _ _ (RowAt.of_blk (blk_then h3 hB))) rfl) ?_
    refine Steps.cons (fun a' w' hG hB dep => gs_neq_cls (want_none rfl) _ _ _ rfl f (dep 1 rfl 8 rfl) (dep 3 rfl 10 rfl) rfl) ?_
    refine Steps.cons (fun a' w' hG hB dep => gs_move (want_none rfl) _ rfl (id (dep 4 rfl 11 rfl))) ?_
    refine Steps.cons (fun a' w' hG hB dep => gs_guard (c := true) (b' := false) rfl rfl (dep 5 rfl 12 rfl) (fun hc he hw => gs_field hw _ _ _ rfl g2 (0) (256) (hG.other 2 rfl) (fun wz => field_dfa_1 g2 (0) wz) (vF_yes (on_g hc he) _).symm) (fun hn => vF_no hn _)) ?_
    refine Steps.cons (fun a' w' hG hB dep => gs_guard (c := true) (b' := false) rfl rfl (dep 5 rfl 12 rfl) (fun hc he hw => gs_load1 hw _ _ rfl g2 (256) (Eq.trans (dep 6 rfl 13 rfl) (vF_yes (on_g hc he) _)) (.slice x.A n x.c) (blk_d1 (blk_then h2 hB)) _ Tryd.underlying31 rfl (vF_yes (on_g hc he) _).symm) (fun hn => vF_no hn _)) ?_
    refine Steps.cons (fun a' w' hG hB dep => gs_guard (c := true) (b' := false) rfl rfl (dep 5 rfl 12 rfl) (fun hc he hw => gs_len hw _ _ rfl under_rows _ n x.c (Eq.trans (dep 7 rfl 14 rfl) (vF_yes (on_g hc he) _)) (vF_yes (on_g hc he) _).symm) (fun hn => vF_no hn _)) ?_
    refine Steps.cons (fun a' w' hG hB dep => gs_guard (c := true) (b' := false) rfl rfl (dep 5 rfl 12 rfl) (fun hc he hw => gs_field hw _ _ _ rfl g3 (0) (256) (hG.other 3 rfl) (fun wz => field_dfa_1 g3 (0) wz) (vF_yes (on_g hc he) _).symm) (fun hn => vF_no hn _)) ?_
    refine Steps.cons (fun a' w' hG hB dep => gs_guard (c := true) (b' := false) rfl rfl (dep 5 rfl 12 rfl) (fun hc he hw => gs_load1 hw _ _ rfl g3 (256) (Eq.trans (dep 9 rfl 16 rfl) (vF_yes (on_g hc he) _)) (.slice y.A n y.c) (blk_d1 (blk_then h3 hB)) _ Tryd.underlying31 rfl (vF_yes (on_g hc he) _).symm) (fun hn => vF_no hn _)) ?_
    refine Steps.cons (fun a' w' hG hB dep => gs_guard (c := true) (b' := false) rfl rfl (dep 5 rfl 12 rfl) (fun hc he hw => gs_len hw _ _ rfl under_rows _ n y.c (Eq.trans (dep 10 rfl 17 rfl) (vF_yes (on_g hc he) _)) (vF_yes (on_g hc he) _).symm) (fun hn => vF_no hn _)) ?_
    refine Steps.cons (fun a' w' hG hB dep => gs_guard (c := true) (b' := false) rfl rfl (dep 5 rfl 12 rfl) (fun hc he hw => gs_neq_int hw _ _ _ _ rfl _ _ _ (Eq.trans (dep 8 rfl 15 rfl) (vF_yes (on_g hc he) _)) (Eq.trans (dep 11 rfl 18 rfl) (vF_yes (on_g hc he) _)) (Eq.trans (congrArg Value.bool (bne_self_eq_false _)) (vF_yes (on_g hc he) _).symm)) (fun hn => vF_no hn _)) ?_
    refine Steps.cons (fun a' w' hG hB dep => gs_pick (want_none rfl) _ _ _ rfl false (dep 5 rfl 12 rfl) (id (pick_or2 (c := true) rfl (dep 12 rfl 19 rfl)))) ?_
    refine Steps.cons (fun a' w' hG hB dep => gs_move (want_none rfl) _ rfl (id (dep 13 rfl 20 rfl))) ?_
    refine Steps.cons (fun a' w' hG hB dep => gs_guard (c := true) (b' := (false || false)) rfl rfl (dep 14 rfl 21 rfl) (fun hc he hw => gs_field hw _ _ _ rfl g2 (0) (257) (hG.other 2 rfl) (fun wz => field_dfa_2 g2 (0) wz) (vF_yes (on_g hc he) _).symm) (fun hn => vF_no hn _)) ?_
    refine Steps.cons (fun a' w' hG hB dep => gs_guard (c := true) (b' := (false || false)) rfl rfl (dep 14 rfl 21 rfl) (fun hc he hw => gs_load1 hw _ _ rfl g2 (257) (Eq.trans (dep 15 rfl 22 rfl) (vF_yes (on_g hc he) _)) (.slice x.B x.fo.length x.d) (blk_d2 (blk_then h2 hB)) _ Tryd.underlying23 rfl (vF_yes (on_g hc he) _).symm) (fun hn => vF_no hn _)) ?_
    refine Steps.cons (fun a' w' hG hB dep => gs_guard (c := true) (b' := (false || false)) rfl rfl (dep 14 rfl 21 rfl) (fun hc he hw => gs_len hw _ _ rfl under_rules _ x.fo.length x.d (Eq.trans (dep 16 rfl 23 rfl) (vF_yes (on_g hc he) _)) (vF_yes (on_g hc he) _).symm) (fun hn => vF_no hn _)) ?_
    refine Steps.cons (fun a' w' hG hB dep => gs_guard (c := true) (b' := (false || false)) rfl rfl (dep 14 rfl 21 rfl) (fun hc he hw => gs_field hw _ _ _ rfl g3 (0) (257) (hG.other 3 rfl) (fun wz => field_dfa_2 g3 (0) wz) (vF_yes (on_g hc he) _).symm) (fun hn => vF_no hn _)) ?_
    refine Steps.cons (fun a' w' hG hB dep => gs_guard (c := true) (b' := (false || false)) rfl rfl (dep 14 rfl 21 rfl) (fun hc he hw => gs_load1 hw _ _ rfl g3 (257) (Eq.trans (dep 18 rfl 25 rfl) (vF_yes (on_g hc he) _)) (.slice y.B x.fo.length y.d) (blk_d2 (blk_then h3 hB)) _ Tryd.underlying23 rfl (vF_yes (on_g hc he) _).symm) (fun hn => vF_no hn _)) ?_
    refine Steps.cons (fun a' w' hG hB dep => gs_guard (c := true) (b' := (false || false)) rfl rfl (dep 14 rfl 21 rfl) (fun hc he hw => gs_len hw _ _ rfl under_rules _ x.fo.length y.d (Eq.trans (dep 19 rfl 26 rfl) (vF_yes (on_g hc he) _)) (vF_yes (on_g hc he) _).symm) (fun hn => vF_no hn _)) ?_
    refine Steps.cons (fun a' w' hG hB dep => gs_guard (c := true) (b' := (false || false)) rfl rfl (dep 14 rfl 21 rfl) (fun hc he hw => gs_neq_int hw _ _ _ _ rfl _ _ _ (Eq.trans (dep 17 rfl 24 rfl) (vF_yes (on_g hc he) _)) (Eq.trans (dep 20 rfl 27 rfl) (vF_yes (on_g hc he) _)) (Eq.trans (congrArg Value.bool (bne_self_eq_false _)) (vF_yes (on_g hc he) _).symm)) (fun hn => vF_no hn _)) ?_
    refine Steps.cons (fun a' w' hG hB dep => gs_pick (want_none rfl) _ _ _ rfl (false || false) (dep 14 rfl 21 rfl) (id (pick_or2 (c := true) rfl (dep 21 rfl 28 rfl)))) ?_
    refine Steps.cons (fun a' w' hG hB dep => gs_move (want_none rfl) _ rfl (id (dep 22 rfl 29 rfl))) ?_
    refine Steps.cons (fun a' w' hG hB dep => gs_guard (c := true) (b' := ((false || false) || false)) rfl rfl (dep 23 rfl 30 rfl) (fun hc he hw => gs_field hw _ _ _ rfl g2 (0) (258) (hG.other 2 rfl) (fun wz => field_dfa_3 g2 (0) wz) (vF_yes (on_g hc he) _).symm) (fun hn => vF_no hn _)) ?_
    refine Steps.cons (fun a' w' hG hB dep => gs_guard (c := true) (b' := ((false || false) || false)) rfl rfl (dep 23 rfl 30 rfl) (fun hc he hw => gs_load1 hw _ _ rfl g2 (258) (Eq.trans (dep 24 rfl 31 rfl) (vF_yes (on_g hc he) _)) (.slice x.C x.en.length x.e) (blk_d3 (blk_then h2 hB)) _ Tryd.underlying23 rfl (vF_yes (on_g hc he) _).symm) (fun hn => vF_no hn _)) ?_
    refine Steps.cons (fun a' w' hG hB dep => gs_guard (c := true) (b' := ((false || false) || false)) rfl rfl (dep 23 rfl 30 rfl) (fun hc he hw => gs_len hw _ _ rfl under_rules _ x.en.length x.e (Eq.trans (dep 25 rfl 32 rfl) (vF_yes (on_g hc he) _)) (vF_yes (on_g hc he) _).symm) (fun hn => vF_no hn _)) ?_
    refine Steps.cons (fun a' w' hG hB dep => gs_guard (c := true) (b' := ((false || false) || false)) rfl rfl (dep 23 rfl 30 rfl) (fun hc he hw => gs_field hw _ _ _ rfl g3 (0) (258) (hG.other 3 rfl) (fun wz => field_dfa_3 g3 (0) wz) (vF_yes (on_g hc he) _).symm) (fun hn => vF_no hn _)) ?_
    refine Steps.cons (fun a' w' hG hB dep => gs_guard (c := true) (b' := ((false || false) || false)) rfl rfl (dep 23 rfl 30 rfl) (fun hc he hw => gs_load1 hw _ _ rfl g3 (258) (Eq.trans (dep 27 rfl 34 rfl) (vF_yes (on_g hc he) _)) (.slice y.C x.en.length y.e) (blk_d3 (blk_then h3 hB)) _ Tryd.underlying23 rfl (vF_yes (on_g hc he) _).symm) (fun hn => vF_no hn _)) ?_
    refine Steps.cons (fun a' w' hG hB dep => gs_guard (c := true) (b' := ((false || false) || false)) rfl rfl (dep 23 rfl 30 rfl) (fun hc he hw => gs_len hw _ _ rfl under_rules _ x.en.length y.e (Eq.trans (dep 28 rfl 35 rfl) (vF_yes (on_g hc he) _)) (vF_yes (on_g hc he) _).symm) (fun hn => vF_no hn _)) ?_
    refine Steps.cons (fun a' w' hG hB dep => gs_guard (c := true) (b' := ((false || false) || false)) rfl rfl (dep 23 rfl 30 rfl) (fun hc he hw => gs_neq_int hw _ _ _ _ rfl _ _ _ (Eq.trans (dep 26 rfl 33 rfl) (vF_yes (on_g hc he) _)) (Eq.trans (dep 29 rfl 36 rfl) (vF_yes (on_g hc he) _)) (Eq.trans (congrArg Value.bool (bne_self_eq_false _)) (vF_yes (on_g hc he) _).symm)) (fun hn => vF_no hn _)) ?_
    refine Steps.cons (fun a' w' hG hB dep => gs_pick (want_none rfl) _ _ _ rfl ((false || false) || false) (dep 23 rfl 30 rfl) (id (pick_or2 (c := true) rfl (dep 30 rfl 37 rfl)))) ?_
    exact Steps.nil
  intro u w2 hw2 ans
  have hus38 : u 38 = (.bool (((false || false) || false) || false)) := ans 31 38 (by decide) rfl
  clear ans
  simp only [putAll, List.foldl_cons, List.foldl_nil, Act.put, List.setIfInBounds_toArray, List.set_cons_zero, List.set_cons_succ, hus38]
  clear hus38
  simp only [List.drop]
  refine wpList_nil ?_
  replace h2 := blk_then h2 hw2
  replace h3 := blk_then h3 hw2
  replace hB1 := below_then hB1 hw2
  clear hw2 hXF hYF hXE hYE
  rw [show (((false || false) || false) || false) = false from rfl]
  have cN : w2.cell? ⟨g2, 256, none⟩ = some (.slice x.A n x.c) := blk_d1 h2
  go_wp2_with (fail)
  clear cN
  go_loopw [42] (fun iv wr => ∃ i : Nat, i ≤ n ∧ iv = .int .i64 i ∧ Below w.heap.size w wr ∧ Blk wr g2 33 (dfaC f x.A n x.c x.B x.fo.length x.d x.C x.en.length x.e) ∧ Blk wr g3 33 (dfaC f y.A n y.c y.B x.fo.length y.d y.C x.en.length y.e)) (fun iv _ => n - (intOf iv).toNat)
  case atStart => exact ⟨0, by omega, rfl, hB1, h2, h3⟩
  case round =>
    clear h2 h3 hB1
    obtain ⟨i, hi, rfl, hB1, h2, h3⟩ := hrel
    by_cases hil : i < n
    · have hiI : (i : Int) < n := by omega
      have hix : i < x.rs.length := by rw [hn.out]; exact hil
      have hiy : i < y.rs.length := by rw [← hnl.out]; exact hix
      obtain ⟨bX, oX, hXA, hbX, cX⟩ := hX.rowAt hix
      obtain ⟨bY, oY, hYA, hbY, cY⟩ := hY.rowAt hiy
      have hlb := hX.rb _ (List.getElem_mem hix)
      have hP0 := hX.row _ (List.getElem_mem hix)
      have hQ0 := hY.row _ (List.getElem_mem hiy)
      have hle := hrow.out i hix hiy
      rw [hle] at cY hQ0
      obtain ⟨p, hp⟩ : ∃ p, x.rs[i] = p := ⟨_, rfl⟩
      obtain ⟨q, hq⟩ : ∃ q, y.rs[i] = q := ⟨_, rfl⟩
      rw [hp] at cX hP0 cY hQ0 hlb
      rw [hq] at cY hQ0
      obtain ⟨l, hl⟩ : ∃ l, p.l = l := ⟨_, rfl⟩
      rw [hl] at cX hP0 cY hQ0 hlb
      have cP : ∀ X : World, Below wr.heap.size wr X → X.cell? ⟨bX, oX + i * 1, none⟩ = some (.slice p.a l.length p.c) := fun X hB => cell_keep cX hbX (below_then hB1 hB)
      have cQ : ∀ X : World, Below wr.heap.size wr X → X.cell? ⟨bY, oY + i * 1, none⟩ = some (.slice q.a l.length q.c) := fun X hB => cell_keep cY hbY (below_then hB1 hB)
      have hP := (hP0.below hB1).more hB1.size
      have hQ := (hQ0.below hB1).more hB1.size
      have hif : i < x.fo.length := by rw [Hfn.out]; exact hix
      have hie : i < x.en.length := by rw [Hen.out]; exact hix
      obtain ⟨bF, oF, hFX, hbF, rF⟩ := hXf.at_ (by omega)
      obtain ⟨bG, oG, hFY, hbG, rG⟩ := hYf.at_ (by omega)
      obtain ⟨bE, oE, hEX, hbE, rE⟩ := hXe.at_ (by omega)
      obtain ⟨bH, oH, hEY, hbH, rH⟩ := hYe.at_ (by omega)
      obtain ⟨zf, hzf⟩ : ∃ z, x.fo[i] = z := ⟨_, rfl⟩
      obtain ⟨ze, hze⟩ : ∃ z, x.en[i] = z := ⟨_, rfl⟩
      have cF1 : ∀ X : World, Below wr.heap.size wr X → X.cell? ⟨bF, oF + i * 1, none⟩ = some (Value.int .u32 ((zf : Nat) : Int)) := fun X hB => by rw [← hzf]; exact cell_keep (rF i hif 0 _ rfl) hbF (below_then hB1 hB)
      have cF2 : ∀ X : World, Below wr.heap.size wr X → X.cell? ⟨bG, oG + i * 1, none⟩ = some (Value.int .u32 ((zf : Nat) : Int)) := fun X hB => by rw [← hzf]; exact cell_keep (rG i hif 0 _ rfl) hbG (below_then hB1 hB)
      have cE1 : ∀ X : World, Below wr.heap.size wr X → X.cell? ⟨bE, oE + i * 1, none⟩ = some (Value.int .u32 ((ze : Nat) : Int)) := fun X hB => by rw [← hze]; exact cell_keep (rE i hie 0 _ rfl) hbE (below_then hB1 hB)
      have cE2 : ∀ X : World, Below wr.heap.size wr X → X.cell? ⟨bH, oH + i * 1, none⟩ = some (Value.int .u32 ((ze : Nat) : Int)) := fun X hB => by rw [← hze]; exact cell_keep (rH i hie 0 _ rfl) hbH (below_then hB1 hB)
      clear hle hp hq hl cX cY hP0 hQ0 hzf hze rF rG rE rH hbF hbG hbE hbH
      replace hXA := Lib.hid hXA
      replace hYA := Lib.hid hYA
      replace hFX := Lib.hid hFX
      replace hFY := Lib.hid hFY
      replace hEX := Lib.hid hEX
      replace hEY := Lib.hid hEY
      have HP := Lib.hid hP
      have HQ := Lib.hid hQ
      clear hP hQ
      go_upto_region 6 with (fail)
      refine wp_region_steps 39 [eqS (.pointer (some ⟨g2, 256, none⟩)), eqS (.slice (some ⟨bX, oX, none⟩) n x.c), eqS (.int .i64 (((i : Nat) : Int))), eqS (.pointer (some ⟨bX, oX + i * 1, none⟩)), eqS (.slice p.a l.length p.c), eqS (.int .i64 (((l.length : Nat) : Int))), eqS (.pointer (some ⟨g3, 256, none⟩)), eqS (.slice (some ⟨bY, oY, none⟩) n y.c), eqS (.int .i64 (((i : Nat) : Int))), eqS (.pointer (some ⟨bY, oY + i * 1, none⟩)), eqS (.slice q.a l.length q.c), eqS (.int .i64 (((l.length : Nat) : Int))), eqS (.bool false), eqS (.bool false), eqS (vF (true && (false == false)) (.pointer (some ⟨g2, 257, none⟩))), eqS (vF (true && (false == false)) (.slice (some ⟨bF, oF, none⟩) x.fo.length x.d)), eqS (vF (true && (false == false)) (.int .i64 (((i : Nat) : Int)))), eqS (vF (true && (false == false)) (.pointer (some ⟨bF, oF + i * 1, none⟩))), eqS (vF (true && (false == false)) (.int .u32 (((zf : Nat) : Int)))), eqS (vF (true && (false == false)) (.pointer (some ⟨g3, 257, none⟩))), eqS (vF (true && (false == false)) (.slice (some ⟨bG, oG, none⟩) x.fo.length y.d)), eqS (vF (true && (false == false)) (.int .i64 (((i : Nat) : Int)))), eqS (vF (true && (false == false)) (.pointer (some ⟨bG, oG + i * 1, none⟩))), eqS (vF (true && (false == false)) (.int .u32 (((zf : Nat) : Int)))), eqS (vF (true && (false == false)) (.bool false)), eqS (.bool (false || false)), eqS (.bool (false || false)), eqS (vF (true && ((false || false) == false)) (.pointer (some ⟨g2, 258, none⟩))), eqS (vF (true && ((false || false) == false)) (.slice (some ⟨bE, oE, none⟩) x.en.length x.e)), eqS (vF (true && ((false || false) == false)) (.int .i64 (((i : Nat) : Int)))), eqS (vF (true && ((false || false) == false)) (.pointer (some ⟨bE, oE + i * 1, none⟩))), eqS (vF (true && ((false || false) == false)) (.int .u32 (((ze : Nat) : Int)))), eqS (vF (true && ((false || false) == false)) (.pointer (some ⟨g3, 258, none⟩))), eqS (vF (true && ((false || false) == false)) (.slice (some ⟨bH, oH, none⟩) x.en.length y.e)), eqS (vF (true && ((false || false) == false)) (.int .i64 (((i : Nat) : Int)))), eqS (vF (true && ((false || false) == false)) (.pointer (some ⟨bH, oH + i * 1, none⟩))), eqS (vF (true && ((false || false) == false)) (.int .u32 (((ze : Nat) : Int)))), eqS (vF (true && ((false || false) == false)) (.bool false)), eqS (.bool ((false || false) || false))] [45, 46, 47, 48, 49, 50, 51, 52, 53, 54, 55, 56, 57, 58, 59, 60, 61, 62, 63, 64, 65, 66, 67, 68, 69, 70, 71, 72, 73, 74, 75, 76, 77, 78, 79, 80, 81, 82, 83] follows_mixed (by kernel_rfl) (by kernel_rfl) ?_ ?_
      · skip
        refine Steps.cons (fun a' w' hG hB dep => gs_field (want_none rfl) _ _ _ rfl g2 (0) (256) (hG.other 2 rfl) (fun wz => field_dfa_1 g2 (0) wz) rfl) ?_
        refine Steps.cons (fun a' w' hG hB dep => gs_load1 (want_none rfl) _ _ rfl g2 (256) (dep 0 rfl 45 rfl) (.slice (some ⟨bX, oX, none⟩) n x.c) (by have h9 := blk_d1 (blk_then h2 hB); rw [hXA.out] at h9; exact h9) _ Tryd.underlying31 rfl rfl) ?_
        refine Steps.cons (fun a' w' hG hB dep => gs_move (want_none rfl) _ rfl (id (hG.other 5 rfl))) ?_
        refine Steps.cons (fun a' w' hG hB dep => gs_index (want_none rfl) _ _ _ rfl under_rows 1 size_rowE bX oX n x.c (i) (dep 1 rfl 46 rfl) (dep 2 rfl 47 rfl) hil rfl) ?_
        refine Steps.cons (fun a' w' hG hB dep => gs_load1 (want_none rfl) _ _ rfl bX (oX + i * 1) (dep 3 rfl 48 rfl) (.slice p.a l.length p.c) (cP _ hB) _ Tryd.underlying67 rfl rfl) ?_
        refine Steps.cons (fun a' w' hG hB dep => gs_len (want_none rfl) _ _ rfl under_ints _ l.length p.c (dep 4 rfl 49 rfl) rfl) ?_
        refine Steps.cons (fun a' w' hG hB dep => gs_field (want_none rfl) _ _ _ rfl g3 (0) (256) (hG.other 3 rfl) (fun wz => field_dfa_1 g3 (0) wz) rfl) ?_
        refine Steps.cons (fun a' w' hG hB dep => gs_load1 (want_none rfl) _ _ rfl g3 (256) (dep 6 rfl 51 rfl) (.slice (some ⟨bY, oY, none⟩) n y.c) (by have h9 := blk_d1 (blk_then h3 hB); rw [hYA.out] at h9; exact h9) _ Tryd.underlying31 rfl rfl) ?_
        refine Steps.cons (fun a' w' hG hB dep => gs_move (want_none rfl) _ rfl (id (hG.other 5 rfl))) ?_
        refine Steps.cons (fun a' w' hG hB dep => gs_index (want_none rfl) _ _ _ rfl under_rows 1 size_rowE bY oY n y.c (i) (dep 7 rfl 52 rfl) (dep 8 rfl 53 rfl) hil rfl) ?_
        refine Steps.cons (fun a' w' hG hB dep => gs_load1 (want_none rfl) _ _ rfl bY (oY + i * 1) (dep 9 rfl 54 rfl) (.slice q.a l.length q.c) (cQ _ hB) _ Tryd.underlying67 rfl rfl) ?_
        refine Steps.cons (fun a' w' hG hB dep => gs_len (want_none rfl) _ _ rfl under_ints _ l.length q.c (dep 10 rfl 55 rfl) rfl) ?_
        refine Steps.cons (fun a' w' hG hB dep => gs_neq_int (want_none rfl) _ _ _ _ rfl _ _ _ (dep 5 rfl 50 rfl) (dep 11 rfl 56 rfl) (id (congrArg Value.bool (bne_self_eq_false _)))) ?_
        refine Steps.cons (fun a' w' hG hB dep => gs_move (want_none rfl) _ rfl (id (dep 12 rfl 57 rfl))) ?_
        refine Steps.cons (fun a' w' hG hB dep => gs_guard (c := true) (b' := false) rfl rfl (dep 13 rfl 58 rfl) (fun hc he hw => gs_field hw _ _ _ rfl g2 (0) (257) (hG.other 2 rfl) (fun wz => field_dfa_2 g2 (0) wz) (vF_yes (on_g hc he) _).symm) (fun hn => vF_no hn _)) ?_
        refine Steps.cons (fun a' w' hG hB dep => gs_guard (c := true) (b' := false) rfl rfl (dep 13 rfl 58 rfl) (fun hc he hw => gs_load1 hw _ _ rfl g2 (257) (Eq.trans (dep 14 rfl 59 rfl) (vF_yes (on_g hc he) _)) (.slice (some ⟨bF, oF, none⟩) x.fo.length x.d) (by have h9 := blk_d2 (blk_then h2 hB); rw [hFX.out] at h9; exact h9) _ Tryd.underlying23 rfl (vF_yes (on_g hc he) _).symm) (fun hn => vF_no hn _)) ?_
        refine Steps.cons (fun a' w' hG hB dep => gs_guard (c := true) (b' := false) rfl rfl (dep 13 rfl 58 rfl) (fun hc he hw => gs_move hw _ rfl (Eq.trans (hG.other 5 rfl) (vF_yes (on_g hc he) _).symm)) (fun hn => vF_no hn _)) ?_
        refine Steps.cons (fun a' w' hG hB dep => gs_guard (c := true) (b' := false) rfl rfl (dep 13 rfl 58 rfl) (fun hc he hw => gs_index hw _ _ _ rfl under_rules 1 size_ruleE bF oF x.fo.length x.d (i) (Eq.trans (dep 15 rfl 60 rfl) (vF_yes (on_g hc he) _)) (Eq.trans (dep 16 rfl 61 rfl) (vF_yes (on_g hc he) _)) hif (vF_yes (on_g hc he) _).symm) (fun hn => vF_no hn _)) ?_
        refine Steps.cons (fun a' w' hG hB dep => gs_guard (c := true) (b' := false) rfl rfl (dep 13 rfl 58 rfl) (fun hc he hw => gs_load1 hw _ _ rfl bF (oF + i * 1) (Eq.trans (dep 17 rfl 62 rfl) (vF_yes (on_g hc he) _)) (.int .u32 (((zf : Nat) : Int))) (cF1 _ hB) _ Tryd.underlying43 rfl (vF_yes (on_g hc he) _).symm) (fun hn => vF_no hn _)) ?_
        refine Steps.cons (fun a' w' hG hB dep => gs_guard (c := true) (b' := false) rfl rfl (dep 13 rfl 58 rfl) (fun hc he hw => gs_field hw _ _ _ rfl g3 (0) (257) (hG.other 3 rfl) (fun wz => field_dfa_2 g3 (0) wz) (vF_yes (on_g hc he) _).symm) (fun hn => vF_no hn _)) ?_
        refine Steps.cons (fun a' w' hG hB dep => gs_guard (c := true) (b' := false) rfl rfl (dep 13 rfl 58 rfl) (fun hc he hw => gs_load1 hw _ _ rfl g3 (257) (Eq.trans (dep 19 rfl 64 rfl) (vF_yes (on_g hc he) _)) (.slice (some ⟨bG, oG, none⟩) x.fo.length y.d) (by have h9 := blk_d2 (blk_then h3 hB); rw [hFY.out] at h9; exact h9) _ Tryd.underlying23 rfl (vF_yes (on_g hc he) _).symm) (fun hn => vF_no hn _)) ?_
        refine Steps.cons (fun a' w' hG hB dep => gs_guard (c := true) (b' := false) rfl rfl (dep 13 rfl 58 rfl) (fun hc he hw => gs_move hw _ rfl (Eq.trans (hG.other 5 rfl) (vF_yes (on_g hc he) _).symm)) (fun hn => vF_no hn _)) ?_
        refine Steps.cons (fun a' w' hG hB dep => gs_guard (c := true) (b' := false) rfl rfl (dep 13 rfl 58 rfl) (fun hc he hw => gs_index hw _ _ _ rfl under_rules 1 size_ruleE bG oG x.fo.length y.d (i) (Eq.trans (dep 20 rfl 65 rfl) (vF_yes (on_g hc he) _)) (Eq.trans (dep 21 rfl 66 rfl) (vF_yes (on_g hc he) _)) hif (vF_yes (on_g hc he) _).symm) (fun hn => vF_no hn _)) ?_
        refine Steps.cons (fun a' w' hG hB dep => gs_guard (c := true) (b' := false) rfl rfl (dep 13 rfl 58 rfl) (fun hc he hw => gs_load1 hw _ _ rfl bG (oG + i * 1) (Eq.trans (dep 22 rfl 67 rfl) (vF_yes (on_g hc he) _)) (.int .u32 (((zf : Nat) : Int))) (cF2 _ hB) _ Tryd.underlying43 rfl (vF_yes (on_g hc he) _).symm) (fun hn => vF_no hn _)) ?_
        refine Steps.cons (fun a' w' hG hB dep => gs_guard (c := true) (b' := false) rfl rfl (dep 13 rfl 58 rfl) (fun hc he hw => gs_neq_int hw _ _ _ _ rfl _ _ _ (Eq.trans (dep 18 rfl 63 rfl) (vF_yes (on_g hc he) _)) (Eq.trans (dep 23 rfl 68 rfl) (vF_yes (on_g hc he) _)) (Eq.trans (congrArg Value.bool (bne_self_eq_false _)) (vF_yes (on_g hc he) _).symm)) (fun hn => vF_no hn _)) ?_
        refine Steps.cons (fun a' w' hG hB dep => gs_pick (want_none rfl) _ _ _ rfl false (dep 13 rfl 58 rfl) (id (pick_or2 (c := true) rfl (dep 24 rfl 69 rfl)))) ?_
        refine Steps.cons (fun a' w' hG hB dep => gs_move (want_none rfl) _ rfl (id (dep 25 rfl 70 rfl))) ?_
        refine Steps.cons (fun a' w' hG hB dep => gs_guard (c := true) (b' := (false || false)) rfl rfl (dep 26 rfl 71 rfl) (fun hc he hw => gs_field hw _ _ _ rfl g2 (0) (258) (hG.other 2 rfl) (fun wz => field_dfa_3 g2 (0) wz) (vF_yes (on_g hc he) _).symm) (fun hn => vF_no hn _)) ?_
        refine Steps.cons (fun a' w' hG hB dep => gs_guard (c := true) (b' := (false || false)) rfl rfl (dep 26 rfl 71 rfl) (fun hc he hw => gs_load1 hw _ _ rfl g2 (258) (Eq.trans (dep 27 rfl 72 rfl) (vF_yes (on_g hc he) _)) (.slice (some ⟨bE, oE, none⟩) x.en.length x.e) (by have h9 := blk_d3 (blk_then h2 hB); rw [hEX.out] at h9; exact h9) _ Tryd.underlying23 rfl (vF_yes (on_g hc he) _).symm) (fun hn => vF_no hn _)) ?_
        refine Steps.cons (fun a' w' hG hB dep => gs_guard (c := true) (b' := (false || false)) rfl rfl (dep 26 rfl 71 rfl) (fun hc he hw => gs_move hw _ rfl (Eq.trans (hG.other 5 rfl) (vF_yes (on_g hc he) _).symm)) (fun hn => vF_no hn _)) ?_
        refine Steps.cons (fun a' w' hG hB dep => gs_guard (c := true) (b' := (false || false)) rfl rfl (dep 26 rfl 71 rfl) (fun hc he hw => gs_index hw _ _ _ rfl under_rules 1 size_ruleE bE oE x.en.length x.e (i) (Eq.trans (dep 28 rfl 73 rfl) (vF_yes (on_g hc he) _)) (Eq.trans (dep 29 rfl 74 rfl) (vF_yes (on_g hc he) _)) hie (vF_yes (on_g hc he) _).symm) (fun hn => vF_no hn _)) ?_
        refine Steps.cons (fun a' w' hG hB dep => gs_guard (c := true) (b' := (false || false)) rfl rfl (dep 26 rfl 71 rfl) (fun hc he hw => gs_load1 hw _ _ rfl bE (oE + i * 1) (Eq.trans (dep 30 rfl 75 rfl) (vF_yes (on_g hc he) _)) (.int .u32 (((ze : Nat) : Int))) (cE1 _ hB) _ Tryd.underlying43 rfl (vF_yes (on_g hc he) _).symm) (fun hn => vF_no hn _)) ?_
        refine Steps.cons (fun a' w' hG hB dep => gs_guard (c := true) (b' := (false || false)) rfl rfl (dep 26 rfl 71 rfl) (fun hc he hw => gs_field hw _ _ _ rfl g3 (0) (258) (hG.other 3 rfl) (fun wz => field_dfa_3 g3 (0) wz) (vF_yes (on_g hc he) _).symm) (fun hn => vF_no hn _)) ?_
        refine Steps.cons (fun a' w' hG hB dep => gs_guard (c := true) (b' := (false || false)) rfl rfl (dep 26 rfl 71 rfl) (fun hc he hw => gs_load1 hw _ _ rfl g3 (258) (Eq.trans (dep 32 rfl 77 rfl) (vF_yes (on_g hc he) _)) (.slice (some ⟨bH, oH, none⟩) x.en.length y.e) (by have h9 := blk_d3 (blk_then h3 hB); rw [hEY.out] at h9; exact h9) _ Tryd.underlying23 rfl (vF_yes (on_g hc he) _).symm) (fun hn => vF_no hn _)) ?_
        refine Steps.cons (fun a' w' hG hB dep => gs_guard (c := true) (b' := (false || false)) rfl rfl (dep 26 rfl 71 rfl) (fun hc he hw => gs_move hw _ rfl (Eq.trans (hG.other 5 rfl) (vF_yes (on_g hc he) _).symm)) (fun hn => vF_no hn _)) ?_
        refine Steps.cons (fun a' w' hG hB dep => gs_guard (c := true) (b' := (false || false)) rfl rfl (dep 26 rfl 71 rfl) (fun hc he hw => gs_index hw _ _ _ rfl under_rules 1 size_ruleE bH oH x.en.length y.e (i) (Eq.trans (dep 33 rfl 78 rfl) (vF_yes (on_g hc he) _)) (Eq.trans (dep 34 rfl 79 rfl) (vF_yes (on_g hc he) _)) hie (vF_yes (on_g hc he) _).symm) (fun hn => vF_no hn _)) ?_
        refine Steps.cons (fun a' w' hG hB dep => gs_guard (c := true) (b' := (false || false)) rfl rfl (dep 26 rfl 71 rfl) (fun hc he hw => gs_load1 hw _ _ rfl bH (oH + i * 1) (Eq.trans (dep 35 rfl 80 rfl) (vF_yes (on_g hc he) _)) (.int .u32 (((ze : Nat) : Int))) (cE2 _ hB) _ Tryd.underlying43 rfl (vF_yes (on_g hc he) _).symm) (fun hn => vF_no hn _)) ?_
        refine Steps.cons (fun a' w' hG hB dep => gs_guard (c := true) (b' := (false || false)) rfl rfl (dep 26 rfl 71 rfl) (fun hc he hw => gs_neq_int hw _ _ _ _ rfl _ _ _ (Eq.trans (dep 31 rfl 76 rfl) (vF_yes (on_g hc he) _)) (Eq.trans (dep 36 rfl 81 rfl) (vF_yes (on_g hc he) _)) (Eq.trans (congrArg Value.bool (bne_self_eq_false _)) (vF_yes (on_g hc he) _).symm)) (fun hn => vF_no hn _)) ?_
        refine Steps.cons (fun a' w' hG hB dep => gs_pick (want_none rfl) _ _ _ rfl (false || false) (dep 26 rfl 71 rfl) (id (pick_or2 (c := true) rfl (dep 37 rfl 82 rfl)))) ?_
        exact Steps.nil
      intro u w3 hw3 ans
      have hus83 : u 83 = (.bool ((false || false) || false)) := ans 38 83 (by decide) rfl
      clear ans
      simp only [putAll, List.foldl_cons, List.foldl_nil, Act.put, List.setIfInBounds_toArray, List.set_cons_zero, List.set_cons_succ, hus83]
      clear hus83
      simp only [List.drop]
      refine wpList_nil ?_
      replace h2 := blk_then h2 hw3
      replace h3 := blk_then h3 hw3
      have hB13 := below_then hB1 hw3
      have hP := HP.out.below hw3 |>.more hw3.size
      have hQ := HQ.out.below hw3 |>.more hw3.size
      have HcP := Lib.hid (fun X (hB : Below w3.heap.size w3 X) => cP X (below_then hw3 hB))
      have HcQ := Lib.hid (fun X (hB : Below w3.heap.size w3 X) => cQ X (below_then hw3 hB))
      clear hw3 cP cQ cF1 cF2 cE1 cE2 hFX hFY hEX hEY hif hie HP HQ
      rw [show ((false || false) || false) = false from rfl]
      have cN : w3.cell? ⟨g2, 256, none⟩ = some (.slice (some ⟨bX, oX, none⟩) n x.c) := by rw [← hXA.out]; exact blk_d1 h2
      have cPr : w3.cell? ⟨bX, oX + i, none⟩ = some (.slice p.a l.length p.c) := by have := HcP.out _ (Below.refl _ _); rwa [Nat.mul_one] at this
      go_wp2_with (fail)
      clear cN cPr
      go_loopw [90] (fun kv wk => ∃ k : Nat, k ≤ l.length ∧ kv = .int .i64 k ∧ Below w3.heap.size w3 wk ∧ Blk wk g2 33 (dfaC f x.A n x.c x.B x.fo.length x.d x.C x.en.length x.e) ∧ Blk wk g3 33 (dfaC f y.A n y.c y.B x.fo.length y.d y.C x.en.length y.e)) (fun kv _ => l.length - (intOf kv).toNat)
      case atStart => exact ⟨0, by omega, rfl, Below.refl _ _, h2, h3⟩
      case round =>
        clear h2 h3
        obtain ⟨k, hk, rfl, hBk, h2, h3⟩ := hrel
        by_cases hkl : k < l.length
        · have hkI : (k : Int) < l.length := by omega
          obtain ⟨bp, op, hpa, hbp, hrp⟩ := hP.at_ (by omega)
          obtain ⟨bq, oq, hqa, hbq, hrq⟩ := hQ.at_ (by omega)
          obtain ⟨z, hz⟩ : ∃ z, l[k] = z := ⟨_, rfl⟩
          have cz1 : ∀ X : World, Below wr.heap.size wr X → X.cell? ⟨bp, op + k * 1, none⟩ = some (Value.int .i64 z) := fun X hB => by rw [← hz]; exact cell_keep (hrp k hkl 0 _ rfl) hbp (below_then hBk hB)
          have cz2 : ∀ X : World, Below wr.heap.size wr X → X.cell? ⟨bq, oq + k * 1, none⟩ = some (Value.int .i64 z) := fun X hB => by rw [← hz]; exact cell_keep (hrq k hkl 0 _ rfl) hbq (below_then hBk hB)
          have cP2 : ∀ X : World, Below wr.heap.size wr X → X.cell? ⟨bX, oX + i * 1, none⟩ = some (.slice (some ⟨bp, op, none⟩) l.length p.c) := fun X hB => by rw [← hpa]; exact HcP.out _ (below_then hBk hB)
          have cQ2 : ∀ X : World, Below wr.heap.size wr X → X.cell? ⟨bY, oY + i * 1, none⟩ = some (.slice (some ⟨bq, oq, none⟩) l.length q.c) := fun X hB => by rw [← hqa]; exact HcQ.out _ (below_then hBk hB)
          replace hz := Lib.hid hz
          replace hpa := Lib.hid hpa
          replace hqa := Lib.hid hqa
          go_upto_region 11 with (fail)
          refine wp_region_steps 17 [eqS (.pointer (some ⟨g2, 256, none⟩)), eqS (.slice (some ⟨bX, oX, none⟩) n x.c), eqS (.int .i64 (((i : Nat) : Int))), eqS (.pointer (some ⟨bX, oX + i * 1, none⟩)), eqS (.slice (some ⟨bp, op, none⟩) l.length p.c), eqS (.int .i64 (((k : Nat) : Int))), eqS (.pointer (some ⟨bp, op + k * 1, none⟩)), eqS (.int .i64 (z)), eqS (.pointer (some ⟨g3, 256, none⟩)), eqS (.slice (some ⟨bY, oY, none⟩) n y.c), eqS (.int .i64 (((i : Nat) : Int))), eqS (.pointer (some ⟨bY, oY + i * 1, none⟩)), eqS (.slice (some ⟨bq, oq, none⟩) l.length q.c), eqS (.int .i64 (((k : Nat) : Int))), eqS (.pointer (some ⟨bq, oq + k * 1, none⟩)), eqS (.int .i64 (z)), eqS (.bool false)] [93, 94, 95, 96, 97, 98, 99, 100, 101, 102, 103, 104, 105, 106, 107, 108, 109] follows_mixed (by kernel_rfl) (by kernel_rfl) ?_ ?_
          · skip
            refine Steps.cons (fun a' w' hG hB dep => gs_field (want_none rfl) _ _ _ rfl g2 (0) (256) (hG.other 2 rfl) (fun wz => field_dfa_1 g2 (0) wz) rfl) ?_
            refine Steps.cons (fun a' w' hG hB dep => gs_load1 (want_none rfl) _ _ rfl g2 (256) (dep 0 rfl 93 rfl) (.slice (some ⟨bX, oX, none⟩) n x.c) (by have h9 := blk_d1 (blk_then h2 hB); rw [hXA.out] at h9; exact h9) _ Tryd.underlying31 rfl rfl) ?_
            refine Steps.cons (fun a' w' hG hB dep => gs_move (want_none rfl) _ rfl (id (hG.other 5 rfl))) ?_
            refine Steps.cons (fun a' w' hG hB dep => gs_index (want_none rfl) _ _ _ rfl under_rows 1 size_rowE bX oX n x.c (i) (dep 1 rfl 94 rfl) (dep 2 rfl 95 rfl) hil rfl) ?_
            refine Steps.cons (fun a' w' hG hB dep => gs_load1 (want_none rfl) _ _ rfl bX (oX + i * 1) (dep 3 rfl 96 rfl) (.slice (some ⟨bp, op, none⟩) l.length p.c) (cP2 _ hB) _ Tryd.underlying67 rfl rfl) ?_
            refine Steps.cons (fun a' w' hG hB dep => gs_move (want_none rfl) _ rfl (id (hG.other 6 rfl))) ?_
            refine Steps.cons (fun a' w' hG hB dep => gs_index (want_none rfl) _ _ _ rfl under_ints 1 size_intE bp op l.length p.c (k) (dep 4 rfl 97 rfl) (dep 5 rfl 98 rfl) hkl rfl) ?_
            refine Steps.cons (fun a' w' hG hB dep => gs_load1 (want_none rfl) _ _ rfl bp (op + k * 1) (dep 6 rfl 99 rfl) (.int .i64 (z)) (cz1 _ hB) _ Tryd.underlying3 rfl rfl) ?_
            refine Steps.cons (fun a' w' hG hB dep => gs_field (want_none rfl) _ _ _ rfl g3 (0) (256) (hG.other 3 rfl) (fun wz => field_dfa_1 g3 (0) wz) rfl) ?_
            refine Steps.cons (fun a' w' hG hB dep => gs_load1 (want_none rfl) _ _ rfl g3 (256) (dep 8 rfl 101 rfl) (.slice (some ⟨bY, oY, none⟩) n y.c) (by have h9 := blk_d1 (blk_then h3 hB); rw [hYA.out] at h9; exact h9) _ Tryd.underlying31 rfl rfl) ?_
            refine Steps.cons (fun a' w' hG hB dep => gs_move (want_none rfl) _ rfl (id (hG.other 5 rfl))) ?_
            refine Steps.cons (fun a' w' hG hB dep => gs_index (want_none rfl) _ _ _ rfl under_rows 1 size_rowE bY oY n y.c (i) (dep 9 rfl 102 rfl) (dep 10 rfl 103 rfl) hil rfl) ?_
            refine Steps.cons (fun a' w' hG hB dep => gs_load1 (want_none rfl) _ _ rfl bY (oY + i * 1) (dep 11 rfl 104 rfl) (.slice (some ⟨bq, oq, none⟩) l.length q.c) (cQ2 _ hB) _ Tryd.underlying67 rfl rfl) ?_
            refine Steps.cons (fun a' w' hG hB dep => gs_move (want_none rfl) _ rfl (id (hG.other 6 rfl))) ?_
            refine Steps.cons (fun a' w' hG hB dep => gs_index (want_none rfl) _ _ _ rfl under_ints 1 size_intE bq oq l.length q.c (k) (dep 12 rfl 105 rfl) (dep 13 rfl 106 rfl) hkl rfl) ?_
            refine Steps.cons (fun a' w' hG hB dep => gs_load1 (want_none rfl) _ _ rfl bq (oq + k * 1) (dep 14 rfl 107 rfl) (.int .i64 (z)) (cz2 _ hB) _ Tryd.underlying3 rfl rfl) ?_
            refine Steps.cons (fun a' w' hG hB dep => gs_neq_int (want_none rfl) _ _ _ _ rfl _ _ _ (dep 7 rfl 100 rfl) (dep 15 rfl 108 rfl) (id (congrArg Value.bool (bne_self_eq_false _)))) ?_
            exact Steps.nil
          intro u w4 hw4 ans
          have hus109 : u 109 = (.bool false) := ans 16 109 (by decide) rfl
          clear ans
          simp only [putAll, List.foldl_cons, List.foldl_nil, Act.put, List.setIfInBounds_toArray, List.set_cons_zero, List.set_cons_succ, hus109]
          clear hus109
          simp only [List.drop]
          refine wpList_nil ?_
          replace h2 := blk_then h2 hw4
          replace h3 := blk_then h3 hw4
          replace hBk := below_then hBk hw4
          clear hw4 cz1 cz2 cP2 cQ2
          go_wp2_with (fail)
          exact ⟨⟨k + 1, by omega, rfl, hBk, h2, h3⟩, by simp only [intOf]; omega⟩
        · have hkI : ¬ (k : Int) < l.length := by omega
          go_wp2_with (fail)
          exact ⟨⟨i + 1, by omega, rfl, below_then hB13 hBk, h2, h3⟩, by simp only [intOf]; omega⟩
    · have hiI : ¬ (i : Int) < n := by omega
      go_wp2_with (fail)
      go_ret
      exact ⟨rfl, hB1⟩
theorem enter_alike10 (args : Array Value) (w : World) : (callFunc 28 args).run Tryd.prog w = .ok (.enter 28 args) w := by kernel_rfl
end Go.Proofs.YtkedgombccdamaaDoor
namespace Go.Proofs.YtkedgombccdamaaDoor
set_option linter.unusedVariables false
set_option linter.unusedSimpArgs false
theorem and_or_self (a b : Nat) : a &&& (a ||| b) = a := by
  apply Nat.eq_of_testBit_eq
  intro i
  rw [Nat.testBit_and, Nat.testBit_or]
  cases a.testBit i <;> simp
theorem moN_fe (E : List Edg) (N : Nat) (R : List Nat) (x met : Nat) (b : Bool) : (moN E N R x met b).met &&& (moN E N R x met b).end_ = (moN E N R x met b).met := and_or_self _ _
theorem step_met (E : List Edg) (N : Nat) (R : List Nat) (q : Mo) (b : Nat) : q.met &&& (stepM E N R q b).met = q.met := and_or_self _ _
theorem many_pos (l : List BSet) : 1 ≤ many l := by
  have h1 := cls_lt l (b := 0) (by omega)
  have h2 := cls_ge l 0
  omega
theorem nx_at {α : Type} {step : α → Nat → α} [DecidableEq α] {bs : List Nat} {Q : List α} {L : List α} {s : Nat} (h : s < L.length) : ((L.map (entsQ step bs Q)).map fun l => l.map fun (n : Nat) => (n : Int)).getD s [] = (entsQ step bs Q L[s]).map fun (n : Nat) => (n : Int) := by
  simp [List.getD_eq_getElem?_getD, h]
theorem nxtQ_at {α : Type} {step : α → Nat → α} [DecidableEq α] {bs : List Nat} {Q : List α} {L : List α} {s c : Nat} {x : α} {b : Nat} (h : L[s]? = some x) (hc : bs[c]? = some b) : (((L.map (entsQ step bs Q)).map fun l => l.map fun (n : Nat) => (n : Int)).getD s []).getD c 0 = ((Q.idxOf (step x b) : Nat) : Int) := by
  obtain ⟨h1, h2⟩ := List.getElem?_eq_some_iff.1 h
  rw [nx_at h1, h2, List.getD_eq_getElem?_getD, List.getElem?_map]
  unfold entsQ
  rw [List.getElem?_map, hc]
  rfl
section
variable {E : List Edg} {N : Nat} {R : List Nat} {i : Nat}
theorem tabQ_len (hD : Done (stepM E N R) (repE E) (mo0 E N R) i) : (tabQ E N R (clsE E) (repE E) i).nx.length = i := by
  unfold tabQ
  simp only [List.length_map]
  exact rows_len (Nat.le_of_eq (show (bfsN (stepM E N R) (repE E) (mo0 E N R) i).length = i from hD).symm)
theorem done_pos (hD : Done (stepM E N R) (repE E) (mo0 E N R) i) : 1 ≤ i := by
  have h1 := bfs_len (step := stepM E N R) (bs := repE E) (mo0 E N R) (Nat.zero_le i)
  have h2 : (bfsN (stepM E N R) (repE E) (mo0 E N R) 0).length = 1 := rfl
  have h3 : (bfsN (stepM E N R) (repE E) (mo0 E N R) i).length = i := hD
  omega
theorem repE_many (E : List Edg) : (repE E).length = many (setsL E) := by
  unfold repE
  rw [repL_length]
theorem fits_Q (hi : i ≤ 4096) (hD : Done (stepM E N R) (repE E) (mo0 E N R) i) : s_Fits (tabQ E N R (clsE E) (repE E) i) := by
  have hpos := done_pos hD
  have hlen : (bfsN (stepM E N R) (repE E) (mo0 E N R) i).length = i := hD
  have hnl := tabQ_len hD
  have hnx : (tabQ E N R (clsE E) (repE E) i).nx = ((bfsN (stepM E N R) (repE E) (mo0 E N R) i).map (entsQ (stepM E N R) (repE E) (bfsN (stepM E N R) (repE E) (mo0 E N R) i))).map fun l => l.map fun (n : Nat) => (n : Int) := by
    unfold tabQ
    rw [rows_done hD]
  have hrow : ∀ s, s < i → ((tabQ E N R (clsE E) (repE E) i).nx.getD s []).length = many (setsL E) := fun s hs => by
    rw [hnx, nx_at (by rw [hlen]; exact hs), List.length_map]
    unfold entsQ
    rw [List.length_map, repE_many]
  have hmany : (tabQ E N R (clsE E) (repE E) i).many = many (setsL E) := hrow 0 (by omega)
  have hfo : ∀ s (hs : s < i), (tabQ E N R (clsE E) (repE E) i).fo.getD s 0 = ((bfsN (stepM E N R) (repE E) (mo0 E N R) i)[s]'(by rw [hlen]; exact hs)).met := fun s hs => by
    show ((bfsN (stepM E N R) (repE E) (mo0 E N R) i).map Mo.met).getD s 0 = _
    simp [List.getD_eq_getElem?_getD, hlen, hs]
  have hen : ∀ s (hs : s < i), (tabQ E N R (clsE E) (repE E) i).en.getD s 0 = ((bfsN (stepM E N R) (repE E) (mo0 E N R) i)[s]'(by rw [hlen]; exact hs)).end_ := fun s hs => by
    show ((bfsN (stepM E N R) (repE E) (mo0 E N R) i).map Mo.end_).getD s 0 = _
    simp [List.getD_eq_getElem?_getD, hlen, hs]
  refine ⟨by omega, by omega, ?_, ?_, ?_, ?_, fun b hb => ?_, fun s hs => ?_, fun s hs => ?_, fun s c hs hc => ?_⟩
  · rw [hnl]
    show ((bfsN (stepM E N R) (repE E) (mo0 E N R) i).map Mo.met).length = i
    rw [List.length_map, hlen]
  · rw [hnl]
    show ((bfsN (stepM E N R) (repE E) (mo0 E N R) i).map Mo.end_).length = i
    rw [List.length_map, hlen]
  · rw [hmany]; exact many_pos _
  · rw [hmany]; exact many_le _
  · rw [hmany]; exact ⟨cls_ge _ _, cls_lt _ hb⟩
  · rw [hmany]; exact hrow s (by omega)
  · rw [hnl] at hs
    rw [hfo s hs, hen s hs]
    have := bfs_all (p := fun q : Mo => q.met &&& q.end_ = q.met) (step := stepM E N R) (bs := repE E) (a0 := mo0 E N R) (moN_fe _ _ _ _ _ _) (fun q b _ _ => moN_fe _ _ _ _ _ _) i
    exact this _ (List.getElem_mem _)
  · rw [hnl] at hs
    rw [hmany] at hc
    have hsl2 : s < (bfsN (stepM E N R) (repE E) (mo0 E N R) i).length := Nat.lt_of_lt_of_eq hs hlen.symm
    have hcl : c < (repE E).length := Nat.lt_of_lt_of_eq hc (repE_many E).symm
    obtain ⟨x, hx⟩ : ∃ x, (bfsN (stepM E N R) (repE E) (mo0 E N R) i)[s]? = some x := ⟨_, List.getElem?_eq_getElem hsl2⟩
    obtain ⟨b, hb⟩ : ∃ b, (repE E)[c]? = some b := ⟨_, List.getElem?_eq_getElem hcl⟩
    have hnx2 : (tabQ E N R (clsE E) (repE E) i).nxt s ((c : Nat) : Int) = (((bfsN (stepM E N R) (repE E) (mo0 E N R) i).idxOf (stepM E N R x b) : Nat) : Int) := by
      unfold Tb.nxt
      rw [hnx, Int.toNat_natCast]
      exact nxtQ_at hx hb
    have hin : stepM E N R x b ∈ bfsN (stepM E N R) (repE E) (mo0 E N R) i :=
      bfs_closed (mo0 E N R) i _ (by
        rw [List.take_of_length_le (Nat.le_of_eq hlen)]
        exact List.mem_of_getElem? hx) _ (List.mem_of_getElem? hb)
    have hlt := List.idxOf_lt_length_of_mem hin
    rw [hlen] at hlt
    have hxs : (bfsN (stepM E N R) (repE E) (mo0 E N R) i)[s]'hsl2 = x := (List.getElem?_eq_some_iff.1 hx).2
    rw [hnx2, hnl]
    refine ⟨by omega, by omega, ?_⟩
    rw [Int.toNat_natCast, hfo s hs, hfo _ hlt, hxs, List.getElem_idxOf]
    exact step_met _ _ _ _ _
theorem fitsB_Q (hi : i ≤ 4096) (hD : Done (stepM E N R) (repE E) (mo0 E N R) i) : fitsB (tabQ E N R (clsE E) (repE E) i) = true := by
  unfold fitsB
  exact @decide_eq_true _ (Classical.propDecidable _) (fits_Q hi hD)
end
section
variable {α : Type} [DecidableEq α] {step : α → Nat → α} {bs : List Nat}
theorem addQ_new_at {Q : List α} {x y : α} {t : Nat} (h : (addQ Q x)[t]? = some y) (ht : Q.length ≤ t) : y = x := by
  unfold addQ at h
  split at h
  · rw [List.getElem?_eq_none ht] at h; cases h
  · rw [List.getElem?_append_right ht] at h
    rcases hk : t - Q.length with _ | k
    · rw [hk] at h; simpa using h.symm
    · rw [hk] at h; simp at h
theorem rowQ_new_at (q : α) : ∀ (bs : List Nat) (Q : List α) {y : α} {t : Nat}, (rowQ step q bs Q)[t]? = some y → Q.length ≤ t → ∃ b ∈ bs, y = step q b
  | [], Q, y, t, h, ht => by
    rw [show rowQ step q [] Q = Q from rfl, List.getElem?_eq_none ht] at h; cases h
  | b :: bs, Q, y, t, h, ht => by
    have e : rowQ step q (b :: bs) Q = rowQ step q bs (addQ Q (step q b)) := rfl
    rw [e] at h
    rcases Nat.lt_or_ge t (addQ Q (step q b)).length with h1 | h1
    · obtain ⟨r, hr⟩ := rowQ_prefix (step := step) q bs (addQ Q (step q b))
      rw [hr, List.getElem?_append_left h1] at h
      exact ⟨b, by simp, addQ_new_at h ht⟩
    · obtain ⟨c, hc, hy⟩ := rowQ_new_at q bs _ h h1
      exact ⟨c, by simp [hc], hy⟩
theorem addQ_nodup {Q : List α} {x : α} (h : Q.Nodup) : (addQ Q x).Nodup := by
  unfold addQ
  split
  · exact h
  · rename_i hx
    rw [List.nodup_append]
    refine ⟨h, by simp, fun a ha b hb => ?_⟩
    rw [List.mem_singleton] at hb
    subst hb
    exact fun e => hx (e ▸ ha)
theorem rowQ_nodup (q : α) : ∀ (bs : List Nat) (Q : List α), Q.Nodup → (rowQ step q bs Q).Nodup
  | [], Q, h => h
  | b :: bs, Q, h => rowQ_nodup q bs (addQ Q (step q b)) (addQ_nodup h)
theorem bfs_nodup (a0 : α) : ∀ i, (bfsN step bs a0 i).Nodup
  | 0 => by show [a0].Nodup; simp
  | i + 1 => by
    by_cases h : i < (bfsN step bs a0 i).length
    · rw [bfs_succ h]; exact rowQ_nodup _ _ _ (bfs_nodup a0 i)
    · rw [bfs_stay (by omega)]; exact bfs_nodup a0 i
theorem bfs_nodup_idx {a0 : α} (i : Nat) {t : Nat} (ht : t < (bfsN step bs a0 i).length) : (bfsN step bs a0 i).idxOf (bfsN step bs a0 i)[t] = t := by
  refine seek_here (fun j hj e => ?_) (List.getElem?_eq_getElem ht)
  have h := List.pairwise_iff_getElem.1 (bfs_nodup (step := step) (bs := bs) a0 i) j t (by omega) ht hj
  rw [List.getElem?_eq_getElem (by omega)] at e
  injection e with e
  exact h e
theorem bfs_from (a0 : α) : ∀ (i : Nat) {t : Nat} {y : α}, (bfsN step bs a0 i)[t]? = some y → 1 ≤ t → ∃ (s : Nat) (x : α), s < t ∧ (bfsN step bs a0 i)[s]? = some x ∧ ∃ b ∈ bs, y = step x b
  | 0, t, y, h, ht => by
    have e : bfsN step bs a0 0 = [a0] := rfl
    rw [e, List.getElem?_eq_none (by simpa using ht)] at h; cases h
  | i + 1, t, y, h, ht => by
    by_cases hil : i < (bfsN step bs a0 i).length
    · have hs := bfs_succ (step := step) (bs := bs) hil
      rcases Nat.lt_or_ge t (bfsN step bs a0 i).length with h1 | h1
      · obtain ⟨r, hr⟩ := bfs_prefix1 (step := step) (bs := bs) a0 i
        rw [hr, List.getElem?_append_left h1] at h
        obtain ⟨s, x, h2, h3, h4⟩ := bfs_from a0 i h ht
        exact ⟨s, x, h2, by rw [hr, List.getElem?_append_left (by omega)]; exact h3, h4⟩
      · rw [hs] at h
        obtain ⟨b, hb, hy⟩ := rowQ_new_at _ _ _ h h1
        obtain ⟨r, hr⟩ := bfs_prefix1 (step := step) (bs := bs) a0 i
        exact ⟨i, _, by omega, by rw [hr, List.getElem?_append_left hil, List.getElem?_eq_getElem hil], b, hb, hy⟩
    · rw [bfs_stay (by omega)] at h
      obtain ⟨s, x, h2, h3, h4⟩ := bfs_from a0 i h ht
      exact ⟨s, x, h2, by rw [bfs_stay (by omega)]; exact h3, h4⟩
end
theorem tabQ_from {E : List Edg} {N : Nat} {R : List Nat} {i t : Nat} (hD : Done (stepM E N R) (repE E) (mo0 E N R) i) (ht : 1 ≤ t) (hti : t < i) : ∃ s, s < t ∧ ((t : Nat) : Int) ∈ (tabQ E N R (clsE E) (repE E) i).nx.getD s [] := by
  have hlen : (bfsN (stepM E N R) (repE E) (mo0 E N R) i).length = i := hD
  have htl : t < (bfsN (stepM E N R) (repE E) (mo0 E N R) i).length := by omega
  obtain ⟨s, x, hs, hx, b, hb, hy⟩ := bfs_from (step := stepM E N R) (bs := repE E) (mo0 E N R) i (List.getElem?_eq_getElem htl) ht
  refine ⟨s, hs, ?_⟩
  have hsl : s < (bfsN (stepM E N R) (repE E) (mo0 E N R) i).length := by omega
  unfold tabQ
  simp only
  rw [rows_done hD, nx_at hsl, List.mem_map]
  rw [List.getElem?_eq_getElem hsl] at hx
  injection hx with hx
  refine ⟨t, ?_, rfl⟩
  unfold entsQ
  rw [List.mem_map]
  refine ⟨b, hb, ?_⟩
  rw [hx, ← hy]
  exact bfs_nodup_idx i htl
end Go.Proofs.YtkedgombccdamaaDoor
namespace Go.Proofs.YtkedgombccdamaaDoor
open Go.RowKit Go.Shelf Go.Maps
set_option linter.unusedVariables false
set_option linter.unusedSimpArgs false
attribute [local go_sem] Oper.semAt_some
structure QIn (W : World) (base g off n cap : Nat) (ys : List Int) : Prop where
  nlen : n = ys.length
  ncap : n ≤ cap
  nmax : cap ≤ maxLen
  low : base ≤ g
  blk : ∃ cur, Blk W g 3 cur ∧ off + cap ≤ cur.size ∧ ∀ i (h : i < ys.length), cur[off + i]? = some (.int .i64 ys[i])
section
variable {W W' : World} {base g off n cap : Nat} {ys : List Int}
theorem QIn.then_ (h : QIn W base g off n cap ys) (hb : Below W.heap.size W W') : QIn W' base g off n cap ys := by
  obtain ⟨cur, h1, h2, h3⟩ := h.blk
  exact ⟨h.nlen, h.ncap, h.nmax, h.low, cur, blk_then h1 hb, h2, h3⟩
theorem QIn.far {row : Option Nat} (h : QIn W base g off n cap ys) (hg : W.grownBy W' row) (hne : some g ≠ row) : QIn W' base g off n cap ys := by
  obtain ⟨cur, h1, h2, h3⟩ := h.blk
  exact ⟨h.nlen, h.ncap, h.nmax, h.low, cur, h1.grown hg hne, h2, h3⟩
theorem QIn.front (h : QIn W base g off n cap ys) {z : Int} {r : List Int} (he : ys = z :: r) : W.cell? ⟨g, off, none⟩ = some (.int .i64 z) := by
  obtain ⟨cur, h1, h2, h3⟩ := h.blk
  subst he
  have := h3 0 (by simp)
  rw [Nat.add_zero] at this
  exact h1.cellv this
theorem QIn.tail (h : QIn W base g off n cap ys) {z : Int} {r : List Int} (he : ys = z :: r) : QIn W base g (if cap = 1 then off else off + 1) (n - 1) (cap - 1) r := by
  obtain ⟨cur, h1, h2, h3⟩ := h.blk
  have hl := h.nlen
  have hc := h.ncap
  have hm := h.nmax
  subst he
  rw [List.length_cons] at hl
  refine ⟨by omega, by omega, by omega, h.low, cur, h1, ?_, fun i hi => ?_⟩
  · split <;> omega
  · have hi2 := h3 (i + 1) (by rw [List.length_cons]; omega)
    rw [if_neg (by omega), show off + 1 + i = off + (i + 1) by omega]
    exact hi2
end
theorem under_intsQ : Tryd.prog.underlying 67 = some (.slice (Tryd.prog.elem 67)) := by kernel_rfl
theorem size_intQ (w : World) : (sizeOf (Tryd.prog.elem 67)).run Tryd.prog w = .ok 1 w := by kernel_rfl
theorem info_intQ : (Tryd.prog.info? 3).map (fun i => (i.zero, i.size, i.bytes)) = some (some (.int .i64 0), 1, 8) := by kernel_rfl
section
variable {ops : Array Oper} {rest : List Oper} {o : Oper} {a : Act} {w : World} {Q : Exit → Act → World → Prop}
theorem wl_tail1 (hgd : o.guard = none) (s : Operand) (ho : o.op = .slice 67 s (some (.const (.int .i64 1))) none none) (g off n cap : Nat) (hs : a.eval s = .slice (some ⟨g, off, none⟩) n cap) (hn : 1 ≤ n) (hc : n ≤ cap)
    (h : wpList Tryd.prog ops Q rest (a.put o.dst (.slice (some ⟨g, if cap = 1 then off else off + 1, none⟩) (n - 1) (cap - 1))) w) : wpList Tryd.prog ops Q (o :: rest) a w :=
  wl_run hgd (v := .slice (some ⟨g, if cap = 1 then off else off + 1, none⟩) (n - 1) (cap - 1)) (by
    have e := run_slice_l (P := Tryd.prog) (w := w) 67 (some ⟨g, off, none⟩) n cap under_intsQ .i64 1 (by omega) (by omega)
    rw [size_intQ] at e
    have hcst : ∀ v : Value, a.eval (.const v) = v := fun _ => rfl
    unfold execOp
    simp only [ho, hs, hcst, Option.map_some, Option.map_none, Sem.run_bind, run_sliceAt_slice _ _ _ _ _ _ under_intsQ, e, Result.andThen_ok, Sem.run_pure, sliced]
    have ht1 : (1 : Int).toNat = 1 := by decide
    rw [ht1]
    by_cases h1 : cap = 1
    · simp only [if_pos h1]
    · simp only [if_neg h1, Option.map_some, Addr.add_lit]) h
theorem wl_pushQ (hgd : o.guard = none) (s x : Operand) (ho : o.op = .call { callee := .builtin .append, args := #[s, x], argTypes := #[67, 67] })
    (base g off n cap gx : Nat) (ys : List Int) (z : Int) (hs : a.eval s = .slice (some ⟨g, off, none⟩) n cap) (hx : a.eval x = .slice (some ⟨gx, 0, none⟩) 1 1) (hb1 : Blk w gx 3 (encZ z)) (hq : QIn w base g off n cap ys) (hn : n ≤ 1099511627) (hbase : base ≤ w.heap.size)
    (h : ∀ g' off' c' w', QIn w' base g' off' (n + 1) c' (ys ++ [z]) → w.grownBy w' (some g) → (g' = g ∨ w.heap.size ≤ g') → wpList Tryd.prog ops Q rest (a.put o.dst (.slice (some ⟨g', off', none⟩) (n + 1) c')) w') : wpList Tryd.prog ops Q (o :: rest) a w := by
  obtain ⟨ii, hii, hz0, hz1, hz2⟩ := info_parts info_intQ
  obtain ⟨cur, h1, h2, h3⟩ := hq.blk
  have hnl := hq.nlen
  have hcap := hq.ncap
  refine wpList_append_arg w hgd s x 67 ho 3 ii _ 1 8 Tryd.underlying67 hii hz0 hz1 hz2 rfl (by decide) g off n cap (ys.map (Value.int .i64)) hs (by rw [List.length_map]; omega) (fun j u hj => ?_) ⟨gx, 0, none⟩ 1 1 [.int .i64 z] hx rfl (fun j u hj => ?_) (by simp [Value.oneCell']) (fun hr j hj => ?_) (by unfold maxLen; omega) (by omega) (fun hr => ?_) (fun hr v' w' ho' hg' => ?_)
  · rw [List.getElem?_map] at hj
    obtain ⟨y, hy, rfl⟩ := Option.map_eq_some_iff.1 hj
    obtain ⟨hl, rfl⟩ := List.getElem?_eq_some_iff.1 hy
    exact h1.cellv (h3 j hl)
  · rcases j with _ | j
    · simp at hj
      subst hj
      exact hb1.cellv rfl
    · simp at hj
  · have hj0 : j = 0 := by simpa using hj
    subst hj0
    have hlt : off + n * 1 + 0 < cur.size := by omega
    exact ⟨by rw [h1.cellv (i := off + n * 1 + 0) (Array.getElem?_eq_getElem hlt)]; rfl, h1.frozen _⟩
  · have hset : w.setCells g (off + n * 1) [.int .i64 z] = w.setCell ⟨g, off + n * 1, none⟩ (.int .i64 z) := rfl
    rw [hset]
    refine h g off cap _ ⟨by rw [List.length_append]; simp; omega, by omega, hq.nmax, hq.low, cur.setIfInBounds (off + n * 1) (.int .i64 z), h1.set_ _ _, by simpa using h2, fun i hi => ?_⟩ (only_setCell (only_refl _ _) (.inl rfl) _) (.inl rfl)
    rw [List.length_append, List.length_singleton] at hi
    by_cases e : i < ys.length
    · rw [Array.getElem?_setIfInBounds_ne (by omega), List.getElem_append_left e]
      exact h3 i e
    · have : i = ys.length := by omega
      subst this
      rw [show off + n * 1 = off + ys.length by omega, Array.getElem?_setIfInBounds_self_of_lt (by omega)]
      simp
  · have hg2 : w.grownBy w' (some g) := ⟨hg'.os, hg'.tape, hg'.output, hg'.size, fun i hi _ => hg'.block i hi (by simp)⟩
    rcases ho'.2 with ⟨_, h0⟩ | ⟨g', cap', cur', rfl, hge, hh, hnc, hcm, hcs, htake⟩
    · omega
    · refine h g' 0 cap' w' ⟨by rw [List.length_append]; simp; omega, hnc, hcm, Nat.le_trans hbase hge, cur', hh, by omega, fun i hi => ?_⟩ hg2 (.inr hge)
      rw [List.length_append, List.length_singleton] at hi
      have e1 : (ys ++ [z]).map (Value.int .i64) = cur'.toList.take ((n + 1) * 1) := by rw [htake]; simp
      have e2 : ((ys ++ [z]).map (Value.int .i64))[i]? = some (.int .i64 ((ys ++ [z])[i]'(by rw [List.length_append]; simpa using hi))) := by
        rw [List.getElem?_map, List.getElem?_eq_getElem (by rw [List.length_append]; simpa using hi)]
        rfl
      rw [e1, List.getElem?_take, if_pos (by omega)] at e2
      rw [Nat.zero_add]
      simpa using e2
end
end Go.Proofs.YtkedgombccdamaaDoor
namespace Go.Proofs.YtkedgombccdamaaDoor
open Go.RowKit Go.Shelf Go.Maps
set_option linter.unusedVariables false
set_option linter.unusedSimpArgs false
def DoneF (F : NF) (i : Nat) : Prop := Done (stepM F.E F.s.toNat F.R) (repE F.E) (mo0 F.E F.s.toNat F.R) i
noncomputable def TQ (F : NF) (i : Nat) : Tb := tabQ F.E F.s.toNat F.R (clsE F.E) (repE F.E) i
def KAlt (F : NF) (most : Int) (x : TV) (k : Int) : Prop :=
  (k = 0 ∧ ∃ i : Nat, DoneF F i ∧ (i : Int) ≤ min most 4096 ∧ x.T = TQ F i) ∨ (k = 100 ∧ (∀ i : Nat, DoneF F i → min most 4096 < (i : Int)) ∧ x = zeroT)
def KRes (F : NF) (most : Int) (e : Ending) (w' : World) : Prop := ∃ (x : TV) (k : Int), e = .returned (.tuple #[.agg x.C', .int .i64 k]) ∧ TabIn w' w'.heap.size x ∧ KAlt F most x k
theorem kb_any {x : MV} {w W : World} {base : Nat} (hx : MachOut w base x) (hB : Below w.heap.size w W) (most : Int) :
    Calls Tryd.prog 10 #[.agg x.C, .int .i64 most] W fun e w' => KRes x.F most e w' ∧ Below W.heap.size W w' := by
  obtain ⟨N, hf, hN1, hN2⟩ := hx.fit
  have hs := hf.1
  have hr : rightB x.F.s x.F.E x.F.R.length = true := fits_right7 hf
  have hm := hx.mo.then_ hB
  refine (dfa_any x.F.s x.A x.F.E.length x.c x.B x.F.R.length x.d x.F.E x.F.R most rfl hx.few rfl hx.lt (by omega) W (hm.1.slice_all edgC_size) (hm.2.slice_all encR_size)).mono ?_
  rintro e w' ⟨hD, hb⟩
  refine ⟨?_, hb⟩
  obtain ⟨y, k, he, hT, _, hA⟩ := dres_tab hx.lt hD
  refine ⟨y, k, he, hT, ?_⟩
  rcases hA with ⟨h1, _⟩ | ⟨_, h2, i, h3, h4, h5⟩ | ⟨_, h2, h3, h4⟩
  · rw [hr] at h1; cases h1
  · exact .inl ⟨h2, i, h3, h4, h5⟩
  · exact .inr ⟨h2, h3, h4⟩
theorem DoneF.one {F : NF} {i j : Nat} (h : DoneF F i) (k : DoneF F j) : i = j := Done.one h k
theorem kalt_low {F : NF} {a b : Int} {y : TV} {k : Int} (h : ∀ i : Nat, DoneF F i → min a 4096 < (i : Int)) (hb : b ≤ a) (hy : KAlt F b y k) : k = 100 := by
  rcases hy with ⟨_, i, h1, h2, _⟩ | ⟨h1, _⟩
  · have := h i h1
    omega
  · exact h1
theorem kalt_at {F : NF} {i : Nat} (hi : DoneF F i) (h4 : i ≤ 4096) {b : Int} {y : TV} {k : Int} (hy : KAlt F b y k) : (k = 0 ∧ (i : Int) ≤ b ∧ y.T = TQ F i) ∨ (k = 100 ∧ ¬ (i : Int) ≤ b ∧ y = zeroT) := by
  rcases hy with ⟨h0, j, h1, h2, h3⟩ | ⟨h0, h1, h2⟩
  · have := hi.one h1
    subst this
    exact .inl ⟨h0, by omega, h3⟩
  · have := h1 i hi
    exact .inr ⟨h0, by omega, h2⟩
theorem nx_len {x : TV} {F : NF} {i : Nat} (hi : DoneF F i) (hx : x.T = TQ F i) : x.rs.length = i := by
  have h1 : (TQ F i).nx.length = i := tabQ_len hi
  rw [← hx] at h1
  simpa [TV.T] using h1
theorem fo_len {x : TV} {F : NF} {i : Nat} (hi : DoneF F i) (h4 : i ≤ 4096) (hx : x.T = TQ F i) : x.fo.length = x.rs.length ∧ x.en.length = x.rs.length := by
  have hF : s_Fits (TQ F i) := fits_Q h4 hi
  have h1 : (TQ F i).fo.length = (TQ F i).nx.length := hF.nf
  have h2 : (TQ F i).en.length = (TQ F i).nx.length := hF.ne
  rw [← hx] at h1 h2
  exact ⟨by simpa [TV.T] using h1, by simpa [TV.T] using h2⟩
theorem row_val {x : TV} {F : NF} {i : Nat} (hi : DoneF F i) (h4 : i ≤ 4096) (hx : x.T = TQ F i) {s : Nat} (hs : s < x.rs.length) : ∀ v ∈ x.rs[s].l, ∃ t : Nat, v = (t : Int) ∧ t < i := by
  intro v hv
  have hF : s_Fits (TQ F i) := fits_Q h4 hi
  have hn := nx_len hi hx
  have hl : (TQ F i).nx.length = i := tabQ_len hi
  have hg : (TQ F i).nx.getD s [] = x.rs[s].l := by
    rw [← hx]
    simp [TV.T, List.getD, hs]
  obtain ⟨c, hc, hv2⟩ := List.mem_iff_getElem.1 hv
  have hr := hF.row s (by rw [hl]; omega)
  have hgc : c < (TQ F i).many := by rw [← hr, hg]; exact hc
  have ht := hF.tr s c (by rw [hl]; omega) hgc
  have hnx : (TQ F i).nxt s (c : Nat) = v := by
    unfold Tb.nxt
    rw [hg, Int.toNat_natCast, List.getD_eq_getElem?_getD, List.getElem?_eq_getElem hc, hv2]
    rfl
  have h1 := ht.1
  have h2 := ht.2.1
  rw [hnx] at h1 h2
  rw [hl] at h2
  exact ⟨v.toNat, by omega, by omega⟩
theorem row_from {x : TV} {F : NF} {i : Nat} (hi : DoneF F i) (hx : x.T = TQ F i) {t : Nat} (h1 : 1 ≤ t) (ht : t < i) : ∃ (s : Nat) (hs : s < x.rs.length), s < t ∧ ((t : Nat) : Int) ∈ x.rs[s].l := by
  obtain ⟨s, hs, hm⟩ := tabQ_from hi h1 ht
  have hn := nx_len hi hx
  have hsl : s < x.rs.length := by omega
  refine ⟨s, hsl, hs, ?_⟩
  have hg : (TQ F i).nx.getD s [] = x.rs[s].l := by
    rw [← hx]
    simp [TV.T, List.getD, hsl]
  rw [← hg]
  exact hm
theorem all_seen {x : TV} {F : NF} {i : Nat} (hi : DoneF F i) (hx : x.T = TQ F i) {K : Nat → Prop} (h0 : K 0) (hK : ∀ (s : Nat) (hs : s < x.rs.length), K s → ∀ t : Nat, (t : Int) ∈ x.rs[s].l → K t) : ∀ t, t < i → K t := by
  intro t
  induction t using Nat.strongRecOn with
  | ind t ih =>
    intro ht
    rcases Nat.eq_zero_or_pos t with h | h
    · rw [h]; exact h0
    · obtain ⟨s, hs, hst, hm⟩ := row_from hi hx h ht
      exact hK s hs (ih s hst (by omega)) t hm
theorem run_bsZ1 (w : World) (z : Int) : (Instr.buildSlice 67 1 #[(0, .int .i64 z)]).run Tryd.prog w = .ok (.slice (some ⟨w.heap.size, 0, none⟩) 1 1) (w.alloc (.cells #[.int .i64 z] 3)) := by kernel_rfl
theorem run_bsZ6 (w : World) (a b c d e f : Int) : (Instr.buildSlice 67 6 #[(0, .int .i64 a), (1, .int .i64 b), (2, .int .i64 c), (3, .int .i64 d), (4, .int .i64 e), (5, .int .i64 f)]).run Tryd.prog w = .ok (.slice (some ⟨w.heap.size, 0, none⟩) 6 6) (w.alloc (.cells #[.int .i64 a, .int .i64 b, .int .i64 c, .int .i64 d, .int .i64 e, .int .i64 f] 3)) := by kernel_rfl
def six (a b c d e f : Int) : Nat → Int
  | 0 => a | 1 => b | 2 => c | 3 => d | 4 => e | _ => f
theorem arr_six (a b c d e f : Int) : #[Value.int .i64 a, .int .i64 b, .int .i64 c, .int .i64 d, .int .i64 e, .int .i64 f] = arr eZ 6 (six a b c d e f) := by
  unfold arr
  rfl
section
variable {ops : Array Oper} {rest : List Oper} {o : Oper} {a : Act} {w : World} {Q : Exit → Act → World → Prop}
theorem wl_bsZ1 (hgd : o.guard = none) (x : Operand) (ho : o.op = .buildSlice 67 1 #[(0, x)]) (z : Int) (hx : a.eval x = .int .i64 z)
    (h : wpList Tryd.prog ops Q rest (a.put o.dst (.slice (some ⟨w.heap.size, 0, none⟩) 1 1)) (w.alloc (.cells #[.int .i64 z] 3))) : wpList Tryd.prog ops Q (o :: rest) a w := by
  refine wpList_plain hgd fun _ hK => ?_
  unfold Oper.wp execOp
  simp only [ho, List.map_toArray, List.map_cons, List.map_nil, hx, Sem.run_bind, run_bsZ1, Result.andThen_ok, Sem.run_pure]
  exact hK _ _ h
theorem wl_bsZ6 (hgd : o.guard = none) (x1 x2 x3 x4 x5 x6 : Operand) (ho : o.op = .buildSlice 67 6 #[(0, x1), (1, x2), (2, x3), (3, x4), (4, x5), (5, x6)]) (z1 z2 z3 z4 z5 z6 : Int)
    (h1 : a.eval x1 = .int .i64 z1) (h2 : a.eval x2 = .int .i64 z2) (h3 : a.eval x3 = .int .i64 z3) (h4 : a.eval x4 = .int .i64 z4) (h5 : a.eval x5 = .int .i64 z5) (h6 : a.eval x6 = .int .i64 z6)
    (h : ∀ (K : Nat → Int) w', Blk w' w.heap.size 3 (arr eZ 6 K) → Below w.heap.size w w' → wpList Tryd.prog ops Q rest (a.put o.dst (.slice (some ⟨w.heap.size, 0, none⟩) 6 6)) w') : wpList Tryd.prog ops Q (o :: rest) a w := by
  refine wpList_plain hgd fun _ hK => ?_
  unfold Oper.wp execOp
  simp only [ho, List.map_toArray, List.map_cons, List.map_nil, h1, h2, h3, h4, h5, h6, Sem.run_bind, run_bsZ6, Result.andThen_ok, Sem.run_pure, arr_six]
  exact hK _ _ (h _ _ (Blk.new _ _ _) (below_alloc (Below.refl _ _) _))
end
theorem u64_nonneg (n : Int) : 0 ≤ IntKind.u64.wrap n := by
  simp only [IntKind.wrap]
  first | omega | (simp; omega) | (unfold IntKind.signed IntKind.bits; simp; omega) | (simp [IntKind.signed, IntKind.bits]; omega)
theorem rem_small (n : Int) (k : Int) (h0 : 0 < k) (h1 : k ≤ 5000) : 0 ≤ wrap64 ((IntKind.u64.wrap n).tmod k) ∧ wrap64 ((IntKind.u64.wrap n).tmod k) < k := by
  have h := u64_nonneg n
  obtain ⟨z, hz⟩ : ∃ z, z = IntKind.u64.wrap n := ⟨_, rfl⟩
  rw [← hz] at h ⊢
  rw [Int.tmod_eq_emod_of_nonneg h]
  have h2 := Int.emod_nonneg z (show k ≠ 0 by omega)
  have h3 := Int.emod_lt_of_pos z h0
  unfold wrap64
  omega
end Go.Proofs.YtkedgombccdamaaDoor
namespace Go.Proofs.YtkedgombccdamaaDoor
open Go.RowKit Go.Shelf Go.Maps
set_option linter.unusedVariables false
set_option linter.unusedSimpArgs false
structure Srch (x : TV) (n : Nat) (K : Nat → Bool) (ys : List Int) (s : Option Nat) : Prop where
  k0 : K 0 = true
  qs : ∀ y ∈ ys, ∃ t : Nat, y = (t : Int) ∧ t < n ∧ K t = true
  rows : ∀ (t : Nat) (ht : t < x.rs.length), K t = true → (t : Int) ∉ ys → s ≠ some t → ∀ u : Nat, (u : Int) ∈ x.rs[t].l → K u = true
  few : n - cntF K n + ys.length ≤ n
theorem upd_up (K : Nat → Bool) (u : Nat) {i : Nat} (h : K i = true) : upd K u true i = true := by
  unfold upd
  split
  · rfl
  · exact h
theorem Srch.start (x : TV) {n : Nat} (hn : 1 ≤ n) : Srch x n (upd (fun _ => false) 0 true) [0] none := by
  refine ⟨upd_self _ _ _, fun y hy => ⟨0, by simpa using hy, by omega, upd_self _ _ _⟩, fun t ht hk hm _ => ?_, ?_⟩
  · exfalso
    apply hm
    unfold upd at hk
    split at hk
    · rename_i e; subst e; simp
    · cases hk
  · have h1 := cntF_lt (p := fun _ => false) (q := upd (fun _ => false) 0 true) (n := n) (j := 0) (fun i _ h => by cases h) (by omega) rfl (upd_self _ _ _)
    have h2 := cntF_le (upd (fun _ => false) 0 true) n
    simp only [List.length_singleton]
    omega
theorem Srch.take {x : TV} {n : Nat} {K : Nat → Bool} {y : Int} {ys : List Int} (h : Srch x n K (y :: ys) none) : ∃ t : Nat, y = (t : Int) ∧ t < n ∧ K t = true ∧ Srch x n K ys (some t) := by
  obtain ⟨t, hy, htn, hk⟩ := h.qs y (by simp)
  refine ⟨t, hy, htn, hk, h.k0, fun z hz => h.qs z (by simp [hz]), fun t' ht' hk' hm hne => ?_, ?_⟩
  · refine h.rows t' ht' hk' (fun hc => ?_) (by simp)
    rcases List.mem_cons.1 hc with e | e
    · have e2 : t' = t := by omega
      exact hne (by rw [e2])
    · exact hm e
  · have := h.few
    rw [List.length_cons] at this
    omega
theorem Srch.mark {x : TV} {n : Nat} {K : Nat → Bool} {ys : List Int} {s : Option Nat} (h : Srch x n K ys s) {u : Nat} (hu : u < n) (h0 : K u = false) : Srch x n (upd K u true) (ys ++ [(u : Int)]) s ∧ cntF K n < cntF (upd K u true) n ∧ cntF (upd K u true) n ≤ n := by
  have h1 := cntF_lt (p := K) (q := upd K u true) (n := n) (j := u) (fun i _ h => upd_up K u h) hu h0 (upd_self _ _ _)
  have h2 := cntF_le (upd K u true) n
  refine ⟨⟨upd_up K u h.k0, fun y hy => ?_, fun t ht hk hm hne v hv => ?_, ?_⟩, h1, h2⟩
  · rcases List.mem_append.1 hy with e | e
    · obtain ⟨t, a, b, c⟩ := h.qs y e
      exact ⟨t, a, b, upd_up K u c⟩
    · exact ⟨u, by simpa using e, hu, upd_self _ _ _⟩
  · have htu : t ≠ u := fun e => hm (by subst e; simp)
    rw [upd_ne K true htu] at hk
    exact upd_up K u (h.rows t ht hk (fun e => hm (List.mem_append_left _ e)) hne v hv)
  · have := h.few
    rw [List.length_append, List.length_singleton]
    omega
theorem Srch.done {x : TV} {n : Nat} {K : Nat → Bool} {ys : List Int} {s : Nat} (h : Srch x n K ys (some s)) (hs : s < x.rs.length) (hr : ∀ u : Nat, (u : Int) ∈ x.rs[s].l → K u = true) : Srch x n K ys none := by
  refine ⟨h.k0, h.qs, fun t ht hk hm _ => ?_, h.few⟩
  by_cases e : s = t
  · subst e; exact hr
  · exact h.rows t ht hk hm (fun e2 => e (by injection e2))
theorem Srch.all {x : TV} {F : NF} {n : Nat} {K : Nat → Bool} (hi : DoneF F n) (hx : x.T = TQ F n) (h : Srch x n K [] none) : ∀ t, t < n → K t = true :=
  all_seen (K := fun t => K t = true) hi hx h.k0 fun s hs hk t ht => h.rows s hs hk (by simp) (by simp) t ht
theorem row_pos {x : TV} {F : NF} {i : Nat} (hi : DoneF F i) (h4 : i ≤ 4096) (hx : x.T = TQ F i) {s : Nat} (hs : s < x.rs.length) : 1 ≤ x.rs[s].l.length ∧ x.rs[s].l.length ≤ 256 := by
  have hF : s_Fits (TQ F i) := fits_Q h4 hi
  have hl : (TQ F i).nx.length = i := tabQ_len hi
  have hn := nx_len hi hx
  have hg : (TQ F i).nx.getD s [] = x.rs[s].l := by
    rw [← hx]
    simp [TV.T, List.getD, hs]
  have hr := hF.row s (by rw [hl]; omega)
  rw [hg] at hr
  rw [hr]
  exact ⟨hF.m1, hF.m2⟩
end Go.Proofs.YtkedgombccdamaaDoor
