/- The walk of octets.Class, name by name. -/
import Derived.Test.YtajainmldcnaeaaOctG
namespace Go.Proofs.Ytajainmldcnaeaa
open Go.RowKit
set_option linter.unusedVariables false
set_option linter.unusedSimpArgs false
theorem alnum_l : (⟨#[97, 108, 110, 117, 109]⟩ : ByteArray).toList = [97, 108, 110, 117, 109] := by rw [ByteArray.toList_eq]

def cls_alnum : BSet := (joinL [(joinL [(spanB 48 57), (spanB 65 90)]), (spanB 97 122)])
set_option maxRecDepth 100000 in
set_option maxHeartbeats 1000000 in
theorem class_alnum (s : ByteArray) (w : World) (hs : Hid (s.toList = [97, 108, 110, 117, 109])) : Calls Try.prog 105 #[.string s] w fun e w' => e = .returned (.tuple #[.agg (setC cls_alnum), .int .i64 0]) ∧ Below w.heap.size w w' := by
  have hb2 := (Blk.new w 24 (setC 0)).alloc (.cells (setC 0) 24)
  have hb4 := Blk.new' (w.alloc (.cells (setC 0) 24)) 24 (setC 0) (World.size_alloc _ _).symm
  have hB := below_alloc (below_alloc (Below.refl w.heap.size w) (.cells (setC 0) 24)) (.cells (setC 0) 24)
  unfold cls_alnum
  have q_alnum : (s.toList == [97, 108, 110, 117, 109]) = true := by rw [hs.out]; decide
  go_enter Try.func105, Try.ntmps105
  go_upto_region 15 with (fail)
  refine wp_region_text 1 [eqS (.agg (setC (spanB 48 57)))] [32] (by kernel_rfl) rfl ?_ ?_
  · refine Steps.cons (fun a' w' hG hB dep => gs_span (want_none rfl) _ _ _ rfl 48 57 rfl rfl (by decide) (by decide) (fun _ => rfl)) ?_
    exact Steps.nil
  intro u w3 hB3 ans
  have ux : u 32 = .agg (setC (spanB 48 57)) := ans 0 32 (by decide) rfl
  clear ans
  simp only [putAll, List.foldl_cons, List.foldl_nil, Act.put, List.setIfInBounds_toArray, List.set_cons_zero, List.set_cons_succ, ux]
  clear ux
  go_upto_region 16 with (refine wl_store_set rfl _ _ rfl _ _ rfl rfl _ (blk_then hb4 hB3) ?_; intro w4 hb4' hg4)
  replace hb2 := blk_grown (blk_then hb2 hB3) hg4 (by omega)
  replace hB := below_grown (below_then hB hB3) hg4 (by omega)
  replace hb4 := hb4'
  clear hb4' hg4 hB3
  obtain ⟨wv, hwv⟩ : ∃ x, x = w4 := ⟨_, rfl⟩
  rw [← hwv] at hb2 hb4 hB ⊢
  clear hwv w4
  go_upto_region 16 with (fail)
  refine wp_region_steps 4 [eqS (.agg (setC (spanB 48 57))), eqS (.agg (setC (spanB 65 90))), setsS [(spanB 48 57), (spanB 65 90)], eqS (.agg (setC (joinL [(spanB 48 57), (spanB 65 90)])))] [33, 34, 35, 36] follows_mixed (by kernel_rfl) rfl ?_ ?_
  · refine Steps.cons (fun a' w' hG hB dep => gs_load_set (want_none rfl) _ rfl _ (hG.other 4 rfl) _ (blk_then hb4 hB) rfl) ?_
    refine Steps.cons (fun a' w' hG hB dep => gs_span (want_none rfl) _ _ _ rfl 65 90 rfl rfl (by decide) (by decide) (fun _ => rfl)) ?_
    refine Steps.cons (fun a' w' hG hB dep => gs_sets2 (want_none rfl) _ _  rfl _ _ (dep 0 rfl 33 rfl) (dep 1 rfl 34 rfl) (fun _ _ h => h)) ?_
    refine Steps.cons (fun a' w' hG hB dep => gs_join (want_none rfl) _ _ rfl _ (dep 2 rfl 35 rfl) (Nat.le_of_ble_eq_true rfl) (fun _ => rfl)) ?_
    exact Steps.nil
  intro u w3 hB3 ans
  have ux : u 36 = .agg (setC (joinL [(spanB 48 57), (spanB 65 90)])) := ans 3 36 (by decide) rfl
  clear ans
  simp only [putAll, List.foldl_cons, List.foldl_nil, Act.put, List.setIfInBounds_toArray, List.set_cons_zero, List.set_cons_succ, ux]
  clear ux
  go_upto_region 17 with (refine wl_store_set rfl _ _ rfl _ _ rfl rfl _ (blk_then hb4 hB3) ?_; intro w4 hb4' hg4)
  replace hb2 := blk_grown (blk_then hb2 hB3) hg4 (by omega)
  replace hB := below_grown (below_then hB hB3) hg4 (by omega)
  replace hb4 := hb4'
  clear hb4' hg4 hB3
  obtain ⟨wv, hwv⟩ : ∃ x, x = w4 := ⟨_, rfl⟩
  rw [← hwv] at hb2 hb4 hB ⊢
  clear hwv w4
  go_upto_region 17 with (fail)
  refine wp_region_steps 4 [eqS (.agg (setC (joinL [(spanB 48 57), (spanB 65 90)]))), eqS (.agg (setC (spanB 97 122))), setsS [(joinL [(spanB 48 57), (spanB 65 90)]), (spanB 97 122)], eqS (.agg (setC (joinL [(joinL [(spanB 48 57), (spanB 65 90)]), (spanB 97 122)])))] [37, 38, 39, 40] follows_mixed (by kernel_rfl) rfl ?_ ?_
  · refine Steps.cons (fun a' w' hG hB dep => gs_load_set (want_none rfl) _ rfl _ (hG.other 4 rfl) _ (blk_then hb4 hB) rfl) ?_
    refine Steps.cons (fun a' w' hG hB dep => gs_span (want_none rfl) _ _ _ rfl 97 122 rfl rfl (by decide) (by decide) (fun _ => rfl)) ?_
    refine Steps.cons (fun a' w' hG hB dep => gs_sets2 (want_none rfl) _ _  rfl _ _ (dep 0 rfl 37 rfl) (dep 1 rfl 38 rfl) (fun _ _ h => h)) ?_
    refine Steps.cons (fun a' w' hG hB dep => gs_join (want_none rfl) _ _ rfl _ (dep 2 rfl 39 rfl) (Nat.le_of_ble_eq_true rfl) (fun _ => rfl)) ?_
    exact Steps.nil
  intro u w3 hB3 ans
  have ux : u 40 = .agg (setC (joinL [(joinL [(spanB 48 57), (spanB 65 90)]), (spanB 97 122)])) := ans 3 40 (by decide) rfl
  clear ans
  simp only [putAll, List.foldl_cons, List.foldl_nil, Act.put, List.setIfInBounds_toArray, List.set_cons_zero, List.set_cons_succ, ux]
  clear ux
  go_upto_region 29 with (refine wl_store_set rfl _ _ rfl _ _ rfl rfl _ (blk_then hb4 hB3) ?_; intro w4 hb4' hg4)
  replace hb2 := blk_grown (blk_then hb2 hB3) hg4 (by omega)
  replace hB := below_grown (below_then hB hB3) hg4 (by omega)
  replace hb4 := hb4'
  clear hb4' hg4 hB3
  obtain ⟨wv, hwv⟩ : ∃ x, x = w4 := ⟨_, rfl⟩
  rw [← hwv] at hb2 hb4 hB ⊢
  clear hwv w4
  go_wp2_with (first | (refine wl_load_set rfl _ rfl _ rfl _ hb4 ?_) | (refine wl_store_set rfl _ _ rfl _ _ rfl rfl _ hb2 ?_; intro w9 hb9 hg9))
  exact ret_set2 rfl rfl hb9 rfl ⟨rfl, below_grown hB hg9 (Nat.le_refl _)⟩

def cls_punct : BSet := ((spanB 33 126) &&& (notB (cls_alnum)))
set_option maxRecDepth 100000 in
set_option maxHeartbeats 1000000 in
theorem class_punct (s : ByteArray) (w : World) (hs : Hid (s.toList = [112, 117, 110, 99, 116])) : Calls Try.prog 105 #[.string s] w fun e w' => e = .returned (.tuple #[.agg (setC cls_punct), .int .i64 0]) ∧ Below w.heap.size w w' := by
  have hb2 := (Blk.new w 24 (setC 0)).alloc (.cells (setC 0) 24)
  have hb4 := Blk.new' (w.alloc (.cells (setC 0) 24)) 24 (setC 0) (World.size_alloc _ _).symm
  have hB := below_alloc (below_alloc (Below.refl w.heap.size w) (.cells (setC 0) 24)) (.cells (setC 0) 24)
  unfold cls_punct
  have q_alnum : (s.toList == [97, 108, 110, 117, 109]) = false := by rw [hs.out]; decide
  have q_alpha : (s.toList == [97, 108, 112, 104, 97]) = false := by rw [hs.out]; decide
  have q_lower : (s.toList == [108, 111, 119, 101, 114]) = false := by rw [hs.out]; decide
  have q_upper : (s.toList == [117, 112, 112, 101, 114]) = false := by rw [hs.out]; decide
  have q_xdigit : (s.toList == [120, 100, 105, 103, 105, 116]) = false := by rw [hs.out]; decide
  have q_digit : (s.toList == [100, 105, 103, 105, 116]) = false := by rw [hs.out]; decide
  have q_space : (s.toList == [115, 112, 97, 99, 101]) = false := by rw [hs.out]; decide
  have q_blank : (s.toList == [98, 108, 97, 110, 107]) = false := by rw [hs.out]; decide
  have q_cntrl : (s.toList == [99, 110, 116, 114, 108]) = false := by rw [hs.out]; decide
  have q_print : (s.toList == [112, 114, 105, 110, 116]) = false := by rw [hs.out]; decide
  have q_graph : (s.toList == [103, 114, 97, 112, 104]) = false := by rw [hs.out]; decide
  have q_punct : (s.toList == [112, 117, 110, 99, 116]) = true := by rw [hs.out]; decide
  go_enter Try.func105, Try.ntmps105
  go_upto_region 27 with (first | (go_at_call 105; refine (class_alnum ⟨#[97, 108, 110, 117, 109]⟩ _ (Lib.hid alnum_l)).mono ?_; rintro e w8 ⟨rfl, hB8⟩) | (refine wl_store_set rfl _ _ rfl _ _ rfl rfl 0 (Blk.new _ _ _) ?_; intro w9 hb5 hg9))
  have hK := below_then hB8 (below_grown (below_alloc (Below.refl w8.heap.size w8) (.cells (setC 0) 24)) hg9 (Nat.le_refl _))
  replace hb4 := blk_then hb4 hK
  replace hb2 := blk_then hb2 hK
  replace hB := below_then hB hK
  clear hK hB8 hg9
  go_upto_region 27 with (fail)
  refine wp_region_steps 4 [eqS (.agg (setC (spanB 33 126))), eqS (.agg (setC (cls_alnum))), eqS (.agg (setC (notB (cls_alnum)))), eqS (.agg (setC ((spanB 33 126) &&& (notB (cls_alnum)))))] [71, 72, 73, 74] follows_mixed (by kernel_rfl) rfl ?_ ?_
  · refine Steps.cons (fun a' w' hG hB dep => gs_span (want_none rfl) _ _ _ rfl 33 126 rfl rfl (by decide) (by decide) (fun _ => rfl)) ?_
    refine Steps.cons (fun a' w' hG hB dep => gs_load_set (want_none rfl) _ rfl _ (hG.other 5 rfl) _ (blk_then hb5 hB) rfl) ?_
    refine Steps.cons (fun a' w' hG hB dep => gs_not (want_none rfl) _ _ rfl _ (dep 1 rfl 72 rfl) (fun _ => rfl)) ?_
    refine Steps.cons (fun a' w' hG hB dep => gs_meet (want_none rfl) _ _ _ rfl _ _ (dep 0 rfl 71 rfl) (dep 2 rfl 73 rfl) (fun _ => rfl)) ?_
    exact Steps.nil
  intro u w3 hB3 ans
  have ux : u 74 = .agg (setC ((spanB 33 126) &&& (notB (cls_alnum)))) := ans 3 74 (by decide) rfl
  clear ans
  simp only [putAll, List.foldl_cons, List.foldl_nil, Act.put, List.setIfInBounds_toArray, List.set_cons_zero, List.set_cons_succ, ux]
  clear ux
  go_upto_region 29 with (refine wl_store_set rfl _ _ rfl _ _ rfl rfl _ (blk_then hb4 hB3) ?_; intro w4 hb4' hg4)
  replace hb2 := blk_grown (blk_then hb2 hB3) hg4 (by omega)
  replace hB := below_grown (below_then hB hB3) hg4 (by omega)
  replace hb4 := hb4'
  clear hb4' hg4 hB3
  obtain ⟨wv, hwv⟩ : ∃ x, x = w4 := ⟨_, rfl⟩
  rw [← hwv] at hb2 hb4 hB ⊢
  clear hwv w4
  go_wp2_with (first | (refine wl_load_set rfl _ rfl _ rfl _ hb4 ?_) | (refine wl_store_set rfl _ _ rfl _ _ rfl rfl _ hb2 ?_; intro w9 hb9 hg9))
  exact ret_set2 rfl rfl hb9 rfl ⟨rfl, below_grown hB hg9 (Nat.le_refl _)⟩

def cls_graph : BSet := (joinL [0, (spanB 33 126)])
set_option maxRecDepth 100000 in
set_option maxHeartbeats 1000000 in
theorem class_graph (s : ByteArray) (w : World) (hs : Hid (s.toList = [103, 114, 97, 112, 104])) : Calls Try.prog 105 #[.string s] w fun e w' => e = .returned (.tuple #[.agg (setC cls_graph), .int .i64 0]) ∧ Below w.heap.size w w' := by
  have hb2 := (Blk.new w 24 (setC 0)).alloc (.cells (setC 0) 24)
  have hb4 := Blk.new' (w.alloc (.cells (setC 0) 24)) 24 (setC 0) (World.size_alloc _ _).symm
  have hB := below_alloc (below_alloc (Below.refl w.heap.size w) (.cells (setC 0) 24)) (.cells (setC 0) 24)
  unfold cls_graph
  have q_alnum : (s.toList == [97, 108, 110, 117, 109]) = false := by rw [hs.out]; decide
  have q_alpha : (s.toList == [97, 108, 112, 104, 97]) = false := by rw [hs.out]; decide
  have q_lower : (s.toList == [108, 111, 119, 101, 114]) = false := by rw [hs.out]; decide
  have q_upper : (s.toList == [117, 112, 112, 101, 114]) = false := by rw [hs.out]; decide
  have q_xdigit : (s.toList == [120, 100, 105, 103, 105, 116]) = false := by rw [hs.out]; decide
  have q_digit : (s.toList == [100, 105, 103, 105, 116]) = false := by rw [hs.out]; decide
  have q_space : (s.toList == [115, 112, 97, 99, 101]) = false := by rw [hs.out]; decide
  have q_blank : (s.toList == [98, 108, 97, 110, 107]) = false := by rw [hs.out]; decide
  have q_cntrl : (s.toList == [99, 110, 116, 114, 108]) = false := by rw [hs.out]; decide
  have q_print : (s.toList == [112, 114, 105, 110, 116]) = false := by rw [hs.out]; decide
  have q_graph : (s.toList == [103, 114, 97, 112, 104]) = true := by rw [hs.out]; decide
  go_enter Try.func105, Try.ntmps105
  go_upto_region 25 with (fail)
  refine wp_region_steps 4 [eqS (.agg (setC 0)), eqS (.agg (setC (spanB 33 126))), setsS [0, (spanB 33 126)], eqS (.agg (setC (joinL [0, (spanB 33 126)])))] [63, 64, 65, 66] follows_mixed (by kernel_rfl) rfl ?_ ?_
  · refine Steps.cons (fun a' w' hG hB dep => gs_load_set (want_none rfl) _ rfl _ (hG.other 4 rfl) _ (blk_then hb4 hB) rfl) ?_
    refine Steps.cons (fun a' w' hG hB dep => gs_span (want_none rfl) _ _ _ rfl 33 126 rfl rfl (by decide) (by decide) (fun _ => rfl)) ?_
    refine Steps.cons (fun a' w' hG hB dep => gs_sets2 (want_none rfl) _ _  rfl _ _ (dep 0 rfl 63 rfl) (dep 1 rfl 64 rfl) (fun _ _ h => h)) ?_
    refine Steps.cons (fun a' w' hG hB dep => gs_join (want_none rfl) _ _ rfl _ (dep 2 rfl 65 rfl) (Nat.le_of_ble_eq_true rfl) (fun _ => rfl)) ?_
    exact Steps.nil
  intro u w3 hB3 ans
  have ux : u 66 = .agg (setC (joinL [0, (spanB 33 126)])) := ans 3 66 (by decide) rfl
  clear ans
  simp only [putAll, List.foldl_cons, List.foldl_nil, Act.put, List.setIfInBounds_toArray, List.set_cons_zero, List.set_cons_succ, ux]
  clear ux
  go_upto_region 29 with (refine wl_store_set rfl _ _ rfl _ _ rfl rfl _ (blk_then hb4 hB3) ?_; intro w4 hb4' hg4)
  replace hb2 := blk_grown (blk_then hb2 hB3) hg4 (by omega)
  replace hB := below_grown (below_then hB hB3) hg4 (by omega)
  replace hb4 := hb4'
  clear hb4' hg4 hB3
  obtain ⟨wv, hwv⟩ : ∃ x, x = w4 := ⟨_, rfl⟩
  rw [← hwv] at hb2 hb4 hB ⊢
  clear hwv w4
  go_wp2_with (first | (refine wl_load_set rfl _ rfl _ rfl _ hb4 ?_) | (refine wl_store_set rfl _ _ rfl _ _ rfl rfl _ hb2 ?_; intro w9 hb9 hg9))
  exact ret_set2 rfl rfl hb9 rfl ⟨rfl, below_grown hB hg9 (Nat.le_refl _)⟩

end Go.Proofs.Ytajainmldcnaeaa
