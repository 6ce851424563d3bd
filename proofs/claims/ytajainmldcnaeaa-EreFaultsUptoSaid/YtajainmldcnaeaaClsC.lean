/- The walk of octets.Class, name by name. -/
import Derived.Test.YtajainmldcnaeaaOctG
namespace Go.Proofs.Ytajainmldcnaeaa
open Go.RowKit
set_option linter.unusedVariables false
set_option linter.unusedSimpArgs false

def cls_xdigit : BSet := (joinL [(joinL [(spanB 65 70), (spanB 97 102)]), (spanB 48 57)])
set_option maxRecDepth 100000 in
set_option maxHeartbeats 1000000 in
theorem class_xdigit (s : ByteArray) (w : World) (hs : Hid (s.toList = [120, 100, 105, 103, 105, 116])) : Calls Try.prog 105 #[.string s] w fun e w' => e = .returned (.tuple #[.agg (setC cls_xdigit), .int .i64 0]) ∧ Below w.heap.size w w' := by
  have hb2 := (Blk.new w 24 (setC 0)).alloc (.cells (setC 0) 24)
  have hb4 := Blk.new' (w.alloc (.cells (setC 0) 24)) 24 (setC 0) (World.size_alloc _ _).symm
  have hB := below_alloc (below_alloc (Below.refl w.heap.size w) (.cells (setC 0) 24)) (.cells (setC 0) 24)
  unfold cls_xdigit
  have q_alnum : (s.toList == [97, 108, 110, 117, 109]) = false := by rw [hs.out]; decide
  have q_alpha : (s.toList == [97, 108, 112, 104, 97]) = false := by rw [hs.out]; decide
  have q_lower : (s.toList == [108, 111, 119, 101, 114]) = false := by rw [hs.out]; decide
  have q_upper : (s.toList == [117, 112, 112, 101, 114]) = false := by rw [hs.out]; decide
  have q_xdigit : (s.toList == [120, 100, 105, 103, 105, 116]) = true := by rw [hs.out]; decide
  go_enter Try.func105, Try.ntmps105
  go_upto_region 19 with (fail)
  refine wp_region_text 4 [eqS (.agg (setC (spanB 65 70))), eqS (.agg (setC (spanB 97 102))), setsS [(spanB 65 70), (spanB 97 102)], eqS (.agg (setC (joinL [(spanB 65 70), (spanB 97 102)])))] [42, 43, 44, 45] (by kernel_rfl) rfl ?_ ?_
  · refine Steps.cons (fun a' w' hG hB dep => gs_span (want_none rfl) _ _ _ rfl 65 70 rfl rfl (by decide) (by decide) (fun _ => rfl)) ?_
    refine Steps.cons (fun a' w' hG hB dep => gs_span (want_none rfl) _ _ _ rfl 97 102 rfl rfl (by decide) (by decide) (fun _ => rfl)) ?_
    refine Steps.cons (fun a' w' hG hB dep => gs_sets2 (want_none rfl) _ _  rfl _ _ (dep 0 rfl 42 rfl) (dep 1 rfl 43 rfl) (fun _ _ h => h)) ?_
    refine Steps.cons (fun a' w' hG hB dep => gs_join (want_none rfl) _ _ rfl _ (dep 2 rfl 44 rfl) (Nat.le_of_ble_eq_true rfl) (fun _ => rfl)) ?_
    exact Steps.nil
  intro u w3 hB3 ans
  have ux : u 45 = .agg (setC (joinL [(spanB 65 70), (spanB 97 102)])) := ans 3 45 (by decide) rfl
  clear ans
  simp only [putAll, List.foldl_cons, List.foldl_nil, Act.put, List.setIfInBounds_toArray, List.set_cons_zero, List.set_cons_succ, ux]
  clear ux
  go_upto_region 20 with (refine wl_store_set rfl _ _ rfl _ _ rfl rfl _ (blk_then hb4 hB3) ?_; intro w4 hb4' hg4)
  replace hb2 := blk_grown (blk_then hb2 hB3) hg4 (by omega)
  replace hB := below_grown (below_then hB hB3) hg4 (by omega)
  replace hb4 := hb4'
  clear hb4' hg4 hB3
  obtain ⟨wv, hwv⟩ : ∃ x, x = w4 := ⟨_, rfl⟩
  rw [← hwv] at hb2 hb4 hB ⊢
  clear hwv w4
  go_upto_region 20 with (fail)
  refine wp_region_steps 4 [eqS (.agg (setC (joinL [(spanB 65 70), (spanB 97 102)]))), eqS (.agg (setC (spanB 48 57))), setsS [(joinL [(spanB 65 70), (spanB 97 102)]), (spanB 48 57)], eqS (.agg (setC (joinL [(joinL [(spanB 65 70), (spanB 97 102)]), (spanB 48 57)])))] [46, 47, 48, 49] follows_mixed (by kernel_rfl) rfl ?_ ?_
  · refine Steps.cons (fun a' w' hG hB dep => gs_load_set (want_none rfl) _ rfl _ (hG.other 4 rfl) _ (blk_then hb4 hB) rfl) ?_
    refine Steps.cons (fun a' w' hG hB dep => gs_span (want_none rfl) _ _ _ rfl 48 57 rfl rfl (by decide) (by decide) (fun _ => rfl)) ?_
    refine Steps.cons (fun a' w' hG hB dep => gs_sets2 (want_none rfl) _ _  rfl _ _ (dep 0 rfl 46 rfl) (dep 1 rfl 47 rfl) (fun _ _ h => h)) ?_
    refine Steps.cons (fun a' w' hG hB dep => gs_join (want_none rfl) _ _ rfl _ (dep 2 rfl 48 rfl) (Nat.le_of_ble_eq_true rfl) (fun _ => rfl)) ?_
    exact Steps.nil
  intro u w3 hB3 ans
  have ux : u 49 = .agg (setC (joinL [(joinL [(spanB 65 70), (spanB 97 102)]), (spanB 48 57)])) := ans 3 49 (by decide) rfl
  clear ans
  simp only [putAll, List.foldl_cons, List.foldl_nil, Act.put, List.setIfInBounds_toArray, List.set_cons_zero, List.set_cons_succ, ux]
  clear ux
  go_upto_region 29 with (refine wl_store_set rfl _ _ rfl _ _ rfl rfl _ (blk_then hb4 hB3) ?_; intro w4 hb4' hg4)
  replace hb2 := blk_grown (blk_then hb2 hB3) hg4 (by omega)
  replace hB := below_grown (below_then hB hB3) hg4 (by omega)
  replace hb4 := hb4'
  clear hb4' hg4 hB3
  obtain ⟨wv, hwv⟩ : ∃ x, x = w4 := ⟨_, rfl⟩
  rw [← hwv] at hb2 hb4 hB ⊢
  clear hwv w4
  go_wp2_with (first | (refine wl_load_set rfl _ rfl _ rfl _ hb4 ?_) | (refine wl_store_set rfl _ _ rfl _ _ rfl rfl _ hb2 ?_; intro w9 hb9 hg9))
  exact ret_set2 rfl rfl hb9 rfl ⟨rfl, below_grown hB hg9 (Nat.le_refl _)⟩

def cls_digit : BSet := (joinL [0, (spanB 48 57)])
set_option maxRecDepth 100000 in
set_option maxHeartbeats 1000000 in
theorem class_digit (s : ByteArray) (w : World) (hs : Hid (s.toList = [100, 105, 103, 105, 116])) : Calls Try.prog 105 #[.string s] w fun e w' => e = .returned (.tuple #[.agg (setC cls_digit), .int .i64 0]) ∧ Below w.heap.size w w' := by
  have hb2 := (Blk.new w 24 (setC 0)).alloc (.cells (setC 0) 24)
  have hb4 := Blk.new' (w.alloc (.cells (setC 0) 24)) 24 (setC 0) (World.size_alloc _ _).symm
  have hB := below_alloc (below_alloc (Below.refl w.heap.size w) (.cells (setC 0) 24)) (.cells (setC 0) 24)
  unfold cls_digit
  have q_alnum : (s.toList == [97, 108, 110, 117, 109]) = false := by rw [hs.out]; decide
  have q_alpha : (s.toList == [97, 108, 112, 104, 97]) = false := by rw [hs.out]; decide
  have q_lower : (s.toList == [108, 111, 119, 101, 114]) = false := by rw [hs.out]; decide
  have q_upper : (s.toList == [117, 112, 112, 101, 114]) = false := by rw [hs.out]; decide
  have q_xdigit : (s.toList == [120, 100, 105, 103, 105, 116]) = false := by rw [hs.out]; decide
  have q_digit : (s.toList == [100, 105, 103, 105, 116]) = true := by rw [hs.out]; decide
  go_enter Try.func105, Try.ntmps105
  go_upto_region 20 with (fail)
  refine wp_region_steps 4 [eqS (.agg (setC 0)), eqS (.agg (setC (spanB 48 57))), setsS [0, (spanB 48 57)], eqS (.agg (setC (joinL [0, (spanB 48 57)])))] [46, 47, 48, 49] follows_mixed (by kernel_rfl) rfl ?_ ?_
  · refine Steps.cons (fun a' w' hG hB dep => gs_load_set (want_none rfl) _ rfl _ (hG.other 4 rfl) _ (blk_then hb4 hB) rfl) ?_
    refine Steps.cons (fun a' w' hG hB dep => gs_span (want_none rfl) _ _ _ rfl 48 57 rfl rfl (by decide) (by decide) (fun _ => rfl)) ?_
    refine Steps.cons (fun a' w' hG hB dep => gs_sets2 (want_none rfl) _ _  rfl _ _ (dep 0 rfl 46 rfl) (dep 1 rfl 47 rfl) (fun _ _ h => h)) ?_
    refine Steps.cons (fun a' w' hG hB dep => gs_join (want_none rfl) _ _ rfl _ (dep 2 rfl 48 rfl) (Nat.le_of_ble_eq_true rfl) (fun _ => rfl)) ?_
    exact Steps.nil
  intro u w3 hB3 ans
  have ux : u 49 = .agg (setC (joinL [0, (spanB 48 57)])) := ans 3 49 (by decide) rfl
  clear ans
  simp only [putAll, List.foldl_cons, List.foldl_nil, Act.put, List.setIfInBounds_toArray, List.set_cons_zero, List.set_cons_succ, ux]
  clear ux
  go_upto_region 29 with (refine wl_store_set rfl _ _ rfl _ _ rfl rfl _ (blk_then hb4 hB3) ?_; intro w4 hb4' hg4)
  replace hb2 := blk_grown (blk_then hb2 hB3) hg4 (by omega)
  replace hB := below_grown (below_then hB hB3) hg4 (by omega)
  replace hb4 := hb4'
  clear hb4' hg4 hB3
  obtain ⟨wv, hwv⟩ : ∃ x, x = w4 := ⟨_, rfl⟩
  rw [← hwv] at hb2 hb4 hB ⊢
  clear hwv w4
  go_wp2_with (first | (refine wl_load_set rfl _ rfl _ rfl _ hb4 ?_) | (refine wl_store_set rfl _ _ rfl _ _ rfl rfl _ hb2 ?_; intro w9 hb9 hg9))
  exact ret_set2 rfl rfl hb9 rfl ⟨rfl, below_grown hB hg9 (Nat.le_refl _)⟩

def cls_space : BSet := (joinL [(spanB 9 13), (ofB [9, 32])])
set_option maxRecDepth 100000 in
set_option maxHeartbeats 1000000 in
theorem class_space (s : ByteArray) (w : World) (hs : Hid (s.toList = [115, 112, 97, 99, 101])) : Calls Try.prog 105 #[.string s] w fun e w' => e = .returned (.tuple #[.agg (setC cls_space), .int .i64 0]) ∧ Below w.heap.size w w' := by
  have hb2 := (Blk.new w 24 (setC 0)).alloc (.cells (setC 0) 24)
  have hb4 := Blk.new' (w.alloc (.cells (setC 0) 24)) 24 (setC 0) (World.size_alloc _ _).symm
  have hB := below_alloc (below_alloc (Below.refl w.heap.size w) (.cells (setC 0) 24)) (.cells (setC 0) 24)
  unfold cls_space
  have q_alnum : (s.toList == [97, 108, 110, 117, 109]) = false := by rw [hs.out]; decide
  have q_alpha : (s.toList == [97, 108, 112, 104, 97]) = false := by rw [hs.out]; decide
  have q_lower : (s.toList == [108, 111, 119, 101, 114]) = false := by rw [hs.out]; decide
  have q_upper : (s.toList == [117, 112, 112, 101, 114]) = false := by rw [hs.out]; decide
  have q_xdigit : (s.toList == [120, 100, 105, 103, 105, 116]) = false := by rw [hs.out]; decide
  have q_digit : (s.toList == [100, 105, 103, 105, 116]) = false := by rw [hs.out]; decide
  have q_space : (s.toList == [115, 112, 97, 99, 101]) = true := by rw [hs.out]; decide
  go_enter Try.func105, Try.ntmps105
  go_upto_region 21 with (fail)
  refine wp_region_text 1 [eqS (.agg (setC (spanB 9 13)))] [50] (by kernel_rfl) rfl ?_ ?_
  · refine Steps.cons (fun a' w' hG hB dep => gs_span (want_none rfl) _ _ _ rfl 9 13 rfl rfl (by decide) (by decide) (fun _ => rfl)) ?_
    exact Steps.nil
  intro u w3 hB3 ans
  have ux : u 50 = .agg (setC (spanB 9 13)) := ans 0 50 (by decide) rfl
  clear ans
  simp only [putAll, List.foldl_cons, List.foldl_nil, Act.put, List.setIfInBounds_toArray, List.set_cons_zero, List.set_cons_succ, ux]
  clear ux
  go_upto_region 22 with (refine wl_store_set rfl _ _ rfl _ _ rfl rfl _ (blk_then hb4 hB3) ?_; intro w4 hb4' hg4)
  replace hb2 := blk_grown (blk_then hb2 hB3) hg4 (by omega)
  replace hB := below_grown (below_then hB hB3) hg4 (by omega)
  replace hb4 := hb4'
  clear hb4' hg4 hB3
  obtain ⟨wv, hwv⟩ : ∃ x, x = w4 := ⟨_, rfl⟩
  rw [← hwv] at hb2 hb4 hB ⊢
  clear hwv w4
  go_upto_region 22 with (fail)
  refine wp_region_steps 5 [eqS (.agg (setC (spanB 9 13))), bytesS [9, 32], eqS (.agg (setC (ofB [9, 32]))), setsS [(spanB 9 13), (ofB [9, 32])], eqS (.agg (setC (joinL [(spanB 9 13), (ofB [9, 32])])))] [51, 52, 53, 54, 55] follows_mixed (by kernel_rfl) rfl ?_ ?_
  · refine Steps.cons (fun a' w' hG hB dep => gs_load_set (want_none rfl) _ rfl _ (hG.other 4 rfl) _ (blk_then hb4 hB) rfl) ?_
    refine Steps.cons (fun a' w' hG hB dep => gs_byte2 (want_none rfl) _ _  rfl 9 32 rfl rfl (fun _ _ h => h)) ?_
    refine Steps.cons (fun a' w' hG hB dep => gs_of (want_none rfl) _ _ rfl _ (dep 1 rfl 52 rfl) (Nat.le_of_ble_eq_true rfl) (fun _ => rfl)) ?_
    refine Steps.cons (fun a' w' hG hB dep => gs_sets2 (want_none rfl) _ _  rfl _ _ (dep 0 rfl 51 rfl) (dep 2 rfl 53 rfl) (fun _ _ h => h)) ?_
    refine Steps.cons (fun a' w' hG hB dep => gs_join (want_none rfl) _ _ rfl _ (dep 3 rfl 54 rfl) (Nat.le_of_ble_eq_true rfl) (fun _ => rfl)) ?_
    exact Steps.nil
  intro u w3 hB3 ans
  have ux : u 55 = .agg (setC (joinL [(spanB 9 13), (ofB [9, 32])])) := ans 4 55 (by decide) rfl
  clear ans
  simp only [putAll, List.foldl_cons, List.foldl_nil, Act.put, List.setIfInBounds_toArray, List.set_cons_zero, List.set_cons_succ, ux]
  clear ux
  go_upto_region 29 with (refine wl_store_set rfl _ _ rfl _ _ rfl rfl _ (blk_then hb4 hB3) ?_; intro w4 hb4' hg4)
  replace hb2 := blk_grown (blk_then hb2 hB3) hg4 (by omega)
  replace hB := below_grown (below_then hB hB3) hg4 (by omega)
  replace hb4 := hb4'
  clear hb4' hg4 hB3
  obtain ⟨wv, hwv⟩ : ∃ x, x = w4 := ⟨_, rfl⟩
  rw [← hwv] at hb2 hb4 hB ⊢
  clear hwv w4
  go_wp2_with (first | (refine wl_load_set rfl _ rfl _ rfl _ hb4 ?_) | (refine wl_store_set rfl _ _ rfl _ _ rfl rfl _ hb2 ?_; intro w9 hb9 hg9))
  exact ret_set2 rfl rfl hb9 rfl ⟨rfl, below_grown hB hg9 (Nat.le_refl _)⟩

end Go.Proofs.Ytajainmldcnaeaa
