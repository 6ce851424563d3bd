/- The walk of OctetsLaws. -/
import Derived.Test.YtjpiebapemalfaaGs2
namespace Go.Proofs.Ytjpiebapemalfaa
open Go.RowKit
set_option linter.unusedVariables false
set_option linter.unusedSimpArgs false

theorem known_cnt' : (cnt (ofB [97, 99, 97]) : Int) = 2 := by rw [known_cnt]; rfl
set_option maxHeartbeats 1000000 in
theorem known3_any (w : World) :
    Calls Try.prog 25 #[] w fun e w' => e = .returned (.bool true) ∧ Below w.heap.size w w' := by
  have hs := bytes_of_blk (l := [97, 99, 97]) (Blk.new w 5 #[.int .u8 97, .int .u8 99, .int .u8 97])
  have hB0 := below_alloc (Below.refl w.heap.size w) (.cells #[.int .u8 97, .int .u8 99, .int .u8 97] 5)
  go_enter Try.func25, Try.ntmps25
  go_upto_region 2 with (first | (go_at_call 33; refine (of_any _ 3 3 [97, 99, 97] _ rfl (by decide) hs).mono ?_; rintro e w1 ⟨rfl, hB1⟩; have hB2 := below_alloc (below_then hB0 hB1) (.cells (setC 0) 31)) | (refine wl_store_set rfl _ _ rfl _ _ rfl rfl 0 (Blk.new _ _ _) ?_; intro w2 hb hg))
  have hlt : w.heap.size ≤ w1.heap.size := by have := hB0.size; have := hB1.size; omega
  have hB3 := below_grown hB2 hg hlt
  refine wp_region_text 23 [eqS (.agg (setC (ofB [97, 99, 97]))), eqS (.agg (setC (ofB [97, 99, 97]))), eqS (.bool true), eqS (.bool true), eqS (.agg (setC (ofB [97, 99, 97]))), eqS (.int .i64 ((cnt (ofB [97, 99, 97]) : Int))), eqS (.bool true), eqS (.bool true), eqS (.bool true), eqS (.agg (setC (ofB [97, 99, 97]))), eqS (.bool true), eqS (.bool true), eqS (.bool true), eqS (.agg (setC (ofB [97, 99, 97]))), eqS (.bool false), eqS (.bool true), eqS (.bool true), eqS (.bool true), eqS (.agg (setC (ofB [97, 99, 97]))), spansS (ofB [97, 99, 97]), eqS (.bool true), eqS (.bool true), eqS (.bool true)] [4, 5, 6, 7, 8, 9, 10, 11, 12, 13, 14, 15, 16, 17, 18, 19, 20, 21, 22, 23, 24, 25, 0] (by kernel_rfl) rfl ?_ ?_
  · refine Steps.cons (fun a' w' hG hB dep => gs_load_set (want_none rfl) _ rfl _ (hG.other 1 rfl) _ (blk_then hb hB) rfl) ?_
    refine Steps.cons (fun a' w' hG hB dep => gs_build_set (want_none rfl) _ rfl (ofB [97, 99, 97]) (fun _ => by kernel_rfl) rfl) ?_
    refine Steps.cons (fun a' w' hG hB dep => gs_eql_set (want_none rfl) _ _ _ rfl _ _ (dep 0 rfl 4 rfl) (dep 1 rfl 5 rfl) (eqT rfl)) ?_
    refine Steps.cons (fun a' w' hG hB dep => gs_move (want_none rfl) _ rfl (dep 2 rfl 6 rfl)) ?_
    refine Steps.cons (fun a' w' hG hB dep => gs_load_set (want_yes rfl rfl (dep 3 rfl 7 rfl)) _ rfl _ (hG.other 1 rfl) _ (blk_then hb hB) rfl) ?_
    refine Steps.cons (fun a' w' hG hB dep => gs_count (want_yes rfl rfl (dep 3 rfl 7 rfl)) _ _ rfl _ (dep 4 rfl 8 rfl) (fun _ => rfl)) ?_
    refine Steps.cons (fun a' w' hG hB dep => gs_eql_int (want_yes rfl rfl (dep 3 rfl 7 rfl)) _ _ _ _ rfl _ _ _ (dep 5 rfl 9 rfl) rfl (eqTI known_cnt')) ?_
    refine Steps.cons (fun a' w' hG hB dep => gs_pick (want_none rfl) _ _ _ rfl true (dep 3 rfl 7 rfl) (dep 6 rfl 10 rfl)) ?_
    refine Steps.cons (fun a' w' hG hB dep => gs_move (want_none rfl) _ rfl (dep 7 rfl 11 rfl)) ?_
    refine Steps.cons (fun a' w' hG hB dep => gs_load_set (want_yes rfl rfl (dep 8 rfl 12 rfl)) _ rfl _ (hG.other 1 rfl) _ (blk_then hb hB) rfl) ?_
    refine Steps.cons (fun a' w' hG hB dep => gs_has (want_yes rfl rfl (dep 8 rfl 12 rfl)) _ _ _ rfl _ 97 (by decide) (dep 9 rfl 13 rfl) rfl (fun _ => congrArg Value.bool known_has1)) ?_
    refine Steps.cons (fun a' w' hG hB dep => gs_pick (want_none rfl) _ _ _ rfl true (dep 8 rfl 12 rfl) (dep 10 rfl 14 rfl)) ?_
    refine Steps.cons (fun a' w' hG hB dep => gs_move (want_none rfl) _ rfl (dep 11 rfl 15 rfl)) ?_
    refine Steps.cons (fun a' w' hG hB dep => gs_load_set (want_yes rfl rfl (dep 12 rfl 16 rfl)) _ rfl _ (hG.other 1 rfl) _ (blk_then hb hB) rfl) ?_
    refine Steps.cons (fun a' w' hG hB dep => gs_has (want_yes rfl rfl (dep 12 rfl 16 rfl)) _ _ _ rfl _ 98 (by decide) (dep 13 rfl 17 rfl) rfl (fun _ => congrArg Value.bool known_has2)) ?_
    refine Steps.cons (fun a' w' hG hB dep => gs_not_bool (want_yes rfl rfl (dep 12 rfl 16 rfl)) _ _ rfl false (dep 14 rfl 18 rfl) rfl) ?_
    refine Steps.cons (fun a' w' hG hB dep => gs_pick (want_none rfl) _ _ _ rfl true (dep 12 rfl 16 rfl) (dep 15 rfl 19 rfl)) ?_
    refine Steps.cons (fun a' w' hG hB dep => gs_move (want_none rfl) _ rfl (dep 16 rfl 20 rfl)) ?_
    refine Steps.cons (fun a' w' hG hB dep => gs_load_set (want_yes rfl rfl (dep 17 rfl 21 rfl)) _ rfl _ (hG.other 1 rfl) _ (blk_then hb hB) rfl) ?_
    refine Steps.cons (fun a' w' hG hB dep => gs_spans (want_yes rfl rfl (dep 17 rfl 21 rfl)) _ _ rfl _ (dep 18 rfl 22 rfl) (fun _ _ h => h)) ?_
    refine Steps.cons (fun a' w' hG hB dep => gs_neq_spans (want_yes rfl rfl (dep 17 rfl 21 rfl)) _ _ _ rfl _ (dep 19 rfl 23 rfl) rfl rfl) ?_
    refine Steps.cons (fun a' w' hG hB dep => gs_pick (want_none rfl) _ _ _ rfl true (dep 17 rfl 21 rfl) (dep 20 rfl 24 rfl)) ?_
    refine Steps.cons (fun a' w' hG hB dep => gs_assign (want_none rfl) _ rfl (dep 21 rfl 25 rfl)) ?_
    exact Steps.nil
  intro u w3 hB4 ans
  have u0 : u 0 = .bool true := ans 22 0 (by decide) rfl
  clear ans
  refine wpList_nil ?_
  simp only [putAll, List.foldl_cons, List.foldl_nil, Act.put, List.setIfInBounds_toArray, List.set_cons_zero, List.set_cons_succ, u0]
  go_wp2
  go_ret
  exact ⟨rfl, below_then hB3 hB4⟩

theorem wrap_cnt (x y : BSet) : IntKind.i64.wrap ((cnt x : Int) + (cnt y : Int)) = (cnt x : Int) + (cnt y : Int) := by
  have := cnt_le x
  have := cnt_le y
  rw [IntKind.wrap_i64]
  omega
set_option maxRecDepth 100000 in
set_option maxHeartbeats 4000000 in
theorem octetsLaws_any (a b c : BSet) (w : World) :
    Calls Try.prog 10 #[.agg (setC a), .agg (setC b), .agg (setC c)] w fun e w' => e = .returned (.bool true) ∧ Below w.heap.size w w' := by
  have ha := ((Blk.new w 31 (setC a)).alloc (.cells (setC b) 31)).alloc (.cells (setC c) 31)
  have hb := (Blk.new' (w.alloc (.cells (setC a) 31)) 31 (setC b) (World.size_alloc _ _).symm).alloc (.cells (setC c) 31)
  have hc : Blk (((w.alloc (.cells (setC a) 31)).alloc (.cells (setC b) 31)).alloc (.cells (setC c) 31)) (w.heap.size + 1 + 1) 31 (setC c) := Blk.new' _ 31 (setC c) (by simp)
  have hB := below_alloc (below_alloc (below_alloc (Below.refl w.heap.size w) (.cells (setC a) 31)) (.cells (setC b) 31)) (.cells (setC c) 31)
  go_enter Try.func10, Try.ntmps10
  go_upto_region 3 with (go_at_call 25; refine (known3_any _).mono ?_; rintro e w1 ⟨rfl, hB1⟩)
  replace ha := blk_then ha hB1
  replace hb := blk_then hb hB1
  replace hc := blk_then hc hB1
  replace hB := below_then hB hB1
  clear hB1
  have hs := bytes_of_blk (l := [10]) (Blk.new w1 5 #[.int .u8 10])
  have hK := below_alloc (Below.refl w1.heap.size w1) (.cells #[.int .u8 10] 5)
  go_upto_region 4 with (first | (go_at_call 33; refine (of_any _ 1 1 [10] _ rfl (by decide) hs).mono ?_; rintro e w2 ⟨rfl, hB2⟩; replace hK := below_then hK hB2) | (refine wl_store_set rfl _ _ rfl _ _ rfl rfl 0 (Blk.new _ _ _) ?_; intro w3 hl hg; replace hK := below_then hK (below_grown (below_alloc (Below.refl w2.heap.size w2) (.cells (setC 0) 31)) hg (Nat.le_refl _))))
  replace ha := blk_then ha hK
  replace hb := blk_then hb hK
  replace hc := blk_then hc hK
  replace hB := below_then hB hK
  clear hK hs hB2 hg
  go_upto_region 5 with (first | (go_at_call 33; refine (of_any none 0 0 [] _ rfl (by decide) (SliceOf.nil_ _ _ _ _ _)).mono ?_; rintro e w4 ⟨rfl, hB4⟩) | (refine wl_store_set rfl _ _ rfl _ _ rfl rfl 0 (Blk.new _ _ _) ?_; intro w5 hn hg; have hK := below_then hB4 (below_grown (below_alloc (Below.refl w4.heap.size w4) (.cells (setC 0) 31)) hg (Nat.le_refl _))))
  replace ha := blk_then ha hK
  replace hb := blk_then hb hK
  replace hc := blk_then hc hK
  replace hl := blk_then hl hK
  replace hB := below_then hB hK
  clear hK hB4 hg
  go_upto_region 6 with (first | (go_at_call 32; refine (span_any 0 255 _ (by decide) (by decide)).mono ?_; rintro e w6 ⟨rfl, hB6⟩) | (refine wl_store_set rfl _ _ rfl _ _ rfl rfl 0 (Blk.new _ _ _) ?_; intro w7 hall hg; have hK := below_then hB6 (below_grown (below_alloc (Below.refl w6.heap.size w6) (.cells (setC 0) 31)) hg (Nat.le_refl _))))
  replace ha := blk_then ha hK
  replace hb := blk_then hb hK
  replace hc := blk_then hc hK
  replace hl := blk_then hl hK
  replace hn := blk_then hn hK
  replace hB := below_then hB hK
  clear hK hB6 hg
  refine wp_region_steps 35 [eqS (.agg (setC a)), eqS (.agg (setC b)), eqS (.agg (setC c)), setsS [a, b, c], eqS (.agg (setC (joinL [a, b, c]))), eqS (.agg (setC c)), eqS (.agg (setC b)), eqS (.agg (setC a)), setsS [b, a], eqS (.agg (setC (joinL [b, a]))), setsS [c, (joinL [b, a])], eqS (.agg (setC (joinL [c, (joinL [b, a])]))), eqS (.bool false), eqS (.bool false), eqS (.agg (setC a)), eqS (.agg (setC b)), eqS (.agg (setC (a &&& b))), eqS (.agg (setC b)), eqS (.agg (setC a)), eqS (.agg (setC (b &&& a))), eqS (.bool false), eqS (.bool false), eqS (.bool false), eqS (.agg (setC a)), eqS (.agg (setC b)), eqS (.agg (setC c)), eqS (.agg (setC (b &&& c))), eqS (.agg (setC (a &&& (b &&& c)))), eqS (.agg (setC a)), eqS (.agg (setC b)), eqS (.agg (setC (a &&& b))), eqS (.agg (setC c)), eqS (.agg (setC ((a &&& b) &&& c))), eqS (.bool false), eqS (.bool false)] [16, 17, 18, 19, 20, 21, 22, 23, 24, 25, 26, 27, 28, 29, 30, 31, 32, 33, 34, 35, 36, 37, 38, 39, 40, 41, 42, 43, 44, 45, 46, 47, 48, 49, 50] follows_mixed (by kernel_rfl) rfl ?_ ?_
  · refine Steps.cons (fun a' w' hG hB dep => gs_load_set (want_none rfl) _ rfl _ (hG.other 3 rfl) _ (blk_then ha hB) rfl) ?_
    refine Steps.cons (fun a' w' hG hB dep => gs_load_set (want_none rfl) _ rfl _ (hG.other 4 rfl) _ (blk_then hb hB) rfl) ?_
    refine Steps.cons (fun a' w' hG hB dep => gs_load_set (want_none rfl) _ rfl _ (hG.other 5 rfl) _ (blk_then hc hB) rfl) ?_
    refine Steps.cons (fun a' w' hG hB dep => gs_sets3 (want_none rfl) _ _ _  rfl _ _ _ (dep 0 rfl 16 rfl) (dep 1 rfl 17 rfl) (dep 2 rfl 18 rfl) (fun _ _ h => h)) ?_
    refine Steps.cons (fun a' w' hG hB dep => gs_join (want_none rfl) _ _ rfl _ (dep 3 rfl 19 rfl) (Nat.le_of_ble_eq_true rfl) (fun _ => rfl)) ?_
    refine Steps.cons (fun a' w' hG hB dep => gs_load_set (want_none rfl) _ rfl _ (hG.other 5 rfl) _ (blk_then hc hB) rfl) ?_
    refine Steps.cons (fun a' w' hG hB dep => gs_load_set (want_none rfl) _ rfl _ (hG.other 4 rfl) _ (blk_then hb hB) rfl) ?_
    refine Steps.cons (fun a' w' hG hB dep => gs_load_set (want_none rfl) _ rfl _ (hG.other 3 rfl) _ (blk_then ha hB) rfl) ?_
    refine Steps.cons (fun a' w' hG hB dep => gs_sets2 (want_none rfl) _ _  rfl _ _ (dep 6 rfl 22 rfl) (dep 7 rfl 23 rfl) (fun _ _ h => h)) ?_
    refine Steps.cons (fun a' w' hG hB dep => gs_join (want_none rfl) _ _ rfl _ (dep 8 rfl 24 rfl) (Nat.le_of_ble_eq_true rfl) (fun _ => rfl)) ?_
    refine Steps.cons (fun a' w' hG hB dep => gs_sets2 (want_none rfl) _ _  rfl _ _ (dep 5 rfl 21 rfl) (dep 9 rfl 25 rfl) (fun _ _ h => h)) ?_
    refine Steps.cons (fun a' w' hG hB dep => gs_join (want_none rfl) _ _ rfl _ (dep 10 rfl 26 rfl) (Nat.le_of_ble_eq_true rfl) (fun _ => rfl)) ?_
    refine Steps.cons (fun a' w' hG hB dep => gs_neq_set (want_none rfl) _ _ _ rfl _ _ (dep 4 rfl 20 rfl) (dep 11 rfl 27 rfl) (eqF (law_a a b c))) ?_
    refine Steps.cons (fun a' w' hG hB dep => gs_move (want_none rfl) _ rfl (dep 12 rfl 28 rfl)) ?_
    refine Steps.cons (fun a' w' hG hB dep => gs_load_set (want_yes rfl rfl (dep 13 rfl 29 rfl)) _ rfl _ (hG.other 3 rfl) _ (blk_then ha hB) rfl) ?_
    refine Steps.cons (fun a' w' hG hB dep => gs_load_set (want_yes rfl rfl (dep 13 rfl 29 rfl)) _ rfl _ (hG.other 4 rfl) _ (blk_then hb hB) rfl) ?_
    refine Steps.cons (fun a' w' hG hB dep => gs_meet (want_yes rfl rfl (dep 13 rfl 29 rfl)) _ _ _ rfl _ _ (dep 14 rfl 30 rfl) (dep 15 rfl 31 rfl) (fun _ => rfl)) ?_
    refine Steps.cons (fun a' w' hG hB dep => gs_load_set (want_yes rfl rfl (dep 13 rfl 29 rfl)) _ rfl _ (hG.other 4 rfl) _ (blk_then hb hB) rfl) ?_
    refine Steps.cons (fun a' w' hG hB dep => gs_load_set (want_yes rfl rfl (dep 13 rfl 29 rfl)) _ rfl _ (hG.other 3 rfl) _ (blk_then ha hB) rfl) ?_
    refine Steps.cons (fun a' w' hG hB dep => gs_meet (want_yes rfl rfl (dep 13 rfl 29 rfl)) _ _ _ rfl _ _ (dep 17 rfl 33 rfl) (dep 18 rfl 34 rfl) (fun _ => rfl)) ?_
    refine Steps.cons (fun a' w' hG hB dep => gs_neq_set (want_yes rfl rfl (dep 13 rfl 29 rfl)) _ _ _ rfl _ _ (dep 16 rfl 32 rfl) (dep 19 rfl 35 rfl) (eqF (law_b a b))) ?_
    refine Steps.cons (fun a' w' hG hB dep => gs_pick (want_none rfl) _ _ _ rfl false (dep 13 rfl 29 rfl) (dep 20 rfl 36 rfl)) ?_
    refine Steps.cons (fun a' w' hG hB dep => gs_move (want_none rfl) _ rfl (dep 21 rfl 37 rfl)) ?_
    refine Steps.cons (fun a' w' hG hB dep => gs_load_set (want_yes rfl rfl (dep 22 rfl 38 rfl)) _ rfl _ (hG.other 3 rfl) _ (blk_then ha hB) rfl) ?_
    refine Steps.cons (fun a' w' hG hB dep => gs_load_set (want_yes rfl rfl (dep 22 rfl 38 rfl)) _ rfl _ (hG.other 4 rfl) _ (blk_then hb hB) rfl) ?_
    refine Steps.cons (fun a' w' hG hB dep => gs_load_set (want_yes rfl rfl (dep 22 rfl 38 rfl)) _ rfl _ (hG.other 5 rfl) _ (blk_then hc hB) rfl) ?_
    refine Steps.cons (fun a' w' hG hB dep => gs_meet (want_yes rfl rfl (dep 22 rfl 38 rfl)) _ _ _ rfl _ _ (dep 24 rfl 40 rfl) (dep 25 rfl 41 rfl) (fun _ => rfl)) ?_
    refine Steps.cons (fun a' w' hG hB dep => gs_meet (want_yes rfl rfl (dep 22 rfl 38 rfl)) _ _ _ rfl _ _ (dep 23 rfl 39 rfl) (dep 26 rfl 42 rfl) (fun _ => rfl)) ?_
    refine Steps.cons (fun a' w' hG hB dep => gs_load_set (want_yes rfl rfl (dep 22 rfl 38 rfl)) _ rfl _ (hG.other 3 rfl) _ (blk_then ha hB) rfl) ?_
    refine Steps.cons (fun a' w' hG hB dep => gs_load_set (want_yes rfl rfl (dep 22 rfl 38 rfl)) _ rfl _ (hG.other 4 rfl) _ (blk_then hb hB) rfl) ?_
    refine Steps.cons (fun a' w' hG hB dep => gs_meet (want_yes rfl rfl (dep 22 rfl 38 rfl)) _ _ _ rfl _ _ (dep 28 rfl 44 rfl) (dep 29 rfl 45 rfl) (fun _ => rfl)) ?_
    refine Steps.cons (fun a' w' hG hB dep => gs_load_set (want_yes rfl rfl (dep 22 rfl 38 rfl)) _ rfl _ (hG.other 5 rfl) _ (blk_then hc hB) rfl) ?_
    refine Steps.cons (fun a' w' hG hB dep => gs_meet (want_yes rfl rfl (dep 22 rfl 38 rfl)) _ _ _ rfl _ _ (dep 30 rfl 46 rfl) (dep 31 rfl 47 rfl) (fun _ => rfl)) ?_
    refine Steps.cons (fun a' w' hG hB dep => gs_neq_set (want_yes rfl rfl (dep 22 rfl 38 rfl)) _ _ _ rfl _ _ (dep 27 rfl 43 rfl) (dep 32 rfl 48 rfl) (eqF (law_c a b c))) ?_
    refine Steps.cons (fun a' w' hG hB dep => gs_pick (want_none rfl) _ _ _ rfl false (dep 22 rfl 38 rfl) (dep 33 rfl 49 rfl)) ?_
    exact Steps.nil
  intro u w8 hB8 ans
  have ux : u 50 = .bool false := ans 34 50 (by decide) rfl
  clear ans
  refine wpList_nil ?_
  simp only [putAll, List.foldl_cons, List.foldl_nil, Act.put, List.setIfInBounds_toArray, List.set_cons_zero, List.set_cons_succ, ux]
  clear ux

  replace ha := blk_then ha hB8
  replace hb := blk_then hb hB8
  replace hc := blk_then hc hB8
  replace hl := blk_then hl hB8
  replace hn := blk_then hn hB8
  replace hall := blk_then hall hB8
  replace hB := below_then hB hB8
  clear hB8
  go_upto_region 8 with (fail)
  refine wp_region_steps 50 [eqS (.agg (setC a)), eqS (.agg (setC b)), eqS (.agg (setC c)), setsS [b, c], eqS (.agg (setC (joinL [b, c]))), eqS (.agg (setC (a &&& (joinL [b, c])))), eqS (.agg (setC a)), eqS (.agg (setC b)), eqS (.agg (setC (a &&& b))), eqS (.agg (setC a)), eqS (.agg (setC c)), eqS (.agg (setC (a &&& c))), setsS [(a &&& b), (a &&& c)], eqS (.agg (setC (joinL [(a &&& b), (a &&& c)]))), eqS (.bool false), eqS (.bool false), eqS (.agg (setC a)), eqS (.agg (setC a)), setsS [a, a], eqS (.agg (setC (joinL [a, a]))), eqS (.agg (setC a)), eqS (.bool false), eqS (.bool false), eqS (.bool false), eqS (.agg (setC a)), eqS (.agg (setC a)), eqS (.agg (setC (a &&& a))), eqS (.agg (setC a)), eqS (.bool false), eqS (.bool false), eqS (.bool false), eqS (.agg (setC a)), eqS (.agg (setC (ofB []))), setsS [a, (ofB [])], eqS (.agg (setC (joinL [a, (ofB [])]))), eqS (.agg (setC a)), eqS (.bool false), eqS (.bool false), eqS (.bool false), eqS (.agg (setC a)), eqS (.agg (setC (spanB 0 255))), eqS (.agg (setC (a &&& (spanB 0 255)))), eqS (.agg (setC a)), eqS (.bool false), eqS (.bool false), eqS (.bool false), eqS (.agg (setC (joinL []))), eqS (.agg (setC (ofB []))), eqS (.bool false), eqS (.bool false)] [51, 52, 53, 54, 55, 56, 57, 58, 59, 60, 61, 62, 63, 64, 65, 66, 67, 68, 69, 70, 71, 72, 73, 74, 75, 76, 77, 78, 79, 80, 81, 82, 83, 84, 85, 86, 87, 88, 89, 90, 91, 92, 93, 94, 95, 96, 97, 98, 99, 100] follows_mixed (by kernel_rfl) rfl ?_ ?_
  · refine Steps.cons (fun a' w' hG hB dep => gs_load_set (want_none rfl) _ rfl _ (hG.other 3 rfl) _ (blk_then ha hB) rfl) ?_
    refine Steps.cons (fun a' w' hG hB dep => gs_load_set (want_none rfl) _ rfl _ (hG.other 4 rfl) _ (blk_then hb hB) rfl) ?_
    refine Steps.cons (fun a' w' hG hB dep => gs_load_set (want_none rfl) _ rfl _ (hG.other 5 rfl) _ (blk_then hc hB) rfl) ?_
    refine Steps.cons (fun a' w' hG hB dep => gs_sets2 (want_none rfl) _ _  rfl _ _ (dep 1 rfl 52 rfl) (dep 2 rfl 53 rfl) (fun _ _ h => h)) ?_
    refine Steps.cons (fun a' w' hG hB dep => gs_join (want_none rfl) _ _ rfl _ (dep 3 rfl 54 rfl) (Nat.le_of_ble_eq_true rfl) (fun _ => rfl)) ?_
    refine Steps.cons (fun a' w' hG hB dep => gs_meet (want_none rfl) _ _ _ rfl _ _ (dep 0 rfl 51 rfl) (dep 4 rfl 55 rfl) (fun _ => rfl)) ?_
    refine Steps.cons (fun a' w' hG hB dep => gs_load_set (want_none rfl) _ rfl _ (hG.other 3 rfl) _ (blk_then ha hB) rfl) ?_
    refine Steps.cons (fun a' w' hG hB dep => gs_load_set (want_none rfl) _ rfl _ (hG.other 4 rfl) _ (blk_then hb hB) rfl) ?_
    refine Steps.cons (fun a' w' hG hB dep => gs_meet (want_none rfl) _ _ _ rfl _ _ (dep 6 rfl 57 rfl) (dep 7 rfl 58 rfl) (fun _ => rfl)) ?_
    refine Steps.cons (fun a' w' hG hB dep => gs_load_set (want_none rfl) _ rfl _ (hG.other 3 rfl) _ (blk_then ha hB) rfl) ?_
    refine Steps.cons (fun a' w' hG hB dep => gs_load_set (want_none rfl) _ rfl _ (hG.other 5 rfl) _ (blk_then hc hB) rfl) ?_
    refine Steps.cons (fun a' w' hG hB dep => gs_meet (want_none rfl) _ _ _ rfl _ _ (dep 9 rfl 60 rfl) (dep 10 rfl 61 rfl) (fun _ => rfl)) ?_
    refine Steps.cons (fun a' w' hG hB dep => gs_sets2 (want_none rfl) _ _  rfl _ _ (dep 8 rfl 59 rfl) (dep 11 rfl 62 rfl) (fun _ _ h => h)) ?_
    refine Steps.cons (fun a' w' hG hB dep => gs_join (want_none rfl) _ _ rfl _ (dep 12 rfl 63 rfl) (Nat.le_of_ble_eq_true rfl) (fun _ => rfl)) ?_
    refine Steps.cons (fun a' w' hG hB dep => gs_neq_set (want_none rfl) _ _ _ rfl _ _ (dep 5 rfl 56 rfl) (dep 13 rfl 64 rfl) (eqF (law_d a b c))) ?_
    refine Steps.cons (fun a' w' hG hB dep => gs_move (want_none rfl) _ rfl (dep 14 rfl 65 rfl)) ?_
    refine Steps.cons (fun a' w' hG hB dep => gs_load_set (want_yes rfl rfl (dep 15 rfl 66 rfl)) _ rfl _ (hG.other 3 rfl) _ (blk_then ha hB) rfl) ?_
    refine Steps.cons (fun a' w' hG hB dep => gs_load_set (want_yes rfl rfl (dep 15 rfl 66 rfl)) _ rfl _ (hG.other 3 rfl) _ (blk_then ha hB) rfl) ?_
    refine Steps.cons (fun a' w' hG hB dep => gs_sets2 (want_yes rfl rfl (dep 15 rfl 66 rfl)) _ _  rfl _ _ (dep 16 rfl 67 rfl) (dep 17 rfl 68 rfl) (fun _ _ h => h)) ?_
    refine Steps.cons (fun a' w' hG hB dep => gs_join (want_yes rfl rfl (dep 15 rfl 66 rfl)) _ _ rfl _ (dep 18 rfl 69 rfl) (Nat.le_of_ble_eq_true rfl) (fun _ => rfl)) ?_
    refine Steps.cons (fun a' w' hG hB dep => gs_load_set (want_yes rfl rfl (dep 15 rfl 66 rfl)) _ rfl _ (hG.other 3 rfl) _ (blk_then ha hB) rfl) ?_
    refine Steps.cons (fun a' w' hG hB dep => gs_neq_set (want_yes rfl rfl (dep 15 rfl 66 rfl)) _ _ _ rfl _ _ (dep 19 rfl 70 rfl) (dep 20 rfl 71 rfl) (eqF (law_e a))) ?_
    refine Steps.cons (fun a' w' hG hB dep => gs_pick (want_none rfl) _ _ _ rfl false (dep 15 rfl 66 rfl) (dep 21 rfl 72 rfl)) ?_
    refine Steps.cons (fun a' w' hG hB dep => gs_move (want_none rfl) _ rfl (dep 22 rfl 73 rfl)) ?_
    refine Steps.cons (fun a' w' hG hB dep => gs_load_set (want_yes rfl rfl (dep 23 rfl 74 rfl)) _ rfl _ (hG.other 3 rfl) _ (blk_then ha hB) rfl) ?_
    refine Steps.cons (fun a' w' hG hB dep => gs_load_set (want_yes rfl rfl (dep 23 rfl 74 rfl)) _ rfl _ (hG.other 3 rfl) _ (blk_then ha hB) rfl) ?_
    refine Steps.cons (fun a' w' hG hB dep => gs_meet (want_yes rfl rfl (dep 23 rfl 74 rfl)) _ _ _ rfl _ _ (dep 24 rfl 75 rfl) (dep 25 rfl 76 rfl) (fun _ => rfl)) ?_
    refine Steps.cons (fun a' w' hG hB dep => gs_load_set (want_yes rfl rfl (dep 23 rfl 74 rfl)) _ rfl _ (hG.other 3 rfl) _ (blk_then ha hB) rfl) ?_
    refine Steps.cons (fun a' w' hG hB dep => gs_neq_set (want_yes rfl rfl (dep 23 rfl 74 rfl)) _ _ _ rfl _ _ (dep 26 rfl 77 rfl) (dep 27 rfl 78 rfl) (eqF (law_f a))) ?_
    refine Steps.cons (fun a' w' hG hB dep => gs_pick (want_none rfl) _ _ _ rfl false (dep 23 rfl 74 rfl) (dep 28 rfl 79 rfl)) ?_
    refine Steps.cons (fun a' w' hG hB dep => gs_move (want_none rfl) _ rfl (dep 29 rfl 80 rfl)) ?_
    refine Steps.cons (fun a' w' hG hB dep => gs_load_set (want_yes rfl rfl (dep 30 rfl 81 rfl)) _ rfl _ (hG.other 3 rfl) _ (blk_then ha hB) rfl) ?_
    refine Steps.cons (fun a' w' hG hB dep => gs_load_set (want_yes rfl rfl (dep 30 rfl 81 rfl)) _ rfl _ (hG.other 8 rfl) _ (blk_then hn hB) rfl) ?_
    refine Steps.cons (fun a' w' hG hB dep => gs_sets2 (want_yes rfl rfl (dep 30 rfl 81 rfl)) _ _  rfl _ _ (dep 31 rfl 82 rfl) (dep 32 rfl 83 rfl) (fun _ _ h => h)) ?_
    refine Steps.cons (fun a' w' hG hB dep => gs_join (want_yes rfl rfl (dep 30 rfl 81 rfl)) _ _ rfl _ (dep 33 rfl 84 rfl) (Nat.le_of_ble_eq_true rfl) (fun _ => rfl)) ?_
    refine Steps.cons (fun a' w' hG hB dep => gs_load_set (want_yes rfl rfl (dep 30 rfl 81 rfl)) _ rfl _ (hG.other 3 rfl) _ (blk_then ha hB) rfl) ?_
    refine Steps.cons (fun a' w' hG hB dep => gs_neq_set (want_yes rfl rfl (dep 30 rfl 81 rfl)) _ _ _ rfl _ _ (dep 34 rfl 85 rfl) (dep 35 rfl 86 rfl) (eqF (law_g a))) ?_
    refine Steps.cons (fun a' w' hG hB dep => gs_pick (want_none rfl) _ _ _ rfl false (dep 30 rfl 81 rfl) (dep 36 rfl 87 rfl)) ?_
    refine Steps.cons (fun a' w' hG hB dep => gs_move (want_none rfl) _ rfl (dep 37 rfl 88 rfl)) ?_
    refine Steps.cons (fun a' w' hG hB dep => gs_load_set (want_yes rfl rfl (dep 38 rfl 89 rfl)) _ rfl _ (hG.other 3 rfl) _ (blk_then ha hB) rfl) ?_
    refine Steps.cons (fun a' w' hG hB dep => gs_load_set (want_yes rfl rfl (dep 38 rfl 89 rfl)) _ rfl _ (hG.other 9 rfl) _ (blk_then hall hB) rfl) ?_
    refine Steps.cons (fun a' w' hG hB dep => gs_meet (want_yes rfl rfl (dep 38 rfl 89 rfl)) _ _ _ rfl _ _ (dep 39 rfl 90 rfl) (dep 40 rfl 91 rfl) (fun _ => rfl)) ?_
    refine Steps.cons (fun a' w' hG hB dep => gs_load_set (want_yes rfl rfl (dep 38 rfl 89 rfl)) _ rfl _ (hG.other 3 rfl) _ (blk_then ha hB) rfl) ?_
    refine Steps.cons (fun a' w' hG hB dep => gs_neq_set (want_yes rfl rfl (dep 38 rfl 89 rfl)) _ _ _ rfl _ _ (dep 41 rfl 92 rfl) (dep 42 rfl 93 rfl) (eqF (law_h a))) ?_
    refine Steps.cons (fun a' w' hG hB dep => gs_pick (want_none rfl) _ _ _ rfl false (dep 38 rfl 89 rfl) (dep 43 rfl 94 rfl)) ?_
    refine Steps.cons (fun a' w' hG hB dep => gs_move (want_none rfl) _ rfl (dep 44 rfl 95 rfl)) ?_
    refine Steps.cons (fun a' w' hG hB dep => gs_join (want_yes rfl rfl (dep 45 rfl 96 rfl)) _ _ rfl [] ⟨_, _, _, rfl, rfl, SliceOf.nil_ _ _ _ _ _⟩ (by decide) (fun _ => rfl)) ?_
    refine Steps.cons (fun a' w' hG hB dep => gs_load_set (want_yes rfl rfl (dep 45 rfl 96 rfl)) _ rfl _ (hG.other 8 rfl) _ (blk_then hn hB) rfl) ?_
    refine Steps.cons (fun a' w' hG hB dep => gs_neq_set (want_yes rfl rfl (dep 45 rfl 96 rfl)) _ _ _ rfl _ _ (dep 46 rfl 97 rfl) (dep 47 rfl 98 rfl) (eqF law_i)) ?_
    refine Steps.cons (fun a' w' hG hB dep => gs_pick (want_none rfl) _ _ _ rfl false (dep 45 rfl 96 rfl) (dep 48 rfl 99 rfl)) ?_
    exact Steps.nil
  intro u w9 hB9 ans
  have ux : u 100 = .bool false := ans 49 100 (by decide) rfl
  clear ans
  refine wpList_nil ?_
  simp only [putAll, List.foldl_cons, List.foldl_nil, Act.put, List.setIfInBounds_toArray, List.set_cons_zero, List.set_cons_succ, ux]
  clear ux

  replace ha := blk_then ha hB9
  replace hb := blk_then hb hB9
  replace hc := blk_then hc hB9
  replace hl := blk_then hl hB9
  replace hn := blk_then hn hB9
  replace hall := blk_then hall hB9
  replace hB := below_then hB hB9
  clear hB9
  go_upto_region 10 with (fail)
  refine wp_region_steps 34 [eqS (.agg (setC a)), eqS (.agg (setC (notB a))), eqS (.bool false), eqS (.bool false), eqS (.agg (setC a)), eqS (.agg (setC a)), eqS (.agg (setC (notB a))), eqS (.agg (setC (a &&& (notB a)))), eqS (.agg (setC (ofB []))), eqS (.bool false), eqS (.bool false), eqS (.bool false), eqS (.agg (setC a)), eqS (.agg (setC a)), eqS (.agg (setC (notB a))), eqS (.agg (setC (ofB [10]))), setsS [a, (notB a), (ofB [10])], eqS (.agg (setC (joinL [a, (notB a), (ofB [10])]))), eqS (.agg (setC (spanB 0 255))), eqS (.agg (setC (ofB [10]))), setsS [(spanB 0 255), (ofB [10])], eqS (.agg (setC (joinL [(spanB 0 255), (ofB [10])]))), eqS (.bool false), eqS (.bool false), eqS (.bool false), eqS (.agg (setC a)), eqS (.agg (setC (notB a))), eqS (.agg (setC (notB (notB a)))), eqS (.agg (setC a)), eqS (.agg (setC (ofB [10]))), eqS (.agg (setC (notB (ofB [10])))), eqS (.agg (setC (a &&& (notB (ofB [10]))))), eqS (.bool false), eqS (.bool false)] [101, 102, 103, 104, 105, 106, 107, 108, 109, 110, 111, 112, 113, 114, 115, 116, 117, 118, 119, 120, 121, 122, 123, 124, 125, 126, 127, 128, 129, 130, 131, 132, 133, 134] follows_mixed (by kernel_rfl) rfl ?_ ?_
  · refine Steps.cons (fun a' w' hG hB dep => gs_load_set (want_none rfl) _ rfl _ (hG.other 3 rfl) _ (blk_then ha hB) rfl) ?_
    refine Steps.cons (fun a' w' hG hB dep => gs_not (want_none rfl) _ _ rfl _ (dep 0 rfl 101 rfl) (fun _ => rfl)) ?_
    refine Steps.cons (fun a' w' hG hB dep => gs_has (want_none rfl) _ _ _ rfl _ 10 (by decide) (dep 1 rfl 102 rfl) rfl (fun _ => congrArg Value.bool (law_j a))) ?_
    refine Steps.cons (fun a' w' hG hB dep => gs_move (want_none rfl) _ rfl (dep 2 rfl 103 rfl)) ?_
    refine Steps.cons (fun a' w' hG hB dep => gs_load_set (want_yes rfl rfl (dep 3 rfl 104 rfl)) _ rfl _ (hG.other 3 rfl) _ (blk_then ha hB) rfl) ?_
    refine Steps.cons (fun a' w' hG hB dep => gs_load_set (want_yes rfl rfl (dep 3 rfl 104 rfl)) _ rfl _ (hG.other 3 rfl) _ (blk_then ha hB) rfl) ?_
    refine Steps.cons (fun a' w' hG hB dep => gs_not (want_yes rfl rfl (dep 3 rfl 104 rfl)) _ _ rfl _ (dep 5 rfl 106 rfl) (fun _ => rfl)) ?_
    refine Steps.cons (fun a' w' hG hB dep => gs_meet (want_yes rfl rfl (dep 3 rfl 104 rfl)) _ _ _ rfl _ _ (dep 4 rfl 105 rfl) (dep 6 rfl 107 rfl) (fun _ => rfl)) ?_
    refine Steps.cons (fun a' w' hG hB dep => gs_load_set (want_yes rfl rfl (dep 3 rfl 104 rfl)) _ rfl _ (hG.other 8 rfl) _ (blk_then hn hB) rfl) ?_
    refine Steps.cons (fun a' w' hG hB dep => gs_neq_set (want_yes rfl rfl (dep 3 rfl 104 rfl)) _ _ _ rfl _ _ (dep 7 rfl 108 rfl) (dep 8 rfl 109 rfl) (eqF (law_k a))) ?_
    refine Steps.cons (fun a' w' hG hB dep => gs_pick (want_none rfl) _ _ _ rfl false (dep 3 rfl 104 rfl) (dep 9 rfl 110 rfl)) ?_
    refine Steps.cons (fun a' w' hG hB dep => gs_move (want_none rfl) _ rfl (dep 10 rfl 111 rfl)) ?_
    refine Steps.cons (fun a' w' hG hB dep => gs_load_set (want_yes rfl rfl (dep 11 rfl 112 rfl)) _ rfl _ (hG.other 3 rfl) _ (blk_then ha hB) rfl) ?_
    refine Steps.cons (fun a' w' hG hB dep => gs_load_set (want_yes rfl rfl (dep 11 rfl 112 rfl)) _ rfl _ (hG.other 3 rfl) _ (blk_then ha hB) rfl) ?_
    refine Steps.cons (fun a' w' hG hB dep => gs_not (want_yes rfl rfl (dep 11 rfl 112 rfl)) _ _ rfl _ (dep 13 rfl 114 rfl) (fun _ => rfl)) ?_
    refine Steps.cons (fun a' w' hG hB dep => gs_load_set (want_yes rfl rfl (dep 11 rfl 112 rfl)) _ rfl _ (hG.other 7 rfl) _ (blk_then hl hB) rfl) ?_
    refine Steps.cons (fun a' w' hG hB dep => gs_sets3 (want_yes rfl rfl (dep 11 rfl 112 rfl)) _ _ _  rfl _ _ _ (dep 12 rfl 113 rfl) (dep 14 rfl 115 rfl) (dep 15 rfl 116 rfl) (fun _ _ h => h)) ?_
    refine Steps.cons (fun a' w' hG hB dep => gs_join (want_yes rfl rfl (dep 11 rfl 112 rfl)) _ _ rfl _ (dep 16 rfl 117 rfl) (Nat.le_of_ble_eq_true rfl) (fun _ => rfl)) ?_
    refine Steps.cons (fun a' w' hG hB dep => gs_load_set (want_yes rfl rfl (dep 11 rfl 112 rfl)) _ rfl _ (hG.other 9 rfl) _ (blk_then hall hB) rfl) ?_
    refine Steps.cons (fun a' w' hG hB dep => gs_load_set (want_yes rfl rfl (dep 11 rfl 112 rfl)) _ rfl _ (hG.other 7 rfl) _ (blk_then hl hB) rfl) ?_
    refine Steps.cons (fun a' w' hG hB dep => gs_sets2 (want_yes rfl rfl (dep 11 rfl 112 rfl)) _ _  rfl _ _ (dep 18 rfl 119 rfl) (dep 19 rfl 120 rfl) (fun _ _ h => h)) ?_
    refine Steps.cons (fun a' w' hG hB dep => gs_join (want_yes rfl rfl (dep 11 rfl 112 rfl)) _ _ rfl _ (dep 20 rfl 121 rfl) (Nat.le_of_ble_eq_true rfl) (fun _ => rfl)) ?_
    refine Steps.cons (fun a' w' hG hB dep => gs_neq_set (want_yes rfl rfl (dep 11 rfl 112 rfl)) _ _ _ rfl _ _ (dep 17 rfl 118 rfl) (dep 21 rfl 122 rfl) (eqF (law_l a))) ?_
    refine Steps.cons (fun a' w' hG hB dep => gs_pick (want_none rfl) _ _ _ rfl false (dep 11 rfl 112 rfl) (dep 22 rfl 123 rfl)) ?_
    refine Steps.cons (fun a' w' hG hB dep => gs_move (want_none rfl) _ rfl (dep 23 rfl 124 rfl)) ?_
    refine Steps.cons (fun a' w' hG hB dep => gs_load_set (want_yes rfl rfl (dep 24 rfl 125 rfl)) _ rfl _ (hG.other 3 rfl) _ (blk_then ha hB) rfl) ?_
    refine Steps.cons (fun a' w' hG hB dep => gs_not (want_yes rfl rfl (dep 24 rfl 125 rfl)) _ _ rfl _ (dep 25 rfl 126 rfl) (fun _ => rfl)) ?_
    refine Steps.cons (fun a' w' hG hB dep => gs_not (want_yes rfl rfl (dep 24 rfl 125 rfl)) _ _ rfl _ (dep 26 rfl 127 rfl) (fun _ => rfl)) ?_
    refine Steps.cons (fun a' w' hG hB dep => gs_load_set (want_yes rfl rfl (dep 24 rfl 125 rfl)) _ rfl _ (hG.other 3 rfl) _ (blk_then ha hB) rfl) ?_
    refine Steps.cons (fun a' w' hG hB dep => gs_load_set (want_yes rfl rfl (dep 24 rfl 125 rfl)) _ rfl _ (hG.other 7 rfl) _ (blk_then hl hB) rfl) ?_
    refine Steps.cons (fun a' w' hG hB dep => gs_not (want_yes rfl rfl (dep 24 rfl 125 rfl)) _ _ rfl _ (dep 29 rfl 130 rfl) (fun _ => rfl)) ?_
    refine Steps.cons (fun a' w' hG hB dep => gs_meet (want_yes rfl rfl (dep 24 rfl 125 rfl)) _ _ _ rfl _ _ (dep 28 rfl 129 rfl) (dep 30 rfl 131 rfl) (fun _ => rfl)) ?_
    refine Steps.cons (fun a' w' hG hB dep => gs_neq_set (want_yes rfl rfl (dep 24 rfl 125 rfl)) _ _ _ rfl _ _ (dep 27 rfl 128 rfl) (dep 31 rfl 132 rfl) (eqF (law_m a))) ?_
    refine Steps.cons (fun a' w' hG hB dep => gs_pick (want_none rfl) _ _ _ rfl false (dep 24 rfl 125 rfl) (dep 32 rfl 133 rfl)) ?_
    exact Steps.nil
  intro u w10 hB10 ans
  have ux : u 134 = .bool false := ans 33 134 (by decide) rfl
  clear ans
  refine wpList_nil ?_
  simp only [putAll, List.foldl_cons, List.foldl_nil, Act.put, List.setIfInBounds_toArray, List.set_cons_zero, List.set_cons_succ, ux]
  clear ux

  replace ha := blk_then ha hB10
  replace hb := blk_then hb hB10
  replace hc := blk_then hc hB10
  replace hl := blk_then hl hB10
  replace hn := blk_then hn hB10
  replace hall := blk_then hall hB10
  replace hB := below_then hB hB10
  clear hB10
  go_upto_region 12 with (fail)
  refine wp_region_steps 30 [eqS (.agg (setC a)), eqS (.agg (setC b)), setsS [a, b], eqS (.agg (setC (joinL [a, b]))), eqS (.agg (setC (notB (joinL [a, b])))), eqS (.agg (setC a)), eqS (.agg (setC (notB a))), eqS (.agg (setC b)), eqS (.agg (setC (notB b))), eqS (.agg (setC ((notB a) &&& (notB b)))), eqS (.bool true), eqS (.bool true), eqS (.agg (setC a)), eqS (.agg (setC b)), setsS [a, b], eqS (.agg (setC (joinL [a, b]))), eqS (.int .i64 ((cnt (joinL [a, b]) : Int))), eqS (.agg (setC a)), eqS (.agg (setC b)), eqS (.agg (setC (a &&& b))), eqS (.int .i64 ((cnt (a &&& b) : Int))), eqS (.int .i64 (((cnt (joinL [a, b]) : Int)) + ((cnt (a &&& b) : Int)))), eqS (.agg (setC a)), eqS (.int .i64 ((cnt a : Int))), eqS (.agg (setC b)), eqS (.int .i64 ((cnt b : Int))), eqS (.int .i64 (((cnt a : Int)) + ((cnt b : Int)))), eqS (.bool true), eqS (.bool true), eqS (.bool true)] [135, 136, 137, 138, 139, 140, 141, 142, 143, 144, 145, 146, 147, 148, 149, 150, 151, 152, 153, 154, 155, 156, 157, 158, 159, 160, 161, 162, 163, 6] follows_mixed (by kernel_rfl) rfl ?_ ?_
  · refine Steps.cons (fun a' w' hG hB dep => gs_load_set (want_none rfl) _ rfl _ (hG.other 3 rfl) _ (blk_then ha hB) rfl) ?_
    refine Steps.cons (fun a' w' hG hB dep => gs_load_set (want_none rfl) _ rfl _ (hG.other 4 rfl) _ (blk_then hb hB) rfl) ?_
    refine Steps.cons (fun a' w' hG hB dep => gs_sets2 (want_none rfl) _ _  rfl _ _ (dep 0 rfl 135 rfl) (dep 1 rfl 136 rfl) (fun _ _ h => h)) ?_
    refine Steps.cons (fun a' w' hG hB dep => gs_join (want_none rfl) _ _ rfl _ (dep 2 rfl 137 rfl) (Nat.le_of_ble_eq_true rfl) (fun _ => rfl)) ?_
    refine Steps.cons (fun a' w' hG hB dep => gs_not (want_none rfl) _ _ rfl _ (dep 3 rfl 138 rfl) (fun _ => rfl)) ?_
    refine Steps.cons (fun a' w' hG hB dep => gs_load_set (want_none rfl) _ rfl _ (hG.other 3 rfl) _ (blk_then ha hB) rfl) ?_
    refine Steps.cons (fun a' w' hG hB dep => gs_not (want_none rfl) _ _ rfl _ (dep 5 rfl 140 rfl) (fun _ => rfl)) ?_
    refine Steps.cons (fun a' w' hG hB dep => gs_load_set (want_none rfl) _ rfl _ (hG.other 4 rfl) _ (blk_then hb hB) rfl) ?_
    refine Steps.cons (fun a' w' hG hB dep => gs_not (want_none rfl) _ _ rfl _ (dep 7 rfl 142 rfl) (fun _ => rfl)) ?_
    refine Steps.cons (fun a' w' hG hB dep => gs_meet (want_none rfl) _ _ _ rfl _ _ (dep 6 rfl 141 rfl) (dep 8 rfl 143 rfl) (fun _ => rfl)) ?_
    refine Steps.cons (fun a' w' hG hB dep => gs_eql_set (want_none rfl) _ _ _ rfl _ _ (dep 4 rfl 139 rfl) (dep 9 rfl 144 rfl) (eqT (law_n a b))) ?_
    refine Steps.cons (fun a' w' hG hB dep => gs_move (want_none rfl) _ rfl (dep 10 rfl 145 rfl)) ?_
    refine Steps.cons (fun a' w' hG hB dep => gs_load_set (want_yes rfl rfl (dep 11 rfl 146 rfl)) _ rfl _ (hG.other 3 rfl) _ (blk_then ha hB) rfl) ?_
    refine Steps.cons (fun a' w' hG hB dep => gs_load_set (want_yes rfl rfl (dep 11 rfl 146 rfl)) _ rfl _ (hG.other 4 rfl) _ (blk_then hb hB) rfl) ?_
    refine Steps.cons (fun a' w' hG hB dep => gs_sets2 (want_yes rfl rfl (dep 11 rfl 146 rfl)) _ _  rfl _ _ (dep 12 rfl 147 rfl) (dep 13 rfl 148 rfl) (fun _ _ h => h)) ?_
    refine Steps.cons (fun a' w' hG hB dep => gs_join (want_yes rfl rfl (dep 11 rfl 146 rfl)) _ _ rfl _ (dep 14 rfl 149 rfl) (Nat.le_of_ble_eq_true rfl) (fun _ => rfl)) ?_
    refine Steps.cons (fun a' w' hG hB dep => gs_count (want_yes rfl rfl (dep 11 rfl 146 rfl)) _ _ rfl _ (dep 15 rfl 150 rfl) (fun _ => rfl)) ?_
    refine Steps.cons (fun a' w' hG hB dep => gs_load_set (want_yes rfl rfl (dep 11 rfl 146 rfl)) _ rfl _ (hG.other 3 rfl) _ (blk_then ha hB) rfl) ?_
    refine Steps.cons (fun a' w' hG hB dep => gs_load_set (want_yes rfl rfl (dep 11 rfl 146 rfl)) _ rfl _ (hG.other 4 rfl) _ (blk_then hb hB) rfl) ?_
    refine Steps.cons (fun a' w' hG hB dep => gs_meet (want_yes rfl rfl (dep 11 rfl 146 rfl)) _ _ _ rfl _ _ (dep 17 rfl 152 rfl) (dep 18 rfl 153 rfl) (fun _ => rfl)) ?_
    refine Steps.cons (fun a' w' hG hB dep => gs_count (want_yes rfl rfl (dep 11 rfl 146 rfl)) _ _ rfl _ (dep 19 rfl 154 rfl) (fun _ => rfl)) ?_
    refine Steps.cons (fun a' w' hG hB dep => gs_add_i64 (want_yes rfl rfl (dep 11 rfl 146 rfl)) _ _ _ _ rfl _ _ (dep 16 rfl 151 rfl) (dep 20 rfl 155 rfl) (wrap_cnt (joinL [a, b]) (a &&& b)) rfl) ?_
    refine Steps.cons (fun a' w' hG hB dep => gs_load_set (want_yes rfl rfl (dep 11 rfl 146 rfl)) _ rfl _ (hG.other 3 rfl) _ (blk_then ha hB) rfl) ?_
    refine Steps.cons (fun a' w' hG hB dep => gs_count (want_yes rfl rfl (dep 11 rfl 146 rfl)) _ _ rfl _ (dep 22 rfl 157 rfl) (fun _ => rfl)) ?_
    refine Steps.cons (fun a' w' hG hB dep => gs_load_set (want_yes rfl rfl (dep 11 rfl 146 rfl)) _ rfl _ (hG.other 4 rfl) _ (blk_then hb hB) rfl) ?_
    refine Steps.cons (fun a' w' hG hB dep => gs_count (want_yes rfl rfl (dep 11 rfl 146 rfl)) _ _ rfl _ (dep 24 rfl 159 rfl) (fun _ => rfl)) ?_
    refine Steps.cons (fun a' w' hG hB dep => gs_add_i64 (want_yes rfl rfl (dep 11 rfl 146 rfl)) _ _ _ _ rfl _ _ (dep 23 rfl 158 rfl) (dep 25 rfl 160 rfl) (wrap_cnt a b) rfl) ?_
    refine Steps.cons (fun a' w' hG hB dep => gs_eql_int (want_yes rfl rfl (dep 11 rfl 146 rfl)) _ _ _ _ rfl _ _ _ (dep 21 rfl 156 rfl) (dep 26 rfl 161 rfl) (eqTI (law_o a b))) ?_
    refine Steps.cons (fun a' w' hG hB dep => gs_pick (want_none rfl) _ _ _ rfl true (dep 11 rfl 146 rfl) (dep 27 rfl 162 rfl)) ?_
    refine Steps.cons (fun a' w' hG hB dep => gs_assign (want_none rfl) _ rfl (dep 28 rfl 163 rfl)) ?_
    exact Steps.nil
  intro u w11 hB11 ans
  have ux : u 6 = .bool true := ans 29 6 (by decide) rfl
  clear ans
  refine wpList_nil ?_
  simp only [putAll, List.foldl_cons, List.foldl_nil, Act.put, List.setIfInBounds_toArray, List.set_cons_zero, List.set_cons_succ, ux]
  clear ux

  go_wp2
  go_ret
  exact ⟨rfl, below_then hB hB11⟩

end Go.Proofs.Ytjpiebapemalfaa
