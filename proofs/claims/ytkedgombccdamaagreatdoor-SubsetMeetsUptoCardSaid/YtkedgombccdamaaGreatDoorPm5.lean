/- Part 5 of a proof; packed: the texts that it was made of follow one another. No condition beyond those named in each lemma. -/
import Derived.Test.YtkedgombccdamaaGreatDoorPm1
import Derived.Test.YtkedgombccdamaaGreatDoorPm2
import Derived.Test.YtkedgombccdamaaGreatDoorPm4
import Derived.Lib.Bytealg
import Derived.Lib.IndexLaws
import Derived.Lib.Strings
import Derived.Lib.Walk
namespace Go.Proofs.YtkedgombccdamaaGreatDoor
open Go.RowKit
set_option linter.unusedVariables false
set_option linter.unusedSimpArgs false
theorem alnum_l : (⟨#[97, 108, 110, 117, 109]⟩ : ByteArray).toList = [97, 108, 110, 117, 109] := by rw [ByteArray.toList_eq]
def cls_alnum : BSet := (joinL [(joinL [(spanB 48 57), (spanB 65 90)]), (spanB 97 122)])
set_option maxRecDepth 100000 in
set_option maxHeartbeats 1000000 in
theorem class_alnum (s : ByteArray) (w : World) (hs : Hid (s.toList = [97, 108, 110, 117, 109])) : Calls Tryz.prog 100 #[.string s] w fun e w' => e = .returned (.tuple #[.agg (setC cls_alnum), .int .i64 0]) ∧ Below w.heap.size w w' := by
 have hb2 := (Blk.new w 53 (setC 0)).alloc (.cells (setC 0) 53)
 have hb4 := Blk.new' (w.alloc (.cells (setC 0) 53)) 53 (setC 0) (World.size_alloc _ _).symm
 have hB := zqc (zqc (Below.refl w.heap.size w) (.cells (setC 0) 53)) (.cells (setC 0) 53)
 unfold cls_alnum
 have q_alnum : (s.toList == [97, 108, 110, 117, 109]) = true := by rw [hs.out]; decide
 go_enter Tryz.func100, Tryz.ntmps100
 go_upto_region 15 with (fail)
 refine zqs 1 [eqS (.agg (setC (spanB 48 57)))] [32] (by kernel_rfl) rfl ?_ ?_
 ·refine Steps.cons (fun a' w' hG hB dep => gs_span (zqa rfl) _ _ _ rfl 48 57 rfl rfl (by decide) (by decide) (fun _ => rfl)) ?_
  exact Steps.nil
 intro u w3 hB3 ans
 have ux : u 32 = .agg (setC (spanB 48 57)) := ans 0 32 (by decide) rfl
 clear ans
 simp only [zqr, List.foldl_cons, List.foldl_nil, Act.put, List.setIfInBounds_toArray, List.set_cons_zero, List.set_cons_succ, ux]
 clear ux
 go_upto_region 16 with (refine zqm rfl _ _ rfl _ _ rfl rfl _ (zqb hb4 hB3) ?_; intro w4 hb4' hg4)
 replace hb2 := zqk (zqb hb2 hB3) hg4 (by omega)
 replace hB := zqh (zqd hB hB3) hg4 (by omega)
 replace hb4 := hb4'
 clear hb4' hg4 hB3
 obtain ⟨wv, hwv⟩ : ∃ x, x = w4 := ⟨_, rfl⟩
 rw [← hwv] at hb2 hb4 hB ⊢
 clear hwv w4
 go_upto_region 16 with (fail)
 refine zql 4 [eqS (.agg (setC (spanB 48 57))), eqS (.agg (setC (spanB 65 90))), setsS [(spanB 48 57), (spanB 65 90)], eqS (.agg (setC (joinL [(spanB 48 57), (spanB 65 90)])))] [33, 34, 35, 36] zqp (by kernel_rfl) rfl ?_ ?_
 ·refine Steps.cons (fun a' w' hG hB dep => zxj (zqa rfl) _ rfl _ (hG.other 4 rfl) _ (zqb hb4 hB) rfl) ?_
  refine Steps.cons (fun a' w' hG hB dep => gs_span (zqa rfl) _ _ _ rfl 65 90 rfl rfl (by decide) (by decide) (fun _ => rfl)) ?_
  refine Steps.cons (fun a' w' hG hB dep => gs_sets2 (zqa rfl) _ _  rfl _ _ (dep 0 rfl 33 rfl) (dep 1 rfl 34 rfl) (fun _ _ h => h)) ?_
  refine Steps.cons (fun a' w' hG hB dep => gs_join (zqa rfl) _ _ rfl _ (dep 2 rfl 35 rfl) (Nat.le_of_ble_eq_true rfl) (fun _ => rfl)) ?_
  exact Steps.nil
 intro u w3 hB3 ans
 have ux : u 36 = .agg (setC (joinL [(spanB 48 57), (spanB 65 90)])) := ans 3 36 (by decide) rfl
 clear ans
 simp only [zqr, List.foldl_cons, List.foldl_nil, Act.put, List.setIfInBounds_toArray, List.set_cons_zero, List.set_cons_succ, ux]
 clear ux
 go_upto_region 17 with (refine zqm rfl _ _ rfl _ _ rfl rfl _ (zqb hb4 hB3) ?_; intro w4 hb4' hg4)
 replace hb2 := zqk (zqb hb2 hB3) hg4 (by omega)
 replace hB := zqh (zqd hB hB3) hg4 (by omega)
 replace hb4 := hb4'
 clear hb4' hg4 hB3
 obtain ⟨wv, hwv⟩ : ∃ x, x = w4 := ⟨_, rfl⟩
 rw [← hwv] at hb2 hb4 hB ⊢
 clear hwv w4
 go_upto_region 17 with (fail)
 refine zql 4 [eqS (.agg (setC (joinL [(spanB 48 57), (spanB 65 90)]))), eqS (.agg (setC (spanB 97 122))), setsS [(joinL [(spanB 48 57), (spanB 65 90)]), (spanB 97 122)], eqS (.agg (setC (joinL [(joinL [(spanB 48 57), (spanB 65 90)]), (spanB 97 122)])))] [37, 38, 39, 40] zqp (by kernel_rfl) rfl ?_ ?_
 ·refine Steps.cons (fun a' w' hG hB dep => zxj (zqa rfl) _ rfl _ (hG.other 4 rfl) _ (zqb hb4 hB) rfl) ?_
  refine Steps.cons (fun a' w' hG hB dep => gs_span (zqa rfl) _ _ _ rfl 97 122 rfl rfl (by decide) (by decide) (fun _ => rfl)) ?_
  refine Steps.cons (fun a' w' hG hB dep => gs_sets2 (zqa rfl) _ _  rfl _ _ (dep 0 rfl 37 rfl) (dep 1 rfl 38 rfl) (fun _ _ h => h)) ?_
  refine Steps.cons (fun a' w' hG hB dep => gs_join (zqa rfl) _ _ rfl _ (dep 2 rfl 39 rfl) (Nat.le_of_ble_eq_true rfl) (fun _ => rfl)) ?_
  exact Steps.nil
 intro u w3 hB3 ans
 have ux : u 40 = .agg (setC (joinL [(joinL [(spanB 48 57), (spanB 65 90)]), (spanB 97 122)])) := ans 3 40 (by decide) rfl
 clear ans
 simp only [zqr, List.foldl_cons, List.foldl_nil, Act.put, List.setIfInBounds_toArray, List.set_cons_zero, List.set_cons_succ, ux]
 clear ux
 go_upto_region 29 with (refine zqm rfl _ _ rfl _ _ rfl rfl _ (zqb hb4 hB3) ?_; intro w4 hb4' hg4)
 replace hb2 := zqk (zqb hb2 hB3) hg4 (by omega)
 replace hB := zqh (zqd hB hB3) hg4 (by omega)
 replace hb4 := hb4'
 clear hb4' hg4 hB3
 obtain ⟨wv, hwv⟩ : ∃ x, x = w4 := ⟨_, rfl⟩
 rw [← hwv] at hb2 hb4 hB ⊢
 clear hwv w4
 go_wp2_with (first | (refine zqv rfl _ rfl _ rfl _ hb4 ?_) | (refine zqm rfl _ _ rfl _ _ rfl rfl _ hb2 ?_; intro w9 hb9 hg9))
 exact ret_set2 rfl rfl hb9 rfl ⟨rfl, zqh hB hg9 (Nat.le_refl _)⟩
def cls_punct : BSet := ((spanB 33 126) &&& (notB (cls_alnum)))
set_option maxRecDepth 100000 in
set_option maxHeartbeats 1000000 in
theorem class_punct (s : ByteArray) (w : World) (hs : Hid (s.toList = [112, 117, 110, 99, 116])) : Calls Tryz.prog 100 #[.string s] w fun e w' => e = .returned (.tuple #[.agg (setC cls_punct), .int .i64 0]) ∧ Below w.heap.size w w' := by
 have hb2 := (Blk.new w 53 (setC 0)).alloc (.cells (setC 0) 53)
 have hb4 := Blk.new' (w.alloc (.cells (setC 0) 53)) 53 (setC 0) (World.size_alloc _ _).symm
 have hB := zqc (zqc (Below.refl w.heap.size w) (.cells (setC 0) 53)) (.cells (setC 0) 53)
 unfold cls_punct
 have q_alnum : (s.toList == [97, 108, 110, 117, 109]) = false := by rw [hs.out]; decide
 have q_alpha : (s.toList == [97, 108, 112, 104, 97]) = false := by rw [hs.out]; decide
 have q_lower : (s.toList == [108, 111, 119, 101, 114]) = false := by rw [hs.out]; decide
 have q_upper : (s.toList == [117, 112, 112, 101, 114]) = false := by rw [hs.out]; decide
 have q_xdigit : (s.toList == [120, 100, 105, 103, 105, 116]) = false := by rw [hs.out]; decide
 have q_digit : (s.toList == [100, 105, 103, 105, 116]) = false := by rw [hs.out]; decide
 have q_space : (s.toList == [115, 112, 97, 99, 101]) = false := by rw [hs.out]; decide
 have q_blank : (s.toList == [98, 108, 97, 110, 107]) = false := by rw [hs.out]; decide
 have q_cntrl : (s.toList == [99, 110, 116, 114, 108]) = false := by rw [hs.out]; decide
 have q_print : (s.toList == [112, 114, 105, 110, 116]) = false := by rw [hs.out]; decide
 have q_graph : (s.toList == [103, 114, 97, 112, 104]) = false := by rw [hs.out]; decide
 have q_punct : (s.toList == [112, 117, 110, 99, 116]) = true := by rw [hs.out]; decide
 go_enter Tryz.func100, Tryz.ntmps100
 go_upto_region 27 with (first | (go_at_call 100; refine (class_alnum ⟨#[97, 108, 110, 117, 109]⟩ _ (Lib.hid alnum_l)).mono ?_; rintro e w8 ⟨rfl, hB8⟩) | (refine zqm rfl _ _ rfl _ _ rfl rfl 0 (Blk.new _ _ _) ?_; intro w9 hb5 hg9))
 have hK := zqd hB8 (zqh (zqc (Below.refl w8.heap.size w8) (.cells (setC 0) 53)) hg9 (Nat.le_refl _))
 replace hb4 := zqb hb4 hK
 replace hb2 := zqb hb2 hK
 replace hB := zqd hB hK
 clear hK hB8 hg9
 go_upto_region 27 with (fail)
 refine zql 4 [eqS (.agg (setC (spanB 33 126))), eqS (.agg (setC (cls_alnum))), eqS (.agg (setC (notB (cls_alnum)))), eqS (.agg (setC ((spanB 33 126) &&& (notB (cls_alnum)))))] [71, 72, 73, 74] zqp (by kernel_rfl) rfl ?_ ?_
 ·refine Steps.cons (fun a' w' hG hB dep => gs_span (zqa rfl) _ _ _ rfl 33 126 rfl rfl (by decide) (by decide) (fun _ => rfl)) ?_
  refine Steps.cons (fun a' w' hG hB dep => zxj (zqa rfl) _ rfl _ (hG.other 5 rfl) _ (zqb hb5 hB) rfl) ?_
  refine Steps.cons (fun a' w' hG hB dep => gs_not (zqa rfl) _ _ rfl _ (dep 1 rfl 72 rfl) (fun _ => rfl)) ?_
  refine Steps.cons (fun a' w' hG hB dep => gs_meet (zqa rfl) _ _ _ rfl _ _ (dep 0 rfl 71 rfl) (dep 2 rfl 73 rfl) (fun _ => rfl)) ?_
  exact Steps.nil
 intro u w3 hB3 ans
 have ux : u 74 = .agg (setC ((spanB 33 126) &&& (notB (cls_alnum)))) := ans 3 74 (by decide) rfl
 clear ans
 simp only [zqr, List.foldl_cons, List.foldl_nil, Act.put, List.setIfInBounds_toArray, List.set_cons_zero, List.set_cons_succ, ux]
 clear ux
 go_upto_region 29 with (refine zqm rfl _ _ rfl _ _ rfl rfl _ (zqb hb4 hB3) ?_; intro w4 hb4' hg4)
 replace hb2 := zqk (zqb hb2 hB3) hg4 (by omega)
 replace hB := zqh (zqd hB hB3) hg4 (by omega)
 replace hb4 := hb4'
 clear hb4' hg4 hB3
 obtain ⟨wv, hwv⟩ : ∃ x, x = w4 := ⟨_, rfl⟩
 rw [← hwv] at hb2 hb4 hB ⊢
 clear hwv w4
 go_wp2_with (first | (refine zqv rfl _ rfl _ rfl _ hb4 ?_) | (refine zqm rfl _ _ rfl _ _ rfl rfl _ hb2 ?_; intro w9 hb9 hg9))
 exact ret_set2 rfl rfl hb9 rfl ⟨rfl, zqh hB hg9 (Nat.le_refl _)⟩
def cls_graph : BSet := (joinL [0, (spanB 33 126)])
set_option maxRecDepth 100000 in
set_option maxHeartbeats 1000000 in
theorem class_graph (s : ByteArray) (w : World) (hs : Hid (s.toList = [103, 114, 97, 112, 104])) : Calls Tryz.prog 100 #[.string s] w fun e w' => e = .returned (.tuple #[.agg (setC cls_graph), .int .i64 0]) ∧ Below w.heap.size w w' := by
 have hb2 := (Blk.new w 53 (setC 0)).alloc (.cells (setC 0) 53)
 have hb4 := Blk.new' (w.alloc (.cells (setC 0) 53)) 53 (setC 0) (World.size_alloc _ _).symm
 have hB := zqc (zqc (Below.refl w.heap.size w) (.cells (setC 0) 53)) (.cells (setC 0) 53)
 unfold cls_graph
 have q_alnum : (s.toList == [97, 108, 110, 117, 109]) = false := by rw [hs.out]; decide
 have q_alpha : (s.toList == [97, 108, 112, 104, 97]) = false := by rw [hs.out]; decide
 have q_lower : (s.toList == [108, 111, 119, 101, 114]) = false := by rw [hs.out]; decide
 have q_upper : (s.toList == [117, 112, 112, 101, 114]) = false := by rw [hs.out]; decide
 have q_xdigit : (s.toList == [120, 100, 105, 103, 105, 116]) = false := by rw [hs.out]; decide
 have q_digit : (s.toList == [100, 105, 103, 105, 116]) = false := by rw [hs.out]; decide
 have q_space : (s.toList == [115, 112, 97, 99, 101]) = false := by rw [hs.out]; decide
 have q_blank : (s.toList == [98, 108, 97, 110, 107]) = false := by rw [hs.out]; decide
 have q_cntrl : (s.toList == [99, 110, 116, 114, 108]) = false := by rw [hs.out]; decide
 have q_print : (s.toList == [112, 114, 105, 110, 116]) = false := by rw [hs.out]; decide
 have q_graph : (s.toList == [103, 114, 97, 112, 104]) = true := by rw [hs.out]; decide
 go_enter Tryz.func100, Tryz.ntmps100
 go_upto_region 25 with (fail)
 refine zql 4 [eqS (.agg (setC 0)), eqS (.agg (setC (spanB 33 126))), setsS [0, (spanB 33 126)], eqS (.agg (setC (joinL [0, (spanB 33 126)])))] [63, 64, 65, 66] zqp (by kernel_rfl) rfl ?_ ?_
 ·refine Steps.cons (fun a' w' hG hB dep => zxj (zqa rfl) _ rfl _ (hG.other 4 rfl) _ (zqb hb4 hB) rfl) ?_
  refine Steps.cons (fun a' w' hG hB dep => gs_span (zqa rfl) _ _ _ rfl 33 126 rfl rfl (by decide) (by decide) (fun _ => rfl)) ?_
  refine Steps.cons (fun a' w' hG hB dep => gs_sets2 (zqa rfl) _ _  rfl _ _ (dep 0 rfl 63 rfl) (dep 1 rfl 64 rfl) (fun _ _ h => h)) ?_
  refine Steps.cons (fun a' w' hG hB dep => gs_join (zqa rfl) _ _ rfl _ (dep 2 rfl 65 rfl) (Nat.le_of_ble_eq_true rfl) (fun _ => rfl)) ?_
  exact Steps.nil
 intro u w3 hB3 ans
 have ux : u 66 = .agg (setC (joinL [0, (spanB 33 126)])) := ans 3 66 (by decide) rfl
 clear ans
 simp only [zqr, List.foldl_cons, List.foldl_nil, Act.put, List.setIfInBounds_toArray, List.set_cons_zero, List.set_cons_succ, ux]
 clear ux
 go_upto_region 29 with (refine zqm rfl _ _ rfl _ _ rfl rfl _ (zqb hb4 hB3) ?_; intro w4 hb4' hg4)
 replace hb2 := zqk (zqb hb2 hB3) hg4 (by omega)
 replace hB := zqh (zqd hB hB3) hg4 (by omega)
 replace hb4 := hb4'
 clear hb4' hg4 hB3
 obtain ⟨wv, hwv⟩ : ∃ x, x = w4 := ⟨_, rfl⟩
 rw [← hwv] at hb2 hb4 hB ⊢
 clear hwv w4
 go_wp2_with (first | (refine zqv rfl _ rfl _ rfl _ hb4 ?_) | (refine zqm rfl _ _ rfl _ _ rfl rfl _ hb2 ?_; intro w9 hb9 hg9))
 exact ret_set2 rfl rfl hb9 rfl ⟨rfl, zqh hB hg9 (Nat.le_refl _)⟩
def cls_alpha : BSet := (joinL [(joinL [0, (spanB 65 90)]), (spanB 97 122)])
set_option maxRecDepth 100000 in
set_option maxHeartbeats 1000000 in
theorem class_alpha (s : ByteArray) (w : World) (hs : Hid (s.toList = [97, 108, 112, 104, 97])) : Calls Tryz.prog 100 #[.string s] w fun e w' => e = .returned (.tuple #[.agg (setC cls_alpha), .int .i64 0]) ∧ Below w.heap.size w w' := by
 have hb2 := (Blk.new w 53 (setC 0)).alloc (.cells (setC 0) 53)
 have hb4 := Blk.new' (w.alloc (.cells (setC 0) 53)) 53 (setC 0) (World.size_alloc _ _).symm
 have hB := zqc (zqc (Below.refl w.heap.size w) (.cells (setC 0) 53)) (.cells (setC 0) 53)
 unfold cls_alpha
 have q_alnum : (s.toList == [97, 108, 110, 117, 109]) = false := by rw [hs.out]; decide
 have q_alpha : (s.toList == [97, 108, 112, 104, 97]) = true := by rw [hs.out]; decide
 go_enter Tryz.func100, Tryz.ntmps100
 go_upto_region 16 with (fail)
 refine zql 4 [eqS (.agg (setC 0)), eqS (.agg (setC (spanB 65 90))), setsS [0, (spanB 65 90)], eqS (.agg (setC (joinL [0, (spanB 65 90)])))] [33, 34, 35, 36] zqp (by kernel_rfl) rfl ?_ ?_
 ·refine Steps.cons (fun a' w' hG hB dep => zxj (zqa rfl) _ rfl _ (hG.other 4 rfl) _ (zqb hb4 hB) rfl) ?_
  refine Steps.cons (fun a' w' hG hB dep => gs_span (zqa rfl) _ _ _ rfl 65 90 rfl rfl (by decide) (by decide) (fun _ => rfl)) ?_
  refine Steps.cons (fun a' w' hG hB dep => gs_sets2 (zqa rfl) _ _  rfl _ _ (dep 0 rfl 33 rfl) (dep 1 rfl 34 rfl) (fun _ _ h => h)) ?_
  refine Steps.cons (fun a' w' hG hB dep => gs_join (zqa rfl) _ _ rfl _ (dep 2 rfl 35 rfl) (Nat.le_of_ble_eq_true rfl) (fun _ => rfl)) ?_
  exact Steps.nil
 intro u w3 hB3 ans
 have ux : u 36 = .agg (setC (joinL [0, (spanB 65 90)])) := ans 3 36 (by decide) rfl
 clear ans
 simp only [zqr, List.foldl_cons, List.foldl_nil, Act.put, List.setIfInBounds_toArray, List.set_cons_zero, List.set_cons_succ, ux]
 clear ux
 go_upto_region 17 with (refine zqm rfl _ _ rfl _ _ rfl rfl _ (zqb hb4 hB3) ?_; intro w4 hb4' hg4)
 replace hb2 := zqk (zqb hb2 hB3) hg4 (by omega)
 replace hB := zqh (zqd hB hB3) hg4 (by omega)
 replace hb4 := hb4'
 clear hb4' hg4 hB3
 obtain ⟨wv, hwv⟩ : ∃ x, x = w4 := ⟨_, rfl⟩
 rw [← hwv] at hb2 hb4 hB ⊢
 clear hwv w4
 go_upto_region 17 with (fail)
 refine zql 4 [eqS (.agg (setC (joinL [0, (spanB 65 90)]))), eqS (.agg (setC (spanB 97 122))), setsS [(joinL [0, (spanB 65 90)]), (spanB 97 122)], eqS (.agg (setC (joinL [(joinL [0, (spanB 65 90)]), (spanB 97 122)])))] [37, 38, 39, 40] zqp (by kernel_rfl) rfl ?_ ?_
 ·refine Steps.cons (fun a' w' hG hB dep => zxj (zqa rfl) _ rfl _ (hG.other 4 rfl) _ (zqb hb4 hB) rfl) ?_
  refine Steps.cons (fun a' w' hG hB dep => gs_span (zqa rfl) _ _ _ rfl 97 122 rfl rfl (by decide) (by decide) (fun _ => rfl)) ?_
  refine Steps.cons (fun a' w' hG hB dep => gs_sets2 (zqa rfl) _ _  rfl _ _ (dep 0 rfl 37 rfl) (dep 1 rfl 38 rfl) (fun _ _ h => h)) ?_
  refine Steps.cons (fun a' w' hG hB dep => gs_join (zqa rfl) _ _ rfl _ (dep 2 rfl 39 rfl) (Nat.le_of_ble_eq_true rfl) (fun _ => rfl)) ?_
  exact Steps.nil
 intro u w3 hB3 ans
 have ux : u 40 = .agg (setC (joinL [(joinL [0, (spanB 65 90)]), (spanB 97 122)])) := ans 3 40 (by decide) rfl
 clear ans
 simp only [zqr, List.foldl_cons, List.foldl_nil, Act.put, List.setIfInBounds_toArray, List.set_cons_zero, List.set_cons_succ, ux]
 clear ux
 go_upto_region 29 with (refine zqm rfl _ _ rfl _ _ rfl rfl _ (zqb hb4 hB3) ?_; intro w4 hb4' hg4)
 replace hb2 := zqk (zqb hb2 hB3) hg4 (by omega)
 replace hB := zqh (zqd hB hB3) hg4 (by omega)
 replace hb4 := hb4'
 clear hb4' hg4 hB3
 obtain ⟨wv, hwv⟩ : ∃ x, x = w4 := ⟨_, rfl⟩
 rw [← hwv] at hb2 hb4 hB ⊢
 clear hwv w4
 go_wp2_with (first | (refine zqv rfl _ rfl _ rfl _ hb4 ?_) | (refine zqm rfl _ _ rfl _ _ rfl rfl _ hb2 ?_; intro w9 hb9 hg9))
 exact ret_set2 rfl rfl hb9 rfl ⟨rfl, zqh hB hg9 (Nat.le_refl _)⟩
def cls_lower : BSet := (joinL [0, (spanB 97 122)])
set_option maxRecDepth 100000 in
set_option maxHeartbeats 1000000 in
theorem class_lower (s : ByteArray) (w : World) (hs : Hid (s.toList = [108, 111, 119, 101, 114])) : Calls Tryz.prog 100 #[.string s] w fun e w' => e = .returned (.tuple #[.agg (setC cls_lower), .int .i64 0]) ∧ Below w.heap.size w w' := by
 have hb2 := (Blk.new w 53 (setC 0)).alloc (.cells (setC 0) 53)
 have hb4 := Blk.new' (w.alloc (.cells (setC 0) 53)) 53 (setC 0) (World.size_alloc _ _).symm
 have hB := zqc (zqc (Below.refl w.heap.size w) (.cells (setC 0) 53)) (.cells (setC 0) 53)
 unfold cls_lower
 have q_alnum : (s.toList == [97, 108, 110, 117, 109]) = false := by rw [hs.out]; decide
 have q_alpha : (s.toList == [97, 108, 112, 104, 97]) = false := by rw [hs.out]; decide
 have q_lower : (s.toList == [108, 111, 119, 101, 114]) = true := by rw [hs.out]; decide
 go_enter Tryz.func100, Tryz.ntmps100
 go_upto_region 17 with (fail)
 refine zql 4 [eqS (.agg (setC 0)), eqS (.agg (setC (spanB 97 122))), setsS [0, (spanB 97 122)], eqS (.agg (setC (joinL [0, (spanB 97 122)])))] [37, 38, 39, 40] zqp (by kernel_rfl) rfl ?_ ?_
 ·refine Steps.cons (fun a' w' hG hB dep => zxj (zqa rfl) _ rfl _ (hG.other 4 rfl) _ (zqb hb4 hB) rfl) ?_
  refine Steps.cons (fun a' w' hG hB dep => gs_span (zqa rfl) _ _ _ rfl 97 122 rfl rfl (by decide) (by decide) (fun _ => rfl)) ?_
  refine Steps.cons (fun a' w' hG hB dep => gs_sets2 (zqa rfl) _ _  rfl _ _ (dep 0 rfl 37 rfl) (dep 1 rfl 38 rfl) (fun _ _ h => h)) ?_
  refine Steps.cons (fun a' w' hG hB dep => gs_join (zqa rfl) _ _ rfl _ (dep 2 rfl 39 rfl) (Nat.le_of_ble_eq_true rfl) (fun _ => rfl)) ?_
  exact Steps.nil
 intro u w3 hB3 ans
 have ux : u 40 = .agg (setC (joinL [0, (spanB 97 122)])) := ans 3 40 (by decide) rfl
 clear ans
 simp only [zqr, List.foldl_cons, List.foldl_nil, Act.put, List.setIfInBounds_toArray, List.set_cons_zero, List.set_cons_succ, ux]
 clear ux
 go_upto_region 29 with (refine zqm rfl _ _ rfl _ _ rfl rfl _ (zqb hb4 hB3) ?_; intro w4 hb4' hg4)
 replace hb2 := zqk (zqb hb2 hB3) hg4 (by omega)
 replace hB := zqh (zqd hB hB3) hg4 (by omega)
 replace hb4 := hb4'
 clear hb4' hg4 hB3
 obtain ⟨wv, hwv⟩ : ∃ x, x = w4 := ⟨_, rfl⟩
 rw [← hwv] at hb2 hb4 hB ⊢
 clear hwv w4
 go_wp2_with (first | (refine zqv rfl _ rfl _ rfl _ hb4 ?_) | (refine zqm rfl _ _ rfl _ _ rfl rfl _ hb2 ?_; intro w9 hb9 hg9))
 exact ret_set2 rfl rfl hb9 rfl ⟨rfl, zqh hB hg9 (Nat.le_refl _)⟩
def cls_upper : BSet := (spanB 65 90)
set_option maxRecDepth 100000 in
set_option maxHeartbeats 1000000 in
theorem class_upper (s : ByteArray) (w : World) (hs : Hid (s.toList = [117, 112, 112, 101, 114])) : Calls Tryz.prog 100 #[.string s] w fun e w' => e = .returned (.tuple #[.agg (setC cls_upper), .int .i64 0]) ∧ Below w.heap.size w w' := by
 have hb2 := (Blk.new w 53 (setC 0)).alloc (.cells (setC 0) 53)
 have hb4 := Blk.new' (w.alloc (.cells (setC 0) 53)) 53 (setC 0) (World.size_alloc _ _).symm
 have hB := zqc (zqc (Below.refl w.heap.size w) (.cells (setC 0) 53)) (.cells (setC 0) 53)
 unfold cls_upper
 have q_alnum : (s.toList == [97, 108, 110, 117, 109]) = false := by rw [hs.out]; decide
 have q_alpha : (s.toList == [97, 108, 112, 104, 97]) = false := by rw [hs.out]; decide
 have q_lower : (s.toList == [108, 111, 119, 101, 114]) = false := by rw [hs.out]; decide
 have q_upper : (s.toList == [117, 112, 112, 101, 114]) = true := by rw [hs.out]; decide
 go_enter Tryz.func100, Tryz.ntmps100
 go_upto_region 18 with (fail)
 refine zqs 1 [eqS (.agg (setC (spanB 65 90)))] [41] (by kernel_rfl) rfl ?_ ?_
 ·refine Steps.cons (fun a' w' hG hB dep => gs_span (zqa rfl) _ _ _ rfl 65 90 rfl rfl (by decide) (by decide) (fun _ => rfl)) ?_
  exact Steps.nil
 intro u w3 hB3 ans
 have ux : u 41 = .agg (setC (spanB 65 90)) := ans 0 41 (by decide) rfl
 clear ans
 simp only [zqr, List.foldl_cons, List.foldl_nil, Act.put, List.setIfInBounds_toArray, List.set_cons_zero, List.set_cons_succ, ux]
 clear ux
 go_upto_region 29 with (refine zqm rfl _ _ rfl _ _ rfl rfl _ (zqb hb4 hB3) ?_; intro w4 hb4' hg4)
 replace hb2 := zqk (zqb hb2 hB3) hg4 (by omega)
 replace hB := zqh (zqd hB hB3) hg4 (by omega)
 replace hb4 := hb4'
 clear hb4' hg4 hB3
 obtain ⟨wv, hwv⟩ : ∃ x, x = w4 := ⟨_, rfl⟩
 rw [← hwv] at hb2 hb4 hB ⊢
 clear hwv w4
 go_wp2_with (first | (refine zqv rfl _ rfl _ rfl _ hb4 ?_) | (refine zqm rfl _ _ rfl _ _ rfl rfl _ hb2 ?_; intro w9 hb9 hg9))
 exact ret_set2 rfl rfl hb9 rfl ⟨rfl, zqh hB hg9 (Nat.le_refl _)⟩
def cls_xdigit : BSet := (joinL [(joinL [(spanB 65 70), (spanB 97 102)]), (spanB 48 57)])
set_option maxRecDepth 100000 in
set_option maxHeartbeats 1000000 in
theorem class_xdigit (s : ByteArray) (w : World) (hs : Hid (s.toList = [120, 100, 105, 103, 105, 116])) : Calls Tryz.prog 100 #[.string s] w fun e w' => e = .returned (.tuple #[.agg (setC cls_xdigit), .int .i64 0]) ∧ Below w.heap.size w w' := by
 have hb2 := (Blk.new w 53 (setC 0)).alloc (.cells (setC 0) 53)
 have hb4 := Blk.new' (w.alloc (.cells (setC 0) 53)) 53 (setC 0) (World.size_alloc _ _).symm
 have hB := zqc (zqc (Below.refl w.heap.size w) (.cells (setC 0) 53)) (.cells (setC 0) 53)
 unfold cls_xdigit
 have q_alnum : (s.toList == [97, 108, 110, 117, 109]) = false := by rw [hs.out]; decide
 have q_alpha : (s.toList == [97, 108, 112, 104, 97]) = false := by rw [hs.out]; decide
 have q_lower : (s.toList == [108, 111, 119, 101, 114]) = false := by rw [hs.out]; decide
 have q_upper : (s.toList == [117, 112, 112, 101, 114]) = false := by rw [hs.out]; decide
 have q_xdigit : (s.toList == [120, 100, 105, 103, 105, 116]) = true := by rw [hs.out]; decide
 go_enter Tryz.func100, Tryz.ntmps100
 go_upto_region 19 with (fail)
 refine zqs 4 [eqS (.agg (setC (spanB 65 70))), eqS (.agg (setC (spanB 97 102))), setsS [(spanB 65 70), (spanB 97 102)], eqS (.agg (setC (joinL [(spanB 65 70), (spanB 97 102)])))] [42, 43, 44, 45] (by kernel_rfl) rfl ?_ ?_
 ·refine Steps.cons (fun a' w' hG hB dep => gs_span (zqa rfl) _ _ _ rfl 65 70 rfl rfl (by decide) (by decide) (fun _ => rfl)) ?_
  refine Steps.cons (fun a' w' hG hB dep => gs_span (zqa rfl) _ _ _ rfl 97 102 rfl rfl (by decide) (by decide) (fun _ => rfl)) ?_
  refine Steps.cons (fun a' w' hG hB dep => gs_sets2 (zqa rfl) _ _  rfl _ _ (dep 0 rfl 42 rfl) (dep 1 rfl 43 rfl) (fun _ _ h => h)) ?_
  refine Steps.cons (fun a' w' hG hB dep => gs_join (zqa rfl) _ _ rfl _ (dep 2 rfl 44 rfl) (Nat.le_of_ble_eq_true rfl) (fun _ => rfl)) ?_
  exact Steps.nil
 intro u w3 hB3 ans
 have ux : u 45 = .agg (setC (joinL [(spanB 65 70), (spanB 97 102)])) := ans 3 45 (by decide) rfl
 clear ans
 simp only [zqr, List.foldl_cons, List.foldl_nil, Act.put, List.setIfInBounds_toArray, List.set_cons_zero, List.set_cons_succ, ux]
 clear ux
 go_upto_region 20 with (refine zqm rfl _ _ rfl _ _ rfl rfl _ (zqb hb4 hB3) ?_; intro w4 hb4' hg4)
 replace hb2 := zqk (zqb hb2 hB3) hg4 (by omega)
 replace hB := zqh (zqd hB hB3) hg4 (by omega)
 replace hb4 := hb4'
 clear hb4' hg4 hB3
 obtain ⟨wv, hwv⟩ : ∃ x, x = w4 := ⟨_, rfl⟩
 rw [← hwv] at hb2 hb4 hB ⊢
 clear hwv w4
 go_upto_region 20 with (fail)
 refine zql 4 [eqS (.agg (setC (joinL [(spanB 65 70), (spanB 97 102)]))), eqS (.agg (setC (spanB 48 57))), setsS [(joinL [(spanB 65 70), (spanB 97 102)]), (spanB 48 57)], eqS (.agg (setC (joinL [(joinL [(spanB 65 70), (spanB 97 102)]), (spanB 48 57)])))] [46, 47, 48, 49] zqp (by kernel_rfl) rfl ?_ ?_
 ·refine Steps.cons (fun a' w' hG hB dep => zxj (zqa rfl) _ rfl _ (hG.other 4 rfl) _ (zqb hb4 hB) rfl) ?_
  refine Steps.cons (fun a' w' hG hB dep => gs_span (zqa rfl) _ _ _ rfl 48 57 rfl rfl (by decide) (by decide) (fun _ => rfl)) ?_
  refine Steps.cons (fun a' w' hG hB dep => gs_sets2 (zqa rfl) _ _  rfl _ _ (dep 0 rfl 46 rfl) (dep 1 rfl 47 rfl) (fun _ _ h => h)) ?_
  refine Steps.cons (fun a' w' hG hB dep => gs_join (zqa rfl) _ _ rfl _ (dep 2 rfl 48 rfl) (Nat.le_of_ble_eq_true rfl) (fun _ => rfl)) ?_
  exact Steps.nil
 intro u w3 hB3 ans
 have ux : u 49 = .agg (setC (joinL [(joinL [(spanB 65 70), (spanB 97 102)]), (spanB 48 57)])) := ans 3 49 (by decide) rfl
 clear ans
 simp only [zqr, List.foldl_cons, List.foldl_nil, Act.put, List.setIfInBounds_toArray, List.set_cons_zero, List.set_cons_succ, ux]
 clear ux
 go_upto_region 29 with (refine zqm rfl _ _ rfl _ _ rfl rfl _ (zqb hb4 hB3) ?_; intro w4 hb4' hg4)
 replace hb2 := zqk (zqb hb2 hB3) hg4 (by omega)
 replace hB := zqh (zqd hB hB3) hg4 (by omega)
 replace hb4 := hb4'
 clear hb4' hg4 hB3
 obtain ⟨wv, hwv⟩ : ∃ x, x = w4 := ⟨_, rfl⟩
 rw [← hwv] at hb2 hb4 hB ⊢
 clear hwv w4
 go_wp2_with (first | (refine zqv rfl _ rfl _ rfl _ hb4 ?_) | (refine zqm rfl _ _ rfl _ _ rfl rfl _ hb2 ?_; intro w9 hb9 hg9))
 exact ret_set2 rfl rfl hb9 rfl ⟨rfl, zqh hB hg9 (Nat.le_refl _)⟩
def cls_digit : BSet := (joinL [0, (spanB 48 57)])
set_option maxRecDepth 100000 in
set_option maxHeartbeats 1000000 in
theorem class_digit (s : ByteArray) (w : World) (hs : Hid (s.toList = [100, 105, 103, 105, 116])) : Calls Tryz.prog 100 #[.string s] w fun e w' => e = .returned (.tuple #[.agg (setC cls_digit), .int .i64 0]) ∧ Below w.heap.size w w' := by
 have hb2 := (Blk.new w 53 (setC 0)).alloc (.cells (setC 0) 53)
 have hb4 := Blk.new' (w.alloc (.cells (setC 0) 53)) 53 (setC 0) (World.size_alloc _ _).symm
 have hB := zqc (zqc (Below.refl w.heap.size w) (.cells (setC 0) 53)) (.cells (setC 0) 53)
 unfold cls_digit
 have q_alnum : (s.toList == [97, 108, 110, 117, 109]) = false := by rw [hs.out]; decide
 have q_alpha : (s.toList == [97, 108, 112, 104, 97]) = false := by rw [hs.out]; decide
 have q_lower : (s.toList == [108, 111, 119, 101, 114]) = false := by rw [hs.out]; decide
 have q_upper : (s.toList == [117, 112, 112, 101, 114]) = false := by rw [hs.out]; decide
 have q_xdigit : (s.toList == [120, 100, 105, 103, 105, 116]) = false := by rw [hs.out]; decide
 have q_digit : (s.toList == [100, 105, 103, 105, 116]) = true := by rw [hs.out]; decide
 go_enter Tryz.func100, Tryz.ntmps100
 go_upto_region 20 with (fail)
 refine zql 4 [eqS (.agg (setC 0)), eqS (.agg (setC (spanB 48 57))), setsS [0, (spanB 48 57)], eqS (.agg (setC (joinL [0, (spanB 48 57)])))] [46, 47, 48, 49] zqp (by kernel_rfl) rfl ?_ ?_
 ·refine Steps.cons (fun a' w' hG hB dep => zxj (zqa rfl) _ rfl _ (hG.other 4 rfl) _ (zqb hb4 hB) rfl) ?_
  refine Steps.cons (fun a' w' hG hB dep => gs_span (zqa rfl) _ _ _ rfl 48 57 rfl rfl (by decide) (by decide) (fun _ => rfl)) ?_
  refine Steps.cons (fun a' w' hG hB dep => gs_sets2 (zqa rfl) _ _  rfl _ _ (dep 0 rfl 46 rfl) (dep 1 rfl 47 rfl) (fun _ _ h => h)) ?_
  refine Steps.cons (fun a' w' hG hB dep => gs_join (zqa rfl) _ _ rfl _ (dep 2 rfl 48 rfl) (Nat.le_of_ble_eq_true rfl) (fun _ => rfl)) ?_
  exact Steps.nil
 intro u w3 hB3 ans
 have ux : u 49 = .agg (setC (joinL [0, (spanB 48 57)])) := ans 3 49 (by decide) rfl
 clear ans
 simp only [zqr, List.foldl_cons, List.foldl_nil, Act.put, List.setIfInBounds_toArray, List.set_cons_zero, List.set_cons_succ, ux]
 clear ux
 go_upto_region 29 with (refine zqm rfl _ _ rfl _ _ rfl rfl _ (zqb hb4 hB3) ?_; intro w4 hb4' hg4)
 replace hb2 := zqk (zqb hb2 hB3) hg4 (by omega)
 replace hB := zqh (zqd hB hB3) hg4 (by omega)
 replace hb4 := hb4'
 clear hb4' hg4 hB3
 obtain ⟨wv, hwv⟩ : ∃ x, x = w4 := ⟨_, rfl⟩
 rw [← hwv] at hb2 hb4 hB ⊢
 clear hwv w4
 go_wp2_with (first | (refine zqv rfl _ rfl _ rfl _ hb4 ?_) | (refine zqm rfl _ _ rfl _ _ rfl rfl _ hb2 ?_; intro w9 hb9 hg9))
 exact ret_set2 rfl rfl hb9 rfl ⟨rfl, zqh hB hg9 (Nat.le_refl _)⟩
def cls_space : BSet := (joinL [(spanB 9 13), (ofB [9, 32])])
set_option maxRecDepth 100000 in
set_option maxHeartbeats 1000000 in
theorem class_space (s : ByteArray) (w : World) (hs : Hid (s.toList = [115, 112, 97, 99, 101])) : Calls Tryz.prog 100 #[.string s] w fun e w' => e = .returned (.tuple #[.agg (setC cls_space), .int .i64 0]) ∧ Below w.heap.size w w' := by
 have hb2 := (Blk.new w 53 (setC 0)).alloc (.cells (setC 0) 53)
 have hb4 := Blk.new' (w.alloc (.cells (setC 0) 53)) 53 (setC 0) (World.size_alloc _ _).symm
 have hB := zqc (zqc (Below.refl w.heap.size w) (.cells (setC 0) 53)) (.cells (setC 0) 53)
 unfold cls_space
 have q_alnum : (s.toList == [97, 108, 110, 117, 109]) = false := by rw [hs.out]; decide
 have q_alpha : (s.toList == [97, 108, 112, 104, 97]) = false := by rw [hs.out]; decide
 have q_lower : (s.toList == [108, 111, 119, 101, 114]) = false := by rw [hs.out]; decide
 have q_upper : (s.toList == [117, 112, 112, 101, 114]) = false := by rw [hs.out]; decide
 have q_xdigit : (s.toList == [120, 100, 105, 103, 105, 116]) = false := by rw [hs.out]; decide
 have q_digit : (s.toList == [100, 105, 103, 105, 116]) = false := by rw [hs.out]; decide
 have q_space : (s.toList == [115, 112, 97, 99, 101]) = true := by rw [hs.out]; decide
 go_enter Tryz.func100, Tryz.ntmps100
 go_upto_region 21 with (fail)
 refine zqs 1 [eqS (.agg (setC (spanB 9 13)))] [50] (by kernel_rfl) rfl ?_ ?_
 ·refine Steps.cons (fun a' w' hG hB dep => gs_span (zqa rfl) _ _ _ rfl 9 13 rfl rfl (by decide) (by decide) (fun _ => rfl)) ?_
  exact Steps.nil
 intro u w3 hB3 ans
 have ux : u 50 = .agg (setC (spanB 9 13)) := ans 0 50 (by decide) rfl
 clear ans
 simp only [zqr, List.foldl_cons, List.foldl_nil, Act.put, List.setIfInBounds_toArray, List.set_cons_zero, List.set_cons_succ, ux]
 clear ux
 go_upto_region 22 with (refine zqm rfl _ _ rfl _ _ rfl rfl _ (zqb hb4 hB3) ?_; intro w4 hb4' hg4)
 replace hb2 := zqk (zqb hb2 hB3) hg4 (by omega)
 replace hB := zqh (zqd hB hB3) hg4 (by omega)
 replace hb4 := hb4'
 clear hb4' hg4 hB3
 obtain ⟨wv, hwv⟩ : ∃ x, x = w4 := ⟨_, rfl⟩
 rw [← hwv] at hb2 hb4 hB ⊢
 clear hwv w4
 go_upto_region 22 with (fail)
 refine zql 5 [eqS (.agg (setC (spanB 9 13))), bytesS [9, 32], eqS (.agg (setC (ofB [9, 32]))), setsS [(spanB 9 13), (ofB [9, 32])], eqS (.agg (setC (joinL [(spanB 9 13), (ofB [9, 32])])))] [51, 52, 53, 54, 55] zqp (by kernel_rfl) rfl ?_ ?_
 ·refine Steps.cons (fun a' w' hG hB dep => zxj (zqa rfl) _ rfl _ (hG.other 4 rfl) _ (zqb hb4 hB) rfl) ?_
  refine Steps.cons (fun a' w' hG hB dep => gs_byte2 (zqa rfl) _ _  rfl 9 32 rfl rfl (fun _ _ h => h)) ?_
  refine Steps.cons (fun a' w' hG hB dep => gs_of (zqa rfl) _ _ rfl _ (dep 1 rfl 52 rfl) (Nat.le_of_ble_eq_true rfl) (fun _ => rfl)) ?_
  refine Steps.cons (fun a' w' hG hB dep => gs_sets2 (zqa rfl) _ _  rfl _ _ (dep 0 rfl 51 rfl) (dep 2 rfl 53 rfl) (fun _ _ h => h)) ?_
  refine Steps.cons (fun a' w' hG hB dep => gs_join (zqa rfl) _ _ rfl _ (dep 3 rfl 54 rfl) (Nat.le_of_ble_eq_true rfl) (fun _ => rfl)) ?_
  exact Steps.nil
 intro u w3 hB3 ans
 have ux : u 55 = .agg (setC (joinL [(spanB 9 13), (ofB [9, 32])])) := ans 4 55 (by decide) rfl
 clear ans
 simp only [zqr, List.foldl_cons, List.foldl_nil, Act.put, List.setIfInBounds_toArray, List.set_cons_zero, List.set_cons_succ, ux]
 clear ux
 go_upto_region 29 with (refine zqm rfl _ _ rfl _ _ rfl rfl _ (zqb hb4 hB3) ?_; intro w4 hb4' hg4)
 replace hb2 := zqk (zqb hb2 hB3) hg4 (by omega)
 replace hB := zqh (zqd hB hB3) hg4 (by omega)
 replace hb4 := hb4'
 clear hb4' hg4 hB3
 obtain ⟨wv, hwv⟩ : ∃ x, x = w4 := ⟨_, rfl⟩
 rw [← hwv] at hb2 hb4 hB ⊢
 clear hwv w4
 go_wp2_with (first | (refine zqv rfl _ rfl _ rfl _ hb4 ?_) | (refine zqm rfl _ _ rfl _ _ rfl rfl _ hb2 ?_; intro w9 hb9 hg9))
 exact ret_set2 rfl rfl hb9 rfl ⟨rfl, zqh hB hg9 (Nat.le_refl _)⟩
def cls_blank : BSet := (joinL [0, (ofB [9, 32])])
set_option maxRecDepth 100000 in
set_option maxHeartbeats 1000000 in
theorem class_blank (s : ByteArray) (w : World) (hs : Hid (s.toList = [98, 108, 97, 110, 107])) : Calls Tryz.prog 100 #[.string s] w fun e w' => e = .returned (.tuple #[.agg (setC cls_blank), .int .i64 0]) ∧ Below w.heap.size w w' := by
 have hb2 := (Blk.new w 53 (setC 0)).alloc (.cells (setC 0) 53)
 have hb4 := Blk.new' (w.alloc (.cells (setC 0) 53)) 53 (setC 0) (World.size_alloc _ _).symm
 have hB := zqc (zqc (Below.refl w.heap.size w) (.cells (setC 0) 53)) (.cells (setC 0) 53)
 unfold cls_blank
 have q_alnum : (s.toList == [97, 108, 110, 117, 109]) = false := by rw [hs.out]; decide
 have q_alpha : (s.toList == [97, 108, 112, 104, 97]) = false := by rw [hs.out]; decide
 have q_lower : (s.toList == [108, 111, 119, 101, 114]) = false := by rw [hs.out]; decide
 have q_upper : (s.toList == [117, 112, 112, 101, 114]) = false := by rw [hs.out]; decide
 have q_xdigit : (s.toList == [120, 100, 105, 103, 105, 116]) = false := by rw [hs.out]; decide
 have q_digit : (s.toList == [100, 105, 103, 105, 116]) = false := by rw [hs.out]; decide
 have q_space : (s.toList == [115, 112, 97, 99, 101]) = false := by rw [hs.out]; decide
 have q_blank : (s.toList == [98, 108, 97, 110, 107]) = true := by rw [hs.out]; decide
 go_enter Tryz.func100, Tryz.ntmps100
 go_upto_region 22 with (fail)
 refine zql 5 [eqS (.agg (setC 0)), bytesS [9, 32], eqS (.agg (setC (ofB [9, 32]))), setsS [0, (ofB [9, 32])], eqS (.agg (setC (joinL [0, (ofB [9, 32])])))] [51, 52, 53, 54, 55] zqp (by kernel_rfl) rfl ?_ ?_
 ·refine Steps.cons (fun a' w' hG hB dep => zxj (zqa rfl) _ rfl _ (hG.other 4 rfl) _ (zqb hb4 hB) rfl) ?_
  refine Steps.cons (fun a' w' hG hB dep => gs_byte2 (zqa rfl) _ _  rfl 9 32 rfl rfl (fun _ _ h => h)) ?_
  refine Steps.cons (fun a' w' hG hB dep => gs_of (zqa rfl) _ _ rfl _ (dep 1 rfl 52 rfl) (Nat.le_of_ble_eq_true rfl) (fun _ => rfl)) ?_
  refine Steps.cons (fun a' w' hG hB dep => gs_sets2 (zqa rfl) _ _  rfl _ _ (dep 0 rfl 51 rfl) (dep 2 rfl 53 rfl) (fun _ _ h => h)) ?_
  refine Steps.cons (fun a' w' hG hB dep => gs_join (zqa rfl) _ _ rfl _ (dep 3 rfl 54 rfl) (Nat.le_of_ble_eq_true rfl) (fun _ => rfl)) ?_
  exact Steps.nil
 intro u w3 hB3 ans
 have ux : u 55 = .agg (setC (joinL [0, (ofB [9, 32])])) := ans 4 55 (by decide) rfl
 clear ans
 simp only [zqr, List.foldl_cons, List.foldl_nil, Act.put, List.setIfInBounds_toArray, List.set_cons_zero, List.set_cons_succ, ux]
 clear ux
 go_upto_region 29 with (refine zqm rfl _ _ rfl _ _ rfl rfl _ (zqb hb4 hB3) ?_; intro w4 hb4' hg4)
 replace hb2 := zqk (zqb hb2 hB3) hg4 (by omega)
 replace hB := zqh (zqd hB hB3) hg4 (by omega)
 replace hb4 := hb4'
 clear hb4' hg4 hB3
 obtain ⟨wv, hwv⟩ : ∃ x, x = w4 := ⟨_, rfl⟩
 rw [← hwv] at hb2 hb4 hB ⊢
 clear hwv w4
 go_wp2_with (first | (refine zqv rfl _ rfl _ rfl _ hb4 ?_) | (refine zqm rfl _ _ rfl _ _ rfl rfl _ hb2 ?_; intro w9 hb9 hg9))
 exact ret_set2 rfl rfl hb9 rfl ⟨rfl, zqh hB hg9 (Nat.le_refl _)⟩
def cls_cntrl : BSet := (joinL [(spanB 0 31), (ofB [127])])
set_option maxRecDepth 100000 in
set_option maxHeartbeats 1000000 in
theorem class_cntrl (s : ByteArray) (w : World) (hs : Hid (s.toList = [99, 110, 116, 114, 108])) : Calls Tryz.prog 100 #[.string s] w fun e w' => e = .returned (.tuple #[.agg (setC cls_cntrl), .int .i64 0]) ∧ Below w.heap.size w w' := by
 have hb2 := (Blk.new w 53 (setC 0)).alloc (.cells (setC 0) 53)
 have hb4 := Blk.new' (w.alloc (.cells (setC 0) 53)) 53 (setC 0) (World.size_alloc _ _).symm
 have hB := zqc (zqc (Below.refl w.heap.size w) (.cells (setC 0) 53)) (.cells (setC 0) 53)
 unfold cls_cntrl
 have q_alnum : (s.toList == [97, 108, 110, 117, 109]) = false := by rw [hs.out]; decide
 have q_alpha : (s.toList == [97, 108, 112, 104, 97]) = false := by rw [hs.out]; decide
 have q_lower : (s.toList == [108, 111, 119, 101, 114]) = false := by rw [hs.out]; decide
 have q_upper : (s.toList == [117, 112, 112, 101, 114]) = false := by rw [hs.out]; decide
 have q_xdigit : (s.toList == [120, 100, 105, 103, 105, 116]) = false := by rw [hs.out]; decide
 have q_digit : (s.toList == [100, 105, 103, 105, 116]) = false := by rw [hs.out]; decide
 have q_space : (s.toList == [115, 112, 97, 99, 101]) = false := by rw [hs.out]; decide
 have q_blank : (s.toList == [98, 108, 97, 110, 107]) = false := by rw [hs.out]; decide
 have q_cntrl : (s.toList == [99, 110, 116, 114, 108]) = true := by rw [hs.out]; decide
 go_enter Tryz.func100, Tryz.ntmps100
 go_upto_region 23 with (fail)
 refine zqs 5 [eqS (.agg (setC (spanB 0 31))), bytesS [127], eqS (.agg (setC (ofB [127]))), setsS [(spanB 0 31), (ofB [127])], eqS (.agg (setC (joinL [(spanB 0 31), (ofB [127])])))] [56, 57, 58, 59, 60] (by kernel_rfl) rfl ?_ ?_
 ·refine Steps.cons (fun a' w' hG hB dep => gs_span (zqa rfl) _ _ _ rfl 0 31 rfl rfl (by decide) (by decide) (fun _ => rfl)) ?_
  refine Steps.cons (fun a' w' hG hB dep => gs_byte1 (zqa rfl) _  rfl 127 rfl (fun _ _ h => h)) ?_
  refine Steps.cons (fun a' w' hG hB dep => gs_of (zqa rfl) _ _ rfl _ (dep 1 rfl 57 rfl) (Nat.le_of_ble_eq_true rfl) (fun _ => rfl)) ?_
  refine Steps.cons (fun a' w' hG hB dep => gs_sets2 (zqa rfl) _ _  rfl _ _ (dep 0 rfl 56 rfl) (dep 2 rfl 58 rfl) (fun _ _ h => h)) ?_
  refine Steps.cons (fun a' w' hG hB dep => gs_join (zqa rfl) _ _ rfl _ (dep 3 rfl 59 rfl) (Nat.le_of_ble_eq_true rfl) (fun _ => rfl)) ?_
  exact Steps.nil
 intro u w3 hB3 ans
 have ux : u 60 = .agg (setC (joinL [(spanB 0 31), (ofB [127])])) := ans 4 60 (by decide) rfl
 clear ans
 simp only [zqr, List.foldl_cons, List.foldl_nil, Act.put, List.setIfInBounds_toArray, List.set_cons_zero, List.set_cons_succ, ux]
 clear ux
 go_upto_region 29 with (refine zqm rfl _ _ rfl _ _ rfl rfl _ (zqb hb4 hB3) ?_; intro w4 hb4' hg4)
 replace hb2 := zqk (zqb hb2 hB3) hg4 (by omega)
 replace hB := zqh (zqd hB hB3) hg4 (by omega)
 replace hb4 := hb4'
 clear hb4' hg4 hB3
 obtain ⟨wv, hwv⟩ : ∃ x, x = w4 := ⟨_, rfl⟩
 rw [← hwv] at hb2 hb4 hB ⊢
 clear hwv w4
 go_wp2_with (first | (refine zqv rfl _ rfl _ rfl _ hb4 ?_) | (refine zqm rfl _ _ rfl _ _ rfl rfl _ hb2 ?_; intro w9 hb9 hg9))
 exact ret_set2 rfl rfl hb9 rfl ⟨rfl, zqh hB hg9 (Nat.le_refl _)⟩
def cls_print : BSet := (joinL [(ofB [32]), (spanB 33 126)])
set_option maxRecDepth 100000 in
set_option maxHeartbeats 1000000 in
theorem class_print (s : ByteArray) (w : World) (hs : Hid (s.toList = [112, 114, 105, 110, 116])) : Calls Tryz.prog 100 #[.string s] w fun e w' => e = .returned (.tuple #[.agg (setC cls_print), .int .i64 0]) ∧ Below w.heap.size w w' := by
 have hb2 := (Blk.new w 53 (setC 0)).alloc (.cells (setC 0) 53)
 have hb4 := Blk.new' (w.alloc (.cells (setC 0) 53)) 53 (setC 0) (World.size_alloc _ _).symm
 have hB := zqc (zqc (Below.refl w.heap.size w) (.cells (setC 0) 53)) (.cells (setC 0) 53)
 unfold cls_print
 have q_alnum : (s.toList == [97, 108, 110, 117, 109]) = false := by rw [hs.out]; decide
 have q_alpha : (s.toList == [97, 108, 112, 104, 97]) = false := by rw [hs.out]; decide
 have q_lower : (s.toList == [108, 111, 119, 101, 114]) = false := by rw [hs.out]; decide
 have q_upper : (s.toList == [117, 112, 112, 101, 114]) = false := by rw [hs.out]; decide
 have q_xdigit : (s.toList == [120, 100, 105, 103, 105, 116]) = false := by rw [hs.out]; decide
 have q_digit : (s.toList == [100, 105, 103, 105, 116]) = false := by rw [hs.out]; decide
 have q_space : (s.toList == [115, 112, 97, 99, 101]) = false := by rw [hs.out]; decide
 have q_blank : (s.toList == [98, 108, 97, 110, 107]) = false := by rw [hs.out]; decide
 have q_cntrl : (s.toList == [99, 110, 116, 114, 108]) = false := by rw [hs.out]; decide
 have q_print : (s.toList == [112, 114, 105, 110, 116]) = true := by rw [hs.out]; decide
 go_enter Tryz.func100, Tryz.ntmps100
 go_upto_region 24 with (fail)
 refine zqs 2 [bytesS [32], eqS (.agg (setC (ofB [32])))] [61, 62] (by kernel_rfl) rfl ?_ ?_
 ·refine Steps.cons (fun a' w' hG hB dep => gs_byte1 (zqa rfl) _  rfl 32 rfl (fun _ _ h => h)) ?_
  refine Steps.cons (fun a' w' hG hB dep => gs_of (zqa rfl) _ _ rfl _ (dep 0 rfl 61 rfl) (Nat.le_of_ble_eq_true rfl) (fun _ => rfl)) ?_
  exact Steps.nil
 intro u w3 hB3 ans
 have ux : u 62 = .agg (setC (ofB [32])) := ans 1 62 (by decide) rfl
 clear ans
 simp only [zqr, List.foldl_cons, List.foldl_nil, Act.put, List.setIfInBounds_toArray, List.set_cons_zero, List.set_cons_succ, ux]
 clear ux
 go_upto_region 25 with (refine zqm rfl _ _ rfl _ _ rfl rfl _ (zqb hb4 hB3) ?_; intro w4 hb4' hg4)
 replace hb2 := zqk (zqb hb2 hB3) hg4 (by omega)
 replace hB := zqh (zqd hB hB3) hg4 (by omega)
 replace hb4 := hb4'
 clear hb4' hg4 hB3
 obtain ⟨wv, hwv⟩ : ∃ x, x = w4 := ⟨_, rfl⟩
 rw [← hwv] at hb2 hb4 hB ⊢
 clear hwv w4
 go_upto_region 25 with (fail)
 refine zql 4 [eqS (.agg (setC (ofB [32]))), eqS (.agg (setC (spanB 33 126))), setsS [(ofB [32]), (spanB 33 126)], eqS (.agg (setC (joinL [(ofB [32]), (spanB 33 126)])))] [63, 64, 65, 66] zqp (by kernel_rfl) rfl ?_ ?_
 ·refine Steps.cons (fun a' w' hG hB dep => zxj (zqa rfl) _ rfl _ (hG.other 4 rfl) _ (zqb hb4 hB) rfl) ?_
  refine Steps.cons (fun a' w' hG hB dep => gs_span (zqa rfl) _ _ _ rfl 33 126 rfl rfl (by decide) (by decide) (fun _ => rfl)) ?_
  refine Steps.cons (fun a' w' hG hB dep => gs_sets2 (zqa rfl) _ _  rfl _ _ (dep 0 rfl 63 rfl) (dep 1 rfl 64 rfl) (fun _ _ h => h)) ?_
  refine Steps.cons (fun a' w' hG hB dep => gs_join (zqa rfl) _ _ rfl _ (dep 2 rfl 65 rfl) (Nat.le_of_ble_eq_true rfl) (fun _ => rfl)) ?_
  exact Steps.nil
 intro u w3 hB3 ans
 have ux : u 66 = .agg (setC (joinL [(ofB [32]), (spanB 33 126)])) := ans 3 66 (by decide) rfl
 clear ans
 simp only [zqr, List.foldl_cons, List.foldl_nil, Act.put, List.setIfInBounds_toArray, List.set_cons_zero, List.set_cons_succ, ux]
 clear ux
 go_upto_region 29 with (refine zqm rfl _ _ rfl _ _ rfl rfl _ (zqb hb4 hB3) ?_; intro w4 hb4' hg4)
 replace hb2 := zqk (zqb hb2 hB3) hg4 (by omega)
 replace hB := zqh (zqd hB hB3) hg4 (by omega)
 replace hb4 := hb4'
 clear hb4' hg4 hB3
 obtain ⟨wv, hwv⟩ : ∃ x, x = w4 := ⟨_, rfl⟩
 rw [← hwv] at hb2 hb4 hB ⊢
 clear hwv w4
 go_wp2_with (first | (refine zqv rfl _ rfl _ rfl _ hb4 ?_) | (refine zqm rfl _ _ rfl _ _ rfl rfl _ hb2 ?_; intro w9 hb9 hg9))
 exact ret_set2 rfl rfl hb9 rfl ⟨rfl, zqh hB hg9 (Nat.le_refl _)⟩
set_option maxRecDepth 100000 in
set_option maxHeartbeats 2000000 in
theorem class_none (s : ByteArray) (w : World) (h_alnum : ¬ s.toList = [97, 108, 110, 117, 109]) (h_alpha : ¬ s.toList = [97, 108, 112, 104, 97]) (h_lower : ¬ s.toList = [108, 111, 119, 101, 114]) (h_upper : ¬ s.toList = [117, 112, 112, 101, 114]) (h_xdigit : ¬ s.toList = [120, 100, 105, 103, 105, 116]) (h_digit : ¬ s.toList = [100, 105, 103, 105, 116]) (h_space : ¬ s.toList = [115, 112, 97, 99, 101]) (h_blank : ¬ s.toList = [98, 108, 97, 110, 107]) (h_cntrl : ¬ s.toList = [99, 110, 116, 114, 108]) (h_print : ¬ s.toList = [112, 114, 105, 110, 116]) (h_graph : ¬ s.toList = [103, 114, 97, 112, 104]) (h_punct : ¬ s.toList = [112, 117, 110, 99, 116]) : Calls Tryz.prog 100 #[.string s] w fun e w' => e = .returned (.tuple #[.agg (setC 0), .int .i64 30]) ∧ Below w.heap.size w w' := by
 have q_alnum : (s.toList == [97, 108, 110, 117, 109]) = false := by rw [beq_eq_false_iff_ne]; exact h_alnum
 have q_alpha : (s.toList == [97, 108, 112, 104, 97]) = false := by rw [beq_eq_false_iff_ne]; exact h_alpha
 have q_lower : (s.toList == [108, 111, 119, 101, 114]) = false := by rw [beq_eq_false_iff_ne]; exact h_lower
 have q_upper : (s.toList == [117, 112, 112, 101, 114]) = false := by rw [beq_eq_false_iff_ne]; exact h_upper
 have q_xdigit : (s.toList == [120, 100, 105, 103, 105, 116]) = false := by rw [beq_eq_false_iff_ne]; exact h_xdigit
 have q_digit : (s.toList == [100, 105, 103, 105, 116]) = false := by rw [beq_eq_false_iff_ne]; exact h_digit
 have q_space : (s.toList == [115, 112, 97, 99, 101]) = false := by rw [beq_eq_false_iff_ne]; exact h_space
 have q_blank : (s.toList == [98, 108, 97, 110, 107]) = false := by rw [beq_eq_false_iff_ne]; exact h_blank
 have q_cntrl : (s.toList == [99, 110, 116, 114, 108]) = false := by rw [beq_eq_false_iff_ne]; exact h_cntrl
 have q_print : (s.toList == [112, 114, 105, 110, 116]) = false := by rw [beq_eq_false_iff_ne]; exact h_print
 have q_graph : (s.toList == [103, 114, 97, 112, 104]) = false := by rw [beq_eq_false_iff_ne]; exact h_graph
 have q_punct : (s.toList == [112, 117, 110, 99, 116]) = false := by rw [beq_eq_false_iff_ne]; exact h_punct
 have h_alnum' := Lib.hid h_alnum
 clear h_alnum
 have h_alpha' := Lib.hid h_alpha
 clear h_alpha
 have h_lower' := Lib.hid h_lower
 clear h_lower
 have h_upper' := Lib.hid h_upper
 clear h_upper
 have h_xdigit' := Lib.hid h_xdigit
 clear h_xdigit
 have h_digit' := Lib.hid h_digit
 clear h_digit
 have h_space' := Lib.hid h_space
 clear h_space
 have h_blank' := Lib.hid h_blank
 clear h_blank
 have h_cntrl' := Lib.hid h_cntrl
 clear h_cntrl
 have h_print' := Lib.hid h_print
 clear h_print
 have h_graph' := Lib.hid h_graph
 clear h_graph
 have h_punct' := Lib.hid h_punct
 clear h_punct
 have hb2 := (Blk.new w 53 (setC 0)).alloc (.cells (setC 0) 53)
 have hb4 := Blk.new' (w.alloc (.cells (setC 0) 53)) 53 (setC 0) (World.size_alloc _ _).symm
 have hB := zqc (zqc (Below.refl w.heap.size w) (.cells (setC 0) 53)) (.cells (setC 0) 53)
 go_enter Tryz.func100, Tryz.ntmps100
 go_wp2_with (first | (refine zqv rfl _ rfl _ rfl _ hb4 ?_) | (refine zqm rfl _ _ rfl _ _ rfl rfl _ hb2 ?_; intro w9 hb9 hg9))
 exact ret_set2 rfl rfl hb9 rfl ⟨rfl, zqh hB hg9 (Nat.le_refl _)⟩
def clsV (l : List Nat) : Value := match Ere.nameB l with
 | some x => .tuple #[.agg (setC x), .int .i64 0]
 | none => .tuple #[.agg (setC 0), .int .i64 30]
theorem u8_lit {l : List UInt8} {m : List UInt8} (h : l.map UInt8.toNat = m.map UInt8.toNat) : l = m := by
 induction l generalizing m with
 | nil => cases m <;> simp_all
 | cons a l ih =>
  cases m with
  | nil => simp at h
  | cons b m =>
   simp only [List.map_cons, List.cons.injEq] at h
   rw [UInt8.toNat_inj.1 h.1, ih h.2]
theorem clsV_alnum : clsV (([97, 108, 110, 117, 109] : List UInt8).map UInt8.toNat) = .tuple #[.agg (setC cls_alnum), .int .i64 0] := by kernel_rfl
theorem clsV_alpha : clsV (([97, 108, 112, 104, 97] : List UInt8).map UInt8.toNat) = .tuple #[.agg (setC cls_alpha), .int .i64 0] := by kernel_rfl
theorem clsV_lower : clsV (([108, 111, 119, 101, 114] : List UInt8).map UInt8.toNat) = .tuple #[.agg (setC cls_lower), .int .i64 0] := by kernel_rfl
theorem clsV_upper : clsV (([117, 112, 112, 101, 114] : List UInt8).map UInt8.toNat) = .tuple #[.agg (setC cls_upper), .int .i64 0] := by kernel_rfl
theorem clsV_xdigit : clsV (([120, 100, 105, 103, 105, 116] : List UInt8).map UInt8.toNat) = .tuple #[.agg (setC cls_xdigit), .int .i64 0] := by kernel_rfl
theorem clsV_digit : clsV (([100, 105, 103, 105, 116] : List UInt8).map UInt8.toNat) = .tuple #[.agg (setC cls_digit), .int .i64 0] := by kernel_rfl
theorem clsV_space : clsV (([115, 112, 97, 99, 101] : List UInt8).map UInt8.toNat) = .tuple #[.agg (setC cls_space), .int .i64 0] := by kernel_rfl
theorem clsV_blank : clsV (([98, 108, 97, 110, 107] : List UInt8).map UInt8.toNat) = .tuple #[.agg (setC cls_blank), .int .i64 0] := by kernel_rfl
theorem clsV_cntrl : clsV (([99, 110, 116, 114, 108] : List UInt8).map UInt8.toNat) = .tuple #[.agg (setC cls_cntrl), .int .i64 0] := by kernel_rfl
theorem clsV_print : clsV (([112, 114, 105, 110, 116] : List UInt8).map UInt8.toNat) = .tuple #[.agg (setC cls_print), .int .i64 0] := by kernel_rfl
theorem clsV_graph : clsV (([103, 114, 97, 112, 104] : List UInt8).map UInt8.toNat) = .tuple #[.agg (setC cls_graph), .int .i64 0] := by kernel_rfl
theorem clsV_punct : clsV (([112, 117, 110, 99, 116] : List UInt8).map UInt8.toNat) = .tuple #[.agg (setC cls_punct), .int .i64 0] := by kernel_rfl
theorem nameB_none (l : List UInt8) (h_alnum : ¬ l = [97, 108, 110, 117, 109]) (h_alpha : ¬ l = [97, 108, 112, 104, 97]) (h_lower : ¬ l = [108, 111, 119, 101, 114]) (h_upper : ¬ l = [117, 112, 112, 101, 114]) (h_xdigit : ¬ l = [120, 100, 105, 103, 105, 116]) (h_digit : ¬ l = [100, 105, 103, 105, 116]) (h_space : ¬ l = [115, 112, 97, 99, 101]) (h_blank : ¬ l = [98, 108, 97, 110, 107]) (h_cntrl : ¬ l = [99, 110, 116, 114, 108]) (h_print : ¬ l = [112, 114, 105, 110, 116]) (h_graph : ¬ l = [103, 114, 97, 112, 104]) (h_punct : ¬ l = [112, 117, 110, 99, 116]) : Ere.nameB (l.map UInt8.toNat) = none := by
 unfold Ere.nameB
 rw [if_neg (fun e => h_upper (u8_lit (m := [117, 112, 112, 101, 114]) (by rw [e]; rfl)))]
 rw [if_neg (fun e => h_lower (u8_lit (m := [108, 111, 119, 101, 114]) (by rw [e]; rfl)))]
 rw [if_neg (fun e => h_digit (u8_lit (m := [100, 105, 103, 105, 116]) (by rw [e]; rfl)))]
 rw [if_neg (fun e => h_alpha (u8_lit (m := [97, 108, 112, 104, 97]) (by rw [e]; rfl)))]
 rw [if_neg (fun e => h_alnum (u8_lit (m := [97, 108, 110, 117, 109]) (by rw [e]; rfl)))]
 rw [if_neg (fun e => h_xdigit (u8_lit (m := [120, 100, 105, 103, 105, 116]) (by rw [e]; rfl)))]
 rw [if_neg (fun e => h_blank (u8_lit (m := [98, 108, 97, 110, 107]) (by rw [e]; rfl)))]
 rw [if_neg (fun e => h_space (u8_lit (m := [115, 112, 97, 99, 101]) (by rw [e]; rfl)))]
 rw [if_neg (fun e => h_cntrl (u8_lit (m := [99, 110, 116, 114, 108]) (by rw [e]; rfl)))]
 rw [if_neg (fun e => h_graph (u8_lit (m := [103, 114, 97, 112, 104]) (by rw [e]; rfl)))]
 rw [if_neg (fun e => h_print (u8_lit (m := [112, 114, 105, 110, 116]) (by rw [e]; rfl)))]
 rw [if_neg (fun e => h_punct (u8_lit (m := [112, 117, 110, 99, 116]) (by rw [e]; rfl)))]
theorem class_all (s : ByteArray) (w : World) : Calls Tryz.prog 100 #[.string s] w fun e w' => e = .returned (clsV (s.toList.map UInt8.toNat)) ∧ Below w.heap.size w w' := by
 by_cases h_alnum : s.toList = [97, 108, 110, 117, 109]
 ·rw [h_alnum, clsV_alnum]
  exact class_alnum s w (Lib.hid h_alnum)
 by_cases h_alpha : s.toList = [97, 108, 112, 104, 97]
 ·rw [h_alpha, clsV_alpha]
  exact class_alpha s w (Lib.hid h_alpha)
 by_cases h_lower : s.toList = [108, 111, 119, 101, 114]
 ·rw [h_lower, clsV_lower]
  exact class_lower s w (Lib.hid h_lower)
 by_cases h_upper : s.toList = [117, 112, 112, 101, 114]
 ·rw [h_upper, clsV_upper]
  exact class_upper s w (Lib.hid h_upper)
 by_cases h_xdigit : s.toList = [120, 100, 105, 103, 105, 116]
 ·rw [h_xdigit, clsV_xdigit]
  exact class_xdigit s w (Lib.hid h_xdigit)
 by_cases h_digit : s.toList = [100, 105, 103, 105, 116]
 ·rw [h_digit, clsV_digit]
  exact class_digit s w (Lib.hid h_digit)
 by_cases h_space : s.toList = [115, 112, 97, 99, 101]
 ·rw [h_space, clsV_space]
  exact class_space s w (Lib.hid h_space)
 by_cases h_blank : s.toList = [98, 108, 97, 110, 107]
 ·rw [h_blank, clsV_blank]
  exact class_blank s w (Lib.hid h_blank)
 by_cases h_cntrl : s.toList = [99, 110, 116, 114, 108]
 ·rw [h_cntrl, clsV_cntrl]
  exact class_cntrl s w (Lib.hid h_cntrl)
 by_cases h_print : s.toList = [112, 114, 105, 110, 116]
 ·rw [h_print, clsV_print]
  exact class_print s w (Lib.hid h_print)
 by_cases h_graph : s.toList = [103, 114, 97, 112, 104]
 ·rw [h_graph, clsV_graph]
  exact class_graph s w (Lib.hid h_graph)
 by_cases h_punct : s.toList = [112, 117, 110, 99, 116]
 ·rw [h_punct, clsV_punct]
  exact class_punct s w (Lib.hid h_punct)
 rw [show clsV (s.toList.map UInt8.toNat) = .tuple #[.agg (setC 0), .int .i64 30] by unfold clsV; rw [nameB_none s.toList h_alnum h_alpha h_lower h_upper h_xdigit h_digit h_space h_blank h_cntrl h_print h_graph h_punct]]
 exact class_none s w h_alnum h_alpha h_lower h_upper h_xdigit h_digit h_space h_blank h_cntrl h_print h_graph h_punct
end Go.Proofs.YtkedgombccdamaaGreatDoor
namespace Go.Proofs.YtkedgombccdamaaGreatDoor
open Go.RowKit Go.Maps
set_option linter.unusedVariables false
set_option linter.unusedSimpArgs false
attribute [local go_sem] Oper.semAt_some
def rdC (p : ByteArray) (i : Nat) : Array Value := #[.string p, .int .i64 (i : Int)]
theorem more_any (g : Nat) (p : ByteArray) (i : Nat) (w : World) (h : Blk w g 110 (rdC p i)) :
  Calls Tryz.prog 61 #[.pointer (some ⟨g, 0, none⟩)] w fun e w' => e = .returned (.bool (decide (i < p.size))) ∧ Below w.heap.size w w' := by
 have c0 : w.cell? ⟨g, 0, none⟩ = some (.string p) := h.cellv rfl
 have c1 : w.cell? ⟨g, 1, none⟩ = some (.int .i64 (i : Int)) := h.cellv rfl
 by_cases hi : i < p.size
 ·have hI : (i : Int) < p.size := by omega
  go_enter Tryz.func61, Tryz.ntmps61
  go_wp2_with (fail)
  go_big_region
  go_wp2_with (fail)
  go_ret
  exact ⟨by simp [hi], (Below.refl w.heap.size w).drew⟩
 ·have hI : ¬ (i : Int) < p.size := by omega
  go_enter Tryz.func61, Tryz.ntmps61
  go_wp2_with (fail)
  go_big_region
  go_wp2_with (fail)
  go_ret
  exact ⟨by simp [hi], (Below.refl w.heap.size w).drew⟩
theorem is_any (g : Nat) (p : ByteArray) (k i c : Nat) (w : World) (h : Blk w g 110 (rdC p k)) :
  Calls Tryz.prog 54 #[.pointer (some ⟨g, 0, none⟩), .int .i64 (i : Int), .int .u8 (c : Int)] w fun e w' => e = .returned (.bool (Ere.isAt p i c)) ∧ Below w.heap.size w w' := by
 have c0 : w.cell? ⟨g, 0, none⟩ = some (.string p) := h.cellv rfl
 by_cases hi : i < p.size
 ·have hI : (i : Int) < p.size := by omega
  have hI0 : ¬ (i : Int) < 0 := by omega
  have hv : (((p[i].toNat : Nat) : Int) == (c : Int)) = Ere.isAt p i c := by
   unfold Ere.isAt Ere.chr
   rw [dif_pos hi, decide_eq_true hi, Bool.true_and, Bool.eq_iff_iff]
   simp only [beq_iff_eq, decide_eq_true_eq]
   omega
  replace hv := Lib.hid hv
  go_enter Tryz.func54, Tryz.ntmps54
  go_wp2_with (fail)
  go_ret
  exact ⟨congrArg (fun b => Ending.returned (.bool b)) hv.out, Below.refl _ _⟩
 ·have hI : ¬ (i : Int) < p.size := by omega
  have hv : Ere.isAt p i c = false := by unfold Ere.isAt; rw [decide_eq_false hi, Bool.false_and]
  rw [hv]
  go_enter Tryz.func54, Tryz.ntmps54
  go_wp2_with (fail)
  go_ret
  exact ⟨rfl, Below.refl _ _⟩
theorem enter_is (args : Array Value) (w : World) : (callFunc 54 args).run Tryz.prog w = .ok (.enter 54 args) w := by kernel_rfl
set_option maxHeartbeats 1000000 in
set_option maxRecDepth 100000 in
theorem slib_any (s : ByteArray) (c : Int) (w : World) :
  Calls Tryz.prog 52 #[.string s, .int .u8 c] w fun e w' => e = .returned (.int .i64 (Lib.indexByte s.data.toList c.toNat.toUInt8)) ∧ w' = w := by
 go_enter Tryz.func52, Tryz.ntmps52
 go_wp2
 rw [run_callFunc_extern Tryz.func60 (by kernel_rfl) (by kernel_rfl) (by kernel_rfl) (e := Extern.BytealgIndexByte.indexByte) (by kernel_rfl), Lib.run_indexByteString]
 simp only [Result.andThen]
 rw [Oper.upon_value]
 go_wp2
 go_ret
 exact ⟨rfl, rfl⟩
set_option maxHeartbeats 1000000 in
theorem sib_any (s : ByteArray) (c : Int) (w : World) :
  Calls Tryz.prog 36 #[.string s, .int .u8 c] w fun e w' => e = .returned (.int .i64 (Lib.indexByte s.data.toList c.toNat.toUInt8)) ∧ w' = w := by
 go_enter Tryz.func36, Tryz.ntmps36
 go_wp2_with (go_at_call 52; refine (slib_any _ _ _).mono ?_; rintro e w' ⟨rfl, rfl⟩)
 go_ret
 exact ⟨rfl, rfl⟩
theorem indexByte_ge (l : List UInt8) (c : UInt8) : decide (0 ≤ Lib.indexByte l c) = l.contains c := by
 cases h : l.contains c with
 | true =>
  rw [decide_eq_true_eq]
  rcases Int.lt_or_le (Lib.indexByte l c) 0 with h0 | h0
  ·have h1 : Lib.indexByte l c = -1 := by
    have := Lib.indexByte_ge l c
    omega
   have h2 := Lib.indexByte_none h1
   obtain ⟨i, hi, e⟩ := List.mem_iff_getElem.1 (List.contains_iff_mem.1 h)
   exact absurd (by rw [List.getElem?_eq_getElem hi, e]) (h2 i)
  ·exact h0
 | false =>
  rw [decide_eq_false_iff_not]
  intro h0
  obtain ⟨o, ho⟩ := Int.eq_ofNat_of_zero_le h0
  have h2 := (Lib.indexByte_some ho).1
  have h3 : c ∈ l := List.mem_of_getElem? h2
  have h4 := List.contains_iff_mem.2 h3
  rw [h] at h4
  cases h4
theorem contains_map (l : List UInt8) (c : UInt8) : (l.map UInt8.toNat).contains c.toNat = l.contains c := by
 rw [Bool.eq_iff_iff, List.contains_iff_mem, List.contains_iff_mem, List.mem_map]
 constructor
 ·rintro ⟨a, ha, e⟩
  rw [← UInt8.toNat_inj.1 e]
  exact ha
 ·exact fun h => ⟨c, h, rfl⟩
set_option maxHeartbeats 1000000 in
theorem one_any (g : Nat) (p o : ByteArray) (k i : Nat) (w : World) (h : Blk w g 110 (rdC p k)) :
  Calls Tryz.prog 79 #[.pointer (some ⟨g, 0, none⟩), .int .i64 (i : Int), .string o] w fun e w' => e = .returned (.bool (Ere.oneOf p i (o.data.toList.map UInt8.toNat))) ∧ Below w.heap.size w w' := by
 have c0 : w.cell? ⟨g, 0, none⟩ = some (.string p) := h.cellv rfl
 by_cases hi : i < p.size
 ·have hI : (i : Int) < p.size := by omega
  have hI0 : ¬ (i : Int) < 0 := by omega
  have hv : decide (0 ≤ Lib.indexByte o.data.toList ((p[i].toNat : Nat) : Int).toNat.toUInt8) = Ere.oneOf p i (o.data.toList.map UInt8.toNat) := by
   unfold Ere.oneOf Ere.chr
   rw [dif_pos hi, decide_eq_true hi, Bool.true_and, indexByte_ge, contains_map]
   congr 1
   simp
  obtain ⟨z, hz⟩ : ∃ z, Lib.indexByte o.data.toList ((p[i].toNat : Nat) : Int).toNat.toUInt8 = z := ⟨_, rfl⟩
  have hc := sib_any o ((p[i].toNat : Nat) : Int) w
  rw [hz] at hv hc
  clear hz
  replace hv := Lib.hid hv
  go_enter Tryz.func79, Tryz.ntmps79
  go_wp2_with (go_at_call 36; refine hc.mono ?_; rintro e w' ⟨rfl, rfl⟩)
  go_ret
  exact ⟨congrArg (fun b => Ending.returned (.bool b)) hv.out, Below.refl _ _⟩
 ·have hI : ¬ (i : Int) < p.size := by omega
  have hv : Ere.oneOf p i (o.data.toList.map UInt8.toNat) = false := by unfold Ere.oneOf; rw [decide_eq_false hi, Bool.false_and]
  rw [hv]
  go_enter Tryz.func79, Tryz.ntmps79
  go_wp2_with (fail)
  go_ret
  exact ⟨rfl, Below.refl _ _⟩
end Go.Proofs.YtkedgombccdamaaGreatDoor
namespace Go.Proofs.YtkedgombccdamaaGreatDoor
open Go.RowKit Go.Maps
set_option linter.unusedVariables false
set_option linter.unusedSimpArgs false
structure Turn (lo hi : Nat) (w w' : World) : Prop where
 os : w'.os = w.os
 tape : w'.tape = w.tape
 output : w'.output = w.output
 size : w.heap.size ≤ w'.heap.size
 block : ∀ k, k < w.heap.size → (k < lo ∨ hi ≤ k) → w'.heap[k]? = w.heap[k]?
section
variable {lo hi N g : Nat} {w w' w2 : World} {t : TypeId} {cs : Array Value}
theorem Turn.refl (lo hi : Nat) (w : World) : Turn lo hi w w := ⟨rfl, rfl, rfl, Nat.le_refl _, fun _ _ _ => rfl⟩
theorem Turn.trans (h : Turn lo hi w w') (k : Turn lo hi w' w2) : Turn lo hi w w2 := ⟨k.os.trans h.os, k.tape.trans h.tape, k.output.trans h.output, Nat.le_trans h.size k.size, fun j hj hh => (k.block j (by have := h.size; omega) hh).trans (h.block j hj hh)⟩
theorem Turn.of_below (h : Below w.heap.size w w') : Turn lo hi w w' := ⟨h.os, h.tape, h.output, h.size, fun k hk _ => h.block k hk⟩
theorem Turn.then_ (h : Turn lo hi w w') (k : Below w'.heap.size w' w2) : Turn lo hi w w2 := h.trans (Turn.of_below k)
theorem Turn.grown {row : Option Nat} (h : Turn lo hi w w') (hg : w'.grownBy w2 row) (hr : ∀ g, row = some g → (lo ≤ g ∧ g < hi) ∨ w.heap.size ≤ g) : Turn lo hi w w2 :=
 ⟨hg.os.trans h.os, hg.tape.trans h.tape, hg.output.trans h.output, Nat.le_trans h.size hg.size, fun k hk hh => (hg.block k (by have := h.size; omega) (fun e => by
  have := hr k e.symm
  omega)).trans (h.block k hk hh)⟩
theorem Turn.below (h : Turn lo hi w w') (h1 : N ≤ lo) (h2 : N ≤ w.heap.size) : Below N w w' := ⟨h.os, h.tape, h.output, h.size, fun k hk => h.block k (by omega) (.inl (by omega))⟩
theorem zzg (h : Blk w g t cs) (hm : Turn lo hi w w') (hg : g < lo ∨ hi ≤ g) : Blk w' g t cs := (hm.block g h.lt hg).trans h
end
end Go.Proofs.YtkedgombccdamaaGreatDoor
namespace Go.Proofs.YtkedgombccdamaaGreatDoor
open Go.RowKit Go.Maps
set_option linter.unusedVariables false
set_option linter.unusedSimpArgs false
attribute [local go_sem] Oper.semAt_some
theorem one_digit (p : ByteArray) (i : Nat) : Ere.oneOf p i [48, 49, 50, 51, 52, 53, 54, 55, 56, 57] = (decide (i < p.size) && decide (48 ≤ Ere.chr p i) && decide (Ere.chr p i ≤ 57)) := by
 unfold Ere.oneOf
 rw [Bool.and_assoc]
 congr 1
 rw [Bool.eq_iff_iff]
 simp only [List.contains_iff_mem, List.mem_cons, List.not_mem_nil, or_false, Bool.and_eq_true, decide_eq_true_eq]
 omega
theorem cnt_end {n j m : Nat} {b : Bool} (h : b = Ere.cntOk (n, j, m)) : Ending.returned (.tuple #[.int .i64 (n : Int), .bool b]) = Ending.returned (.tuple #[.int .i64 (((n, j, m) : Nat × Nat × Nat).1 : Int), .bool (Ere.cntOk (n, j, m))]) := by rw [h]
set_option maxRecDepth 100000 in
set_option maxHeartbeats 2000000 in
theorem rcount_any (g : Nat) (p : ByteArray) (i : Nat) (w : World) (hg : Blk w g 110 (rdC p i)) (hi : i ≤ 4000000000) :
  Calls Tryz.prog 96 #[.pointer (some ⟨g, 0, none⟩)] w fun e w' => e = .returned (.tuple #[.int .i64 ((Ere.digits p 4 i 0 0).1 : Int), .bool (Ere.cntOk (Ere.digits p 4 i 0 0))]) ∧ Turn g (g + 1) w w' ∧ Blk w' g 110 (rdC p (Ere.digits p 4 i 0 0).2.1) := by
 have hT : Turn g (g + 1) w w := Turn.refl _ _ _
 go_enter Tryz.func96, Tryz.ntmps96
 go_wp2_with (fail)
 go_loopw [4, 5] (fun nv mv wr => ∃ n m : Nat, m ≤ 4 ∧ n < 10 ^ m ∧ nv = .int .i64 n ∧ mv = .int .i64 m ∧ Turn g (g + 1) w wr ∧ Blk wr g 110 (rdC p (i + m)) ∧ Ere.digits p 4 i 0 0 = Ere.digits p (4 - m) (i + m) n m) (fun _ mv _ => 4 - (intOf mv).toNat)
 case atStart => exact ⟨0, 0, by omega, by decide, rfl, rfl, hT, hg, rfl⟩
 case round =>
  clear hT hg
  obtain ⟨n, m, hm, hn, rfl, rfl, hT, hg, hd⟩ := hrel
  obtain ⟨q, hq⟩ : ∃ q, Ere.oneOf p (i + m) [48, 49, 50, 51, 52, 53, 54, 55, 56, 57] = q := ⟨_, rfl⟩
  have c1 : wr.cell? ⟨g, 1, none⟩ = some (.int .i64 ((i : Int) + (m : Int))) := hg.cellv (by simp [rdC])
  have ho := one_any g p ⟨#[48, 49, 50, 51, 52, 53, 54, 55, 56, 57]⟩ (i + m) (i + m) wr hg
  rw [show (List.map UInt8.toNat (⟨#[48, 49, 50, 51, 52, 53, 54, 55, 56, 57]⟩ : ByteArray).data.toList) = [48, 49, 50, 51, 52, 53, 54, 55, 56, 57] from rfl, hq, Int.natCast_add] at ho
  have hq2 := one_digit p (i + m)
  rw [hq] at hq2
  clear hq
  cases q with
  | false =>
   have hf : Ere.digits p 4 i 0 0 = (n, i + m, m) := by
    rw [hd]
    cases h4 : 4 - m with
    | zero => rfl
    | succ k => unfold Ere.digits; rw [← hq2]; rfl
   clear hd hq2
   replace hf := Lib.hid hf
   go_wp2_with (go_at_call 79; refine ho.mono ?_; rintro e w2 ⟨rfl, hB⟩)
   all_goals go_ret2
   all_goals rw [hf.out]
   all_goals refine ⟨cnt_end ?_, hT.then_ hB, zqb hg hB⟩
   all_goals unfold Ere.cntOk
   all_goals (rw [Bool.eq_iff_iff]; simp only [Bool.and_eq_true, decide_eq_true_eq, Bool.false_eq_true, false_iff]; omega)
  | true =>
   simp only [Bool.true_eq, Bool.and_eq_true, decide_eq_true_eq] at hq2
   obtain ⟨⟨hjs, h48⟩, h57⟩ := hq2
   by_cases hm4 : m < 4
   ·have hmI : (m : Int) < 4 := by omega
    have c0 : wr.cell? ⟨g, 0, none⟩ = some (.string p) := hg.cellv rfl
    go_wp2_with (go_at_call 79; refine ho.mono ?_; rintro e w2 ⟨rfl, hB⟩)
    obtain ⟨j, hj⟩ : ∃ j, i + m = j := ⟨_, rfl⟩
    have hjI : (i : Int) + (m : Int) = (j : Int) := by omega
    have hgj := zqb hg hB
    rw [hj] at hgj hjs h48 h57
    have d0 : w2.cell? ⟨g, 0, none⟩ = some (.string p) := hgj.cellv rfl
    have d1 : w2.cell? ⟨g, 1, none⟩ = some (.int .i64 (j : Int)) := hgj.cellv rfl
    have hI : (j : Int) < p.size := by omega
    have hI0 : ¬ (j : Int) < 0 := by omega
    have hch : Ere.chr p j = (p[j]).toNat := by unfold Ere.chr; rw [dif_pos hjs]
    have h48I : 48 ≤ (((p[j]).toNat : Nat) : Int) := by omega
    have h57I : (((p[j]).toNat : Nat) : Int) ≤ 57 := by omega
    have hnb : n < 10000 := Nat.lt_of_lt_of_le hn (Nat.le_trans (Nat.pow_le_pow_right (by decide) hm) (by decide))
    have hnI : (n : Int) < 10000 := by omega
    replace hd := Lib.hid hd
    replace hj := Lib.hid hj
    replace hjI := Lib.hid hjI
    replace hch := Lib.hid hch
    clear c0 c1 ho
    go_big_region
    have hgd : Blk w2.drew g 110 (rdC p j) := hgj.drew
    have hTd : Turn g (g + 1) w w2.drew := (hT.then_ hB).then_ ((Below.refl w2.heap.size w2).drew)
    obtain ⟨w3, hw3⟩ : ∃ y, y = w2.drew := ⟨_, rfl⟩
    rw [← hw3] at hgd hTd ⊢
    clear hw3 d0 d1 hgj hB hT hg
    have e1 : w3.cell? ⟨g, 1, none⟩ = some (.int .i64 (j : Int)) := hgd.cellv rfl
    have f1 := hgd.frozen 1
    have hj9 : (j : Int) ≤ 5000000000 := by have := hj.out; omega
    have hd2 : Ere.digits p 4 i 0 0 = Ere.digits p (4 - (m + 1)) (i + (m + 1)) (10 * n + ((p[j]).toNat - 48)) (m + 1) := by
     rw [hd.out]
     have hk : 4 - m = (4 - (m + 1)) + 1 := by omega
     rw [hk]
     conv => lhs; unfold Ere.digits
     rw [hj.out, if_pos (by simp [hjs, h48, h57]), hch.out, show i + (m + 1) = j + 1 by have := hj.out; omega]
    have hn2 : 10 * n + ((p[j]).toNat - 48) < 10 ^ (m + 1) := by rw [Nat.pow_succ]; omega
    have hG2 : ∀ v, Turn g (g + 1) w (w3.setCell ⟨g, 1, none⟩ v) := fun v => hTd.grown (zzi (World.grownBy.refl w3 (some g)) (.inl rfl) v) (fun q e => by injection e with e; omega)
    have hB2 : Blk (w3.setCell ⟨g, 1, none⟩ (.int .i64 ((j : Int) + 1))) g 110 (rdC p (i + (m + 1))) := hgd.set_eq (by simp [rdC]; have := hj.out; omega)
    replace hd2 := Lib.hid hd2
    replace hG2 := Lib.hid hG2
    replace hB2 := Lib.hid hB2
    replace hn2 := Lib.hid hn2
    go_wp2_with (fail)
    exact ⟨⟨10 * n + ((p[j]).toNat - 48), m + 1, by omega, hn2.out, by congr 1; omega, by congr 1, hG2.out _, hB2.out, hd2.out⟩, by simp only [intOf]; omega⟩
   ·have hmI : ¬ (m : Int) < 4 := by omega
    have hf : Ere.digits p 4 i 0 0 = (n, i + m, m) := by
     rw [hd, show 4 - m = 0 by omega]
     rfl
    clear hd
    replace hf := Lib.hid hf
    go_wp2_with (go_at_call 79; refine ho.mono ?_; rintro e w2 ⟨rfl, hB⟩)
    all_goals go_ret2
    all_goals rw [hf.out]
    all_goals refine ⟨cnt_end ?_, hT.then_ hB, zqb hg hB⟩
    all_goals unfold Ere.cntOk
    all_goals (rw [Bool.eq_iff_iff]; simp only [Bool.and_eq_true, decide_eq_true_eq, Bool.false_eq_true, false_iff]; omega)
def zxo (e at_ : Nat) : Ending := .panicked [{ v := .iface 107 (.agg #[.int .i64 (e : Int), .int .i64 (at_ : Int)]), recovered := false }]
theorem zxf (e at_ : Nat) (w : World) : Calls Tryz.prog 40 #[.int .i64 (e : Int), .int .i64 (at_ : Int)] w fun en w' => en = zxo e at_ ∧ Below w.heap.size w w' := by
 go_enter Tryz.func40, Tryz.ntmps40
 go_wp2_with (fail)
 exact ⟨rfl, rfl, Below.refl _ _⟩
def RdAns {α : Type} (g : Nat) (p : ByteArray) (w : World) (val : α → Value) (r : Ere.Res α) (en : Ending) (w' : World) : Prop :=
 Turn g (g + 1) w w' ∧ match r with
  | .fault e i => en = zxo e i
  | .got x j => en = .returned (val x) ∧ Blk w' g 110 (rdC p j)
theorem digits_le (p : ByteArray) : ∀ k i n m, (Ere.digits p k i n m).2.1 ≤ i + k ∧ i ≤ (Ere.digits p k i n m).2.1
 | 0, i, n, m => by unfold Ere.digits; exact ⟨Nat.le_refl _, Nat.le_refl _⟩
 | k + 1, i, n, m => by
  unfold Ere.digits
  split
  ·have := digits_le p k (i + 1) (10 * n + (Ere.chr p i - 48)) (m + 1)
   omega
  ·exact ⟨by simp, by simp⟩
theorem setRd {g : Nat} {p : ByteArray} {i j : Nat} {w : World} (h : Blk w g 110 (rdC p i)) {v : Value} (hv : v = .int .i64 (j : Int)) : Blk (w.setCell ⟨g, 1, none⟩ v) g 110 (rdC p j) := h.set_eq (by rw [hv]; simp [rdC])
theorem turnRd {g : Nat} {w w' : World} (h : Turn g (g + 1) w w') (i : Nat) (v : Value) : Turn g (g + 1) w (w'.setCell ⟨g, i, none⟩ v) := h.grown (zzi (World.grownBy.refl w' (some g)) (.inl rfl) v) (fun q e => by injection e with e; omega)
theorem is_at (g : Nat) (p : ByteArray) (k i c : Nat) (ci : Int) (w : World) (h : Blk w g 110 (rdC p k)) (e : ci = (c : Int)) {b : Bool} (hb : Ere.isAt p i c = b) :
  Calls Tryz.prog 54 #[.pointer (some ⟨g, 0, none⟩), .int .i64 (i : Int), .int .u8 ci] w fun e w' => e = .returned (.bool b) ∧ Below w.heap.size w w' := by
 subst e; subst hb
 exact is_any g p k i c w h
set_option maxRecDepth 100000 in
set_option maxHeartbeats 4000000 in
theorem counts_any (g : Nat) (p : ByteArray) (i : Nat) (w : World) (h : Blk w g 110 (rdC p i)) (hi : i ≤ 2000) :
  Calls Tryz.prog 89 #[.pointer (some ⟨g, 0, none⟩)] w fun e w' => RdAns g p w (fun c : Nat × Int => .tuple #[.int .i64 (c.1 : Int), .int .i64 c.2]) (Ere.countsR p i) e w' := by
 have c1 : w.cell? ⟨g, 1, none⟩ = some (.int .i64 (i : Int)) := h.cellv rfl
 have f1 := h.frozen 1
 have hiI : (i : Int) ≤ 2000 := by omega
 have hT := Turn.refl g (g + 1) w
 obtain ⟨r, hr0⟩ : ∃ r, Ere.countsR p i = r := ⟨_, rfl⟩
 rw [hr0]
 replace hr0 := Lib.hid hr0
 go_enter Tryz.func89, Tryz.ntmps89
 go_upto_region 3 with (fail)
 have h2 := setRd h (v := .int .i64 ((i : Int) + 1)) (j := i + 1) (by simp)
 have hT2 := turnRd hT 1 (.int .i64 ((i : Int) + 1))
 obtain ⟨w2, hw2⟩ : ∃ y, y = w.setCell ⟨g, 1, none⟩ (.int .i64 ((i : Int) + 1)) := ⟨_, rfl⟩
 rw [← hw2] at h2 hT2 ⊢
 clear hw2 hT c1 f1
 have hc := rcount_any g p (i + 1) w2 h2 (by omega)
 obtain ⟨n1, hn1⟩ : ∃ n, (Ere.digits p 4 (i + 1) 0 0).1 = n := ⟨_, rfl⟩
 obtain ⟨j1, hj1⟩ : ∃ n, (Ere.digits p 4 (i + 1) 0 0).2.1 = n := ⟨_, rfl⟩
 obtain ⟨o1, ho1⟩ : ∃ n, Ere.cntOk (Ere.digits p 4 (i + 1) 0 0) = n := ⟨_, rfl⟩
 have hjb := digits_le p 4 (i + 1) 0 0
 rw [hn1, hj1, ho1] at hc
 rw [hj1] at hjb
 have hR : Ere.countsR p i = if o1 && Ere.isAt p j1 44 then
   if Ere.isAt p (j1 + 1) 125 then .got (n1, -1) (j1 + 1)
   else if !Ere.cntOk (Ere.digits p 4 (j1 + 1) 0 0) || !Ere.isAt p (Ere.digits p 4 (j1 + 1) 0 0).2.1 125 || decide ((Ere.digits p 4 (j1 + 1) 0 0).1 < n1) then .fault 45 i else .got (n1, ((Ere.digits p 4 (j1 + 1) 0 0).1 : Int)) (Ere.digits p 4 (j1 + 1) 0 0).2.1
  else if !o1 || !Ere.isAt p j1 125 then .fault 45 i else .got (n1, (n1 : Int)) j1 := by
  unfold Ere.countsR
  simp only [hn1, hj1, ho1]
 replace hR := Lib.hid hR
 clear hn1 hj1 ho1
 go_upto_region 5 with (go_at_call 96; refine hc.mono ?_; rintro e w3 ⟨rfl, hT3, h3⟩)
 replace hc := Lib.hid hc
 have hT4 : Turn g (g + 1) w w3 := hT2.trans hT3
 clear hT2 hT3 h2 hc
 obtain ⟨a44, h44⟩ : ∃ b, Ere.isAt p j1 44 = b := ⟨_, rfl⟩
 have k44 := is_at g p j1 j1 44 44 w3 h3 rfl h44
 rw [hr0.out] at hR
 rw [h44] at hR
 have hf0 : o1 = false → r = .fault 45 i := by rintro rfl; rw [hR.out]; simp
 have hf1 : o1 = true → a44 = false → Ere.isAt p j1 125 = false → r = .fault 45 i := by rintro rfl h1 h2; rw [hR.out, h1, h2]; simp
 have hf2 : o1 = true → a44 = false → Ere.isAt p j1 125 = true → r = .got (n1, (n1 : Int)) j1 := by rintro rfl h1 h2; rw [hR.out, h1, h2]; simp
 have hf3 : o1 = true → a44 = true → Ere.isAt p (j1 + 1) 125 = true → r = .got (n1, -1) (j1 + 1) := by rintro rfl h1 h2; rw [hR.out, h1, h2]; simp
 have hf4 : o1 = true → a44 = true → Ere.isAt p (j1 + 1) 125 = false → Ere.cntOk (Ere.digits p 4 (j1 + 1) 0 0) = false → r = .fault 45 i := by rintro rfl h1 h2 h5; rw [hR.out, h1, h2, h5]; simp
 have hf5 : o1 = true → a44 = true → Ere.isAt p (j1 + 1) 125 = false → Ere.isAt p (Ere.digits p 4 (j1 + 1) 0 0).2.1 125 = false → r = .fault 45 i := by rintro rfl h1 h2 h5; rw [hR.out, h1, h2, h5]; simp
 have hf6 : o1 = true → a44 = true → Ere.isAt p (j1 + 1) 125 = false → (Ere.digits p 4 (j1 + 1) 0 0).1 < n1 → r = .fault 45 i := by rintro rfl h1 h2 h5; rw [hR.out, h1, h2]; simp [h5]
 have hf7 : o1 = true → a44 = true → Ere.isAt p (j1 + 1) 125 = false → Ere.cntOk (Ere.digits p 4 (j1 + 1) 0 0) = true → Ere.isAt p (Ere.digits p 4 (j1 + 1) 0 0).2.1 125 = true → ¬ (Ere.digits p 4 (j1 + 1) 0 0).1 < n1 → r = .got (n1, ((Ere.digits p 4 (j1 + 1) 0 0).1 : Int)) (Ere.digits p 4 (j1 + 1) 0 0).2.1 := by rintro rfl h1 h2 h3 h4 h5; rw [hR.out, h1, h2, h3, h4]; simp [h5]
 clear hR hr0 h44
 have c0 : w3.cell? ⟨g, 0, none⟩ = some (.string p) := h3.cellv rfl
 have c1 : w3.cell? ⟨g, 1, none⟩ = some (.int .i64 (j1 : Int)) := h3.cellv rfl
 have f1 := h3.frozen 1
 have hj1I : (j1 : Int) ≤ 3000 := by omega
 cases o1 with
 | false =>
  have hr := Lib.hid (hf0 (by trivial))
  clear hf0 hf1 hf2 hf3 hf4 hf5 hf6 hf7 k44
  go_wp2_with (go_at_call 40; refine (zxf 45 i _).mono ?_; rintro e w4 ⟨hfe, hB⟩)
  rw [hr.out]
  exact ⟨rfl, hT4.then_ hB, hfe⟩
 | true =>
  clear hf0
  cases a44 with
  | false =>
   clear hf3 hf4 hf5 hf6 hf7
   have hn : ¬ (n1 : Int) < n1 := by omega
   obtain ⟨b, hb⟩ : ∃ b, Ere.isAt p j1 125 = b := ⟨_, rfl⟩
   go_upto_region 10 with (go_at_call 54; refine k44.mono ?_; rintro e w4 ⟨rfl, hB⟩)
   have h4 := zqb h3 hB
   have hT5 := hT4.then_ hB
   clear h3 hT4 hB k44 c0 c1 f1
   have k125 := is_at g p j1 j1 125 125 w4 h4 rfl hb
   have c0 : w4.cell? ⟨g, 0, none⟩ = some (.string p) := h4.cellv rfl
   have c1 : w4.cell? ⟨g, 1, none⟩ = some (.int .i64 (j1 : Int)) := h4.cellv rfl
   cases b with
   | false =>
    have hr := Lib.hid (hf1 (by trivial) (by trivial) hb)
    clear hf1 hf2 hb
    go_wp2_with (first | (go_at_call 54; refine k125.mono ?_; rintro e w5 ⟨rfl, hB⟩) | (go_at_call 40; refine (zxf 45 i _).mono ?_; rintro e w6 ⟨hfe, hB2⟩))
    rw [hr.out]
    exact ⟨rfl, (hT5.then_ hB).then_ hB2, hfe⟩
   | true =>
    have hr := Lib.hid (hf2 (by trivial) (by trivial) hb)
    clear hf1 hf2 hb
    go_wp2_with (go_at_call 54; refine k125.mono ?_; rintro e w5 ⟨rfl, hB⟩)
    go_ret2
    rw [hr.out]
    exact ⟨hT5.then_ hB, rfl, zqb h4 hB⟩
  | true =>
   clear hf1 hf2
   obtain ⟨b, hb⟩ : ∃ b, Ere.isAt p (j1 + 1) 125 = b := ⟨_, rfl⟩
   obtain ⟨j2, hj2⟩ : ∃ j2, j1 + 1 = j2 := ⟨_, rfl⟩
   rw [hj2] at hb hf3 hf4 hf5 hf6 hf7
   have hj2I : (j1 : Int) + 1 = j2 := by omega
   replace hj2I := Lib.hid hj2I
   have hj2b : j2 ≤ 3001 := by omega
   clear hj2
   go_upto_region 6 with (go_at_call 54; refine k44.mono ?_; rintro e w4 ⟨rfl, hB⟩)
   have h4 := zqb h3 hB
   have hT5 := hT4.then_ hB
   clear h3 hT4 hB k44 c0 c1 f1
   have c1 : w4.cell? ⟨g, 1, none⟩ = some (.int .i64 (j1 : Int)) := h4.cellv rfl
   have f1 := h4.frozen 1
   go_upto_region 8 with (fail)
   rw [hj2I.out]
   have h5 := setRd h4 (v := .int .i64 (j2 : Int)) (j := j2) rfl
   have hT6 := turnRd hT5 1 (.int .i64 (j2 : Int))
   obtain ⟨w5, hw5⟩ : ∃ y, y = w4.setCell ⟨g, 1, none⟩ (.int .i64 (j2 : Int)) := ⟨_, rfl⟩
   rw [← hw5] at h5 hT6 ⊢
   clear hw5 hT5 h4 c1 f1
   have k125 := is_at g p j2 j2 125 125 w5 h5 rfl hb
   have c1 : w5.cell? ⟨g, 1, none⟩ = some (.int .i64 (j2 : Int)) := h5.cellv rfl
   cases b with
   | true =>
    have hr := Lib.hid (hf3 (by trivial) (by trivial) hb)
    clear hf3 hf4 hf5 hf6 hf7
    go_upto_region 10 with (go_at_call 54; refine k125.mono ?_; rintro e w6 ⟨rfl, hB⟩)
    have h6 := zqb h5 hB
    have hT7 := hT6.then_ hB
    clear h5 hT6 hB k125 c1
    have k125 := is_at g p j2 j2 125 125 w6 h6 rfl hb
    have c1 : w6.cell? ⟨g, 1, none⟩ = some (.int .i64 (j2 : Int)) := h6.cellv rfl
    clear hb
    go_wp2_with (go_at_call 54; refine k125.mono ?_; rintro e w7 ⟨rfl, hB⟩)
    go_ret2
    rw [hr.out]
    exact ⟨hT7.then_ hB, rfl, zqb h6 hB⟩
   | false =>
    clear hf3
    have hjb2 := digits_le p 4 j2 0 0
    go_upto_region 9 with (go_at_call 54; refine k125.mono ?_; rintro e w6 ⟨rfl, hB⟩)
    have h6 := zqb h5 hB
    have hT7 := hT6.then_ hB
    clear h5 hT6 hB k125 c1
    have hc := rcount_any g p j2 w6 h6 (by omega)
    obtain ⟨n2, hn2⟩ : ∃ n, (Ere.digits p 4 j2 0 0).1 = n := ⟨_, rfl⟩
    obtain ⟨j3, hj3⟩ : ∃ n, (Ere.digits p 4 j2 0 0).2.1 = n := ⟨_, rfl⟩
    obtain ⟨o2, ho2⟩ : ∃ n, Ere.cntOk (Ere.digits p 4 j2 0 0) = n := ⟨_, rfl⟩
    rw [hn2, hj3, ho2] at hc
    rw [hj3] at hjb2
    rw [hn2] at hf6 hf7
    rw [hj3] at hf5 hf7
    rw [ho2] at hf4 hf7
    clear hn2 hj3 ho2
    go_upto_region 10 with (go_at_call 96; refine hc.mono ?_; rintro e w7 ⟨rfl, hT8, h7⟩)
    clear hc
    have hT9 := hT7.trans hT8
    clear hT7 hT8 h6
    have c1 : w7.cell? ⟨g, 1, none⟩ = some (.int .i64 (j3 : Int)) := h7.cellv rfl
    cases o2 with
    | false =>
     have hr := Lib.hid (hf4 (by trivial) (by trivial) hb (by trivial))
     clear hf4 hf5 hf6 hf7 hb
     go_wp2_with (go_at_call 40; refine (zxf 45 i _).mono ?_; rintro e w8 ⟨hfe, hB⟩)
     rw [hr.out]
     exact ⟨rfl, hT9.then_ hB, hfe⟩
    | true =>
     obtain ⟨b3, hb3⟩ : ∃ b, Ere.isAt p j3 125 = b := ⟨_, rfl⟩
     have k125 := is_at g p j3 j3 125 125 w7 h7 rfl hb3
     cases b3 with
     | false =>
      have hr := Lib.hid (hf5 (by trivial) (by trivial) hb hb3)
      clear hf4 hf5 hf6 hf7 hb hb3
      go_wp2_with (first | (go_at_call 54; refine k125.mono ?_; rintro e w8 ⟨rfl, hB⟩) | (go_at_call 40; refine (zxf 45 i _).mono ?_; rintro e w9 ⟨hfe, hB2⟩))
      rw [hr.out]
      exact ⟨rfl, (hT9.then_ hB).then_ hB2, hfe⟩
     | true =>
      have hn0 : (0 : Int) ≤ n2 := by omega
      by_cases hlt : n2 < n1
      ·have hr := Lib.hid (hf6 (by trivial) (by trivial) hb hlt)
       have hltI : (n2 : Int) < n1 := by omega
       clear hf4 hf5 hf6 hf7 hb hb3
       go_wp2_with (first | (go_at_call 54; refine k125.mono ?_; rintro e w8 ⟨rfl, hB⟩) | (go_at_call 40; refine (zxf 45 i _).mono ?_; rintro e w9 ⟨hfe, hB2⟩))
       rw [hr.out]
       exact ⟨rfl, (hT9.then_ hB).then_ hB2, hfe⟩
      ·have hr := Lib.hid (hf7 (by trivial) (by trivial) hb (by trivial) hb3 hlt)
       have hltI : ¬ (n2 : Int) < n1 := by omega
       clear hf4 hf5 hf6 hf7 hb hb3
       go_wp2_with (go_at_call 54; refine k125.mono ?_; rintro e w8 ⟨rfl, hB⟩)
       go_ret2
       rw [hr.out]
       exact ⟨hT9.then_ hB, rfl, zqb h7 hB⟩
theorem counts_le (p : ByteArray) (i : Nat) (hi : i ≤ 2000) (c : Nat × Int) (j : Nat) (h : Ere.countsR p i = .got c j) : j ≤ 3000 := by
 have h1 := digits_le p 4 (i + 1) 0 0
 have h2 := digits_le p 4 ((Ere.digits p 4 (i + 1) 0 0).2.1 + 1) 0 0
 unfold Ere.countsR at h
 simp only at h
 split at h
 ·split at h
  ·injection h with _ h; omega
  ·split at h
   ·cases h
   ·injection h with _ h; omega
 ·split at h
  ·cases h
  ·injection h with _ h; omega
end Go.Proofs.YtkedgombccdamaaGreatDoor
namespace Go.Proofs.YtkedgombccdamaaGreatDoor
open Go.RowKit Go.Maps
set_option linter.unusedVariables false
set_option linter.unusedSimpArgs false
structure NV where
 kd : Int
 st : BSet
 A : Option Addr
 n : Nat
 c : Nat
 mi : Int
 ma : Int
def NV.C (x : NV) : Array Value := nodeC x.kd x.st x.A x.n x.c x.mi x.ma
theorem NV.size (x : NV) : x.C.size = 8 := rfl
theorem NV.one (x : NV) : x.C.all (·.oneCell') = true := nodeC_one _ _ _ _ _ _ _
def ownL (A : Option Addr) : List Nat := match A with
 | none => []
 | some a => [a.block]
theorem mem_ownL {A : Option Addr} {n c b : Nat} : b ∈ ownL A ↔ (Value.slice A n c).ownBlock = some b := by
 cases A with
 | none => simp [ownL, Value.ownBlock]
 | some a => simp [ownL, Value.ownBlock, eq_comm]
inductive NdO (w : World) (B : Nat) : Nd → NV → List Nat → Prop
 | mk (kd : Int) (st : BSet) (l : List Nd) (mi ma : Int) (A : Option Addr) (n c : Nat) (cl : List NV) (bl : List (List Nat)) (hn : n = l.length) (hcl : cl.length = l.length) (hbl : bl.length = l.length) (hmax : n ≤ 1099511627776)
   (ho : Own w B 56 8 NV.C (.slice A n c) cl) (hr : ∀ (i : Nat) (h : i < l.length) (h2 : i < cl.length) (h3 : i < bl.length), NdO w B l[i] cl[i] bl[i]) (hd : (ownL A ++ bl.flatten).Nodup) :
   NdO w B (.mk kd st l mi ma) ⟨kd, st, A, n, c, mi, ma⟩ (ownL A ++ bl.flatten)
structure NdL (w : World) (B : Nat) (A : Option Addr) (n c : Nat) (l : List Nd) (cl : List NV) (bl : List (List Nat)) : Prop where
 hn : n = l.length
 hcl : cl.length = l.length
 hbl : bl.length = l.length
 hmax : n ≤ 1099511627776
 ho : Own w B 56 8 NV.C (.slice A n c) cl
 hr : ∀ (i : Nat) (h : i < l.length) (h2 : i < cl.length) (h3 : i < bl.length), NdO w B l[i] cl[i] bl[i]
 hd : (ownL A ++ bl.flatten).Nodup
theorem NdL.node {w : World} {B : Nat} {A : Option Addr} {n c : Nat} {l : List Nd} {cl : List NV} {bl : List (List Nat)} (h : NdL w B A n c l cl bl) (kd : Int) (st : BSet) (mi ma : Int) : NdO w B (.mk kd st l mi ma) ⟨kd, st, A, n, c, mi, ma⟩ (ownL A ++ bl.flatten) :=
 .mk kd st l mi ma A n c cl bl h.hn h.hcl h.hbl h.hmax h.ho h.hr h.hd
theorem mem_flat_at {bl : List (List Nat)} {b : Nat} (h : b ∈ bl.flatten) : ∃ (i : Nat) (hi : i < bl.length), b ∈ bl[i] := by
 obtain ⟨l, hl, hb⟩ := List.mem_flatten.1 h
 obtain ⟨i, hi, rfl⟩ := List.mem_iff_getElem.1 hl
 exact ⟨i, hi, hb⟩
theorem flat_at_mem {bl : List (List Nat)} {b i : Nat} (hi : i < bl.length) (h : b ∈ bl[i]) : b ∈ bl.flatten := List.mem_flatten.2 ⟨_, List.getElem_mem hi, h⟩
theorem NdO.lt {w : World} {B : Nat} {nd : Nd} {x : NV} {bs : List Nat} (h : NdO w B nd x bs) : ∀ b ∈ bs, B ≤ b ∧ b < w.heap.size := by
 induction h with
 | mk kd st l mi ma A n c cl bl hn hcl hbl hmax ho hr hd ih =>
  intro b hb
  rcases List.mem_append.1 hb with hb | hb
  ·exact ho.lt b (mem_ownL.1 hb)
  ·obtain ⟨i, hi, hb⟩ := mem_flat_at hb
   exact ih i (by omega) (by omega) hi b hb
theorem NdL.lt {w : World} {B : Nat} {A : Option Addr} {n c : Nat} {l : List Nd} {cl : List NV} {bl : List (List Nat)} (h : NdL w B A n c l cl bl) : ∀ b ∈ ownL A ++ bl.flatten, B ≤ b ∧ b < w.heap.size := (h.node 0 0 0 0).lt
theorem own_block {α : Type} {enc : α → Array Value} {size base : Nat} {e : TypeId} {w w' : World} {v : Value} {ys : List α} (h : Own w base e size enc v ys) (hk : ∀ j, v.ownBlock = some j → w'.heap[j]? = w.heap[j]?) : Own w' base e size enc v ys := by
 obtain ⟨h1, h2⟩ := h
 refine ⟨h1, ?_⟩
 rcases h2 with h2 | ⟨g, cap, cur, hv, hg, hh, r⟩
 ·exact .inl h2
 ·exact .inr ⟨g, cap, cur, hv, hg, (hk g (by rw [hv]; rfl)).trans hh, r⟩
theorem NdO.keep {w w' : World} {B : Nat} {nd : Nd} {x : NV} {bs : List Nat} (h : NdO w B nd x bs) (hk : ∀ b ∈ bs, w'.heap[b]? = w.heap[b]?) : NdO w' B nd x bs := by
 induction h with
 | mk kd st l mi ma A n c cl bl hn hcl hbl hmax ho hr hd ih =>
  exact .mk kd st l mi ma A n c cl bl hn hcl hbl hmax (own_block ho fun j hj => hk j (List.mem_append_left _ (mem_ownL.2 hj)))
   (fun i h1 h2 h3 => ih i h1 h2 h3 fun b hb => hk b (List.mem_append_right _ (flat_at_mem h3 hb))) hd
theorem NdL.keep {w w' : World} {B : Nat} {A : Option Addr} {n c : Nat} {l : List Nd} {cl : List NV} {bl : List (List Nat)} (h : NdL w B A n c l cl bl) (hk : ∀ b ∈ ownL A ++ bl.flatten, w'.heap[b]? = w.heap[b]?) : NdL w' B A n c l cl bl :=
 ⟨h.hn, h.hcl, h.hbl, h.hmax, own_block h.ho fun j hj => hk j (List.mem_append_left _ (mem_ownL.2 hj)), fun i h1 h2 h3 => (h.hr i h1 h2 h3).keep fun b hb => hk b (List.mem_append_right _ (flat_at_mem h3 hb)), h.hd⟩
theorem NdO.mono {w : World} {B B' : Nat} {nd : Nd} {x : NV} {bs : List Nat} (h : NdO w B nd x bs) (hB : B' ≤ B) : NdO w B' nd x bs := by
 induction h with
 | mk kd st l mi ma A n c cl bl hn hcl hbl hmax ho hr hd ih => exact .mk kd st l mi ma A n c cl bl hn hcl hbl hmax (ho.mono hB) ih hd
theorem NdO.turn {w w' : World} {B g : Nat} {nd : Nd} {x : NV} {bs : List Nat} (h : NdO w B nd x bs) (ht : Turn g (g + 1) w w') (hg : g < B) : NdO w' B nd x bs :=
 h.keep fun b hb => ht.block b (h.lt b hb).2 (.inr (by have := (h.lt b hb).1; omega))
theorem NdO.then_ {w w' : World} {B : Nat} {nd : Nd} {x : NV} {bs : List Nat} (h : NdO w B nd x bs) (ht : Below w.heap.size w w') : NdO w' B nd x bs := h.keep fun b hb => ht.block b (h.lt b hb).2
theorem NdL.turn {w w' : World} {B g : Nat} {A : Option Addr} {n c : Nat} {l : List Nd} {cl : List NV} {bl : List (List Nat)} (h : NdL w B A n c l cl bl) (ht : Turn g (g + 1) w w') (hg : g < B) : NdL w' B A n c l cl bl :=
 h.keep fun b hb => ht.block b (h.lt b hb).2 (.inr (by have := (h.lt b hb).1; omega))
theorem NdL.then_ {w w' : World} {B : Nat} {A : Option Addr} {n c : Nat} {l : List Nd} {cl : List NV} {bl : List (List Nat)} (h : NdL w B A n c l cl bl) (ht : Below w.heap.size w w') : NdL w' B A n c l cl bl := h.keep fun b hb => ht.block b (h.lt b hb).2
theorem NdO.leaf (w : World) (B : Nat) (kd : Int) (st : BSet) (mi ma : Int) : NdO w B (.mk kd st [] mi ma) ⟨kd, st, none, 0, 0, mi, ma⟩ [] :=
 .mk kd st [] mi ma none 0 0 [] [] rfl rfl rfl (by omega) (Own.nil_ _ _ _ _ _) (fun i h => absurd h (by simp)) (by simp [ownL])
theorem NdL.nil_ (w : World) (B : Nat) : NdL w B none 0 0 [] [] [] := ⟨rfl, rfl, rfl, by omega, Own.nil_ _ _ _ _ _, fun i h => absurd h (by simp), by simp [ownL]⟩
theorem NdL.one {w w' : World} {B g : Nat} {t : Nd} {x : NV} {bs : List Nat} (h : NdO w B t x bs) (hw : Below w.heap.size w w') (hg : w.heap.size ≤ g) (hb : Blk w' g 56 x.C) (hB : B ≤ w.heap.size) : NdL w' B (some ⟨g, 0, none⟩) 1 1 [t] [x] [bs] := by
 refine ⟨rfl, rfl, rfl, by omega, ?_, fun i h1 h2 h3 => ?_, ?_⟩
 ·exact ⟨by simp [flat, NV.size], .inr ⟨g, 1, x.C, rfl, by omega, hb, Nat.le_refl _, by unfold maxLen; omega, by simp [NV.size], by rw [List.take_of_length_le (by simp [NV.size])]; simp [flat]⟩⟩
 ·have e : i = 0 := by simpa using h1
  subst e
  exact h.then_ hw
 ·simp only [ownL, List.flatten_cons, List.flatten_nil, List.append_nil, List.cons_append, List.nil_append, List.nodup_cons]
  refine ⟨fun hm => ?_, ?_⟩
  ·have := (h.lt _ hm).2
   omega
  ·cases h with
   | mk kd st l mi ma A n c cl bl hn hcl hbl hmax ho hr hd => exact hd
theorem NdO.nd {w : World} {B : Nat} {nd : Nd} {x : NV} {bs : List Nat} (h : NdO w B nd x bs) : bs.Nodup := by
 cases h with
 | mk kd st l mi ma A n c cl bl hn hcl hbl hmax ho hr hd => exact hd
theorem NdO.toIn {w : World} {B : Nat} {nd : Nd} {x : NV} {bs : List Nat} (h : NdO w B nd x bs) : NdIn w w.heap.size nd x.C := by
 induction h with
 | mk kd st l mi ma A n c cl bl hn hcl hbl hmax ho hr hd ih =>
  refine .mk kd st l mi ma A n c (cl.map NV.C) hn (by simpa using hcl) hmax ?_ (fun i h1 h2 => ?_)
  ·rcases ho.slice_all NV.size with h | ⟨b, off, e, hb, hh⟩
   ·exact .inl (by rw [h]; rfl)
   ·refine .inr ⟨b, off, e, hb, fun i hi => ?_⟩
    rw [List.getElem_map]
    exact hh i (by simpa using hi)
  ·rw [List.getElem_map]
   exact ih i h1 (by simpa using h2) (by omega)
theorem NdL.push {w w' : World} {B : Nat} {A : Option Addr} {n c : Nat} {l : List Nd} {cl : List NV} {bl : List (List Nat)} (h : NdL w B A n c l cl bl) {t : Nd} {x : NV} {bs : List Nat} (ht : NdO w B t x bs)
  (hdis : ∀ b ∈ bs, b ∉ ownL A ++ bl.flatten) (hmax : n + 1 ≤ 1099511627776) {v' : Value} (ho : Own w' B 56 8 NV.C v' (cl ++ [x])) (hg : w.grownBy w' (Value.slice A n c).ownBlock) (hv : v'.ownBlock = (Value.slice A n c).ownBlock ∨ v'.ownBlock = some w.heap.size) :
  ∃ A' c', v' = .slice A' (n + 1) c' ∧ NdL w' B A' (n + 1) c' (l ++ [t]) (cl ++ [x]) (bl ++ [bs]) := by
 obtain ⟨A', c', hv', _, _⟩ := ho.shape
 have hlen : (cl ++ [x]).length = n + 1 := by rw [List.length_append, h.hcl, ← h.hn]; rfl
 rw [hlen] at hv'
 subst hv'
 have hkeep : ∀ b, b < w.heap.size → b ∉ ownL A → w'.heap[b]? = w.heap[b]? := fun b hb hn => hg.block b hb (fun e => hn (mem_ownL.2 e.symm))
 have hnd := h.hd
 rw [List.nodup_append] at hnd
 obtain ⟨hA, hF, hAF⟩ := hnd
 refine ⟨A', c', rfl, by rw [List.length_append, ← h.hn]; rfl, by rw [List.length_append, List.length_append, h.hcl]; rfl, by rw [List.length_append, List.length_append, h.hbl]; rfl, hmax, ho, fun i h1 h2 h3 => ?_, ?_⟩
 ·rw [List.length_append] at h1
  by_cases hi : i < l.length
  ·rw [List.getElem_append_left hi, List.getElem_append_left (by have := h.hcl; omega), List.getElem_append_left (by have := h.hbl; omega)]
   have h3' : i < bl.length := by have := h.hbl; omega
   refine (h.hr i hi _ h3').keep fun b hb => hkeep b (NdO.lt (h.hr i hi (by have := h.hcl; omega) h3') b hb).2 fun hm => ?_
   exact hAF b hm b (flat_at_mem h3' hb) rfl
  ·have e : i = l.length := by simp only [List.length_cons, List.length_nil] at h1; omega
   have q1 := h.hcl
   have q2 := h.hbl
   have e1 : (l ++ [t])[i] = t := by subst e; simp
   have e2 : (cl ++ [x])[i] = x := by have e : i = cl.length := by omega
                                      subst e; simp
   have e3 : (bl ++ [bs])[i] = bs := by have e : i = bl.length := by omega
                                        subst e; simp
   rw [e1, e2, e3]
   exact ht.keep fun b hb => hkeep b (ht.lt b hb).2 fun hm => hdis b hb (List.mem_append_left _ hm)
 ·rw [List.flatten_append, List.flatten_cons, List.flatten_nil, List.append_nil, ← List.append_assoc]
  rw [List.nodup_append]
  refine ⟨?_, ht.nd, fun a ha b hb e => ?_⟩
  ·rw [List.nodup_append]
   refine ⟨by cases A' <;> simp [ownL], hF, fun a ha b hb e => ?_⟩
   subst e
   rcases hv with hv | hv
   ·exact hAF a (mem_ownL.2 (hv.symm.trans ((mem_ownL (n := n + 1) (c := c')).1 ha))) a hb rfl
   ·have e2 := (mem_ownL (n := n + 1) (c := c')).1 ha
    rw [hv] at e2
    injection e2 with e2
    have := (h.lt a (List.mem_append_right _ hb)).2
    omega
  ·subst e
   rcases List.mem_append.1 ha with ha | ha
   ·rcases hv with hv | hv
    ·exact hdis a hb (List.mem_append_left _ (mem_ownL.2 (hv.symm.trans ((mem_ownL (n := n + 1) (c := c')).1 ha))))
    ·have e2 := (mem_ownL (n := n + 1) (c := c')).1 ha
     rw [hv] at e2
     injection e2 with e2
     have := (ht.lt a hb).2
     omega
   ·exact hdis a hb (List.mem_append_right _ ha)
theorem info_node3 : (Tryz.prog.info? 56).map (fun i => (i.zero.map (·.cells.size), i.size, i.bytes)) = some (some 8, 8, 80) := by kernel_rfl
theorem run_nodes1 (x : NV) (w : World) : (Instr.buildSlice 54 1 #[(0, .agg x.C)]).run Tryz.prog w = .ok (.slice (some ⟨w.heap.size, 0, none⟩) 1 1) (w.alloc (.cells x.C 56)) := by kernel_rfl
section
variable {ops : Array Oper} {rest : List Oper} {o : Oper} {a : Act} {w : World} {Q : Exit → Act → World → Prop}
theorem wl_build1n (hgd : o.guard = none) (x : Operand) (ho : o.op = .buildSlice 54 1 #[(0, x)]) (y : NV) (hx : a.eval x = .agg y.C)
  (h : wpList Tryz.prog ops Q rest (a.put o.dst (.slice (some ⟨w.heap.size, 0, none⟩) 1 1)) (w.alloc (.cells y.C 56))) : wpList Tryz.prog ops Q (o :: rest) a w :=
 wpList_plain hgd fun _ hK => by
  have e : (#[(0, x)] : Array (Nat × Operand)).map (fun (i, x) => (i, a.eval x)) = #[(0, .agg y.C)] := by simp [hx]
  unfold Oper.wp execOp
  simp only [ho, e, Sem.run_bind, run_nodes1, Result.andThen_ok, Sem.run_pure]
  exact hK _ _ h
theorem zxy (hgd : o.guard = none) (parts : Array (Nat × Operand)) (ho : o.op = .build 56 parts) (x : NV) (l : Array (Nat × Value)) (hl : parts.toList.map (fun y => (y.1, a.eval y.2)) = l.toList)
  (hr : ∀ w, (Instr.build 56 l).run Tryz.prog w = .ok (.agg x.C) w) (h : wpList Tryz.prog ops Q rest (a.put o.dst (.agg x.C)) w) : wpList Tryz.prog ops Q (o :: rest) a w :=
 wpList_plain hgd fun _ hK => by
  have e : (parts.map fun (i, x) => (i, a.eval x)) = l := by
   apply Array.toList_inj.1
   rw [Array.toList_map]
   exact hl
  unfold Oper.wp execOp
  simp only [ho, e, Sem.run_bind, hr, Result.andThen_ok, Sem.run_pure]
  exact hK _ _ h
theorem wl_load_nv (hgd : o.guard = none) (x : Operand) (ho : o.op = .load 56 x) (g : Nat) (hx : a.eval x = .pointer (some ⟨g, 0, none⟩)) (y : NV) (hb : Blk w g 56 y.C)
  (h : wpList Tryz.prog ops Q rest (a.put o.dst (.agg y.C)) w) : wpList Tryz.prog ops Q (o :: rest) a w := zzp hgd x ho g hx _ _ _ _ _ _ _ hb h
theorem zqx (hgd : o.guard = none) (x y : Operand) (ho : o.op = .store 56 x y) (g : Nat) (z : NV) (hx : a.eval x = .pointer (some ⟨g, 0, none⟩)) (hy : a.eval y = .agg z.C) (old : Array Value) (ho2 : old.size = 8) (hb : Blk w g 56 old)
  (h : ∀ w', Blk w' g 56 z.C → w.grownBy w' (some g) → wpList Tryz.prog ops Q rest (a.put o.dst undef) w') : wpList Tryz.prog ops Q (o :: rest) a w :=
 zyj hgd x y ho g _ _ _ _ _ _ _ hx hy old ho2 hb h
theorem wl_pushN (hgd : o.guard = none) (s x : Operand) (ho : o.op = .call { callee := .builtin .append, args := #[s, x], argTypes := #[54, 54] })
  {B : Nat} {A : Option Addr} {n c : Nat} {l : List Nd} {cl : List NV} {bl : List (List Nat)} (hL : NdL w B A n c l cl bl) {t : Nd} {z : NV} {bs : List Nat} (ht : NdO w B t z bs) (hdis : ∀ b ∈ bs, b ∉ ownL A ++ bl.flatten)
  (hs : a.eval s = .slice A n c) (g : Nat) (hx : a.eval x = .slice (some ⟨g, 0, none⟩) 1 1) (hb : Blk w g 56 z.C) (hmax : n ≤ 1000000) (hB : B ≤ w.heap.size)
  (h : ∀ A' c' w', NdL w' B A' (n + 1) c' (l ++ [t]) (cl ++ [z]) (bl ++ [bs]) → w.grownBy w' (Value.slice A n c).ownBlock → wpList Tryz.prog ops Q rest (a.put o.dst (.slice A' (n + 1) c')) w') : wpList Tryz.prog ops Q (o :: rest) a w := by
 have hi := info_node3
 cases hI : Tryz.prog.info? 56 with
 | none => rw [hI] at hi; cases hi
 | some ii =>
  rw [hI] at hi
  simp only [Option.map_some, Option.some.injEq, Prod.mk.injEq, Option.map_eq_some_iff] at hi
  obtain ⟨⟨z0, hz0, hz1⟩, hz2, hz3⟩ := hi
  have hcn : cl.length = n := by rw [hL.hcl, hL.hn]
  refine zxh w hgd s x 54 ho B 56 ii z0 8 80 Tryz.underlying54 hI hz0 hz2 hz3 hz1 (by decide) NV.size NV.one _ cl hs hL.ho w.heap.size (some ⟨g, 0, none⟩) 1 1 [z] hx rfl (zxk hb) (by unfold maxLen; omega) (by omega) hB ?_
  intro v' w' ho' hg hv
  obtain ⟨A', c', rfl, hL'⟩ := hL.push ht hdis (by omega) ho' hg hv
  exact h A' c' w' hL' hg
end
theorem build_leaf (kd : Int) (w : World) : (Instr.build 56 #[(0, .int .i64 kd)]).run Tryz.prog w = .ok (.agg (NV.mk kd 0 none 0 0 0 0).C) w := by kernel_rfl
theorem build_nset (kd : Int) (st : BSet) (w : World) : (Instr.build 56 #[(0, .int .i64 kd), (1, .agg (setC st))]).run Tryz.prog w = .ok (.agg (NV.mk kd st none 0 0 0 0).C) w := by kernel_rfl
theorem build_nlist (kd : Int) (A : Option Addr) (n c : Nat) (w : World) : (Instr.build 56 #[(0, .int .i64 kd), (2, .slice A n c)]).run Tryz.prog w = .ok (.agg (NV.mk kd 0 A n c 0 0).C) w := by kernel_rfl
theorem build_ntimes (kd : Int) (A : Option Addr) (n c : Nat) (mi ma : Int) (w : World) : (Instr.build 56 #[(0, .int .i64 kd), (2, .slice A n c), (3, .int .i64 mi), (4, .int .i64 ma)]).run Tryz.prog w = .ok (.agg (NV.mk kd 0 A n c mi ma).C) w := by kernel_rfl
theorem build_nzero (w : World) : (Instr.build 56 #[]).run Tryz.prog w = .ok (.agg (NV.mk 0 0 none 0 0 0 0).C) w := by kernel_rfl
def NdAns (g : Nat) (p : ByteArray) (w : World) (B : Nat) (r : Ere.Res Nd) (en : Ending) (w' : World) : Prop :=
 Turn g (g + 1) w w' ∧ match r with
  | .fault e i => en = zxo e i
  | .got t j => Blk w' g 110 (rdC p j) ∧ ∃ x bs, en = .returned (.agg (NV.C x)) ∧ NdO w' B t x bs
end Go.Proofs.YtkedgombccdamaaGreatDoor
namespace Go.Proofs.YtkedgombccdamaaGreatDoor
open Go.RowKit Go.Maps
set_option linter.unusedVariables false
set_option linter.unusedSimpArgs false
attribute [local go_sem] Oper.semAt_some
def zeroC : Array Value := #[.int .i64 0, .int .u64 0, .int .u64 0, .int .u64 0, .int .u64 0, .slice none 0 0, .int .i64 0, .int .i64 0]
theorem ret_nv {fn : Func} {p : Tmp} {g : Nat} {x : NV} (hres : fn.results = #[.cell p 56]) {a : Act} {w : World}
  (hp : a.tmps.getD p undef = .pointer (some ⟨g, 0, none⟩)) (hb : Blk w g 56 x.C)
  (hdf : a.defers = []) {R : Ending → World → Prop} (hR : R (.returned (.agg x.C)) w) : bodyPost Tryz.prog fn R .ret a w :=
 ret_cell hres _ hp hb Tryz.underlying56 rfl (info_node.trans rfl) hdf hR
set_option maxRecDepth 100000 in
set_option maxHeartbeats 2000000 in
theorem some_any (kd : Int) {B : Nat} {A : Option Addr} {n c : Nat} {l : List Nd} {cl : List NV} {bl : List (List Nat)} (w : World) (h : NdL w B A n c l cl bl) :
  Calls Tryz.prog 55 #[.int .i64 kd, .slice A n c] w fun e w' => Below w.heap.size w w' ∧ ∃ x bs, e = .returned (.agg (NV.C x)) ∧ NdO w' B (Ere.someN kd l) x bs := by
 have hn := h.hn
 have hnb := h.hmax
 go_enter Tryz.func55, Tryz.ntmps55
 have h4 : Blk (w.alloc (.cells zeroC 56)) w.heap.size 56 zeroC := Blk.new' _ _ _ rfl
 have hB : Below w.heap.size w (w.alloc (.cells zeroC 56)) := zqc (Below.refl _ _) _
 unfold zeroC at h4 hB
 rcases l with _ | ⟨t, _ | ⟨t2, l⟩⟩
 ·have hn0 : n = 0 := by simpa using hn
  subst hn0
  clear hn hnb
  go_wp2_with (first | (refine zxy rfl _ rfl _ #[(0, .int .i64 1)] rfl (fun w => build_leaf 1 w) ?_) | (refine zqx rfl _ _ rfl _ _ rfl rfl _ rfl h4 ?_; intro w5 h5 hg5))
  refine ret_nv rfl rfl h5 rfl ⟨zqh hB hg5 (Nat.le_refl _), _, _, rfl, NdO.leaf _ _ _ _ _ _⟩
 ·have hn1 : n = 1 := by simpa using hn
  subst hn1
  have hcl := h.hcl
  obtain ⟨x, rfl⟩ : ∃ x, cl = [x] := List.length_eq_one_iff.1 (by simpa using hcl)
  have hbl := h.hbl
  obtain ⟨bs, rfl⟩ : ∃ x, bl = [x] := List.length_eq_one_iff.1 (by simpa using hbl)
  obtain ⟨g, cap, hv, hBg, hgl, _, _⟩ := h.ho.form (by simp)
  injection hv with h1 h2 h3
  subst h1
  have hrow : RowAt (w.alloc (.cells zeroC 56)) g (0 * 8) x.C := ((h.ho.alloc _).row NV.size 0 (by simp))
  have ht := h.hr 0 (by simp) (by simp) (by simp)
  simp only [List.getElem_cons_zero] at ht
  have h0 := Lib.hid ht
  clear ht
  unfold zeroC at hrow
  replace hrow := Lib.hid hrow
  clear h hn hcl hbl h2 h3 hnb hBg hgl
  go_wp2_with (first | (refine zxg rfl _ rfl g _ rfl _ _ _ _ _ _ _ hrow.out ?_) | (refine zqx rfl _ _ rfl _ x rfl rfl _ rfl h4 ?_; intro w5 h5 hg5))
  refine ret_nv rfl rfl h5 rfl ⟨zqh hB hg5 (Nat.le_refl _), x, bs, rfl, h0.out.then_ (zqh hB hg5 (Nat.le_refl _))⟩
 ·have hn2 : n = l.length + 2 := by simpa using hn
  have hz0 : ¬ (n : Int) = 0 := by omega
  have hz1 : ¬ (n : Int) = 1 := by omega
  replace h := Lib.hid h
  clear hn hn2 hnb
  go_wp2_with (first | (refine zxy rfl _ rfl ⟨kd, 0, A, n, c, 0, 0⟩ #[(0, .int .i64 kd), (2, .slice A n c)] rfl (fun w => build_nlist kd A n c w) ?_) | (refine zqx rfl _ _ rfl _ _ rfl rfl _ rfl h4 ?_; intro w5 h5 hg5))
  refine ret_nv rfl rfl h5 rfl ⟨zqh hB hg5 (Nat.le_refl _), _, _, rfl, (h.out.then_ (zqh hB hg5 (Nat.le_refl _))).node kd 0 0 0⟩
theorem ret_step {P : Program} {f : FuncId} {vs : Array Value} {w : World} {S : GSpec} {v : Value} (hc : Calls P f vs w fun e w' => e = .returned v ∧ Below w.heap.size w w') (hp : ∀ w', S.p v w') : Calls P f vs w fun e w' => ∃ v, e = .returned v ∧ Below w.heap.size w w' ∧ S.p v w' :=
 hc.mono fun e w' h => ⟨v, h.1, h.2, hp w'⟩
set_option maxRecDepth 100000 in
set_option maxHeartbeats 2000000 in
theorem nset_any (s : BSet) (w : World) :
  Calls Tryz.prog 77 #[.agg (setC s)] w fun e w' => e = .returned (.agg (NV.mk 2 (s &&& notB 0) none 0 0 0 0).C) ∧ Below w.heap.size w w' := by
 go_enter Tryz.func77, Tryz.ntmps77
 have h1 : Blk ((w.alloc (.cells (setC s) 53)).alloc (.cells zeroC 56)) w.heap.size 53 (setC s) := (Blk.new _ _ _).alloc _
 have h4 : Blk ((w.alloc (.cells (setC s) 53)).alloc (.cells zeroC 56)) (w.heap.size + 1) 56 zeroC := Blk.new' _ _ _ (by simp)
 have hB : Below w.heap.size w ((w.alloc (.cells (setC s) 53)).alloc (.cells zeroC 56)) := zqc (zqc (Below.refl _ _) _) _
 unfold zeroC at h1 h4 hB
 go_upto_region 1 with (fail)
 obtain ⟨w1, hw1⟩ : ∃ y, y = (w.alloc (.cells (setC s) 53)).alloc (.cells zeroC 56) := ⟨_, rfl⟩
 unfold zeroC at hw1
 rw [← hw1] at h1 h4 hB ⊢
 clear hw1
 refine zql 4 [eqS (.agg (setC s)), eqS (.agg (setC 0)), eqS (.agg (setC (notB 0))), eqS (.agg (setC (s &&& notB 0)))] [3, 4, 5, 6] zqp (by kernel_rfl) (by kernel_rfl) ?_ ?_
 ·refine Steps.cons (fun a' w' hG hB dep => zxe (zqa rfl) _ rfl w.heap.size 0 (hG.other 1 rfl) s (RowAt.of_blk (zqb h1 hB)) rfl) ?_
  refine Steps.cons (fun a' w' hG hB dep => gs_build_set0 (zqa rfl) rfl rfl) ?_
  refine Steps.cons (fun a' w' hG hB dep => zze (zqa rfl) _ _ _ rfl enter_not #[.agg (setC 0)] (map1 (dep 1 rfl 4 rfl)) (ret_step (not_any 0 _) (fun _ => rfl))) ?_
  refine Steps.cons (fun a' w' hG hB dep => zze (zqa rfl) _ _ _ rfl enter_meet #[.agg (setC s), .agg (setC (notB 0))] (map2 (dep 0 rfl 3 rfl) (dep 2 rfl 5 rfl)) (ret_step (meet_any s (notB 0) _) (fun _ => rfl))) ?_
  exact Steps.nil
 intro u w2 hB2 ans
 have u6 : u 6 = .agg (setC (s &&& notB 0)) := ans 3 6 (by decide) rfl
 clear ans
 simp only [zqr, List.foldl_cons, List.foldl_nil, Act.put, List.setIfInBounds_toArray, List.set_cons_zero, List.set_cons_succ, u6]
 clear u6
 simp only [List.drop]
 replace h4 := zqb h4 hB2
 replace hB := zqd hB hB2
 refine zxy rfl _ rfl ⟨2, s &&& notB 0, none, 0, 0, 0, 0⟩ #[(0, .int .i64 2), (1, .agg (setC (s &&& notB 0)))] rfl (fun w => build_nset 2 _ w) ?_
 refine zqx rfl _ _ rfl _ ⟨2, s &&& notB 0, none, 0, 0, 0, 0⟩ rfl rfl _ rfl h4 ?_
 intro w3 h3 hg3
 refine wpList_nil ?_
 go_wp2_with (fail)
 exact ret_nv rfl rfl h3 rfl ⟨rfl, zqh hB hg3 (by omega)⟩
end Go.Proofs.YtkedgombccdamaaGreatDoor
