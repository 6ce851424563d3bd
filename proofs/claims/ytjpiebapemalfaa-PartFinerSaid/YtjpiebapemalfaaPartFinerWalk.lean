/- The walk of PartFiner. -/
import Derived.Test.YtjpiebapemalfaaBuild
import Derived.Test.YtjpiebapemalfaaOpen2
import Derived.Test.YtjpiebapemalfaaFiner
import Derived.Test.YtjpiebapemalfaaKeep
import Derived.Test.YtjpiebapemalfaaPartClassesWalk
namespace Go.Proofs.Ytjpiebapemalfaa
open Go.RowKit
set_option linter.unusedVariables false
set_option linter.unusedSimpArgs false

set_option maxRecDepth 100000 in
set_option maxHeartbeats 8000000 in
theorem partFiner_any (A0 : Option Addr) (n0 c0 : Nat) (l0 : List BSet) (x : BSet) (w : World) (hn0 : n0 = l0.length) (hm0 : n0 ≤ maxLen) (hc0 : n0 ≤ c0) (hs0 : SliceOf w w.heap.size 4 setC A0 l0) :
    Calls Try.prog 9 #[.slice A0 n0 c0, .agg (setC x)] w fun e w' => e = .returned (.bool true) ∧ Below w.heap.size w w' := by
  obtain ⟨i0, hi0, hz0, hz1, hz2⟩ := info_parts info_set3
  have hzc := zero_cls
  have hsE := size_setE
  have hx := Blk.new w 31 (setC x)
  have hB0 := below_alloc (Below.refl w.heap.size w) (.cells (setC x) 31)
  have hsm := small_sets A0 n0 c0 30 l0 (w.alloc (.cells (setC x) 31)) hn0 hm0 (by decide) hc0 ((hs0.below hB0).more hB0.size)
  rw [show ((30 : Nat) : Int) = 30 from rfl] at hsm
  have Hsm := Lib.hid hsm
  have Hn0 := Lib.hid hn0
  clear hsm hn0
  go_enter Try.func9, Try.ntmps9
  go_upto_region 4 with (first | (go_at_call 17; refine Hsm.out.mono ?_; rintro e w1 ⟨rfl, hw1⟩; subst hw1) | (go_at_call 12; refine (known9_any _).mono ?_; rintro e w2 ⟨rfl, hB⟩))
  replace hx := blk_then hx hB
  replace hB := below_then hB0 hB
  have hn : min n0 30 = (l0.take 30).length := by rw [List.length_take, ← Hn0.out]; omega
  have hs := hs0.take 30
  have hle : min n0 30 ≤ 30 := Nat.min_le_right _ _
  obtain ⟨n, hnn⟩ : ∃ n, n = min n0 30 := ⟨_, rfl⟩
  obtain ⟨l, hll⟩ : ∃ l, l = l0.take 30 := ⟨_, rfl⟩
  rw [← hnn, ← hll] at hn
  rw [← hll] at hs
  rw [← hnn] at hle ⊢
  have Hn := Lib.hid hn
  have hm : n ≤ maxLen := by unfold maxLen; omega
  obtain ⟨A, hA⟩ : ∃ A, A = A0 := ⟨_, rfl⟩
  rw [← hA] at hs ⊢
  clear hn hnn hll hs0 hm0 hc0 hA hB0
  clear Hsm Hn0

  have hs1 := (hs.below hB).more hB.size
  go_upto_region 5 with (first | (go_at_call 19; refine (classes_any A n c0 l _ Hn.out hm hs1).mono ?_; rintro e w3 ⟨rfl, hB2⟩) | (refine wl_store_cls rfl _ _ rfl _ _ rfl rfl (fun _ => 0) (Blk.new _ _ _) ?_; intro w4 h5 hg; have hK := below_then hB2 (below_grown (below_alloc (Below.refl w3.heap.size w3) (.cells (clsC fun _ => 0) 39)) hg (Nat.le_refl _))))
  have h5w : w.heap.size < w3.heap.size := Nat.lt_of_lt_of_le hx.lt hB2.size
  replace hx := blk_then hx hK
  replace hB := below_then hB hK
  clear hB2 hg hs1 hK
  obtain ⟨g5, hg5⟩ : ∃ g, g = w3.heap.size := ⟨_, rfl⟩
  rw [← hg5] at h5 h5w ⊢
  clear hg5
  obtain ⟨base, hbase⟩ : ∃ base, base = w4.heap.size := ⟨_, rfl⟩
  have hb1 : base ≤ w4.heap.size := by omega
  have hbw : w.heap.size < base := by rw [hbase]; exact hx.lt
  have h5b : g5 < base := by rw [hbase]; exact h5.lt
  clear hbase
  have hmle := many_le l
  go_upto_region 6 with (fail)
  go_wp2
  go_loopw [29, 7] (fun i v wr => ∃ j : Nat, j ≤ n ∧ i = .int .i64 j ∧ Own wr base 31 4 setC v (l.reverse.take j) ∧ base ≤ wr.heap.size ∧ Blk wr w.heap.size 31 (setC x) ∧ Blk wr g5 39 (clsC (cls l)) ∧ Below w.heap.size w wr) (fun i _ _ => n - (intOf i).toNat)
  case atStart => exact ⟨0, by omega, rfl, Own.nil_ _ _ _ _ _, hb1, hx, h5, hB⟩
  case round =>
    clear hx h5 hB hb1
    obtain ⟨j, hj, rfl, hown, hb1, hx, h5, hB⟩ := hrel
    obtain ⟨A2, c2, rfl, hc2, hc3⟩ := hown.shape
    have hlq : (l.reverse.take j).length = j := by have := Hn.out; rw [List.length_take, List.length_reverse]; omega
    rw [hlq] at hc2 hown ⊢
    by_cases hjt : j < n
    · have hjI : (j : Int) < n := by omega
      have hjl : n - 1 - j < l.length := by have := Hn.out; omega
      have hrt := Lib.hid (rev_take' l n j Hn.out hjt hjl)
      obtain ⟨b0, off, rfl, hbl, hrow⟩ := (hs.below hB).at_ (by omega)
      have hr := hrow (n - 1 - j) hjl
      obtain ⟨y, hy⟩ : ∃ y, y = l[n - 1 - j] := ⟨_, rfl⟩
      rw [← hy] at hr hrt
      obtain ⟨ys, hys⟩ : ∃ ys, ys = l.reverse.take j := ⟨_, rfl⟩
      rw [← hys] at hown hrt hlq
      have Hlq := Lib.hid hlq
      have hown1 := hown.alloc (.cells (setC y) 31)
      have hone := slice_one (enc := setC) (size := 4) (Blk.new wr 31 (setC y))
      have hownlt : ∀ q, (Value.slice A2 j c2).ownBlock = some q → base ≤ q := fun q e => (hown.lt q e).1
      clear hrow hy hys hlq
      go_wp2_with (first | (refine wl_load_set_at rfl _ rfl _ _ rfl _ hr ?_) | (refine wl_build1 rfl _ rfl _ rfl ?_) | (at_builtin; refine wl_append _ rfl _ _ 27 rfl base 31 i0 _ 4 32 Try.underlying27 hi0 hz0 hz1 hz2 rfl (by decide) setC_size setC_one _ ys rfl hown1 _ _ 1 1 [y] rfl rfl hone (by rw [Hlq.out]; unfold maxLen; omega) (by rw [Hlq.out]; omega) (by simp; omega) ?_; intro v2 w7 hown2 hg2 hat2))
      go_roundw
      case rel => exact ⟨j + 1, by omega, by go_num, by rw [hrt.out]; exact hown2, by have := hg2.size; simp at this; omega, (hx.alloc _).grown hg2 (fun e => by have := hownlt _ e.symm; omega), (h5.alloc _).grown hg2 (fun e => by have := hownlt _ e.symm; omega), below_own (below_alloc hB _) hg2 (fun j e => by have := hownlt j e; omega)⟩
      case measure => simp [intOf]; omega
    · have hjI : ¬ (j : Int) < n := by omega
      have hjn : j = n := by omega
      obtain ⟨R, hR⟩ : ∃ R, R = l.reverse := ⟨_, rfl⟩
      have HRl : Hid (R.length = n) := by rw [hR, List.length_reverse, ← Hn.out]; exact Lib.hid rfl
      have hRt : l.reverse.take j = R := by rw [← hR]; exact List.take_of_length_le (by rw [HRl.out]; omega)
      rw [hRt] at hown
      obtain ⟨L2, hL2⟩ : ∃ L2, L2 = R ++ l := ⟨_, rfl⟩
      obtain ⟨F, hF⟩ : ∃ F, F = R ++ [x] := ⟨_, rfl⟩
      have hcl : Hid (clsC (cls L2) = clsC (cls l)) := Lib.hid (by rw [hL2, hR]; exact cls_back l)
      have hmy : Hid (many L2 = many l) := Lib.hid (by rw [hL2, hR]; exact many_back l)
      have hL2m : L2.length ≤ maxLen := by rw [hL2, List.length_append, HRl.out, ← Hn.out]; unfold maxLen; omega
      have hFm : F.length ≤ maxLen := by rw [hF, List.length_append, HRl.out]; unfold maxLen; simp; omega
      have hM1 : many l ≤ many F := by rw [hF, hR, ← many_rev l]; exact many_more _ _
      have hM2 : many F ≤ 2 * many l := by rw [hF, hR, ← many_rev l]; exact many_twice _ _
      have hfin : ∀ a b, cls F a = cls F b → cls l a = cls l b := by rw [hF, hR]; exact cls_finer l x
      have Hfin := Lib.hid hfin
      have hL2' := Lib.hid hL2
      have hF' := Lib.hid hF
      have hM3 := many_le F
      clear hfin hjn hRt hlq hR hL2 hF
      have hs1 := (hs.below hB).more hB.size
      have hownlt : ∀ q, (Value.slice A2 j c2).ownBlock = some q → base ≤ q := fun q e => (hown.lt q e).1
      go_upto_region 12 with (first
        | (at_builtin; refine wl_append_keep rfl _ _ 27 rfl base 31 i0 _ 4 32 Try.underlying27 hi0 hz0 hz1 hz2 rfl (by decide) setC_size setC_one _ R rfl hown _ A n c0 l rfl Hn.out hs1 (by rw [HRl.out]; unfold maxLen; omega) (by rw [HRl.out]; omega) hb1 ?_; intro v2 w7 hown2 hown1 hg2 hat2; rw [← hL2'.out] at hown2; obtain ⟨A3, c3, rfl, hc5, hc6⟩ := hown2.shape)
        | (go_at_call 19; refine (classes_any A3 _ c3 L2 _ rfl hL2m (hown2.slice_all setC_size)).mono ?_; rw [hcl.out, hmy.out]; rintro e w8 ⟨rfl, hB8⟩)
        | (refine wl_store_cls rfl _ _ rfl _ _ rfl rfl (fun _ => 0) (Blk.new _ _ _) ?_; intro w9 h9 hg9))
      have hK := below_then hB8 (below_grown (below_alloc (Below.refl w8.heap.size w8) (.cells (clsC fun _ => 0) 39)) hg9 (Nat.le_refl _))
      replace hx := blk_then (hx.grown hg2 (fun e => by have := hownlt _ e.symm; omega)) hK
      replace h5 := blk_then (h5.grown hg2 (fun e => by have := hownlt _ e.symm; omega)) hK
      replace hB := below_then (below_own hB hg2 (fun j e => by have := hownlt j e; omega)) hK
      have h9b : base ≤ w8.heap.size := Nat.le_trans (Nat.le_trans hb1 hg2.size) hB8.size
      replace hb1 : base ≤ w9.heap.size := Nat.le_trans (Nat.le_trans hb1 hg2.size) hK.size
      replace hown := hown1.then_ hK
      clear hK hg9 hB8 hown1 hown2 hg2 hat2 hc5 hc6 hL2m hmy hcl hL2' hs1
      obtain ⟨g9, hg9⟩ : ∃ g, g = w8.heap.size := ⟨_, rfl⟩
      rw [← hg9] at h9 h9b ⊢
      clear hg9
      refine wp_region_text 8 [eqS (.agg (clsC (cls l))), eqS (.agg (clsC (cls l))), eqS (.bool false), eqS (.bool false), eqS (.int .i64 ((many l : Int))), eqS (.int .i64 ((many l : Int))), eqS (.bool false), eqS (.bool false)] [51, 52, 53, 54, 55, 56, 57, 58] (by kernel_rfl) rfl ?_ ?_
      · refine Steps.cons (fun a' w' hG hB dep => gs_load_cls (want_none rfl) _ rfl _ (hG.other 9 rfl) _ (blk_then h9 hB) rfl) ?_
        refine Steps.cons (fun a' w' hG hB dep => gs_load_cls (want_none rfl) _ rfl _ (hG.other 5 rfl) _ (blk_then h5 hB) rfl) ?_
        refine Steps.cons (fun a' w' hG hB dep => gs_neq_cls (want_none rfl) _ _ _ rfl _ (dep 0 rfl 51 rfl) (dep 1 rfl 52 rfl) rfl) ?_
        refine Steps.cons (fun a' w' hG hB dep => gs_move (want_none rfl) _ rfl (dep 2 rfl 53 rfl)) ?_
        refine Steps.cons (fun a' w' hG hB dep => gs_move (want_yes rfl rfl (dep 3 rfl 54 rfl)) _ rfl (hG.other 10 rfl)) ?_
        refine Steps.cons (fun a' w' hG hB dep => gs_move (want_yes rfl rfl (dep 3 rfl 54 rfl)) _ rfl (hG.other 6 rfl)) ?_
        refine Steps.cons (fun a' w' hG hB dep => gs_neq_int (want_yes rfl rfl (dep 3 rfl 54 rfl)) _ _ _ _ rfl _ _ _ (dep 4 rfl 55 rfl) (dep 5 rfl 56 rfl) (eqFI rfl)) ?_
        refine Steps.cons (fun a' w' hG hB dep => gs_pick (want_none rfl) _ _ _ rfl false (dep 3 rfl 54 rfl) (dep 6 rfl 57 rfl)) ?_
        exact Steps.nil
      intro u w10 hB10 ans
      have ux : u 58 = .bool false := ans 7 58 (by decide) rfl
      clear ans
      refine wpList_nil ?_
      simp only [putAll, List.foldl_cons, List.foldl_nil, Act.put, List.setIfInBounds_toArray, List.set_cons_zero, List.set_cons_succ, ux]
      clear ux

      replace hx := blk_then hx hB10
      replace h5 := blk_then h5 hB10
      replace hown := hown.then_ hB10
      replace hB := below_then hB hB10
      replace hb1 := Nat.le_trans hb1 hB10.size
      clear hB10 h9
      have hown1 := hown.alloc (.cells (setC x) 31)
      have hone := slice_one (enc := setC) (size := 4) (Blk.new w10 31 (setC x))
      go_upto_region 15 with (first
        | (refine wl_load_set rfl _ rfl _ rfl _ hx ?_)
        | (refine wl_build1 rfl _ rfl _ rfl ?_)
        | (at_builtin; refine wl_append _ rfl _ _ 27 rfl base 31 i0 _ 4 32 Try.underlying27 hi0 hz0 hz1 hz2 rfl (by decide) setC_size setC_one _ R rfl hown1 _ _ 1 1 [x] rfl rfl hone (by rw [HRl.out]; unfold maxLen; omega) (by rw [HRl.out]; omega) (by simp; omega) ?_; intro v2 w11 hown2 hg2 hat2; rw [← hF'.out] at hown2; obtain ⟨A4, c4, rfl, hc5, hc6⟩ := hown2.shape)
        | (go_at_call 19; refine (classes_any A4 _ c4 F _ rfl hFm (hown2.slice_all setC_size)).mono ?_; rintro e w12 ⟨rfl, hB12⟩)
        | (refine wl_store_cls rfl _ _ rfl _ _ rfl rfl (fun _ => 0) (Blk.new _ _ _) ?_; intro w13 h11 hg13))
      have hK := below_then hB12 (below_grown (below_alloc (Below.refl w12.heap.size w12) (.cells (clsC fun _ => 0) 39)) hg13 (Nat.le_refl _))
      replace h5 := blk_then ((h5.alloc _).grown hg2 (fun e => by have := hownlt _ e.symm; omega)) hK
      replace hB := below_then (below_own (below_alloc hB _) hg2 (fun j e => by have := hownlt j e; omega)) hK
      have h11b : w.heap.size ≤ w12.heap.size := by have := hB12.size; have := hg2.size; simp at this; omega
      clear hK hg13 hB12 hown1 hown2 hg2 hat2 hc5 hc6 hFm hF' hown hb1 hx hownlt hone
      obtain ⟨g11, hg11⟩ : ∃ g, g = w12.heap.size := ⟨_, rfl⟩
      rw [← hg11] at h11 h11b ⊢
      clear hg11 HRl hs hc2 hc3 hi0 hz0 hz1 hz2 hsE hzc hbw h5b h9b
      obtain ⟨M, hM⟩ : ∃ M, M = many F := ⟨_, rfl⟩
      obtain ⟨m, hm'⟩ : ∃ m, m = many l := ⟨_, rfl⟩
      rw [← hM] at hM1 hM2 hM3 ⊢
      rw [← hm'] at hM1 hM2 hmle ⊢
      have HM := Lib.hid hM
      clear hM hm' hjI hjt hj hle hm
      have e1 : decide (M < m) = false := by simp; omega
      have e2 : decide (2 * m < M) = false := by simp; omega
      have e3 : decide (2 * (m : Int) < (M : Int)) = false := by simp; omega
      obtain ⟨wz, hwz⟩ : ∃ wo : World, wo = wr := ⟨_, rfl⟩
      clear hwz
      go_wp2
      go_loopw [13] (fun i wr => ∃ a : Nat, a ≤ 256 ∧ i = .int .i64 a ∧ Blk wr g11 39 (clsC (cls F)) ∧ Blk wr g5 39 (clsC (cls l)) ∧ Below w.heap.size w wr) (fun i _ => 256 - (intOf i).toNat)
      case atStart => exact ⟨0, by omega, rfl, h11, h5, hB⟩
      case round =>
        clear h11 h5 hB
        obtain ⟨a, ha', rfl, h11, h5, hB⟩ := hrel
        by_cases ha : a < 256
        · have haI : (a : Int) < 256 := by omega
          go_wp2
          obtain ⟨wo2, rfl⟩ : ∃ wo : World, wo = wr := ⟨_, rfl⟩
          go_loopw [14] (fun i wr => ∃ b : Nat, b ≤ a ∧ i = .int .i64 b ∧ Blk wr g11 39 (clsC (cls F)) ∧ Blk wr g5 39 (clsC (cls l)) ∧ Below w.heap.size w wr) (fun i _ => a - (intOf i).toNat)
          case atStart => exact ⟨0, by omega, rfl, h11, h5, hB⟩
          case round =>
            clear h11 h5 hB
            obtain ⟨b, hb', rfl, h11, h5, hB⟩ := hrel
            by_cases hb : b < a
            · have hbt : b < 256 := by omega
              have hbI : (b : Int) < a := by omega
              have d1 := h11.cellv (clsC_at _ a ha)
              have d2 := h11.cellv (clsC_at _ b hbt)
              by_cases he : cls F a = cls F b
              · have hcl := Hfin.out a b he
                have d3 := h5.cellv (clsC_at _ a ha)
                have d4 := h5.cellv (clsC_at _ b hbt)
                rw [he] at d1
                rw [hcl] at d3
                obtain ⟨va, hva⟩ : ∃ va, va = cls F b := ⟨_, rfl⟩
                obtain ⟨vb, hvb⟩ : ∃ vb, vb = cls l b := ⟨_, rfl⟩
                rw [← hva] at d1 d2
                rw [← hvb] at d3 d4
                clear he hcl hva hvb
                go_upto_region 23 with (fail)
                go_quiet (fail)
                go_wp2
                go_roundw
                case rel => exact ⟨b + 1, by omega, by go_num, h11.drewN _, h5.drewN _, below_drewN' hB _⟩
                case measure => simp [intOf]; omega
              · obtain ⟨va, hva⟩ : ∃ va, va = cls F a := ⟨_, rfl⟩
                obtain ⟨vb, hvb⟩ : ∃ vb, vb = cls F b := ⟨_, rfl⟩
                rw [← hva] at d1 he
                rw [← hvb] at d2 he
                have he2 : (va == vb) = false := by simpa using he
                clear he hva hvb
                go_upto_region 23 with (fail)
                go_quiet (fail)
                go_wp2
                go_roundw
                case rel => exact ⟨b + 1, by omega, by go_num, h11.drewN _, h5.drewN _, below_drewN' hB _⟩
                case measure => simp [intOf]; omega
            · obtain rfl : b = a := by omega
              go_wp2
              go_roundw
              case rel => exact ⟨b + 1, by omega, by go_num, h11, h5, hB⟩
              case measure => simp [intOf]; omega
        · obtain rfl : a = 256 := by omega
          rw [show ((256 : Nat) : Int) = 256 from rfl]
          clear ha ha' Hfin h5
          go_wp2
          obtain ⟨wo, rfl⟩ : ∃ wo : World, wo = wr := ⟨_, rfl⟩
          go_loopw [16, 15] (fun i t wr => ∃ c : Nat, c ≤ M ∧ i = .int .i64 c ∧ t = .int .i64 (cumC F c : Nat) ∧ Blk wr g11 39 (clsC (cls F)) ∧ Below w.heap.size w wr) (fun i _ _ => M - (intOf i).toNat)
          case atStart => exact ⟨0, by omega, rfl, by rw [cumC_zero]; rfl, h11, hB⟩
          case round =>
            clear h11 hB
            obtain ⟨c, hc, rfl, rfl, h11, hB⟩ := hrel
            by_cases hct : c < M
            · have hcI : (c : Int) < M := by omega
              have Hs := Lib.hid (cumC_succ F c)
              have hle := cumC_le F (c + 1)
              have hpos := cnt_pos F c (by rw [← HM.out]; exact hct)
              rw [Hs.out] at hle
              obtain ⟨p, hp⟩ : ∃ p, p = cumC F c := ⟨_, rfl⟩
              obtain ⟨q, hq⟩ : ∃ q, q = cnt (memB (cls F) c) := ⟨_, rfl⟩
              rw [← hp, ← hq] at Hs hle
              rw [← hq] at hpos
              rw [← hp]
              have Hq := Lib.hid hq.symm
              have hq0 : ((q : Int) == 0) = false := by rw [beq_eq_false_iff_ne]; omega
              clear hp hq
              have hC := Below.refl wr.heap.size wr
              go_upto_region 30 with (first
                | (refine wl_load_cls rfl _ rfl _ rfl _ h11 ?_)
                | (go_at_call 20; refine (members_any (cls F) (c : Int) _).mono ?_; rintro e w3 ⟨rfl, hB3⟩; replace hC := below_then hC hB3)
                | (go_at_call 26; refine (count_any _ _).mono ?_; rw [Hq.out]; rintro e w4 ⟨rfl, hB4⟩; replace hC := below_then hC hB4))
              go_wp2
              go_roundw
              case rel => exact ⟨c + 1, by omega, by go_num, by rw [Hs.out]; go_num, blk_then h11 hC, below_then hB hC⟩
              case measure => simp [intOf]; omega
            · have hcI : ¬ (c : Int) < M := by omega
              have h256 : cumC F c = 256 := by rw [show c = many F by rw [← HM.out]; omega]; exact cumC_all F
              rw [h256, show ((256 : Nat) : Int) = 256 from rfl]
              clear h256
              go_wp2
              go_ret
              exact ⟨rfl, hB⟩

end Go.Proofs.Ytjpiebapemalfaa
