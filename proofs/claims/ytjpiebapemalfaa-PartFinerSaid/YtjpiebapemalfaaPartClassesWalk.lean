/- The walk of PartClasses. -/
import Derived.Test.YtjpiebapemalfaaGs5
import Derived.Test.YtjpiebapemalfaaOpen2
namespace Go.Proofs.Ytjpiebapemalfaa
open Go.RowKit
set_option linter.unusedVariables false
set_option linter.unusedSimpArgs false

theorem small_sets (A : Option Addr) (n c N : Nat) (l : List BSet) (w : World) (hn : n = l.length) (hm : n ≤ maxLen) (hN : N ≤ maxLen) (hc : n ≤ c) (hs : SliceOf w w.heap.size 4 setC A l) :
    Calls Try.prog 17 #[.slice A n c, .int .i64 N] w fun e w' => e = .returned (.slice A (min n N) c) ∧ w' = w := by
  rcases A with _ | a
  · have : n = 0 := by
      rcases hs with h | ⟨b, off, h, _⟩
      · rw [hn, h]; rfl
      · cases h
    subst this
    rw [Nat.zero_min]
    exact small_nil c N w hN
  · exact small_any a n c N w hm hN hc
set_option maxRecDepth 100000 in
set_option maxHeartbeats 1500000 in
theorem partClasses_any (A0 : Option Addr) (n0 c0 : Nat) (l0 : List BSet) (B : Option Addr) (m d : Nat) (zs : List Int) (c : Int) (w : World) (hn0 : n0 = l0.length) (hm0 : n0 ≤ maxLen) (hc0 : n0 ≤ c0) (hs0 : SliceOf w w.heap.size 4 setC A0 l0)
    (hm : m = zs.length) (hmm : m ≤ maxLen) (hz : SliceOf w w.heap.size 1 encZ B zs) :
    Calls Try.prog 4 #[.slice A0 n0 c0, .slice B m d, .int .i64 c] w fun e w' => e = .returned (.bool true) ∧ Below w.heap.size w w' := by
  obtain ⟨i0, hi0, hz0, hz1, hz2⟩ := info_parts info_set3
  have Hm := Lib.hid hm
  clear hm
  unfold maxLen at hmm
  have hzc := zero_cls
  have hsE := size_setE
  have hsm := small_sets A0 n0 c0 40 l0 w hn0 hm0 (by decide) hc0 hs0
  rw [show ((40 : Nat) : Int) = 40 from rfl] at hsm
  have Hsm := Lib.hid hsm
  have Hn0 := Lib.hid hn0
  clear hsm hn0
  go_enter Try.func4, Try.ntmps4
  go_upto_region 4 with (first | (go_at_call 17; refine Hsm.out.mono ?_; rintro e w1 ⟨rfl, hw1⟩; subst hw1) | (go_at_call 12; refine (known9_any _).mono ?_; rintro e w2 ⟨rfl, hB⟩))
  have hn : min n0 40 = (l0.take 40).length := by rw [List.length_take, ← Hn0.out]; omega
  have hs := hs0.take 40
  have hle : min n0 40 ≤ 40 := Nat.min_le_right _ _
  obtain ⟨n, hnn⟩ : ∃ n, n = min n0 40 := ⟨_, rfl⟩
  obtain ⟨l, hll⟩ : ∃ l, l = l0.take 40 := ⟨_, rfl⟩
  rw [← hnn, ← hll] at hn
  rw [← hll] at hs
  rw [← hnn] at hle ⊢
  have Hn := Lib.hid hn
  have hm : n ≤ maxLen := by unfold maxLen; omega
  obtain ⟨A, hA⟩ : ∃ A, A = A0 := ⟨_, rfl⟩
  rw [← hA] at hs ⊢
  clear hn hnn hll hs0 hm0 hc0 hA
  obtain ⟨w, rfl⟩ : ∃ w : World, w = w1 := ⟨_, rfl⟩
  clear Hsm Hn0
  have hs1 := (hs.below hB).more hB.size
  go_upto_region 6 with (first | (go_at_call 18; refine (rclasses_any A n c0 l _ Hn.out hm hs1).mono ?_; rintro e w3 ⟨rfl, hB2⟩) | (refine wl_store_cls rfl _ _ rfl _ _ rfl rfl (fun _ => 0) (Blk.new _ _ _) ?_; intro w4 h7 hg; have hK := below_then hB2 (below_grown (below_alloc (Below.refl w3.heap.size w3) (.cells (clsC fun _ => 0) 39)) hg (Nat.le_refl _))))
  have h7w0 : w.heap.size ≤ w3.heap.size := Nat.le_trans hB.size hB2.size
  replace hB := below_then hB hK
  clear hB2 hg hs1 hK
  obtain ⟨g7, hg7⟩ : ∃ g, g = w3.heap.size := ⟨_, rfl⟩
  rw [← hg7] at h7 ⊢
  have h7w : w.heap.size ≤ g7 := by omega
  obtain ⟨base, hbase⟩ : ∃ base, base = w4.heap.size := ⟨_, rfl⟩
  have hs3 := (hs.below hB).more hB.size
  have hb1 : base ≤ w4.heap.size := by omega
  have hbw : w.heap.size ≤ base := by rw [hbase]; exact hB.size
  have h7b : g7 < base := by rw [hbase]; exact h7.lt
  clear hg7 h7w0
  go_upto_region 7 with (at_builtin; refine wl_append _ rfl _ _ 27 rfl base 31 i0 _ 4 32 Try.underlying27 hi0 hz0 hz1 hz2 rfl (by decide) setC_size setC_one (.slice none 0 0) [] rfl (Own.nil_ _ _ _ _ _) _ A n c0 l rfl Hn.out hs3 (by rw [List.length_nil, Nat.zero_add]; exact hm) (by rw [List.length_nil, Nat.zero_add]; omega) hb1 ?_; intro v1 w5 hown1 hg1 hat1; have hK := below_own (Below.refl w4.heap.size w4) hg1 own_nil_lt)
  rw [List.nil_append] at hown1
  replace h7 := blk_then h7 hK
  have hb2 : base ≤ w5.heap.size := Nat.le_trans hb1 hK.size
  replace hB := below_then hB hK
  clear hK hg1 hat1 hs3
  have hone := slice_one (enc := setC) (size := 4) (Blk.new w5 31 (setC s77))
  have hown1' := hown1.alloc (.cells (setC s77) 31)
  have hBw := below_alloc hB (.cells (setC s77) 31)
  have hown2lt : ∀ k, v1.ownBlock = some k → w.heap.size ≤ k := fun k hk => Nat.le_trans hbw (hown1.lt k hk).1
  go_upto_region 8 with (at_builtin; refine wl_append _ rfl _ _ 27 rfl base 31 i0 _ 4 32 Try.underlying27 hi0 hz0 hz1 hz2 rfl (by decide) setC_size setC_one v1 l rfl hown1' _ _ 1 1 [s77] rfl rfl hone (by rw [← Hn.out]; unfold maxLen; omega) (by rw [← Hn.out]; omega) (by simp; omega) ?_; intro v2 w6 hown2 hg2 hat2; replace hB := below_own hBw hg2 hown2lt)
  replace h7 := (h7.alloc (.cells (setC s77) 31)).grown hg2 (fun e => by have := (hown1.lt _ e.symm).1; omega)
  clear hg2 hat2 hBw hown2lt hone hown1' hown1 hb2
  have Htk : Hid ((l ++ [s77]).take n = l) := by rw [Hn.out]; exact List.take_left' rfl
  have hlen : (l ++ [s77]).length = n + 1 := by rw [List.length_append, ← Hn.out]; rfl
  have Hat : Hid (∀ (hk : n < (l ++ [s77]).length), (l ++ [s77])[n] = s77) := fun hk => by
    have h1 := Hn.out
    rw [List.getElem_append_right (by omega)]
    simp [h1]
  obtain ⟨l2, hl2⟩ : ∃ l2, l2 = l ++ [s77] := ⟨_, rfl⟩
  rw [← hl2] at hown2 Htk hlen Hat
  clear hl2
  obtain ⟨g, cap, hv2, hgb, hglt, hcap, hcm⟩ := hown2.form (by omega)
  subst hv2
  have hltl : n < l2.length := by omega
  have hncap : n ≤ cap := by omega
  replace Hat := Lib.hid (Hat.out hltl)
  obtain ⟨M, hM⟩ : ∃ M, M = l2.length := ⟨_, rfl⟩
  have hNn : n < M := by omega
  have hM41 : M ≤ 41 := by omega
  rw [← hM] at hown2 ⊢
  have HM := Lib.hid hM
  clear hM hlen
  have hown := hown2
  clear hown2
  have hC := Below.refl w6.heap.size w6
  have hsl := (hown.slice setC_size n)
  rw [Htk.out] at hsl
  go_upto_region 9 with (first | (go_at_call 19; refine (classes_any _ n cap l _ Hn.out hm ((hsl.below hC).more hC.size)).mono ?_; rintro e w7 ⟨rfl, hB7⟩; replace hC := below_then hC hB7) | (refine wl_store_cls rfl _ _ rfl _ _ rfl rfl (fun _ => 0) (Blk.new _ _ _) ?_; intro w8 h10 hg; replace hC := below_grown (below_alloc hC (.cells (clsC fun _ => 0) 39)) hg hC.size))
  obtain ⟨g10, hg10⟩ : ∃ g', g' = w7.heap.size := ⟨_, rfl⟩
  rw [← hg10] at h10 ⊢
  have h10g : g < g10 := by have := hB7.size; omega
  replace h7 := blk_then h7 hC
  replace hown := hown.then_ hC
  replace hB := below_then hB hC
  replace hsl := (hsl.below hC).more hC.size
  clear hg10 hg hB7 hC hbase hglt
  replace hC := Below.refl w8.heap.size w8
  go_upto_region 10 with (first | (go_at_call 19; refine (classes_any _ n cap l _ Hn.out hm ((hsl.below hC).more hC.size)).mono ?_; rintro e w9 ⟨rfl, hB9⟩; replace hC := below_then hC hB9) | (refine wl_store_cls rfl _ _ rfl _ _ rfl rfl (fun _ => 0) (Blk.new _ _ _) ?_; intro w10 h12 hg; replace hC := below_grown (below_alloc hC (.cells (clsC fun _ => 0) 39)) hg hC.size))
  obtain ⟨g12, hg12⟩ : ∃ g', g' = w9.heap.size := ⟨_, rfl⟩
  rw [← hg12] at h12 ⊢
  have h12g : g10 < g12 := by have := hB9.size; have := h10.lt; omega
  replace h7 := blk_then h7 hC
  replace h10 := blk_then h10 hC
  replace hown := hown.then_ hC
  replace hB := below_then hB hC
  replace hsl := (hsl.below hC).more hC.size
  clear hg12 hg hB9 hC
  have hs10 := (hs.below hB).more hB.size
  refine wp_region_text 36 [eqS (.agg (clsC (cls l))), eqS (.agg (clsC (cls l))), eqS (.bool false), eqS (.bool false), eqS (.agg (clsC (cls l))), eqS (.agg (clsC (cls l))), eqS (.bool false), eqS (.bool false), eqS (.bool false), eqS (.int .i64 ((many l : Int))), eqS (.int .i64 ((many l : Int))), eqS (.bool false), eqS (.bool false), eqS (.bool false), eqS (.int .i64 ((many l : Int))), eqS (.int .i64 ((many l : Int))), eqS (.bool false), eqS (.bool false), eqS (.bool false), eqS (.slice (some ⟨g, 0, none⟩) M cap), eqS (.slice A n c0), eqS (.int .i64 ((n : Int))), eqS (.slice (some ⟨g, 0, none⟩) n cap), eqS (.slice A n c0), eqS (.bool true), eqS (.bool false), eqS (.bool false), eqS (.bool false), eqS (.slice (some ⟨g, 0, none⟩) M cap), eqS (.slice A n c0), eqS (.int .i64 ((n : Int))), eqS (.pointer (some ⟨g, 0 + n * 4, none⟩)), eqS (.agg (setC s77)), eqS (.agg (setC s77)), eqS (.bool false), eqS (.bool false)] [49, 50, 51, 52, 53, 54, 55, 56, 57, 58, 59, 60, 61, 62, 63, 64, 65, 66, 67, 68, 69, 70, 71, 72, 73, 74, 75, 76, 77, 78, 79, 80, 81, 82, 83, 84] (by kernel_rfl) rfl ?_ ?_
  · refine Steps.cons (fun a' w' hG hB dep => gs_load_cls (want_none rfl) _ rfl _ (hG.other 10 rfl) _ (blk_then h10 hB) rfl) ?_
    refine Steps.cons (fun a' w' hG hB dep => gs_load_cls (want_none rfl) _ rfl _ (hG.other 7 rfl) _ (blk_then h7 hB) rfl) ?_
    refine Steps.cons (fun a' w' hG hB dep => gs_neq_cls (want_none rfl) _ _ _ rfl _ (dep 0 rfl 49 rfl) (dep 1 rfl 50 rfl) rfl) ?_
    refine Steps.cons (fun a' w' hG hB dep => gs_move (want_none rfl) _ rfl (dep 2 rfl 51 rfl)) ?_
    refine Steps.cons (fun a' w' hG hB dep => gs_load_cls (want_yes rfl rfl (dep 3 rfl 52 rfl)) _ rfl _ (hG.other 12 rfl) _ (blk_then h12 hB) rfl) ?_
    refine Steps.cons (fun a' w' hG hB dep => gs_load_cls (want_yes rfl rfl (dep 3 rfl 52 rfl)) _ rfl _ (hG.other 7 rfl) _ (blk_then h7 hB) rfl) ?_
    refine Steps.cons (fun a' w' hG hB dep => gs_neq_cls (want_yes rfl rfl (dep 3 rfl 52 rfl)) _ _ _ rfl _ (dep 4 rfl 53 rfl) (dep 5 rfl 54 rfl) rfl) ?_
    refine Steps.cons (fun a' w' hG hB dep => gs_pick (want_none rfl) _ _ _ rfl false (dep 3 rfl 52 rfl) (dep 6 rfl 55 rfl)) ?_
    refine Steps.cons (fun a' w' hG hB dep => gs_move (want_none rfl) _ rfl (dep 7 rfl 56 rfl)) ?_
    refine Steps.cons (fun a' w' hG hB dep => gs_move (want_yes rfl rfl (dep 8 rfl 57 rfl)) _ rfl (hG.other 11 rfl)) ?_
    refine Steps.cons (fun a' w' hG hB dep => gs_move (want_yes rfl rfl (dep 8 rfl 57 rfl)) _ rfl (hG.other 8 rfl)) ?_
    refine Steps.cons (fun a' w' hG hB dep => gs_neq_int (want_yes rfl rfl (dep 8 rfl 57 rfl)) _ _ _ _ rfl _ _ _ (dep 9 rfl 58 rfl) (dep 10 rfl 59 rfl) (eqFI rfl)) ?_
    refine Steps.cons (fun a' w' hG hB dep => gs_pick (want_none rfl) _ _ _ rfl false (dep 8 rfl 57 rfl) (dep 11 rfl 60 rfl)) ?_
    refine Steps.cons (fun a' w' hG hB dep => gs_move (want_none rfl) _ rfl (dep 12 rfl 61 rfl)) ?_
    refine Steps.cons (fun a' w' hG hB dep => gs_move (want_yes rfl rfl (dep 13 rfl 62 rfl)) _ rfl (hG.other 13 rfl)) ?_
    refine Steps.cons (fun a' w' hG hB dep => gs_move (want_yes rfl rfl (dep 13 rfl 62 rfl)) _ rfl (hG.other 8 rfl)) ?_
    refine Steps.cons (fun a' w' hG hB dep => gs_neq_int (want_yes rfl rfl (dep 13 rfl 62 rfl)) _ _ _ _ rfl _ _ _ (dep 14 rfl 63 rfl) (dep 15 rfl 64 rfl) (eqFI rfl)) ?_
    refine Steps.cons (fun a' w' hG hB dep => gs_pick (want_none rfl) _ _ _ rfl false (dep 13 rfl 62 rfl) (dep 16 rfl 65 rfl)) ?_
    refine Steps.cons (fun a' w' hG hB dep => gs_move (want_none rfl) _ rfl (dep 17 rfl 66 rfl)) ?_
    refine Steps.cons (fun a' w' hG hB dep => gs_move (want_yes rfl rfl (dep 18 rfl 67 rfl)) _ rfl (hG.other 9 rfl)) ?_
    refine Steps.cons (fun a' w' hG hB dep => gs_move (want_yes rfl rfl (dep 18 rfl 67 rfl)) _ rfl (hG.other 0 rfl)) ?_
    refine Steps.cons (fun a' w' hG hB dep => gs_len (want_yes rfl rfl (dep 18 rfl 67 rfl)) _ _ rfl under_sets _ _ _ (dep 20 rfl 69 rfl) rfl) ?_
    refine Steps.cons (fun a' w' hG hB dep => gs_slice_to (want_yes rfl rfl (dep 18 rfl 67 rfl)) _ _ _ rfl under_sets _ size_setE _ _ _ _ (dep 19 rfl 68 rfl) (dep 21 rfl 70 rfl) hncap rfl) ?_
    refine Steps.cons (fun a' w' hG hB dep => gs_move (want_yes rfl rfl (dep 18 rfl 67 rfl)) _ rfl (hG.other 0 rfl)) ?_
    refine Steps.cons (fun a' w' hG hB dep => gs_same (want_yes rfl rfl (dep 18 rfl 67 rfl)) _ _ _ rfl _ _ _ _ _ _ _ _ (dep 22 rfl 71 rfl) Hn.out hm ((hsl.below hB).more hB.size) (dep 23 rfl 72 rfl) Hn.out hm ((hs10.below hB).more hB.size) rfl (fun _ => rfl)) ?_
    refine Steps.cons (fun a' w' hG hB dep => gs_not_bool (want_yes rfl rfl (dep 18 rfl 67 rfl)) _ _ rfl true (dep 24 rfl 73 rfl) rfl) ?_
    refine Steps.cons (fun a' w' hG hB dep => gs_pick (want_none rfl) _ _ _ rfl false (dep 18 rfl 67 rfl) (dep 25 rfl 74 rfl)) ?_
    refine Steps.cons (fun a' w' hG hB dep => gs_move (want_none rfl) _ rfl (dep 26 rfl 75 rfl)) ?_
    refine Steps.cons (fun a' w' hG hB dep => gs_move (want_yes rfl rfl (dep 27 rfl 76 rfl)) _ rfl (hG.other 9 rfl)) ?_
    refine Steps.cons (fun a' w' hG hB dep => gs_move (want_yes rfl rfl (dep 27 rfl 76 rfl)) _ rfl (hG.other 0 rfl)) ?_
    refine Steps.cons (fun a' w' hG hB dep => gs_len (want_yes rfl rfl (dep 27 rfl 76 rfl)) _ _ rfl under_sets _ _ _ (dep 29 rfl 78 rfl) rfl) ?_
    refine Steps.cons (fun a' w' hG hB dep => gs_index (want_yes rfl rfl (dep 27 rfl 76 rfl)) _ _ _ rfl under_sets _ size_setE _ _ _ _ _ (dep 28 rfl 77 rfl) (dep 30 rfl 79 rfl) hNn rfl) ?_
    refine Steps.cons (fun a' w' hG hB dep => gs_load_set_at (want_yes rfl rfl (dep 27 rfl 76 rfl)) _ rfl _ _ (dep 31 rfl 80 rfl) _ (by have := (hown.then_ hB).row setC_size n hltl; rw [Nat.zero_add]; rwa [Hat.out] at this) rfl) ?_
    refine Steps.cons (fun a' w' hG hB dep => gs_build_set (want_yes rfl rfl (dep 27 rfl 76 rfl)) _ rfl s77 (fun _ => by kernel_rfl) rfl) ?_
    refine Steps.cons (fun a' w' hG hB dep => gs_neq_set (want_yes rfl rfl (dep 27 rfl 76 rfl)) _ _ _ rfl _ _ (dep 32 rfl 81 rfl) (dep 33 rfl 82 rfl) (eqF rfl)) ?_
    refine Steps.cons (fun a' w' hG hB dep => gs_pick (want_none rfl) _ _ _ rfl false (dep 27 rfl 76 rfl) (dep 34 rfl 83 rfl)) ?_
    exact Steps.nil
  intro u w11 hB11 ans
  have ux : u 84 = .bool false := ans 35 84 (by decide) rfl
  clear ans
  refine wpList_nil ?_
  simp only [putAll, List.foldl_cons, List.foldl_nil, Act.put, List.setIfInBounds_toArray, List.set_cons_zero, List.set_cons_succ, ux]
  clear ux

  replace h7 := blk_then h7 hB11
  replace h10 := blk_then h10 hB11
  replace h12 := blk_then h12 hB11
  replace hown := hown.then_ hB11
  replace hB := below_then hB hB11
  clear hB11 hsl hs10 Htk Hat hltl
  go_wp2
  go_loopw [87] (fun i wr => ∃ (k : Nat) (ys : List BSet), k ≤ M ∧ i = .int .i64 k ∧ Own wr base 31 4 setC (.slice (some ⟨g, 0, none⟩) M cap) ys ∧ Blk wr g7 39 (clsC (cls l)) ∧ Blk wr g10 39 (clsC (cls l)) ∧ Blk wr g12 39 (clsC (cls l)) ∧ Below w.heap.size w wr) (fun i _ => M - (intOf i).toNat)
  case atStart => exact ⟨0, l2, by omega, rfl, hown, h7, h10, h12, hB⟩
  case round =>
    clear hown h7 h10 h12 hB
    obtain ⟨k, ys, hk, rfl, hown, h7, h10, h12, hB⟩ := hrel
    have hlen := hown.len
    by_cases hlt : k < M
    · have hkys : k < ys.length := by omega
      have Hlen := Lib.hid hlen
      clear hlen
      have h1 := hown.row setC_size k hkys 1 _ (setC_at ys[k] 1 (by omega))
      have f1 := hown.frozen (k * 4 + 1)
      go_wp2
      go_region
      go_wp2
      go_roundw
      case rel =>
        obtain ⟨y1, hy1⟩ := setWord_any ys[k] 1 (by omega) (bits BinOp.xor IntKind.u64 (word ys[k] 1) 65535) (bits_u64_bounds _ _ _).1 (bits_u64_bounds _ _ _).2
        have o1 := hown.setCell (q := 1) setC_size hkys (by omega) hy1
        exact ⟨k + 1, ys.set k y1, by omega, by go_num, o1.drew, (h7.far (by simp; omega) _).drew, (h10.far (by simp; omega) _).drew, (h12.far (by simp; omega) _).drew, (hB.setCell (by simp; omega) _).drew⟩
      case measure => simp [intOf]; omega
    · obtain rfl : k = M := by omega
      obtain ⟨L, hL⟩ : ∃ L, L = ys.take n := ⟨_, rfl⟩
      have HnL : Hid (n = L.length) := Lib.hid (by rw [hL, List.length_take]; omega)
      have hsl := hown.slice setC_size n
      rw [← hL] at hsl
      replace hL := Lib.hid hL
      clear hlen
      have hmle := many_le l
      have hgl := (hown.lt g rfl).2
      go_upto_region 18 with (first | (go_at_call 19; refine (classes_any _ n cap L _ HnL.out hm hsl).mono ?_; rintro e wa ⟨rfl, hBa⟩; replace h10 := blk_then h10 hBa) | (refine wl_store_cls rfl _ _ rfl _ _ rfl rfl _ h10 ?_; intro wb h10b hgb2))
      replace h12 := blk_grown (blk_then h12 hBa) hgb2 (by omega)
      replace h7 := blk_grown (blk_then h7 hBa) hgb2 (by omega)
      replace hB := below_grown (below_then hB hBa) hgb2 (by omega)
      replace hown := (hown.then_ hBa).grown hgb2 (by simp [Value.ownBlock]; omega)
      replace hsl := hown.slice setC_size n
      rw [← hL.out] at hsl
      clear h10 hBa hgb2
      go_upto_region 19 with (first | (go_at_call 18; refine (rclasses_any _ n cap L _ HnL.out hm hsl).mono ?_; rintro e wc ⟨rfl, hBc⟩; replace h12 := blk_then h12 hBc) | (refine wl_store_cls rfl _ _ rfl _ _ rfl rfl _ h12 ?_; intro wd h12b hgd2))
      replace h10b := blk_grown (blk_then h10b hBc) hgd2 (by omega)
      replace h7 := blk_grown (blk_then h7 hBc) hgd2 (by omega)
      replace hB := below_grown (below_then hB hBc) hgd2 (by omega)
      clear hBc hgd2 h12 hown hsl
      refine wp_region_text 8 [eqS (.agg (clsC (cls L))), eqS (.agg (clsC (cls L))), eqS (.bool false), eqS (.bool false), eqS (.int .i64 ((many L : Int))), eqS (.int .i64 ((many L : Int))), eqS (.bool false), eqS (.bool false)] [117, 118, 119, 120, 121, 122, 123, 124] (by kernel_rfl) rfl ?_ ?_
      · refine Steps.cons (fun a' w' hG hB dep => gs_load_cls (want_none rfl) _ rfl _ (hG.other 10 rfl) _ (blk_then h10b hB) rfl) ?_
        refine Steps.cons (fun a' w' hG hB dep => gs_load_cls (want_none rfl) _ rfl _ (hG.other 12 rfl) _ (blk_then h12b hB) rfl) ?_
        refine Steps.cons (fun a' w' hG hB dep => gs_neq_cls (want_none rfl) _ _ _ rfl _ (dep 0 rfl 117 rfl) (dep 1 rfl 118 rfl) rfl) ?_
        refine Steps.cons (fun a' w' hG hB dep => gs_move (want_none rfl) _ rfl (dep 2 rfl 119 rfl)) ?_
        refine Steps.cons (fun a' w' hG hB dep => gs_move (want_yes rfl rfl (dep 3 rfl 120 rfl)) _ rfl (hG.other 11 rfl)) ?_
        refine Steps.cons (fun a' w' hG hB dep => gs_move (want_yes rfl rfl (dep 3 rfl 120 rfl)) _ rfl (hG.other 13 rfl)) ?_
        refine Steps.cons (fun a' w' hG hB dep => gs_neq_int (want_yes rfl rfl (dep 3 rfl 120 rfl)) _ _ _ _ rfl _ _ _ (dep 4 rfl 121 rfl) (dep 5 rfl 122 rfl) (eqFI rfl)) ?_
        refine Steps.cons (fun a' w' hG hB dep => gs_pick (want_none rfl) _ _ _ rfl false (dep 3 rfl 120 rfl) (dep 6 rfl 123 rfl)) ?_
        exact Steps.nil
      intro u we hBe ans
      have ux : u 124 = .bool false := ans 7 124 (by decide) rfl
      clear ans
      refine wpList_nil ?_
      simp only [putAll, List.foldl_cons, List.foldl_nil, Act.put, List.setIfInBounds_toArray, List.set_cons_zero, List.set_cons_succ, ux]
      clear ux

      replace h7 := blk_then h7 hBe
      replace hB := below_then hB hBe
      clear hBe h10b h12b
      go_wp2
      obtain ⟨wo, rfl⟩ : ∃ wo : World, wo = wr := ⟨_, rfl⟩
      go_loopw [15] (fun i wr => ∃ z : Int, -1 ≤ z ∧ z ≤ (many l : Int) + 1 ∧ i = .int .i64 z ∧ Blk wr g7 39 (clsC (cls l)) ∧ Below w.heap.size w wr) (fun i _ => ((many l : Int) + 1 - intOf i).toNat)
      case atStart => exact ⟨-1, by omega, by omega, rfl, h7, hB⟩
      case round =>
        clear h7 hB
        obtain ⟨z, hz1, hz2, rfl, h7, hB⟩ := hrel
        by_cases hzl : z ≤ (many l : Int)
        · go_upto_region 24 with (fail)
          refine wp_region_steps 7 [eqS (.agg (clsC (cls l))), eqS (.int .i64 (z)), eqS (.agg (setC (memB (cls l) z))), eqS (.agg (clsC (cls l))), eqS (.int .i64 (z)), eqS (.agg (setC (memB (cls l) z))), eqS (.bool false)] [130, 131, 132, 133, 134, 135, 136] follows_mixed (by kernel_rfl) rfl ?_ ?_
          · refine Steps.cons (fun a' w' hG hB dep => gs_load_cls (want_none rfl) _ rfl _ (hG.other 7 rfl) _ (blk_then h7 hB) rfl) ?_
            refine Steps.cons (fun a' w' hG hB dep => gs_move (want_none rfl) _ rfl (hG.other 15 rfl)) ?_
            refine Steps.cons (fun a' w' hG hB dep => gs_mem (want_none rfl) _ _ _ rfl _ _ (dep 0 rfl 130 rfl) (dep 1 rfl 131 rfl) (fun _ => rfl)) ?_
            refine Steps.cons (fun a' w' hG hB dep => gs_load_cls (want_none rfl) _ rfl _ (hG.other 7 rfl) _ (blk_then h7 hB) rfl) ?_
            refine Steps.cons (fun a' w' hG hB dep => gs_move (want_none rfl) _ rfl (hG.other 15 rfl)) ?_
            refine Steps.cons (fun a' w' hG hB dep => gs_rmem (want_none rfl) _ _ _ rfl _ _ (dep 3 rfl 133 rfl) (dep 4 rfl 134 rfl) (fun _ => rfl)) ?_
            refine Steps.cons (fun a' w' hG hB dep => gs_neq_set (want_none rfl) _ _ _ rfl _ _ (dep 2 rfl 132 rfl) (dep 5 rfl 135 rfl) (eqF rfl)) ?_
            exact Steps.nil
          intro u wf hBf ans
          have ux : u 136 = .bool false := ans 6 136 (by decide) rfl
          clear ans
          refine wpList_nil ?_
          simp only [putAll, List.foldl_cons, List.foldl_nil, Act.put, List.setIfInBounds_toArray, List.set_cons_zero, List.set_cons_succ, ux]
          clear ux

          go_wp2
          go_roundw
          case rel => exact ⟨z + 1, by omega, by omega, by go_num, blk_then h7 hBf, below_then hB hBf⟩
          case measure => simp [intOf]; omega
        · obtain rfl : z = (many l : Int) + 1 := by omega
          go_wp2
          obtain ⟨wo2, rfl⟩ : ∃ wo : World, wo = wr := ⟨_, rfl⟩
          go_loopw [139] (fun i wr => ∃ (j : Nat) (gg : Nat → Int), j ≤ m ∧ i = .int .i64 j ∧ Blk wr g7 39 (clsC gg) ∧ Below w.heap.size w wr) (fun i _ => m - (intOf i).toNat)
          case atStart => exact ⟨0, cls l, by omega, rfl, h7, hB⟩
          case round =>
            clear h7 hB
            obtain ⟨j, gg, hj, rfl, h7, hB⟩ := hrel
            by_cases hjm : j < m
            · have hjz : j < zs.length := by have := Hm.out; omega
              obtain ⟨b0, off, rfl, hb0, hrow⟩ := (hz.below hB).at_ (by omega)
              have hcell : wr.cell? ⟨b0, off + j, none⟩ = some (.int .i64 zs[j]) := by
                have := hrow j hjz 0 _ rfl
                rw [Nat.mul_one] at this
                exact this
              obtain ⟨zv, hzv⟩ : ∃ zv, zv = zs[j] := ⟨_, rfl⟩
              rw [← hzv] at hcell
              clear hrow hzv
              clear hz1 hz2 hzl hk hlt hNn hM41 hcap hcm hncap hgl hmle hgb h7b hbw hb1 h10g h12g hle
              by_cases hj256 : j < 256
              · go_wp2_with (first | (refine wl_set_cls rfl _ _ rfl _ _ rfl _ rfl _ h7 hj256 ?_; intro wg h7g hgg))
                go_roundw
                case rel => exact ⟨j + 1, _, by omega, by go_num, h7g, below_grown hB hgg h7w⟩
                case measure => simp [intOf]; omega
              · go_wp2
                go_roundw
                case rel => exact ⟨j + 1, gg, by omega, by go_num, h7, hB⟩
                case measure => simp [intOf]; omega
            · obtain rfl : j = m := by omega
              go_upto_region 32 with (fail)
              refine wp_region_steps 8 [eqS (.agg (clsC gg)), eqS (.int .i64 (c)), eqS (.agg (setC (memB gg c))), eqS (.agg (clsC gg)), eqS (.int .i64 (c)), eqS (.agg (setC (memB gg c))), eqS (.bool true), eqS (.bool true)] [151, 152, 153, 154, 155, 156, 157, 6] follows_mixed (by kernel_rfl) rfl ?_ ?_
              · refine Steps.cons (fun a' w' hG hB dep => gs_load_cls (want_none rfl) _ rfl _ (hG.other 7 rfl) _ (blk_then h7 hB) rfl) ?_
                refine Steps.cons (fun a' w' hG hB dep => gs_move (want_none rfl) _ rfl (hG.other 2 rfl)) ?_
                refine Steps.cons (fun a' w' hG hB dep => gs_mem (want_none rfl) _ _ _ rfl _ _ (dep 0 rfl 151 rfl) (dep 1 rfl 152 rfl) (fun _ => rfl)) ?_
                refine Steps.cons (fun a' w' hG hB dep => gs_load_cls (want_none rfl) _ rfl _ (hG.other 7 rfl) _ (blk_then h7 hB) rfl) ?_
                refine Steps.cons (fun a' w' hG hB dep => gs_move (want_none rfl) _ rfl (hG.other 2 rfl)) ?_
                refine Steps.cons (fun a' w' hG hB dep => gs_rmem (want_none rfl) _ _ _ rfl _ _ (dep 3 rfl 154 rfl) (dep 4 rfl 155 rfl) (fun _ => rfl)) ?_
                refine Steps.cons (fun a' w' hG hB dep => gs_eql_set (want_none rfl) _ _ _ rfl _ _ (dep 2 rfl 153 rfl) (dep 5 rfl 156 rfl) (eqT rfl)) ?_
                refine Steps.cons (fun a' w' hG hB dep => gs_assign (want_none rfl) _ rfl (dep 6 rfl 157 rfl)) ?_
                exact Steps.nil
              intro u wh hBh ans
              have ux : u 6 = .bool true := ans 7 6 (by decide) rfl
              clear ans
              refine wpList_nil ?_
              simp only [putAll, List.foldl_cons, List.foldl_nil, Act.put, List.setIfInBounds_toArray, List.set_cons_zero, List.set_cons_succ, ux]
              clear ux

              go_wp2
              go_ret
              exact ⟨rfl, below_then hB hBh⟩

end Go.Proofs.Ytjpiebapemalfaa
