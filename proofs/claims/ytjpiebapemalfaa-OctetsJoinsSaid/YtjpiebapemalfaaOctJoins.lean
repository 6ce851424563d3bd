/- The walk of OctetsJoins. -/
import Derived.Test.YtjpiebapemalfaaGs3
import Derived.Test.YtjpiebapemalfaaOctLaws
namespace Go.Proofs.Ytjpiebapemalfaa
open Go.RowKit
set_option linter.unusedVariables false
set_option linter.unusedSimpArgs false

set_option maxRecDepth 100000 in
set_option maxHeartbeats 4000000 in
theorem octetsJoins_any (A : Option Addr) (n c : Nat) (l : List BSet) (a b : BSet) (w : World) (hn : n = l.length) (hreach : n * 32 ≤ 140737488351232) (hs : SliceOf w w.heap.size 4 setC A l) :
    Calls Try.prog 8 #[.slice A n c, .agg (setC a), .agg (setC b)] w fun e w' => e = .returned (.bool true) ∧ Below w.heap.size w w' := by
  have hm : n ≤ maxLen := by unfold maxLen; omega
  have hmI : n ≤ 9223372036854775807 := by omega
  have Hn := Lib.hid hn
  clear hn
  obtain ⟨i0, hi0, hz0, hz1, hz2⟩ := info_parts info_set3
  have ha := (Blk.new w 31 (setC a)).alloc (.cells (setC b) 31)
  have hb := Blk.new' (w.alloc (.cells (setC a) 31)) 31 (setC b) (World.size_alloc _ _).symm
  have hB := below_alloc (below_alloc (Below.refl w.heap.size w) (.cells (setC a) 31)) (.cells (setC b) 31)
  go_enter Try.func8, Try.ntmps8
  go_upto_region 3 with (go_at_call 25; refine (known3_any _).mono ?_; rintro e w1 ⟨rfl, hB1⟩)
  replace ha := blk_then ha hB1
  replace hb := blk_then hb hB1
  replace hB := below_then hB hB1
  clear hB1
  have hs1 := (hs.below hB).more hB.size
  go_upto_region 5 with (first | (go_at_call 34; refine (rjoin_any A n c l _ Hn.out hm hs1).mono ?_; rintro e w2 ⟨rfl, hB2⟩) | (refine wl_store_set rfl _ _ rfl _ _ rfl rfl 0 (Blk.new _ _ _) ?_; intro w3 hw hg; have hK := below_then hB2 (below_grown (below_alloc (Below.refl w2.heap.size w2) (.cells (setC 0) 31)) hg (Nat.le_refl _))))
  replace ha := blk_then ha hK
  replace hb := blk_then hb hK
  replace hB := below_then hB hK
  clear hK hB2 hg hs1
  obtain ⟨base, hbase⟩ : ∃ base, base = w3.heap.size := ⟨_, rfl⟩
  have hs3 := (hs.below hB).more hB.size
  have hb1 : base ≤ w3.heap.size := by omega
  have hbw : w.heap.size ≤ base := by rw [hbase]; exact hB.size
  have hwb : w2.heap.size < base := by rw [hbase]; exact hw.lt
  have hab : w.heap.size + 1 < base := by rw [hbase]; exact hb.lt
  go_upto_region 6 with (at_builtin; refine wl_append _ rfl _ _ 27 rfl base 31 i0 _ 4 32 Try.underlying27 hi0 hz0 hz1 hz2 rfl (by decide) setC_size setC_one (.slice none 0 0) [] rfl (Own.nil_ _ _ _ _ _) _ A n c l rfl Hn.out hs3 (by rw [List.length_nil, Nat.zero_add]; exact hm) (by rw [List.length_nil, Nat.zero_add]; omega) hb1 ?_; intro v1 w4 hown1 hg1 hat1; have hK := below_own (Below.refl w3.heap.size w3) hg1 own_nil_lt)
  rw [List.nil_append] at hown1
  replace ha := blk_then ha hK
  replace hb := blk_then hb hK
  replace hw := blk_then hw hK
  have hb2 : base ≤ w4.heap.size := Nat.le_trans hb1 hK.size
  replace hB := below_then hB hK
  clear hK hg1 hat1 hs3
  have hone := slice_one (enc := setC) (size := 4) (Blk.new w4 31 (setC s77))
  have hown1' := hown1.alloc (.cells (setC s77) 31)
  have hBw := below_alloc hB (.cells (setC s77) 31)
  have hown2lt : ∀ k, v1.ownBlock = some k → w.heap.size ≤ k := fun k hk => Nat.le_trans hbw (hown1.lt k hk).1
  go_upto_region 7 with (at_builtin; refine wl_append _ rfl _ _ 27 rfl base 31 i0 _ 4 32 Try.underlying27 hi0 hz0 hz1 hz2 rfl (by decide) setC_size setC_one v1 l rfl hown1' _ _ 1 1 [s77] rfl rfl hone (by rw [← Hn.out]; unfold maxLen; omega) (by rw [← Hn.out]; omega) (by simp; omega) ?_; intro v2 w5 hown2 hg2 hat2; replace hB := below_own hBw hg2 hown2lt)
  have hne : ∀ {x : Nat}, x < base → some x ≠ v1.ownBlock := fun hx e => by have := (hown1.lt _ e.symm).1; omega
  replace ha := (ha.alloc (.cells (setC s77) 31)).grown hg2 (hne (by omega))
  replace hb := (hb.alloc (.cells (setC s77) 31)).grown hg2 (hne (by omega))
  replace hw := (hw.alloc (.cells (setC s77) 31)).grown hg2 (hne (by omega))
  clear hne hg2 hat2 hBw hown2lt hone hown1' hown1 hb2
  have Htk : Hid ((l ++ [s77]).take n = l) := by rw [Hn.out]; exact List.take_left' rfl
  have hlen : (l ++ [s77]).length = n + 1 := by rw [List.length_append, ← Hn.out]; rfl
  have Hgets : Hid (∀ (k : Nat) (hk : k < l.length) (hk2 : k < (l ++ [s77]).length), (l ++ [s77])[k] = l[k]) := fun k hk hk2 => List.getElem_append_left hk
  have Hat : Hid (∀ (hk : n < (l ++ [s77]).length), (l ++ [s77])[n] = s77) := fun hk => by
    have h1 := Hn.out
    rw [List.getElem_append_right (by omega)]
    simp [h1]
  obtain ⟨l2, hl2⟩ : ∃ l2, l2 = l ++ [s77] := ⟨_, rfl⟩
  rw [← hl2] at hown2 Htk hlen Hgets Hat
  clear hl2
  obtain ⟨g, cap, hv2, hgb, hglt, hcap, hcm⟩ := hown2.form (by omega)
  subst hv2
  have hltl : n < l2.length := by omega
  have hncap : n ≤ cap := by omega
  replace Hat := Lib.hid (Hat.out hltl)
  obtain ⟨N, hN⟩ : ∃ N, N = l2.length := ⟨_, rfl⟩
  have hNn : n < N := by omega
  rw [← hN] at hown2 ⊢
  have HN := Lib.hid hN
  clear hN hlen
  have hown := hown2
  clear hown2
  refine wp_region_steps 25 [eqS (.slice (some ⟨g, 0, none⟩) N cap), eqS (.slice A n c), eqS (.int .i64 ((n : Int))), eqS (.slice (some ⟨g, 0, none⟩) n cap), eqS (.agg (setC (joinL l))), eqS (.agg (setC (joinL l))), eqS (.bool false), eqS (.bool false), eqS (.slice (some ⟨g, 0, none⟩) N cap), eqS (.slice A n c), eqS (.int .i64 ((n : Int))), eqS (.slice (some ⟨g, 0, none⟩) n cap), eqS (.agg (setC (joinL l))), eqS (.agg (setC (joinL l))), eqS (.bool false), eqS (.bool false), eqS (.bool false), eqS (.slice (some ⟨g, 0, none⟩) N cap), eqS (.slice A n c), eqS (.int .i64 ((n : Int))), eqS (.pointer (some ⟨g, 0 + n * 4, none⟩)), eqS (.agg (setC s77)), eqS (.agg (setC s77)), eqS (.bool false), eqS (.bool false)] [21, 22, 23, 24, 25, 26, 27, 28, 29, 30, 31, 32, 33, 34, 35, 36, 37, 38, 39, 40, 41, 42, 43, 44, 45] follows_mixed (by kernel_rfl) rfl ?_ ?_
  · refine Steps.cons (fun a' w' hG hB dep => gs_move (want_none rfl) _ rfl (hG.other 8 rfl)) ?_
    refine Steps.cons (fun a' w' hG hB dep => gs_move (want_none rfl) _ rfl (hG.other 0 rfl)) ?_
    refine Steps.cons (fun a' w' hG hB dep => gs_len (want_none rfl) _ _ rfl under_sets _ _ _ (dep 1 rfl 22 rfl) rfl) ?_
    refine Steps.cons (fun a' w' hG hB dep => gs_slice_to (want_none rfl) _ _ _ rfl under_sets _ size_setE _ _ _ _ (dep 0 rfl 21 rfl) (dep 2 rfl 23 rfl) hncap rfl) ?_
    refine Steps.cons (fun a' w' hG hB dep => gs_join_at (want_none rfl) _ _ rfl _ _ _ _ (dep 3 rfl 24 rfl) Hn.out hm (by have := (hown.then_ hB).slice setC_size n; rwa [Htk.out] at this) (fun _ => rfl)) ?_
    refine Steps.cons (fun a' w' hG hB dep => gs_load_set (want_none rfl) _ rfl _ (hG.other 7 rfl) _ (blk_then hw hB) rfl) ?_
    refine Steps.cons (fun a' w' hG hB dep => gs_neq_set (want_none rfl) _ _ _ rfl _ _ (dep 4 rfl 25 rfl) (dep 5 rfl 26 rfl) (eqF rfl)) ?_
    refine Steps.cons (fun a' w' hG hB dep => gs_move (want_none rfl) _ rfl (dep 6 rfl 27 rfl)) ?_
    refine Steps.cons (fun a' w' hG hB dep => gs_move (want_yes rfl rfl (dep 7 rfl 28 rfl)) _ rfl (hG.other 8 rfl)) ?_
    refine Steps.cons (fun a' w' hG hB dep => gs_move (want_yes rfl rfl (dep 7 rfl 28 rfl)) _ rfl (hG.other 0 rfl)) ?_
    refine Steps.cons (fun a' w' hG hB dep => gs_len (want_yes rfl rfl (dep 7 rfl 28 rfl)) _ _ rfl under_sets _ _ _ (dep 9 rfl 30 rfl) rfl) ?_
    refine Steps.cons (fun a' w' hG hB dep => gs_slice_to (want_yes rfl rfl (dep 7 rfl 28 rfl)) _ _ _ rfl under_sets _ size_setE _ _ _ _ (dep 8 rfl 29 rfl) (dep 10 rfl 31 rfl) hncap rfl) ?_
    refine Steps.cons (fun a' w' hG hB dep => gs_join_at (want_yes rfl rfl (dep 7 rfl 28 rfl)) _ _ rfl _ _ _ _ (dep 11 rfl 32 rfl) Hn.out hm (by have := (hown.then_ hB).slice setC_size n; rwa [Htk.out] at this) (fun _ => rfl)) ?_
    refine Steps.cons (fun a' w' hG hB dep => gs_load_set (want_yes rfl rfl (dep 7 rfl 28 rfl)) _ rfl _ (hG.other 7 rfl) _ (blk_then hw hB) rfl) ?_
    refine Steps.cons (fun a' w' hG hB dep => gs_neq_set (want_yes rfl rfl (dep 7 rfl 28 rfl)) _ _ _ rfl _ _ (dep 12 rfl 33 rfl) (dep 13 rfl 34 rfl) (eqF rfl)) ?_
    refine Steps.cons (fun a' w' hG hB dep => gs_pick (want_none rfl) _ _ _ rfl false (dep 7 rfl 28 rfl) (dep 14 rfl 35 rfl)) ?_
    refine Steps.cons (fun a' w' hG hB dep => gs_move (want_none rfl) _ rfl (dep 15 rfl 36 rfl)) ?_
    refine Steps.cons (fun a' w' hG hB dep => gs_move (want_yes rfl rfl (dep 16 rfl 37 rfl)) _ rfl (hG.other 8 rfl)) ?_
    refine Steps.cons (fun a' w' hG hB dep => gs_move (want_yes rfl rfl (dep 16 rfl 37 rfl)) _ rfl (hG.other 0 rfl)) ?_
    refine Steps.cons (fun a' w' hG hB dep => gs_len (want_yes rfl rfl (dep 16 rfl 37 rfl)) _ _ rfl under_sets _ _ _ (dep 18 rfl 39 rfl) rfl) ?_
    refine Steps.cons (fun a' w' hG hB dep => gs_index (want_yes rfl rfl (dep 16 rfl 37 rfl)) _ _ _ rfl under_sets _ size_setE _ _ _ _ _ (dep 17 rfl 38 rfl) (dep 19 rfl 40 rfl) hNn rfl) ?_
    refine Steps.cons (fun a' w' hG hB dep => gs_load_set_at (want_yes rfl rfl (dep 16 rfl 37 rfl)) _ rfl _ _ (dep 20 rfl 41 rfl) _ (by have := (hown.then_ hB).row setC_size n hltl; rw [Nat.zero_add]; rwa [Hat.out] at this) rfl) ?_
    refine Steps.cons (fun a' w' hG hB dep => gs_build_set (want_yes rfl rfl (dep 16 rfl 37 rfl)) _ rfl s77 (fun _ => by kernel_rfl) rfl) ?_
    refine Steps.cons (fun a' w' hG hB dep => gs_neq_set (want_yes rfl rfl (dep 16 rfl 37 rfl)) _ _ _ rfl _ _ (dep 21 rfl 42 rfl) (dep 22 rfl 43 rfl) (eqF rfl)) ?_
    refine Steps.cons (fun a' w' hG hB dep => gs_pick (want_none rfl) _ _ _ rfl false (dep 16 rfl 37 rfl) (dep 23 rfl 44 rfl)) ?_
    exact Steps.nil
  intro u w8 hB8 ans
  have ux : u 45 = .bool false := ans 24 45 (by decide) rfl
  clear ans
  refine wpList_nil ?_
  simp only [putAll, List.foldl_cons, List.foldl_nil, Act.put, List.setIfInBounds_toArray, List.set_cons_zero, List.set_cons_succ, ux]
  clear ux

  replace ha := blk_then ha hB8
  replace hb := blk_then hb hB8
  replace hown := hown.then_ hB8
  replace hB := below_then hB hB8
  clear hB8 hw hbase hwb
  go_wp2
  go_loopw [48] (fun i wr => ∃ (k : Nat) (ys : List BSet), k ≤ n ∧ i = .int .i64 k ∧ Own wr base 31 4 setC (.slice (some ⟨g, 0, none⟩) N cap) ys ∧ Hid (∀ j, k ≤ j → ys[j]? = l2[j]?) ∧ Blk wr w.heap.size 31 (setC a) ∧ Blk wr (w.heap.size + 1) 31 (setC b) ∧ Below w.heap.size w wr) (fun i _ => n - (intOf i).toNat)
  case atStart => exact ⟨0, l2, by omega, rfl, hown, fun _ _ => rfl, ha, hb, hB⟩
  case round =>
    clear hown ha hb hB Htk Hat
    obtain ⟨k, ys, hk, rfl, hown, Hys, ha, hb, hBr⟩ := hrel
    have hlen := hown.len
    by_cases hlt : k < n
    · have hltI : (k : Int) < n := by omega
      have hkl : k < l.length := by have := Hn.out; omega
      have hkN : k < N := by omega
      have hkys : k < ys.length := by omega
      have Hatk : Hid (ys[k] = l[k]) := by
        have h1 := Hys.out k (Nat.le_refl _)
        have h2 : k < l2.length := by have := HN.out; omega
        rw [List.getElem?_eq_getElem hkys, List.getElem?_eq_getElem h2, Hgets.out k hkl h2] at h1
        exact Option.some.inj h1
      have Hlen := Lib.hid hlen
      clear hlen
      obtain ⟨b0, off, rfl, hb0, hrow⟩ := hs.at_ (by omega)
      replace hrow := hrow k hkl
      go_upto_region 12 with (fail)
      refine wp_region_steps 9 [eqS (.slice (some ⟨g, 0, none⟩) N cap), eqS (.int .i64 ((k : Int))), eqS (.pointer (some ⟨g, 0 + k * 4, none⟩)), eqS (.agg (setC l[k])), eqS (.slice (some ⟨b0, off, none⟩) n c), eqS (.int .i64 ((k : Int))), eqS (.pointer (some ⟨b0, off + k * 4, none⟩)), eqS (.agg (setC l[k])), eqS (.bool false)] [51, 52, 53, 54, 55, 56, 57, 58, 59] follows_mixed (by kernel_rfl) rfl ?_ ?_
      · refine Steps.cons (fun a' w' hG hB dep => gs_move (want_none rfl) _ rfl (hG.other 8 rfl)) ?_
        refine Steps.cons (fun a' w' hG hB dep => gs_move (want_none rfl) _ rfl (hG.other 9 rfl)) ?_
        refine Steps.cons (fun a' w' hG hB dep => gs_index (want_none rfl) _ _ _ rfl under_sets _ size_setE _ _ _ _ _ (dep 0 rfl 51 rfl) (dep 1 rfl 52 rfl) hkN rfl) ?_
        refine Steps.cons (fun a' w' hG hB dep => gs_load_set_at (want_none rfl) _ rfl _ _ (dep 2 rfl 53 rfl) _ (by have := (hown.then_ hB).row setC_size k hkys; rw [Nat.zero_add]; rwa [Hatk.out] at this) rfl) ?_
        refine Steps.cons (fun a' w' hG hB dep => gs_move (want_none rfl) _ rfl (hG.other 0 rfl)) ?_
        refine Steps.cons (fun a' w' hG hB dep => gs_move (want_none rfl) _ rfl (hG.other 9 rfl)) ?_
        refine Steps.cons (fun a' w' hG hB dep => gs_index (want_none rfl) _ _ _ rfl under_sets _ size_setE _ _ _ _ _ (dep 4 rfl 55 rfl) (dep 5 rfl 56 rfl) hlt rfl) ?_
        refine Steps.cons (fun a' w' hG hB dep => gs_load_set_at (want_none rfl) _ rfl _ _ (dep 6 rfl 57 rfl) _ (hrow.keep ((hBr.trans (hB.mono hBr.size)).block b0 hb0)) rfl) ?_
        refine Steps.cons (fun a' w' hG hB dep => gs_neq_set (want_none rfl) _ _ _ rfl _ _ (dep 3 rfl 54 rfl) (dep 7 rfl 58 rfl) (eqF rfl)) ?_
        exact Steps.nil
      intro u w7 hB7 ans
      have ux : u 59 = .bool false := ans 8 59 (by decide) rfl
      clear ans
      refine wpList_nil ?_
      simp only [putAll, List.foldl_cons, List.foldl_nil, Act.put, List.setIfInBounds_toArray, List.set_cons_zero, List.set_cons_succ, ux]
      clear ux

      replace ha := blk_then ha hB7
      replace hb := blk_then hb hB7
      replace hown := hown.then_ hB7
      replace hBr := below_then hBr hB7
      clear hB7
      have h0 := hown.row setC_size k hkys 0 _ (setC_at ys[k] 0 (by omega))
      have h3 := hown.row setC_size k hkys 3 _ (setC_at ys[k] 3 (by omega))
      rw [Nat.add_zero] at h0
      have f0 := hown.frozen (k * 4)
      have f3 := hown.frozen (k * 4 + 3)
      go_wp2
      go_region
      go_wp2
      go_region
      go_wp2
      go_roundw
      case rel =>
        obtain ⟨y1, hy1⟩ := setWord_any ys[k] 0 (by omega) (IntKind.u64.wrap ((word ys[k] 0 : Int) + 1)) (wrap_u64_bounds _).1 (wrap_u64_bounds _).2
        have o1 := hown.setCell (q := 0) setC_size hkys (by omega) hy1
        obtain ⟨y2, hy2⟩ := setWord_any y1 3 (by omega) (bits BinOp.xor IntKind.u64 (word ys[k] 3) 9223372036854775808) (bits_u64_bounds _ _ _).1 (bits_u64_bounds _ _ _).2
        have o2 := o1.setCell (i := k) (q := 3) (y' := y2) setC_size (by rw [List.length_set]; exact hkys) (by omega) (by rw [List.getElem_set_self]; exact hy2)
        refine ⟨k + 1, (ys.set k y1).set k y2, by omega, by go_num, o2.drew.drew, fun j hj => ?_, ((ha.far (by simp; omega) _).far (by simp; omega) _).drew.drew, ((hb.far (by simp; omega) _).far (by simp; omega) _).drew.drew, ((hBr.setCell (by simp; omega) _).setCell (by simp; omega) _).drew.drew⟩
        rw [List.getElem?_set_ne (by omega), List.getElem?_set_ne (by omega)]
        exact Hys.out j (by omega)
      case measure => simp [intOf]; omega
    · obtain rfl : k = n := by omega
      have hnt : Hid (k = (ys.take k).length) := by show k = _; rw [List.length_take]; omega
      have hNc := hown.cap
      have Hlen := Lib.hid hlen
      have hB := hBr
      clear hlen hltl hBr
      go_upto_region 17 with (fail)
      refine wp_region_steps 11 [eqS (.slice (some ⟨g, 0, none⟩) N cap), eqS (.slice A k c), eqS (.int .i64 ((k : Int))), eqS (.slice (some ⟨g, 0, none⟩) k cap), eqS (.agg (setC (joinL (ys.take k)))), eqS (.slice (some ⟨g, 0, none⟩) N cap), eqS (.slice A k c), eqS (.int .i64 ((k : Int))), eqS (.slice (some ⟨g, 0, none⟩) k cap), eqS (.agg (setC (joinL (ys.take k)))), eqS (.bool false)] [81, 82, 83, 84, 85, 86, 87, 88, 89, 90, 91] follows_mixed (by kernel_rfl) rfl ?_ ?_
      · refine Steps.cons (fun a' w' hG hB dep => gs_move (want_none rfl) _ rfl (hG.other 8 rfl)) ?_
        refine Steps.cons (fun a' w' hG hB dep => gs_move (want_none rfl) _ rfl (hG.other 0 rfl)) ?_
        refine Steps.cons (fun a' w' hG hB dep => gs_len (want_none rfl) _ _ rfl under_sets _ _ _ (dep 1 rfl 82 rfl) rfl) ?_
        refine Steps.cons (fun a' w' hG hB dep => gs_slice_to (want_none rfl) _ _ _ rfl under_sets _ size_setE _ _ _ _ (dep 0 rfl 81 rfl) (dep 2 rfl 83 rfl) hncap rfl) ?_
        refine Steps.cons (fun a' w' hG hB dep => gs_join_at (want_none rfl) _ _ rfl _ _ _ _ (dep 3 rfl 84 rfl) hnt.out hm ((hown.then_ hB).slice setC_size k) (fun _ => rfl)) ?_
        refine Steps.cons (fun a' w' hG hB dep => gs_move (want_none rfl) _ rfl (hG.other 8 rfl)) ?_
        refine Steps.cons (fun a' w' hG hB dep => gs_move (want_none rfl) _ rfl (hG.other 0 rfl)) ?_
        refine Steps.cons (fun a' w' hG hB dep => gs_len (want_none rfl) _ _ rfl under_sets _ _ _ (dep 6 rfl 87 rfl) rfl) ?_
        refine Steps.cons (fun a' w' hG hB dep => gs_slice_to (want_none rfl) _ _ _ rfl under_sets _ size_setE _ _ _ _ (dep 5 rfl 86 rfl) (dep 7 rfl 88 rfl) hncap rfl) ?_
        refine Steps.cons (fun a' w' hG hB dep => gs_rjoin_at (want_none rfl) _ _ rfl _ _ _ _ (dep 8 rfl 89 rfl) hnt.out hm ((hown.then_ hB).slice setC_size k) (fun _ => rfl)) ?_
        refine Steps.cons (fun a' w' hG hB dep => gs_neq_set (want_none rfl) _ _ _ rfl _ _ (dep 4 rfl 85 rfl) (dep 9 rfl 90 rfl) (eqF rfl)) ?_
        exact Steps.nil
      intro u w9 hB9 ans
      have ux : u 91 = .bool false := ans 10 91 (by decide) rfl
      clear ans
      refine wpList_nil ?_
      simp only [putAll, List.foldl_cons, List.foldl_nil, Act.put, List.setIfInBounds_toArray, List.set_cons_zero, List.set_cons_succ, ux]
      clear ux

      replace ha := blk_then ha hB9
      replace hb := blk_then hb hB9
      replace hB := below_then hB hB9
      clear hB9 hnt
      go_upto_region 19 with (fail)
      refine wp_region_steps 22 [eqS (.agg (setC a)), eqS (.agg (setC b)), eqS (.agg (setC (a &&& b))), eqS (.agg (setC a)), eqS (.agg (setC b)), eqS (.agg (setC (a &&& b))), eqS (.bool true), eqS (.bool true), eqS (.agg (setC a)), eqS (.agg (setC (notB a))), eqS (.agg (setC a)), eqS (.agg (setC (notB a))), eqS (.bool true), eqS (.bool true), eqS (.bool true), eqS (.agg (setC b)), eqS (.agg (setC (notB b))), eqS (.agg (setC b)), eqS (.agg (setC (notB b))), eqS (.bool true), eqS (.bool true), eqS (.bool true)] [92, 93, 94, 95, 96, 97, 98, 99, 100, 101, 102, 103, 104, 105, 106, 107, 108, 109, 110, 111, 112, 6] follows_mixed (by kernel_rfl) rfl ?_ ?_
      · refine Steps.cons (fun a' w' hG hB dep => gs_load_set (want_none rfl) _ rfl _ (hG.other 4 rfl) _ (blk_then ha hB) rfl) ?_
        refine Steps.cons (fun a' w' hG hB dep => gs_load_set (want_none rfl) _ rfl _ (hG.other 5 rfl) _ (blk_then hb hB) rfl) ?_
        refine Steps.cons (fun a' w' hG hB dep => gs_meet (want_none rfl) _ _ _ rfl _ _ (dep 0 rfl 92 rfl) (dep 1 rfl 93 rfl) (fun _ => rfl)) ?_
        refine Steps.cons (fun a' w' hG hB dep => gs_load_set (want_none rfl) _ rfl _ (hG.other 4 rfl) _ (blk_then ha hB) rfl) ?_
        refine Steps.cons (fun a' w' hG hB dep => gs_load_set (want_none rfl) _ rfl _ (hG.other 5 rfl) _ (blk_then hb hB) rfl) ?_
        refine Steps.cons (fun a' w' hG hB dep => gs_rmeet (want_none rfl) _ _  _ rfl _ _ (dep 3 rfl 95 rfl) (dep 4 rfl 96 rfl) (fun _ => rfl)) ?_
        refine Steps.cons (fun a' w' hG hB dep => gs_eql_set (want_none rfl) _ _ _ rfl _ _ (dep 2 rfl 94 rfl) (dep 5 rfl 97 rfl) (eqT rfl)) ?_
        refine Steps.cons (fun a' w' hG hB dep => gs_move (want_none rfl) _ rfl (dep 6 rfl 98 rfl)) ?_
        refine Steps.cons (fun a' w' hG hB dep => gs_load_set (want_yes rfl rfl (dep 7 rfl 99 rfl)) _ rfl _ (hG.other 4 rfl) _ (blk_then ha hB) rfl) ?_
        refine Steps.cons (fun a' w' hG hB dep => gs_not (want_yes rfl rfl (dep 7 rfl 99 rfl)) _ _ rfl _ (dep 8 rfl 100 rfl) (fun _ => rfl)) ?_
        refine Steps.cons (fun a' w' hG hB dep => gs_load_set (want_yes rfl rfl (dep 7 rfl 99 rfl)) _ rfl _ (hG.other 4 rfl) _ (blk_then ha hB) rfl) ?_
        refine Steps.cons (fun a' w' hG hB dep => gs_rnot (want_yes rfl rfl (dep 7 rfl 99 rfl)) _  _ rfl _ (dep 10 rfl 102 rfl) (fun _ => rfl)) ?_
        refine Steps.cons (fun a' w' hG hB dep => gs_eql_set (want_yes rfl rfl (dep 7 rfl 99 rfl)) _ _ _ rfl _ _ (dep 9 rfl 101 rfl) (dep 11 rfl 103 rfl) (eqT rfl)) ?_
        refine Steps.cons (fun a' w' hG hB dep => gs_pick (want_none rfl) _ _ _ rfl true (dep 7 rfl 99 rfl) (dep 12 rfl 104 rfl)) ?_
        refine Steps.cons (fun a' w' hG hB dep => gs_move (want_none rfl) _ rfl (dep 13 rfl 105 rfl)) ?_
        refine Steps.cons (fun a' w' hG hB dep => gs_load_set (want_yes rfl rfl (dep 14 rfl 106 rfl)) _ rfl _ (hG.other 5 rfl) _ (blk_then hb hB) rfl) ?_
        refine Steps.cons (fun a' w' hG hB dep => gs_not (want_yes rfl rfl (dep 14 rfl 106 rfl)) _ _ rfl _ (dep 15 rfl 107 rfl) (fun _ => rfl)) ?_
        refine Steps.cons (fun a' w' hG hB dep => gs_load_set (want_yes rfl rfl (dep 14 rfl 106 rfl)) _ rfl _ (hG.other 5 rfl) _ (blk_then hb hB) rfl) ?_
        refine Steps.cons (fun a' w' hG hB dep => gs_rnot (want_yes rfl rfl (dep 14 rfl 106 rfl)) _  _ rfl _ (dep 17 rfl 109 rfl) (fun _ => rfl)) ?_
        refine Steps.cons (fun a' w' hG hB dep => gs_eql_set (want_yes rfl rfl (dep 14 rfl 106 rfl)) _ _ _ rfl _ _ (dep 16 rfl 108 rfl) (dep 18 rfl 110 rfl) (eqT rfl)) ?_
        refine Steps.cons (fun a' w' hG hB dep => gs_pick (want_none rfl) _ _ _ rfl true (dep 14 rfl 106 rfl) (dep 19 rfl 111 rfl)) ?_
        refine Steps.cons (fun a' w' hG hB dep => gs_assign (want_none rfl) _ rfl (dep 20 rfl 112 rfl)) ?_
        exact Steps.nil
      intro u w10 hB10 ans
      have ux : u 6 = .bool true := ans 21 6 (by decide) rfl
      clear ans
      refine wpList_nil ?_
      simp only [putAll, List.foldl_cons, List.foldl_nil, Act.put, List.setIfInBounds_toArray, List.set_cons_zero, List.set_cons_succ, ux]
      clear ux

      go_wp2
      go_ret
      exact ⟨rfl, below_then hB hB10⟩

end Go.Proofs.Ytjpiebapemalfaa
