/- The walk of PartSets. -/
import Derived.Test.YtjpiebapemalfaaBears
namespace Go.Proofs.Ytjpiebapemalfaa
open Go.RowKit Go.Maps Go.WideMaps
set_option linter.unusedVariables false
set_option linter.unusedSimpArgs false

theorem info_edges : (Try.prog.info? 22).map (·.size) = some 1 := by kernel_rfl
set_option maxRecDepth 100000 in
set_option maxHeartbeats 8000000 in
theorem partSets_any (s : Int) (A0 : Option Addr) (n0 c0 : Nat) (B : Option Addr) (m d : Nat) (es0 : List Edg) (w : World) (hn0 : n0 = es0.length) (hm0 : n0 ≤ maxLen) (hc0 : n0 ≤ c0) (hs0 : SliceOf w w.heap.size 7 edgC A0 es0) :
    Calls Try.prog 3 #[.agg (nfaC s A0 n0 c0 B m d)] w fun e w' => e = .returned (.bool true) ∧ Below w.heap.size w w' := by
  obtain ⟨i0, hi0, hz0, hz1, hz2⟩ := info_parts info_set3
  obtain ⟨j0, hj0, hy0, hy1, hy2⟩ := info_parts info_edge3
  have hsE := size_edgeE
  have hsS := size_setE
  have hzn := zero_nfa
  have Hn0 := Lib.hid hn0
  have hb0 := Blk.new w 25 (nfaC s A0 n0 c0 B m d)
  have hBa := below_alloc (Below.refl w.heap.size w) (.cells (nfaC s A0 n0 c0 B m d) 25)
  unfold maxLen at hm0
  clear hn0
  go_enter Try.func3, Try.ntmps3
  go_upto_if 18 with (go_at_call 12; refine (known9_any _).mono ?_; rintro e w2 ⟨rfl, hB1⟩; have hb1 := blk_then hb0 hB1; have hB2 := below_then hBa hB1; have c1 := hb1.cellv (i := 1) (v := .slice A0 n0 c0) rfl; clear hb0 hBa hB1)
  go_cut [] (fun wx => Blk wx w.heap.size 25 (nfaC s A0 (min n0 300) c0 B m d) ∧ Below w.heap.size w wx)
  case first =>
    by_cases h : n0 > 300
    · have hmin := Lib.hid (Nat.min_eq_right (by omega) : min n0 300 = 300)
      obtain ⟨b0, off, rfl, _, _⟩ := hs0.at_ (by have := Hn0.out; omega)
      have h300 : 300 ≤ c0 := by omega
      go_wp2_with (refine wl_store_cell rfl _ _ _ rfl _ _ rfl _ _ (nfaC s (some ⟨b0, off, none⟩) 300 c0 B m d) hb1 (by simp [nfaC]) info_edges rfl rfl rfl ?_; intro w3 hb3 hg3)
      go_meet
      case rel => exact ⟨by rw [hmin.out]; exact hb3, below_grown hB2 hg3 (Nat.le_refl _)⟩
    · have hmin := Lib.hid (Nat.min_eq_left (by omega) : min n0 300 = n0)
      go_wp2
      go_meet
      case rel => exact ⟨by rw [hmin.out]; exact hb1, hB2⟩
  case rest =>
    obtain ⟨hb, hB⟩ := hcut
    clear hb1 hB2 c1
    have hn : min n0 300 = (es0.take 300).length := by rw [List.length_take, ← Hn0.out]; omega
    have hs := hs0.take 300
    have hle : min n0 300 ≤ 300 := Nat.min_le_right _ _
    have hnc : min n0 300 ≤ c0 := by omega
    obtain ⟨n, hnn⟩ : ∃ n, n = min n0 300 := ⟨_, rfl⟩
    obtain ⟨es, hll⟩ : ∃ l, l = es0.take 300 := ⟨_, rfl⟩
    rw [← hnn, ← hll] at hn
    rw [← hll] at hs
    rw [← hnn] at hle hnc hb
    have Hn := Lib.hid hn
    have hm : n ≤ maxLen := by unfold maxLen; omega
    obtain ⟨A, hA⟩ : ∃ A, A = A0 := ⟨_, rfl⟩
    rw [← hA] at hs hb
    clear hn hnn hll hs0 hm0 hc0 hA Hn0
    have hLl := setsL_length es
    rw [← Hn.out] at hLl
    obtain ⟨L, hL⟩ : ∃ L, L = setsL es := ⟨_, rfl⟩
    rw [← hL] at hLl
    have HL := Lib.hid hL
    have hLm : L.length ≤ maxLen := by unfold maxLen; omega
    clear hL
    have hs1 := (hs.below hB).more hB.size
    go_upto_region 6 with (first
      | (refine wl_load_nfa rfl _ rfl _ rfl _ _ _ _ _ _ _ hb ?_)
      | (go_at_call 13; refine (rsets_any s A n c0 B m d es _ Hn.out (by omega) hs1).mono ?_; rintro e w3 ⟨A3, c3, he, hw, hB3⟩; rw [← HL.out] at he hw; subst he))
    have hw3b : wc.heap.size ≤ w3.heap.size := hB3.size
    replace hb := blk_then hb hB3
    replace hB := below_then hB hB3
    clear hs1 hB3
    obtain ⟨base, hbase⟩ : ∃ base, base = w3.heap.size := ⟨_, rfl⟩
    have hb1 : base ≤ w3.heap.size := by omega
    have hbw : w.heap.size < base := by rw [hbase]; exact hb.lt
    have hwb : ∀ j, (Value.slice A3 L.length c3).ownBlock = some j → j < base := fun j e => by rw [hbase]; exact (hw.lt j e).2
    have c1 := hb.cellv (i := 1) (v := .slice A n c0) rfl
    have hs3 := (hs.below hB).more hB.size
    clear hbase
    go_upto_region 7 with (fail)
    go_upto_region 8 with (at_builtin; refine wl_append _ rfl _ _ 22 rfl base 33 j0 _ 7 56 Try.underlying22 hj0 hy0 hy1 hy2 rfl (by decide) edgC_size edgC_one (.slice none 0 0) [] rfl (Own.nil_ _ _ _ _ _) _ A n c0 es rfl Hn.out hs3 (by rw [List.length_nil, Nat.zero_add]; exact hm) (by rw [List.length_nil, Nat.zero_add]; omega) hb1 ?_; intro v1 w4 hown1 hg1 hat1)
    have hK := below_own (Below.refl w3.heap.size w3) hg1 own_nil_lt
    rw [List.nil_append] at hown1
    replace hb := blk_then hb hK
    replace hw := hw.then_ hK
    replace hB := below_then hB hK
    have hb2 : base ≤ w4.heap.size := Nat.le_trans hb1 hK.size
    clear hK hg1 hat1 hs3 c1 hb1
    have hone := slice_one (enc := edgC) (size := 7) (Blk.new w4 33 (edgC e77))
    have hown1' := hown1.alloc (.cells (edgC e77) 33)
    have hown1lt : ∀ k, v1.ownBlock = some k → base ≤ k := fun k hk => (hown1.lt k hk).1
    go_upto_region 9 with (first
      | (refine wl_build_edge rfl _ rfl e77 (fun _ => by kernel_rfl) ?_)
      | (refine wl_build1e rfl _ rfl _ rfl ?_)
      | (at_builtin; refine wl_append _ rfl _ _ 22 rfl base 33 j0 _ 7 56 Try.underlying22 hj0 hy0 hy1 hy2 rfl (by decide) edgC_size edgC_one v1 es rfl hown1' _ _ 1 1 [e77] rfl rfl hone (by rw [← Hn.out]; unfold maxLen; omega) (by rw [← Hn.out]; omega) (by simp; omega) ?_; intro v2 w5 hown2 hg2 hat2))
    replace hb := (hb.alloc (.cells (edgC e77) 33)).grown hg2 (fun e => by have := hown1lt _ e.symm; omega)
    replace hw := (hw.alloc (.cells (edgC e77) 33)).kept_ hg2 (fun j e1 e2 => by have := hwb j e1; have := hown1lt j e2; omega)
    replace hB := below_own (below_alloc hB (.cells (edgC e77) 33)) hg2 (fun k hk => by have := hown1lt k hk; omega)
    clear hone hown1' hown1 hown1lt hg2 hat2
    have Htk : Hid ((es ++ [e77]).take n = es) := by rw [Hn.out]; exact List.take_left' rfl
    have hlen : (es ++ [e77]).length = n + 1 := by rw [List.length_append, ← Hn.out]; rfl
    have Hgets : Hid (∀ (k : Nat) (hk : k < es.length) (hk2 : k < (es ++ [e77]).length), (es ++ [e77])[k] = es[k]) := fun k hk hk2 => List.getElem_append_left hk
    have Hat : Hid (∀ (hk : n < (es ++ [e77]).length), (es ++ [e77])[n] = e77) := fun hk => by
      have h1 := Hn.out
      rw [List.getElem_append_right (by omega)]
      simp [h1]
    obtain ⟨l2, hl2⟩ : ∃ l2, l2 = es ++ [e77] := ⟨_, rfl⟩
    rw [← hl2] at hown2 Htk hlen Hat Hgets
    clear hl2
    obtain ⟨g, cap, hv2, hgb, hglt, hcap, hcm⟩ := hown2.form (by omega)
    subst hv2
    have hltl : n < l2.length := by omega
    have hncap : n ≤ cap := by omega
    replace Hat := Lib.hid (Hat.out hltl)
    obtain ⟨M, hM⟩ : ∃ M, M = l2.length := ⟨_, rfl⟩
    have hNn : n < M := by omega
    have hM301 : M ≤ 301 := by omega
    have HMn : Hid (M = n + 1) := Lib.hid (by omega)
    rw [← hM] at hown2 ⊢
    have HM := Lib.hid hM
    clear hM hlen hcap hb2
    have hown := hown2
    clear hown2
    refine wp_region_steps 11 [eqS (.pointer (some ⟨w.heap.size, 0, none⟩)), eqS (.int .i64 (s)), eqS (.slice (some ⟨g, 0, none⟩) M cap), eqS (.pointer (some ⟨w.heap.size, 0 + 1, none⟩)), eqS (.slice A n c0), eqS (.int .i64 ((n : Int))), eqS (.slice (some ⟨g, 0, none⟩) n cap), eqS (.pointer (some ⟨w.heap.size, 0 + 2, none⟩)), eqS (.slice B m d), eqS (.agg (nfaC s (some ⟨g, 0, none⟩) n cap B m d)), newS w5.heap.size 25 (nfaC 0 none 0 0 none 0 0)] [33, 34, 35, 36, 37, 38, 39, 40, 41, 42, 5] follows_mixed (by kernel_rfl) rfl ?_ ?_
    · refine Steps.cons (fun a' w' hG hB dep => gs_field (want_none rfl) _ _ _ rfl _ _ _ (hG.other 1 rfl) (field_nfa_0 _ _) rfl) ?_
      refine Steps.cons (fun a' w' hG hB dep => gs_load1 (want_none rfl) _ _ rfl _ _ (dep 0 rfl 33 rfl) _ ((blk_then hb hB).cellv rfl) _ Try.underlying3 rfl rfl) ?_
      refine Steps.cons (fun a' w' hG hB dep => gs_move (want_none rfl) _ rfl (hG.other 4 rfl)) ?_
      refine Steps.cons (fun a' w' hG hB dep => gs_field (want_none rfl) _ _ _ rfl _ _ _ (hG.other 1 rfl) (field_nfa_1 _ _) rfl) ?_
      refine Steps.cons (fun a' w' hG hB dep => gs_load1 (want_none rfl) _ _ rfl _ _ (dep 3 rfl 36 rfl) _ ((blk_then hb hB).cellv rfl) _ Try.underlying22 rfl rfl) ?_
      refine Steps.cons (fun a' w' hG hB dep => gs_len (want_none rfl) _ _ rfl under_edges _ _ _ (dep 4 rfl 37 rfl) rfl) ?_
      refine Steps.cons (fun a' w' hG hB dep => gs_slice_to (want_none rfl) _ _ _ rfl under_edges _ size_edgeE _ _ _ _ (dep 2 rfl 35 rfl) (dep 5 rfl 38 rfl) hncap rfl) ?_
      refine Steps.cons (fun a' w' hG hB dep => gs_field (want_none rfl) _ _ _ rfl _ _ _ (hG.other 1 rfl) (field_nfa_2 _ _) rfl) ?_
      refine Steps.cons (fun a' w' hG hB dep => gs_load1 (want_none rfl) _ _ rfl _ _ (dep 7 rfl 40 rfl) _ ((blk_then hb hB).cellv rfl) _ Try.underlying23 rfl rfl) ?_
      refine Steps.cons (fun a' w' hG hB dep => gs_build_nfa (want_none rfl) _ _ _ rfl _ _ _ _ _ _ _ (dep 1 rfl 34 rfl) (dep 6 rfl 39 rfl) (dep 8 rfl 41 rfl) rfl) ?_
      refine Steps.cons (fun a' w' hG hB dep => gs_alloc_nfa (want_none rfl) rfl _ hB.size (fun _ _ h => h)) ?_
      exact Steps.nil
    intro u w6 hB6 ans
    have ux : u 42 = .agg (nfaC s (some ⟨g, 0, none⟩) n cap B m d) := ans 9 42 (by decide) rfl
    have ux5 : (newS w5.heap.size 25 (nfaC 0 none 0 0 none 0 0)).p (u 5) w6 := ans 10 5 (by decide) rfl
    obtain ⟨g5, ux5, hg5, h50⟩ := ux5
    clear ans
    simp only [putAll, List.foldl_cons, List.foldl_nil, Act.put, List.setIfInBounds_toArray, List.set_cons_zero, List.set_cons_succ, ux, ux5]
    clear ux ux5
    have hgg5 : g < g5 := by omega
    have hbg5 : ∀ x, x < w5.heap.size → x ≠ g5 := fun x h => by omega
    have hwl : ∀ j, (Value.slice A3 L.length c3).ownBlock = some j → j < w5.heap.size := fun j e => (hw.lt j e).2
    have hbl := hb.lt
    replace hb := blk_then hb hB6
    replace hown := hown.then_ hB6
    replace hw := hw.then_ hB6
    have hB5s := hB.size
    replace hB := below_then hB hB6
    clear hB6 hglt
    go_upto_region 10 with (refine wl_store_nfa rfl _ _ rfl _ _ _ _ _ _ _ _ rfl rfl 0 none 0 0 none 0 0 h50 ?_; intro w7 h5 hg7)
    replace hb := blk_grown hb hg7 (by omega)
    replace hown := hown.kept_ hg7 (fun j e1 e2 => by have : g = j := by simpa [Value.ownBlock] using e1
                                                      have : g5 = j := by injection e2
                                                      omega)
    replace hw := hw.kept_ hg7 (fun j e1 e2 => by have := hwl j e1; have : g5 = j := by injection e2
                                                  omega)
    replace hB := below_grown hB hg7 (by omega)
    have hg57 := h5.lt
    clear hg7 h50 hbg5 hwl hbl hB5s hg5
    have hsl := hown.slice edgC_size n
    rw [Htk.out] at hsl
    go_upto_region 11 with (first
      | (refine wl_load_nfa rfl _ rfl _ rfl _ _ _ _ _ _ _ h5 ?_)
      | (go_at_call 14; refine (psets_any s (some ⟨g, 0, none⟩) n cap B m d es _ Hn.out (by omega) hsl).mono ?_; rintro e w8 ⟨A6, c6, he, ha, hB8⟩; rw [← HL.out] at he ha; subst he))
    have h5a := h5.lt
    have h8b := Nat.lt_of_lt_of_le h5a hB8.size
    replace hb := blk_then hb hB8
    replace h5 := blk_then h5 hB8
    replace hown := hown.then_ hB8
    replace hw := hw.then_ hB8
    replace hsl := (hsl.below hB8).more hB8.size
    replace hB := below_then hB hB8
    clear hB8
    replace ha := ha.mono (base' := g5 + 1) (by omega)
    go_upto_region 12 with (first
      | (refine wl_load_nfa rfl _ rfl _ rfl _ _ _ _ _ _ _ h5 ?_)
      | (go_at_call 14; refine (psets_any s (some ⟨g, 0, none⟩) n cap B m d es _ Hn.out (by omega) hsl).mono ?_; rintro e w9 ⟨A7, c7, he, hbb, hB9⟩; rw [← HL.out] at he hbb; subst he))
    have halt : ∀ j, (Value.slice A6 L.length c6).ownBlock = some j → g5 < j ∧ j < w8.heap.size := fun j e => by have := ha.lt j e; omega
    have hblt : ∀ j, (Value.slice A7 L.length c7).ownBlock = some j → w8.heap.size < j := fun j e => by have := (hbb.lt j e).1; omega
    replace ha := ha.then_ hB9
    replace hb := blk_then hb hB9
    replace h5 := blk_then h5 hB9
    replace hown := hown.then_ hB9
    replace hw := hw.then_ hB9
    replace hsl := (hsl.below hB9).more hB9.size
    replace hB := below_then hB hB9
    obtain ⟨base8, h8⟩ : ∃ b8, b8 = w8.heap.size := ⟨_, rfl⟩
    rw [← h8] at halt hblt hbb h8b
    clear hB9 h8 h5a
    obtain ⟨q, hq⟩ : ∃ q, q = L.length := ⟨_, rfl⟩
    rw [← hq] at hLl hLm hw ha hbb hwb halt hblt ⊢
    have Hq := Lib.hid hq
    have hqm : q ≤ maxLen := hLm
    clear hq hLm
    refine wp_region_text 20 [eqS (.slice A6 q c6), eqS (.slice A3 q c3), eqS (.bool true), eqS (.bool false), eqS (.bool false), eqS (.slice A7 q c7), eqS (.slice A3 q c3), eqS (.bool true), eqS (.bool false), eqS (.bool false), eqS (.bool false), eqS (.slice (some ⟨g, 0, none⟩) M cap), eqS (.pointer (some ⟨w.heap.size, 0 + 1, none⟩)), eqS (.slice A n c0), eqS (.int .i64 ((n : Int))), eqS (.pointer (some ⟨g, 0 + n * 7, none⟩)), eqS (.pointer (some ⟨g, 0 + n * 7, none⟩)), eqS (.int .i64 (-77)), eqS (.bool false), eqS (.bool false)] [47, 48, 49, 50, 51, 52, 53, 54, 55, 56, 57, 58, 59, 60, 61, 62, 63, 64, 65, 66] (by kernel_rfl) rfl ?_ ?_
    · refine Steps.cons (fun a' w' hG hB dep => gs_move (want_none rfl) _ rfl (hG.other 6 rfl)) ?_
      refine Steps.cons (fun a' w' hG hB dep => gs_move (want_none rfl) _ rfl (hG.other 3 rfl)) ?_
      refine Steps.cons (fun a' w' hG hB dep => gs_same (want_none rfl) _ _ _ rfl _ _ _ _ _ _ _ _ (dep 0 rfl 47 rfl) Hq.out hqm ((ha.then_ hB).slice_all setC_size) (dep 1 rfl 48 rfl) Hq.out hqm ((hw.then_ hB).slice_all setC_size) rfl (fun _ => rfl)) ?_
      refine Steps.cons (fun a' w' hG hB dep => gs_not_bool (want_none rfl) _ _ rfl true (dep 2 rfl 49 rfl) rfl) ?_
      refine Steps.cons (fun a' w' hG hB dep => gs_move (want_none rfl) _ rfl (dep 3 rfl 50 rfl)) ?_
      refine Steps.cons (fun a' w' hG hB dep => gs_move (want_yes rfl rfl (dep 4 rfl 51 rfl)) _ rfl (hG.other 7 rfl)) ?_
      refine Steps.cons (fun a' w' hG hB dep => gs_move (want_yes rfl rfl (dep 4 rfl 51 rfl)) _ rfl (hG.other 3 rfl)) ?_
      refine Steps.cons (fun a' w' hG hB dep => gs_same (want_yes rfl rfl (dep 4 rfl 51 rfl)) _ _ _ rfl _ _ _ _ _ _ _ _ (dep 5 rfl 52 rfl) Hq.out hqm ((hbb.then_ hB).slice_all setC_size) (dep 6 rfl 53 rfl) Hq.out hqm ((hw.then_ hB).slice_all setC_size) rfl (fun _ => rfl)) ?_
      refine Steps.cons (fun a' w' hG hB dep => gs_not_bool (want_yes rfl rfl (dep 4 rfl 51 rfl)) _ _ rfl true (dep 7 rfl 54 rfl) rfl) ?_
      refine Steps.cons (fun a' w' hG hB dep => gs_pick (want_none rfl) _ _ _ rfl false (dep 4 rfl 51 rfl) (dep 8 rfl 55 rfl)) ?_
      refine Steps.cons (fun a' w' hG hB dep => gs_move (want_none rfl) _ rfl (dep 9 rfl 56 rfl)) ?_
      refine Steps.cons (fun a' w' hG hB dep => gs_move (want_yes rfl rfl (dep 10 rfl 57 rfl)) _ rfl (hG.other 4 rfl)) ?_
      refine Steps.cons (fun a' w' hG hB dep => gs_field (want_yes rfl rfl (dep 10 rfl 57 rfl)) _ _ _ rfl _ _ _ (hG.other 1 rfl) (field_nfa_1 _ _) rfl) ?_
      refine Steps.cons (fun a' w' hG hB dep => gs_load1 (want_yes rfl rfl (dep 10 rfl 57 rfl)) _ _ rfl _ _ (dep 12 rfl 59 rfl) _ ((blk_then hb hB).cellv rfl) _ Try.underlying22 rfl rfl) ?_
      refine Steps.cons (fun a' w' hG hB dep => gs_len (want_yes rfl rfl (dep 10 rfl 57 rfl)) _ _ rfl under_edges _ _ _ (dep 13 rfl 60 rfl) rfl) ?_
      refine Steps.cons (fun a' w' hG hB dep => gs_index (want_yes rfl rfl (dep 10 rfl 57 rfl)) _ _ _ rfl under_edges _ size_edgeE _ _ _ _ _ (dep 11 rfl 58 rfl) (dep 14 rfl 61 rfl) hNn rfl) ?_
      refine Steps.cons (fun a' w' hG hB dep => gs_field (want_yes rfl rfl (dep 10 rfl 57 rfl)) _ _ _ rfl _ _ _ (dep 15 rfl 62 rfl) (field_edge_0 _ _) rfl) ?_
      refine Steps.cons (fun a' w' hG hB dep => gs_load1 (want_yes rfl rfl (dep 10 rfl 57 rfl)) _ _ rfl _ _ (dep 16 rfl 63 rfl) _ (by have := ((hown.then_ hB).row edgC_size n hltl).kd; rw [Hat.out] at this; rw [Nat.zero_add]; exact this) _ Try.underlying3 rfl rfl) ?_
      refine Steps.cons (fun a' w' hG hB dep => gs_neq_int (want_yes rfl rfl (dep 10 rfl 57 rfl)) _ _ _ _ rfl _ _ _ (dep 17 rfl 64 rfl) rfl (eqFI rfl)) ?_
      refine Steps.cons (fun a' w' hG hB dep => gs_pick (want_none rfl) _ _ _ rfl false (dep 10 rfl 57 rfl) (dep 18 rfl 65 rfl)) ?_
      exact Steps.nil
    intro u w10 hB10 ans
    have ux : u 66 = .bool false := ans 19 66 (by decide) rfl
    clear ans
    refine wpList_nil ?_
    simp only [putAll, List.foldl_cons, List.foldl_nil, Act.put, List.setIfInBounds_toArray, List.set_cons_zero, List.set_cons_succ, ux]
    clear ux

    replace ha := ha.then_ hB10
    replace hbb := hbb.then_ hB10
    replace hb := blk_then hb hB10
    replace h5 := blk_then h5 hB10
    replace hown := hown.then_ hB10
    replace hw := hw.then_ hB10
    replace hB := below_then hB hB10
    clear hB10 hsl hj0 hy0 hy1 hy2 hzn hg57
    have c1 := hb.cellv (i := 1) (v := .slice A n c0) rfl
    go_wp2
    go_loopw [70] (fun i wr => ∃ k : Nat, k ≤ n ∧ i = .int .i64 k ∧ Below w10.heap.size w10 wr) (fun i _ => n - (intOf i).toNat)
    case atStart => exact ⟨0, by omega, rfl, Below.refl _ _⟩
    case round =>
      obtain ⟨k, hk, rfl, hC⟩ := hrel
      clear c1
      by_cases hlt : k < n
      · have hkI : (k : Int) < n := by omega
        have hkl : k < es.length := by have := Hn.out; omega
        have hkM : k < M := by omega
        have hkl2 : k < l2.length := by have := HM.out; omega
        have Hgk := Lib.hid (Hgets.out k hkl hkl2)
        obtain ⟨b0, off, rfl, hbl, hrow⟩ := (hs.below (below_then hB hC)).at_ (by omega)
        have hr := hrow k hkl
        have hb2 : b0 < wr.heap.size := by have := hB.size; have := hC.size; omega
        clear hrow
        go_upto_region 17 with (fail)
        refine wp_region_steps 10 [eqS (.slice (some ⟨g, 0, none⟩) M cap), eqS (.int .i64 ((k : Int))), eqS (.pointer (some ⟨g, 0 + k * 7, none⟩)), eqS (.agg (edgC l2[k])), eqS (.pointer (some ⟨w.heap.size, 0 + 1, none⟩)), eqS (.slice (some ⟨b0, off, none⟩) n c0), eqS (.int .i64 ((k : Int))), eqS (.pointer (some ⟨b0, off + k * 7, none⟩)), eqS (.agg (edgC es[k])), eqS (.bool false)] [73, 74, 75, 76, 77, 78, 79, 80, 81, 82] follows_mixed (by kernel_rfl) rfl ?_ ?_
        · refine Steps.cons (fun a' w' hG hB dep => gs_move (want_none rfl) _ rfl (hG.other 4 rfl)) ?_
          refine Steps.cons (fun a' w' hG hB dep => gs_move (want_none rfl) _ rfl (hG.other 8 rfl)) ?_
          refine Steps.cons (fun a' w' hG hB dep => gs_index (want_none rfl) _ _ _ rfl under_edges _ size_edgeE _ _ _ _ _ (dep 0 rfl 73 rfl) (dep 1 rfl 74 rfl) hkM rfl) ?_
          refine Steps.cons (fun a' w' hG hB dep => gs_load_edge_at (want_none rfl) _ rfl _ _ (dep 2 rfl 75 rfl) _ (by rw [Nat.zero_add]; exact ((hown.then_ hC).then_ hB).row edgC_size k hkl2) rfl) ?_
          refine Steps.cons (fun a' w' hG hB dep => gs_field (want_none rfl) _ _ _ rfl _ _ _ (hG.other 1 rfl) (field_nfa_1 _ _) rfl) ?_
          refine Steps.cons (fun a' w' hG hB dep => gs_load1 (want_none rfl) _ _ rfl _ _ (dep 4 rfl 77 rfl) _ ((blk_then (blk_then hb hC) hB).cellv rfl) _ Try.underlying22 rfl rfl) ?_
          refine Steps.cons (fun a' w' hG hB dep => gs_move (want_none rfl) _ rfl (hG.other 8 rfl)) ?_
          refine Steps.cons (fun a' w' hG hB dep => gs_index (want_none rfl) _ _ _ rfl under_edges _ size_edgeE _ _ _ _ _ (dep 5 rfl 78 rfl) (dep 6 rfl 79 rfl) hlt rfl) ?_
          refine Steps.cons (fun a' w' hG hB dep => gs_load_edge_at (want_none rfl) _ rfl _ _ (dep 7 rfl 80 rfl) _ (hr.keep (hB.block b0 hb2)) rfl) ?_
          refine Steps.cons (fun a' w' hG hB dep => gs_neq_edge (want_none rfl) _ _ _ rfl _ _ (dep 3 rfl 76 rfl) (dep 8 rfl 81 rfl) (eqFE Hgk.out)) ?_
          exact Steps.nil
        intro u w3 hB3 ans
        have ux : u 82 = .bool false := ans 9 82 (by decide) rfl
        clear ans
        refine wpList_nil ?_
        simp only [putAll, List.foldl_cons, List.foldl_nil, Act.put, List.setIfInBounds_toArray, List.set_cons_zero, List.set_cons_succ, ux]
        clear ux

        go_wp2
        go_roundw
        case rel => exact ⟨k + 1, by omega, by go_num, below_then hC hB3⟩
        case measure => simp [intOf]; omega
      · have hkI : ¬ (k : Int) < n := by omega
        replace ha := ha.then_ hC
        replace hbb := hbb.then_ hC
        replace hb := blk_then hb hC
        replace h5 := blk_then h5 hC
        replace hown := hown.then_ hC
        replace hw := hw.then_ hC
        replace hB := below_then hB hC
        clear hC Hgets Hat hs
        go_wp2
        obtain ⟨wp, rfl⟩ : ∃ wo : World, wo = wr := ⟨_, rfl⟩
        go_loopw [86] (fun i wr => ∃ k : Nat, k ≤ q ∧ i = .int .i64 k ∧ Own wr (g5 + 1) 31 4 setC (.slice A6 q c6) (List.replicate k m5 ++ L.drop k) ∧ wp.grownBy wr (Value.slice A6 q c6).ownBlock) (fun i _ => q - (intOf i).toNat)
        case atStart => exact ⟨0, by omega, rfl, by rw [List.replicate_zero, List.nil_append, List.drop_zero]; exact ha, World.grownBy.refl _ _⟩
        case round =>
          clear ha
          obtain ⟨k, hk, rfl, ha, hG⟩ := hrel
          by_cases hkt : k < q
          · have hkI2 : (k : Int) < q := by omega
            have hkq : k < L.length := by rw [← Hq.out]; exact hkt
            have Hset := Lib.hid (repl_set L m5 k hkq)
            have hyl : k < (List.replicate k m5 ++ L.drop k).length := by rw [repl_len L m5 k (by omega)]; exact hkq
            obtain ⟨ys, hys⟩ : ∃ ys, ys = List.replicate k m5 ++ L.drop k := ⟨_, rfl⟩
            rw [← hys] at ha Hset hyl
            obtain ⟨ga, cap', hv, _⟩ := ha.form (by omega)
            injection hv with hA h1 h2
            subst hA
            clear h1 h2 hys
            go_wp2_with (first
              | (refine wl_build_set rfl _ rfl m5 (fun _ => by kernel_rfl) ?_)
              | (refine wl_store_own rfl _ _ _ rfl ga k q c6 rfl m5 rfl setC_size setC_one info_set ha hyl ?_; intro w3 ha3 hg3))
            go_roundw
            case rel => exact ⟨k + 1, by omega, by go_num, by rw [← Hset.out]; exact ha3, hG.trans hg3⟩
            case measure => simp [intOf]; omega
          · have hkI2 : ¬ (k : Int) < q := by omega
            rw [repl_all L m5 k (by rw [← Hq.out]; omega), show k = q by omega] at ha
            replace hb := hb.grown hG (fun e => by have := halt _ e.symm; omega)
            replace h5 := h5.grown hG (fun e => by have := halt _ e.symm; omega)
            replace hown := hown.kept_ hG (fun j e1 e2 => by have := halt _ e2; have : g = j := by simpa [Value.ownBlock] using e1
                                                             omega)
            replace hw := hw.kept_ hG (fun j e1 e2 => by have := hwb j e1; have := halt _ e2; omega)
            replace hbb := hbb.kept_ hG (fun j e1 e2 => by have := hblt j e1; have := halt _ e2; omega)
            replace hB := below_own hB hG (fun j e => by have := halt _ e; omega)
            clear hG
            go_upto_region 27 with (go_at_call 15; refine (same_any A7 A3 q c7 q c3 L L _ Hq.out hqm Hq.out hqm (hbb.slice_all setC_size) (hw.slice_all setC_size)).mono ?_; rw [decide_eq_true (rfl : L = L)]; rintro e w11 ⟨rfl, hB11⟩)
            replace ha := ha.then_ hB11
            replace hbb := hbb.then_ hB11
            replace hb := blk_then hb hB11
            replace h5 := blk_then h5 hB11
            replace hown := hown.then_ hB11
            replace hB := below_then hB hB11
            clear hw hwb hB11
            obtain ⟨wz, hwz⟩ : ∃ wo : World, wo = wr := ⟨_, rfl⟩
            clear hwz
            go_wp2
            go_loopw [100] (fun i wr => ∃ (k : Nat) (ys : List Edg), k ≤ M ∧ i = .int .i64 k ∧ Own wr base 33 7 edgC (.slice (some ⟨g, 0, none⟩) M cap) ys ∧ w11.grownBy wr (some g)) (fun i _ => M - (intOf i).toNat)
            case atStart => exact ⟨0, l2, by omega, rfl, hown, World.grownBy.refl _ _⟩
            case round =>
              clear hown
              obtain ⟨k, ys, hk, rfl, hown, hG⟩ := hrel
              have hlen := hown.len
              by_cases hkM : k < M
              · have hkMI : (k : Int) < M := by omega
                have hky : k < ys.length := by omega
                have Hlen := Lib.hid hlen
                clear hlen
                have hr := hown.row edgC_size k hky
                have r0 := hr.kd
                have r5 : wr.cell? ⟨g, k * 7 + 3 + 2, none⟩ = some (.int .u64 (word ys[k].st 2)) := hr.st 2 _ (setC_at _ 2 (by omega))
                have f0 := hown.frozen (k * 7)
                have f5 := hown.frozen (k * 7 + 3 + 2)
                go_upto_region 30 with (fail)
                go_region
                go_wp2
                go_roundw
                case rel =>
                  obtain ⟨y1, hy1⟩ := edg_set ys[k] (bits BinOp.xor IntKind.u64 (word ys[k].st 2) 255) (bits_u64_bounds _ _ _).1 (bits_u64_bounds _ _ _).2
                  have o1 := hown.setCell (q := 3 + 2) edgC_size hky (by omega) hy1
                  rw [← Nat.add_assoc] at o1
                  have hk1 : k < (ys.set k y1).length := by rw [List.length_set]; exact hky
                  obtain ⟨y2, hy2⟩ := edg_kd (ys.set k y1)[k] (wrap64 (1 + bits BinOp.and IntKind.i64 (wrap64 (ys[k].kd + 1)) 3))
                  have o2 := o1.setCell (q := 0) edgC_size hk1 (by omega) hy2
                  rw [Nat.add_zero] at o2
                  exact ⟨k + 1, _, by omega, by go_num, o2.drew, only_drew (only_setCell (only_setCell hG (.inl rfl) _) (.inl rfl) _)⟩
                case measure => simp [intOf]; omega
              · have hkMI : ¬ (k : Int) < M := by omega
                replace ha := ha.kept_ hG (fun j e1 e2 => by have := halt j e1; have : g = j := by injection e2
                                                             omega)
                replace hbb := hbb.kept_ hG (fun j e1 e2 => by have := hblt j e1; have : g = j := by injection e2
                                                               omega)
                replace hb := blk_grown hb hG (by omega)
                replace h5 := blk_grown h5 hG (by omega)
                replace hB := below_grown hB hG (by omega)
                have hbbz : ∀ j, (Value.slice A7 q c7).ownBlock = some j → j < wr.heap.size := fun j e => (hbb.lt j e).2
                have haz : ∀ j, (Value.slice A6 q c6).ownBlock = some j → j < wr.heap.size := fun j e => (ha.lt j e).2
                obtain ⟨E2, hE2⟩ : ∃ E2, E2 = ys.take n := ⟨_, rfl⟩
                have HE2 := Lib.hid hE2.symm
                have HnE : Hid (n = E2.length) := Lib.hid (by rw [hE2, List.length_take]; omega)
                have hsl := hown.slice edgC_size n
                rw [← hE2] at hsl
                have hL2l := setsL_length E2
                rw [← HnE.out] at hL2l
                obtain ⟨L2, hL2⟩ : ∃ L2, L2 = setsL E2 := ⟨_, rfl⟩
                have hL2m : (setsL E2).length ≤ maxLen := by unfold maxLen; omega
                rw [← hL2] at hL2l
                obtain ⟨q2, hq2⟩ : ∃ q2, q2 = L2.length := ⟨_, rfl⟩
                rw [← hq2] at hL2l
                have hq2m : q2 ≤ maxLen := by unfold maxLen; omega
                have HL2 := Lib.hid hL2
                have Hq2 := Lib.hid hq2
                clear hlen hE2 hL2 hq2 hG
                go_upto_region 34 with (first
                  | (refine wl_load_nfa rfl _ rfl _ rfl _ _ _ _ _ _ _ h5 ?_)
                  | (go_at_call 14; refine (psets_any s (some ⟨g, 0, none⟩) n cap B m d E2 _ HnE.out (by omega) hsl).mono ?_; rintro e w12 ⟨A11, c11, he, hcc, hB12⟩; rw [← HL2.out, ← Hq2.out] at he hcc; subst he))
                replace ha := ha.then_ hB12
                replace hbb := hbb.then_ hB12
                replace h5 := blk_then h5 hB12
                replace hown := hown.then_ hB12
                replace hsl := (hsl.below hB12).more hB12.size
                replace hB := below_then hB hB12
                have h12r := hB12.size
                have hclt : ∀ j, (Value.slice A11 q2 c11).ownBlock = some j → wr.heap.size < j ∧ j < w12.heap.size := fun j e => by have := hcc.lt j e; omega
                go_upto_region 36 with (first
                  | (refine wl_load_nfa rfl _ rfl _ rfl _ _ _ _ _ _ _ h5 ?_)
                  | (go_at_call 13; refine (rsets_any s (some ⟨g, 0, none⟩) n cap B m d E2 _ HnE.out (by omega) hsl).mono ?_; rintro e w13 ⟨A12, c12, he, hd, hB13⟩; rw [← HL2.out, ← Hq2.out] at he hd; subst he)
                  | (go_at_call 15; refine (same_any A11 A12 q2 c11 q2 c12 L2 L2 _ Hq2.out hq2m Hq2.out hq2m ((hcc.then_ hB13).slice_all setC_size) (hd.slice_all setC_size)).mono ?_; rw [decide_eq_true (rfl : L2 = L2)]; rintro e w14 ⟨rfl, hB14⟩))
                have hK := below_then hB13 hB14
                replace ha := ha.then_ hK
                replace hbb := hbb.then_ hK
                replace hcc := hcc.then_ hK
                replace h5 := blk_then h5 hK
                replace hown := hown.then_ hK
                replace hB := below_then hB hK
                have h1412 := hK.size
                have hlow : g5 + 1 ≤ w14.heap.size := h5.lt
                clear hK hB13 hB14 hd hsl hB12 hb
                obtain ⟨gw, hgw⟩ : ∃ x, x = wr.heap.size := ⟨_, rfl⟩
                rw [← hgw] at hclt hbbz haz
                have hgw14 : gw ≤ w14.heap.size := by omega
                obtain ⟨wy, hwy⟩ : ∃ wo : World, wo = wr := ⟨_, rfl⟩
                clear hgw hwy
                go_wp2
                go_loopw [137] (fun i wr => ∃ k : Nat, k ≤ q ∧ i = .int .i64 k ∧ Own wr (base8 + 1) 31 4 setC (.slice A7 q c7) (List.replicate k m6 ++ L.drop k) ∧ w14.grownBy wr (Value.slice A7 q c7).ownBlock) (fun i _ => q - (intOf i).toNat)
                case atStart => exact ⟨0, by omega, rfl, by rw [List.replicate_zero, List.nil_append, List.drop_zero]; exact hbb, World.grownBy.refl _ _⟩
                case round =>
                  clear hbb
                  obtain ⟨k, hk, rfl, hbb, hG⟩ := hrel
                  by_cases hkt : k < q
                  · have hkI2 : (k : Int) < q := by omega
                    have hkq : k < L.length := by rw [← Hq.out]; exact hkt
                    have Hset := Lib.hid (repl_set L m6 k hkq)
                    have hyl : k < (List.replicate k m6 ++ L.drop k).length := by rw [repl_len L m6 k (by omega)]; exact hkq
                    obtain ⟨ys, hys⟩ : ∃ ys, ys = List.replicate k m6 ++ L.drop k := ⟨_, rfl⟩
                    rw [← hys] at hbb Hset hyl
                    obtain ⟨ga, cap', hv, _⟩ := hbb.form (by omega)
                    injection hv with hA h1 h2
                    subst hA
                    clear h1 h2 hys
                    go_wp2_with (first
                      | (refine wl_build_set rfl _ rfl m6 (fun _ => by kernel_rfl) ?_)
                      | (refine wl_store_own rfl _ _ _ rfl ga k q c7 rfl m6 rfl setC_size setC_one info_set hbb hyl ?_; intro w3 ha3 hg3))
                    go_roundw
                    case rel => exact ⟨k + 1, by omega, by go_num, by rw [← Hset.out]; exact ha3, hG.trans hg3⟩
                    case measure => simp [intOf]; omega
                  · have hkI2 : ¬ (k : Int) < q := by omega
                    rw [repl_all L m6 k (by rw [← Hq.out]; omega), show k = q by omega] at hbb
                    replace ha := ha.kept_ hG (fun j e1 e2 => by have := halt j e1; have := hblt j e2; omega)
                    replace hcc := hcc.kept_ hG (fun j e1 e2 => by have := hclt j e1; have := hbbz j e2; omega)
                    replace h5 := h5.grown hG (fun e => by have := hblt _ e.symm; omega)
                    replace hown := hown.kept_ hG (fun j e1 e2 => by have := hblt _ e2; have : g = j := by simpa [Value.ownBlock] using e1
                                                                     omega)
                    replace hB := below_own hB hG (fun j e => by have := hblt _ e; omega)
                    have hs15 := hG.size
                    obtain ⟨w15, hw15⟩ : ∃ x, x = wr := ⟨_, rfl⟩
                    rw [← hw15] at ha hbb hcc h5 hown hB hs15 ⊢
                    have hloha : g5 + 1 ≤ w15.heap.size := by omega
                    clear hG hw15
                    have hq300 : q ≤ 300 := by omega
                    go_wp2
                    go_loopw [145, 6] (fun i v wr => ∃ k : Nat, k ≤ 3 ∧ i = .int .i64 k ∧ Own wr (g5 + 1) 31 4 setC v (List.replicate (q + k) m5) ∧ w15.grownBy wr (Value.slice A6 q c6).ownBlock ∧ (v.ownBlock = (Value.slice A6 q c6).ownBlock ∨ ∀ j, v.ownBlock = some j → w15.heap.size ≤ j)) (fun i _ _ => 3 - (intOf i).toNat)
                    case atStart => exact ⟨0, by omega, rfl, by rw [Nat.add_zero]; exact ha, World.grownBy.refl _ _, .inl rfl⟩
                    case round =>
                      clear ha
                      obtain ⟨k, hk, rfl, ha, hG, hV⟩ := hrel
                      obtain ⟨AA, cc, rfl, hcc2, hcc3⟩ := ha.shape
                      rw [List.length_replicate] at hcc2 hV ⊢
                      have hV' := hV
                      have hha2 : Own wr (g5 + 1) 31 4 setC (.slice AA (q + k) cc) (List.replicate (q + k) m5) := by have := ha; rwa [List.length_replicate] at this
                      clear ha
                      by_cases hkt : k < 3
                      · have hkI2 : (k : Int) < 3 := by omega
                        obtain ⟨ys, hys⟩ : ∃ ys, ys = List.replicate (q + k) m5 := ⟨_, rfl⟩
                        rw [← hys] at hha2
                        have hyl : Hid (ys.length = q + k) := Lib.hid (by rw [hys, List.length_replicate])
                        have Hys : Hid (ys ++ [m5] = List.replicate (q + (k + 1)) m5) := Lib.hid (by rw [hys, show q + (k + 1) = (q + k) + 1 from rfl, List.replicate_succ'])
                        obtain ⟨q', hq'⟩ : ∃ q', q' = q + k := ⟨_, rfl⟩
                        rw [← hq'] at hha2 hcc2 hV hV' hyl ⊢
                        have hq'3 : q' ≤ 303 := by omega
                        clear hys hq'
                        have hown1 := hha2.alloc (.cells (setC m5) 31)
                        have hone := slice_one (enc := setC) (size := 4) (Blk.new wr 31 (setC m5))
                        have hbase : (g5 + 1) ≤ wr.heap.size := by have := hG.size; have := hloha; omega
                        go_wp2_with (first
                          | (refine wl_build_set rfl _ rfl m5 (fun _ => by kernel_rfl) ?_)
                          | (refine wl_build1 rfl _ rfl _ rfl ?_)
                          | (at_builtin; refine wl_append _ rfl _ _ 27 rfl ((g5 + 1)) 31 i0 _ 4 32 Try.underlying27 hi0 hz0 hz1 hz2 rfl (by decide) setC_size setC_one _ ys rfl hown1 _ _ 1 1 [m5] rfl rfl hone (by rw [hyl.out]; unfold maxLen; omega) (by rw [hyl.out]; omega) (by simp; omega) ?_; intro v2 w7' hown2 hg2 hat2))
                        go_roundw
                        case rel => exact ⟨k + 1, by omega, by go_num, by rw [← Hys.out]; exact hown2, grown_on (only_alloc hG _) hg2 hV', by
                          rcases hat2 with e | e
                          · rw [e]; exact hV'
                          · refine .inr fun j hj => ?_
                            rw [e] at hj
                            injection hj with hj
                            have := hG.size
                            simp at hj
                            omega⟩
                        case measure => simp [intOf]; omega
                      · have hkI2 : ¬ (k : Int) < 3 := by omega
                        obtain ⟨n6, hn6⟩ : ∃ x, x = q + k := ⟨_, rfl⟩
                        rw [← hn6] at hha2 hV hcc2 ⊢
                        have Hn6 : Hid (n6 = (List.replicate n6 m5).length) := Lib.hid (by rw [List.length_replicate])
                        have hn63 : n6 ≤ 303 := by omega
                        obtain ⟨A16, hA1⟩ : ∃ x, x = AA := ⟨_, rfl⟩
                        obtain ⟨c16, hc1⟩ : ∃ x, x = cc := ⟨_, rfl⟩
                        rw [← hA1, ← hc1] at hha2 hV ⊢
                        have ha := hha2
                        clear hha2 hn6 hA1 hc1 hV' hcc2 hcc3
                        replace hbb := hbb.kept_ hG (fun j e1 e2 => by have := halt j e2; have := hblt j e1; omega)
                        replace hcc := hcc.kept_ hG (fun j e1 e2 => by have := hclt j e1; have := haz j e2; omega)
                        replace h5 := h5.grown hG (fun e => by have := halt _ e.symm; omega)
                        replace hown := hown.kept_ hG (fun j e1 e2 => by have := halt _ e2; have : g = j := by simpa [Value.ownBlock] using e1
                                                                         omega)
                        replace hB := below_own hB hG (fun j e => by have := halt _ e; omega)
                        have hs16 := hG.size
                        have hbbw : ∀ j, (Value.slice A7 q c7).ownBlock = some j → j < w15.heap.size := fun j e => by have := hbbz j e; omega
                        have hV6 := hV
                        obtain ⟨w16, hw16⟩ : ∃ x, x = wr := ⟨_, rfl⟩
                        rw [← hw16] at ha hbb hcc h5 hown hB hs16 ⊢
                        have hlohbb : g5 + 1 ≤ w16.heap.size := h5.lt
                        replace hbb := hbb.mono (base' := g5 + 1) (by omega)
                        clear hG hw16 hV
                        have hq300 : q ≤ 300 := by omega
                        go_wp2
                        go_loopw [152, 7] (fun i v wr => ∃ k : Nat, k ≤ 3 ∧ i = .int .i64 k ∧ Own wr (g5 + 1) 31 4 setC v (List.replicate (q + k) m6) ∧ w16.grownBy wr (Value.slice A7 q c7).ownBlock ∧ (v.ownBlock = (Value.slice A7 q c7).ownBlock ∨ ∀ j, v.ownBlock = some j → w16.heap.size ≤ j)) (fun i _ _ => 3 - (intOf i).toNat)
                        case atStart => exact ⟨0, by omega, rfl, by rw [Nat.add_zero]; exact hbb, World.grownBy.refl _ _, .inl rfl⟩
                        case round =>
                          clear hbb
                          obtain ⟨k, hk, rfl, hbb, hG, hV⟩ := hrel
                          obtain ⟨AA, cc, rfl, hcc2, hcc3⟩ := hbb.shape
                          rw [List.length_replicate] at hcc2 hV ⊢
                          have hV' := hV
                          have hhbb2 : Own wr (g5 + 1) 31 4 setC (.slice AA (q + k) cc) (List.replicate (q + k) m6) := by have := hbb; rwa [List.length_replicate] at this
                          clear hbb
                          by_cases hkt : k < 3
                          · have hkI2 : (k : Int) < 3 := by omega
                            obtain ⟨ys, hys⟩ : ∃ ys, ys = List.replicate (q + k) m6 := ⟨_, rfl⟩
                            rw [← hys] at hhbb2
                            have hyl : Hid (ys.length = q + k) := Lib.hid (by rw [hys, List.length_replicate])
                            have Hys : Hid (ys ++ [m6] = List.replicate (q + (k + 1)) m6) := Lib.hid (by rw [hys, show q + (k + 1) = (q + k) + 1 from rfl, List.replicate_succ'])
                            obtain ⟨q', hq'⟩ : ∃ q', q' = q + k := ⟨_, rfl⟩
                            rw [← hq'] at hhbb2 hcc2 hV hV' hyl ⊢
                            have hq'3 : q' ≤ 303 := by omega
                            clear hys hq'
                            have hown1 := hhbb2.alloc (.cells (setC m6) 31)
                            have hone := slice_one (enc := setC) (size := 4) (Blk.new wr 31 (setC m6))
                            have hbase : (g5 + 1) ≤ wr.heap.size := by have := hG.size; have := hlohbb; omega
                            go_wp2_with (first
                              | (refine wl_build_set rfl _ rfl m6 (fun _ => by kernel_rfl) ?_)
                              | (refine wl_build1 rfl _ rfl _ rfl ?_)
                              | (at_builtin; refine wl_append _ rfl _ _ 27 rfl ((g5 + 1)) 31 i0 _ 4 32 Try.underlying27 hi0 hz0 hz1 hz2 rfl (by decide) setC_size setC_one _ ys rfl hown1 _ _ 1 1 [m6] rfl rfl hone (by rw [hyl.out]; unfold maxLen; omega) (by rw [hyl.out]; omega) (by simp; omega) ?_; intro v2 w7' hown2 hg2 hat2))
                            go_roundw
                            case rel => exact ⟨k + 1, by omega, by go_num, by rw [← Hys.out]; exact hown2, grown_on (only_alloc hG _) hg2 hV', by
                              rcases hat2 with e | e
                              · rw [e]; exact hV'
                              · refine .inr fun j hj => ?_
                                rw [e] at hj
                                injection hj with hj
                                have := hG.size
                                simp at hj
                                omega⟩
                            case measure => simp [intOf]; omega
                          · have hkI2 : ¬ (k : Int) < 3 := by omega
                            obtain ⟨n7, hn7⟩ : ∃ x, x = q + k := ⟨_, rfl⟩
                            rw [← hn7] at hhbb2 hV hcc2 ⊢
                            have Hn7 : Hid (n7 = (List.replicate n7 m6).length) := Lib.hid (by rw [List.length_replicate])
                            have hn73 : n7 ≤ 303 := by omega
                            obtain ⟨A17, hA1⟩ : ∃ x, x = AA := ⟨_, rfl⟩
                            obtain ⟨c17, hc1⟩ : ∃ x, x = cc := ⟨_, rfl⟩
                            rw [← hA1, ← hc1] at hhbb2 hV ⊢
                            have hbb := hhbb2
                            clear hhbb2 hn7 hA1 hc1 hV' hcc2 hcc3
                            replace ha := ha.kept_ hG (fun j e1 e2 => by
                              have h1 := hblt j e2
                              have h2 := hbbw j e2
                              rcases hV6 with e | e
                              · rw [e] at e1
                                have := halt j e1
                                omega
                              · have := e j e1
                                omega)
                            replace hcc := hcc.kept_ hG (fun j e1 e2 => by have := hclt j e1; have := hbbz j e2; omega)
                            replace h5 := h5.grown hG (fun e => by have := hblt _ e.symm; omega)
                            replace hown := hown.kept_ hG (fun j e1 e2 => by have := hblt _ e2; have : g = j := by simpa [Value.ownBlock] using e1
                                                                             omega)
                            replace hB := below_own hB hG (fun j e => by have := hblt _ e; omega)
                            clear hG hV
                            go_upto_region 49 with (fail)
                            refine wp_region_text 13 [eqS (.slice A16 n6 c16), eqS (.bool true), eqS (.bool true), eqS (.slice A17 n7 c17), eqS (.bool true), eqS (.bool true), eqS (.bool true), eqS (.slice A11 q2 c11), eqS (.agg (nfaC s (some ⟨g, 0, none⟩) n cap B m d)), setsS (setsL E2), eqS (.bool true), eqS (.bool true), eqS (.bool true)] [159, 160, 161, 162, 163, 164, 165, 166, 167, 168, 169, 170, 2] (by kernel_rfl) rfl ?_ ?_
                            · refine Steps.cons (fun a' w' hG hB dep => gs_move (want_none rfl) _ rfl (hG.other 6 rfl)) ?_
                              refine Steps.cons (fun a' w' hG hB dep => gs_bears (want_none rfl) _ _ _ rfl _ _ _ _ _ _ (dep 0 rfl 159 rfl) rfl (Lib.hid m5_eq) (fun y hy => List.eq_of_mem_replicate hy) Hn6.out (by unfold maxLen; omega) ((ha.then_ hB).slice_all setC_size) (fun _ => rfl)) ?_
                              refine Steps.cons (fun a' w' hG hB dep => gs_move (want_none rfl) _ rfl (dep 1 rfl 160 rfl)) ?_
                              refine Steps.cons (fun a' w' hG hB dep => gs_move (want_yes rfl rfl (dep 2 rfl 161 rfl)) _ rfl (hG.other 7 rfl)) ?_
                              refine Steps.cons (fun a' w' hG hB dep => gs_bears (want_yes rfl rfl (dep 2 rfl 161 rfl)) _ _ _ rfl _ _ _ _ _ _ (dep 3 rfl 162 rfl) rfl (Lib.hid m6_eq) (fun y hy => List.eq_of_mem_replicate hy) Hn7.out (by unfold maxLen; omega) ((hbb.then_ hB).slice_all setC_size) (fun _ => rfl)) ?_
                              refine Steps.cons (fun a' w' hG hB dep => gs_pick (want_none rfl) _ _ _ rfl true (dep 2 rfl 161 rfl) (dep 4 rfl 163 rfl)) ?_
                              refine Steps.cons (fun a' w' hG hB dep => gs_move (want_none rfl) _ rfl (dep 5 rfl 164 rfl)) ?_
                              refine Steps.cons (fun a' w' hG hB dep => gs_move (want_yes rfl rfl (dep 6 rfl 165 rfl)) _ rfl (hG.other 11 rfl)) ?_
                              refine Steps.cons (fun a' w' hG hB dep => gs_load_nfa (want_yes rfl rfl (dep 6 rfl 165 rfl)) _ rfl _ (hG.other 5 rfl) _ _ _ _ _ _ _ (blk_then h5 hB) rfl) ?_
                              refine Steps.cons (fun a' w' hG hB dep => gs_rsets (want_yes rfl rfl (dep 6 rfl 165 rfl)) _ _ rfl _ _ _ _ _ _ _ _ (dep 8 rfl 167 rfl) HnE.out (by omega) (((hown.then_ hB).slice edgC_size n) |> fun h => by rw [HE2.out] at h; exact h) (fun _ _ h => h)) ?_
                              refine Steps.cons (fun a' w' hG hB dep => gs_same_sets (want_yes rfl rfl (dep 6 rfl 165 rfl)) _ _ _ rfl _ _ _ _ _ (dep 7 rfl 166 rfl) Hq2.out hq2m ((hcc.then_ hB).slice_all setC_size) (dep 9 rfl 168 rfl) hL2m HL2.out (fun _ => rfl)) ?_
                              refine Steps.cons (fun a' w' hG hB dep => gs_pick (want_none rfl) _ _ _ rfl true (dep 6 rfl 165 rfl) (dep 10 rfl 169 rfl)) ?_
                              refine Steps.cons (fun a' w' hG hB dep => gs_assign (want_none rfl) _ rfl (dep 11 rfl 170 rfl)) ?_
                              exact Steps.nil
                            intro u w20 hB20 ans
                            have ux : u 2 = .bool true := ans 12 2 (by decide) rfl
                            clear ans
                            refine wpList_nil ?_
                            simp only [putAll, List.foldl_cons, List.foldl_nil, Act.put, List.setIfInBounds_toArray, List.set_cons_zero, List.set_cons_succ, ux]
                            clear ux

                            go_wp2
                            go_ret
                            exact ⟨rfl, below_then hB hB20⟩

end Go.Proofs.Ytjpiebapemalfaa
