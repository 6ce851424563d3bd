/- least.alike: each state that is met gets a mark, alike ones the same. No condition beyond those named in each lemma. -/
import Derived.Test.YtgahdookojbbiaaLMark
namespace Go.Proofs.Ytgahdookojbbiaa
open Go.RowKit Go.Maps
set_option linter.unusedVariables false
set_option linter.unusedSimpArgs false
attribute [local go_sem] Oper.semAt_some

theorem cell_lt {w : World} {g i : Nat} {v : Value} (h : w.cell? ⟨g, i, none⟩ = some v) : g < w.heap.size := by
  rcases Nat.lt_or_ge g w.heap.size with h1 | h1
  · exact h1
  · unfold World.cell? at h
    simp [Array.getElem?_eq_none h1] at h
theorem cell_keep2 {w w' : World} {g i : Nat} {v : Value} (h : w.cell? ⟨g, i, none⟩ = some v) (hB : Below w.heap.size w w') : w'.cell? ⟨g, i, none⟩ = some v := cell_keep h (cell_lt h) hB
theorem fo32 {x : TV} {w : World} {N s : Nat} (hT : TabIn w N x) (h : s < x.fo.length) : x.fo.getD s 0 < 4294967296 := by rw [getD_at _ _ h]; exact hT.f32 _ (List.getElem_mem h)
theorem en32 {x : TV} {w : World} {N s : Nat} (hT : TabIn w N x) (h : s < x.en.length) : x.en.getD s 0 < 4294967296 := by rw [getD_at _ _ h]; exact hT.e32 _ (List.getElem_mem h)
set_option maxRecDepth 100000 in
set_option maxHeartbeats 4000000 in
theorem alike1_any (x : TV) (s gd : Nat) (hs : s < x.fo.length) (W w : World) (hT : TabIn W W.heap.size x) (hB1 : Below W.heap.size W w) (h1 : Blk w gd 47 (dfaC x.f x.A x.rs.length x.c x.B x.fo.length x.d x.C x.en.length x.e)) :
    Calls Try.prog 68 #[.int .i64 (s : Nat), .pointer (some ⟨gd, 0, none⟩)] w fun e w' => e = .returned (.int .i64 ((x.fo.getD s 0 : Nat) : Int)) ∧ Below w.heap.size w w' := by
  obtain ⟨bF, oF, hFo, cfo⟩ := fo_cells hT (by omega)
  have c2 := cfo hB1 s hs
  rw [Nat.mul_one] at c2
  have c1 : w.cell? ⟨gd, 257, none⟩ = some (.slice (some ⟨bF, oF, none⟩) x.fo.length x.d) := by rw [← hFo]; exact blk_d2 h1
  have hsI : (s : Int) < x.fo.length := by omega
  have hy := fo32 hT hs
  obtain ⟨y, hye⟩ : ∃ y, x.fo.getD s 0 = y := ⟨_, rfl⟩
  rw [hye] at c2 hy ⊢
  clear hFo cfo hye
  go_enter Try.func68, Try.ntmps68
  go_wp2_with (fail)
  go_ret
  exact ⟨rfl, Below.refl _ _⟩
theorem enter_alike1 (args : Array Value) (w : World) : (callFunc 68 args).run Try.prog w = .ok (.enter 68 args) w := by kernel_rfl
set_option maxRecDepth 100000 in
set_option maxHeartbeats 4000000 in
theorem alike2_any (x : TV) (s gd : Nat) (hs : s < x.en.length) (W w : World) (hT : TabIn W W.heap.size x) (hB1 : Below W.heap.size W w) (h1 : Blk w gd 47 (dfaC x.f x.A x.rs.length x.c x.B x.fo.length x.d x.C x.en.length x.e)) :
    Calls Try.prog 69 #[.int .i64 (s : Nat), .pointer (some ⟨gd, 0, none⟩)] w fun e w' => e = .returned (.int .i64 ((x.en.getD s 0 : Nat) : Int)) ∧ Below w.heap.size w w' := by
  obtain ⟨bF, oF, hFo, cfo⟩ := en_cells hT (by omega)
  have c2 := cfo hB1 s hs
  rw [Nat.mul_one] at c2
  have c1 : w.cell? ⟨gd, 258, none⟩ = some (.slice (some ⟨bF, oF, none⟩) x.en.length x.e) := by rw [← hFo]; exact blk_d3 h1
  have hsI : (s : Int) < x.en.length := by omega
  have hy := en32 hT hs
  obtain ⟨y, hye⟩ : ∃ y, x.en.getD s 0 = y := ⟨_, rfl⟩
  rw [hye] at c2 hy ⊢
  clear hFo cfo hye
  go_enter Try.func69, Try.ntmps69
  go_wp2_with (fail)
  go_ret
  exact ⟨rfl, Below.refl _ _⟩
theorem enter_alike2 (args : Array Value) (w : World) : (callFunc 69 args).run Try.prog w = .ok (.enter 69 args) w := by kernel_rfl
set_option maxRecDepth 100000 in
set_option maxHeartbeats 4000000 in
theorem alike3_any (x : TV) (hF : Fits x.T) (K : Nat → Int) (s b gd gw gx gv cv : Nat) (hsl : s < x.rs.length) (hb : b < 256) (W w : World) (hT : TabIn W W.heap.size x) (hB1 : Below W.heap.size W w) (h1 : Blk w gd 47 (dfaC x.f x.A x.rs.length x.c x.B x.fo.length x.d x.C x.en.length x.e))
    (cw : w.cell? ⟨gw, 0, none⟩ = some (.slice (some ⟨gv, 0, none⟩) x.rs.length cv)) (cvv : ∀ t, t < x.rs.length → w.cell? ⟨gv, t, none⟩ = some (.int .i64 (K t))) (cx : w.cell? ⟨gx, 0, none⟩ = some (.int .i64 (x.f b))) :
    Calls Try.prog 70 #[.int .i64 (s : Nat), .pointer (some ⟨gw, 0, none⟩), .pointer (some ⟨gd, 0, none⟩), .pointer (some ⟨gx, 0, none⟩)] w fun e w' => e = .returned (.int .i64 (K (x.T.au.go s b))) ∧ Below w.heap.size w w' := by
  have hok := hF.ok
  have hAn : x.T.au.n = x.rs.length := fits_n
  obtain ⟨bN, oN, bR, oR, m, nr, cr, hA, hfm, hmr, hm256, hnr, cN, cR⟩ := nx_cells hF hT hsl hb
  obtain ⟨t, ht⟩ : ∃ t, x.T.au.go s b = t := ⟨_, rfl⟩
  have htl : t < x.rs.length := by rw [← ht, ← hAn]; exact hok.lt s b (by rw [hAn]; exact hsl) hb
  rw [ht] at cR ⊢
  have cv' := cvv t htl
  obtain ⟨z, hz⟩ : ∃ z, K t = z := ⟨_, rfl⟩
  rw [hz] at cv' ⊢
  rw [hfm] at cx
  clear cvv hz ht
  go_enter Try.func70, Try.ntmps70
  go_upto_region 1 with (fail)
  refine wp_region_steps 12 [eqS (.slice (some ⟨gv, 0, none⟩) x.rs.length cv), eqS (.pointer (some ⟨gd, 256, none⟩)), eqS (.slice (some ⟨bN, oN, none⟩) x.rs.length x.c), eqS (.int .i64 (((s : Nat) : Int))), eqS (.pointer (some ⟨bN, oN + s * 1, none⟩)), eqS (.slice (some ⟨bR, oR, none⟩) nr cr), eqS (.int .i64 (((m : Nat) : Int))), eqS (.pointer (some ⟨bR, oR + m * 1, none⟩)), eqS (.int .i64 (((t : Nat) : Int))), eqS (.pointer (some ⟨gv, 0 + t * 1, none⟩)), eqS (.int .i64 (z)), eqS (.int .i64 (z))] [6, 7, 8, 9, 10, 11, 12, 13, 14, 15, 16, 5] rfl (by kernel_rfl) rfl ?_ ?_
  · skip
    refine Steps.cons (fun a' w' hG hB dep => gs_load1 (want_none rfl) _ _ rfl gw (0) (hG.other 1 rfl) (.slice (some ⟨gv, 0, none⟩) x.rs.length cv) (cell_keep2 cw hB) _ Try.underlying57 rfl rfl) ?_
    refine Steps.cons (fun a' w' hG hB dep => gs_field (want_none rfl) _ _ _ rfl gd (0) (256) (hG.other 2 rfl) (fun wz => field_dfa_1 gd (0) wz) rfl) ?_
    refine Steps.cons (fun a' w' hG hB dep => gs_load1 (want_none rfl) _ _ rfl gd (256) (dep 1 rfl 7 rfl) (.slice (some ⟨bN, oN, none⟩) x.rs.length x.c) (by have h9 := blk_d1 (blk_then h1 hB); rw [hA] at h9; exact h9) _ Try.underlying45 rfl rfl) ?_
    refine Steps.cons (fun a' w' hG hB dep => gs_move (want_none rfl) _ rfl (id (hG.other 0 rfl))) ?_
    refine Steps.cons (fun a' w' hG hB dep => gs_index (want_none rfl) _ _ _ rfl under_rows 1 size_rowE bN oN x.rs.length x.c (s) (dep 2 rfl 8 rfl) (dep 3 rfl 9 rfl) hsl rfl) ?_
    refine Steps.cons (fun a' w' hG hB dep => gs_load1 (want_none rfl) _ _ rfl bN (oN + s * 1) (dep 4 rfl 10 rfl) (.slice (some ⟨bR, oR, none⟩) nr cr) (cN (below_then hB1 hB)) _ Try.underlying57 rfl rfl) ?_
    refine Steps.cons (fun a' w' hG hB dep => gs_load1 (want_none rfl) _ _ rfl gx (0) (hG.other 3 rfl) (.int .i64 (((m : Nat) : Int))) (cell_keep2 cx hB) _ Try.underlying3 rfl rfl) ?_
    refine Steps.cons (fun a' w' hG hB dep => gs_index (want_none rfl) _ _ _ rfl under_ints 1 size_intE bR oR nr cr (m) (dep 5 rfl 11 rfl) (dep 6 rfl 12 rfl) hmr rfl) ?_
    refine Steps.cons (fun a' w' hG hB dep => gs_load1 (want_none rfl) _ _ rfl bR (oR + m * 1) (dep 7 rfl 13 rfl) (.int .i64 (((t : Nat) : Int))) (cR (below_then hB1 hB)) _ Try.underlying3 rfl rfl) ?_
    refine Steps.cons (fun a' w' hG hB dep => gs_index (want_none rfl) _ _ _ rfl under_ints 1 size_intE gv 0 x.rs.length cv (t) (dep 0 rfl 6 rfl) (dep 8 rfl 14 rfl) htl rfl) ?_
    refine Steps.cons (fun a' w' hG hB dep => gs_load1 (want_none rfl) _ _ rfl gv (0 + t * 1) (dep 9 rfl 15 rfl) (.int .i64 (z)) (by rw [show 0 + t * 1 = t by omega]; exact cell_keep2 cv' hB) _ Try.underlying3 rfl rfl) ?_
    refine Steps.cons (fun a' w' hG hB dep => gs_assign (want_none rfl) _ rfl (id (dep 10 rfl 16 rfl))) ?_
    exact Steps.nil
  intro u w4 hw4 ans
  have hus5 : u 5 = (.int .i64 z) := ans 11 5 (by decide) rfl
  clear ans
  simp only [putAll, List.foldl_cons, List.foldl_nil, Act.put, List.setIfInBounds_toArray, List.set_cons_zero, List.set_cons_succ, hus5]
  clear hus5
  simp only [List.drop]
  refine wpList_nil ?_
  go_wp2_with (fail)
  go_ret
  exact ⟨rfl, hw4⟩
theorem enter_alike3 (args : Array Value) (w : World) : (callFunc 70 args).run Try.prog w = .ok (.enter 70 args) w := by kernel_rfl
set_option maxRecDepth 100000 in
set_option maxHeartbeats 4000000 in
theorem bytes1_any (x : TV) (hF : Fits x.T) (K : Nat → Int) (s b gd gw gx gv cv : Nat) (hsl : s < x.rs.length) (hb : b < 256) (W w : World) (hT : TabIn W W.heap.size x) (hB1 : Below W.heap.size W w) (h1 : Blk w gd 47 (dfaC x.f x.A x.rs.length x.c x.B x.fo.length x.d x.C x.en.length x.e))
    (cw : w.cell? ⟨gw, 0, none⟩ = some (.slice (some ⟨gv, 0, none⟩) x.rs.length cv)) (cvv : ∀ t, t < x.rs.length → w.cell? ⟨gv, t, none⟩ = some (.int .i64 (K t))) (cx : w.cell? ⟨gx, 0, none⟩ = some (.int .i64 (s : Nat))) :
    Calls Try.prog 71 #[.int .i64 (b : Nat), .pointer (some ⟨gw, 0, none⟩), .pointer (some ⟨gd, 0, none⟩), .pointer (some ⟨gx, 0, none⟩)] w fun e w' => e = .returned (.int .i64 (K (x.T.au.go s b))) ∧ Below w.heap.size w w' := by
  have hok := hF.ok
  have hAn : x.T.au.n = x.rs.length := fits_n
  obtain ⟨bN, oN, bR, oR, m, nr, cr, hA, hfm, hmr, hm256, hnr, cN, cR⟩ := nx_cells hF hT hsl hb
  obtain ⟨t, ht⟩ : ∃ t, x.T.au.go s b = t := ⟨_, rfl⟩
  have htl : t < x.rs.length := by rw [← ht, ← hAn]; exact hok.lt s b (by rw [hAn]; exact hsl) hb
  rw [ht] at cR ⊢
  have cv' := cvv t htl
  obtain ⟨z, hz⟩ : ∃ z, K t = z := ⟨_, rfl⟩
  rw [hz] at cv' ⊢
  skip
  clear cvv hz ht
  go_enter Try.func71, Try.ntmps71
  go_upto_region 1 with (fail)
  refine wp_region_steps 15 [eqS (.slice (some ⟨gv, 0, none⟩) x.rs.length cv), eqS (.pointer (some ⟨gd, 256, none⟩)), eqS (.slice (some ⟨bN, oN, none⟩) x.rs.length x.c), eqS (.int .i64 (((s : Nat) : Int))), eqS (.pointer (some ⟨bN, oN + s * 1, none⟩)), eqS (.slice (some ⟨bR, oR, none⟩) nr cr), eqS (.int .i64 (((b : Nat) : Int))), eqS (.pointer (some ⟨gd, 0, none⟩)), eqS (.pointer (some ⟨gd, 0 + b * 1, none⟩)), eqS (.int .i64 (((m : Nat) : Int))), eqS (.pointer (some ⟨bR, oR + m * 1, none⟩)), eqS (.int .i64 (((t : Nat) : Int))), eqS (.pointer (some ⟨gv, 0 + t * 1, none⟩)), eqS (.int .i64 (z)), eqS (.int .i64 (z))] [6, 7, 8, 9, 10, 11, 12, 13, 14, 15, 16, 17, 18, 19, 5] rfl (by kernel_rfl) rfl ?_ ?_
  · skip
    refine Steps.cons (fun a' w' hG hB dep => gs_load1 (want_none rfl) _ _ rfl gw (0) (hG.other 1 rfl) (.slice (some ⟨gv, 0, none⟩) x.rs.length cv) (cell_keep2 cw hB) _ Try.underlying57 rfl rfl) ?_
    refine Steps.cons (fun a' w' hG hB dep => gs_field (want_none rfl) _ _ _ rfl gd (0) (256) (hG.other 2 rfl) (fun wz => field_dfa_1 gd (0) wz) rfl) ?_
    refine Steps.cons (fun a' w' hG hB dep => gs_load1 (want_none rfl) _ _ rfl gd (256) (dep 1 rfl 7 rfl) (.slice (some ⟨bN, oN, none⟩) x.rs.length x.c) (by have h9 := blk_d1 (blk_then h1 hB); rw [hA] at h9; exact h9) _ Try.underlying45 rfl rfl) ?_
    refine Steps.cons (fun a' w' hG hB dep => gs_load1 (want_none rfl) _ _ rfl gx (0) (hG.other 3 rfl) (.int .i64 (((s : Nat) : Int))) (cell_keep2 cx hB) _ Try.underlying3 rfl rfl) ?_
    refine Steps.cons (fun a' w' hG hB dep => gs_index (want_none rfl) _ _ _ rfl under_rows 1 size_rowE bN oN x.rs.length x.c (s) (dep 2 rfl 8 rfl) (dep 3 rfl 9 rfl) hsl rfl) ?_
    refine Steps.cons (fun a' w' hG hB dep => gs_load1 (want_none rfl) _ _ rfl bN (oN + s * 1) (dep 4 rfl 10 rfl) (.slice (some ⟨bR, oR, none⟩) nr cr) (cN (below_then hB1 hB)) _ Try.underlying57 rfl rfl) ?_
    refine Steps.cons (fun a' w' hG hB dep => gs_move (want_none rfl) _ rfl (id (hG.other 0 rfl))) ?_
    refine Steps.cons (fun a' w' hG hB dep => gs_field (want_none rfl) _ _ _ rfl gd (0) (0) (hG.other 2 rfl) (fun wz => field_dfa_0 gd (0) wz) rfl) ?_
    refine Steps.cons (fun a' w' hG hB dep => gs_index_arr (want_none rfl) _ _ _ rfl gd (0) b (dep 7 rfl 13 rfl) (dep 6 rfl 12 rfl) (fun wz => index_cls _ _ _ hb wz) rfl) ?_
    refine Steps.cons (fun a' w' hG hB dep => gs_load1 (want_none rfl) _ _ rfl gd (0 + b * 1) (dep 8 rfl 14 rfl) (.int .i64 (((m : Nat) : Int))) (by have h9 := blk_cls (blk_then h1 hB) hb; rw [hfm] at h9; exact h9) _ Try.underlying3 rfl rfl) ?_
    refine Steps.cons (fun a' w' hG hB dep => gs_index (want_none rfl) _ _ _ rfl under_ints 1 size_intE bR oR nr cr (m) (dep 5 rfl 11 rfl) (dep 9 rfl 15 rfl) hmr rfl) ?_
    refine Steps.cons (fun a' w' hG hB dep => gs_load1 (want_none rfl) _ _ rfl bR (oR + m * 1) (dep 10 rfl 16 rfl) (.int .i64 (((t : Nat) : Int))) (cR (below_then hB1 hB)) _ Try.underlying3 rfl rfl) ?_
    refine Steps.cons (fun a' w' hG hB dep => gs_index (want_none rfl) _ _ _ rfl under_ints 1 size_intE gv 0 x.rs.length cv (t) (dep 0 rfl 6 rfl) (dep 11 rfl 17 rfl) htl rfl) ?_
    refine Steps.cons (fun a' w' hG hB dep => gs_load1 (want_none rfl) _ _ rfl gv (0 + t * 1) (dep 12 rfl 18 rfl) (.int .i64 (z)) (by rw [show 0 + t * 1 = t by omega]; exact cell_keep2 cv' hB) _ Try.underlying3 rfl rfl) ?_
    refine Steps.cons (fun a' w' hG hB dep => gs_assign (want_none rfl) _ rfl (id (dep 13 rfl 19 rfl))) ?_
    exact Steps.nil
  intro u w4 hw4 ans
  have hus5 : u 5 = (.int .i64 z) := ans 14 5 (by decide) rfl
  clear ans
  simp only [putAll, List.foldl_cons, List.foldl_nil, Act.put, List.setIfInBounds_toArray, List.set_cons_zero, List.set_cons_succ, hus5]
  clear hus5
  simp only [List.drop]
  refine wpList_nil ?_
  go_wp2_with (fail)
  go_ret
  exact ⟨rfl, hw4⟩
theorem enter_bytes1 (args : Array Value) (w : World) : (callFunc 71 args).run Try.prog w = .ok (.enter 71 args) w := by kernel_rfl
end Go.Proofs.Ytgahdookojbbiaa
