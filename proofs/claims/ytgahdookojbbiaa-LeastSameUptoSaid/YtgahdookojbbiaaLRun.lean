/- subset.Run of a table that fits: what the line ends in. No condition beyond those named in each lemma. -/
import Derived.Test.YtgahdookojbbiaaLTellR
import Derived.Test.YtgahdookojbbiaaLRight2
import Derived.Test.YtgahdookojbbiaaLUsed
import Derived.Test.YtgahdookojbbiaaLKinds
namespace Go.Proofs.Ytgahdookojbbiaa
open Go.RowKit Go.Maps
set_option linter.unusedVariables false
set_option linter.unusedSimpArgs false
attribute [local go_sem] Oper.semAt_some

/-- the bytes of a text -/
def bytesN (q : ByteArray) : List Nat := (List.range q.size).map (chr q)
/-- what the table tells of a line -/
def endOf (x : TV) (q : ByteArray) : Nat := x.en.getD (x.T.au.run 0 (bytesN q)) 0
set_option maxRecDepth 100000 in
set_option maxHeartbeats 4000000 in
theorem run_any (x : TV) (hF : Fits x.T) (q : ByteArray) (hq : q.size ≤ 1099511627776) (w : World) (hT : TabIn w w.heap.size x) :
    Calls Try.prog 34 #[.agg x.C', .string q] w fun e w' => e = .returned (.tuple #[.int .u32 ((endOf x q : Nat) : Int), .int .i64 0]) ∧ Below w.heap.size w w' := by
  have hR1 : ∀ W' : World, Below w.heap.size w W' → Calls Try.prog 28 #[.agg x.C'] W' fun e w2 => e = .returned (.bool true) ∧ Below W'.heap.size W' w2 := fun W' hB => by
    have := right_any x W' (hT.then_ hB)
    rwa [fitsB_yes hF] at this
  have nx1 : 1 ≤ x.rs.length := by have := hF.n1; rwa [fits_n] at this
  have eex : x.en.length = x.rs.length := by have := hF.ne; rwa [fits_n] at this
  have hAn : x.T.au.n = x.rs.length := fits_au
  obtain ⟨bE, oE, hEx, cex⟩ := en_cells hT (by omega)
  replace hAn := Lib.hid hAn
  replace hEx := Lib.hid hEx
  replace eex := Lib.hid eex
  unfold TV.C' at hR1 ⊢
  go_enter Try.func34, Try.ntmps34
  have hd := Blk.new w 47 (dfaC x.f x.A x.rs.length x.c x.B x.fo.length x.d x.C x.en.length x.e)
  have hB1 := below_alloc (Below.refl w.heap.size w) (.cells (dfaC x.f x.A x.rs.length x.c x.B x.fo.length x.d x.C x.en.length x.e) 47)
  go_upto_region 1 with (fail)
  obtain ⟨w1, hw1⟩ : ∃ y, y = w.alloc (.cells (dfaC x.f x.A x.rs.length x.c x.B x.fo.length x.d x.C x.en.length x.e) 47) := ⟨_, rfl⟩
  rw [← hw1] at hd hB1 ⊢
  clear hw1
  obtain ⟨gd, hgd⟩ : ∃ g, g = w.heap.size := ⟨_, rfl⟩
  rw [← hgd] at hd ⊢
  clear hgd
  have hc := hR1 w1 hB1
  clear hR1
  go_upto_region 3 with (first | (refine wl_load_dfa rfl _ rfl gd rfl hd ?_) | (go_at_call 28; refine hc.mono ?_; rintro e w2 ⟨rfl, hB2⟩))
  clear hc
  replace hd := blk_then hd hB2
  replace hB1 := below_then hB1 hB2
  clear hB2
  go_wp2_with (fail)
  go_loopw [13, 6] (fun iv sv wr => ∃ i s : Nat, i ≤ q.size ∧ iv = .int .i64 i ∧ sv = .int .i64 s ∧ s < x.rs.length ∧ x.T.au.run 0 ((List.range i).map (chr q)) = s ∧ Below w.heap.size w wr ∧ Blk wr gd 47 (dfaC x.f x.A x.rs.length x.c x.B x.fo.length x.d x.C x.en.length x.e)) (fun iv _ _ => q.size - (intOf iv).toNat)
  case atStart => exact ⟨0, 0, by omega, rfl, rfl, by omega, rfl, hB1, hd⟩
  case round =>
    clear hB1 hd
    obtain ⟨i, s, hi, rfl, rfl, hs, hrun, hB1, hd⟩ := hrel
    replace hrun := Lib.hid hrun
    by_cases hil : i < q.size
    · have hilI : (i : Int) < q.size := by omega
      go_upto_region 7 with (fail)
      obtain ⟨bN, oN, bR, oR, m, nr, cr, hAx, hfm, hmn, _, _, cN, cR⟩ := nx_cells hF hT hs (chr_lt q i)
      obtain ⟨u, hu⟩ : ∃ u, x.T.au.go s (chr q i) = u := ⟨_, rfl⟩
      rw [hu] at cR
      have hu2 : u < x.rs.length := by rw [← hu, ← hAn.out]; exact hF.ok.lt _ _ (by rw [hAn.out]; exact hs) (chr_lt q i)
      have hrun2 : x.T.au.run 0 ((List.range (i + 1)).map (chr q)) = u := by
        rw [List.range_succ]
        simp only [List.map_append, List.map_cons, List.map_nil]
        rw [run_snoc, hrun.out, hu]
      replace hrun2 := Lib.hid hrun2
      clear hu hrun
      refine wp_region_steps 13 [eqS (.pointer (some ⟨gd, 256, none⟩)), eqS (.slice (some ⟨bN, oN, none⟩) x.rs.length x.c), eqS (.int .i64 (((s : Nat) : Int))), eqS (.pointer (some ⟨bN, oN + s * 1, none⟩)), eqS (.slice (some ⟨bR, oR, none⟩) nr cr), eqS (.string q), eqS (.int .i64 (((i : Nat) : Int))), eqS (.int .u8 (((chr q i : Nat) : Int))), eqS (.pointer (some ⟨gd, 0, none⟩)), eqS (.pointer (some ⟨gd, 0 + (chr q i) * 1, none⟩)), eqS (.int .i64 (((m : Nat) : Int))), eqS (.pointer (some ⟨bR, oR + m * 1, none⟩)), eqS (.int .i64 (((u : Nat) : Int)))] [16, 17, 18, 19, 20, 21, 22, 23, 24, 25, 26, 27, 28] rfl (by kernel_rfl) rfl ?_ ?_
      · skip
        refine Steps.cons (fun a' w' hG hB dep => gs_field (want_none rfl) _ _ _ rfl gd (0) (256) (hG.other 2 rfl) (fun wz => field_dfa_1 gd (0) wz) rfl) ?_
        refine Steps.cons (fun a' w' hG hB dep => gs_load1 (want_none rfl) _ _ rfl gd (256) (dep 0 rfl 16 rfl) (.slice (some ⟨bN, oN, none⟩) x.rs.length x.c) (by have h9 := blk_d1 (blk_then hd hB); rw [hAx] at h9; exact h9) _ Try.underlying45 rfl rfl) ?_
        refine Steps.cons (fun a' w' hG hB dep => gs_move (want_none rfl) _ rfl (id (hG.other 6 rfl))) ?_
        refine Steps.cons (fun a' w' hG hB dep => gs_index (want_none rfl) _ _ _ rfl under_rows 1 size_rowE bN oN x.rs.length x.c (s) (dep 1 rfl 17 rfl) (dep 2 rfl 18 rfl) hs rfl) ?_
        refine Steps.cons (fun a' w' hG hB dep => gs_load1 (want_none rfl) _ _ rfl bN (oN + s * 1) (dep 3 rfl 19 rfl) (.slice (some ⟨bR, oR, none⟩) nr cr) (cN (below_then hB1 hB)) _ Try.underlying57 rfl rfl) ?_
        refine Steps.cons (fun a' w' hG hB dep => gs_move (want_none rfl) _ rfl (id (hG.other 1 rfl))) ?_
        refine Steps.cons (fun a' w' hG hB dep => gs_move (want_none rfl) _ rfl (id (hG.other 7 rfl))) ?_
        refine Steps.cons (fun a' w' hG hB dep => gs_index_str (want_none rfl) _ _ rfl q i (dep 5 rfl 21 rfl) (dep 6 rfl 22 rfl) hil rfl) ?_
        refine Steps.cons (fun a' w' hG hB dep => gs_field (want_none rfl) _ _ _ rfl gd (0) (0) (hG.other 2 rfl) (fun wz => field_dfa_0 gd (0) wz) rfl) ?_
        refine Steps.cons (fun a' w' hG hB dep => gs_index_arr8 (want_none rfl) _ _ rfl gd (chr q i) (dep 8 rfl 24 rfl) (dep 7 rfl 23 rfl) (chr_lt q i) rfl) ?_
        refine Steps.cons (fun a' w' hG hB dep => gs_load1 (want_none rfl) _ _ rfl gd (0 + (chr q i) * 1) (dep 9 rfl 25 rfl) (.int .i64 (((m : Nat) : Int))) (by have h9 := blk_cls (blk_then hd hB) (chr_lt q i); rw [hfm] at h9; exact h9) _ Try.underlying3 rfl rfl) ?_
        refine Steps.cons (fun a' w' hG hB dep => gs_index (want_none rfl) _ _ _ rfl under_ints 1 size_intE bR oR nr cr (m) (dep 4 rfl 20 rfl) (dep 10 rfl 26 rfl) hmn rfl) ?_
        refine Steps.cons (fun a' w' hG hB dep => gs_load1 (want_none rfl) _ _ rfl bR (oR + m * 1) (dep 11 rfl 27 rfl) (.int .i64 (((u : Nat) : Int))) (cR (below_then hB1 hB)) _ Try.underlying3 rfl rfl) ?_
        exact Steps.nil
      intro uu wa hwa ans
      have hus28 : uu 28 = (.int .i64 ((u : Nat) : Int)) := ans 12 28 (by decide) rfl
      clear ans
      simp only [putAll, List.foldl_cons, List.foldl_nil, Act.put, List.setIfInBounds_toArray, List.set_cons_zero, List.set_cons_succ, hus28]
      clear hus28
      simp only [List.drop]
      replace hd := blk_then hd hwa
      replace hB1 := below_then hB1 hwa
      clear hwa cN cR hAx hfm hmn
      go_wp2_with (fail)
      exact ⟨⟨i + 1, u, by omega, rfl, rfl, hu2, hrun2.out, hB1, hd⟩, by simp only [intOf]; omega⟩
    · have hilI : ¬ (i : Int) < q.size := by omega
      have hie : i = q.size := by omega
      have hrr : x.T.au.run 0 (bytesN q) = s := by rw [← hrun.out, hie]; rfl
      have hse : s < x.en.length := by rw [eex.out]; exact hs
      have cE : wr.cell? ⟨gd, 258, none⟩ = some (.slice (some ⟨bE, oE, none⟩) x.en.length x.e) := by rw [← hEx.out]; exact blk_d3 hd
      have cV := cex hB1 s hse
      rw [Nat.mul_one] at cV
      have hseI : (s : Int) < x.en.length := by omega
      obtain ⟨v, hv⟩ : ∃ v, x.en.getD s 0 = v := ⟨_, rfl⟩
      rw [hv] at cV
      have hev : endOf x q = v := by unfold endOf; rw [hrr, hv]
      replace hev := Lib.hid hev
      clear hv hrr
      clear hrun hie
      go_wp2_with (fail)
      go_ret2
      refine ⟨?_, hB1⟩
      rw [hev.out]
      rfl
theorem enter_run (args : Array Value) (w : World) : (callFunc 34 args).run Try.prog w = .ok (.enter 34 args) w := by kernel_rfl
end Go.Proofs.Ytgahdookojbbiaa
