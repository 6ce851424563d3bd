/- heronref11.goes: where a state of a table that fits goes by a byte. No condition beyond those named in each lemma. -/
import Derived.Test.YtgahdookojbbiaaTab
namespace Go.Proofs.Ytgahdookojbbiaa
open Go.RowKit Go.Maps
set_option linter.unusedVariables false
set_option linter.unusedSimpArgs false
attribute [local go_sem] Oper.semAt_some

theorem getD_at {α : Type} (l : List α) (d : α) {i : Nat} (h : i < l.length) : l.getD i d = l[i] := by simp [h]
theorem nxt_at {x : TV} {s : Nat} {c : Nat} (hs : s < x.rs.length) (hc : c < x.rs[s].l.length) : x.T.nxt s (c : Nat) = x.rs[s].l[c] := by
  have hs2 : s < (x.rs.map (·.l)).length := by simpa using hs
  show (((x.rs.map (·.l)).getD s []).getD ((c : Nat) : Int).toNat 0) = _
  rw [getD_at _ _ hs2]
  simp only [List.getElem_map, Int.toNat_natCast]
  rw [getD_at _ _ hc]
theorem fits_row {x : TV} (hF : Fits x.T) {s : Nat} (hs : s < x.rs.length) : x.rs[s].l.length = x.T.many := by
  have := hF.row s (by show s < (x.rs.map (·.l)).length; simpa using hs)
  have hs2 : s < (x.rs.map (·.l)).length := by simpa using hs
  have e : (x.T.nx.getD s []) = x.rs[s].l := by
    show (x.rs.map (·.l)).getD s [] = _
    rw [getD_at _ _ hs2, List.getElem_map]
  rw [e] at this
  exact this
theorem fits_n {x : TV} : x.T.nx.length = x.rs.length := List.length_map _
theorem fits_au {x : TV} : x.T.au.n = x.rs.length := List.length_map _
/-- what lies in the row is where the state goes -/
theorem fits_go {x : TV} (hF : Fits x.T) {s b : Nat} (hs : s < x.rs.length) (hb : b < 256) : ∃ c : Nat, x.f b = (c : Int) ∧ c < x.T.many ∧ ∃ hc : c < x.rs[s].l.length, x.rs[s].l[c] = ((x.T.au.go s b : Nat) : Int) := by
  obtain ⟨h0, h1⟩ := hF.cl b hb
  obtain ⟨c, hc⟩ := Int.eq_ofNat_of_zero_le h0
  have hcf : x.f b = (c : Int) := hc
  have hcm : c < x.T.many := by omega
  have hcr : c < x.rs[s].l.length := by rw [fits_row hF hs]; exact hcm
  refine ⟨c, hcf, hcm, hcr, ?_⟩
  have h3 := (hF.tr s c (by rw [fits_n]; exact hs) hcm).1
  rw [nxt_at hs hcr] at h3
  show _ = (((x.T.nxt s (x.T.cls b)).toNat : Nat) : Int)
  rw [show x.T.cls b = ((c : Nat) : Int) from hc, nxt_at hs hcr, Int.toNat_of_nonneg h3]
set_option maxRecDepth 100000 in
set_option maxHeartbeats 4000000 in
theorem goes_any (x : TV) (hF : Fits x.T) (s b : Nat) (hs : s < x.rs.length) (hb : b < 256) (w : World) (hT : TabIn w w.heap.size x) :
    Calls Try.prog 48 #[.agg x.C', .int .i64 (s : Nat), .int .i64 (b : Nat)] w fun e w' => e = .returned (.int .i64 ((x.T.au.go s b : Nat) : Int)) ∧ Below w.heap.size w w' := by
  obtain ⟨c, hcf, hcm, hcl, hgo⟩ := fits_go hF hs hb
  obtain ⟨bN, oN, hA, hbN, cN⟩ := hT.rowAt hs
  have hrow := hT.row _ (List.getElem_mem hs)
  obtain ⟨r, hr⟩ : ∃ r, r = x.rs[s] := ⟨_, rfl⟩
  rw [← hr] at cN hrow
  simp only [← hr] at hcl hgo
  obtain ⟨z, hz⟩ : ∃ z : Int, z = ((x.T.au.go s b : Nat) : Int) := ⟨_, rfl⟩
  rw [← hz] at hgo ⊢
  obtain ⟨bR, oR, hRa, hbR, cR⟩ := slice_cell hrow hcl (v := .int .i64 z) (by rw [← hgo]; rfl)
  rw [hRa] at cN
  unfold TV.C'
  rw [hA]
  clear hr hz hgo hF hT hrow hRa hA hcm
  go_enter Try.func48, Try.ntmps48
  obtain ⟨cs, hcs⟩ : ∃ cs, cs = dfaC x.f (some ⟨bN, oN, none⟩) x.rs.length x.c x.B x.fo.length x.d x.C x.en.length x.e := ⟨_, rfl⟩
  have h1 := Blk.new w 47 (dfaC x.f (some ⟨bN, oN, none⟩) x.rs.length x.c x.B x.fo.length x.d x.C x.en.length x.e)
  have hB1 := below_alloc (Below.refl w.heap.size w) (.cells (dfaC x.f (some ⟨bN, oN, none⟩) x.rs.length x.c x.B x.fo.length x.d x.C x.en.length x.e) 47)
  clear hcs cs
  go_upto_region 1 with (fail)
  obtain ⟨w1, hw1⟩ : ∃ y, y = w.alloc (.cells (dfaC x.f (some ⟨bN, oN, none⟩) x.rs.length x.c x.B x.fo.length x.d x.C x.en.length x.e) 47) := ⟨_, rfl⟩
  rw [← hw1] at h1 hB1 ⊢
  clear hw1
  have c1 : ∀ {X : World}, Below w1.heap.size w1 X → X.cell? ⟨bN, oN + s * 1, none⟩ = some (.slice (some ⟨bR, oR, none⟩) r.l.length r.c) := fun hb => cell_keep cN hbN (below_then hB1 hb)
  have c2 : ∀ {X : World}, Below w1.heap.size w1 X → X.cell? ⟨bR, oR + c * 1, none⟩ = some (.int .i64 z) := fun hb => cell_keep cR hbR (below_then hB1 hb)
  have c0 : ∀ {X : World}, Below w1.heap.size w1 X → X.cell? ⟨w.heap.size, 0 + b * 1, none⟩ = some (.int .i64 ((c : Nat) : Int)) := fun hB => by
    have := blk_cls (blk_then h1 hB) hb
    rw [hcf] at this
    exact this
  clear cN cR
  refine wp_region_steps 12 [eqS (.pointer (some ⟨w.heap.size, 256, none⟩)), eqS (.slice (some ⟨bN, oN, none⟩) x.rs.length x.c), eqS (.int .i64 (((s : Nat) : Int))), eqS (.pointer (some ⟨bN, oN + s * 1, none⟩)), eqS (.slice (some ⟨bR, oR, none⟩) r.l.length r.c), eqS (.int .i64 (((b : Nat) : Int))), eqS (.pointer (some ⟨w.heap.size, 0, none⟩)), eqS (.pointer (some ⟨w.heap.size, 0 + b * 1, none⟩)), eqS (.int .i64 (((c : Nat) : Int))), eqS (.pointer (some ⟨bR, oR + c * 1, none⟩)), eqS (.int .i64 (z)), eqS (.int .i64 (z))] [7, 8, 9, 10, 11, 12, 13, 14, 15, 16, 17, 6] rfl (by kernel_rfl) rfl ?_ ?_
  · skip
    refine Steps.cons (fun a' w' hG hB dep => gs_field (want_none rfl) _ _ _ rfl w.heap.size (0) (256) (hG.other 3 rfl) (fun wz => field_dfa_1 w.heap.size (0) wz) rfl) ?_
    refine Steps.cons (fun a' w' hG hB dep => gs_load1 (want_none rfl) _ _ rfl w.heap.size (256) (dep 0 rfl 7 rfl) (.slice (some ⟨bN, oN, none⟩) x.rs.length x.c) (blk_d1 (blk_then h1 hB)) _ Try.underlying45 rfl rfl) ?_
    refine Steps.cons (fun a' w' hG hB dep => gs_move (want_none rfl) _ rfl (id (hG.other 1 rfl))) ?_
    refine Steps.cons (fun a' w' hG hB dep => gs_index (want_none rfl) _ _ _ rfl under_rows 1 size_rowE bN oN x.rs.length x.c (s) (dep 1 rfl 8 rfl) (dep 2 rfl 9 rfl) hs rfl) ?_
    refine Steps.cons (fun a' w' hG hB dep => gs_load1 (want_none rfl) _ _ rfl bN (oN + s * 1) (dep 3 rfl 10 rfl) (.slice (some ⟨bR, oR, none⟩) r.l.length r.c) (c1 hB) _ Try.underlying57 rfl rfl) ?_
    refine Steps.cons (fun a' w' hG hB dep => gs_move (want_none rfl) _ rfl (id (hG.other 2 rfl))) ?_
    refine Steps.cons (fun a' w' hG hB dep => gs_field (want_none rfl) _ _ _ rfl w.heap.size (0) (0) (hG.other 3 rfl) (fun wz => field_dfa_0 w.heap.size (0) wz) rfl) ?_
    refine Steps.cons (fun a' w' hG hB dep => gs_index_arr (want_none rfl) _ _ _ rfl w.heap.size (0) b (dep 6 rfl 13 rfl) (dep 5 rfl 12 rfl) (fun wz => index_cls _ _ _ hb wz) rfl) ?_
    refine Steps.cons (fun a' w' hG hB dep => gs_load1 (want_none rfl) _ _ rfl w.heap.size (0 + b * 1) (dep 7 rfl 14 rfl) (.int .i64 (((c : Nat) : Int))) (c0 hB) _ Try.underlying3 rfl rfl) ?_
    refine Steps.cons (fun a' w' hG hB dep => gs_index (want_none rfl) _ _ _ rfl under_ints 1 size_intE bR oR r.l.length r.c (c) (dep 4 rfl 11 rfl) (dep 8 rfl 15 rfl) hcl rfl) ?_
    refine Steps.cons (fun a' w' hG hB dep => gs_load1 (want_none rfl) _ _ rfl bR (oR + c * 1) (dep 9 rfl 16 rfl) (.int .i64 (z)) (c2 hB) _ Try.underlying3 rfl rfl) ?_
    refine Steps.cons (fun a' w' hG hB dep => gs_assign (want_none rfl) _ rfl (id (dep 10 rfl 17 rfl))) ?_
    exact Steps.nil
  intro u w2 hB2 ans
  have hus : u 6 = .int .i64 z := ans 11 6 (by decide) rfl
  clear ans
  simp only [putAll, List.foldl_cons, List.foldl_nil, Act.put, List.setIfInBounds_toArray, List.set_cons_zero, List.set_cons_succ, hus]
  clear hus
  simp only [List.drop]
  refine wpList_nil ?_
  have hBe := below_then hB1 hB2
  clear c0 c1 c2
  go_wp2_with (fail)
  go_ret
  exact ⟨rfl, hBe⟩
end Go.Proofs.Ytgahdookojbbiaa
