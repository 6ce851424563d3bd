/- sim.Begin. No condition beyond those named in each lemma. -/
import Derived.Test.YtgahdookojbbiaaDoorSimM
namespace Go.Proofs.YtgahdookojbbiaaDoor
open Go.RowKit Go.Shelf Go.Maps
set_option linter.unusedVariables false
set_option linter.unusedSimpArgs false
attribute [local go_sem] Oper.semAt_some

theorem info_nfa1 : (Tryd.prog.info? 25).map (·.size) = some 3 := by kernel_rfl
theorem wl_load_nfa {ops : Array Oper} {rest : List Oper} {o : Oper} {a : Act} {w : World} {Q : Exit → Act → World → Prop} (hgd : o.guard = none) (x : Operand) (ho : o.op = .load 25 x)
    (g : Nat) (hx : a.eval x = .pointer (some ⟨g, 0, none⟩)) (s : Int) (A : Option Addr) (n c : Nat) (B : Option Addr) (m d : Nat) (hb : Blk w g 25 (nfaC s A n c B m d))
    (h : wpList Tryd.prog ops Q rest (a.put o.dst (.agg (nfaC s A n c B m d))) w) : wpList Tryd.prog ops Q (o :: rest) a w :=
  wpList_load_row hgd _ x ho g hx _ _ _ _ hb Tryd.underlying25 rfl info_nfa1 h
/-- one edge, laid into a block of its own -/
def oneS (lo : Nat) (d : Edg) : GSpec := ⟨fun v w => ∃ g, v = .slice (some ⟨g, 0, none⟩) 1 1 ∧ lo ≤ g ∧ Blk w g 53 (edgC d), fun v w w' ⟨g, h1, h2, h3⟩ hb => ⟨g, h1, h2, blk_then h3 hb⟩⟩
/-- the row with one edge more -/
def moreS (lo k0 : Nat) (rw : Option Nat) (es : List Edg) : GSpec := ⟨fun v w => Own w lo 53 7 edgC v es ∧ (v.ownBlock = rw ∨ ∃ k, v.ownBlock = some k ∧ k0 ≤ k), fun v w w' ⟨h1, h2⟩ hb => ⟨h1.then_ hb, h2⟩⟩
theorem gs_one {ops : Array Oper} {S : Nat → GSpec} {Q : Exit → Act → World → Prop} {i : Nat} {o : Oper} {a : Act} {w : World} (hw : Region.wanted o (yielded ops a.tmps) = true) (x : Operand) (ho : o.op = .buildSlice 22 1 #[(0, x)]) {lo : Nat} (hlo : lo ≤ w.heap.size) (d : Edg) (hx : a.eval x = .agg (edgC d))
    (hp : ∀ v w', (oneS lo d).p v w' → (S i).p v w') : GStep Tryd.prog ops S Q i o a w :=
  gs_run hw (v := .slice (some ⟨w.heap.size, 0, none⟩) 1 1) (by unfold execOp; simp only [ho, List.map_toArray, List.map_cons, List.map_nil, hx, Sem.run_bind, run_edge1, Result.andThen_ok, Sem.run_pure]) (below_alloc (Below.refl _ _) _) (hp _ _ ⟨_, rfl, hlo, Blk.new _ _ _⟩)
theorem gs_more {rw : Option Nat} {i0 : Nat} {ops : Array Oper} {S : Nat → GSpec} {Q : Exit → Act → World → Prop} {o : Oper} {a : Act} {w : World} (hw : Region.wanted o (yielded ops a.tmps) = true) (x y : Operand) (ho : o.op = .call { callee := .builtin .append, args := #[x, y], argTypes := #[22, 22] })
    {lo k0 : Nat} (hlo : lo ≤ w.heap.size) (hk0 : k0 ≤ w.heap.size) (v : Value) (es : List Edg) (d : Edg) (hv : a.eval x = v) (hrw : v.ownBlock = rw) (hown : Own w lo 53 7 edgC v es) (hl : es.length ≤ 1099511627776) (lo2 : Nat) (hy : (oneS lo2 d).p (a.eval y) w)
    (hp : ∀ v w', (moreS lo k0 rw (es ++ [d])).p v w' → (S i0).p v w') : GStepR rw i0 Tryd.prog ops S Q i0 o a w := by
  obtain ⟨g, hy, _, hb⟩ := hy
  obtain ⟨i1, hi1, hz0, hz1, hz2⟩ := info_parts info_edge3
  obtain ⟨v', w', hrun, h2, h3, h4⟩ := run_append_slice (P := Tryd.prog) w lo 22 o.type 53 i1 _ 7 56 Tryd.underlying22 hi1 hz0 hz1 hz2 rfl (by decide) edgC_size edgC_one v es hown w.heap.size (some ⟨g, 0, none⟩) 1 1 [d] rfl (slice_one (enc := edgC) (size := 7) hb) (by unfold maxLen; omega) (by omega) hlo
  refine GStepR.run hw (v := v') (w' := w') ?_ (hrw ▸ h3) (hp _ _ ⟨h2, ?_⟩)
  · unfold execOp
    simp only [ho, resolve, invoke, builtin, Sem.run_bind, Sem.run_pure, Result.andThen_ok, List.map_toArray, List.map_cons, List.map_nil, hv, hy, hrun]
  · rcases h4 with h4 | h4
    · exact .inl (h4.trans hrw)
    · exact .inr ⟨_, h4, hk0⟩
theorem gs_lookup_v {ops : Array Oper} {S : Nat → GSpec} {Q : Exit → Act → World → Prop} {i : Nat} {o : Oper} {a : Act} {w : World} {b n : Nat} {mf : Int → Option Value} (hw : Region.wanted o (yielded ops a.tmps) = true) (x y : Operand) (ho : o.op = .lookup 65 x y false) (h : ValMap w b n mf) (k : Int) (hk : (Lit.int .i64 k).wf = true)
    (hx : a.eval x = .map (some b)) (hy : a.eval y = .int .i64 k) (hp : (S i).p ((mf k).getD (.slice none 0 0)) w) : GStep Tryd.prog ops S Q i o a w :=
  gs_run hw (v := (mf k).getD (.slice none 0 0)) (by unfold execOp; simp only [ho, hx, hy, Sem.run_bind, run_vmap h k hk, Result.andThen_ok, Sem.run_pure]) (Below.refl _ _) hp
set_option maxRecDepth 100000 in
set_option maxHeartbeats 4000000 in
theorem begin_any (s : Int) (A : Option Addr) (n c0 : Nat) (B : Option Addr) (m d0 : Nat) (E : List Edg) (R : List Nat) (hn : n = E.length) (hm : m = R.length) (hE : E.length ≤ 1099511627776) (hRl : R.length ≤ 1099511627776) (hR : ∀ r ∈ R, r < 4294967296) (w : World)
    (hsE : SliceOf w w.heap.size 7 edgC A E) (hsR : SliceOf w w.heap.size 1 encR B R) (hT : TabOk w) :
    Calls Tryd.prog 11 #[.agg (nfaC s A n c0 B m d0)] w fun e w' => Below w.heap.size w w' ∧
      ((rightB s E m = false ∧ e = .returned (.tuple #[.pointer none, .int .i64 70])) ∨
       (rightB s E m = true ∧ ∃ gw gm lo nb, e = .returned (.tuple #[.pointer (some ⟨gw, 0, none⟩), .int .i64 0]) ∧ w.heap.size ≤ lo ∧ w.heap.size ≤ gw ∧ WalkOk lo nb w' gw gm R.length E R (begW E R.length R))) := by
  have hn2 : n ≤ 1099511627776 := by omega
  have hright := fun W1 => right_any s A n c0 B m d0 E hn hE W1
  have Hn := Lib.hid hn
  have Hm := Lib.hid hm
  clear hn hm
  go_enter Tryd.func11, Tryd.ntmps11
  have h1 := Blk.new w 25 (nfaC s A n c0 B m d0)
  have hB1 : Below w.heap.size w (w.alloc (.cells (nfaC s A n c0 B m d0) 25)) := below_alloc (Below.refl _ _) _
  go_upto_region 1 with (fail)
  obtain ⟨W1, hW1⟩ : ∃ y, y = w.alloc (.cells (nfaC s A n c0 B m d0) 25) := ⟨_, rfl⟩
  rw [← hW1] at h1 hB1 ⊢
  clear hW1
  have hs1 := (hsE.below hB1).more hB1.size
  replace hright := hright W1 hs1
  cases hrb : rightB s E m
  · rw [hrb] at hright
    go_wp2_with (first | (refine wl_load_nfa rfl _ rfl _ rfl _ _ _ _ _ _ _ h1 ?_) | (go_at_call 17; refine hright.mono ?_; rintro e w3 ⟨rfl, hB3⟩))
    go_ret2
    exact ⟨below_then hB1 hB3, .inl ⟨hrb, rfl⟩⟩
  · rw [hrb] at hright
    go_upto_region 3 with (first | (refine wl_load_nfa rfl _ rfl _ rfl _ _ _ _ _ _ _ h1 ?_) | (go_at_call 17; refine hright.mono ?_; rintro e w3 ⟨rfl, hB3⟩))
    obtain ⟨N, hsN, hf⟩ := right_fits (Hm.out ▸ hrb)
    have hNR : Hid (N = R.length) := Lib.hid hf.rules.symm
    have hm0 : 0 < m := by rw [Hm.out, ← hNR.out]; exact hf.one
    have hm2 : m ≤ 1099511627776 := by rw [Hm.out]; exact hRl
    have hNN : N ≤ 1099511627776 := by rw [hNR.out]; exact hRl
    subst hsN
    replace h1 := blk_then h1 hB3
    replace hB1 := below_then hB1 hB3
    clear hright hs1 hB3
    obtain ⟨lo, hlo⟩ : ∃ y, y = w3.heap.size := ⟨_, rfl⟩
    have hlo2 : w.heap.size ≤ lo := by rw [hlo]; exact hB1.size
    refine wp_region_steps 10 [eqS (.pointer (some ⟨w.heap.size, 0, none⟩)), eqS (.int .i64 (N : Int)), mapS lo, emptyS lo, eqS (.pointer (some ⟨w.heap.size, 2, none⟩)), eqS (.slice B m d0), rowS lo R, machS lo (N : Int) R, boxS lo (N : Int) R, boxS lo (N : Int) R] [11, 12, 13, 14, 15, 16, 17, 18, 19, 4] rfl (by kernel_rfl) rfl ?_ ?_
    · skip
      refine Steps.cons (fun a' w' hG hB dep => gs_field (want_none rfl) _ _ _ rfl w.heap.size 0 0 (hG.other 1 rfl) (field_nfa_0 _ 0) rfl) ?_
      refine Steps.cons (fun a' w' hG hB dep => gs_load1 (want_none rfl) _ _ rfl w.heap.size 0 (dep 0 rfl 11 rfl) _ ((blk_then h1 hB).cellv (i := 0) rfl) _ Tryd.underlying3 rfl rfl) ?_
      refine Steps.cons (fun a' w' hG hB dep => gs_makeMap (want_none rfl) rfl (lo := lo) (by have := hB.size; omega) (fun _ _ h => h)) ?_
      refine Steps.cons (fun a' w' hG hB dep => gs_build0 (want_none rfl) rfl (lo := lo) (by have := hB.size; omega) (fun _ _ h => h)) ?_
      refine Steps.cons (fun a' w' hG hB dep => gs_field (want_none rfl) _ _ _ rfl w.heap.size 0 2 (hG.other 1 rfl) (field_nfa_2 _ 0) rfl) ?_
      refine Steps.cons (fun a' w' hG hB dep => gs_load1 (want_none rfl) _ _ rfl w.heap.size 2 (dep 4 rfl 15 rfl) _ ((blk_then h1 hB).cellv (i := 2) rfl) _ Tryd.underlying23 rfl rfl) ?_
      refine Steps.cons (fun a' w' hG hB dep => gs_append_row (want_none rfl) _ _ rfl (lo := lo) (by have := hB.size; omega) (dep 3 rfl 14 rfl) w.heap.size B m d0 R (dep 5 rfl 16 rfl) Hm.out (hsR.below (hB1.trans (hB.mono hB1.size))) hm0 hm2 (fun _ _ h => h)) ?_
      refine Steps.cons (fun a' w' hG hB dep => gs_buildM (want_none rfl) _ _ _ rfl (lo := lo) (N : Int) R (dep 1 rfl 12 rfl) (dep 2 rfl 13 rfl) (dep 6 rfl 17 rfl) (fun _ _ h => h)) ?_
      refine Steps.cons (fun a' w' hG hB dep => gs_boxM (want_none rfl) _ rfl (lo := lo) (by have := hB.size; omega) (N : Int) R (dep 7 rfl 18 rfl) (fun _ _ h => h)) ?_
      refine Steps.cons (fun a' w' hG hB dep => gs_assign (want_none rfl) _ rfl (dep 8 rfl 19 rfl)) ?_
      exact Steps.nil
    intro uf w4 hB4 ans
    obtain ⟨gm, bm, uR, u4, hgmlo, hgm, hbmlo, hvm, huR⟩ := ans 9 4 (by decide) rfl
    clear ans
    simp only [putAll, List.foldl_cons, List.foldl_nil, Act.put, List.setIfInBounds_toArray, List.set_cons_zero, List.set_cons_succ, u4]
    clear u4
    simp only [List.drop]
    refine wpList_nil ?_
    replace h1 := blk_then h1 hB4
    replace hB1 := below_then hB1 hB4
    have hlo4 : lo ≤ w4.heap.size := by rw [hlo]; exact hB4.size
    clear hlo hB4
    obtain ⟨l, hl⟩ : ∃ l, l = E := ⟨_, rfl⟩
    have hlE : E.length = l.length := by rw [hl]
    have hnl : Hid (n = l.length) := Lib.hid (by rw [Hn.out, hlE])
    rw [← hl] at hsE
    have Hl := Lib.hid hl
    clear hl
    have c1 : w4.cell? ⟨w.heap.size, 1, none⟩ = some (.slice A n c0) := h1.cellv (i := 1) rfl
    go_wp2_with (fail)
    clear c1 h1
    have hed0 : EdMap lo w4 bm N (l.take 0) 0 noKeys := EdMap.new hbmlo hvm
    clear hvm
    go_loopw [23] (fun i wr => ∃ k : Nat, k ≤ n ∧ i = .int .i64 k ∧ Blk wr gm 67 #[.int .i64 (N : Int), .map (some bm), uR] ∧ Own wr lo 28 1 encR uR R ∧ (∃ nm mf, EdMap lo wr bm N (l.take k) nm mf) ∧ Below w.heap.size w wr ∧ lo ≤ wr.heap.size) (fun i _ => n - (intOf i).toNat)
    case atStart => exact ⟨0, by omega, rfl, hgm, huR, ⟨0, noKeys, hed0⟩, hB1, hlo4⟩
    case round =>
      clear hgm huR hed0 hB1 hlo4
      obtain ⟨k, hk, rfl, hgm, huR, ⟨nm, mf, hed⟩, hB1, hlo4⟩ := hrel
      by_cases hkl : k < n
      · have hkI : (k : Int) < n := by omega
        have hkl2 : k < l.length := by rw [← hnl.out]; exact hkl
        obtain ⟨b, off, rfl, hb, hrows⟩ := hsE.at_ (by omega)
        have hr0 := (hrows k hkl2).keep (hB1.block b hb)
        have htk : l.take (k + 1) = l.take k ++ [l[k]] := List.take_succ_eq_append_getElem hkl2
        have hdE : l[k] ∈ E := by rw [← Hl.out]; exact List.getElem_mem hkl2
        obtain ⟨dd, hd⟩ : ∃ d, d = l[k] := ⟨_, rfl⟩
        rw [← hd] at hr0 htk hdE
        have Htk := Lib.hid htk
        clear hd htk
        have hkb : k < 1099511628000 := by omega
        go_upto_region 7 with (first | (refine wl_load_edge_at rfl _ rfl _ _ rfl _ hr0 ?_) | (refine wl_store_edge rfl _ _ rfl _ _ rfl rfl edge0 (Blk.new _ _ _) ?_; intro w6 h6 hg6))
        have hB6 := below_grown (below_alloc (Below.refl _ wr) (.cells #[.int .i64 0, .int .i64 0, .int .i64 0, .int .u64 0, .int .u64 0, .int .u64 0, .int .u64 0] 53)) hg6 (Nat.le_refl _)
        clear hr0 hg6
        have hfrb := hf.fr dd hdE
        obtain ⟨n0, hfr⟩ : ∃ q : Nat, dd.fr = (q : Int) := ⟨dd.fr.toNat, by omega⟩
        have hn0 : n0 < N := by omega
        have hlt0 := (hed.own n0 hn0).lt
        have hne_bm : (some bm : Option Nat) ≠ (vAt mf n0).ownBlock := fun e => own_map_ne (hed.own n0 hn0) hed.map e.symm
        have hne_gm : (some gm : Option Nat) ≠ (vAt mf n0).ownBlock := fun e => own_blk_ne (hed.own n0 hn0) hgm (by decide) e.symm
        have hne_6 : (some wr.heap.size : Option Nat) ≠ (vAt mf n0).ownBlock := fun e => by have := (hlt0 _ e.symm).2; omega
        have huN : ∀ j, uR.ownBlock = some j → (vAt mf n0).ownBlock ≠ some j := fun j h1 h2 => by
          rcases (hed.own n0 hn0).2 with ⟨hv, _⟩ | ⟨g', cap, cur, hv, _, hh, _⟩
          · rw [hv] at h2; cases h2
          · rcases huR.2 with ⟨hv2, _⟩ | ⟨g2, cap2, cur2, hv2, _, hh2, _⟩
            · rw [hv2] at h1; cases h1
            · rw [hv] at h2; rw [hv2] at h1
              have a1 : g' = j := by simpa [Value.ownBlock] using h2
              have a2 : g2 = j := by simpa [Value.ownBlock] using h1
              subst a1; subst a2
              rw [hh] at hh2
              injection hh2 with hh2
              injection hh2 with _ hh2
              cases hh2
        replace hgm := blk_then hgm hB6
        replace huR := huR.then_ hB6
        replace hed := hed.then_ hB6
        replace hB1 := below_then hB1 hB6
        have hlt6 : wr.heap.size < w6.heap.size := h6.lt
        have hlo6 : lo ≤ w6.heap.size := by omega
        have hel : (edgesAt (l.take k) n0).length ≤ 1099511627776 := Nat.le_trans (List.length_filter_le _ _) (by rw [List.length_take]; omega)
        obtain ⟨rw0, hrw⟩ : ∃ y, (vAt mf n0).ownBlock = y := ⟨_, rfl⟩
        rw [hrw] at hne_bm hne_gm hne_6 huN hlt0
        clear hB6
        refine wp_region_stepsR (rw := rw0) (i0 := 15) 16 [eqS (.pointer (some ⟨gm, 0, none⟩)), eqS (.pointer (some ⟨gm, 0, none⟩)), eqS (.pointer (some ⟨gm, 1, none⟩)), eqS (.map (some bm)), eqS (.pointer (some ⟨wr.heap.size, 1, none⟩)), eqS (.int .i64 (n0 : Int)), eqS (.pointer (some ⟨gm, 0, none⟩)), eqS (.pointer (some ⟨gm, 0, none⟩)), eqS (.pointer (some ⟨gm, 1, none⟩)), eqS (.map (some bm)), eqS (.pointer (some ⟨wr.heap.size, 1, none⟩)), eqS (.int .i64 (n0 : Int)), eqS (vAt mf n0), eqS (.agg (edgC dd)), oneS w6.heap.size dd, moreS lo w6.heap.size rw0 (edgesAt (l.take k) n0 ++ [dd])] [27, 28, 29, 30, 31, 32, 33, 34, 35, 36, 37, 38, 39, 40, 41, 42] rfl ?_ (by kernel_rfl) rfl ?_ ?_
        · intro j hj v wa wb hp hg
          match j, hj, hp with
          | 0, _, hp => exact hp
          | 1, _, hp => exact hp
          | 2, _, hp => exact hp
          | 3, _, hp => exact hp
          | 4, _, hp => exact hp
          | 5, _, hp => exact hp
          | 6, _, hp => exact hp
          | 7, _, hp => exact hp
          | 8, _, hp => exact hp
          | 9, _, hp => exact hp
          | 10, _, hp => exact hp
          | 11, _, hp => exact hp
          | 12, _, hp => exact hp
          | 13, _, hp => exact hp
          | 14, _, hp =>
            obtain ⟨g, q1, q2, q3⟩ := hp
            exact ⟨g, q1, q2, q3.grown hg (fun e => by have := (hlt0 g e.symm).2; omega)⟩
          | 15, hj, _ => exact absurd rfl hj
          | j + 16, _, hp => exact hp
        · skip
          refine StepsR.cons (fun a' w' hG hW hP dep => GStepR.of (gs_move (want_none rfl) _ rfl (hG.other 4 rfl))) ?_
          refine StepsR.cons (fun a' w' hG hW hP dep => GStepR.of (gs_nil (want_none rfl) _ rfl _ (dep 0 rfl 27 rfl) rfl)) ?_
          refine StepsR.cons (fun a' w' hG hW hP dep => GStepR.of (gs_field (want_none rfl) _ _ _ rfl gm 0 1 (dep 1 rfl 28 rfl) (field_mach_1 gm) rfl)) ?_
          refine StepsR.cons (fun a' w' hG hW hP dep => GStepR.of (gs_load1 (want_none rfl) _ _ rfl gm 1 (dep 2 rfl 29 rfl) _ ((hgm.grown hW hne_gm).cellv (i := 1) rfl) _ Tryd.underlying65 rfl rfl)) ?_
          refine StepsR.cons (fun a' w' hG hW hP dep => GStepR.of (gs_field (want_none rfl) _ _ _ rfl wr.heap.size 0 1 (hG.other 6 rfl) (field_edge_1 _ _) rfl)) ?_
          refine StepsR.cons (fun a' w' hG hW hP dep => GStepR.of (gs_load1 (want_none rfl) _ _ rfl wr.heap.size 1 (dep 4 rfl 31 rfl) (.int .i64 (n0 : Int)) (by rw [← hfr]; exact (h6.grown hW hne_6).cellv (i := 1) rfl) _ Tryd.underlying3 rfl rfl)) ?_
          refine StepsR.cons (fun a' w' hG hW hP dep => GStepR.of (gs_move (want_none rfl) _ rfl (hG.other 4 rfl))) ?_
          refine StepsR.cons (fun a' w' hG hW hP dep => GStepR.of (gs_nil (want_none rfl) _ rfl _ (dep 6 rfl 33 rfl) rfl)) ?_
          refine StepsR.cons (fun a' w' hG hW hP dep => GStepR.of (gs_field (want_none rfl) _ _ _ rfl gm 0 1 (dep 7 rfl 34 rfl) (field_mach_1 gm) rfl)) ?_
          refine StepsR.cons (fun a' w' hG hW hP dep => GStepR.of (gs_load1 (want_none rfl) _ _ rfl gm 1 (dep 8 rfl 35 rfl) _ ((hgm.grown hW hne_gm).cellv (i := 1) rfl) _ Tryd.underlying65 rfl rfl)) ?_
          refine StepsR.cons (fun a' w' hG hW hP dep => GStepR.of (gs_field (want_none rfl) _ _ _ rfl wr.heap.size 0 1 (hG.other 6 rfl) (field_edge_1 _ _) rfl)) ?_
          refine StepsR.cons (fun a' w' hG hW hP dep => GStepR.of (gs_load1 (want_none rfl) _ _ rfl wr.heap.size 1 (dep 10 rfl 37 rfl) (.int .i64 (n0 : Int)) (by rw [← hfr]; exact (h6.grown hW hne_6).cellv (i := 1) rfl) _ Tryd.underlying3 rfl rfl)) ?_
          refine StepsR.cons (fun a' w' hG hW hP dep => GStepR.of (gs_lookup_v (want_none rfl) _ _ rfl (hed.map.keep (hW.block bm hed.map.lt hne_bm)) _ (wf_of_nat (by omega)) (dep 9 rfl 36 rfl) (dep 11 rfl 38 rfl) rfl)) ?_
          refine StepsR.cons (fun a' w' hG hW hP dep => GStepR.of (gs_load_edge_at (want_none rfl) _ rfl wr.heap.size 0 (hG.other 6 rfl) dd (RowAt.of_blk (h6.grown hW hne_6)) rfl)) ?_
          refine StepsR.cons (fun a' w' hG hW hP dep => GStepR.of (gs_one (want_none rfl) _ rfl (lo := w6.heap.size) hW.size dd (dep 13 rfl 40 rfl) (fun _ _ h => h))) ?_
          refine StepsR.cons (fun a' w' hG hW hP dep => gs_more (want_none rfl) _ _ rfl (lo := lo) (k0 := w6.heap.size) (by have := hW.size; omega) hW.size (vAt mf n0) _ dd (dep 12 rfl 39 rfl) hrw ((hed.own n0 hn0).then_ (hP rfl)) hel w6.heap.size (dep 14 rfl 41 rfl) (fun _ _ h => h)) ?_
          exact trivial
        intro uf w7 hW7 ans
        have u30 : uf 30 = .map (some bm) := ans 3 30 (by decide) rfl
        have u32 : uf 32 = .int .i64 (n0 : Int) := ans 5 32 (by decide) rfl
        obtain ⟨hv7, hat7⟩ := ans 15 42 (by decide) rfl
        clear ans
        simp only [putAll, List.foldl_cons, List.foldl_nil, Act.put, List.setIfInBounds_toArray, List.set_cons_zero, List.set_cons_succ, u30, u32]
        clear u30 u32
        simp only [List.drop]
        have hm7 : ValMap w7 bm nm mf := hed.map.keep (hW7.block bm hed.map.lt hne_bm)
        have hnm := hed.cnt
        rw [List.length_take] at hnm
        refine wl_vmap_put hm7 (by unfold maxLen; omega) rfl _ _ _ rfl rfl n0 (wf_of_nat (by omega)) rfl _ rfl ?_
        intro w8 hm8 hg8
        refine wpList_nil ?_
        have hgm7 : Blk w7 gm _ _ := hgm.grown hW7 hne_gm
        have huR7 := huR.kept_ hW7 (fun j h1 h2 => huN j h1 h2)
        have hgm8 := blk_grown hgm7 hg8 (blk_map_ne hgm7 hm7)
        have huR8 := huR7.kept_ hg8 (fun j h1 h2 => by injection h2 with h2; subst h2; exact own_map_ne huR7 hm7 h1)
        have hed8 := hed.step hn0 hfr (by rw [hrw]; exact hW7) hm7 hv7 (by rw [hrw]; exact hat7) hm8 hg8
        rw [← Htk.out] at hed8
        have hB8 : Below w.heap.size w w8 := (hB1.grown hW7 hB1.size (fun j e => by have := (hlt0 j e).1; omega)).grown hg8 (by have := hB1.size; have := hW7.size; omega) (fun j e => by injection e with e; omega)
        have hlo8 : lo ≤ w8.heap.size := by have := hW7.size; have := hg8.size; omega
        clear hgm hgm7 huR huR7 hed hB1 hlo4 hm7 hm8 hg8 hv7 hat7 hW7 h6
        go_wp2_with (fail)
        exact ⟨⟨k + 1, by omega, rfl, hgm8, huR8, ⟨_, _, hed8⟩, hB8, hlo8⟩, by simp only [intOf]; omega⟩
      · have hkI : ¬ (k : Int) < n := by omega
        rw [List.take_of_length_le (by rw [← hnl.out]; omega), Hl.out] at hed
        have hMI := mach_of hf (by rw [hNR.out]; exact hRl) hE hR (by have := hT.size; omega) hgmlo hgm huR hed
        have hM := hMI.ok
        clear hgm huR hed
        go_upto_region 10 with (fail)
        have hgw := Blk.new wr 71 (walkC gm (.slice none 0 0) 0 true)
        have hBw : Below wr.heap.size wr (wr.alloc (.cells #[.pointer (some ⟨gm, 0, none⟩), .slice none 0 0, .int .u32 0, .bool true] 71)) := below_alloc (Below.refl _ _) _
        obtain ⟨wa, hwa⟩ : ∃ y, y = wr.alloc (.cells #[.pointer (some ⟨gm, 0, none⟩), .slice none 0 0, .int .u32 0, .bool true] 71) := ⟨_, rfl⟩
        have hgw' : Blk wa wr.heap.size 71 (walkC gm (.slice none 0 0) 0 true) := by rw [hwa]; exact hgw
        rw [← hwa] at hBw ⊢
        clear hwa hgw
        have hMa := hM.below hBw hM.2.2.2.2.2.1
        have hTr := hT.then_ hT.size hB1
        have hMIa := hMI.keep (fun i _ hi => hBw.block i hi) hBw.size
        have hBa := below_then hB1 hBw
        go_upto_region 11 with (first
          | (go_at_call 28; refine (none_any wr.heap.size gm N E R wa hMa).mono ?_; rintro e wb ⟨g, c, rfl, hg, hs, hBb⟩)
          | (go_at_call 27; refine (at_any wr.heap.size gm N E R wa.heap.size wr.heap.size g c 0 0 true _ (fun i hi => by simp at hi) (by decide) wb (hMa.below hBb hMa.2.2.2.2.2.1) (blk_then hgw' hBb) (Nat.le_refl _) hs hBw.size (by have := hgw'.lt; omega) ((hTr.then_ hTr.size hBw).then_ (by have := hBw.size; have := hTr.size; omega) hBb)).mono ?_; rintro e wc ⟨rfl, hwc, hsc, hG⟩))
        have hBb2 := below_then hBa hBb
        have hz1 := hBw.size
        have hz2 := hBb.size
        have hz3 := hB1.size
        have hlw := hgw'.lt
        rw [Nat.zero_or, Nat.zero_or] at hwc
        rw [Nat.zero_or] at hsc
        have hMc : MachIn lo wr.heap.size wc gm N E R := hMIa.keep (fun i _ hi => (hG.block i (by omega) (by omega) (by omega)).trans (hBb.block i (by omega))) (Nat.le_trans hz2 hG.size)
        have hBc : Below w.heap.size w wc := ⟨hG.os.trans hBb2.os, hG.tape.trans hBb2.tape, hG.output.trans hBb2.output, Nat.le_trans hBb2.size hG.size, fun i hi => (hG.block i (by omega) (by omega) (by omega)).trans (hBb2.block i hi)⟩
        clear hs
        go_wp2_with (fail)
        go_ret2
        refine ⟨hBc, .inr ⟨hrb, wr.heap.size, gm, lo, wr.heap.size, rfl, hlo2, hB1.size, ?_⟩⟩
        rw [← hNR.out]
        exact ⟨hMc, Nat.le_refl _, met_lt hR _ _, spread_below _ _ _ _ _, g, c, by omega, hwc, hsc.mono (by omega)⟩
end Go.Proofs.YtgahdookojbbiaaDoor
