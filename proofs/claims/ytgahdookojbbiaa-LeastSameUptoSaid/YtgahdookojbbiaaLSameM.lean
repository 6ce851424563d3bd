/- heronlaw11.LeastSame answers true of any two tables. No condition beyond those named in each lemma. -/
import Derived.Test.YtgahdookojbbiaaLKep
import Derived.Test.YtgahdookojbbiaaLSht
import Derived.Test.YtgahdookojbbiaaLRun
import Derived.Test.YtgahdookojbbiaaLFix
namespace Go.Proofs.Ytgahdookojbbiaa
open Go.RowKit Go.Maps
set_option linter.unusedVariables false
set_option linter.unusedSimpArgs false
attribute [local go_sem] Oper.semAt_some

theorem cop_tab {x y : TV} {rz : RV} {w w' : World} {N base : Nat} (he : y.T = x.T) (hS : Sml x) (hT : TabIn w N x) (hO : TOwn w' base y [77] [77] [rz]) : TabIn w' w'.heap.size y := by
  have hlr : y.rs.length = x.rs.length := by have := congrArg (fun T : Tb => T.nx.length) he; simpa [TV.T] using this
  have hlf : y.fo = x.fo := congrArg Tb.fo he
  have hle : y.en = x.en := congrArg Tb.en he
  have hrl : ∀ i (h1 : i < y.rs.length) (h2 : i < x.rs.length), y.rs[i].l = x.rs[i].l := fun i h1 h2 => by
    have h3 : y.rs.map (·.l) = x.rs.map (·.l) := congrArg Tb.nx he
    have h4 : (y.rs.map (·.l))[i]'(by simpa using h1) = (x.rs.map (·.l))[i]'(by simpa using h2) := by simp only [h3]
    simpa using h4
  exact hO.tab (by have := hS.n; omega) (fun r hr => by
      obtain ⟨i, hi, rfl⟩ := List.mem_iff_getElem.1 hr
      rw [hrl i hi (by omega)]
      have := hS.r _ (List.getElem_mem (show i < x.rs.length by omega))
      omega) (by rw [hlf]; have := hS.f; omega) (by rw [hle]; have := hS.e; omega) (by rw [hlf]; exact hT.f32) (by rw [hle]; exact hT.e32)
theorem bytesU_size (u : List Nat) : (⟨(bytesU u).toArray⟩ : ByteArray).size = u.length := by
  show (bytesU u).toArray.size = _
  simp [bytesU]
theorem bytesU_chr {u : List Nat} (h : NoNl u) {i : Nat} (hi : i < u.length) : chr ⟨(bytesU u).toArray⟩ i = u[i] := by
  have hs := bytesU_size u
  unfold chr
  rw [dif_pos (by omega)]
  have e : (⟨(bytesU u).toArray⟩ : ByteArray)[i]'(by omega) = UInt8.ofNat u[i] := by
    show (bytesU u).toArray[i]'(by simp [bytesU]; omega) = _
    simp [bytesU]
  rw [e]
  exact bytesU_nat (h _ (List.getElem_mem hi)).1
theorem bytesU_all {u : List Nat} (h : NoNl u) : bytesN ⟨(bytesU u).toArray⟩ = u := by
  unfold bytesN
  rw [bytesU_size]
  apply List.ext_getElem
  · simp
  · intro i h1 h2
    rw [List.getElem_map, List.getElem_range]
    exact bytesU_chr h h2
set_option maxRecDepth 100000 in
set_option maxHeartbeats 4000000 in
theorem leastSame_any (x y : TV) (hSx : Sml x) (hSy : Sml y) (w : World) (hX : TabIn w w.heap.size x) (hY : TabIn w w.heap.size y) :
    Calls Try.prog 7 #[.agg x.C', .agg y.C'] w fun e w' => e = .returned (.bool true) ∧ Below w.heap.size w w' := by
  have hz0 := zero_dfa
  unfold TV.C'
  go_enter Try.func7, Try.ntmps7
  have h2 := (Blk.new w 47 (dfaC x.f x.A x.rs.length x.c x.B x.fo.length x.d x.C x.en.length x.e)).alloc (.cells (dfaC y.f y.A y.rs.length y.c y.B y.fo.length y.d y.C y.en.length y.e) 47)
  have h3 : Blk ((w.alloc (.cells (dfaC x.f x.A x.rs.length x.c x.B x.fo.length x.d x.C x.en.length x.e) 47)).alloc (.cells (dfaC y.f y.A y.rs.length y.c y.B y.fo.length y.d y.C y.en.length y.e) 47)) (w.heap.size + 1) 47 (dfaC y.f y.A y.rs.length y.c y.B y.fo.length y.d y.C y.en.length y.e) := Blk.new' _ _ _ (World.size_alloc _ _).symm
  have hB1 := below_alloc (below_alloc (Below.refl w.heap.size w) (.cells (dfaC x.f x.A x.rs.length x.c x.B x.fo.length x.d x.C x.en.length x.e) 47)) (.cells (dfaC y.f y.A y.rs.length y.c y.B y.fo.length y.d y.C y.en.length y.e) 47)
  go_upto_region 1 with (fail)
  obtain ⟨w1, hw1⟩ : ∃ ww, ww = ((w.alloc (.cells (dfaC x.f x.A x.rs.length x.c x.B x.fo.length x.d x.C x.en.length x.e) 47)).alloc (.cells (dfaC y.f y.A y.rs.length y.c y.B y.fo.length y.d y.C y.en.length y.e) 47)) := ⟨_, rfl⟩
  first | rw [← hw1] at h2 h3 hB1 ⊢ | (simp only [World.size_alloc]; rw [← hw1] at h2 h3 hB1 ⊢)
  clear hw1
  obtain ⟨g2, hg2⟩ : ∃ g, g = w.heap.size := ⟨_, rfl⟩
  obtain ⟨g3, hg3⟩ : ∃ g, g = w.heap.size + 1 := ⟨_, rfl⟩
  try rw [← hg3] at h3 ⊢
  try rw [← hg2] at h2 ⊢
  clear hg2 hg3
  go_upto_region 3 with (go_at_call 19; refine (fixed_any w1).mono ?_; rintro e w2 ⟨rfl, hB2⟩)
  replace h2 := blk_then h2 hB2
  replace h3 := blk_then h3 hB2
  replace hB1 := below_then hB1 hB2
  clear hB2
  obtain ⟨b1, hb1⟩ : ∃ q, decide ((40 : Int) < ((x.rs.length : Nat) : Int)) = q := ⟨_, rfl⟩
  obtain ⟨b2, hb2⟩ : ∃ q, decide ((40 : Int) < ((y.rs.length : Nat) : Int)) = q := ⟨_, rfl⟩
  refine wp_region_text 10 [eqS (.pointer (some ⟨g2, 256, none⟩)), eqS (.slice x.A x.rs.length x.c), eqS (.int .i64 (((x.rs.length : Nat) : Int))), eqS (.bool b1), eqS (.bool b1), eqS (vF (true && (b1 == false)) (.pointer (some ⟨g3, 256, none⟩))), eqS (vF (true && (b1 == false)) (.slice y.A y.rs.length y.c)), eqS (vF (true && (b1 == false)) (.int .i64 (((y.rs.length : Nat) : Int)))), eqS (vF (true && (b1 == false)) (.bool b2)), eqS (.bool (b1 || b2))] [18, 19, 20, 21, 22, 23, 24, 25, 26, 27] (by kernel_rfl) rfl ?_ ?_
  · skip
    refine Steps.cons (fun a' w' hG hB dep => gs_field (want_none rfl) _ _ _ rfl g2 (0) (256) (hG.other 2 rfl) (fun wz => field_dfa_1 g2 (0) wz) rfl) ?_
    refine Steps.cons (fun a' w' hG hB dep => gs_load1 (want_none rfl) _ _ rfl g2 (256) (dep 0 rfl 18 rfl) (.slice x.A x.rs.length x.c) (blk_d1 (blk_then h2 hB)) _ Try.underlying45 rfl rfl) ?_
    refine Steps.cons (fun a' w' hG hB dep => gs_len (want_none rfl) _ _ rfl under_rows _ x.rs.length x.c (dep 1 rfl 19 rfl) rfl) ?_
    refine Steps.cons (fun a' w' hG hB dep => gs_gtr_int (want_none rfl) _ _ _ _ rfl _ _ _ (dep 2 rfl 20 rfl) rfl (id (congrArg Value.bool hb1))) ?_
    refine Steps.cons (fun a' w' hG hB dep => gs_move (want_none rfl) _ rfl (id (dep 3 rfl 21 rfl))) ?_
    refine Steps.cons (fun a' w' hG hB dep => gs_guard (c := true) (b' := b1) rfl rfl (dep 4 rfl 22 rfl) (fun hc he hw => gs_field hw _ _ _ rfl g3 (0) (256) (hG.other 3 rfl) (fun wz => field_dfa_1 g3 (0) wz) (vF_yes (on_g hc he) _).symm) (fun hn => vF_no hn _)) ?_
    refine Steps.cons (fun a' w' hG hB dep => gs_guard (c := true) (b' := b1) rfl rfl (dep 4 rfl 22 rfl) (fun hc he hw => gs_load1 hw _ _ rfl g3 (256) (Eq.trans (dep 5 rfl 23 rfl) (vF_yes (on_g hc he) _)) (.slice y.A y.rs.length y.c) (blk_d1 (blk_then h3 hB)) _ Try.underlying45 rfl (vF_yes (on_g hc he) _).symm) (fun hn => vF_no hn _)) ?_
    refine Steps.cons (fun a' w' hG hB dep => gs_guard (c := true) (b' := b1) rfl rfl (dep 4 rfl 22 rfl) (fun hc he hw => gs_len hw _ _ rfl under_rows _ y.rs.length y.c (Eq.trans (dep 6 rfl 24 rfl) (vF_yes (on_g hc he) _)) (vF_yes (on_g hc he) _).symm) (fun hn => vF_no hn _)) ?_
    refine Steps.cons (fun a' w' hG hB dep => gs_guard (c := true) (b' := b1) rfl rfl (dep 4 rfl 22 rfl) (fun hc he hw => gs_gtr_int hw _ _ _ _ rfl _ _ _ (Eq.trans (dep 7 rfl 25 rfl) (vF_yes (on_g hc he) _)) rfl (Eq.trans (congrArg Value.bool hb2) (vF_yes (on_g hc he) _).symm)) (fun hn => vF_no hn _)) ?_
    refine Steps.cons (fun a' w' hG hB dep => gs_pick (want_none rfl) _ _ _ rfl b1 (dep 4 rfl 22 rfl) (id (pick_or2 (c := true) rfl (dep 8 rfl 26 rfl)))) ?_
    exact Steps.nil
  intro u w3 hw3 ans
  have hus27 : u 27 = (.bool (b1 || b2)) := ans 9 27 (by decide) rfl
  clear ans
  simp only [putAll, List.foldl_cons, List.foldl_nil, Act.put, List.setIfInBounds_toArray, List.set_cons_zero, List.set_cons_succ, hus27]
  clear hus27
  simp only [List.drop]
  refine wpList_nil ?_
  replace h2 := blk_then h2 hw3
  replace h3 := blk_then h3 hw3
  replace hB1 := below_then hB1 hw3
  clear hw3
  obtain ⟨r, hr⟩ : ∃ r, (b1 || b2) = r := ⟨_, rfl⟩
  rw [hr]
  cases r with
  | true =>
    clear hr hb1 hb2
    go_wp2_with (fail)
    go_ret
    exact ⟨rfl, hB1⟩
  | false =>
    have hbb : b1 = false ∧ b2 = false := by cases b1 <;> cases b2 <;> simp_all
    have hx40 : x.rs.length ≤ 40 := by have h1 := hbb.1; rw [h1] at hb1; have := of_decide_eq_false hb1; omega
    have hy40 : y.rs.length ≤ 40 := by have h1 := hbb.2; rw [h1] at hb2; have := of_decide_eq_false hb2; omega
    clear hr hb1 hb2 hbb
    have hc1 := cop_any x hSx w3 (hX.then_ hB1)
    unfold TV.C' at hc1
    go_upto_region 6 with (first
      | (refine wl_load_dfa rfl _ rfl g2 rfl h2 ?_)
      | (go_at_call 21; refine hc1.mono ?_; rintro e w4 ⟨hB4, p, rz, rfl, hOp, hrz, hpT⟩)
      | (refine wl_store_dfa rfl _ _ rfl _ rfl rfl (Blk.new _ _ _) ?_; intro w5 hx hG5))
    clear hc1
    have hB5 : Below w4.heap.size w4 w5 := below_grown (below_alloc (Below.refl _ _) _) hG5 (Nat.le_refl _)
    replace hOp := hOp.then_ hB5
    replace hB5 := below_then hB4 hB5
    obtain ⟨gx, hgx⟩ : ∃ g, g = w4.heap.size := ⟨_, rfl⟩
    rw [← hgx] at hx ⊢
    replace h2 := blk_then h2 hB5
    replace h3 := blk_then h3 hB5
    replace hB1 := below_then hB1 hB5
    clear hB4 hG5 hgx hB5
    have hc2 := cop_any y hSy w5 (hY.then_ hB1)
    unfold TV.C' at hc2
    go_upto_region 7 with (first
      | (refine wl_load_dfa rfl _ rfl g3 rfl h3 ?_)
      | (go_at_call 21; refine hc2.mono ?_; rintro e w6 ⟨hB6, q, rq, rfl, hOq, hrq, hqT⟩)
      | (refine wl_store_dfa rfl _ _ rfl _ rfl rfl (Blk.new _ _ _) ?_; intro w7 hy hG7))
    clear hc2
    have hB7 : Below w6.heap.size w6 w7 := below_grown (below_alloc (Below.refl _ _) _) hG7 (Nat.le_refl _)
    replace hOq := hOq.then_ hB7
    replace hB7 := below_then hB6 hB7
    obtain ⟨gy, hgy⟩ : ∃ g, g = w6.heap.size := ⟨_, rfl⟩
    rw [← hgy] at hy ⊢
    replace h2 := blk_then h2 hB7
    replace h3 := blk_then h3 hB7
    replace hx := blk_then hx hB7
    replace hOp := hOp.then_ hB7
    replace hB1 := below_then hB1 hB7
    clear hB6 hG7 hgy hB7
    have hTp := cop_tab hpT hSx (hX.then_ hB1) hOp
    have hTq := cop_tab hqT hSy (hY.then_ hB1) hOq
    have hs1 := lsm_any p q w7 hTp hTq
    rw [hpT, hqT] at hs1
    unfold TV.C' at hs1
    have hK1 : ∀ W : World, Below w7.heap.size w7 W → Calls Try.prog 24 #[.agg (dfaC p.f p.A p.rs.length p.c p.B p.fo.length p.d p.C p.en.length p.e), .agg (dfaC x.f x.A x.rs.length x.c x.B x.fo.length x.d x.C x.en.length x.e)] W fun e w' => e = .returned (.bool true) ∧ Below W.heap.size W w' := fun W hB => kep_any x p rz _ hpT hrz hSx W (hX.then_ (below_then hB1 hB)) (hOp.then_ hB)
    have hK2 : ∀ W : World, Below w7.heap.size w7 W → Calls Try.prog 24 #[.agg (dfaC q.f q.A q.rs.length q.c q.B q.fo.length q.d q.C q.en.length q.e), .agg (dfaC y.f y.A y.rs.length y.c y.B y.fo.length y.d y.C y.en.length y.e)] W fun e w' => e = .returned (.bool true) ∧ Below W.heap.size W w' := fun W hB => kep_any y q rq _ hqT hrq hSy W (hY.then_ (below_then hB1 hB)) (hOq.then_ hB)
    replace hpT := Lib.hid hpT
    replace hqT := Lib.hid hqT
    clear hTp hTq
    go_upto_region 8 with (first
      | (refine wl_load_dfa rfl _ rfl gx rfl hx ?_)
      | (refine wl_load_dfa rfl _ rfl gy rfl hy ?_)
      | (go_at_call 29; refine hs1.mono ?_; rintro e w8 ⟨hB8, v, rfl, hv⟩; refine park ?_))
    refine Parked.mk ?_
    have hv2 : ∃ (yes : Bool) (ln : ByteArray) (er : Int), v = .tuple #[.bool yes, .string ln, .int .i64 er] ∧ ((¬ (Fits x.T ∧ Fits y.T) ∧ yes = false ∧ ln = ⟨#[]⟩ ∧ er = 70) ∨ (Fits x.T ∧ Fits y.T ∧ (∀ u, ¬ Tells x.T.au y.T.au u) ∧ yes = true ∧ ln = ⟨#[]⟩ ∧ er = 0) ∨ (Fits x.T ∧ Fits y.T ∧ ∃ u, Tells x.T.au y.T.au u ∧ (∀ u', Tells x.T.au y.T.au u' → u.length ≤ u'.length) ∧ yes = false ∧ ln = ⟨(bytesU u).toArray⟩ ∧ er = 0)) := by
      rcases hv with ⟨q1, q2⟩ | ⟨q1, q2, q3, q4⟩ | ⟨q1, q2, u, q3, q4, q5⟩
      · exact ⟨_, _, _, q2, .inl ⟨q1, rfl, rfl, rfl⟩⟩
      · exact ⟨_, _, _, q4, .inr (.inl ⟨q1, q2, q3, rfl, rfl, rfl⟩)⟩
      · exact ⟨_, _, _, q5, .inr (.inr ⟨q1, q2, u, q3, q4, rfl, rfl, rfl⟩)⟩
    obtain ⟨yes, ln, er, rfl, hv3⟩ := hv2
    replace hv3 := Lib.hid hv3
    clear hv hs1
    replace h2 := blk_then h2 hB8
    replace h3 := blk_then h3 hB8
    replace hx := blk_then hx hB8
    replace hy := blk_then hy hB8
    replace hB1 := below_then hB1 hB8
    replace hK1 := fun W hB => hK1 W (below_then hB8 hB)
    replace hK2 := fun W hB => hK2 W (below_then hB8 hB)
    clear hB8 hOp hOq
    go_upto_region 8 with (fail)
    refine wp_region_text 10 [eqS (.agg (dfaC p.f p.A p.rs.length p.c p.B p.fo.length p.d p.C p.en.length p.e)), eqS (.agg (dfaC x.f x.A x.rs.length x.c x.B x.fo.length x.d x.C x.en.length x.e)), eqS (.bool true), eqS (.bool (!true)), eqS (.bool (!true)), eqS (vF (true && ((!true) == false)) (.agg (dfaC q.f q.A q.rs.length q.c q.B q.fo.length q.d q.C q.en.length q.e))), eqS (vF (true && ((!true) == false)) (.agg (dfaC y.f y.A y.rs.length y.c y.B y.fo.length y.d y.C y.en.length y.e))), eqS (vF (true && ((!true) == false)) (.bool true)), eqS (vF (true && ((!true) == false)) (.bool (!true))), eqS (.bool ((!true) || (!true)))] [39, 40, 41, 42, 43, 44, 45, 46, 47, 48] (by kernel_rfl) rfl ?_ ?_
    · skip
      refine Steps.cons (fun a' w' hG hB dep => gs_load_dfa (want_none rfl) _ rfl gx (hG.other 5 rfl) (blk_then hx hB) rfl) ?_
      refine Steps.cons (fun a' w' hG hB dep => gs_load_dfa (want_none rfl) _ rfl g2 (hG.other 2 rfl) (blk_then h2 hB) rfl) ?_
      refine Steps.cons (fun a' w' hG hB dep => gs_call (want_none rfl) _ _ _ rfl enter_kep _ (map2 (dep 0 rfl 39 rfl) (dep 1 rfl 40 rfl)) ((hK1 w' hB).mono fun e w2 ⟨hq1, hb⟩ => ⟨_, hq1, hb, rfl⟩)) ?_
      refine Steps.cons (fun a' w' hG hB dep => gs_not_bool (want_none rfl) _ _ rfl _ (dep 2 rfl 41 rfl) rfl) ?_
      refine Steps.cons (fun a' w' hG hB dep => gs_move (want_none rfl) _ rfl (id (dep 3 rfl 42 rfl))) ?_
      refine Steps.cons (fun a' w' hG hB dep => gs_guard (c := true) (b' := (!true)) rfl rfl (dep 4 rfl 43 rfl) (fun hc he hw => gs_load_dfa hw _ rfl gy (hG.other 6 rfl) (blk_then hy hB) (vF_yes (on_g hc he) _).symm) (fun hn => vF_no hn _)) ?_
      refine Steps.cons (fun a' w' hG hB dep => gs_guard (c := true) (b' := (!true)) rfl rfl (dep 4 rfl 43 rfl) (fun hc he hw => gs_load_dfa hw _ rfl g3 (hG.other 3 rfl) (blk_then h3 hB) (vF_yes (on_g hc he) _).symm) (fun hn => vF_no hn _)) ?_
      refine Steps.cons (fun a' w' hG hB dep => gs_guard (c := true) (b' := (!true)) rfl rfl (dep 4 rfl 43 rfl) (fun hc he hw => gs_call hw _ _ _ rfl enter_kep _ (map2 (Eq.trans (dep 5 rfl 44 rfl) (vF_yes (on_g hc he) _)) (Eq.trans (dep 6 rfl 45 rfl) (vF_yes (on_g hc he) _))) ((hK2 w' hB).mono fun e w2 ⟨hq1, hb⟩ => ⟨_, hq1, hb, (vF_yes (on_g hc he) _).symm⟩)) (fun hn => vF_no hn _)) ?_
      refine Steps.cons (fun a' w' hG hB dep => gs_guard (c := true) (b' := (!true)) rfl rfl (dep 4 rfl 43 rfl) (fun hc he hw => gs_not_bool hw _ _ rfl _ (Eq.trans (dep 7 rfl 46 rfl) (vF_yes (on_g hc he) _)) (vF_yes (on_g hc he) _).symm) (fun hn => vF_no hn _)) ?_
      refine Steps.cons (fun a' w' hG hB dep => gs_pick (want_none rfl) _ _ _ rfl (!true) (dep 4 rfl 43 rfl) (id (pick_or2 (c := true) rfl (dep 8 rfl 47 rfl)))) ?_
      exact Steps.nil
    intro u w9 hw9 ans
    have hus48 : u 48 = (.bool ((!true) || (!true))) := ans 9 48 (by decide) rfl
    clear ans
    simp only [putAll, List.foldl_cons, List.foldl_nil, Act.put, List.setIfInBounds_toArray, List.set_cons_zero, List.set_cons_succ, hus48]
    clear hus48
    simp only [List.drop]
    refine wpList_nil ?_
    replace h2 := blk_then h2 hw9
    replace h3 := blk_then h3 hw9
    replace hB1 := below_then hB1 hw9
    clear hw9 hK1 hK2 hx hy
    have he8 : ((!true) || (!true)) = false := rfl
    rw [he8]
    clear he8
    obtain ⟨fp, hfp⟩ : ∃ p, fitsB x.T = p := ⟨_, rfl⟩
    obtain ⟨fq, hfq⟩ : ∃ p, fitsB y.T = p := ⟨_, rfl⟩
    have hR1 : ∀ W' : World, Below w9.heap.size w9 W' → Calls Try.prog 32 #[.agg (dfaC x.f x.A x.rs.length x.c x.B x.fo.length x.d x.C x.en.length x.e)] W' fun e w2 => e = .returned (.bool (fitsB x.T)) ∧ Below W'.heap.size W' w2 := fun W' hB => rright_any x W' (hX.then_ (below_then hB1 hB))
    have hR2 : ∀ W' : World, Below w9.heap.size w9 W' → Calls Try.prog 32 #[.agg (dfaC y.f y.A y.rs.length y.c y.B y.fo.length y.d y.C y.en.length y.e)] W' fun e w2 => e = .returned (.bool (fitsB y.T)) ∧ Below W'.heap.size W' w2 := fun W' hB => rright_any y W' (hY.then_ (below_then hB1 hB))
    go_upto_region 10 with (fail)
    refine wp_region_text 8 [eqS (.agg (dfaC x.f x.A x.rs.length x.c x.B x.fo.length x.d x.C x.en.length x.e)), eqS (.bool fp), eqS (.bool (!fp)), eqS (.bool (!fp)), eqS (vF (true && ((!fp) == false)) (.agg (dfaC y.f y.A y.rs.length y.c y.B y.fo.length y.d y.C y.en.length y.e))), eqS (vF (true && ((!fp) == false)) (.bool fq)), eqS (vF (true && ((!fp) == false)) (.bool (!fq))), eqS (.bool ((!fp) || (!fq)))] [49, 50, 51, 52, 53, 54, 55, 56] (by kernel_rfl) rfl ?_ ?_
    · skip
      refine Steps.cons (fun a' w' hG hB dep => gs_load_dfa (want_none rfl) _ rfl g2 (hG.other 2 rfl) (blk_then h2 hB) rfl) ?_
      refine Steps.cons (fun a' w' hG hB dep => gs_call (want_none rfl) _ _ _ rfl enter_rright _ (map1 (dep 0 rfl 49 rfl)) ((hR1 w' hB).mono fun e w2 ⟨hq1, hb⟩ => ⟨_, hq1, hb, by rw [hfp]; exact rfl⟩)) ?_
      refine Steps.cons (fun a' w' hG hB dep => gs_not_bool (want_none rfl) _ _ rfl _ (dep 1 rfl 50 rfl) rfl) ?_
      refine Steps.cons (fun a' w' hG hB dep => gs_move (want_none rfl) _ rfl (id (dep 2 rfl 51 rfl))) ?_
      refine Steps.cons (fun a' w' hG hB dep => gs_guard (c := true) (b' := (!fp)) rfl rfl (dep 3 rfl 52 rfl) (fun hc he hw => gs_load_dfa hw _ rfl g3 (hG.other 3 rfl) (blk_then h3 hB) (vF_yes (on_g hc he) _).symm) (fun hn => vF_no hn _)) ?_
      refine Steps.cons (fun a' w' hG hB dep => gs_guard (c := true) (b' := (!fp)) rfl rfl (dep 3 rfl 52 rfl) (fun hc he hw => gs_call hw _ _ _ rfl enter_rright _ (map1 (Eq.trans (dep 4 rfl 53 rfl) (vF_yes (on_g hc he) _))) ((hR2 w' hB).mono fun e w2 ⟨hq1, hb⟩ => ⟨_, hq1, hb, by rw [hfq]; exact (vF_yes (on_g hc he) _).symm⟩)) (fun hn => vF_no hn _)) ?_
      refine Steps.cons (fun a' w' hG hB dep => gs_guard (c := true) (b' := (!fp)) rfl rfl (dep 3 rfl 52 rfl) (fun hc he hw => gs_not_bool hw _ _ rfl _ (Eq.trans (dep 5 rfl 54 rfl) (vF_yes (on_g hc he) _)) (vF_yes (on_g hc he) _).symm) (fun hn => vF_no hn _)) ?_
      refine Steps.cons (fun a' w' hG hB dep => gs_pick (want_none rfl) _ _ _ rfl (!fp) (dep 3 rfl 52 rfl) (id (pick_or2 (c := true) rfl (dep 6 rfl 55 rfl)))) ?_
      exact Steps.nil
    intro u wa hwa ans
    have hus56 : u 56 = (.bool (!fp || !fq)) := ans 7 56 (by decide) rfl
    clear ans
    simp only [putAll, List.foldl_cons, List.foldl_nil, Act.put, List.setIfInBounds_toArray, List.set_cons_zero, List.set_cons_succ, hus56]
    clear hus56
    simp only [List.drop]
    refine wpList_nil ?_
    replace h2 := blk_then h2 hwa
    replace h3 := blk_then h3 hwa
    replace hB1 := below_then hB1 hwa
    clear hwa hR1 hR2
    obtain ⟨r, hr⟩ : ∃ r, (!fp || !fq) = r := ⟨_, rfl⟩
    rw [hr]
    cases r with
    | true =>
      have hno : ¬ (Fits x.T ∧ Fits y.T) := fun h => by
        have h1 := fitsB_yes h.1
        have h2 := fitsB_yes h.2
        rw [hfp] at h1; rw [hfq] at h2
        rw [h1, h2] at hr
        cases hr
      obtain ⟨rfl, rfl, rfl⟩ : yes = false ∧ ln = ⟨#[]⟩ ∧ er = 70 := by
        rcases hv3.out with ⟨_, h⟩ | ⟨q1, q2, _⟩ | ⟨q1, q2, _⟩
        · exact h
        · exact absurd ⟨q1, q2⟩ hno
        · exact absurd ⟨q1, q2⟩ hno
      clear hr hfp hfq hv3 hno
      go_upto_region 11 with (fail)
      refine wp_region_text 11 [eqS (.int .i64 (70)), eqS (.bool true), eqS (.bool true), eqS (vF (true && (true == true)) (.bool false)), eqS (vF (true && (true == true)) (.bool (!false))), eqS (.bool (true && (!false))), eqS (.bool (true && (!false))), eqS (vF (true && ((true && (!false)) == true)) (.string ⟨#[]⟩)), eqS (vF (true && ((true && (!false)) == true)) (.bool true)), eqS (.bool ((true && (!false)) && true)), eqS (.bool ((true && (!false)) && true))] [57, 58, 59, 60, 61, 62, 63, 64, 65, 66, 4] (by kernel_rfl) rfl ?_ ?_
      · skip
        refine Steps.cons (fun a' w' hG hB dep => gs_move (want_none rfl) _ rfl (id (hG.other 9 rfl))) ?_
        refine Steps.cons (fun a' w' hG hB dep => gs_eql_int (want_none rfl) _ _ _ _ rfl _ _ _ (dep 0 rfl 57 rfl) rfl (id (congrArg Value.bool (by decide)))) ?_
        refine Steps.cons (fun a' w' hG hB dep => gs_move (want_none rfl) _ rfl (id (dep 1 rfl 58 rfl))) ?_
        refine Steps.cons (fun a' w' hG hB dep => gs_guard (c := true) (b' := true) rfl rfl (dep 2 rfl 59 rfl) (fun hc he hw => gs_move hw _ rfl (Eq.trans (hG.other 7 rfl) (vF_yes (on_g hc he) _).symm)) (fun hn => vF_no hn _)) ?_
        refine Steps.cons (fun a' w' hG hB dep => gs_guard (c := true) (b' := true) rfl rfl (dep 2 rfl 59 rfl) (fun hc he hw => gs_not_bool hw _ _ rfl _ (Eq.trans (dep 3 rfl 60 rfl) (vF_yes (on_g hc he) _)) (vF_yes (on_g hc he) _).symm) (fun hn => vF_no hn _)) ?_
        refine Steps.cons (fun a' w' hG hB dep => gs_pick (want_none rfl) _ _ _ rfl true (dep 2 rfl 59 rfl) (id (pick_and2 (c := true) rfl (dep 4 rfl 61 rfl)))) ?_
        refine Steps.cons (fun a' w' hG hB dep => gs_move (want_none rfl) _ rfl (id (dep 5 rfl 62 rfl))) ?_
        refine Steps.cons (fun a' w' hG hB dep => gs_guard (c := true) (b' := (true && (!false))) rfl rfl (dep 6 rfl 63 rfl) (fun hc he hw => gs_move hw _ rfl (Eq.trans (hG.other 8 rfl) (vF_yes (on_g hc he) _).symm)) (fun hn => vF_no hn _)) ?_
        refine Steps.cons (fun a' w' hG hB dep => gs_guard (c := true) (b' := (true && (!false))) rfl rfl (dep 6 rfl 63 rfl) (fun hc he hw => gs_eql_str hw _ _ _ _ rfl _ _ (Eq.trans (dep 7 rfl 64 rfl) (vF_yes (on_g hc he) _)) rfl (Eq.trans (congrArg Value.bool (beq_self_eq_true _)) (vF_yes (on_g hc he) _).symm)) (fun hn => vF_no hn _)) ?_
        refine Steps.cons (fun a' w' hG hB dep => gs_pick (want_none rfl) _ _ _ rfl (true && (!false)) (dep 6 rfl 63 rfl) (id (pick_and2 (c := true) rfl (dep 8 rfl 65 rfl)))) ?_
        refine Steps.cons (fun a' w' hG hB dep => gs_assign (want_none rfl) _ rfl (id (dep 9 rfl 66 rfl))) ?_
        exact Steps.nil
      intro u wb hwb ans
      have hus4 : u 4 = (.bool ((true && (!false)) && true)) := ans 10 4 (by decide) rfl
      clear ans
      simp only [putAll, List.foldl_cons, List.foldl_nil, Act.put, List.setIfInBounds_toArray, List.set_cons_zero, List.set_cons_succ, hus4]
      clear hus4
      simp only [List.drop]
      refine wpList_nil ?_
      replace hB1 := below_then hB1 hwb
      have he5 : ((true && (!false)) && true) = true := rfl
      rw [he5]
      go_wp2_with (fail)
      go_ret
      exact ⟨rfl, hB1⟩
    | false =>
      have hFx : Fits x.T := fitsB_iff.1 (by rw [hfp]; cases fp <;> simp_all)
      have hFy : Fits y.T := fitsB_iff.1 (by rw [hfq]; cases fq <;> simp_all)
      clear hr hfp hfq
      have hsh := short_any x y hFx hFy hx40 hy40 wa (hX.then_ hB1) (hY.then_ hB1)
      unfold TV.C' at hsh
      go_upto_region 13 with (first
        | (refine wl_load_dfa rfl _ rfl g2 rfl h2 ?_)
        | (refine wl_load_dfa rfl _ rfl g3 rfl h3 ?_)
        | (go_at_call 33; refine hsh.mono ?_; rintro e wc ⟨hBc, rr, rfl, hans⟩))
      clear hsh
      replace h2 := blk_then h2 hBc
      replace h3 := blk_then h3 hBc
      replace hB1 := below_then hB1 hBc
      clear hBc
      rcases hv3.out with ⟨q1, _⟩ | ⟨_, _, hnt, rfl, rfl, rfl⟩ | ⟨_, _, u, htu, hmin, rfl, hln, rfl⟩
      · exact absurd ⟨hFx, hFy⟩ q1
      · obtain rfl : rr = -1 := by
          rcases hans with ⟨h, _⟩ | ⟨n, _, _, ⟨u, hu, _⟩, _⟩
          · exact h
          · exact absurd hu (hnt u)
        clear hv3 hans hnt
        refine wp_region_text 8 [eqS (.int .i64 (0)), eqS (.bool false), eqS (.bool false), eqS (vF (true && (false == false)) (.bool true)), eqS (vF (true && (false == false)) (.int .i64 (-1))), eqS (vF (true && (false == false)) (.bool true)), eqS (vF (true && (false == false)) (.bool false)), eqS (.bool (false || false))] [70, 71, 72, 73, 74, 75, 76, 77] (by kernel_rfl) rfl ?_ ?_
        · skip
          refine Steps.cons (fun a' w' hG hB dep => gs_move (want_none rfl) _ rfl (id (hG.other 9 rfl))) ?_
          refine Steps.cons (fun a' w' hG hB dep => gs_neq_int (want_none rfl) _ _ _ _ rfl _ _ _ (dep 0 rfl 70 rfl) rfl (id (congrArg Value.bool (by decide)))) ?_
          refine Steps.cons (fun a' w' hG hB dep => gs_move (want_none rfl) _ rfl (id (dep 1 rfl 71 rfl))) ?_
          refine Steps.cons (fun a' w' hG hB dep => gs_guard (c := true) (b' := false) rfl rfl (dep 2 rfl 72 rfl) (fun hc he hw => gs_move hw _ rfl (Eq.trans (hG.other 7 rfl) (vF_yes (on_g hc he) _).symm)) (fun hn => vF_no hn _)) ?_
          refine Steps.cons (fun a' w' hG hB dep => gs_guard (c := true) (b' := false) rfl rfl (dep 2 rfl 72 rfl) (fun hc he hw => gs_move hw _ rfl (Eq.trans (hG.other 10 rfl) (vF_yes (on_g hc he) _).symm)) (fun hn => vF_no hn _)) ?_
          refine Steps.cons (fun a' w' hG hB dep => gs_guard (c := true) (b' := false) rfl rfl (dep 2 rfl 72 rfl) (fun hc he hw => gs_lss_int hw _ _ _ _ rfl _ _ _ (Eq.trans (dep 4 rfl 74 rfl) (vF_yes (on_g hc he) _)) rfl (Eq.trans (congrArg Value.bool (by decide)) (vF_yes (on_g hc he) _).symm)) (fun hn => vF_no hn _)) ?_
          refine Steps.cons (fun a' w' hG hB dep => gs_guard (c := true) (b' := false) rfl rfl (dep 2 rfl 72 rfl) (fun hc he hw => gs_neq_bool hw _ _ _ rfl _ _ (Eq.trans (dep 3 rfl 73 rfl) (vF_yes (on_g hc he) _)) (Eq.trans (dep 5 rfl 75 rfl) (vF_yes (on_g hc he) _)) (Eq.trans (congrArg Value.bool rfl) (vF_yes (on_g hc he) _).symm)) (fun hn => vF_no hn _)) ?_
          refine Steps.cons (fun a' w' hG hB dep => gs_pick (want_none rfl) _ _ _ rfl false (dep 2 rfl 72 rfl) (id (pick_or2 (c := true) rfl (dep 6 rfl 76 rfl)))) ?_
          exact Steps.nil
        intro u wb hwb ans
        have hus77 : u 77 = (.bool (false || false)) := ans 7 77 (by decide) rfl
        clear ans
        simp only [putAll, List.foldl_cons, List.foldl_nil, Act.put, List.setIfInBounds_toArray, List.set_cons_zero, List.set_cons_succ, hus77]
        clear hus77
        simp only [List.drop]
        refine wpList_nil ?_
        replace hB1 := below_then hB1 hwb
        have he5 : (false || false) = false := rfl
        rw [he5]
        clear he5
        go_upto_region 16 with (fail)
        refine wp_region_text 3 [eqS (.string ⟨#[]⟩), eqS (.bool true), eqS (.bool true)] [79, 80, 4] (by kernel_rfl) rfl ?_ ?_
        · skip
          refine Steps.cons (fun a' w' hG hB dep => gs_move (want_none rfl) _ rfl (id (hG.other 8 rfl))) ?_
          refine Steps.cons (fun a' w' hG hB dep => gs_eql_str (want_none rfl) _ _ _ _ rfl _ _ (dep 0 rfl 79 rfl) rfl (id (congrArg Value.bool (beq_self_eq_true _)))) ?_
          refine Steps.cons (fun a' w' hG hB dep => gs_assign (want_none rfl) _ rfl (id (dep 1 rfl 80 rfl))) ?_
          exact Steps.nil
        intro u wd hwd ans
        have hus4 : u 4 = (.bool true) := ans 2 4 (by decide) rfl
        clear ans
        simp only [putAll, List.foldl_cons, List.foldl_nil, Act.put, List.setIfInBounds_toArray, List.set_cons_zero, List.set_cons_succ, hus4]
        clear hus4
        simp only [List.drop]
        refine wpList_nil ?_
        replace hB1 := below_then hB1 hwd
        go_wp2_with (fail)
        go_ret
        exact ⟨rfl, hB1⟩
      · obtain ⟨n, rfl, hn16, ⟨u2, hu2, hul⟩, hum⟩ : ∃ n : Nat, rr = n ∧ n ≤ 1600 ∧ (∃ u, Tells x.T.au y.T.au u ∧ u.length = n) ∧ ∀ u, Tells x.T.au y.T.au u → n ≤ u.length := by
          rcases hans with ⟨_, h⟩ | h
          · exact absurd htu (h u)
          · exact h
        have hlen : u.length = n := by
          have := hum u htu
          have := hmin u2 hu2
          omega
        have hsz : ln.size = n := by rw [hln, bytesU_size, hlen]
        have hchr : ∀ i, i < n → chr ln i ≠ 10 := fun i hi => by
          rw [hln, bytesU_chr htu.1 (by omega)]
          exact (htu.1 _ (List.getElem_mem (show i < u.length by omega))).2
        have hbn : bytesN ln = u := by rw [hln]; exact bytesU_all htu.1
        have hend : endOf x ln ≠ endOf y ln := by
          have := htu.2
          unfold endOf
          rw [hbn]
          exact this
        clear hv3 hans hum hmin hu2 hul hlen hln hbn htu
        refine wp_region_text 8 [eqS (.int .i64 (0)), eqS (.bool false), eqS (.bool false), eqS (vF (true && (false == false)) (.bool false)), eqS (vF (true && (false == false)) (.int .i64 (((n : Nat) : Int)))), eqS (vF (true && (false == false)) (.bool false)), eqS (vF (true && (false == false)) (.bool false)), eqS (.bool (false || false))] [70, 71, 72, 73, 74, 75, 76, 77] (by kernel_rfl) rfl ?_ ?_
        · skip
          refine Steps.cons (fun a' w' hG hB dep => gs_move (want_none rfl) _ rfl (id (hG.other 9 rfl))) ?_
          refine Steps.cons (fun a' w' hG hB dep => gs_neq_int (want_none rfl) _ _ _ _ rfl _ _ _ (dep 0 rfl 70 rfl) rfl (id (congrArg Value.bool (by decide)))) ?_
          refine Steps.cons (fun a' w' hG hB dep => gs_move (want_none rfl) _ rfl (id (dep 1 rfl 71 rfl))) ?_
          refine Steps.cons (fun a' w' hG hB dep => gs_guard (c := true) (b' := false) rfl rfl (dep 2 rfl 72 rfl) (fun hc he hw => gs_move hw _ rfl (Eq.trans (hG.other 7 rfl) (vF_yes (on_g hc he) _).symm)) (fun hn => vF_no hn _)) ?_
          refine Steps.cons (fun a' w' hG hB dep => gs_guard (c := true) (b' := false) rfl rfl (dep 2 rfl 72 rfl) (fun hc he hw => gs_move hw _ rfl (Eq.trans (hG.other 10 rfl) (vF_yes (on_g hc he) _).symm)) (fun hn => vF_no hn _)) ?_
          refine Steps.cons (fun a' w' hG hB dep => gs_guard (c := true) (b' := false) rfl rfl (dep 2 rfl 72 rfl) (fun hc he hw => gs_lss_int hw _ _ _ _ rfl _ _ _ (Eq.trans (dep 4 rfl 74 rfl) (vF_yes (on_g hc he) _)) rfl (Eq.trans (congrArg Value.bool (by simp)) (vF_yes (on_g hc he) _).symm)) (fun hn => vF_no hn _)) ?_
          refine Steps.cons (fun a' w' hG hB dep => gs_guard (c := true) (b' := false) rfl rfl (dep 2 rfl 72 rfl) (fun hc he hw => gs_neq_bool hw _ _ _ rfl _ _ (Eq.trans (dep 3 rfl 73 rfl) (vF_yes (on_g hc he) _)) (Eq.trans (dep 5 rfl 75 rfl) (vF_yes (on_g hc he) _)) (Eq.trans (congrArg Value.bool rfl) (vF_yes (on_g hc he) _).symm)) (fun hn => vF_no hn _)) ?_
          refine Steps.cons (fun a' w' hG hB dep => gs_pick (want_none rfl) _ _ _ rfl false (dep 2 rfl 72 rfl) (id (pick_or2 (c := true) rfl (dep 6 rfl 76 rfl)))) ?_
          exact Steps.nil
        intro uu wb hwb ans
        have hus77 : uu 77 = (.bool (false || false)) := ans 7 77 (by decide) rfl
        clear ans
        simp only [putAll, List.foldl_cons, List.foldl_nil, Act.put, List.setIfInBounds_toArray, List.set_cons_zero, List.set_cons_succ, hus77]
        clear hus77
        simp only [List.drop]
        refine wpList_nil ?_
        replace h2 := blk_then h2 hwb
        replace h3 := blk_then h3 hwb
        replace hB1 := below_then hB1 hwb
        clear hwb
        have he5 : (false || false) = false := rfl
        rw [he5]
        clear he5
        have hszI : ((ln.size : Nat) : Int) = (n : Int) := by rw [hsz]
        go_upto_region 19 with (fail)
        clear hszI
        replace hsz := Lib.hid hsz
        replace hend := Lib.hid hend
        go_wp2_with (fail)
        go_loopw [11] (fun iv wr => ∃ i : Nat, i ≤ ln.size ∧ iv = .int .i64 i ∧ Below w.heap.size w wr ∧ Blk wr g2 47 (dfaC x.f x.A x.rs.length x.c x.B x.fo.length x.d x.C x.en.length x.e) ∧ Blk wr g3 47 (dfaC y.f y.A y.rs.length y.c y.B y.fo.length y.d y.C y.en.length y.e)) (fun iv _ => ln.size - (intOf iv).toNat)
        case atStart => exact ⟨0, by omega, rfl, hB1, h2, h3⟩
        case round =>
          clear hB1 h2 h3
          obtain ⟨i, hi, rfl, hB1, h2, h3⟩ := hrel
          have hl16 : ln.size ≤ 1600 := by rw [hsz.out]; exact hn16
          by_cases hil : i < ln.size
          · have hiI : (i : Int) < ln.size := by omega
            have hc := hchr i (by rw [← hsz.out]; exact hil)
            unfold chr at hc
            rw [dif_pos hil] at hc
            have hcI : ¬ ((ln[i].toNat : Nat) : Int) = 10 := by omega
            go_wp2_with (fail)
            exact ⟨⟨i + 1, by omega, rfl, hB1, h2, h3⟩, by simp only [intOf]; omega⟩
          · have hiI : ¬ (i : Int) < ln.size := by omega
            have hr1 := run_any x hFx ln (by omega) wr (hX.then_ hB1)
            unfold TV.C' at hr1
            go_upto_region 25 with (first
              | (refine wl_load_dfa rfl _ rfl g2 rfl h2 ?_)
              | (go_at_call 34; refine hr1.mono ?_; rintro e wd ⟨rfl, hBd⟩))
            replace h3 := blk_then h3 hBd
            replace hB1 := below_then hB1 hBd
            clear hr1 hBd h2
            have hr1 := run_any y hFy ln (by omega) wd (hY.then_ hB1)
            unfold TV.C' at hr1
            go_upto_region 26 with (first
              | (refine wl_load_dfa rfl _ rfl g3 rfl h3 ?_)
              | (go_at_call 34; refine hr1.mono ?_; rintro e we ⟨rfl, hBd⟩))
            replace hB1 := below_then hB1 hBd
            clear hr1 hBd h3
            obtain ⟨v1, hv1⟩ : ∃ v, endOf x ln = v := ⟨_, rfl⟩
            obtain ⟨v2, hv2⟩ : ∃ v, endOf y ln = v := ⟨_, rfl⟩
            have hne := hend.out
            rw [hv1, hv2] at hne ⊢
            have hv12 : (((v1 : Nat) : Int) != ((v2 : Nat) : Int)) = true := by
              rw [bne_iff_ne]
              omega
            clear hv1 hv2 hend
            refine wp_region_text 12 [eqS (.int .i64 (0)), eqS (.bool true), eqS (.bool true), eqS (vF (true && (true == true)) (.int .i64 (0))), eqS (vF (true && (true == true)) (.bool true)), eqS (.bool (true && true)), eqS (.bool (true && true)), eqS (vF (true && ((true && true) == true)) (.int .u32 (((v1 : Nat) : Int)))), eqS (vF (true && ((true && true) == true)) (.int .u32 (((v2 : Nat) : Int)))), eqS (vF (true && ((true && true) == true)) (.bool true)), eqS (.bool ((true && true) && true)), eqS (.bool ((true && true) && true))] [107, 108, 109, 110, 111, 112, 113, 114, 115, 116, 117, 4] (by kernel_rfl) rfl ?_ ?_
            · skip
              refine Steps.cons (fun a' w' hG hB dep => gs_move (want_none rfl) _ rfl (id (hG.other 13 rfl))) ?_
              refine Steps.cons (fun a' w' hG hB dep => gs_eql_int (want_none rfl) _ _ _ _ rfl _ _ _ (dep 0 rfl 107 rfl) rfl (id (congrArg Value.bool (by decide)))) ?_
              refine Steps.cons (fun a' w' hG hB dep => gs_move (want_none rfl) _ rfl (id (dep 1 rfl 108 rfl))) ?_
              refine Steps.cons (fun a' w' hG hB dep => gs_guard (c := true) (b' := true) rfl rfl (dep 2 rfl 109 rfl) (fun hc he hw => gs_move hw _ rfl (Eq.trans (hG.other 15 rfl) (vF_yes (on_g hc he) _).symm)) (fun hn => vF_no hn _)) ?_
              refine Steps.cons (fun a' w' hG hB dep => gs_guard (c := true) (b' := true) rfl rfl (dep 2 rfl 109 rfl) (fun hc he hw => gs_eql_int hw _ _ _ _ rfl _ _ _ (Eq.trans (dep 3 rfl 110 rfl) (vF_yes (on_g hc he) _)) rfl (Eq.trans (congrArg Value.bool (by decide)) (vF_yes (on_g hc he) _).symm)) (fun hn => vF_no hn _)) ?_
              refine Steps.cons (fun a' w' hG hB dep => gs_pick (want_none rfl) _ _ _ rfl true (dep 2 rfl 109 rfl) (id (pick_and2 (c := true) rfl (dep 4 rfl 111 rfl)))) ?_
              refine Steps.cons (fun a' w' hG hB dep => gs_move (want_none rfl) _ rfl (id (dep 5 rfl 112 rfl))) ?_
              refine Steps.cons (fun a' w' hG hB dep => gs_guard (c := true) (b' := (true && true)) rfl rfl (dep 6 rfl 113 rfl) (fun hc he hw => gs_move hw _ rfl (Eq.trans (hG.other 12 rfl) (vF_yes (on_g hc he) _).symm)) (fun hn => vF_no hn _)) ?_
              refine Steps.cons (fun a' w' hG hB dep => gs_guard (c := true) (b' := (true && true)) rfl rfl (dep 6 rfl 113 rfl) (fun hc he hw => gs_move hw _ rfl (Eq.trans (hG.other 14 rfl) (vF_yes (on_g hc he) _).symm)) (fun hn => vF_no hn _)) ?_
              refine Steps.cons (fun a' w' hG hB dep => gs_guard (c := true) (b' := (true && true)) rfl rfl (dep 6 rfl 113 rfl) (fun hc he hw => gs_neq_int hw _ _ _ _ rfl _ _ _ (Eq.trans (dep 7 rfl 114 rfl) (vF_yes (on_g hc he) _)) (Eq.trans (dep 8 rfl 115 rfl) (vF_yes (on_g hc he) _)) (Eq.trans (congrArg Value.bool hv12) (vF_yes (on_g hc he) _).symm)) (fun hn => vF_no hn _)) ?_
              refine Steps.cons (fun a' w' hG hB dep => gs_pick (want_none rfl) _ _ _ rfl (true && true) (dep 6 rfl 113 rfl) (id (pick_and2 (c := true) rfl (dep 9 rfl 116 rfl)))) ?_
              refine Steps.cons (fun a' w' hG hB dep => gs_assign (want_none rfl) _ rfl (id (dep 10 rfl 117 rfl))) ?_
              exact Steps.nil
            intro uu wz hwz ans
            have hus4 : uu 4 = (.bool ((true && true) && true)) := ans 11 4 (by decide) rfl
            clear ans
            simp only [putAll, List.foldl_cons, List.foldl_nil, Act.put, List.setIfInBounds_toArray, List.set_cons_zero, List.set_cons_succ, hus4]
            clear hus4
            simp only [List.drop]
            refine wpList_nil ?_
            replace hB1 := below_then hB1 hwz
            have he5 : ((true && true) && true) = true := rfl
            rw [he5]
            go_wp2_with (fail)
            go_ret
            exact ⟨rfl, hB1⟩
end Go.Proofs.Ytgahdookojbbiaa
