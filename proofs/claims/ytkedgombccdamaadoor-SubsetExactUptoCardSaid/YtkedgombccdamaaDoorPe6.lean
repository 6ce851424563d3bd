/- Part 6 of a proof; packed: the texts that it was made of follow one another. No condition beyond those named in each lemma. -/
import Derived.Test.YtkedgombccdamaaDoorPe5
namespace Go.Proofs.YtkedgombccdamaaDoor
open Go.RowKit Go.Maps
set_option linter.unusedVariables false
set_option linter.unusedSimpArgs false
attribute [local go_sem] Oper.semAt_some

noncomputable def fitsB (T : Tb) : Bool := @decide (s_Fits T) (Classical.propDecidable _)
theorem fitsB_yes {T : Tb} (h : s_Fits T) : fitsB T = true := @decide_eq_true _ (Classical.propDecidable _) h
theorem fitsB_no {T : Tb} (h : ¬ s_Fits T) : fitsB T = false := @decide_eq_false _ (Classical.propDecidable _) h
/-- a state's number fits -/
def ToOk (T : Tb) (s : Nat) (z : Int) : Prop := 0 ≤ z ∧ z < T.nx.length ∧ T.fo.getD s 0 &&& T.fo.getD z.toNat 0 = T.fo.getD s 0
def RowOk (T : Tb) (s : Nat) : Prop := (T.nx.getD s []).length = T.many ∧ T.fo.getD s 0 &&& T.en.getD s 0 = T.fo.getD s 0
theorem fits_of {T : Tb} (h1 : 1 ≤ T.nx.length) (h2 : T.nx.length ≤ 4096) (h3 : T.fo.length = T.nx.length) (h4 : T.en.length = T.nx.length) (h5 : 1 ≤ T.many) (h6 : T.many ≤ 256) (h7 : ∀ b, b < 256 → 0 ≤ T.cls b ∧ T.cls b < T.many)
    (h8 : ∀ s, s < T.nx.length → RowOk T s ∧ ∀ c, c < T.many → ToOk T s (T.nxt s (c : Nat))) : s_Fits T :=
  ⟨h1, h2, h3, h4, h5, h6, h7, fun s hs => (h8 s hs).1.1, fun s hs => (h8 s hs).1.2, fun s c hs hc => (h8 s hs).2 c hc⟩
theorem s_row_at {x : TV} {s : Nat} (hs : s < x.rs.length) : x.T.nx.getD s [] = x.rs[s].l := by
  have hs2 : s < (x.rs.map (·.l)).length := by simpa using hs
  show (x.rs.map (·.l)).getD s [] = _
  rw [getD_at _ _ hs2, List.getElem_map]
theorem many_at {x : TV} (hs : 0 < x.rs.length) : x.T.many = x.rs[0].l.length := by
  unfold Tb.many
  rw [s_row_at hs]
theorem bne_nat (a b : Nat) : ((a : Int) != (b : Int)) = decide (a ≠ b) := by
  by_cases e : a = b
  · subst e; simp
  · simp [e]; omega
set_option maxRecDepth 100000 in
set_option maxHeartbeats 4000000 in
theorem rright_any (x : TV) (w : World) (hT : TabIn w w.heap.size x) :
    Calls Tryd.prog 16 #[.agg x.C'] w fun e w' => e = .returned (.bool (fitsB x.T)) ∧ Below w.heap.size w w' := by
  unfold TV.C'
  go_enter Tryd.func16, Tryd.ntmps16
  obtain ⟨A, hA⟩ : ∃ A, A = x.A := ⟨_, rfl⟩
  have h1 := Blk.new w 33 (dfaC x.f x.A x.rs.length x.c x.B x.fo.length x.d x.C x.en.length x.e)
  have hB1 := below_alloc (Below.refl w.heap.size w) (.cells (dfaC x.f x.A x.rs.length x.c x.B x.fo.length x.d x.C x.en.length x.e) 33)
  go_upto_region 1 with (fail)
  obtain ⟨w1, hw1⟩ : ∃ y, y = w.alloc (.cells (dfaC x.f x.A x.rs.length x.c x.B x.fo.length x.d x.C x.en.length x.e) 33) := ⟨_, rfl⟩
  rw [← hw1] at h1 hB1 ⊢
  clear hw1 hA A
  have c1 : w1.cell? ⟨w.heap.size, 256, none⟩ = some (.slice x.A x.rs.length x.c) := blk_d1 h1
  go_upto_region 2 with (fail)
  clear c1
  obtain ⟨p1, hp1⟩ : ∃ p, decide (((x.rs.length : Nat) : Int) < 1) = p := ⟨_, rfl⟩
  obtain ⟨p2, hp2⟩ : ∃ p, decide (((x.rs.length : Nat) : Int) > 4096) = p := ⟨_, rfl⟩
  obtain ⟨p3, hp3⟩ : ∃ p, (((x.fo.length : Nat) : Int) != ((x.rs.length : Nat) : Int)) = p := ⟨_, rfl⟩
  obtain ⟨p4, hp4⟩ : ∃ p, (((x.en.length : Nat) : Int) != ((x.rs.length : Nat) : Int)) = p := ⟨_, rfl⟩
  refine wp_region_text 20 [eqS (.int .i64 (((x.rs.length : Nat) : Int))), eqS (.bool p1), eqS (.bool p1), eqS (vF (true && (p1 == false)) (.int .i64 (((x.rs.length : Nat) : Int)))), eqS (vF (true && (p1 == false)) (.bool p2)), eqS (.bool (p1 || p2)), eqS (.bool (p1 || p2)), eqS (vF (true && ((p1 || p2) == false)) (.pointer (some ⟨w.heap.size, 257, none⟩))), eqS (vF (true && ((p1 || p2) == false)) (.slice x.B x.fo.length x.d)), eqS (vF (true && ((p1 || p2) == false)) (.int .i64 (((x.fo.length : Nat) : Int)))), eqS (vF (true && ((p1 || p2) == false)) (.int .i64 (((x.rs.length : Nat) : Int)))), eqS (vF (true && ((p1 || p2) == false)) (.bool p3)), eqS (.bool ((p1 || p2) || p3)), eqS (.bool ((p1 || p2) || p3)), eqS (vF (true && (((p1 || p2) || p3) == false)) (.pointer (some ⟨w.heap.size, 258, none⟩))), eqS (vF (true && (((p1 || p2) || p3) == false)) (.slice x.C x.en.length x.e)), eqS (vF (true && (((p1 || p2) || p3) == false)) (.int .i64 (((x.en.length : Nat) : Int)))), eqS (vF (true && (((p1 || p2) || p3) == false)) (.int .i64 (((x.rs.length : Nat) : Int)))), eqS (vF (true && (((p1 || p2) || p3) == false)) (.bool p4)), eqS (.bool (((p1 || p2) || p3) || p4))] [12, 13, 14, 15, 16, 17, 18, 19, 20, 21, 22, 23, 24, 25, 26, 27, 28, 29, 30, 31] (by kernel_rfl) rfl ?_ ?_
  · skip
    refine Steps.cons (fun a' w' hG hB dep => gs_move (want_none rfl) _ rfl (id (hG.other 3 rfl))) ?_
    refine Steps.cons (fun a' w' hG hB dep => gs_lss_int (want_none rfl) _ _ _ _ rfl _ _ _ (dep 0 rfl 12 rfl) rfl (id (congrArg Value.bool hp1))) ?_
    refine Steps.cons (fun a' w' hG hB dep => gs_move (want_none rfl) _ rfl (id (dep 1 rfl 13 rfl))) ?_
    refine Steps.cons (fun a' w' hG hB dep => gs_guard (c := true) (b' := p1) rfl rfl (dep 2 rfl 14 rfl) (fun hc he hw => gs_move hw _ rfl (Eq.trans (hG.other 3 rfl) (vF_yes (on_g hc he) _).symm)) (fun hn => vF_no hn _)) ?_
    refine Steps.cons (fun a' w' hG hB dep => gs_guard (c := true) (b' := p1) rfl rfl (dep 2 rfl 14 rfl) (fun hc he hw => gs_gtr_int hw _ _ _ _ rfl _ _ _ (Eq.trans (dep 3 rfl 15 rfl) (vF_yes (on_g hc he) _)) rfl (Eq.trans (congrArg Value.bool hp2) (vF_yes (on_g hc he) _).symm)) (fun hn => vF_no hn _)) ?_
    refine Steps.cons (fun a' w' hG hB dep => gs_pick (want_none rfl) _ _ _ rfl p1 (dep 2 rfl 14 rfl) (id (pick_or2 (c := true) rfl (dep 4 rfl 16 rfl)))) ?_
    refine Steps.cons (fun a' w' hG hB dep => gs_move (want_none rfl) _ rfl (id (dep 5 rfl 17 rfl))) ?_
    refine Steps.cons (fun a' w' hG hB dep => gs_guard (c := true) (b' := (p1 || p2)) rfl rfl (dep 6 rfl 18 rfl) (fun hc he hw => gs_field hw _ _ _ rfl w.heap.size (0) (257) (hG.other 1 rfl) (fun wz => field_dfa_2 w.heap.size (0) wz) (vF_yes (on_g hc he) _).symm) (fun hn => vF_no hn _)) ?_
    refine Steps.cons (fun a' w' hG hB dep => gs_guard (c := true) (b' := (p1 || p2)) rfl rfl (dep 6 rfl 18 rfl) (fun hc he hw => gs_load1 hw _ _ rfl w.heap.size (257) (Eq.trans (dep 7 rfl 19 rfl) (vF_yes (on_g hc he) _)) (.slice x.B x.fo.length x.d) (blk_d2 (blk_then h1 hB)) _ Tryd.underlying23 rfl (vF_yes (on_g hc he) _).symm) (fun hn => vF_no hn _)) ?_
    refine Steps.cons (fun a' w' hG hB dep => gs_guard (c := true) (b' := (p1 || p2)) rfl rfl (dep 6 rfl 18 rfl) (fun hc he hw => gs_len hw _ _ rfl under_rules _ x.fo.length x.d (Eq.trans (dep 8 rfl 20 rfl) (vF_yes (on_g hc he) _)) (vF_yes (on_g hc he) _).symm) (fun hn => vF_no hn _)) ?_
    refine Steps.cons (fun a' w' hG hB dep => gs_guard (c := true) (b' := (p1 || p2)) rfl rfl (dep 6 rfl 18 rfl) (fun hc he hw => gs_move hw _ rfl (Eq.trans (hG.other 3 rfl) (vF_yes (on_g hc he) _).symm)) (fun hn => vF_no hn _)) ?_
    refine Steps.cons (fun a' w' hG hB dep => gs_guard (c := true) (b' := (p1 || p2)) rfl rfl (dep 6 rfl 18 rfl) (fun hc he hw => gs_neq_int hw _ _ _ _ rfl _ _ _ (Eq.trans (dep 9 rfl 21 rfl) (vF_yes (on_g hc he) _)) (Eq.trans (dep 10 rfl 22 rfl) (vF_yes (on_g hc he) _)) (Eq.trans (congrArg Value.bool hp3) (vF_yes (on_g hc he) _).symm)) (fun hn => vF_no hn _)) ?_
    refine Steps.cons (fun a' w' hG hB dep => gs_pick (want_none rfl) _ _ _ rfl (p1 || p2) (dep 6 rfl 18 rfl) (id (pick_or2 (c := true) rfl (dep 11 rfl 23 rfl)))) ?_
    refine Steps.cons (fun a' w' hG hB dep => gs_move (want_none rfl) _ rfl (id (dep 12 rfl 24 rfl))) ?_
    refine Steps.cons (fun a' w' hG hB dep => gs_guard (c := true) (b' := ((p1 || p2) || p3)) rfl rfl (dep 13 rfl 25 rfl) (fun hc he hw => gs_field hw _ _ _ rfl w.heap.size (0) (258) (hG.other 1 rfl) (fun wz => field_dfa_3 w.heap.size (0) wz) (vF_yes (on_g hc he) _).symm) (fun hn => vF_no hn _)) ?_
    refine Steps.cons (fun a' w' hG hB dep => gs_guard (c := true) (b' := ((p1 || p2) || p3)) rfl rfl (dep 13 rfl 25 rfl) (fun hc he hw => gs_load1 hw _ _ rfl w.heap.size (258) (Eq.trans (dep 14 rfl 26 rfl) (vF_yes (on_g hc he) _)) (.slice x.C x.en.length x.e) (blk_d3 (blk_then h1 hB)) _ Tryd.underlying23 rfl (vF_yes (on_g hc he) _).symm) (fun hn => vF_no hn _)) ?_
    refine Steps.cons (fun a' w' hG hB dep => gs_guard (c := true) (b' := ((p1 || p2) || p3)) rfl rfl (dep 13 rfl 25 rfl) (fun hc he hw => gs_len hw _ _ rfl under_rules _ x.en.length x.e (Eq.trans (dep 15 rfl 27 rfl) (vF_yes (on_g hc he) _)) (vF_yes (on_g hc he) _).symm) (fun hn => vF_no hn _)) ?_
    refine Steps.cons (fun a' w' hG hB dep => gs_guard (c := true) (b' := ((p1 || p2) || p3)) rfl rfl (dep 13 rfl 25 rfl) (fun hc he hw => gs_move hw _ rfl (Eq.trans (hG.other 3 rfl) (vF_yes (on_g hc he) _).symm)) (fun hn => vF_no hn _)) ?_
    refine Steps.cons (fun a' w' hG hB dep => gs_guard (c := true) (b' := ((p1 || p2) || p3)) rfl rfl (dep 13 rfl 25 rfl) (fun hc he hw => gs_neq_int hw _ _ _ _ rfl _ _ _ (Eq.trans (dep 16 rfl 28 rfl) (vF_yes (on_g hc he) _)) (Eq.trans (dep 17 rfl 29 rfl) (vF_yes (on_g hc he) _)) (Eq.trans (congrArg Value.bool hp4) (vF_yes (on_g hc he) _).symm)) (fun hn => vF_no hn _)) ?_
    refine Steps.cons (fun a' w' hG hB dep => gs_pick (want_none rfl) _ _ _ rfl ((p1 || p2) || p3) (dep 13 rfl 25 rfl) (id (pick_or2 (c := true) rfl (dep 18 rfl 30 rfl)))) ?_
    exact Steps.nil
  intro u w2 hw2 ans
  have hus31 : u 31 = (.bool (((p1 || p2) || p3) || p4)) := ans 19 31 (by decide) rfl
  clear ans
  simp only [putAll, List.foldl_cons, List.foldl_nil, Act.put, List.setIfInBounds_toArray, List.set_cons_zero, List.set_cons_succ, hus31]
  clear hus31
  simp only [List.drop]
  refine wpList_nil ?_
  have hB2 := below_then hB1 hw2
  replace h1 := blk_then h1 hw2
  clear hw2 hB1
  obtain ⟨r, hr⟩ : ∃ r, (((p1 || p2) || p3) || p4) = r := ⟨_, rfl⟩
  rw [hr]
  cases r with
  | true =>
    have hno : ¬ s_Fits x.T := fun hF => by
      have e1 := hF.n1
      have e2 := hF.n2
      have e3 := hF.nf
      have e4 := hF.ne
      rw [fits_n] at e1 e2 e3 e4
      replace e3 : x.fo.length = x.rs.length := e3
      replace e4 : x.en.length = x.rs.length := e4
      have q1 : p1 = false := by rw [← hp1]; exact decide_eq_false (by omega)
      have q2 : p2 = false := by rw [← hp2]; exact decide_eq_false (by omega)
      have q3 : p3 = false := by rw [← hp3, e3]; exact bne_self_eq_false _
      have q4 : p4 = false := by rw [← hp4, e4]; exact bne_self_eq_false _
      rw [q1, q2, q3, q4] at hr
      cases hr
    have hv := Lib.hid (fitsB_no hno)
    clear hr hp1 hp2 hp3 hp4
    go_wp2_with (fail)
    go_ret
    exact ⟨by rw [hv.out]; rfl, hB2⟩
  | false =>
    simp only [Bool.or_eq_false_iff] at hr
    obtain ⟨⟨⟨rfl, rfl⟩, rfl⟩, rfl⟩ := hr
    have n1 : 1 ≤ x.rs.length := by have := of_decide_eq_false hp1; omega
    have n2 : x.rs.length ≤ 4096 := by have := of_decide_eq_false hp2; omega
    have n3 : x.fo.length = x.rs.length := by rw [bne_nat] at hp3; exact Decidable.not_not.1 (of_decide_eq_false hp3)
    have n4 : x.en.length = x.rs.length := by rw [bne_nat] at hp4; exact Decidable.not_not.1 (of_decide_eq_false hp4)
    clear hp1 hp2 hp3 hp4
    replace n3 := Lib.hid n3
    replace n4 := Lib.hid n4
    obtain ⟨bN, oN, hA, hbN, hrows⟩ := hT.rows.at_ (by omega)
    have c1 : w2.cell? ⟨w.heap.size, 256, none⟩ = some (.slice (some ⟨bN, oN, none⟩) x.rs.length x.c) := by rw [← hA]; exact blk_d1 h1
    have c2 : w2.cell? ⟨bN, oN, none⟩ = some (.slice x.rs[0].a x.rs[0].l.length x.rs[0].c) := by
      have c2' : w2.cell? ⟨bN, oN + 0 * 1 + 0, none⟩ = some (.slice x.rs[0].a x.rs[0].l.length x.rs[0].c) := cell_keep (hrows 0 (by omega) 0 _ rfl) hbN hB2
      simpa using c2'
    have hmany := many_at (x := x) (by omega)
    obtain ⟨m, hm⟩ : ∃ m, m = x.rs[0].l.length := ⟨_, rfl⟩
    rw [← hm] at hmany c2
    have Hm := Lib.hid hm
    have Hmany := Lib.hid hmany
    clear hm hmany
    have hn1 : (0 : Int) < x.rs.length := by omega
    replace hA := Lib.hid hA
    go_upto_region 5 with (fail)
    clear c1 c2
    obtain ⟨p5, hp5⟩ : ∃ p, decide (((m : Nat) : Int) < 1) = p := ⟨_, rfl⟩
    obtain ⟨p6, hp6⟩ : ∃ p, decide (((m : Nat) : Int) > 256) = p := ⟨_, rfl⟩
    refine wp_region_text 6 [eqS (.int .i64 (((m : Nat) : Int))), eqS (.bool p5), eqS (.bool p5), eqS (vF (true && (p5 == false)) (.int .i64 (((m : Nat) : Int)))), eqS (vF (true && (p5 == false)) (.bool p6)), eqS (.bool (p5 || p6))] [37, 38, 39, 40, 41, 42] (by kernel_rfl) rfl ?_ ?_
    · skip
      refine Steps.cons (fun a' w' hG hB dep => gs_move (want_none rfl) _ rfl (id (hG.other 4 rfl))) ?_
      refine Steps.cons (fun a' w' hG hB dep => gs_lss_int (want_none rfl) _ _ _ _ rfl _ _ _ (dep 0 rfl 37 rfl) rfl (id (congrArg Value.bool hp5))) ?_
      refine Steps.cons (fun a' w' hG hB dep => gs_move (want_none rfl) _ rfl (id (dep 1 rfl 38 rfl))) ?_
      refine Steps.cons (fun a' w' hG hB dep => gs_guard (c := true) (b' := p5) rfl rfl (dep 2 rfl 39 rfl) (fun hc he hw => gs_move hw _ rfl (Eq.trans (hG.other 4 rfl) (vF_yes (on_g hc he) _).symm)) (fun hn => vF_no hn _)) ?_
      refine Steps.cons (fun a' w' hG hB dep => gs_guard (c := true) (b' := p5) rfl rfl (dep 2 rfl 39 rfl) (fun hc he hw => gs_gtr_int hw _ _ _ _ rfl _ _ _ (Eq.trans (dep 3 rfl 40 rfl) (vF_yes (on_g hc he) _)) rfl (Eq.trans (congrArg Value.bool hp6) (vF_yes (on_g hc he) _).symm)) (fun hn => vF_no hn _)) ?_
      refine Steps.cons (fun a' w' hG hB dep => gs_pick (want_none rfl) _ _ _ rfl p5 (dep 2 rfl 39 rfl) (id (pick_or2 (c := true) rfl (dep 4 rfl 41 rfl)))) ?_
      exact Steps.nil
    intro u w3 hw3 ans
    have hus42 : u 42 = (.bool (p5 || p6)) := ans 5 42 (by decide) rfl
    clear ans
    simp only [putAll, List.foldl_cons, List.foldl_nil, Act.put, List.setIfInBounds_toArray, List.set_cons_zero, List.set_cons_succ, hus42]
    clear hus42
    simp only [List.drop]
    refine wpList_nil ?_
    have hB3 := below_then hB2 hw3
    replace h1 := blk_then h1 hw3
    clear hw3 hB2
    obtain ⟨r, hr⟩ : ∃ r, (p5 || p6) = r := ⟨_, rfl⟩
    rw [hr]
    cases r with
    | true =>
      have hno : ¬ s_Fits x.T := fun hF => by
        have e1 := hF.m1
        have e2 := hF.m2
        rw [Hmany.out] at e1 e2
        have q1 : p5 = false := by rw [← hp5]; exact decide_eq_false (by omega)
        have q2 : p6 = false := by rw [← hp6]; exact decide_eq_false (by omega)
        rw [q1, q2] at hr
        cases hr
      have hv := Lib.hid (fitsB_no hno)
      clear hr hp5 hp6
      go_wp2_with (fail)
      go_ret
      exact ⟨by rw [hv.out]; rfl, hB3⟩
    | false =>
      simp only [Bool.or_eq_false_iff] at hr
      obtain ⟨rfl, rfl⟩ := hr
      have m1 : 1 ≤ m := by have := of_decide_eq_false hp5; omega
      have m2 : m ≤ 256 := by have := of_decide_eq_false hp6; omega
      clear hp5 hp6
      go_upto_region 8 with (fail)
      go_loopw [5] (fun iv wr => ∃ b : Nat, b ≤ 256 ∧ iv = .int .i64 b ∧ Below w3.heap.size w3 wr ∧ (∀ j, j < b → 0 ≤ x.f j ∧ x.f j < m)) (fun iv _ => 256 - (intOf iv).toNat)
      case atStart => exact ⟨0, by omega, rfl, Below.refl _ _, fun j hj => by omega⟩
      case round =>
        obtain ⟨b, hb, rfl, hBw, hall⟩ := hrel
        replace hall := Lib.hid hall
        replace h1 := blk_then h1 hBw
        by_cases hbl : b < 256
        · have hbI : (b : Int) < 256 := by omega
          obtain ⟨z, hz⟩ : ∃ z, z = x.f b := ⟨_, rfl⟩
          have c0 : ∀ {X : World}, Below wr.heap.size wr X → X.cell? ⟨w.heap.size, 0 + b * 1, none⟩ = some (.int .i64 z) := fun hB => by
            rw [hz]
            exact blk_cls (blk_then h1 hB) hbl
          replace hz := Lib.hid hz
          go_upto_region 10 with (fail)
          obtain ⟨p7, hp7⟩ : ∃ p, decide (z < 0) = p := ⟨_, rfl⟩
          obtain ⟨p8, hp8⟩ : ∃ p, decide (((m : Nat) : Int) ≤ z) = p := ⟨_, rfl⟩
          refine wp_region_text 13 [eqS (.int .i64 (((b : Nat) : Int))), eqS (.pointer (some ⟨w.heap.size, 0, none⟩)), eqS (.pointer (some ⟨w.heap.size, 0 + b * 1, none⟩)), eqS (.int .i64 (z)), eqS (.bool p7), eqS (.bool p7), eqS (vF (true && (p7 == false)) (.int .i64 (((b : Nat) : Int)))), eqS (vF (true && (p7 == false)) (.pointer (some ⟨w.heap.size, 0, none⟩))), eqS (vF (true && (p7 == false)) (.pointer (some ⟨w.heap.size, 0 + b * 1, none⟩))), eqS (vF (true && (p7 == false)) (.int .i64 (z))), eqS (vF (true && (p7 == false)) (.int .i64 (((m : Nat) : Int)))), eqS (vF (true && (p7 == false)) (.bool p8)), eqS (.bool (p7 || p8))] [47, 48, 49, 50, 51, 52, 53, 54, 55, 56, 57, 58, 59] (by kernel_rfl) rfl ?_ ?_
          · skip
            refine Steps.cons (fun a' w' hG hB dep => gs_move (want_none rfl) _ rfl (id (hG.other 5 rfl))) ?_
            refine Steps.cons (fun a' w' hG hB dep => gs_field (want_none rfl) _ _ _ rfl w.heap.size (0) (0) (hG.other 1 rfl) (fun wz => field_dfa_0 w.heap.size (0) wz) rfl) ?_
            refine Steps.cons (fun a' w' hG hB dep => gs_index_arr (want_none rfl) _ _ _ rfl w.heap.size (0) b (dep 1 rfl 48 rfl) (dep 0 rfl 47 rfl) (fun wz => index_cls _ _ _ hbl wz) rfl) ?_
            refine Steps.cons (fun a' w' hG hB dep => gs_load1 (want_none rfl) _ _ rfl w.heap.size (0 + b * 1) (dep 2 rfl 49 rfl) (.int .i64 (z)) (c0 hB) _ Tryd.underlying3 rfl rfl) ?_
            refine Steps.cons (fun a' w' hG hB dep => gs_lss_int (want_none rfl) _ _ _ _ rfl _ _ _ (dep 3 rfl 50 rfl) rfl (id (congrArg Value.bool hp7))) ?_
            refine Steps.cons (fun a' w' hG hB dep => gs_move (want_none rfl) _ rfl (id (dep 4 rfl 51 rfl))) ?_
            refine Steps.cons (fun a' w' hG hB dep => gs_guard (c := true) (b' := p7) rfl rfl (dep 5 rfl 52 rfl) (fun hc he hw => gs_move hw _ rfl (Eq.trans (hG.other 5 rfl) (vF_yes (on_g hc he) _).symm)) (fun hn => vF_no hn _)) ?_
            refine Steps.cons (fun a' w' hG hB dep => gs_guard (c := true) (b' := p7) rfl rfl (dep 5 rfl 52 rfl) (fun hc he hw => gs_field hw _ _ _ rfl w.heap.size (0) (0) (hG.other 1 rfl) (fun wz => field_dfa_0 w.heap.size (0) wz) (vF_yes (on_g hc he) _).symm) (fun hn => vF_no hn _)) ?_
            refine Steps.cons (fun a' w' hG hB dep => gs_guard (c := true) (b' := p7) rfl rfl (dep 5 rfl 52 rfl) (fun hc he hw => gs_index_arr hw _ _ _ rfl w.heap.size (0) b (Eq.trans (dep 7 rfl 54 rfl) (vF_yes (on_g hc he) _)) (Eq.trans (dep 6 rfl 53 rfl) (vF_yes (on_g hc he) _)) (fun wz => index_cls _ _ _ hbl wz) (vF_yes (on_g hc he) _).symm) (fun hn => vF_no hn _)) ?_
            refine Steps.cons (fun a' w' hG hB dep => gs_guard (c := true) (b' := p7) rfl rfl (dep 5 rfl 52 rfl) (fun hc he hw => gs_load1 hw _ _ rfl w.heap.size (0 + b * 1) (Eq.trans (dep 8 rfl 55 rfl) (vF_yes (on_g hc he) _)) (.int .i64 (z)) (c0 hB) _ Tryd.underlying3 rfl (vF_yes (on_g hc he) _).symm) (fun hn => vF_no hn _)) ?_
            refine Steps.cons (fun a' w' hG hB dep => gs_guard (c := true) (b' := p7) rfl rfl (dep 5 rfl 52 rfl) (fun hc he hw => gs_move hw _ rfl (Eq.trans (hG.other 4 rfl) (vF_yes (on_g hc he) _).symm)) (fun hn => vF_no hn _)) ?_
            refine Steps.cons (fun a' w' hG hB dep => gs_guard (c := true) (b' := p7) rfl rfl (dep 5 rfl 52 rfl) (fun hc he hw => gs_geq_int hw _ _ _ _ rfl _ _ _ (Eq.trans (dep 9 rfl 56 rfl) (vF_yes (on_g hc he) _)) (Eq.trans (dep 10 rfl 57 rfl) (vF_yes (on_g hc he) _)) (Eq.trans (congrArg Value.bool hp8) (vF_yes (on_g hc he) _).symm)) (fun hn => vF_no hn _)) ?_
            refine Steps.cons (fun a' w' hG hB dep => gs_pick (want_none rfl) _ _ _ rfl p7 (dep 5 rfl 52 rfl) (id (pick_or2 (c := true) rfl (dep 11 rfl 58 rfl)))) ?_
            exact Steps.nil
          intro u w4 hw4 ans
          have hus59 : u 59 = (.bool (p7 || p8)) := ans 12 59 (by decide) rfl
          clear ans
          simp only [putAll, List.foldl_cons, List.foldl_nil, Act.put, List.setIfInBounds_toArray, List.set_cons_zero, List.set_cons_succ, hus59]
          clear hus59
          simp only [List.drop]
          refine wpList_nil ?_
          have hB4 := below_then hBw hw4
          clear hw4 c0
          obtain ⟨r, hr⟩ : ∃ r, (p7 || p8) = r := ⟨_, rfl⟩
          rw [hr]
          cases r with
          | true =>
            have hno : ¬ s_Fits x.T := fun hF => by
              have e1 := hF.cl b hbl
              rw [Hmany.out, show x.T.cls b = z from hz.out.symm] at e1
              have q1 : p7 = false := by rw [← hp7]; exact decide_eq_false (by omega)
              have q2 : p8 = false := by rw [← hp8]; exact decide_eq_false (by omega)
              rw [q1, q2] at hr
              cases hr
            have hv := Lib.hid (fitsB_no hno)
            clear hr hp7 hp8
            go_wp2_with (fail)
            go_ret
            exact ⟨by rw [hv.out]; rfl, below_then hB3 hB4⟩
          | false =>
            simp only [Bool.or_eq_false_iff] at hr
            obtain ⟨rfl, rfl⟩ := hr
            have z1 : 0 ≤ z ∧ z < m := by have := of_decide_eq_false hp7; have := of_decide_eq_false hp8; omega
            have hZ := Lib.hid z1
            clear hp7 hp8 z1
            go_wp2_with (fail)
            exact ⟨⟨b + 1, by omega, rfl, hB4, fun j hj => by
              rcases Nat.lt_or_ge j b with h | h
              · exact hall.out j h
              · have : j = b := by omega
                subst this
                rw [← hz.out]
                exact hZ.out⟩, by simp only [intOf]; omega⟩
        · have hbI : ¬ (b : Int) < 256 := by omega
          have hcls : ∀ j, j < 256 → 0 ≤ x.f j ∧ x.f j < m := fun j hj => hall.out j (by omega)
          replace hcls := Lib.hid hcls
          clear hall
          go_upto_region 13 with (fail)
          replace hB3 := below_then hB3 hBw
          obtain ⟨w5, hw5⟩ : ∃ y, y = wr := ⟨_, rfl⟩
          rw [← hw5] at h1 hB3 ⊢
          clear hw5 hBw
          obtain ⟨bF, oF, hFo, hbF, hrF⟩ := hT.fo.at_ (by have := n3.out; omega)
          obtain ⟨bE, oE, hEn, hbE, hrE⟩ := hT.en.at_ (by have := n4.out; omega)
          replace hFo := Lib.hid hFo
          replace hEn := Lib.hid hEn
          clear hbI hbl hb
          go_loopw [6] (fun iv wr => ∃ s : Nat, s ≤ x.rs.length ∧ iv = .int .i64 s ∧ Below w.heap.size w wr ∧ Blk wr w.heap.size 33 (dfaC x.f x.A x.rs.length x.c x.B x.fo.length x.d x.C x.en.length x.e) ∧ (∀ j, j < s → RowOk x.T j ∧ ∀ c, c < m → ToOk x.T j (x.T.nxt j (c : Nat)))) (fun iv _ => x.rs.length - (intOf iv).toNat)
          case atStart => exact ⟨0, by omega, rfl, hB3, h1, fun j hj => by omega⟩
          case round =>
            clear h1 hB3
            obtain ⟨s, hs, rfl, hB3, h1, hall⟩ := hrel
            replace hall := Lib.hid hall
            by_cases hsl : s < x.rs.length
            · have hsI : (s : Int) < x.rs.length := by omega
              have hsF : s < x.fo.length := by rw [n3.out]; exact hsl
              have hsE : s < x.en.length := by rw [n4.out]; exact hsl
              obtain ⟨r, hr⟩ : ∃ r, r = x.rs[s] := ⟨_, rfl⟩
              obtain ⟨y, hy⟩ : ∃ y, y = x.fo[s] := ⟨_, rfl⟩
              obtain ⟨e, he⟩ : ∃ e, e = x.en[s] := ⟨_, rfl⟩
              have hy32 : y < 4294967296 := by rw [hy]; exact hT.f32 _ (List.getElem_mem _)
              have he32 : e < 4294967296 := by rw [he]; exact hT.e32 _ (List.getElem_mem _)
              have hrow := hT.row _ (List.getElem_mem hsl)
              rw [← hr] at hrow
              have cA : ∀ {X : World}, Below wr.heap.size wr X → X.cell? ⟨w.heap.size, 256, none⟩ = some (.slice (some ⟨bN, oN, none⟩) x.rs.length x.c) := fun hB => by rw [← hA.out]; exact blk_d1 (blk_then h1 hB)
              have cF : ∀ {X : World}, Below wr.heap.size wr X → X.cell? ⟨w.heap.size, 257, none⟩ = some (.slice (some ⟨bF, oF, none⟩) x.fo.length x.d) := fun hB => by rw [← hFo.out]; exact blk_d2 (blk_then h1 hB)
              have cE : ∀ {X : World}, Below wr.heap.size wr X → X.cell? ⟨w.heap.size, 258, none⟩ = some (.slice (some ⟨bE, oE, none⟩) x.en.length x.e) := fun hB => by rw [← hEn.out]; exact blk_d3 (blk_then h1 hB)
              have cr : ∀ {X : World}, Below wr.heap.size wr X → X.cell? ⟨bN, oN + s * 1, none⟩ = some (.slice r.a r.l.length r.c) := fun hB => by rw [hr]; exact cell_keep (hrows s hsl 0 _ rfl) hbN (below_then hB3 hB)
              have cy : ∀ {X : World}, Below wr.heap.size wr X → X.cell? ⟨bF, oF + s * 1, none⟩ = some (.int .u32 ((y : Nat) : Int)) := fun hB => by rw [hy]; exact cell_keep (hrF s hsF 0 _ rfl) hbF (below_then hB3 hB)
              have ce : ∀ {X : World}, Below wr.heap.size wr X → X.cell? ⟨bE, oE + s * 1, none⟩ = some (.int .u32 ((e : Nat) : Int)) := fun hB => by rw [he]; exact cell_keep (hrE s hsE 0 _ rfl) hbE (below_then hB3 hB)
              have yT : x.T.fo.getD s 0 = y := by rw [hy]; exact getD_at x.fo 0 hsF
              have eT : x.T.en.getD s 0 = e := by rw [he]; exact getD_at x.en 0 hsE
              have rT : x.T.nx.getD s [] = r.l := by rw [s_row_at hsl, hr]
              replace hr := Lib.hid hr
              replace yT := Lib.hid yT
              replace eT := Lib.hid eT
              replace rT := Lib.hid rT
              clear hy he
              go_upto_region 15 with (fail)
              obtain ⟨p, hp⟩ : ∃ p, (((r.l.length : Nat) : Int) != ((m : Nat) : Int)) = p := ⟨_, rfl⟩
              obtain ⟨q, hq⟩ : ∃ q, (((y &&& e : Nat) : Int) != ((y : Nat) : Int)) = q := ⟨_, rfl⟩
              refine wp_region_steps 27 [eqS (.pointer (some ⟨w.heap.size, 256, none⟩)), eqS (.slice (some ⟨bN, oN, none⟩) x.rs.length x.c), eqS (.int .i64 (((s : Nat) : Int))), eqS (.pointer (some ⟨bN, oN + s * 1, none⟩)), eqS (.slice r.a r.l.length r.c), eqS (.int .i64 (((r.l.length : Nat) : Int))), eqS (.int .i64 (((m : Nat) : Int))), eqS (.bool p), eqS (.bool p), eqS (vF (true && (p == false)) (.pointer (some ⟨w.heap.size, 257, none⟩))), eqS (vF (true && (p == false)) (.slice (some ⟨bF, oF, none⟩) x.fo.length x.d)), eqS (vF (true && (p == false)) (.int .i64 (((s : Nat) : Int)))), eqS (vF (true && (p == false)) (.pointer (some ⟨bF, oF + s * 1, none⟩))), eqS (vF (true && (p == false)) (.int .u32 (((y : Nat) : Int)))), eqS (vF (true && (p == false)) (.pointer (some ⟨w.heap.size, 258, none⟩))), eqS (vF (true && (p == false)) (.slice (some ⟨bE, oE, none⟩) x.en.length x.e)), eqS (vF (true && (p == false)) (.int .i64 (((s : Nat) : Int)))), eqS (vF (true && (p == false)) (.pointer (some ⟨bE, oE + s * 1, none⟩))), eqS (vF (true && (p == false)) (.int .u32 (((e : Nat) : Int)))), eqS (vF (true && (p == false)) (.int .u32 ((((y) &&& (e) : Nat) : Int)))), eqS (vF (true && (p == false)) (.pointer (some ⟨w.heap.size, 257, none⟩))), eqS (vF (true && (p == false)) (.slice (some ⟨bF, oF, none⟩) x.fo.length x.d)), eqS (vF (true && (p == false)) (.int .i64 (((s : Nat) : Int)))), eqS (vF (true && (p == false)) (.pointer (some ⟨bF, oF + s * 1, none⟩))), eqS (vF (true && (p == false)) (.int .u32 (((y : Nat) : Int)))), eqS (vF (true && (p == false)) (.bool q)), eqS (.bool (p || q))] [65, 66, 67, 68, 69, 70, 71, 72, 73, 74, 75, 76, 77, 78, 79, 80, 81, 82, 83, 84, 85, 86, 87, 88, 89, 90, 91] rfl (by kernel_rfl) rfl ?_ ?_
              · skip
                refine Steps.cons (fun a' w' hG hB dep => gs_field (want_none rfl) _ _ _ rfl w.heap.size (0) (256) (hG.other 1 rfl) (fun wz => field_dfa_1 w.heap.size (0) wz) rfl) ?_
                refine Steps.cons (fun a' w' hG hB dep => gs_load1 (want_none rfl) _ _ rfl w.heap.size (256) (dep 0 rfl 65 rfl) (.slice (some ⟨bN, oN, none⟩) x.rs.length x.c) (cA hB) _ Tryd.underlying31 rfl rfl) ?_
                refine Steps.cons (fun a' w' hG hB dep => gs_move (want_none rfl) _ rfl (id (hG.other 6 rfl))) ?_
                refine Steps.cons (fun a' w' hG hB dep => gs_index (want_none rfl) _ _ _ rfl under_rows 1 size_rowE bN oN x.rs.length x.c (s) (dep 1 rfl 66 rfl) (dep 2 rfl 67 rfl) hsl rfl) ?_
                refine Steps.cons (fun a' w' hG hB dep => gs_load1 (want_none rfl) _ _ rfl bN (oN + s * 1) (dep 3 rfl 68 rfl) (.slice r.a r.l.length r.c) (cr hB) _ Tryd.underlying67 rfl rfl) ?_
                refine Steps.cons (fun a' w' hG hB dep => gs_len (want_none rfl) _ _ rfl under_ints _ r.l.length r.c (dep 4 rfl 69 rfl) rfl) ?_
                refine Steps.cons (fun a' w' hG hB dep => gs_move (want_none rfl) _ rfl (id (hG.other 4 rfl))) ?_
                refine Steps.cons (fun a' w' hG hB dep => gs_neq_int (want_none rfl) _ _ _ _ rfl _ _ _ (dep 5 rfl 70 rfl) (dep 6 rfl 71 rfl) (id (congrArg Value.bool hp))) ?_
                refine Steps.cons (fun a' w' hG hB dep => gs_move (want_none rfl) _ rfl (id (dep 7 rfl 72 rfl))) ?_
                refine Steps.cons (fun a' w' hG hB dep => gs_guard (c := true) (b' := p) rfl rfl (dep 8 rfl 73 rfl) (fun hc he hw => gs_field hw _ _ _ rfl w.heap.size (0) (257) (hG.other 1 rfl) (fun wz => field_dfa_2 w.heap.size (0) wz) (vF_yes (on_g hc he) _).symm) (fun hn => vF_no hn _)) ?_
                refine Steps.cons (fun a' w' hG hB dep => gs_guard (c := true) (b' := p) rfl rfl (dep 8 rfl 73 rfl) (fun hc he hw => gs_load1 hw _ _ rfl w.heap.size (257) (Eq.trans (dep 9 rfl 74 rfl) (vF_yes (on_g hc he) _)) (.slice (some ⟨bF, oF, none⟩) x.fo.length x.d) (cF hB) _ Tryd.underlying23 rfl (vF_yes (on_g hc he) _).symm) (fun hn => vF_no hn _)) ?_
                refine Steps.cons (fun a' w' hG hB dep => gs_guard (c := true) (b' := p) rfl rfl (dep 8 rfl 73 rfl) (fun hc he hw => gs_move hw _ rfl (Eq.trans (hG.other 6 rfl) (vF_yes (on_g hc he) _).symm)) (fun hn => vF_no hn _)) ?_
                refine Steps.cons (fun a' w' hG hB dep => gs_guard (c := true) (b' := p) rfl rfl (dep 8 rfl 73 rfl) (fun hc he hw => gs_index hw _ _ _ rfl under_rules 1 size_ruleE bF oF x.fo.length x.d (s) (Eq.trans (dep 10 rfl 75 rfl) (vF_yes (on_g hc he) _)) (Eq.trans (dep 11 rfl 76 rfl) (vF_yes (on_g hc he) _)) hsF (vF_yes (on_g hc he) _).symm) (fun hn => vF_no hn _)) ?_
                refine Steps.cons (fun a' w' hG hB dep => gs_guard (c := true) (b' := p) rfl rfl (dep 8 rfl 73 rfl) (fun hc he hw => gs_load1 hw _ _ rfl bF (oF + s * 1) (Eq.trans (dep 12 rfl 77 rfl) (vF_yes (on_g hc he) _)) (.int .u32 (((y : Nat) : Int))) (cy hB) _ Tryd.underlying43 rfl (vF_yes (on_g hc he) _).symm) (fun hn => vF_no hn _)) ?_
                refine Steps.cons (fun a' w' hG hB dep => gs_guard (c := true) (b' := p) rfl rfl (dep 8 rfl 73 rfl) (fun hc he hw => gs_field hw _ _ _ rfl w.heap.size (0) (258) (hG.other 1 rfl) (fun wz => field_dfa_3 w.heap.size (0) wz) (vF_yes (on_g hc he) _).symm) (fun hn => vF_no hn _)) ?_
                refine Steps.cons (fun a' w' hG hB dep => gs_guard (c := true) (b' := p) rfl rfl (dep 8 rfl 73 rfl) (fun hc he hw => gs_load1 hw _ _ rfl w.heap.size (258) (Eq.trans (dep 14 rfl 79 rfl) (vF_yes (on_g hc he) _)) (.slice (some ⟨bE, oE, none⟩) x.en.length x.e) (cE hB) _ Tryd.underlying23 rfl (vF_yes (on_g hc he) _).symm) (fun hn => vF_no hn _)) ?_
                refine Steps.cons (fun a' w' hG hB dep => gs_guard (c := true) (b' := p) rfl rfl (dep 8 rfl 73 rfl) (fun hc he hw => gs_move hw _ rfl (Eq.trans (hG.other 6 rfl) (vF_yes (on_g hc he) _).symm)) (fun hn => vF_no hn _)) ?_
                refine Steps.cons (fun a' w' hG hB dep => gs_guard (c := true) (b' := p) rfl rfl (dep 8 rfl 73 rfl) (fun hc he hw => gs_index hw _ _ _ rfl under_rules 1 size_ruleE bE oE x.en.length x.e (s) (Eq.trans (dep 15 rfl 80 rfl) (vF_yes (on_g hc he) _)) (Eq.trans (dep 16 rfl 81 rfl) (vF_yes (on_g hc he) _)) hsE (vF_yes (on_g hc he) _).symm) (fun hn => vF_no hn _)) ?_
                refine Steps.cons (fun a' w' hG hB dep => gs_guard (c := true) (b' := p) rfl rfl (dep 8 rfl 73 rfl) (fun hc he hw => gs_load1 hw _ _ rfl bE (oE + s * 1) (Eq.trans (dep 17 rfl 82 rfl) (vF_yes (on_g hc he) _)) (.int .u32 (((e : Nat) : Int))) (ce hB) _ Tryd.underlying43 rfl (vF_yes (on_g hc he) _).symm) (fun hn => vF_no hn _)) ?_
                refine Steps.cons (fun a' w' hG hB dep => gs_guard (c := true) (b' := p) rfl rfl (dep 8 rfl 73 rfl) (fun hc he hw => gs_and_u32 hw _ _ _ _ rfl (y) (e) (Eq.trans (dep 13 rfl 78 rfl) (vF_yes (on_g hc he) _)) (Eq.trans (dep 18 rfl 83 rfl) (vF_yes (on_g hc he) _)) hy32 he32 (vF_yes (on_g hc he) _).symm) (fun hn => vF_no hn _)) ?_
                refine Steps.cons (fun a' w' hG hB dep => gs_guard (c := true) (b' := p) rfl rfl (dep 8 rfl 73 rfl) (fun hc he hw => gs_field hw _ _ _ rfl w.heap.size (0) (257) (hG.other 1 rfl) (fun wz => field_dfa_2 w.heap.size (0) wz) (vF_yes (on_g hc he) _).symm) (fun hn => vF_no hn _)) ?_
                refine Steps.cons (fun a' w' hG hB dep => gs_guard (c := true) (b' := p) rfl rfl (dep 8 rfl 73 rfl) (fun hc he hw => gs_load1 hw _ _ rfl w.heap.size (257) (Eq.trans (dep 20 rfl 85 rfl) (vF_yes (on_g hc he) _)) (.slice (some ⟨bF, oF, none⟩) x.fo.length x.d) (cF hB) _ Tryd.underlying23 rfl (vF_yes (on_g hc he) _).symm) (fun hn => vF_no hn _)) ?_
                refine Steps.cons (fun a' w' hG hB dep => gs_guard (c := true) (b' := p) rfl rfl (dep 8 rfl 73 rfl) (fun hc he hw => gs_move hw _ rfl (Eq.trans (hG.other 6 rfl) (vF_yes (on_g hc he) _).symm)) (fun hn => vF_no hn _)) ?_
                refine Steps.cons (fun a' w' hG hB dep => gs_guard (c := true) (b' := p) rfl rfl (dep 8 rfl 73 rfl) (fun hc he hw => gs_index hw _ _ _ rfl under_rules 1 size_ruleE bF oF x.fo.length x.d (s) (Eq.trans (dep 21 rfl 86 rfl) (vF_yes (on_g hc he) _)) (Eq.trans (dep 22 rfl 87 rfl) (vF_yes (on_g hc he) _)) hsF (vF_yes (on_g hc he) _).symm) (fun hn => vF_no hn _)) ?_
                refine Steps.cons (fun a' w' hG hB dep => gs_guard (c := true) (b' := p) rfl rfl (dep 8 rfl 73 rfl) (fun hc he hw => gs_load1 hw _ _ rfl bF (oF + s * 1) (Eq.trans (dep 23 rfl 88 rfl) (vF_yes (on_g hc he) _)) (.int .u32 (((y : Nat) : Int))) (cy hB) _ Tryd.underlying43 rfl (vF_yes (on_g hc he) _).symm) (fun hn => vF_no hn _)) ?_
                refine Steps.cons (fun a' w' hG hB dep => gs_guard (c := true) (b' := p) rfl rfl (dep 8 rfl 73 rfl) (fun hc he hw => gs_neq_int hw _ _ _ _ rfl _ _ _ (Eq.trans (dep 19 rfl 84 rfl) (vF_yes (on_g hc he) _)) (Eq.trans (dep 24 rfl 89 rfl) (vF_yes (on_g hc he) _)) (Eq.trans (congrArg Value.bool hq) (vF_yes (on_g hc he) _).symm)) (fun hn => vF_no hn _)) ?_
                refine Steps.cons (fun a' w' hG hB dep => gs_pick (want_none rfl) _ _ _ rfl p (dep 8 rfl 73 rfl) (id (pick_or2 (c := true) rfl (dep 25 rfl 90 rfl)))) ?_
                exact Steps.nil
              intro u w6 hw6 ans
              have hus91 : u 91 = (.bool (p || q)) := ans 26 91 (by decide) rfl
              clear ans
              simp only [putAll, List.foldl_cons, List.foldl_nil, Act.put, List.setIfInBounds_toArray, List.set_cons_zero, List.set_cons_succ, hus91]
              clear hus91
              simp only [List.drop]
              refine wpList_nil ?_
              have hB6 := below_then hB3 hw6
              replace h1 := blk_then h1 hw6
              obtain ⟨rr, hrr⟩ : ∃ r, (p || q) = r := ⟨_, rfl⟩
              rw [hrr]
              cases rr with
              | true =>
                have hno : ¬ s_Fits x.T := fun hF => by
                  have e1 := hF.row s (by rw [fits_n]; exact hsl)
                  have e2 := hF.fe s (by rw [fits_n]; exact hsl)
                  rw [rT.out, Hmany.out] at e1
                  rw [yT.out, eT.out] at e2
                  have q1 : p = false := by rw [← hp, e1]; exact bne_self_eq_false _
                  have q2 : q = false := by rw [← hq, e2]; exact bne_self_eq_false _
                  rw [q1, q2] at hrr
                  cases hrr
                have hv := Lib.hid (fitsB_no hno)
                clear hrr hp hq cA cF cE cr cy ce
                go_wp2_with (fail)
                go_ret
                exact ⟨by rw [hv.out]; rfl, hB6⟩
              | false =>
                simp only [Bool.or_eq_false_iff] at hrr
                obtain ⟨rfl, rfl⟩ := hrr
                have hrm : r.l.length = m := by rw [bne_nat] at hp; exact Decidable.not_not.1 (of_decide_eq_false hp)
                have hye : y &&& e = y := by rw [bne_nat] at hq; exact Decidable.not_not.1 (of_decide_eq_false hq)
                have hRow : RowOk x.T s := ⟨by rw [rT.out, Hmany.out]; exact hrm, by rw [yT.out, eT.out]; exact hye⟩
                replace hrm := Lib.hid hrm
                replace hRow := Lib.hid hRow
                clear hp hq hye cA cF cE cr cy ce
                obtain ⟨bR, oR, hRa, hbR, hrR⟩ := hrow.at_ (by have := hrm.out; omega)
                replace hRa := Lib.hid hRa
                clear hw6 hB3
                obtain ⟨wo, hwo⟩ : ∃ y, y = w6 := ⟨_, rfl⟩
                rw [← hwo] at h1 hB6 ⊢
                clear hwo
                go_upto_region 18 with (fail)
                go_loopw [7] (fun iv wr => ∃ c : Nat, c ≤ m ∧ iv = .int .i64 c ∧ Below w.heap.size w wr ∧ Blk wr w.heap.size 33 (dfaC x.f x.A x.rs.length x.c x.B x.fo.length x.d x.C x.en.length x.e) ∧ (∀ j, j < c → ToOk x.T s (x.T.nxt s (j : Nat)))) (fun iv _ => m - (intOf iv).toNat)
                case atStart => exact ⟨0, by omega, rfl, hB6, h1, fun j hj => by omega⟩
                case round =>
                  clear h1 hB6
                  obtain ⟨c, hc, rfl, hBw, h1, hall2⟩ := hrel
                  replace hall2 := Lib.hid hall2
                  by_cases hcl : c < m
                  · have hcI : (c : Int) < m := by omega
                    have hcr : c < r.l.length := by rw [hrm.out]; exact hcl
                    obtain ⟨z, hz⟩ : ∃ z, z = r.l[c] := ⟨_, rfl⟩
                    have hzT : x.T.nxt s (c : Nat) = z := by
                      have hcr2 : c < x.rs[s].l.length := by rw [← hr.out]; exact hcr
                      rw [nxt_at hsl hcr2, hz]
                      simp only [hr.out]
                    replace hzT := Lib.hid hzT
                    have c1 : wr.cell? ⟨w.heap.size, 256, none⟩ = some (.slice (some ⟨bN, oN, none⟩) x.rs.length x.c) := by rw [← hA.out]; exact blk_d1 h1
                    have c2 : wr.cell? ⟨bN, oN + s, none⟩ = some (.slice (some ⟨bR, oR, none⟩) r.l.length r.c) := by
                      rw [← hRa.out, hr.out]
                      have := cell_keep (hrows s hsl 0 _ rfl) hbN hBw
                      rw [show oN + s * 1 + 0 = oN + s by omega] at this
                      exact this
                    have c3 : wr.cell? ⟨bR, oR + c, none⟩ = some (.int .i64 z) := by
                      rw [hz]
                      have := cell_keep (hrR c hcr 0 _ rfl) hbR hBw
                      rw [show oR + c * 1 + 0 = oR + c by omega] at this
                      exact this
                    have hcrI : (c : Int) < r.l.length := by omega
                    clear hz
                    go_upto_region 21 with (fail)
                    clear c1 c2 c3
                    have cF : ∀ {X : World}, Below wr.heap.size wr X → X.cell? ⟨w.heap.size, 257, none⟩ = some (.slice (some ⟨bF, oF, none⟩) x.fo.length x.d) := fun hB => by rw [← hFo.out]; exact blk_d2 (blk_then h1 hB)
                    have cy : ∀ {X : World}, Below wr.heap.size wr X → X.cell? ⟨bF, oF + s * 1, none⟩ = some (.int .u32 ((y : Nat) : Int)) := fun hB => by
                      have e1 : y = x.fo[s] := by rw [← yT.out]; exact getD_at x.fo 0 hsF
                      rw [e1]
                      exact cell_keep (hrF s hsF 0 _ rfl) hbF (below_then hBw hB)
                    by_cases hzr : 0 ≤ z ∧ z < x.rs.length
                    · obtain ⟨t, rfl⟩ := Int.eq_ofNat_of_zero_le hzr.1
                      have htl : t < x.rs.length := by omega
                      have htF : t < x.fo.length := by rw [n3.out]; exact htl
                      obtain ⟨v, hv⟩ : ∃ v, v = x.fo[t] := ⟨_, rfl⟩
                      have hv32 : v < 4294967296 := by rw [hv]; exact hT.f32 _ (List.getElem_mem _)
                      have cv : ∀ {X : World}, Below wr.heap.size wr X → X.cell? ⟨bF, oF + t * 1, none⟩ = some (.int .u32 ((v : Nat) : Int)) := fun hB => by rw [hv]; exact cell_keep (hrF t htF 0 _ rfl) hbF (below_then hBw hB)
                      have vT : x.T.fo.getD t 0 = v := by rw [hv]; exact getD_at x.fo 0 htF
                      replace vT := Lib.hid vT
                      clear hv hzr
                      obtain ⟨q, hq⟩ : ∃ q, (((y &&& v : Nat) : Int) != ((y : Nat) : Int)) = q := ⟨_, rfl⟩
                      have hp1 : decide (((t : Nat) : Int) < 0) = false := decide_eq_false (by omega)
                      have hp2 : decide (((x.rs.length : Nat) : Int) ≤ ((t : Nat) : Int)) = false := decide_eq_false (by omega)
                      refine wp_region_steps 26 [eqS (.int .i64 (((t : Nat) : Int))), eqS (.bool false), eqS (.bool false), eqS (vF (true && (false == false)) (.int .i64 (((t : Nat) : Int)))), eqS (vF (true && (false == false)) (.int .i64 (((x.rs.length : Nat) : Int)))), eqS (vF (true && (false == false)) (.bool false)), eqS (.bool (false || false)), eqS (.bool (false || false)), eqS (vF (true && ((false || false) == false)) (.pointer (some ⟨w.heap.size, 257, none⟩))), eqS (vF (true && ((false || false) == false)) (.slice (some ⟨bF, oF, none⟩) x.fo.length x.d)), eqS (vF (true && ((false || false) == false)) (.int .i64 (((s : Nat) : Int)))), eqS (vF (true && ((false || false) == false)) (.pointer (some ⟨bF, oF + s * 1, none⟩))), eqS (vF (true && ((false || false) == false)) (.int .u32 (((y : Nat) : Int)))), eqS (vF (true && ((false || false) == false)) (.pointer (some ⟨w.heap.size, 257, none⟩))), eqS (vF (true && ((false || false) == false)) (.slice (some ⟨bF, oF, none⟩) x.fo.length x.d)), eqS (vF (true && ((false || false) == false)) (.int .i64 (((t : Nat) : Int)))), eqS (vF (true && ((false || false) == false)) (.pointer (some ⟨bF, oF + t * 1, none⟩))), eqS (vF (true && ((false || false) == false)) (.int .u32 (((v : Nat) : Int)))), eqS (vF (true && ((false || false) == false)) (.int .u32 ((((y) &&& (v) : Nat) : Int)))), eqS (vF (true && ((false || false) == false)) (.pointer (some ⟨w.heap.size, 257, none⟩))), eqS (vF (true && ((false || false) == false)) (.slice (some ⟨bF, oF, none⟩) x.fo.length x.d)), eqS (vF (true && ((false || false) == false)) (.int .i64 (((s : Nat) : Int)))), eqS (vF (true && ((false || false) == false)) (.pointer (some ⟨bF, oF + s * 1, none⟩))), eqS (vF (true && ((false || false) == false)) (.int .u32 (((y : Nat) : Int)))), eqS (vF (true && ((false || false) == false)) (.bool q)), eqS (.bool ((false || false) || q))] [105, 106, 107, 108, 109, 110, 111, 112, 113, 114, 115, 116, 117, 118, 119, 120, 121, 122, 123, 124, 125, 126, 127, 128, 129, 130] rfl (by kernel_rfl) rfl ?_ ?_
                      · skip
                        refine Steps.cons (fun a' w' hG hB dep => gs_move (want_none rfl) _ rfl (id (hG.other 8 rfl))) ?_
                        refine Steps.cons (fun a' w' hG hB dep => gs_lss_int (want_none rfl) _ _ _ _ rfl _ _ _ (dep 0 rfl 105 rfl) rfl (id (congrArg Value.bool hp1))) ?_
                        refine Steps.cons (fun a' w' hG hB dep => gs_move (want_none rfl) _ rfl (id (dep 1 rfl 106 rfl))) ?_
                        refine Steps.cons (fun a' w' hG hB dep => gs_guard (c := true) (b' := false) rfl rfl (dep 2 rfl 107 rfl) (fun hc he hw => gs_move hw _ rfl (Eq.trans (hG.other 8 rfl) (vF_yes (on_g hc he) _).symm)) (fun hn => vF_no hn _)) ?_
                        refine Steps.cons (fun a' w' hG hB dep => gs_guard (c := true) (b' := false) rfl rfl (dep 2 rfl 107 rfl) (fun hc he hw => gs_move hw _ rfl (Eq.trans (hG.other 3 rfl) (vF_yes (on_g hc he) _).symm)) (fun hn => vF_no hn _)) ?_
                        refine Steps.cons (fun a' w' hG hB dep => gs_guard (c := true) (b' := false) rfl rfl (dep 2 rfl 107 rfl) (fun hc he hw => gs_geq_int hw _ _ _ _ rfl _ _ _ (Eq.trans (dep 3 rfl 108 rfl) (vF_yes (on_g hc he) _)) (Eq.trans (dep 4 rfl 109 rfl) (vF_yes (on_g hc he) _)) (Eq.trans (congrArg Value.bool hp2) (vF_yes (on_g hc he) _).symm)) (fun hn => vF_no hn _)) ?_
                        refine Steps.cons (fun a' w' hG hB dep => gs_pick (want_none rfl) _ _ _ rfl false (dep 2 rfl 107 rfl) (id (pick_or2 (c := true) rfl (dep 5 rfl 110 rfl)))) ?_
                        refine Steps.cons (fun a' w' hG hB dep => gs_move (want_none rfl) _ rfl (id (dep 6 rfl 111 rfl))) ?_
                        refine Steps.cons (fun a' w' hG hB dep => gs_guard (c := true) (b' := (false || false)) rfl rfl (dep 7 rfl 112 rfl) (fun hc he hw => gs_field hw _ _ _ rfl w.heap.size (0) (257) (hG.other 1 rfl) (fun wz => field_dfa_2 w.heap.size (0) wz) (vF_yes (on_g hc he) _).symm) (fun hn => vF_no hn _)) ?_
                        refine Steps.cons (fun a' w' hG hB dep => gs_guard (c := true) (b' := (false || false)) rfl rfl (dep 7 rfl 112 rfl) (fun hc he hw => gs_load1 hw _ _ rfl w.heap.size (257) (Eq.trans (dep 8 rfl 113 rfl) (vF_yes (on_g hc he) _)) (.slice (some ⟨bF, oF, none⟩) x.fo.length x.d) (cF hB) _ Tryd.underlying23 rfl (vF_yes (on_g hc he) _).symm) (fun hn => vF_no hn _)) ?_
                        refine Steps.cons (fun a' w' hG hB dep => gs_guard (c := true) (b' := (false || false)) rfl rfl (dep 7 rfl 112 rfl) (fun hc he hw => gs_move hw _ rfl (Eq.trans (hG.other 6 rfl) (vF_yes (on_g hc he) _).symm)) (fun hn => vF_no hn _)) ?_
                        refine Steps.cons (fun a' w' hG hB dep => gs_guard (c := true) (b' := (false || false)) rfl rfl (dep 7 rfl 112 rfl) (fun hc he hw => gs_index hw _ _ _ rfl under_rules 1 size_ruleE bF oF x.fo.length x.d (s) (Eq.trans (dep 9 rfl 114 rfl) (vF_yes (on_g hc he) _)) (Eq.trans (dep 10 rfl 115 rfl) (vF_yes (on_g hc he) _)) hsF (vF_yes (on_g hc he) _).symm) (fun hn => vF_no hn _)) ?_
                        refine Steps.cons (fun a' w' hG hB dep => gs_guard (c := true) (b' := (false || false)) rfl rfl (dep 7 rfl 112 rfl) (fun hc he hw => gs_load1 hw _ _ rfl bF (oF + s * 1) (Eq.trans (dep 11 rfl 116 rfl) (vF_yes (on_g hc he) _)) (.int .u32 (((y : Nat) : Int))) (cy hB) _ Tryd.underlying43 rfl (vF_yes (on_g hc he) _).symm) (fun hn => vF_no hn _)) ?_
                        refine Steps.cons (fun a' w' hG hB dep => gs_guard (c := true) (b' := (false || false)) rfl rfl (dep 7 rfl 112 rfl) (fun hc he hw => gs_field hw _ _ _ rfl w.heap.size (0) (257) (hG.other 1 rfl) (fun wz => field_dfa_2 w.heap.size (0) wz) (vF_yes (on_g hc he) _).symm) (fun hn => vF_no hn _)) ?_
                        refine Steps.cons (fun a' w' hG hB dep => gs_guard (c := true) (b' := (false || false)) rfl rfl (dep 7 rfl 112 rfl) (fun hc he hw => gs_load1 hw _ _ rfl w.heap.size (257) (Eq.trans (dep 13 rfl 118 rfl) (vF_yes (on_g hc he) _)) (.slice (some ⟨bF, oF, none⟩) x.fo.length x.d) (cF hB) _ Tryd.underlying23 rfl (vF_yes (on_g hc he) _).symm) (fun hn => vF_no hn _)) ?_
                        refine Steps.cons (fun a' w' hG hB dep => gs_guard (c := true) (b' := (false || false)) rfl rfl (dep 7 rfl 112 rfl) (fun hc he hw => gs_move hw _ rfl (Eq.trans (hG.other 8 rfl) (vF_yes (on_g hc he) _).symm)) (fun hn => vF_no hn _)) ?_
                        refine Steps.cons (fun a' w' hG hB dep => gs_guard (c := true) (b' := (false || false)) rfl rfl (dep 7 rfl 112 rfl) (fun hc he hw => gs_index hw _ _ _ rfl under_rules 1 size_ruleE bF oF x.fo.length x.d (t) (Eq.trans (dep 14 rfl 119 rfl) (vF_yes (on_g hc he) _)) (Eq.trans (dep 15 rfl 120 rfl) (vF_yes (on_g hc he) _)) htF (vF_yes (on_g hc he) _).symm) (fun hn => vF_no hn _)) ?_
                        refine Steps.cons (fun a' w' hG hB dep => gs_guard (c := true) (b' := (false || false)) rfl rfl (dep 7 rfl 112 rfl) (fun hc he hw => gs_load1 hw _ _ rfl bF (oF + t * 1) (Eq.trans (dep 16 rfl 121 rfl) (vF_yes (on_g hc he) _)) (.int .u32 (((v : Nat) : Int))) (cv hB) _ Tryd.underlying43 rfl (vF_yes (on_g hc he) _).symm) (fun hn => vF_no hn _)) ?_
                        refine Steps.cons (fun a' w' hG hB dep => gs_guard (c := true) (b' := (false || false)) rfl rfl (dep 7 rfl 112 rfl) (fun hc he hw => gs_and_u32 hw _ _ _ _ rfl (y) (v) (Eq.trans (dep 12 rfl 117 rfl) (vF_yes (on_g hc he) _)) (Eq.trans (dep 17 rfl 122 rfl) (vF_yes (on_g hc he) _)) hy32 hv32 (vF_yes (on_g hc he) _).symm) (fun hn => vF_no hn _)) ?_
                        refine Steps.cons (fun a' w' hG hB dep => gs_guard (c := true) (b' := (false || false)) rfl rfl (dep 7 rfl 112 rfl) (fun hc he hw => gs_field hw _ _ _ rfl w.heap.size (0) (257) (hG.other 1 rfl) (fun wz => field_dfa_2 w.heap.size (0) wz) (vF_yes (on_g hc he) _).symm) (fun hn => vF_no hn _)) ?_
                        refine Steps.cons (fun a' w' hG hB dep => gs_guard (c := true) (b' := (false || false)) rfl rfl (dep 7 rfl 112 rfl) (fun hc he hw => gs_load1 hw _ _ rfl w.heap.size (257) (Eq.trans (dep 19 rfl 124 rfl) (vF_yes (on_g hc he) _)) (.slice (some ⟨bF, oF, none⟩) x.fo.length x.d) (cF hB) _ Tryd.underlying23 rfl (vF_yes (on_g hc he) _).symm) (fun hn => vF_no hn _)) ?_
                        refine Steps.cons (fun a' w' hG hB dep => gs_guard (c := true) (b' := (false || false)) rfl rfl (dep 7 rfl 112 rfl) (fun hc he hw => gs_move hw _ rfl (Eq.trans (hG.other 6 rfl) (vF_yes (on_g hc he) _).symm)) (fun hn => vF_no hn _)) ?_
                        refine Steps.cons (fun a' w' hG hB dep => gs_guard (c := true) (b' := (false || false)) rfl rfl (dep 7 rfl 112 rfl) (fun hc he hw => gs_index hw _ _ _ rfl under_rules 1 size_ruleE bF oF x.fo.length x.d (s) (Eq.trans (dep 20 rfl 125 rfl) (vF_yes (on_g hc he) _)) (Eq.trans (dep 21 rfl 126 rfl) (vF_yes (on_g hc he) _)) hsF (vF_yes (on_g hc he) _).symm) (fun hn => vF_no hn _)) ?_
                        refine Steps.cons (fun a' w' hG hB dep => gs_guard (c := true) (b' := (false || false)) rfl rfl (dep 7 rfl 112 rfl) (fun hc he hw => gs_load1 hw _ _ rfl bF (oF + s * 1) (Eq.trans (dep 22 rfl 127 rfl) (vF_yes (on_g hc he) _)) (.int .u32 (((y : Nat) : Int))) (cy hB) _ Tryd.underlying43 rfl (vF_yes (on_g hc he) _).symm) (fun hn => vF_no hn _)) ?_
                        refine Steps.cons (fun a' w' hG hB dep => gs_guard (c := true) (b' := (false || false)) rfl rfl (dep 7 rfl 112 rfl) (fun hc he hw => gs_neq_int hw _ _ _ _ rfl _ _ _ (Eq.trans (dep 18 rfl 123 rfl) (vF_yes (on_g hc he) _)) (Eq.trans (dep 23 rfl 128 rfl) (vF_yes (on_g hc he) _)) (Eq.trans (congrArg Value.bool hq) (vF_yes (on_g hc he) _).symm)) (fun hn => vF_no hn _)) ?_
                        refine Steps.cons (fun a' w' hG hB dep => gs_pick (want_none rfl) _ _ _ rfl (false || false) (dep 7 rfl 112 rfl) (id (pick_or2 (c := true) rfl (dep 24 rfl 129 rfl)))) ?_
                        exact Steps.nil
                      intro u w8 hw8 ans
                      have hus130 : u 130 = (.bool ((false || false) || q)) := ans 25 130 (by decide) rfl
                      clear ans
                      simp only [putAll, List.foldl_cons, List.foldl_nil, Act.put, List.setIfInBounds_toArray, List.set_cons_zero, List.set_cons_succ, hus130]
                      clear hus130
                      simp only [List.drop]
                      refine wpList_nil ?_
                      have hB8 := below_then hBw hw8
                      clear cF cy cv
                      cases q with
                      | true =>
                        have hno : ¬ s_Fits x.T := fun hF => by
                          have e1 := (hF.tr s c (by rw [fits_n]; exact hsl) (by rw [Hmany.out]; exact hcl)).2.2
                          rw [hzT.out, yT.out, Int.toNat_natCast, vT.out] at e1
                          rw [e1, bne_self_eq_false] at hq
                          cases hq
                        have hv := Lib.hid (fitsB_no hno)
                        clear hq hp1 hp2
                        go_wp2_with (fail)
                        go_ret
                        exact ⟨by rw [hv.out]; rfl, hB8⟩
                      | false =>
                        have hyv : y &&& v = y := by rw [bne_nat] at hq; exact Decidable.not_not.1 (of_decide_eq_false hq)
                        have hTo : ToOk x.T s (x.T.nxt s (c : Nat)) := by
                          rw [hzT.out]
                          refine ⟨by omega, by rw [fits_n]; omega, ?_⟩
                          rw [yT.out, Int.toNat_natCast, vT.out]
                          exact hyv
                        replace hTo := Lib.hid hTo
                        clear hq hp1 hp2 hyv
                        replace h1 := blk_then h1 hw8
                        clear hw8
                        go_wp2_with (fail)
                        exact ⟨⟨c + 1, by omega, rfl, hB8, h1, fun j hj => by
                          rcases Nat.lt_or_ge j c with h | h
                          · exact hall2.out j h
                          · have : j = c := by omega
                            subst this
                            exact hTo.out⟩, by simp only [intOf]; omega⟩
                    · obtain ⟨p, hp⟩ : ∃ p, decide (z < 0) = p := ⟨_, rfl⟩
                      obtain ⟨q, hq⟩ : ∃ q, decide (((x.rs.length : Nat) : Int) ≤ z) = q := ⟨_, rfl⟩
                      have hpq : (p || q) = true := by
                        by_cases hz0 : z < 0
                        · rw [← hp, decide_eq_true hz0]; rfl
                        · rw [← hq, decide_eq_true (by omega), Bool.or_true]
                      have hne : ¬ ((p || q) = false) := by rw [hpq]; decide
                      have hno : ¬ s_Fits x.T := fun hF => by
                        have e1 := hF.tr s c (by rw [fits_n]; exact hsl) (by rw [Hmany.out]; exact hcl)
                        rw [hzT.out, fits_n] at e1
                        exact hzr ⟨e1.1, e1.2.1⟩
                      have hv := Lib.hid (fitsB_no hno)
                      clear hzr
                      replace hpq := Lib.hid hpq
                      refine wp_region_steps 26 [eqS (.int .i64 (z)), eqS (.bool p), eqS (.bool p), eqS (vF (true && (p == false)) (.int .i64 (z))), eqS (vF (true && (p == false)) (.int .i64 (((x.rs.length : Nat) : Int)))), eqS (vF (true && (p == false)) (.bool q)), eqS (.bool (p || q)), eqS (.bool (p || q)), eqS (vF (true && ((p || q) == false)) undef), eqS (vF (true && ((p || q) == false)) undef), eqS (vF (true && ((p || q) == false)) undef), eqS (vF (true && ((p || q) == false)) undef), eqS (vF (true && ((p || q) == false)) undef), eqS (vF (true && ((p || q) == false)) undef), eqS (vF (true && ((p || q) == false)) undef), eqS (vF (true && ((p || q) == false)) undef), eqS (vF (true && ((p || q) == false)) undef), eqS (vF (true && ((p || q) == false)) undef), eqS (vF (true && ((p || q) == false)) undef), eqS (vF (true && ((p || q) == false)) undef), eqS (vF (true && ((p || q) == false)) undef), eqS (vF (true && ((p || q) == false)) undef), eqS (vF (true && ((p || q) == false)) undef), eqS (vF (true && ((p || q) == false)) undef), eqS (vF (true && ((p || q) == false)) (.bool false)), eqS (.bool ((p || q) || false))] [105, 106, 107, 108, 109, 110, 111, 112, 113, 114, 115, 116, 117, 118, 119, 120, 121, 122, 123, 124, 125, 126, 127, 128, 129, 130] rfl (by kernel_rfl) rfl ?_ ?_
                      · skip
                        refine Steps.cons (fun a' w' hG hB dep => gs_move (want_none rfl) _ rfl (id (hG.other 8 rfl))) ?_
                        refine Steps.cons (fun a' w' hG hB dep => gs_lss_int (want_none rfl) _ _ _ _ rfl _ _ _ (dep 0 rfl 105 rfl) rfl (id (congrArg Value.bool hp))) ?_
                        refine Steps.cons (fun a' w' hG hB dep => gs_move (want_none rfl) _ rfl (id (dep 1 rfl 106 rfl))) ?_
                        refine Steps.cons (fun a' w' hG hB dep => gs_guard (c := true) (b' := p) rfl rfl (dep 2 rfl 107 rfl) (fun hc he hw => gs_move hw _ rfl (Eq.trans (hG.other 8 rfl) (vF_yes (on_g hc he) _).symm)) (fun hn => vF_no hn _)) ?_
                        refine Steps.cons (fun a' w' hG hB dep => gs_guard (c := true) (b' := p) rfl rfl (dep 2 rfl 107 rfl) (fun hc he hw => gs_move hw _ rfl (Eq.trans (hG.other 3 rfl) (vF_yes (on_g hc he) _).symm)) (fun hn => vF_no hn _)) ?_
                        refine Steps.cons (fun a' w' hG hB dep => gs_guard (c := true) (b' := p) rfl rfl (dep 2 rfl 107 rfl) (fun hc he hw => gs_geq_int hw _ _ _ _ rfl _ _ _ (Eq.trans (dep 3 rfl 108 rfl) (vF_yes (on_g hc he) _)) (Eq.trans (dep 4 rfl 109 rfl) (vF_yes (on_g hc he) _)) (Eq.trans (congrArg Value.bool hq) (vF_yes (on_g hc he) _).symm)) (fun hn => vF_no hn _)) ?_
                        refine Steps.cons (fun a' w' hG hB dep => gs_pick (want_none rfl) _ _ _ rfl p (dep 2 rfl 107 rfl) (id (pick_or2 (c := true) rfl (dep 5 rfl 110 rfl)))) ?_
                        refine Steps.cons (fun a' w' hG hB dep => gs_move (want_none rfl) _ rfl (id (dep 6 rfl 111 rfl))) ?_
                        refine Steps.cons (fun a' w' hG hB dep => gs_guard (c := true) (b' := (p || q)) rfl rfl (dep 7 rfl 112 rfl) (fun hc he hw => absurd he hne) (fun hn => vF_no hn _)) ?_
                        refine Steps.cons (fun a' w' hG hB dep => gs_guard (c := true) (b' := (p || q)) rfl rfl (dep 7 rfl 112 rfl) (fun hc he hw => absurd he hne) (fun hn => vF_no hn _)) ?_
                        refine Steps.cons (fun a' w' hG hB dep => gs_guard (c := true) (b' := (p || q)) rfl rfl (dep 7 rfl 112 rfl) (fun hc he hw => absurd he hne) (fun hn => vF_no hn _)) ?_
                        refine Steps.cons (fun a' w' hG hB dep => gs_guard (c := true) (b' := (p || q)) rfl rfl (dep 7 rfl 112 rfl) (fun hc he hw => absurd he hne) (fun hn => vF_no hn _)) ?_
                        refine Steps.cons (fun a' w' hG hB dep => gs_guard (c := true) (b' := (p || q)) rfl rfl (dep 7 rfl 112 rfl) (fun hc he hw => absurd he hne) (fun hn => vF_no hn _)) ?_
                        refine Steps.cons (fun a' w' hG hB dep => gs_guard (c := true) (b' := (p || q)) rfl rfl (dep 7 rfl 112 rfl) (fun hc he hw => absurd he hne) (fun hn => vF_no hn _)) ?_
                        refine Steps.cons (fun a' w' hG hB dep => gs_guard (c := true) (b' := (p || q)) rfl rfl (dep 7 rfl 112 rfl) (fun hc he hw => absurd he hne) (fun hn => vF_no hn _)) ?_
                        refine Steps.cons (fun a' w' hG hB dep => gs_guard (c := true) (b' := (p || q)) rfl rfl (dep 7 rfl 112 rfl) (fun hc he hw => absurd he hne) (fun hn => vF_no hn _)) ?_
                        refine Steps.cons (fun a' w' hG hB dep => gs_guard (c := true) (b' := (p || q)) rfl rfl (dep 7 rfl 112 rfl) (fun hc he hw => absurd he hne) (fun hn => vF_no hn _)) ?_
                        refine Steps.cons (fun a' w' hG hB dep => gs_guard (c := true) (b' := (p || q)) rfl rfl (dep 7 rfl 112 rfl) (fun hc he hw => absurd he hne) (fun hn => vF_no hn _)) ?_
                        refine Steps.cons (fun a' w' hG hB dep => gs_guard (c := true) (b' := (p || q)) rfl rfl (dep 7 rfl 112 rfl) (fun hc he hw => absurd he hne) (fun hn => vF_no hn _)) ?_
                        refine Steps.cons (fun a' w' hG hB dep => gs_guard (c := true) (b' := (p || q)) rfl rfl (dep 7 rfl 112 rfl) (fun hc he hw => absurd he hne) (fun hn => vF_no hn _)) ?_
                        refine Steps.cons (fun a' w' hG hB dep => gs_guard (c := true) (b' := (p || q)) rfl rfl (dep 7 rfl 112 rfl) (fun hc he hw => absurd he hne) (fun hn => vF_no hn _)) ?_
                        refine Steps.cons (fun a' w' hG hB dep => gs_guard (c := true) (b' := (p || q)) rfl rfl (dep 7 rfl 112 rfl) (fun hc he hw => absurd he hne) (fun hn => vF_no hn _)) ?_
                        refine Steps.cons (fun a' w' hG hB dep => gs_guard (c := true) (b' := (p || q)) rfl rfl (dep 7 rfl 112 rfl) (fun hc he hw => absurd he hne) (fun hn => vF_no hn _)) ?_
                        refine Steps.cons (fun a' w' hG hB dep => gs_guard (c := true) (b' := (p || q)) rfl rfl (dep 7 rfl 112 rfl) (fun hc he hw => absurd he hne) (fun hn => vF_no hn _)) ?_
                        refine Steps.cons (fun a' w' hG hB dep => gs_guard (c := true) (b' := (p || q)) rfl rfl (dep 7 rfl 112 rfl) (fun hc he hw => absurd he hne) (fun hn => vF_no hn _)) ?_
                        refine Steps.cons (fun a' w' hG hB dep => gs_pick (want_none rfl) _ _ _ rfl (p || q) (dep 7 rfl 112 rfl) (id (pick_or2 (c := true) rfl (dep 24 rfl 129 rfl)))) ?_
                        exact Steps.nil
                      intro u w8 hw8 ans
                      have hus130 : u 130 = (.bool ((p || q) || false)) := ans 25 130 (by decide) rfl
                      clear ans
                      simp only [putAll, List.foldl_cons, List.foldl_nil, Act.put, List.setIfInBounds_toArray, List.set_cons_zero, List.set_cons_succ, hus130]
                      clear hus130
                      simp only [List.drop]
                      refine wpList_nil ?_
                      have hB8 := below_then hBw hw8
                      clear hw8 cF cy hne hp hq
                      rw [hpq.out]
                      clear hpq
                      go_wp2_with (fail)
                      go_ret
                      exact ⟨by rw [hv.out]; rfl, hB8⟩
                  · have hcI : ¬ (c : Int) < m := by omega
                    have hRt : RowOk x.T s ∧ ∀ c, c < m → ToOk x.T s (x.T.nxt s (c : Nat)) := ⟨hRow.out, fun j hj => hall2.out j (by omega)⟩
                    replace hRt := Lib.hid hRt
                    clear hall2
                    go_wp2_with (fail)
                    exact ⟨⟨s + 1, by omega, rfl, hBw, h1, fun j hj => by
                      rcases Nat.lt_or_ge j s with h | h
                      · exact hall.out j h
                      · have : j = s := by omega
                        subst this
                        exact hRt.out⟩, by simp only [intOf]; omega⟩
            · have hsI : ¬ (s : Int) < x.rs.length := by omega
              have hyes : s_Fits x.T := fits_of (by rw [fits_n]; exact n1) (by rw [fits_n]; exact n2) (by rw [fits_n]; exact n3.out) (by rw [fits_n]; exact n4.out) (by rw [Hmany.out]; exact m1) (by rw [Hmany.out]; exact m2)
                (fun b hb => by rw [Hmany.out]; exact hcls.out b hb) (fun j hj => by rw [fits_n] at hj; rw [Hmany.out]; exact hall.out j (by omega))
              have hv := Lib.hid (fitsB_yes hyes)
              clear hyes hall
              go_wp2_with (fail)
              go_ret
              exact ⟨by rw [hv.out]; rfl, hB3⟩
end Go.Proofs.YtkedgombccdamaaDoor
