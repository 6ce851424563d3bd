/- heronlaw11.fixed: what the document tells of the tables that look for a byte. No condition beyond those named in each lemma. -/
import Derived.Test.YtgahdookojbbiaaLFix0
namespace Go.Proofs.Ytgahdookojbbiaa
open Go.RowKit Go.Maps
set_option linter.unusedVariables false
set_option linter.unusedSimpArgs false
attribute [local go_sem] Oper.semAt_some

theorem enter_sm (args : Array Value) (w : World) : (callFunc 23 args).run Try.prog w = .ok (.enter 23 args) w := by kernel_rfl
theorem gs_eql_str {ops : Array Oper} {S : Nat → GSpec} {Q : Exit → Act → World → Prop} {i : Nat} {o : Oper} {a : Act} {w : World} (hw : Region.wanted o (yielded ops a.tmps) = true) (t t2 : TypeId) (x y : Operand) (ho : o.op = .binOp .eql t x y t2) (p q : ByteArray) (hx : a.eval x = .string p) (hy : a.eval y = .string q)
    (hp : (S i).p (.bool (p.toList == q.toList)) w) : GStep Try.prog ops S Q i o a w :=
  gs_bin hw _ _ _ x y ho _ _ _ hx hy (by rw [eqGuard_at_string]; rfl) (by rw [binOp_string_eql]; rfl) hp
def letG (b : Nat) (wide : Bool) : GSpec := ⟨fun v w => ∃ y : TV, v = .agg y.C' ∧ TabIn w w.heap.size y ∧ y.T = letT b wide, fun v w w' h hB => by obtain ⟨y, h1, h2, h3⟩ := h; exact ⟨y, h1, h2.then_ hB, h3⟩⟩
theorem lsm_two (x y : TV) (hx : x.T = letT 97 true) (hy : y.T = letT 98 false) (w : World) (hX : TabIn w w.heap.size x) (hY : TabIn w w.heap.size y) :
    Calls Try.prog 29 #[.agg x.C', .agg y.C'] w fun e w' => Below w.heap.size w w' ∧ ∃ s7 : ByteArray, (s7 = ⟨#[97]⟩ ∨ s7 = ⟨#[98]⟩) ∧ e = .returned (.tuple #[.bool false, .string s7, .int .i64 0]) := by
  refine (lsm_any x y w hX hY).mono ?_
  rintro e w' ⟨hB, v, rfl, hv⟩
  refine ⟨hB, ?_⟩
  rw [hx, hy] at hv
  rcases hv with ⟨h1, _⟩ | ⟨_, _, h1, _⟩ | ⟨_, _, u, h1, h2, rfl⟩
  · exact absurd ⟨letT_fits 97 (by omega) true, letT_fits 98 (by omega) false⟩ h1
  · exfalso
    refine h1 [97] ⟨fun c hc => by rw [List.mem_singleton.1 hc]; omega, ?_⟩
    show ((letT 97 true).au.out ((letT 97 true).au.go 0 97)).2 ≠ ((letT 98 false).au.out ((letT 98 false).au.go 0 97)).2
    rw [let_n0, let_n0]
    decide
  · rcases let_two h1 h2 with rfl | rfl
    · exact ⟨_, .inl rfl, rfl⟩
    · exact ⟨_, .inr rfl, rfl⟩
def y0T : TV := ⟨fun _ => 0, [], none, 0, [], none, 0, [], none, 0⟩
theorem y0_tab (w : World) : TabIn w w.heap.size y0T := ⟨.inl rfl, fun r hr => (by cases hr), .inl rfl, .inl rfl, by decide, fun r hr => (by cases hr), by decide, by decide, fun r hr => (by cases hr), fun r hr => (by cases hr)⟩
theorem y0_no : ¬ Fits y0T.T := fun h => by have := h.n1; exact absurd this (by decide)
set_option maxRecDepth 100000 in
set_option maxHeartbeats 4000000 in
theorem fixed_any (w : World) : Calls Try.prog 19 #[] w fun e w' => e = .returned (.bool true) ∧ Below w.heap.size w w' := by
  have hF1 := letT_fits 97 (by omega) true
  have hF2 := letT_fits 97 (by omega) false
  have hF3 := letT_fits 98 (by omega) false
  have L1 : ∀ w : World, Calls Try.prog 44 #[.int .u8 97, .bool true] w fun e w' => Below w.heap.size w w' ∧ ∃ y : TV, e = .returned (.agg y.C') ∧ TabIn w' w'.heap.size y ∧ y.T = letT 97 true := fun w => letter_any 97 (by omega) true w
  have L2 : ∀ w : World, Calls Try.prog 44 #[.int .u8 97, .bool false] w fun e w' => Below w.heap.size w w' ∧ ∃ y : TV, e = .returned (.agg y.C') ∧ TabIn w' w'.heap.size y ∧ y.T = letT 97 false := fun w => letter_any 97 (by omega) false w
  have L3 : ∀ w : World, Calls Try.prog 44 #[.int .u8 98, .bool false] w fun e w' => Below w.heap.size w w' ∧ ∃ y : TV, e = .returned (.agg y.C') ∧ TabIn w' w'.heap.size y ∧ y.T = letT 98 false := fun w => letter_any 98 (by omega) false w
  have hz := zero_dfa
  go_enter Try.func19, Try.ntmps19
  have c1 := L1 w
  go_upto_region 2 with (first
    | (go_at_call 44; refine c1.mono ?_; rintro e w1 ⟨hB1, y1, rfl, hT1, hy1⟩; have m1 := lmake_fits y1 (by rw [hy1]; exact hF1) w1 hT1)
    | (go_at_call 22; refine m1.mono ?_; rintro e w2 ⟨hB2, yd, rfl, hOd, hyd⟩)
    | (refine wl_store_dfa rfl _ _ rfl _ rfl rfl (Blk.new _ _ _) ?_; intro w3 hd hG3))
  clear c1 m1
  have hTd := (least_tab hT1 (by rw [hy1]; exact hF1) hOd hyd).1
  have hdE : TEq yd.T (letT 97 false) := by rw [hyd, hy1]; exact let_least
  have hB3 : Below w2.heap.size w2 w3 := below_grown (below_alloc (Below.refl _ _) _) hG3 (Nat.le_refl _)
  have hB := below_then (below_then hB1 hB2) hB3
  replace hTd := hTd.then_ hB3
  obtain ⟨gd, hgd⟩ : ∃ g, g = w2.heap.size := ⟨_, rfl⟩
  rw [← hgd] at hd ⊢
  have hgdw : w.heap.size ≤ gd := by have := hB1.size; have := hB2.size; omega
  clear hB1 hB2 hB3 hG3 hgd hOd hyd hy1 hT1
  have c2 := L1 w3
  go_upto_region 3 with (first
    | (go_at_call 44; refine c2.mono ?_; clear c2; rintro e wa ⟨hBa, ya, rfl, hTa, hya⟩; have c3 := L2 wa)
    | (go_at_call 44; refine c3.mono ?_; clear c3; rintro e wb ⟨hBb, yb, rfl, hTb, hyb⟩; have m1 := lsm_same ya yb (by rw [hya]; exact hF1) (by rw [hyb]; exact hF2) (fun u => by rw [hya, hyb]; exact let_same u) wb (hTa.then_ hBb) hTb)
    | (go_at_call 29; refine m1.mono ?_; rintro e wc ⟨rfl, hBc⟩))
  clear m1
  have hB4 := below_then (below_then hBa hBb) hBc
  replace hd := blk_then hd hB4
  replace hTd := hTd.then_ hB4
  replace hB := below_then hB hB4
  clear hBa hBb hBc hB4 hTa hya hTb hyb
  have c2 := L1 wc
  go_upto_region 4 with (first
    | (go_at_call 44; refine c2.mono ?_; clear c2; rintro e wd ⟨hBa, yc, rfl, hTa, hya⟩; have c3 := L3 wd)
    | (go_at_call 44; refine c3.mono ?_; clear c3; rintro e we ⟨hBb, ye, rfl, hTb, hyb⟩; have m1 := lsm_two yc ye hya hyb we (hTa.then_ hBb) hTb)
    | (go_at_call 29; refine m1.mono ?_; rintro e wf ⟨hBc, s7, hs7, rfl⟩))
  clear m1
  have hB4 := below_then (below_then hBa hBb) hBc
  replace hd := blk_then hd hB4
  replace hTd := hTd.then_ hB4
  replace hB := below_then hB hB4
  clear hBa hBb hBc hB4 hTa hya hTb hyb
  have m1 := lmake_no y0T y0_no wf (y0_tab wf)
  have e0 : y0T.C' = (dfaC (fun _ => 0) none 0 0 none 0 0 none 0 0) := rfl
  rw [e0] at m1
  replace hs7 := Lib.hid hs7
  go_upto_region 5 with (first
    | (refine wl_build_dfa0 rfl rfl ?_)
    | (go_at_call 22; refine m1.mono ?_; rintro e wg ⟨hBg, yx, rfl, hOx, hx1, hx2, hx3, _⟩; unfold TV.C'; rw [hx1, hx2, hx3])
    | (refine wl_store_dfa rfl _ _ rfl _ rfl rfl (Blk.new _ _ _) ?_; intro wh hx hGh))
  clear m1 e0
  have hB5 := below_then hBg (below_grown (below_alloc (Below.refl wg.heap.size wg) _) hGh (Nat.le_refl _))
  obtain ⟨gx, hgx⟩ : ∃ g, g = wg.heap.size := ⟨_, rfl⟩
  rw [← hgx] at hx ⊢
  replace hx : Blk wh gx 47 (dfaC yx.f yx.A 0 yx.c yx.B 0 yx.d yx.C 0 yx.e) := hx
  replace hd := blk_then hd hB5
  replace hTd := hTd.then_ hB5
  replace hB := below_then hB hB5
  clear hB5 hBg hGh hgx hOx hx1 hx2 hx3
  obtain ⟨b1, hb1⟩ : ∃ b, (s7.toList == (⟨#[97]⟩ : ByteArray).toList) = b := ⟨_, rfl⟩
  obtain ⟨b2, hb2⟩ : ∃ b, (s7.toList == (⟨#[98]⟩ : ByteArray).toList) = b := ⟨_, rfl⟩
  have hor : b1 = true ∨ b2 = true := by
    rcases hs7 with rfl | rfl
    · exact .inl (by rw [← hb1]; exact beq_self_eq_true _)
    · exact .inr (by rw [← hb2]; exact beq_self_eq_true _)
  clear hs7
  refine wp_region_steps 45 [eqS (.int .i64 (0)), eqS (.bool true), eqS (.bool true), eqS (vF (true && (true == true)) (.agg (dfaC yd.f yd.A yd.rs.length yd.c yd.B yd.fo.length yd.d yd.C yd.en.length yd.e))), letG 97 false, eqS (vF (true && (true == true)) (.bool true)), eqS (.bool (true && true)), eqS (.bool (true && true)), eqS (vF (true && ((true && true) == true)) (.int .i64 (0))), eqS (vF (true && ((true && true) == true)) (.bool true)), eqS (.bool ((true && true) && true)), eqS (.bool ((true && true) && true)), eqS (vF (true && (((true && true) && true) == true)) (.bool true)), eqS (.bool (((true && true) && true) && true)), eqS (.bool (((true && true) && true) && true)), eqS (vF (true && ((((true && true) && true) && true) == true)) (.string ⟨#[]⟩)), eqS (vF (true && ((((true && true) && true) && true) == true)) (.bool true)), eqS (.bool ((((true && true) && true) && true) && true)), eqS (.bool ((((true && true) && true) && true) && true)), eqS (vF (true && (((((true && true) && true) && true) && true) == true)) (.int .i64 (0))), eqS (vF (true && (((((true && true) && true) && true) && true) == true)) (.bool true)), eqS (.bool (((((true && true) && true) && true) && true) && true)), eqS (.bool (((((true && true) && true) && true) && true) && true)), eqS (vF (true && ((((((true && true) && true) && true) && true) && true) == true)) (.bool false)), eqS (vF (true && ((((((true && true) && true) && true) && true) && true) == true)) (.bool (!false))), eqS (.bool ((((((true && true) && true) && true) && true) && true) && (!false))), eqS (.bool ((((((true && true) && true) && true) && true) && true) && (!false))), eqS (vF (true && (((((((true && true) && true) && true) && true) && true) && (!false)) == true)) (.string s7)), eqS (vF (true && (((((((true && true) && true) && true) && true) && true) && (!false)) == true)) (.bool b1)), eqS (vF (true && (((((((true && true) && true) && true) && true) && true) && (!false)) == true)) (.bool b1)), eqS (vF ((true && (((((((true && true) && true) && true) && true) && true) && (!false)) == true)) && (b1 == false)) (.string s7)), eqS (vF ((true && (((((((true && true) && true) && true) && true) && true) && (!false)) == true)) && (b1 == false)) (.bool b2)), eqS (vF (true && (((((((true && true) && true) && true) && true) && true) && (!false)) == true)) (.bool (b1 || b2))), eqS (.bool (((((((true && true) && true) && true) && true) && true) && (!false)) && (b1 || b2))), eqS (.bool (((((((true && true) && true) && true) && true) && true) && (!false)) && (b1 || b2))), eqS (vF (true && ((((((((true && true) && true) && true) && true) && true) && (!false)) && (b1 || b2)) == true)) (.int .i64 (70))), eqS (vF (true && ((((((((true && true) && true) && true) && true) && true) && (!false)) && (b1 || b2)) == true)) (.bool true)), eqS (.bool ((((((((true && true) && true) && true) && true) && true) && (!false)) && (b1 || b2)) && true)), eqS (.bool ((((((((true && true) && true) && true) && true) && true) && (!false)) && (b1 || b2)) && true)), eqS (vF (true && (((((((((true && true) && true) && true) && true) && true) && (!false)) && (b1 || b2)) && true) == true)) (.pointer (some ⟨gx, 256, none⟩))), eqS (vF (true && (((((((((true && true) && true) && true) && true) && true) && (!false)) && (b1 || b2)) && true) == true)) (.slice yx.A 0 yx.c)), eqS (vF (true && (((((((((true && true) && true) && true) && true) && true) && (!false)) && (b1 || b2)) && true) == true)) (.int .i64 (((0 : Nat) : Int)))), eqS (vF (true && (((((((((true && true) && true) && true) && true) && true) && (!false)) && (b1 || b2)) && true) == true)) (.bool true)), eqS (.bool (((((((((true && true) && true) && true) && true) && true) && (!false)) && (b1 || b2)) && true) && true)), eqS (.bool (((((((((true && true) && true) && true) && true) && true) && (!false)) && (b1 || b2)) && true) && true))] [35, 36, 37, 38, 39, 40, 41, 42, 43, 44, 45, 46, 47, 48, 49, 50, 51, 52, 53, 54, 55, 56, 57, 58, 59, 60, 61, 62, 63, 64, 65, 66, 67, 68, 69, 70, 71, 72, 73, 74, 75, 76, 77, 78, 0] rfl (by kernel_rfl) rfl ?_ ?_
  · skip
    refine Steps.cons (fun a' w' hG hB dep => gs_move (want_none rfl) _ rfl (id (hG.other 2 rfl))) ?_
    refine Steps.cons (fun a' w' hG hB dep => gs_eql_int (want_none rfl) _ _ _ _ rfl _ _ _ (dep 0 rfl 35 rfl) rfl (id (congrArg Value.bool (by decide)))) ?_
    refine Steps.cons (fun a' w' hG hB dep => gs_move (want_none rfl) _ rfl (id (dep 1 rfl 36 rfl))) ?_
    refine Steps.cons (fun a' w' hG hB dep => gs_guard (c := true) (b' := true) rfl rfl (dep 2 rfl 37 rfl) (fun hc he hw => gs_load_dfa hw _ rfl gd (hG.other 1 rfl) (blk_then hd hB) (vF_yes (on_g hc he) _).symm) (fun hn => vF_no hn _)) ?_
    refine Steps.cons (fun a' w' hG hB dep => gs_guard (c := true) (b' := true) rfl rfl (dep 2 rfl 37 rfl) (fun hc he hw => gs_call hw _ _ _ rfl enter_letter #[.int .u8 97, .bool false] (map2 rfl rfl) ((L2 w').mono fun e w2 ⟨hb, y, hq1, hT, hy⟩ => ⟨_, hq1, hb, y, rfl, hT, hy⟩)) (fun hn => absurd hn (by decide))) ?_
    refine Steps.cons (fun a' w' hG hB dep => gs_guard (c := true) (b' := true) rfl rfl (dep 2 rfl 37 rfl) (fun hc he hw => (by obtain ⟨y, hv, hT, hy⟩ := (dep 4 rfl 39 rfl); exact gs_call hw _ _ _ rfl enter_sm _ (map2 (Eq.trans (dep 3 rfl 38 rfl) (vF_yes (on_g hc he) _)) hv) ((same_any yd y (by rw [hy]; exact hdE) w' (hTd.then_ hB) hT).mono fun e w2 ⟨hq1, hb⟩ => ⟨_, hq1, hb, (vF_yes (on_g hc he) _).symm⟩))) (fun hn => vF_no hn _)) ?_
    refine Steps.cons (fun a' w' hG hB dep => gs_pick (want_none rfl) _ _ _ rfl true (dep 2 rfl 37 rfl) (id (pick_and2 (c := true) rfl (dep 5 rfl 40 rfl)))) ?_
    refine Steps.cons (fun a' w' hG hB dep => gs_move (want_none rfl) _ rfl (id (dep 6 rfl 41 rfl))) ?_
    refine Steps.cons (fun a' w' hG hB dep => gs_guard (c := true) (b' := (true && true)) rfl rfl (dep 7 rfl 42 rfl) (fun hc he hw => gs_move hw _ rfl (Eq.trans (hG.other 5 rfl) (vF_yes (on_g hc he) _).symm)) (fun hn => vF_no hn _)) ?_
    refine Steps.cons (fun a' w' hG hB dep => gs_guard (c := true) (b' := (true && true)) rfl rfl (dep 7 rfl 42 rfl) (fun hc he hw => gs_eql_int hw _ _ _ _ rfl _ _ _ (Eq.trans (dep 8 rfl 43 rfl) (vF_yes (on_g hc he) _)) rfl (Eq.trans (congrArg Value.bool (by decide)) (vF_yes (on_g hc he) _).symm)) (fun hn => vF_no hn _)) ?_
    refine Steps.cons (fun a' w' hG hB dep => gs_pick (want_none rfl) _ _ _ rfl (true && true) (dep 7 rfl 42 rfl) (id (pick_and2 (c := true) rfl (dep 9 rfl 44 rfl)))) ?_
    refine Steps.cons (fun a' w' hG hB dep => gs_move (want_none rfl) _ rfl (id (dep 10 rfl 45 rfl))) ?_
    refine Steps.cons (fun a' w' hG hB dep => gs_guard (c := true) (b' := ((true && true) && true)) rfl rfl (dep 11 rfl 46 rfl) (fun hc he hw => gs_move hw _ rfl (Eq.trans (hG.other 3 rfl) (vF_yes (on_g hc he) _).symm)) (fun hn => vF_no hn _)) ?_
    refine Steps.cons (fun a' w' hG hB dep => gs_pick (want_none rfl) _ _ _ rfl ((true && true) && true) (dep 11 rfl 46 rfl) (id (pick_and2 (c := true) rfl (dep 12 rfl 47 rfl)))) ?_
    refine Steps.cons (fun a' w' hG hB dep => gs_move (want_none rfl) _ rfl (id (dep 13 rfl 48 rfl))) ?_
    refine Steps.cons (fun a' w' hG hB dep => gs_guard (c := true) (b' := (((true && true) && true) && true)) rfl rfl (dep 14 rfl 49 rfl) (fun hc he hw => gs_move hw _ rfl (Eq.trans (hG.other 4 rfl) (vF_yes (on_g hc he) _).symm)) (fun hn => vF_no hn _)) ?_
    refine Steps.cons (fun a' w' hG hB dep => gs_guard (c := true) (b' := (((true && true) && true) && true)) rfl rfl (dep 14 rfl 49 rfl) (fun hc he hw => gs_eql_str hw _ _ _ _ rfl _ _ (Eq.trans (dep 15 rfl 50 rfl) (vF_yes (on_g hc he) _)) rfl (Eq.trans (congrArg Value.bool (beq_self_eq_true _)) (vF_yes (on_g hc he) _).symm)) (fun hn => vF_no hn _)) ?_
    refine Steps.cons (fun a' w' hG hB dep => gs_pick (want_none rfl) _ _ _ rfl (((true && true) && true) && true) (dep 14 rfl 49 rfl) (id (pick_and2 (c := true) rfl (dep 16 rfl 51 rfl)))) ?_
    refine Steps.cons (fun a' w' hG hB dep => gs_move (want_none rfl) _ rfl (id (dep 17 rfl 52 rfl))) ?_
    refine Steps.cons (fun a' w' hG hB dep => gs_guard (c := true) (b' := ((((true && true) && true) && true) && true)) rfl rfl (dep 18 rfl 53 rfl) (fun hc he hw => gs_move hw _ rfl (Eq.trans (hG.other 8 rfl) (vF_yes (on_g hc he) _).symm)) (fun hn => vF_no hn _)) ?_
    refine Steps.cons (fun a' w' hG hB dep => gs_guard (c := true) (b' := ((((true && true) && true) && true) && true)) rfl rfl (dep 18 rfl 53 rfl) (fun hc he hw => gs_eql_int hw _ _ _ _ rfl _ _ _ (Eq.trans (dep 19 rfl 54 rfl) (vF_yes (on_g hc he) _)) rfl (Eq.trans (congrArg Value.bool (by decide)) (vF_yes (on_g hc he) _).symm)) (fun hn => vF_no hn _)) ?_
    refine Steps.cons (fun a' w' hG hB dep => gs_pick (want_none rfl) _ _ _ rfl ((((true && true) && true) && true) && true) (dep 18 rfl 53 rfl) (id (pick_and2 (c := true) rfl (dep 20 rfl 55 rfl)))) ?_
    refine Steps.cons (fun a' w' hG hB dep => gs_move (want_none rfl) _ rfl (id (dep 21 rfl 56 rfl))) ?_
    refine Steps.cons (fun a' w' hG hB dep => gs_guard (c := true) (b' := (((((true && true) && true) && true) && true) && true)) rfl rfl (dep 22 rfl 57 rfl) (fun hc he hw => gs_move hw _ rfl (Eq.trans (hG.other 6 rfl) (vF_yes (on_g hc he) _).symm)) (fun hn => vF_no hn _)) ?_
    refine Steps.cons (fun a' w' hG hB dep => gs_guard (c := true) (b' := (((((true && true) && true) && true) && true) && true)) rfl rfl (dep 22 rfl 57 rfl) (fun hc he hw => gs_not_bool hw _ _ rfl _ (Eq.trans (dep 23 rfl 58 rfl) (vF_yes (on_g hc he) _)) (vF_yes (on_g hc he) _).symm) (fun hn => vF_no hn _)) ?_
    refine Steps.cons (fun a' w' hG hB dep => gs_pick (want_none rfl) _ _ _ rfl (((((true && true) && true) && true) && true) && true) (dep 22 rfl 57 rfl) (id (pick_and2 (c := true) rfl (dep 24 rfl 59 rfl)))) ?_
    refine Steps.cons (fun a' w' hG hB dep => gs_move (want_none rfl) _ rfl (id (dep 25 rfl 60 rfl))) ?_
    refine Steps.cons (fun a' w' hG hB dep => gs_guard (c := true) (b' := ((((((true && true) && true) && true) && true) && true) && (!false))) rfl rfl (dep 26 rfl 61 rfl) (fun hc he hw => gs_move hw _ rfl (Eq.trans (hG.other 7 rfl) (vF_yes (on_g hc he) _).symm)) (fun hn => vF_no hn _)) ?_
    refine Steps.cons (fun a' w' hG hB dep => gs_guard (c := true) (b' := ((((((true && true) && true) && true) && true) && true) && (!false))) rfl rfl (dep 26 rfl 61 rfl) (fun hc he hw => gs_eql_str hw _ _ _ _ rfl _ _ (Eq.trans (dep 27 rfl 62 rfl) (vF_yes (on_g hc he) _)) rfl (Eq.trans (congrArg Value.bool hb1) (vF_yes (on_g hc he) _).symm)) (fun hn => vF_no hn _)) ?_
    refine Steps.cons (fun a' w' hG hB dep => gs_guard (c := true) (b' := ((((((true && true) && true) && true) && true) && true) && (!false))) rfl rfl (dep 26 rfl 61 rfl) (fun hc he hw => gs_move hw _ rfl (Eq.trans (Eq.trans (dep 28 rfl 63 rfl) (vF_yes (on_g hc he) _)) (vF_yes (on_g hc he) _).symm)) (fun hn => vF_no hn _)) ?_
    refine Steps.cons (fun a' w' hG hB dep => gs_guard (c := (true && (((((((true && true) && true) && true) && true) && true) && (!false)) == true))) (b' := b1) rfl rfl (dep 29 rfl 64 rfl) (fun hc he hw => gs_move hw _ rfl (Eq.trans (hG.other 7 rfl) (vF_yes (on_g hc he) _).symm)) (fun hn => vF_no hn _)) ?_
    refine Steps.cons (fun a' w' hG hB dep => gs_guard (c := (true && (((((((true && true) && true) && true) && true) && true) && (!false)) == true))) (b' := b1) rfl rfl (dep 29 rfl 64 rfl) (fun hc he hw => gs_eql_str hw _ _ _ _ rfl _ _ (Eq.trans (dep 30 rfl 65 rfl) (vF_yes (on_g hc he) _)) rfl (Eq.trans (congrArg Value.bool hb2) (vF_yes (on_g hc he) _).symm)) (fun hn => vF_no hn _)) ?_
    refine Steps.cons (fun a' w' hG hB dep => gs_guard (c := true) (b' := ((((((true && true) && true) && true) && true) && true) && (!false))) rfl rfl (dep 26 rfl 61 rfl) (fun hc he hw => gs_pick hw _ _ _ rfl b1 (Eq.trans (dep 29 rfl 64 rfl) (vF_yes (on_g hc he) _)) (Eq.trans (pick_or2 (c := (true && (((((((true && true) && true) && true) && true) && true) && (!false)) == true))) (on_g hc he) (dep 31 rfl 66 rfl)) (vF_yes (on_g hc he) _).symm)) (fun hn => vF_no hn _)) ?_
    refine Steps.cons (fun a' w' hG hB dep => gs_pick (want_none rfl) _ _ _ rfl ((((((true && true) && true) && true) && true) && true) && (!false)) (dep 26 rfl 61 rfl) (id (pick_and2 (c := true) rfl (dep 32 rfl 67 rfl)))) ?_
    refine Steps.cons (fun a' w' hG hB dep => gs_move (want_none rfl) _ rfl (id (dep 33 rfl 68 rfl))) ?_
    refine Steps.cons (fun a' w' hG hB dep => gs_guard (c := true) (b' := (((((((true && true) && true) && true) && true) && true) && (!false)) && (b1 || b2))) rfl rfl (dep 34 rfl 69 rfl) (fun hc he hw => gs_move hw _ rfl (Eq.trans (hG.other 10 rfl) (vF_yes (on_g hc he) _).symm)) (fun hn => vF_no hn _)) ?_
    refine Steps.cons (fun a' w' hG hB dep => gs_guard (c := true) (b' := (((((((true && true) && true) && true) && true) && true) && (!false)) && (b1 || b2))) rfl rfl (dep 34 rfl 69 rfl) (fun hc he hw => gs_eql_int hw _ _ _ _ rfl _ _ _ (Eq.trans (dep 35 rfl 70 rfl) (vF_yes (on_g hc he) _)) rfl (Eq.trans (congrArg Value.bool (by decide)) (vF_yes (on_g hc he) _).symm)) (fun hn => vF_no hn _)) ?_
    refine Steps.cons (fun a' w' hG hB dep => gs_pick (want_none rfl) _ _ _ rfl (((((((true && true) && true) && true) && true) && true) && (!false)) && (b1 || b2)) (dep 34 rfl 69 rfl) (id (pick_and2 (c := true) rfl (dep 36 rfl 71 rfl)))) ?_
    refine Steps.cons (fun a' w' hG hB dep => gs_move (want_none rfl) _ rfl (id (dep 37 rfl 72 rfl))) ?_
    refine Steps.cons (fun a' w' hG hB dep => gs_guard (c := true) (b' := ((((((((true && true) && true) && true) && true) && true) && (!false)) && (b1 || b2)) && true)) rfl rfl (dep 38 rfl 73 rfl) (fun hc he hw => gs_field hw _ _ _ rfl gx (0) (256) (hG.other 9 rfl) (fun wz => field_dfa_1 gx (0) wz) (vF_yes (on_g hc he) _).symm) (fun hn => vF_no hn _)) ?_
    refine Steps.cons (fun a' w' hG hB dep => gs_guard (c := true) (b' := ((((((((true && true) && true) && true) && true) && true) && (!false)) && (b1 || b2)) && true)) rfl rfl (dep 38 rfl 73 rfl) (fun hc he hw => gs_load1 hw _ _ rfl gx (256) (Eq.trans (dep 39 rfl 74 rfl) (vF_yes (on_g hc he) _)) (.slice yx.A 0 yx.c) (blk_d1 (blk_then hx hB)) _ Try.underlying45 rfl (vF_yes (on_g hc he) _).symm) (fun hn => vF_no hn _)) ?_
    refine Steps.cons (fun a' w' hG hB dep => gs_guard (c := true) (b' := ((((((((true && true) && true) && true) && true) && true) && (!false)) && (b1 || b2)) && true)) rfl rfl (dep 38 rfl 73 rfl) (fun hc he hw => gs_len hw _ _ rfl under_rows _ 0 yx.c (Eq.trans (dep 40 rfl 75 rfl) (vF_yes (on_g hc he) _)) (vF_yes (on_g hc he) _).symm) (fun hn => vF_no hn _)) ?_
    refine Steps.cons (fun a' w' hG hB dep => gs_guard (c := true) (b' := ((((((((true && true) && true) && true) && true) && true) && (!false)) && (b1 || b2)) && true)) rfl rfl (dep 38 rfl 73 rfl) (fun hc he hw => gs_eql_int hw _ _ _ _ rfl _ _ _ (Eq.trans (dep 41 rfl 76 rfl) (vF_yes (on_g hc he) _)) rfl (Eq.trans (congrArg Value.bool (by decide)) (vF_yes (on_g hc he) _).symm)) (fun hn => vF_no hn _)) ?_
    refine Steps.cons (fun a' w' hG hB dep => gs_pick (want_none rfl) _ _ _ rfl ((((((((true && true) && true) && true) && true) && true) && (!false)) && (b1 || b2)) && true) (dep 38 rfl 73 rfl) (id (pick_and2 (c := true) rfl (dep 42 rfl 77 rfl)))) ?_
    refine Steps.cons (fun a' w' hG hB dep => gs_assign (want_none rfl) _ rfl (id (dep 43 rfl 78 rfl))) ?_
    exact Steps.nil
  intro u wz hwz ans
  have hus0 : u 0 = (.bool (((((((((true && true) && true) && true) && true) && true) && (!false)) && (b1 || b2)) && true) && true)) := ans 44 0 (by decide) rfl
  clear ans
  simp only [putAll, List.foldl_cons, List.foldl_nil, Act.put, List.setIfInBounds_toArray, List.set_cons_zero, List.set_cons_succ, hus0]
  clear hus0
  simp only [List.drop]
  refine wpList_nil ?_
  replace hB := below_then hB hwz
  have he5 : (((((((((true && true) && true) && true) && true) && true) && (!false)) && (b1 || b2)) && true) && true) = true := by simpa using hor
  rw [he5]
  go_wp2_with (fail)
  go_ret
  exact ⟨rfl, hB⟩
theorem enter_fixed (args : Array Value) (w : World) : (callFunc 19 args).run Try.prog w = .ok (.enter 19 args) w := by kernel_rfl
end Go.Proofs.Ytgahdookojbbiaa
