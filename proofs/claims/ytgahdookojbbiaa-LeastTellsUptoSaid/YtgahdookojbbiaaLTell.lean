/- heronlaw11.LeastTells answers true of any table and line. No condition beyond those named in each lemma. -/
import Derived.Test.YtgahdookojbbiaaLTellR
import Derived.Test.YtgahdookojbbiaaLFix
namespace Go.Proofs.Ytgahdookojbbiaa
open Go.RowKit Go.Maps
set_option linter.unusedVariables false
set_option linter.unusedSimpArgs false
attribute [local go_sem] Oper.semAt_some

set_option maxRecDepth 100000 in
set_option maxHeartbeats 4000000 in
theorem tell_any (x : TV) (q0 : ByteArray) (w : World) (hT : TabIn w w.heap.size x) :
    Calls Try.prog 5 #[.agg x.C', .string q0] w fun e w' => e = .returned (.bool true) ∧ Below w.heap.size w w' := by
  have hR1 : ∀ W' : World, Below w.heap.size w W' → Calls Try.prog 28 #[.agg x.C'] W' fun e w2 => e = .returned (.bool (fitsB x.T)) ∧ Below W'.heap.size W' w2 := fun W' hB => right_any x W' (hT.then_ hB)
  unfold TV.C' at hR1 ⊢
  have hz0 := zero_dfa
  go_enter Try.func5, Try.ntmps5
  have hd := Blk.new w 47 (dfaC x.f x.A x.rs.length x.c x.B x.fo.length x.d x.C x.en.length x.e)
  have hB1 := below_alloc (Below.refl w.heap.size w) (.cells (dfaC x.f x.A x.rs.length x.c x.B x.fo.length x.d x.C x.en.length x.e) 47)
  go_upto_region 1 with (fail)
  obtain ⟨w1, hw1⟩ : ∃ y, y = w.alloc (.cells (dfaC x.f x.A x.rs.length x.c x.B x.fo.length x.d x.C x.en.length x.e) 47) := ⟨_, rfl⟩
  rw [← hw1] at hd hB1 ⊢
  clear hw1
  go_upto_region 3 with (go_at_call 19; refine (fixed_any w1).mono ?_; rintro e w2 ⟨rfl, hB2⟩)
  replace hd := blk_then hd hB2
  replace hB1 := below_then hB1 hB2
  clear hB2
  obtain ⟨gd, hgd⟩ : ∃ g, g = w.heap.size := ⟨_, rfl⟩
  rw [← hgd] at hd ⊢
  have hgdw : w.heap.size ≤ gd := by omega
  clear hgd
  replace hR1 : ∀ W' : World, Below w2.heap.size w2 W' → Calls Try.prog 28 #[.agg (dfaC x.f x.A x.rs.length x.c x.B x.fo.length x.d x.C x.en.length x.e)] W' fun e w2 => e = .returned (.bool (fitsB x.T)) ∧ Below W'.heap.size W' w2 := fun W' hB => hR1 W' (below_then hB1 hB)
  obtain ⟨p, hp⟩ : ∃ p, fitsB x.T = p := ⟨_, rfl⟩
  obtain ⟨q, hq⟩ : ∃ q, decide ((300 : Int) < ((x.rs.length : Nat) : Int)) = q := ⟨_, rfl⟩
  refine wp_region_text 9 [eqS (.agg (dfaC x.f x.A x.rs.length x.c x.B x.fo.length x.d x.C x.en.length x.e)), eqS (.bool p), eqS (.bool (!p)), eqS (.bool (!p)), eqS (vF (true && ((!p) == false)) (.pointer (some ⟨gd, 256, none⟩))), eqS (vF (true && ((!p) == false)) (.slice x.A x.rs.length x.c)), eqS (vF (true && ((!p) == false)) (.int .i64 (((x.rs.length : Nat) : Int)))), eqS (vF (true && ((!p) == false)) (.bool q)), eqS (.bool ((!p) || q))] [20, 21, 22, 23, 24, 25, 26, 27, 28] (by kernel_rfl) rfl ?_ ?_
  · skip
    refine Steps.cons (fun a' w' hG hB dep => gs_load_dfa (want_none rfl) _ rfl gd (hG.other 2 rfl) (blk_then hd hB) rfl) ?_
    refine Steps.cons (fun a' w' hG hB dep => gs_call (want_none rfl) _ _ _ rfl enter_right _ (map1 (dep 0 rfl 20 rfl)) ((hR1 w' hB).mono fun e w2 ⟨hq1, hb⟩ => ⟨_, hq1, hb, by rw [hp]; exact rfl⟩)) ?_
    refine Steps.cons (fun a' w' hG hB dep => gs_not_bool (want_none rfl) _ _ rfl _ (dep 1 rfl 21 rfl) rfl) ?_
    refine Steps.cons (fun a' w' hG hB dep => gs_move (want_none rfl) _ rfl (id (dep 2 rfl 22 rfl))) ?_
    refine Steps.cons (fun a' w' hG hB dep => gs_guard (c := true) (b' := (!p)) rfl rfl (dep 3 rfl 23 rfl) (fun hc he hw => gs_field hw _ _ _ rfl gd (0) (256) (hG.other 2 rfl) (fun wz => field_dfa_1 gd (0) wz) (vF_yes (on_g hc he) _).symm) (fun hn => vF_no hn _)) ?_
    refine Steps.cons (fun a' w' hG hB dep => gs_guard (c := true) (b' := (!p)) rfl rfl (dep 3 rfl 23 rfl) (fun hc he hw => gs_load1 hw _ _ rfl gd (256) (Eq.trans (dep 4 rfl 24 rfl) (vF_yes (on_g hc he) _)) (.slice x.A x.rs.length x.c) (blk_d1 (blk_then hd hB)) _ Try.underlying45 rfl (vF_yes (on_g hc he) _).symm) (fun hn => vF_no hn _)) ?_
    refine Steps.cons (fun a' w' hG hB dep => gs_guard (c := true) (b' := (!p)) rfl rfl (dep 3 rfl 23 rfl) (fun hc he hw => gs_len hw _ _ rfl under_rows _ x.rs.length x.c (Eq.trans (dep 5 rfl 25 rfl) (vF_yes (on_g hc he) _)) (vF_yes (on_g hc he) _).symm) (fun hn => vF_no hn _)) ?_
    refine Steps.cons (fun a' w' hG hB dep => gs_guard (c := true) (b' := (!p)) rfl rfl (dep 3 rfl 23 rfl) (fun hc he hw => gs_gtr_int hw _ _ _ _ rfl _ _ _ (Eq.trans (dep 6 rfl 26 rfl) (vF_yes (on_g hc he) _)) rfl (Eq.trans (congrArg Value.bool hq) (vF_yes (on_g hc he) _).symm)) (fun hn => vF_no hn _)) ?_
    refine Steps.cons (fun a' w' hG hB dep => gs_pick (want_none rfl) _ _ _ rfl (!p) (dep 3 rfl 23 rfl) (id (pick_or2 (c := true) rfl (dep 7 rfl 27 rfl)))) ?_
    exact Steps.nil
  intro u w3 hw3 ans
  have hus28 : u 28 = (.bool (!p || q)) := ans 8 28 (by decide) rfl
  clear ans
  simp only [putAll, List.foldl_cons, List.foldl_nil, Act.put, List.setIfInBounds_toArray, List.set_cons_zero, List.set_cons_succ, hus28]
  clear hus28
  simp only [List.drop]
  refine wpList_nil ?_
  replace hd := blk_then hd hw3
  replace hB1 := below_then hB1 hw3
  clear hw3 hR1
  obtain ⟨r, hr⟩ : ∃ r, (!p || q) = r := ⟨_, rfl⟩
  rw [hr]
  cases r with
  | true =>
    clear hr hp hq
    go_wp2_with (fail)
    go_ret
    exact ⟨rfl, hB1⟩
  | false =>
    have hFx : Fits x.T := fitsB_iff.1 (by rw [hp]; cases p <;> simp_all)
    clear hr hp hq
    have hm1 := lmake_fits x hFx w3 (hT.then_ hB1)
    unfold TV.C' at hm1
    go_upto_region 6 with (first
      | (refine wl_load_dfa rfl _ rfl _ rfl hd ?_)
      | (go_at_call 22; refine hm1.mono ?_; rintro e w4 ⟨hB4, y, rfl, hO4, hy⟩)
      | (refine wl_store_dfa rfl _ _ rfl _ rfl rfl (Blk.new _ _ _) ?_; intro w5 hx hG5))
    clear hm1
    have hyt := least_tab (hT.then_ hB1) hFx hO4 hy
    have hB5 : Below w4.heap.size w4 w5 := below_grown (below_alloc (Below.refl _ _) _) hG5 (Nat.le_refl _)
    have hTy := hyt.1.then_ hB5
    have hny := hyt.2.1
    replace hB5 := below_then hB4 hB5
    obtain ⟨gx, hgx⟩ : ∃ g, g = w4.heap.size := ⟨_, rfl⟩
    rw [← hgx] at hx ⊢
    replace hd := blk_then hd hB5
    replace hB1 := below_then hB1 hB5
    clear hB4 hO4 hyt hG5 hgx hB5
    have hFy : Fits y.T := by rw [hy]; exact leastOf_fits hFx
    have hAl : Alk x.T.au 0 y.T.au 0 := by rw [hy]; exact (leastOf_like hFx).symm
    have hm2 := lmake_fits y hFy w5 hTy
    unfold TV.C' at hm2
    go_upto_region 7 with (first
      | (refine wl_load_dfa rfl _ rfl _ rfl hx ?_)
      | (go_at_call 22; refine hm2.mono ?_; rintro e w6 ⟨hB6, z, rfl, hO6, hz⟩)
      | (refine wl_store_dfa rfl _ _ rfl _ rfl rfl (Blk.new _ _ _) ?_; intro w7 hy7 hG7))
    clear hm2
    have hzt := least_tab hTy hFy hO6 hz
    have hB7 : Below w6.heap.size w6 w7 := below_grown (below_alloc (Below.refl _ _) _) hG7 (Nat.le_refl _)
    have hTz := hzt.1.then_ hB7
    replace hB7 := below_then hB6 hB7
    have hyz : TEq y.T z.T := by
      rw [hz, hy, leastOf_twice hFx]
      exact TEq.refl _
    obtain ⟨gy, hgy⟩ : ∃ g, g = w6.heap.size := ⟨_, rfl⟩
    rw [← hgy] at hy7 ⊢
    have hy := hy7
    replace hd := blk_then hd hB7
    replace hx := blk_then hx hB7
    replace hB1 := below_then hB1 hB7
    replace hTy := hTy.then_ hB7
    clear hB6 hO6 hzt hG7 hgy hB7 hz hy7
    have hfy := fitsB_yes hFy
    have hR2 : ∀ W' : World, Below w7.heap.size w7 W' → Calls Try.prog 28 #[.agg (dfaC y.f y.A y.rs.length y.c y.B y.fo.length y.d y.C y.en.length y.e)] W' fun e w2 => e = .returned (.bool (fitsB y.T)) ∧ Below W'.heap.size W' w2 := fun W' hB => right_any y W' (hTy.then_ hB)
    have hSm : ∀ W' : World, Below w7.heap.size w7 W' → Calls Try.prog 23 #[.agg (dfaC y.f y.A y.rs.length y.c y.B y.fo.length y.d y.C y.en.length y.e), .agg (dfaC z.f z.A z.rs.length z.c z.B z.fo.length z.d z.C z.en.length z.e)] W' fun e w2 => e = .returned (.bool true) ∧ Below W'.heap.size W' w2 := fun W' hB => same_any y z hyz W' (hTy.then_ hB) (hTz.then_ hB)
    refine wp_region_text 26 [eqS (.int .i64 (0)), eqS (.bool false), eqS (.bool false), eqS (vF (true && (false == false)) (.int .i64 (0))), eqS (vF (true && (false == false)) (.bool false)), eqS (.bool (false || false)), eqS (.bool (false || false)), eqS (vF (true && ((false || false) == false)) (.agg (dfaC y.f y.A y.rs.length y.c y.B y.fo.length y.d y.C y.en.length y.e))), eqS (vF (true && ((false || false) == false)) (.bool true)), eqS (vF (true && ((false || false) == false)) (.bool (!true))), eqS (.bool ((false || false) || (!true))), eqS (.bool ((false || false) || (!true))), eqS (vF (true && (((false || false) || (!true)) == false)) (.pointer (some ⟨gx, 256, none⟩))), eqS (vF (true && (((false || false) || (!true)) == false)) (.slice y.A y.rs.length y.c)), eqS (vF (true && (((false || false) || (!true)) == false)) (.int .i64 (((y.rs.length : Nat) : Int)))), eqS (vF (true && (((false || false) || (!true)) == false)) (.pointer (some ⟨gd, 256, none⟩))), eqS (vF (true && (((false || false) || (!true)) == false)) (.slice x.A x.rs.length x.c)), eqS (vF (true && (((false || false) || (!true)) == false)) (.int .i64 (((x.rs.length : Nat) : Int)))), eqS (vF (true && (((false || false) || (!true)) == false)) (.bool false)), eqS (.bool (((false || false) || (!true)) || false)), eqS (.bool (((false || false) || (!true)) || false)), eqS (vF (true && ((((false || false) || (!true)) || false) == false)) (.agg (dfaC y.f y.A y.rs.length y.c y.B y.fo.length y.d y.C y.en.length y.e))), eqS (vF (true && ((((false || false) || (!true)) || false) == false)) (.agg (dfaC z.f z.A z.rs.length z.c z.B z.fo.length z.d z.C z.en.length z.e))), eqS (vF (true && ((((false || false) || (!true)) || false) == false)) (.bool true)), eqS (vF (true && ((((false || false) || (!true)) || false) == false)) (.bool (!true))), eqS (.bool ((((false || false) || (!true)) || false) || (!true)))] [39, 40, 41, 42, 43, 44, 45, 46, 47, 48, 49, 50, 51, 52, 53, 54, 55, 56, 57, 58, 59, 60, 61, 62, 63, 64] (by kernel_rfl) rfl ?_ ?_
    · skip
      refine Steps.cons (fun a' w' hG hB dep => gs_move (want_none rfl) _ rfl (id (hG.other 6 rfl))) ?_
      refine Steps.cons (fun a' w' hG hB dep => gs_neq_int (want_none rfl) _ _ _ _ rfl _ _ _ (dep 0 rfl 39 rfl) rfl (id (congrArg Value.bool (by decide)))) ?_
      refine Steps.cons (fun a' w' hG hB dep => gs_move (want_none rfl) _ rfl (id (dep 1 rfl 40 rfl))) ?_
      refine Steps.cons (fun a' w' hG hB dep => gs_guard (c := true) (b' := false) rfl rfl (dep 2 rfl 41 rfl) (fun hc he hw => gs_move hw _ rfl (Eq.trans (hG.other 8 rfl) (vF_yes (on_g hc he) _).symm)) (fun hn => vF_no hn _)) ?_
      refine Steps.cons (fun a' w' hG hB dep => gs_guard (c := true) (b' := false) rfl rfl (dep 2 rfl 41 rfl) (fun hc he hw => gs_neq_int hw _ _ _ _ rfl _ _ _ (Eq.trans (dep 3 rfl 42 rfl) (vF_yes (on_g hc he) _)) rfl (Eq.trans (congrArg Value.bool (by decide)) (vF_yes (on_g hc he) _).symm)) (fun hn => vF_no hn _)) ?_
      refine Steps.cons (fun a' w' hG hB dep => gs_pick (want_none rfl) _ _ _ rfl false (dep 2 rfl 41 rfl) (id (pick_or2 (c := true) rfl (dep 4 rfl 43 rfl)))) ?_
      refine Steps.cons (fun a' w' hG hB dep => gs_move (want_none rfl) _ rfl (id (dep 5 rfl 44 rfl))) ?_
      refine Steps.cons (fun a' w' hG hB dep => gs_guard (c := true) (b' := (false || false)) rfl rfl (dep 6 rfl 45 rfl) (fun hc he hw => gs_load_dfa hw _ rfl gx (hG.other 5 rfl) (blk_then hx hB) (vF_yes (on_g hc he) _).symm) (fun hn => vF_no hn _)) ?_
      refine Steps.cons (fun a' w' hG hB dep => gs_guard (c := true) (b' := (false || false)) rfl rfl (dep 6 rfl 45 rfl) (fun hc he hw => gs_call hw _ _ _ rfl enter_right _ (map1 (Eq.trans (dep 7 rfl 46 rfl) (vF_yes (on_g hc he) _))) ((hR2 w' hB).mono fun e w2 ⟨hq1, hb⟩ => ⟨_, hq1, hb, by rw [hfy]; exact (vF_yes (on_g hc he) _).symm⟩)) (fun hn => vF_no hn _)) ?_
      refine Steps.cons (fun a' w' hG hB dep => gs_guard (c := true) (b' := (false || false)) rfl rfl (dep 6 rfl 45 rfl) (fun hc he hw => gs_not_bool hw _ _ rfl _ (Eq.trans (dep 8 rfl 47 rfl) (vF_yes (on_g hc he) _)) (vF_yes (on_g hc he) _).symm) (fun hn => vF_no hn _)) ?_
      refine Steps.cons (fun a' w' hG hB dep => gs_pick (want_none rfl) _ _ _ rfl (false || false) (dep 6 rfl 45 rfl) (id (pick_or2 (c := true) rfl (dep 9 rfl 48 rfl)))) ?_
      refine Steps.cons (fun a' w' hG hB dep => gs_move (want_none rfl) _ rfl (id (dep 10 rfl 49 rfl))) ?_
      refine Steps.cons (fun a' w' hG hB dep => gs_guard (c := true) (b' := ((false || false) || (!true))) rfl rfl (dep 11 rfl 50 rfl) (fun hc he hw => gs_field hw _ _ _ rfl gx (0) (256) (hG.other 5 rfl) (fun wz => field_dfa_1 gx (0) wz) (vF_yes (on_g hc he) _).symm) (fun hn => vF_no hn _)) ?_
      refine Steps.cons (fun a' w' hG hB dep => gs_guard (c := true) (b' := ((false || false) || (!true))) rfl rfl (dep 11 rfl 50 rfl) (fun hc he hw => gs_load1 hw _ _ rfl gx (256) (Eq.trans (dep 12 rfl 51 rfl) (vF_yes (on_g hc he) _)) (.slice y.A y.rs.length y.c) (blk_d1 (blk_then hx hB)) _ Try.underlying45 rfl (vF_yes (on_g hc he) _).symm) (fun hn => vF_no hn _)) ?_
      refine Steps.cons (fun a' w' hG hB dep => gs_guard (c := true) (b' := ((false || false) || (!true))) rfl rfl (dep 11 rfl 50 rfl) (fun hc he hw => gs_len hw _ _ rfl under_rows _ y.rs.length y.c (Eq.trans (dep 13 rfl 52 rfl) (vF_yes (on_g hc he) _)) (vF_yes (on_g hc he) _).symm) (fun hn => vF_no hn _)) ?_
      refine Steps.cons (fun a' w' hG hB dep => gs_guard (c := true) (b' := ((false || false) || (!true))) rfl rfl (dep 11 rfl 50 rfl) (fun hc he hw => gs_field hw _ _ _ rfl gd (0) (256) (hG.other 2 rfl) (fun wz => field_dfa_1 gd (0) wz) (vF_yes (on_g hc he) _).symm) (fun hn => vF_no hn _)) ?_
      refine Steps.cons (fun a' w' hG hB dep => gs_guard (c := true) (b' := ((false || false) || (!true))) rfl rfl (dep 11 rfl 50 rfl) (fun hc he hw => gs_load1 hw _ _ rfl gd (256) (Eq.trans (dep 15 rfl 54 rfl) (vF_yes (on_g hc he) _)) (.slice x.A x.rs.length x.c) (blk_d1 (blk_then hd hB)) _ Try.underlying45 rfl (vF_yes (on_g hc he) _).symm) (fun hn => vF_no hn _)) ?_
      refine Steps.cons (fun a' w' hG hB dep => gs_guard (c := true) (b' := ((false || false) || (!true))) rfl rfl (dep 11 rfl 50 rfl) (fun hc he hw => gs_len hw _ _ rfl under_rows _ x.rs.length x.c (Eq.trans (dep 16 rfl 55 rfl) (vF_yes (on_g hc he) _)) (vF_yes (on_g hc he) _).symm) (fun hn => vF_no hn _)) ?_
      refine Steps.cons (fun a' w' hG hB dep => gs_guard (c := true) (b' := ((false || false) || (!true))) rfl rfl (dep 11 rfl 50 rfl) (fun hc he hw => gs_gtr_int hw _ _ _ _ rfl _ _ _ (Eq.trans (dep 14 rfl 53 rfl) (vF_yes (on_g hc he) _)) (Eq.trans (dep 17 rfl 56 rfl) (vF_yes (on_g hc he) _)) (Eq.trans (congrArg Value.bool (decide_eq_false (by omega))) (vF_yes (on_g hc he) _).symm)) (fun hn => vF_no hn _)) ?_
      refine Steps.cons (fun a' w' hG hB dep => gs_pick (want_none rfl) _ _ _ rfl ((false || false) || (!true)) (dep 11 rfl 50 rfl) (id (pick_or2 (c := true) rfl (dep 18 rfl 57 rfl)))) ?_
      refine Steps.cons (fun a' w' hG hB dep => gs_move (want_none rfl) _ rfl (id (dep 19 rfl 58 rfl))) ?_
      refine Steps.cons (fun a' w' hG hB dep => gs_guard (c := true) (b' := (((false || false) || (!true)) || false)) rfl rfl (dep 20 rfl 59 rfl) (fun hc he hw => gs_load_dfa hw _ rfl gx (hG.other 5 rfl) (blk_then hx hB) (vF_yes (on_g hc he) _).symm) (fun hn => vF_no hn _)) ?_
      refine Steps.cons (fun a' w' hG hB dep => gs_guard (c := true) (b' := (((false || false) || (!true)) || false)) rfl rfl (dep 20 rfl 59 rfl) (fun hc he hw => gs_load_dfa hw _ rfl gy (hG.other 7 rfl) (blk_then hy hB) (vF_yes (on_g hc he) _).symm) (fun hn => vF_no hn _)) ?_
      refine Steps.cons (fun a' w' hG hB dep => gs_guard (c := true) (b' := (((false || false) || (!true)) || false)) rfl rfl (dep 20 rfl 59 rfl) (fun hc he hw => gs_call hw _ _ _ rfl enter_same _ (map2 (Eq.trans (dep 21 rfl 60 rfl) (vF_yes (on_g hc he) _)) (Eq.trans (dep 22 rfl 61 rfl) (vF_yes (on_g hc he) _))) ((hSm w' hB).mono fun e w2 ⟨hq1, hb⟩ => ⟨_, hq1, hb, (vF_yes (on_g hc he) _).symm⟩)) (fun hn => vF_no hn _)) ?_
      refine Steps.cons (fun a' w' hG hB dep => gs_guard (c := true) (b' := (((false || false) || (!true)) || false)) rfl rfl (dep 20 rfl 59 rfl) (fun hc he hw => gs_not_bool hw _ _ rfl _ (Eq.trans (dep 23 rfl 62 rfl) (vF_yes (on_g hc he) _)) (vF_yes (on_g hc he) _).symm) (fun hn => vF_no hn _)) ?_
      refine Steps.cons (fun a' w' hG hB dep => gs_pick (want_none rfl) _ _ _ rfl (((false || false) || (!true)) || false) (dep 20 rfl 59 rfl) (id (pick_or2 (c := true) rfl (dep 24 rfl 63 rfl)))) ?_
      exact Steps.nil
    intro u w8 hw8 ans
    have hus64 : u 64 = (.bool ((((false || false) || (!true)) || false) || (!true))) := ans 25 64 (by decide) rfl
    clear ans
    simp only [putAll, List.foldl_cons, List.foldl_nil, Act.put, List.setIfInBounds_toArray, List.set_cons_zero, List.set_cons_succ, hus64]
    clear hus64
    simp only [List.drop]
    refine wpList_nil ?_
    replace hd := blk_then hd hw8
    replace hx := blk_then hx hw8
    replace hB1 := below_then hB1 hw8
    replace hTy := hTy.then_ hw8
    clear hw8 hR2 hSm hfy hyz hTz hy
    have he7 : ((((false || false) || (!true)) || false) || (!true)) = false := rfl
    rw [he7]
    clear he7
    go_upto_if 67 with (fail)
    go_cut [1] from 10 to 11 (fun v wx => (∃ l2 : ByteArray, v = .string l2 ∧ l2.size ≤ 50) ∧ wx = w8)
    case first =>
      by_cases h50 : 50 < q0.size
      · have h50I : (50 : Int) < q0.size := by omega
        go_wp2_with (fail)
        go_meet
        exact ⟨⟨q0.extract 0 50, rfl, by rw [ByteArray.size_extract]; omega⟩, rfl⟩
      · have h50I : ¬ (50 : Int) < q0.size := by omega
        go_wp2_with (fail)
        go_meet
        exact ⟨⟨q0, rfl, by omega⟩, rfl⟩
    case rest =>
      obtain ⟨⟨q, rfl, hq50⟩, rfl⟩ := hcut
      have hTx := hT.then_ hB1
      have nx1 : 1 ≤ x.rs.length := by have := hFx.n1; rwa [fits_n] at this
      have ny1 : 1 ≤ y.rs.length := by have := hFy.n1; rwa [fits_n] at this
      have efx : x.fo.length = x.rs.length := by have := hFx.nf; rwa [fits_n] at this
      have eex : x.en.length = x.rs.length := by have := hFx.ne; rwa [fits_n] at this
      have efy : y.fo.length = y.rs.length := by have := hFy.nf; rwa [fits_n] at this
      have eey : y.en.length = y.rs.length := by have := hFy.ne; rwa [fits_n] at this
      obtain ⟨bF, oF, hFx2, cfx⟩ := fo_cells hTx (by omega)
      obtain ⟨bE, oE, hEx2, cex⟩ := en_cells hTx (by omega)
      obtain ⟨bG, oG, hFy2, cfy⟩ := fo_cells hTy (by omega)
      obtain ⟨bH, oH, hEy2, cey⟩ := en_cells hTy (by omega)
      replace hFx2 := Lib.hid hFx2
      replace hEx2 := Lib.hid hEx2
      replace hFy2 := Lib.hid hFy2
      replace hEy2 := Lib.hid hEy2
      have Hlen := Lib.hid (And.intro (And.intro efx eex) (And.intro efy eey))
      clear efx eex efy eey
      have Hy := Lib.hid hy
      clear hy
      have hAn : x.T.au.n = x.rs.length := fits_au
      have hBn : y.T.au.n = y.rs.length := fits_au
      have Hn := Lib.hid (And.intro hAn hBn)
      clear hAn hBn
      go_wp2_with (fail)
      go_loopw [9, 10, 11] (fun sv tv iv wr => ∃ s t i : Nat, i ≤ q.size + 1 ∧ sv = .int .i64 s ∧ tv = .int .i64 t ∧ iv = .int .i64 i ∧ s < x.rs.length ∧ t < y.rs.length ∧ Alk x.T.au s y.T.au t ∧ Below wc.heap.size wc wr ∧ Blk wr gd 47 (dfaC x.f x.A x.rs.length x.c x.B x.fo.length x.d x.C x.en.length x.e) ∧ Blk wr gx 47 (dfaC y.f y.A y.rs.length y.c y.B y.fo.length y.d y.C y.en.length y.e)) (fun _ _ iv _ => q.size + 1 - (intOf iv).toNat)
      case atStart => exact ⟨0, 0, 0, by omega, rfl, rfl, rfl, by omega, by omega, hAl, Below.refl _ _, hd, hx⟩
      case round =>
        clear hd hx
        obtain ⟨s, t, i, hi, rfl, rfl, rfl, hs, ht, hA, hB2, hd, hx⟩ := hrel
        by_cases hiq : i ≤ q.size
        · have hiI : (i : Int) ≤ q.size := by omega
          have hout := hA.out
          have hq1 : (((x.fo.getD s 0 : Nat) : Int) != ((y.fo.getD t 0 : Nat) : Int)) = false := by
            have := congrArg Prod.fst hout
            have e : x.fo.getD s 0 = y.fo.getD t 0 := this
            rw [e]; simp
          have hq2 : (((x.en.getD s 0 : Nat) : Int) != ((y.en.getD t 0 : Nat) : Int)) = false := by
            have := congrArg Prod.snd hout
            have e : x.en.getD s 0 = y.en.getD t 0 := this
            rw [e]; simp
          have hsf : s < x.fo.length := by rw [Hlen.out.1.1]; exact hs
          have hse : s < x.en.length := by rw [Hlen.out.1.2]; exact hs
          have htf : t < y.fo.length := by rw [Hlen.out.2.1]; exact ht
          have hte : t < y.en.length := by rw [Hlen.out.2.2]; exact ht
          clear hout
          go_upto_region 16 with (fail)
          refine wp_region_steps 24 [eqS (.pointer (some ⟨gd, 257, none⟩)), eqS (.slice (some ⟨bF, oF, none⟩) x.fo.length x.d), eqS (.int .i64 (((s : Nat) : Int))), eqS (.pointer (some ⟨bF, oF + s * 1, none⟩)), eqS (.int .u32 ((((x.fo.getD s 0) : Nat) : Int))), eqS (.pointer (some ⟨gx, 257, none⟩)), eqS (.slice (some ⟨bG, oG, none⟩) y.fo.length y.d), eqS (.int .i64 (((t : Nat) : Int))), eqS (.pointer (some ⟨bG, oG + t * 1, none⟩)), eqS (.int .u32 ((((y.fo.getD t 0) : Nat) : Int))), eqS (.bool false), eqS (.bool false), eqS (vF (true && (false == false)) (.pointer (some ⟨gd, 258, none⟩))), eqS (vF (true && (false == false)) (.slice (some ⟨bE, oE, none⟩) x.en.length x.e)), eqS (vF (true && (false == false)) (.int .i64 (((s : Nat) : Int)))), eqS (vF (true && (false == false)) (.pointer (some ⟨bE, oE + s * 1, none⟩))), eqS (vF (true && (false == false)) (.int .u32 ((((x.en.getD s 0) : Nat) : Int)))), eqS (vF (true && (false == false)) (.pointer (some ⟨gx, 258, none⟩))), eqS (vF (true && (false == false)) (.slice (some ⟨bH, oH, none⟩) y.en.length y.e)), eqS (vF (true && (false == false)) (.int .i64 (((t : Nat) : Int)))), eqS (vF (true && (false == false)) (.pointer (some ⟨bH, oH + t * 1, none⟩))), eqS (vF (true && (false == false)) (.int .u32 ((((y.en.getD t 0) : Nat) : Int)))), eqS (vF (true && (false == false)) (.bool false)), eqS (.bool (false || false))] [76, 77, 78, 79, 80, 81, 82, 83, 84, 85, 86, 87, 88, 89, 90, 91, 92, 93, 94, 95, 96, 97, 98, 99] rfl (by kernel_rfl) rfl ?_ ?_
          · skip
            refine Steps.cons (fun a' w' hG hB dep => gs_field (want_none rfl) _ _ _ rfl gd (0) (257) (hG.other 2 rfl) (fun wz => field_dfa_2 gd (0) wz) rfl) ?_
            refine Steps.cons (fun a' w' hG hB dep => gs_load1 (want_none rfl) _ _ rfl gd (257) (dep 0 rfl 76 rfl) (.slice (some ⟨bF, oF, none⟩) x.fo.length x.d) (by rw [← hFx2.out]; exact blk_d2 (blk_then hd hB)) _ Try.underlying32 rfl rfl) ?_
            refine Steps.cons (fun a' w' hG hB dep => gs_move (want_none rfl) _ rfl (id (hG.other 9 rfl))) ?_
            refine Steps.cons (fun a' w' hG hB dep => gs_index (want_none rfl) _ _ _ rfl under_rules 1 size_ruleE bF oF x.fo.length x.d (s) (dep 1 rfl 77 rfl) (dep 2 rfl 78 rfl) hsf rfl) ?_
            refine Steps.cons (fun a' w' hG hB dep => gs_load1 (want_none rfl) _ _ rfl bF (oF + s * 1) (dep 3 rfl 79 rfl) (.int .u32 ((((x.fo.getD s 0) : Nat) : Int))) (cfx (below_then hB2 hB) _ hsf) _ Try.underlying55 rfl rfl) ?_
            refine Steps.cons (fun a' w' hG hB dep => gs_field (want_none rfl) _ _ _ rfl gx (0) (257) (hG.other 5 rfl) (fun wz => field_dfa_2 gx (0) wz) rfl) ?_
            refine Steps.cons (fun a' w' hG hB dep => gs_load1 (want_none rfl) _ _ rfl gx (257) (dep 5 rfl 81 rfl) (.slice (some ⟨bG, oG, none⟩) y.fo.length y.d) (by rw [← hFy2.out]; exact blk_d2 (blk_then hx hB)) _ Try.underlying32 rfl rfl) ?_
            refine Steps.cons (fun a' w' hG hB dep => gs_move (want_none rfl) _ rfl (id (hG.other 10 rfl))) ?_
            refine Steps.cons (fun a' w' hG hB dep => gs_index (want_none rfl) _ _ _ rfl under_rules 1 size_ruleE bG oG y.fo.length y.d (t) (dep 6 rfl 82 rfl) (dep 7 rfl 83 rfl) htf rfl) ?_
            refine Steps.cons (fun a' w' hG hB dep => gs_load1 (want_none rfl) _ _ rfl bG (oG + t * 1) (dep 8 rfl 84 rfl) (.int .u32 ((((y.fo.getD t 0) : Nat) : Int))) (cfy (below_then hB2 hB) _ htf) _ Try.underlying55 rfl rfl) ?_
            refine Steps.cons (fun a' w' hG hB dep => gs_neq_int (want_none rfl) _ _ _ _ rfl _ _ _ (dep 4 rfl 80 rfl) (dep 9 rfl 85 rfl) (id (congrArg Value.bool hq1))) ?_
            refine Steps.cons (fun a' w' hG hB dep => gs_move (want_none rfl) _ rfl (id (dep 10 rfl 86 rfl))) ?_
            refine Steps.cons (fun a' w' hG hB dep => gs_guard (c := true) (b' := false) rfl rfl (dep 11 rfl 87 rfl) (fun hc he hw => gs_field hw _ _ _ rfl gd (0) (258) (hG.other 2 rfl) (fun wz => field_dfa_3 gd (0) wz) (vF_yes (on_g hc he) _).symm) (fun hn => vF_no hn _)) ?_
            refine Steps.cons (fun a' w' hG hB dep => gs_guard (c := true) (b' := false) rfl rfl (dep 11 rfl 87 rfl) (fun hc he hw => gs_load1 hw _ _ rfl gd (258) (Eq.trans (dep 12 rfl 88 rfl) (vF_yes (on_g hc he) _)) (.slice (some ⟨bE, oE, none⟩) x.en.length x.e) (by rw [← hEx2.out]; exact blk_d3 (blk_then hd hB)) _ Try.underlying32 rfl (vF_yes (on_g hc he) _).symm) (fun hn => vF_no hn _)) ?_
            refine Steps.cons (fun a' w' hG hB dep => gs_guard (c := true) (b' := false) rfl rfl (dep 11 rfl 87 rfl) (fun hc he hw => gs_move hw _ rfl (Eq.trans (hG.other 9 rfl) (vF_yes (on_g hc he) _).symm)) (fun hn => vF_no hn _)) ?_
            refine Steps.cons (fun a' w' hG hB dep => gs_guard (c := true) (b' := false) rfl rfl (dep 11 rfl 87 rfl) (fun hc he hw => gs_index hw _ _ _ rfl under_rules 1 size_ruleE bE oE x.en.length x.e (s) (Eq.trans (dep 13 rfl 89 rfl) (vF_yes (on_g hc he) _)) (Eq.trans (dep 14 rfl 90 rfl) (vF_yes (on_g hc he) _)) hse (vF_yes (on_g hc he) _).symm) (fun hn => vF_no hn _)) ?_
            refine Steps.cons (fun a' w' hG hB dep => gs_guard (c := true) (b' := false) rfl rfl (dep 11 rfl 87 rfl) (fun hc he hw => gs_load1 hw _ _ rfl bE (oE + s * 1) (Eq.trans (dep 15 rfl 91 rfl) (vF_yes (on_g hc he) _)) (.int .u32 ((((x.en.getD s 0) : Nat) : Int))) (cex (below_then hB2 hB) _ hse) _ Try.underlying55 rfl (vF_yes (on_g hc he) _).symm) (fun hn => vF_no hn _)) ?_
            refine Steps.cons (fun a' w' hG hB dep => gs_guard (c := true) (b' := false) rfl rfl (dep 11 rfl 87 rfl) (fun hc he hw => gs_field hw _ _ _ rfl gx (0) (258) (hG.other 5 rfl) (fun wz => field_dfa_3 gx (0) wz) (vF_yes (on_g hc he) _).symm) (fun hn => vF_no hn _)) ?_
            refine Steps.cons (fun a' w' hG hB dep => gs_guard (c := true) (b' := false) rfl rfl (dep 11 rfl 87 rfl) (fun hc he hw => gs_load1 hw _ _ rfl gx (258) (Eq.trans (dep 17 rfl 93 rfl) (vF_yes (on_g hc he) _)) (.slice (some ⟨bH, oH, none⟩) y.en.length y.e) (by rw [← hEy2.out]; exact blk_d3 (blk_then hx hB)) _ Try.underlying32 rfl (vF_yes (on_g hc he) _).symm) (fun hn => vF_no hn _)) ?_
            refine Steps.cons (fun a' w' hG hB dep => gs_guard (c := true) (b' := false) rfl rfl (dep 11 rfl 87 rfl) (fun hc he hw => gs_move hw _ rfl (Eq.trans (hG.other 10 rfl) (vF_yes (on_g hc he) _).symm)) (fun hn => vF_no hn _)) ?_
            refine Steps.cons (fun a' w' hG hB dep => gs_guard (c := true) (b' := false) rfl rfl (dep 11 rfl 87 rfl) (fun hc he hw => gs_index hw _ _ _ rfl under_rules 1 size_ruleE bH oH y.en.length y.e (t) (Eq.trans (dep 18 rfl 94 rfl) (vF_yes (on_g hc he) _)) (Eq.trans (dep 19 rfl 95 rfl) (vF_yes (on_g hc he) _)) hte (vF_yes (on_g hc he) _).symm) (fun hn => vF_no hn _)) ?_
            refine Steps.cons (fun a' w' hG hB dep => gs_guard (c := true) (b' := false) rfl rfl (dep 11 rfl 87 rfl) (fun hc he hw => gs_load1 hw _ _ rfl bH (oH + t * 1) (Eq.trans (dep 20 rfl 96 rfl) (vF_yes (on_g hc he) _)) (.int .u32 ((((y.en.getD t 0) : Nat) : Int))) (cey (below_then hB2 hB) _ hte) _ Try.underlying55 rfl (vF_yes (on_g hc he) _).symm) (fun hn => vF_no hn _)) ?_
            refine Steps.cons (fun a' w' hG hB dep => gs_guard (c := true) (b' := false) rfl rfl (dep 11 rfl 87 rfl) (fun hc he hw => gs_neq_int hw _ _ _ _ rfl _ _ _ (Eq.trans (dep 16 rfl 92 rfl) (vF_yes (on_g hc he) _)) (Eq.trans (dep 21 rfl 97 rfl) (vF_yes (on_g hc he) _)) (Eq.trans (congrArg Value.bool hq2) (vF_yes (on_g hc he) _).symm)) (fun hn => vF_no hn _)) ?_
            refine Steps.cons (fun a' w' hG hB dep => gs_pick (want_none rfl) _ _ _ rfl false (dep 11 rfl 87 rfl) (id (pick_or2 (c := true) rfl (dep 22 rfl 98 rfl)))) ?_
            exact Steps.nil
          intro u w9 hw9 ans
          have hus99 : u 99 = (.bool (false || false)) := ans 23 99 (by decide) rfl
          clear ans
          simp only [putAll, List.foldl_cons, List.foldl_nil, Act.put, List.setIfInBounds_toArray, List.set_cons_zero, List.set_cons_succ, hus99]
          clear hus99
          simp only [List.drop]
          refine wpList_nil ?_
          replace hd := blk_then hd hw9
          replace hx := blk_then hx hw9
          replace hB2 := below_then hB2 hw9
          clear hw9 hq1 hq2 hsf hse htf hte
          have he16 : (false || false) = false := rfl
          rw [he16]
          clear he16
          by_cases hil : i < q.size
          · have hilI : (i : Int) < q.size := by omega
            go_upto_region 19 with (fail)
            obtain ⟨bN, oN, bR, oR, m, nr, cr, hAx, hfm, hmn, _, _, cN, cR⟩ := nx_cells hFx hTx hs (chr_lt q i)
            obtain ⟨u, hu⟩ : ∃ u, x.T.au.go s (chr q i) = u := ⟨_, rfl⟩
            rw [hu] at cR
            replace hu := Lib.hid hu
            refine wp_region_steps 13 [eqS (.pointer (some ⟨gd, 256, none⟩)), eqS (.slice (some ⟨bN, oN, none⟩) x.rs.length x.c), eqS (.int .i64 (((s : Nat) : Int))), eqS (.pointer (some ⟨bN, oN + s * 1, none⟩)), eqS (.slice (some ⟨bR, oR, none⟩) nr cr), eqS (.string q), eqS (.int .i64 (((i : Nat) : Int))), eqS (.int .u8 (((chr q i : Nat) : Int))), eqS (.pointer (some ⟨gd, 0, none⟩)), eqS (.pointer (some ⟨gd, 0 + (chr q i) * 1, none⟩)), eqS (.int .i64 (((m : Nat) : Int))), eqS (.pointer (some ⟨bR, oR + m * 1, none⟩)), eqS (.int .i64 (((u : Nat) : Int)))] [104, 105, 106, 107, 108, 109, 110, 111, 112, 113, 114, 115, 116] rfl (by kernel_rfl) rfl ?_ ?_
            · skip
              refine Steps.cons (fun a' w' hG hB dep => gs_field (want_none rfl) _ _ _ rfl gd (0) (256) (hG.other 2 rfl) (fun wz => field_dfa_1 gd (0) wz) rfl) ?_
              refine Steps.cons (fun a' w' hG hB dep => gs_load1 (want_none rfl) _ _ rfl gd (256) (dep 0 rfl 104 rfl) (.slice (some ⟨bN, oN, none⟩) x.rs.length x.c) (by have h9 := blk_d1 (blk_then hd hB); rw [hAx] at h9; exact h9) _ Try.underlying45 rfl rfl) ?_
              refine Steps.cons (fun a' w' hG hB dep => gs_move (want_none rfl) _ rfl (id (hG.other 9 rfl))) ?_
              refine Steps.cons (fun a' w' hG hB dep => gs_index (want_none rfl) _ _ _ rfl under_rows 1 size_rowE bN oN x.rs.length x.c (s) (dep 1 rfl 105 rfl) (dep 2 rfl 106 rfl) hs rfl) ?_
              refine Steps.cons (fun a' w' hG hB dep => gs_load1 (want_none rfl) _ _ rfl bN (oN + s * 1) (dep 3 rfl 107 rfl) (.slice (some ⟨bR, oR, none⟩) nr cr) (cN (below_then hB2 hB)) _ Try.underlying57 rfl rfl) ?_
              refine Steps.cons (fun a' w' hG hB dep => gs_move (want_none rfl) _ rfl (id (hG.other 1 rfl))) ?_
              refine Steps.cons (fun a' w' hG hB dep => gs_move (want_none rfl) _ rfl (id (hG.other 11 rfl))) ?_
              refine Steps.cons (fun a' w' hG hB dep => gs_index_str (want_none rfl) _ _ rfl q i (dep 5 rfl 109 rfl) (dep 6 rfl 110 rfl) hil rfl) ?_
              refine Steps.cons (fun a' w' hG hB dep => gs_field (want_none rfl) _ _ _ rfl gd (0) (0) (hG.other 2 rfl) (fun wz => field_dfa_0 gd (0) wz) rfl) ?_
              refine Steps.cons (fun a' w' hG hB dep => gs_index_arr8 (want_none rfl) _ _ rfl gd (chr q i) (dep 8 rfl 112 rfl) (dep 7 rfl 111 rfl) (chr_lt q i) rfl) ?_
              refine Steps.cons (fun a' w' hG hB dep => gs_load1 (want_none rfl) _ _ rfl gd (0 + (chr q i) * 1) (dep 9 rfl 113 rfl) (.int .i64 (((m : Nat) : Int))) (by have h9 := blk_cls (blk_then hd hB) (chr_lt q i); rw [hfm] at h9; exact h9) _ Try.underlying3 rfl rfl) ?_
              refine Steps.cons (fun a' w' hG hB dep => gs_index (want_none rfl) _ _ _ rfl under_ints 1 size_intE bR oR nr cr (m) (dep 4 rfl 108 rfl) (dep 10 rfl 114 rfl) hmn rfl) ?_
              refine Steps.cons (fun a' w' hG hB dep => gs_load1 (want_none rfl) _ _ rfl bR (oR + m * 1) (dep 11 rfl 115 rfl) (.int .i64 (((u : Nat) : Int))) (cR (below_then hB2 hB)) _ Try.underlying3 rfl rfl) ?_
              exact Steps.nil
            intro uu wa hwa ans
            have hus116 : uu 116 = (.int .i64 ((u : Nat) : Int)) := ans 12 116 (by decide) rfl
            clear ans
            simp only [putAll, List.foldl_cons, List.foldl_nil, Act.put, List.setIfInBounds_toArray, List.set_cons_zero, List.set_cons_succ, hus116]
            clear hus116
            simp only [List.drop]
            replace hd := blk_then hd hwa
            replace hx := blk_then hx hwa
            replace hB2 := below_then hB2 hwa
            clear hwa cN cR hAx hfm hmn
            obtain ⟨u0, hu0⟩ : ∃ u0, u = u0 := ⟨_, rfl⟩
            rw [hu0] at hu ⊢
            clear hu0 u
            go_upto_region 20 with (fail)
            obtain ⟨bN, oN, bR, oR, m, nr, cr, hAx, hfm, hmn, _, _, cN, cR⟩ := nx_cells hFy hTy ht (chr_lt q i)
            obtain ⟨u, hv⟩ : ∃ u, y.T.au.go t (chr q i) = u := ⟨_, rfl⟩
            rw [hv] at cR
            replace hv := Lib.hid hv
            refine wp_region_steps 13 [eqS (.pointer (some ⟨gx, 256, none⟩)), eqS (.slice (some ⟨bN, oN, none⟩) y.rs.length y.c), eqS (.int .i64 (((t : Nat) : Int))), eqS (.pointer (some ⟨bN, oN + t * 1, none⟩)), eqS (.slice (some ⟨bR, oR, none⟩) nr cr), eqS (.string q), eqS (.int .i64 (((i : Nat) : Int))), eqS (.int .u8 (((chr q i : Nat) : Int))), eqS (.pointer (some ⟨gx, 0, none⟩)), eqS (.pointer (some ⟨gx, 0 + (chr q i) * 1, none⟩)), eqS (.int .i64 (((m : Nat) : Int))), eqS (.pointer (some ⟨bR, oR + m * 1, none⟩)), eqS (.int .i64 (((u : Nat) : Int)))] [117, 118, 119, 120, 121, 122, 123, 124, 125, 126, 127, 128, 129] rfl (by kernel_rfl) rfl ?_ ?_
            · skip
              refine Steps.cons (fun a' w' hG hB dep => gs_field (want_none rfl) _ _ _ rfl gx (0) (256) (hG.other 5 rfl) (fun wz => field_dfa_1 gx (0) wz) rfl) ?_
              refine Steps.cons (fun a' w' hG hB dep => gs_load1 (want_none rfl) _ _ rfl gx (256) (dep 0 rfl 117 rfl) (.slice (some ⟨bN, oN, none⟩) y.rs.length y.c) (by have h9 := blk_d1 (blk_then hx hB); rw [hAx] at h9; exact h9) _ Try.underlying45 rfl rfl) ?_
              refine Steps.cons (fun a' w' hG hB dep => gs_move (want_none rfl) _ rfl (id (hG.other 10 rfl))) ?_
              refine Steps.cons (fun a' w' hG hB dep => gs_index (want_none rfl) _ _ _ rfl under_rows 1 size_rowE bN oN y.rs.length y.c (t) (dep 1 rfl 118 rfl) (dep 2 rfl 119 rfl) ht rfl) ?_
              refine Steps.cons (fun a' w' hG hB dep => gs_load1 (want_none rfl) _ _ rfl bN (oN + t * 1) (dep 3 rfl 120 rfl) (.slice (some ⟨bR, oR, none⟩) nr cr) (cN (below_then hB2 hB)) _ Try.underlying57 rfl rfl) ?_
              refine Steps.cons (fun a' w' hG hB dep => gs_move (want_none rfl) _ rfl (id (hG.other 1 rfl))) ?_
              refine Steps.cons (fun a' w' hG hB dep => gs_move (want_none rfl) _ rfl (id (hG.other 11 rfl))) ?_
              refine Steps.cons (fun a' w' hG hB dep => gs_index_str (want_none rfl) _ _ rfl q i (dep 5 rfl 122 rfl) (dep 6 rfl 123 rfl) hil rfl) ?_
              refine Steps.cons (fun a' w' hG hB dep => gs_field (want_none rfl) _ _ _ rfl gx (0) (0) (hG.other 5 rfl) (fun wz => field_dfa_0 gx (0) wz) rfl) ?_
              refine Steps.cons (fun a' w' hG hB dep => gs_index_arr8 (want_none rfl) _ _ rfl gx (chr q i) (dep 8 rfl 125 rfl) (dep 7 rfl 124 rfl) (chr_lt q i) rfl) ?_
              refine Steps.cons (fun a' w' hG hB dep => gs_load1 (want_none rfl) _ _ rfl gx (0 + (chr q i) * 1) (dep 9 rfl 126 rfl) (.int .i64 (((m : Nat) : Int))) (by have h9 := blk_cls (blk_then hx hB) (chr_lt q i); rw [hfm] at h9; exact h9) _ Try.underlying3 rfl rfl) ?_
              refine Steps.cons (fun a' w' hG hB dep => gs_index (want_none rfl) _ _ _ rfl under_ints 1 size_intE bR oR nr cr (m) (dep 4 rfl 121 rfl) (dep 10 rfl 127 rfl) hmn rfl) ?_
              refine Steps.cons (fun a' w' hG hB dep => gs_load1 (want_none rfl) _ _ rfl bR (oR + m * 1) (dep 11 rfl 128 rfl) (.int .i64 (((u : Nat) : Int))) (cR (below_then hB2 hB)) _ Try.underlying3 rfl rfl) ?_
              exact Steps.nil
            intro uu wb hwb ans
            have hus129 : uu 129 = (.int .i64 ((u : Nat) : Int)) := ans 12 129 (by decide) rfl
            clear ans
            simp only [putAll, List.foldl_cons, List.foldl_nil, Act.put, List.setIfInBounds_toArray, List.set_cons_zero, List.set_cons_succ, hus129]
            clear hus129
            simp only [List.drop]
            replace hd := blk_then hd hwb
            replace hx := blk_then hx hwb
            replace hB2 := below_then hB2 hwb
            clear hwb cN cR hAx hfm hmn
            have hA2 := hA.go (b := chr q i) (chr_lt q i)
            rw [hu.out, hv.out] at hA2
            have hs2 : u0 < x.rs.length := by rw [← hu.out, ← Hn.out.1]; exact hFx.ok.lt _ _ (by rw [Hn.out.1]; exact hs) (chr_lt q i)
            have ht2 : u < y.rs.length := by rw [← hv.out, ← Hn.out.2]; exact hFy.ok.lt _ _ (by rw [Hn.out.2]; exact ht) (chr_lt q i)
            clear hu hv hA
            go_wp2_with (fail)
            exact ⟨⟨u0, u, i + 1, by omega, rfl, rfl, rfl, hs2, ht2, hA2, hB2, hd, hx⟩, by simp only [intOf]; omega⟩
          · have hilI : ¬ (i : Int) < q.size := by omega
            go_wp2_with (fail)
            exact ⟨⟨s, t, i + 1, by omega, rfl, rfl, rfl, hs, ht, hA, hB2, hd, hx⟩, by simp only [intOf]; omega⟩
        · have hiI : ¬ (i : Int) ≤ q.size := by omega
          have hs1 := lsm_same x y hFx hFy (alk_tells hAl) wr (hTx.then_ hB2) (hTy.then_ hB2)
          unfold TV.C' at hs1
          have hs2 : ∀ W, Below wr.heap.size wr W → Calls Try.prog 29 #[.agg (dfaC y.f y.A y.rs.length y.c y.B y.fo.length y.d y.C y.en.length y.e), .agg (dfaC x.f x.A x.rs.length x.c x.B x.fo.length x.d x.C x.en.length x.e)] W fun e w' => e = .returned (.tuple #[.bool true, .string ⟨#[]⟩, .int .i64 0]) ∧ Below W.heap.size W w' := fun W hB => lsm_same y x hFy hFx (alk_tells hAl.symm) W (hTy.then_ (below_then hB2 hB)) (hTx.then_ (below_then hB2 hB))
          go_upto_region 22 with (first
            | (refine wl_load_dfa rfl _ rfl _ rfl hd ?_)
            | (refine wl_load_dfa rfl _ rfl _ rfl hx ?_)
            | (go_at_call 29; refine hs1.mono ?_; rintro e wd ⟨rfl, hBd⟩))
          replace hd := blk_then hd hBd
          replace hx := blk_then hx hBd
          replace hB2 := below_then hB2 hBd
          have hs3 := hs2 _ hBd
          clear hs1 hs2 hBd
          go_upto_region 23 with (first
            | (refine wl_load_dfa rfl _ rfl _ rfl hd ?_)
            | (refine wl_load_dfa rfl _ rfl _ rfl hx ?_)
            | (go_at_call 29; refine hs3.mono ?_; rintro e we ⟨rfl, hBd⟩))
          replace hB2 := below_then hB2 hBd
          clear hBd hs3 hd hx
          refine wp_region_text 21 [eqS (.bool true), eqS (.bool true), eqS (vF (true && (true == true)) (.bool true)), eqS (.bool (true && true)), eqS (.bool (true && true)), eqS (vF (true && ((true && true) == true)) (.string ⟨#[]⟩)), eqS (vF (true && ((true && true) == true)) (.bool true)), eqS (.bool ((true && true) && true)), eqS (.bool ((true && true) && true)), eqS (vF (true && (((true && true) && true) == true)) (.string ⟨#[]⟩)), eqS (vF (true && (((true && true) && true) == true)) (.bool true)), eqS (.bool (((true && true) && true) && true)), eqS (.bool (((true && true) && true) && true)), eqS (vF (true && ((((true && true) && true) && true) == true)) (.int .i64 (0))), eqS (vF (true && ((((true && true) && true) && true) == true)) (.bool true)), eqS (.bool ((((true && true) && true) && true) && true)), eqS (.bool ((((true && true) && true) && true) && true)), eqS (vF (true && (((((true && true) && true) && true) && true) == true)) (.int .i64 (0))), eqS (vF (true && (((((true && true) && true) && true) && true) == true)) (.bool true)), eqS (.bool (((((true && true) && true) && true) && true) && true)), eqS (.bool (((((true && true) && true) && true) && true) && true))] [144, 145, 146, 147, 148, 149, 150, 151, 152, 153, 154, 155, 156, 157, 158, 159, 160, 161, 162, 163, 4] (by kernel_rfl) rfl ?_ ?_
          · skip
            refine Steps.cons (fun a' w' hG hB dep => gs_move (want_none rfl) _ rfl (id (hG.other 12 rfl))) ?_
            refine Steps.cons (fun a' w' hG hB dep => gs_move (want_none rfl) _ rfl (id (dep 0 rfl 144 rfl))) ?_
            refine Steps.cons (fun a' w' hG hB dep => gs_guard (c := true) (b' := true) rfl rfl (dep 1 rfl 145 rfl) (fun hc he hw => gs_move hw _ rfl (Eq.trans (hG.other 15 rfl) (vF_yes (on_g hc he) _).symm)) (fun hn => vF_no hn _)) ?_
            refine Steps.cons (fun a' w' hG hB dep => gs_pick (want_none rfl) _ _ _ rfl true (dep 1 rfl 145 rfl) (id (pick_and2 (c := true) rfl (dep 2 rfl 146 rfl)))) ?_
            refine Steps.cons (fun a' w' hG hB dep => gs_move (want_none rfl) _ rfl (id (dep 3 rfl 147 rfl))) ?_
            refine Steps.cons (fun a' w' hG hB dep => gs_guard (c := true) (b' := (true && true)) rfl rfl (dep 4 rfl 148 rfl) (fun hc he hw => gs_move hw _ rfl (Eq.trans (hG.other 13 rfl) (vF_yes (on_g hc he) _).symm)) (fun hn => vF_no hn _)) ?_
            refine Steps.cons (fun a' w' hG hB dep => gs_guard (c := true) (b' := (true && true)) rfl rfl (dep 4 rfl 148 rfl) (fun hc he hw => gs_eql_str hw _ _ _ _ rfl _ _ (Eq.trans (dep 5 rfl 149 rfl) (vF_yes (on_g hc he) _)) rfl (Eq.trans (congrArg Value.bool (beq_self_eq_true _)) (vF_yes (on_g hc he) _).symm)) (fun hn => vF_no hn _)) ?_
            refine Steps.cons (fun a' w' hG hB dep => gs_pick (want_none rfl) _ _ _ rfl (true && true) (dep 4 rfl 148 rfl) (id (pick_and2 (c := true) rfl (dep 6 rfl 150 rfl)))) ?_
            refine Steps.cons (fun a' w' hG hB dep => gs_move (want_none rfl) _ rfl (id (dep 7 rfl 151 rfl))) ?_
            refine Steps.cons (fun a' w' hG hB dep => gs_guard (c := true) (b' := ((true && true) && true)) rfl rfl (dep 8 rfl 152 rfl) (fun hc he hw => gs_move hw _ rfl (Eq.trans (hG.other 16 rfl) (vF_yes (on_g hc he) _).symm)) (fun hn => vF_no hn _)) ?_
            refine Steps.cons (fun a' w' hG hB dep => gs_guard (c := true) (b' := ((true && true) && true)) rfl rfl (dep 8 rfl 152 rfl) (fun hc he hw => gs_eql_str hw _ _ _ _ rfl _ _ (Eq.trans (dep 9 rfl 153 rfl) (vF_yes (on_g hc he) _)) rfl (Eq.trans (congrArg Value.bool (beq_self_eq_true _)) (vF_yes (on_g hc he) _).symm)) (fun hn => vF_no hn _)) ?_
            refine Steps.cons (fun a' w' hG hB dep => gs_pick (want_none rfl) _ _ _ rfl ((true && true) && true) (dep 8 rfl 152 rfl) (id (pick_and2 (c := true) rfl (dep 10 rfl 154 rfl)))) ?_
            refine Steps.cons (fun a' w' hG hB dep => gs_move (want_none rfl) _ rfl (id (dep 11 rfl 155 rfl))) ?_
            refine Steps.cons (fun a' w' hG hB dep => gs_guard (c := true) (b' := (((true && true) && true) && true)) rfl rfl (dep 12 rfl 156 rfl) (fun hc he hw => gs_move hw _ rfl (Eq.trans (hG.other 14 rfl) (vF_yes (on_g hc he) _).symm)) (fun hn => vF_no hn _)) ?_
            refine Steps.cons (fun a' w' hG hB dep => gs_guard (c := true) (b' := (((true && true) && true) && true)) rfl rfl (dep 12 rfl 156 rfl) (fun hc he hw => gs_eql_int hw _ _ _ _ rfl _ _ _ (Eq.trans (dep 13 rfl 157 rfl) (vF_yes (on_g hc he) _)) rfl (Eq.trans (congrArg Value.bool (by decide)) (vF_yes (on_g hc he) _).symm)) (fun hn => vF_no hn _)) ?_
            refine Steps.cons (fun a' w' hG hB dep => gs_pick (want_none rfl) _ _ _ rfl (((true && true) && true) && true) (dep 12 rfl 156 rfl) (id (pick_and2 (c := true) rfl (dep 14 rfl 158 rfl)))) ?_
            refine Steps.cons (fun a' w' hG hB dep => gs_move (want_none rfl) _ rfl (id (dep 15 rfl 159 rfl))) ?_
            refine Steps.cons (fun a' w' hG hB dep => gs_guard (c := true) (b' := ((((true && true) && true) && true) && true)) rfl rfl (dep 16 rfl 160 rfl) (fun hc he hw => gs_move hw _ rfl (Eq.trans (hG.other 17 rfl) (vF_yes (on_g hc he) _).symm)) (fun hn => vF_no hn _)) ?_
            refine Steps.cons (fun a' w' hG hB dep => gs_guard (c := true) (b' := ((((true && true) && true) && true) && true)) rfl rfl (dep 16 rfl 160 rfl) (fun hc he hw => gs_eql_int hw _ _ _ _ rfl _ _ _ (Eq.trans (dep 17 rfl 161 rfl) (vF_yes (on_g hc he) _)) rfl (Eq.trans (congrArg Value.bool (by decide)) (vF_yes (on_g hc he) _).symm)) (fun hn => vF_no hn _)) ?_
            refine Steps.cons (fun a' w' hG hB dep => gs_pick (want_none rfl) _ _ _ rfl ((((true && true) && true) && true) && true) (dep 16 rfl 160 rfl) (id (pick_and2 (c := true) rfl (dep 18 rfl 162 rfl)))) ?_
            refine Steps.cons (fun a' w' hG hB dep => gs_assign (want_none rfl) _ rfl (id (dep 19 rfl 163 rfl))) ?_
            exact Steps.nil
          intro u wz hwz ans
          have hus4 : u 4 = (.bool (((((true && true) && true) && true) && true) && true)) := ans 20 4 (by decide) rfl
          clear ans
          simp only [putAll, List.foldl_cons, List.foldl_nil, Act.put, List.setIfInBounds_toArray, List.set_cons_zero, List.set_cons_succ, hus4]
          clear hus4
          simp only [List.drop]
          refine wpList_nil ?_
          replace hB2 := below_then hB2 hwz
          have he5 : (((((true && true) && true) && true) && true) && true) = true := rfl
          rw [he5]
          go_wp2_with (fail)
          go_ret
          exact ⟨rfl, below_then hB1 hB2⟩
end Go.Proofs.Ytgahdookojbbiaa
