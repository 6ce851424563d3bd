/- heronlaw11.LeastMakes answers true of any table. No condition beyond those named in each lemma. -/
import Derived.Test.YtgahdookojbbiaaLMk
namespace Go.Proofs.Ytgahdookojbbiaa
open Go.RowKit Go.Maps
set_option linter.unusedVariables false
set_option linter.unusedSimpArgs false
attribute [local go_sem] Oper.semAt_some

set_option maxRecDepth 100000 in
set_option maxHeartbeats 4000000 in
theorem leastMakes_any (x : TV) (hSx : Sml x) (w : World) (hT : TabIn w w.heap.size x) :
    Calls Try.prog 4 #[.agg x.C'] w fun e w' => e = .returned (.bool true) ∧ Below w.heap.size w w' := by
  have hz0 := zero_dfa
  unfold TV.C'
  go_enter Try.func4, Try.ntmps4
  have h1 := Blk.new w 47 (dfaC x.f x.A x.rs.length x.c x.B x.fo.length x.d x.C x.en.length x.e)
  have hB1 := below_alloc (Below.refl w.heap.size w) (.cells (dfaC x.f x.A x.rs.length x.c x.B x.fo.length x.d x.C x.en.length x.e) 47)
  go_upto_region 1 with (fail)
  obtain ⟨w1, hw1⟩ : ∃ y, y = w.alloc (.cells (dfaC x.f x.A x.rs.length x.c x.B x.fo.length x.d x.C x.en.length x.e) 47) := ⟨_, rfl⟩
  rw [← hw1] at h1 hB1 ⊢
  clear hw1
  obtain ⟨g1, hg1⟩ : ∃ g, g = w.heap.size := ⟨_, rfl⟩
  rw [← hg1] at h1 ⊢
  clear hg1
  go_upto_region 3 with (go_at_call 19; refine (fixed_any w1).mono ?_; rintro e w2 ⟨rfl, hB2⟩)
  replace h1 := blk_then h1 hB2
  replace hB1 := below_then hB1 hB2
  clear hB2
  have cX : w2.cell? ⟨g1, 256, none⟩ = some (.slice x.A x.rs.length x.c) := blk_d1 h1
  by_cases hx40 : ¬ ((40 : Int) < ((x.rs.length : Nat) : Int))
  case neg =>
    replace hx40 : (40 : Int) < ((x.rs.length : Nat) : Int) := by omega
    go_wp2_with (fail)
    go_ret
    exact ⟨rfl, hB1⟩
  obtain ⟨E, hE⟩ : ∃ E : Int, (if fitsB x.T then (0 : Int) else 70) = E := ⟨_, rfl⟩
  replace hE := Lib.hid hE
  have hc1 := rmake_any x w2 (hT.then_ hB1)
  unfold TV.C' at hc1
  go_upto_region 6 with (first
    | (refine wl_load_dfa rfl _ rfl g1 rfl h1 ?_)
    | (go_at_call 20; refine hc1.mono ?_; rintro e w3 hmk; obtain ⟨hB3, z, rfl, tz, hzT⟩ := mk_of hmk (hT.then_ hB1) hE.out; clear hmk)
    | (refine wl_store_dfa rfl _ _ rfl _ rfl rfl (Blk.new _ _ _) ?_; intro w4 hvw hG5))
  have hB5 : Below w3.heap.size w3 w4 := below_grown (below_alloc (Below.refl _ _) _) hG5 (Nat.le_refl _)
  obtain ⟨gw, hgg⟩ : ∃ g, g = w3.heap.size := ⟨_, rfl⟩
  rw [← hgg] at hvw ⊢
  have ngw : w3.heap.size ≤ gw := by omega
  clear hgg hG5
  clear hc1 cX
  replace hzT := Lib.hid hzT
  replace tz := tz.then_ hB5
  replace hB5 := below_then hB3 hB5
  replace h1 := blk_then h1 hB5
  replace hB1 := below_then hB1 hB5
  clear hB3 hB5
  have s04h := Lib.hid hB1.size
  have hc1 := cop_any x hSx w4 (hT.then_ hB1)
  unfold TV.C' at hc1
  go_upto_region 7 with (first
    | (refine wl_load_dfa rfl _ rfl g1 rfl h1 ?_)
    | (go_at_call 21; refine hc1.mono ?_; rintro e w5 ⟨hB3, y, rz, rfl, oy, hrz, hyT⟩)
    | (refine wl_store_dfa rfl _ _ rfl _ rfl rfl (Blk.new _ _ _) ?_; intro w6 hx hG5))
  have hB5 : Below w5.heap.size w5 w6 := below_grown (below_alloc (Below.refl _ _) _) hG5 (Nat.le_refl _)
  obtain ⟨gx, hgg⟩ : ∃ g, g = w5.heap.size := ⟨_, rfl⟩
  rw [← hgg] at hx ⊢
  have ngx : w5.heap.size ≤ gx := by omega
  clear hgg hG5
  clear hc1
  replace hyT := Lib.hid hyT
  replace oy := oy.then_ hB5
  replace hB5 := below_then hB3 hB5
  replace h1 := blk_then h1 hB5
  replace hvw := blk_then hvw hB5
  replace tz := tz.then_ hB5
  replace hB1 := below_then hB1 hB5
  clear hB3 hB5
  have s04 : w.heap.size ≤ w4.heap.size := s04h.out
  clear s04h
  have hzR : ∀ k, OfAll z k → k < w6.heap.size := fun k hk => (tz.own.all hk).2
  have hyR : ∀ k, OfAll y k → k < w6.heap.size := fun k hk => (oy.all hk).2
  replace hzR := Lib.hid hzR
  replace hyR := Lib.hid hyR
  have hr1 : g1 < w6.heap.size := h1.lt
  have hrw : gw < w6.heap.size := hvw.lt
  have hrx : gx < w6.heap.size := hx.lt
  have s06 : w.heap.size ≤ w6.heap.size := hB1.size
  have hyE : (if fitsB y.T then (0 : Int) else 70) = E := by rw [hyT.out]; exact hE.out
  replace hyE := Lib.hid hyE
  have hty := cop_own_tab (congrArg Tb.nx hyT.out) (congrArg Tb.fo hyT.out) (by rw [show y.en = x.en from congrArg Tb.en hyT.out]) (by rw [show y.en = x.en from congrArg Tb.en hyT.out]; exact hT.e32) hSx (hT.then_ hB1) oy
  have hc1 := lmake_any y w6 hty
  unfold TV.C' at hc1
  go_upto_region 8 with (first
    | (refine wl_load_dfa rfl _ rfl gx rfl hx ?_)
    | (go_at_call 22; refine hc1.mono ?_; rintro e w7 hmk; obtain ⟨hB3, p, rfl, tp, hpT⟩ := mk_of hmk hty hyE.out; clear hmk)
    | (refine wl_store_dfa rfl _ _ rfl _ rfl rfl (Blk.new _ _ _) ?_; intro w8 ha hG5))
  have hB5 : Below w7.heap.size w7 w8 := below_grown (below_alloc (Below.refl _ _) _) hG5 (Nat.le_refl _)
  obtain ⟨ga, hgg⟩ : ∃ g, g = w7.heap.size := ⟨_, rfl⟩
  rw [← hgg] at ha ⊢
  have nga : w7.heap.size ≤ ga := by omega
  clear hgg hG5
  clear hc1
  have hpT2 : p.T = leastOf x.T := by rw [hpT, hyT.out]
  replace hpT2 := Lib.hid hpT2
  have hpR : ∀ k, OfAll p k → w6.heap.size ≤ k ∧ k < w7.heap.size := fun k hk => tp.own.all hk
  replace hpR := Lib.hid hpR
  replace tp := tp.then_ hB5
  have s67 : w6.heap.size ≤ w7.heap.size := hB3.size
  replace hB5 := below_then hB3 hB5
  replace h1 := blk_then h1 hB5
  replace hvw := blk_then hvw hB5
  replace hx := blk_then hx hB5
  replace tz := tz.then_ hB5
  replace oy := oy.then_ hB5
  replace hB1 := below_then hB1 hB5
  replace hty := hty.then_ hB5
  have s78 : w7.heap.size ≤ w8.heap.size := by have := ha.lt; omega
  have hra : ga < w8.heap.size := ha.lt
  clear hB3 hB5 hpT
  have hc1 := lmake_any y w8 hty
  unfold TV.C' at hc1
  go_upto_region 9 with (first
    | (refine wl_load_dfa rfl _ rfl gx rfl hx ?_)
    | (go_at_call 22; refine hc1.mono ?_; rintro e w9 hmk; obtain ⟨hB3, q, rfl, tq, hqT⟩ := mk_of hmk hty hyE.out; clear hmk)
    | (refine wl_store_dfa rfl _ _ rfl _ rfl rfl (Blk.new _ _ _) ?_; intro wA hb hG5))
  have hB5 : Below w9.heap.size w9 wA := below_grown (below_alloc (Below.refl _ _) _) hG5 (Nat.le_refl _)
  obtain ⟨gb, hgg⟩ : ∃ g, g = w9.heap.size := ⟨_, rfl⟩
  rw [← hgg] at hb ⊢
  have ngb : w9.heap.size ≤ gb := by omega
  clear hgg hG5
  clear hc1
  have hqT2 : q.T = leastOf x.T := by rw [hqT, hyT.out]
  replace hqT2 := Lib.hid hqT2
  have hqR : ∀ k, OfAll q k → w8.heap.size ≤ k ∧ k < w9.heap.size := fun k hk => tq.own.all hk
  replace hqR := Lib.hid hqR
  replace tq := tq.then_ hB5
  have s89 : w8.heap.size ≤ w9.heap.size := hB3.size
  replace hB5 := below_then hB3 hB5
  replace h1 := blk_then h1 hB5
  replace hvw := blk_then hvw hB5
  replace hx := blk_then hx hB5
  replace ha := blk_then ha hB5
  replace tz := tz.then_ hB5
  replace tp := tp.then_ hB5
  replace oy := oy.then_ hB5
  replace hB1 := below_then hB1 hB5
  have s9A : w9.heap.size ≤ wA.heap.size := by have := hb.lt; omega
  have hrb : gb < wA.heap.size := hb.lt
  clear hB3 hB5 hqT hty
  have hs1 : ∀ W : World, Below wA.heap.size wA W → Calls Try.prog 23 #[.agg (dfaC p.f p.A p.rs.length p.c p.B p.fo.length p.d p.C p.en.length p.e), .agg (dfaC z.f z.A z.rs.length z.c z.B z.fo.length z.d z.C z.en.length z.e)] W fun e w' => e = .returned (.bool true) ∧ Below W.heap.size W w' := fun W hB => same_any p z (TEq.of (by rw [hpT2.out, hzT.out])) W ((tp.then_ hB).tab (by omega)) ((tz.then_ hB).tab (by omega))
  have hs2 : ∀ W : World, Below wA.heap.size wA W → Calls Try.prog 23 #[.agg (dfaC q.f q.A q.rs.length q.c q.B q.fo.length q.d q.C q.en.length q.e), .agg (dfaC z.f z.A z.rs.length z.c z.B z.fo.length z.d z.C z.en.length z.e)] W fun e w' => e = .returned (.bool true) ∧ Below W.heap.size W w' := fun W hB => same_any q z (TEq.of (by rw [hqT2.out, hzT.out])) W ((tq.then_ hB).tab (by omega)) ((tz.then_ hB).tab (by omega))
  have hk1 : ∀ W : World, Below wA.heap.size wA W → Calls Try.prog 24 #[.agg (dfaC y.f y.A y.rs.length y.c y.B y.fo.length y.d y.C y.en.length y.e), .agg (dfaC x.f x.A x.rs.length x.c x.B x.fo.length x.d x.C x.en.length x.e)] W fun e w' => e = .returned (.bool true) ∧ Below W.heap.size W w' := fun W hB => kep_any x y rz _ hyT.out hrz hSx W (hT.then_ (below_then hB1 hB)) (oy.then_ hB)
  refine wp_region_text 26 [eqS (.int .i64 (E)), eqS (.int .i64 (E)), eqS (.bool false), eqS (.bool false), eqS (vF (true && (false == false)) (.int .i64 (E))), eqS (vF (true && (false == false)) (.int .i64 (E))), eqS (vF (true && (false == false)) (.bool false)), eqS (.bool (false || false)), eqS (.bool (false || false)), eqS (vF (true && ((false || false) == false)) (.agg (dfaC p.f p.A p.rs.length p.c p.B p.fo.length p.d p.C p.en.length p.e))), eqS (vF (true && ((false || false) == false)) (.agg (dfaC z.f z.A z.rs.length z.c z.B z.fo.length z.d z.C z.en.length z.e))), eqS (vF (true && ((false || false) == false)) (.bool true)), eqS (vF (true && ((false || false) == false)) (.bool (!true))), eqS (.bool ((false || false) || (!true))), eqS (.bool ((false || false) || (!true))), eqS (vF (true && (((false || false) || (!true)) == false)) (.agg (dfaC q.f q.A q.rs.length q.c q.B q.fo.length q.d q.C q.en.length q.e))), eqS (vF (true && (((false || false) || (!true)) == false)) (.agg (dfaC z.f z.A z.rs.length z.c z.B z.fo.length z.d z.C z.en.length z.e))), eqS (vF (true && (((false || false) || (!true)) == false)) (.bool true)), eqS (vF (true && (((false || false) || (!true)) == false)) (.bool (!true))), eqS (.bool (((false || false) || (!true)) || (!true))), eqS (.bool (((false || false) || (!true)) || (!true))), eqS (vF (true && ((((false || false) || (!true)) || (!true)) == false)) (.agg (dfaC y.f y.A y.rs.length y.c y.B y.fo.length y.d y.C y.en.length y.e))), eqS (vF (true && ((((false || false) || (!true)) || (!true)) == false)) (.agg (dfaC x.f x.A x.rs.length x.c x.B x.fo.length x.d x.C x.en.length x.e))), eqS (vF (true && ((((false || false) || (!true)) || (!true)) == false)) (.bool true)), eqS (vF (true && ((((false || false) || (!true)) || (!true)) == false)) (.bool (!true))), eqS (.bool ((((false || false) || (!true)) || (!true)) || (!true)))] [41, 42, 43, 44, 45, 46, 47, 48, 49, 50, 51, 52, 53, 54, 55, 56, 57, 58, 59, 60, 61, 62, 63, 64, 65, 66] (by kernel_rfl) rfl ?_ ?_
  · skip
    refine Steps.cons (fun a' w' hG hB dep => gs_move (want_none rfl) _ rfl (id (hG.other 7 rfl))) ?_
    refine Steps.cons (fun a' w' hG hB dep => gs_move (want_none rfl) _ rfl (id (hG.other 4 rfl))) ?_
    refine Steps.cons (fun a' w' hG hB dep => gs_neq_int (want_none rfl) _ _ _ _ rfl _ _ _ (dep 0 rfl 41 rfl) (dep 1 rfl 42 rfl) (id (congrArg Value.bool (bne_self_eq_false E)))) ?_
    refine Steps.cons (fun a' w' hG hB dep => gs_move (want_none rfl) _ rfl (id (dep 2 rfl 43 rfl))) ?_
    refine Steps.cons (fun a' w' hG hB dep => gs_guard (c := true) (b' := false) rfl rfl (dep 3 rfl 44 rfl) (fun hc he hw => gs_move hw _ rfl (Eq.trans (hG.other 9 rfl) (vF_yes (on_g hc he) _).symm)) (fun hn => vF_no hn _)) ?_
    refine Steps.cons (fun a' w' hG hB dep => gs_guard (c := true) (b' := false) rfl rfl (dep 3 rfl 44 rfl) (fun hc he hw => gs_move hw _ rfl (Eq.trans (hG.other 4 rfl) (vF_yes (on_g hc he) _).symm)) (fun hn => vF_no hn _)) ?_
    refine Steps.cons (fun a' w' hG hB dep => gs_guard (c := true) (b' := false) rfl rfl (dep 3 rfl 44 rfl) (fun hc he hw => gs_neq_int hw _ _ _ _ rfl _ _ _ (Eq.trans (dep 4 rfl 45 rfl) (vF_yes (on_g hc he) _)) (Eq.trans (dep 5 rfl 46 rfl) (vF_yes (on_g hc he) _)) (Eq.trans (congrArg Value.bool (bne_self_eq_false E)) (vF_yes (on_g hc he) _).symm)) (fun hn => vF_no hn _)) ?_
    refine Steps.cons (fun a' w' hG hB dep => gs_pick (want_none rfl) _ _ _ rfl false (dep 3 rfl 44 rfl) (id (pick_or2 (c := true) rfl (dep 6 rfl 47 rfl)))) ?_
    refine Steps.cons (fun a' w' hG hB dep => gs_move (want_none rfl) _ rfl (id (dep 7 rfl 48 rfl))) ?_
    refine Steps.cons (fun a' w' hG hB dep => gs_guard (c := true) (b' := (false || false)) rfl rfl (dep 8 rfl 49 rfl) (fun hc he hw => gs_load_dfa hw _ rfl ga (hG.other 6 rfl) (blk_then ha hB) (vF_yes (on_g hc he) _).symm) (fun hn => vF_no hn _)) ?_
    refine Steps.cons (fun a' w' hG hB dep => gs_guard (c := true) (b' := (false || false)) rfl rfl (dep 8 rfl 49 rfl) (fun hc he hw => gs_load_dfa hw _ rfl gw (hG.other 3 rfl) (blk_then hvw hB) (vF_yes (on_g hc he) _).symm) (fun hn => vF_no hn _)) ?_
    refine Steps.cons (fun a' w' hG hB dep => gs_guard (c := true) (b' := (false || false)) rfl rfl (dep 8 rfl 49 rfl) (fun hc he hw => gs_call hw _ _ _ rfl enter_same _ (map2 (Eq.trans (dep 9 rfl 50 rfl) (vF_yes (on_g hc he) _)) (Eq.trans (dep 10 rfl 51 rfl) (vF_yes (on_g hc he) _))) ((hs1 w' hB).mono fun e w2 ⟨hq1, hb⟩ => ⟨_, hq1, hb, (vF_yes (on_g hc he) _).symm⟩)) (fun hn => vF_no hn _)) ?_
    refine Steps.cons (fun a' w' hG hB dep => gs_guard (c := true) (b' := (false || false)) rfl rfl (dep 8 rfl 49 rfl) (fun hc he hw => gs_not_bool hw _ _ rfl _ (Eq.trans (dep 11 rfl 52 rfl) (vF_yes (on_g hc he) _)) (vF_yes (on_g hc he) _).symm) (fun hn => vF_no hn _)) ?_
    refine Steps.cons (fun a' w' hG hB dep => gs_pick (want_none rfl) _ _ _ rfl (false || false) (dep 8 rfl 49 rfl) (id (pick_or2 (c := true) rfl (dep 12 rfl 53 rfl)))) ?_
    refine Steps.cons (fun a' w' hG hB dep => gs_move (want_none rfl) _ rfl (id (dep 13 rfl 54 rfl))) ?_
    refine Steps.cons (fun a' w' hG hB dep => gs_guard (c := true) (b' := ((false || false) || (!true))) rfl rfl (dep 14 rfl 55 rfl) (fun hc he hw => gs_load_dfa hw _ rfl gb (hG.other 8 rfl) (blk_then hb hB) (vF_yes (on_g hc he) _).symm) (fun hn => vF_no hn _)) ?_
    refine Steps.cons (fun a' w' hG hB dep => gs_guard (c := true) (b' := ((false || false) || (!true))) rfl rfl (dep 14 rfl 55 rfl) (fun hc he hw => gs_load_dfa hw _ rfl gw (hG.other 3 rfl) (blk_then hvw hB) (vF_yes (on_g hc he) _).symm) (fun hn => vF_no hn _)) ?_
    refine Steps.cons (fun a' w' hG hB dep => gs_guard (c := true) (b' := ((false || false) || (!true))) rfl rfl (dep 14 rfl 55 rfl) (fun hc he hw => gs_call hw _ _ _ rfl enter_same _ (map2 (Eq.trans (dep 15 rfl 56 rfl) (vF_yes (on_g hc he) _)) (Eq.trans (dep 16 rfl 57 rfl) (vF_yes (on_g hc he) _))) ((hs2 w' hB).mono fun e w2 ⟨hq1, hb⟩ => ⟨_, hq1, hb, (vF_yes (on_g hc he) _).symm⟩)) (fun hn => vF_no hn _)) ?_
    refine Steps.cons (fun a' w' hG hB dep => gs_guard (c := true) (b' := ((false || false) || (!true))) rfl rfl (dep 14 rfl 55 rfl) (fun hc he hw => gs_not_bool hw _ _ rfl _ (Eq.trans (dep 17 rfl 58 rfl) (vF_yes (on_g hc he) _)) (vF_yes (on_g hc he) _).symm) (fun hn => vF_no hn _)) ?_
    refine Steps.cons (fun a' w' hG hB dep => gs_pick (want_none rfl) _ _ _ rfl ((false || false) || (!true)) (dep 14 rfl 55 rfl) (id (pick_or2 (c := true) rfl (dep 18 rfl 59 rfl)))) ?_
    refine Steps.cons (fun a' w' hG hB dep => gs_move (want_none rfl) _ rfl (id (dep 19 rfl 60 rfl))) ?_
    refine Steps.cons (fun a' w' hG hB dep => gs_guard (c := true) (b' := (((false || false) || (!true)) || (!true))) rfl rfl (dep 20 rfl 61 rfl) (fun hc he hw => gs_load_dfa hw _ rfl gx (hG.other 5 rfl) (blk_then hx hB) (vF_yes (on_g hc he) _).symm) (fun hn => vF_no hn _)) ?_
    refine Steps.cons (fun a' w' hG hB dep => gs_guard (c := true) (b' := (((false || false) || (!true)) || (!true))) rfl rfl (dep 20 rfl 61 rfl) (fun hc he hw => gs_load_dfa hw _ rfl g1 (hG.other 1 rfl) (blk_then h1 hB) (vF_yes (on_g hc he) _).symm) (fun hn => vF_no hn _)) ?_
    refine Steps.cons (fun a' w' hG hB dep => gs_guard (c := true) (b' := (((false || false) || (!true)) || (!true))) rfl rfl (dep 20 rfl 61 rfl) (fun hc he hw => gs_call hw _ _ _ rfl enter_kep _ (map2 (Eq.trans (dep 21 rfl 62 rfl) (vF_yes (on_g hc he) _)) (Eq.trans (dep 22 rfl 63 rfl) (vF_yes (on_g hc he) _))) ((hk1 w' hB).mono fun e w2 ⟨hq1, hb⟩ => ⟨_, hq1, hb, (vF_yes (on_g hc he) _).symm⟩)) (fun hn => vF_no hn _)) ?_
    refine Steps.cons (fun a' w' hG hB dep => gs_guard (c := true) (b' := (((false || false) || (!true)) || (!true))) rfl rfl (dep 20 rfl 61 rfl) (fun hc he hw => gs_not_bool hw _ _ rfl _ (Eq.trans (dep 23 rfl 64 rfl) (vF_yes (on_g hc he) _)) (vF_yes (on_g hc he) _).symm) (fun hn => vF_no hn _)) ?_
    refine Steps.cons (fun a' w' hG hB dep => gs_pick (want_none rfl) _ _ _ rfl (((false || false) || (!true)) || (!true)) (dep 20 rfl 61 rfl) (id (pick_or2 (c := true) rfl (dep 24 rfl 65 rfl)))) ?_
    exact Steps.nil
  intro u wB hwB ans
  have hus66 : u 66 = (.bool ((((false || false) || (!true)) || (!true)) || (!true))) := ans 25 66 (by decide) rfl
  clear ans
  simp only [putAll, List.foldl_cons, List.foldl_nil, Act.put, List.setIfInBounds_toArray, List.set_cons_zero, List.set_cons_succ, hus66]
  clear hus66
  simp only [List.drop]
  refine wpList_nil ?_
  replace h1 := blk_then h1 hwB
  replace hvw := blk_then hvw hwB
  replace hx := blk_then hx hwB
  replace ha := blk_then ha hwB
  replace hb := blk_then hb hwB
  replace tz := tz.then_ hwB
  replace tp := tp.then_ hwB
  replace tq := tq.then_ hwB
  replace oy := oy.then_ hwB
  replace hB1 := below_then hB1 hwB
  clear hwB hs1 hs2 hk1
  have he9 : ((((false || false) || (!true)) || (!true)) || (!true)) = false := rfl
  rw [he9]
  clear he9
  have hc1 : Calls Try.prog 25 #[.agg (dfaC p.f p.A p.rs.length p.c p.B p.fo.length p.d p.C p.en.length p.e), .int .i64 901] wB fun e w' => e = .returned (.tuple #[]) ∧ Mid w6.heap.size w7.heap.size wB w' ∧ TOwn w' w6.heap.size (fillT p 901) [] [] [] := fil_any p 901 (by omega) _ _ (tp.sml (by omega)) wB tp.own (fun k hk => (hpR.out k hk).2)
  go_upto_region 12 with (first | (refine wl_load_dfa rfl _ rfl ga rfl ha ?_) | (go_at_call 25; refine hc1.mono ?_; rintro e wC ⟨rfl, hM, hO⟩))
  clear hc1
  replace h1 := blk_mid h1 hM (by omega)
  replace hvw := blk_mid hvw hM (by omega)
  replace hx := blk_mid hx hM (by omega)
  replace ha := blk_mid ha hM (by omega)
  replace hb := blk_mid hb hM (by omega)
  replace tz := tz.mid hM (fun j hj => by have := hzR.out j hj; omega)
  replace tq := tq.mid hM (fun j hj => by have := hqR.out j hj; omega)
  replace oy := oy.mid hM (fun j hj => by have := hyR.out j hj; omega)
  replace hB1 := hB1.trans (hM.below (N := w.heap.size) (by omega) hB1.size)
  have tp2 := fill_tbl (m := 901) tp (by omega) hO
  have hpR2 : ∀ k, OfAll (fillT p 901) k → w6.heap.size ≤ k ∧ k < w7.heap.size := fun k hk => hpR.out k (ofall_fill hk)
  have hpF := fill_full p 901
  have hcp : (dfaC p.f p.A p.rs.length p.c p.B p.fo.length p.d p.C p.en.length p.e) = (dfaC (fillT p 901).f (fillT p 901).A (fillT p 901).rs.length (fillT p 901).c (fillT p 901).B (fillT p 901).fo.length (fillT p 901).d (fillT p 901).C (fillT p 901).en.length (fillT p 901).e) := by simp [fillT]
  rw [hcp] at ha
  obtain ⟨p2, hpp⟩ : ∃ qq, fillT p 901 = qq := ⟨_, rfl⟩
  rw [hpp] at ha tp2 hpR2 hpF
  replace hpR2 := Lib.hid hpR2
  replace hpF := Lib.hid hpF
  clear hcp hpp hM hO tp hpR
  have hs2 : ∀ W : World, Below wC.heap.size wC W → Calls Try.prog 23 #[.agg (dfaC q.f q.A q.rs.length q.c q.B q.fo.length q.d q.C q.en.length q.e), .agg (dfaC z.f z.A z.rs.length z.c z.B z.fo.length z.d z.C z.en.length z.e)] W fun e w' => e = .returned (.bool true) ∧ Below W.heap.size W w' := fun W hB => same_any q z (TEq.of (by rw [hqT2.out, hzT.out])) W ((tq.then_ hB).tab (by omega)) ((tz.then_ hB).tab (by omega))
  replace hs2 := hs2 wC (Below.refl _ _)
  go_upto_region 14 with (first | (refine wl_load_dfa rfl _ rfl gb rfl hb ?_) | (refine wl_load_dfa rfl _ rfl gw rfl hvw ?_) | (go_at_call 23; refine hs2.mono ?_; rintro e wD ⟨rfl, hB5⟩))
  clear hs2
  replace h1 := blk_then h1 hB5
  replace hvw := blk_then hvw hB5
  replace hx := blk_then hx hB5
  replace ha := blk_then ha hB5
  replace hb := blk_then hb hB5
  replace tz := tz.then_ hB5
  replace tp2 := tp2.then_ hB5
  replace tq := tq.then_ hB5
  replace oy := oy.then_ hB5
  replace hB1 := below_then hB1 hB5
  clear hB5 hvw tz hzR hrw ngw
  have hc1 : Calls Try.prog 25 #[.agg (dfaC q.f q.A q.rs.length q.c q.B q.fo.length q.d q.C q.en.length q.e), .int .i64 903] wD fun e w' => e = .returned (.tuple #[]) ∧ Mid w8.heap.size w9.heap.size wD w' ∧ TOwn w' w8.heap.size (fillT q 903) [] [] [] := fil_any q 903 (by omega) _ _ (tq.sml (by omega)) wD tq.own (fun k hk => (hqR.out k hk).2)
  go_upto_region 15 with (first | (refine wl_load_dfa rfl _ rfl gb rfl hb ?_) | (go_at_call 25; refine hc1.mono ?_; rintro e wE ⟨rfl, hM, hO⟩))
  clear hc1
  replace h1 := blk_mid h1 hM (by omega)
  replace hx := blk_mid hx hM (by omega)
  replace ha := blk_mid ha hM (by omega)
  replace hb := blk_mid hb hM (by omega)
  replace tp2 := tp2.mid hM (fun j hj => by have := hpR2.out j hj; omega)
  replace oy := oy.mid hM (fun j hj => by have := hyR.out j hj; omega)
  replace hB1 := hB1.trans (hM.below (N := w.heap.size) (by omega) hB1.size)
  have tq2 := fill_tbl (m := 903) tq (by omega) hO
  have hqR2 : ∀ k, OfAll (fillT q 903) k → w8.heap.size ≤ k ∧ k < w9.heap.size := fun k hk => hqR.out k (ofall_fill hk)
  have hqF := fill_full q 903
  have hcp : (dfaC q.f q.A q.rs.length q.c q.B q.fo.length q.d q.C q.en.length q.e) = (dfaC (fillT q 903).f (fillT q 903).A (fillT q 903).rs.length (fillT q 903).c (fillT q 903).B (fillT q 903).fo.length (fillT q 903).d (fillT q 903).C (fillT q 903).en.length (fillT q 903).e) := by simp [fillT]
  rw [hcp] at hb
  obtain ⟨q2, hpp⟩ : ∃ qq, fillT q 903 = qq := ⟨_, rfl⟩
  rw [hpp] at hb tq2 hqR2 hqF
  replace hqR2 := Lib.hid hqR2
  replace hqF := Lib.hid hqF
  clear hcp hpp hM hO tq hqR
  have hf1 : ∀ W : World, Below wE.heap.size wE W → Calls Try.prog 26 #[.agg (dfaC p2.f p2.A p2.rs.length p2.c p2.B p2.fo.length p2.d p2.C p2.en.length p2.e), .int .i64 901] W fun e w' => e = .returned (.bool true) ∧ Below W.heap.size W w' := fun W hB => ful_any p2 901 (by omega) hpF.out (tp2.sml (by omega)) W ((tp2.then_ hB).tab (by omega))
  have hf2 : ∀ W : World, Below wE.heap.size wE W → Calls Try.prog 26 #[.agg (dfaC q2.f q2.A q2.rs.length q2.c q2.B q2.fo.length q2.d q2.C q2.en.length q2.e), .int .i64 903] W fun e w' => e = .returned (.bool true) ∧ Below W.heap.size W w' := fun W hB => ful_any q2 903 (by omega) hqF.out (tq2.sml (by omega)) W ((tq2.then_ hB).tab (by omega))
  refine wp_region_text 8 [eqS (.agg (dfaC p2.f p2.A p2.rs.length p2.c p2.B p2.fo.length p2.d p2.C p2.en.length p2.e)), eqS (.bool true), eqS (.bool (!true)), eqS (.bool (!true)), eqS (vF (true && ((!true) == false)) (.agg (dfaC q2.f q2.A q2.rs.length q2.c q2.B q2.fo.length q2.d q2.C q2.en.length q2.e))), eqS (vF (true && ((!true) == false)) (.bool true)), eqS (vF (true && ((!true) == false)) (.bool (!true))), eqS (.bool ((!true) || (!true)))] [75, 76, 77, 78, 79, 80, 81, 82] (by kernel_rfl) rfl ?_ ?_
  · skip
    refine Steps.cons (fun a' w' hG hB dep => gs_load_dfa (want_none rfl) _ rfl ga (hG.other 6 rfl) (blk_then ha hB) rfl) ?_
    refine Steps.cons (fun a' w' hG hB dep => gs_call (want_none rfl) _ _ _ rfl enter_ful _ (map2 (dep 0 rfl 75 rfl) rfl) ((hf1 w' hB).mono fun e w2 ⟨hq1, hb⟩ => ⟨_, hq1, hb, rfl⟩)) ?_
    refine Steps.cons (fun a' w' hG hB dep => gs_not_bool (want_none rfl) _ _ rfl _ (dep 1 rfl 76 rfl) rfl) ?_
    refine Steps.cons (fun a' w' hG hB dep => gs_move (want_none rfl) _ rfl (id (dep 2 rfl 77 rfl))) ?_
    refine Steps.cons (fun a' w' hG hB dep => gs_guard (c := true) (b' := (!true)) rfl rfl (dep 3 rfl 78 rfl) (fun hc he hw => gs_load_dfa hw _ rfl gb (hG.other 8 rfl) (blk_then hb hB) (vF_yes (on_g hc he) _).symm) (fun hn => vF_no hn _)) ?_
    refine Steps.cons (fun a' w' hG hB dep => gs_guard (c := true) (b' := (!true)) rfl rfl (dep 3 rfl 78 rfl) (fun hc he hw => gs_call hw _ _ _ rfl enter_ful _ (map2 (Eq.trans (dep 4 rfl 79 rfl) (vF_yes (on_g hc he) _)) rfl) ((hf2 w' hB).mono fun e w2 ⟨hq1, hb⟩ => ⟨_, hq1, hb, (vF_yes (on_g hc he) _).symm⟩)) (fun hn => vF_no hn _)) ?_
    refine Steps.cons (fun a' w' hG hB dep => gs_guard (c := true) (b' := (!true)) rfl rfl (dep 3 rfl 78 rfl) (fun hc he hw => gs_not_bool hw _ _ rfl _ (Eq.trans (dep 5 rfl 80 rfl) (vF_yes (on_g hc he) _)) (vF_yes (on_g hc he) _).symm) (fun hn => vF_no hn _)) ?_
    refine Steps.cons (fun a' w' hG hB dep => gs_pick (want_none rfl) _ _ _ rfl (!true) (dep 3 rfl 78 rfl) (id (pick_or2 (c := true) rfl (dep 6 rfl 81 rfl)))) ?_
    exact Steps.nil
  intro u wF hwF ans
  have hus82 : u 82 = (.bool ((!true) || (!true))) := ans 7 82 (by decide) rfl
  clear ans
  simp only [putAll, List.foldl_cons, List.foldl_nil, Act.put, List.setIfInBounds_toArray, List.set_cons_zero, List.set_cons_succ, hus82]
  clear hus82
  simp only [List.drop]
  refine wpList_nil ?_
  replace h1 := blk_then h1 hwF
  replace hx := blk_then hx hwF
  replace ha := blk_then ha hwF
  replace hb := blk_then hb hwF
  replace tp2 := tp2.then_ hwF
  replace tq2 := tq2.then_ hwF
  replace oy := oy.then_ hwF
  replace hB1 := below_then hB1 hwF
  clear hwF hf1 hf2
  have he9 : ((!true) || (!true)) = false := rfl
  rw [he9]
  clear he9
  go_upto_region 17 with (fail)
  have szF : w9.heap.size ≤ wF.heap.size := by have := hb.lt; omega
  have hc1 := gro_any p2 901 (by omega) _ w7.heap.size (tp2.sml (by omega)) wF tp2.own (fun k hk => (hpR2.out k hk).2) (by have := hb.lt; omega)
  unfold TV.C' at hc1
  replace hc1 : Calls Try.prog 27 #[.agg (dfaC p2.f p2.A p2.rs.length p2.c p2.B p2.fo.length p2.d p2.C p2.en.length p2.e), .int .i64 901] wF _ := hc1
  go_upto_region 18 with (first
    | (refine wl_load_dfa rfl _ rfl ga rfl ha ?_)
    | (go_at_call 27; refine hc1.mono ?_; rintro e wG ⟨P, rfl, hM, hO1, hO2, hR0, k1, k2, k3⟩; replace k1 := Lib.hid k1; replace k2 := Lib.hid k2; replace k3 := Lib.hid k3; replace hR0 := Lib.hid hR0)
    | (refine wl_store_dfa rfl _ _ rfl _ rfl rfl (Blk.new _ _ _) ?_; intro wH hP hG5))
  have hB5 : Below wG.heap.size wG wH := below_grown (below_alloc (Below.refl _ _) _) hG5 (Nat.le_refl _)
  obtain ⟨gP, hgg⟩ : ∃ g, g = wG.heap.size := ⟨_, rfl⟩
  rw [← hgg] at hP ⊢
  have ngP : wG.heap.size ≤ gP := by omega
  clear hgg hG5
  clear hc1
  have szm : wF.heap.size ≤ wG.heap.size := hM.size
  replace h1 := blk_mid h1 hM (by omega)
  replace hx := blk_mid hx hM (by omega)
  replace ha := blk_mid ha hM (by omega)
  replace hb := blk_mid hb hM (by omega)
  replace tq2 := tq2.mid hM (fun j hj => by have := hqR2.out j hj; omega)
  replace oy := oy.mid hM (fun j hj => by have := hyR.out j hj; omega)
  replace hB1 := hB1.trans (hM.below (N := w.heap.size) (by omega) hB1.size)
  have tP := gro_tbl tp2 (by omega) hO2 k1.out k2.out k3.out
  have hPF := gro_full hpF.out k1.out k2.out k3.out
  have hPR : ∀ k, OfAll P k → (w6.heap.size ≤ k ∧ k < w7.heap.size) ∨ w9.heap.size ≤ k := fun k hk => by
    rcases hR0.out k hk with h | h
    · exact .inl (hpR2.out k h)
    · exact .inr (by omega)
  replace hPF := Lib.hid hPF
  replace hPR := Lib.hid hPR
  replace tp2 : Tbl wG w6.heap.size 4096 p2 := ⟨hO1, tp2.n, tp2.r, tp2.f, tp2.e, tp2.f32, tp2.e32⟩
  clear hM hO1 hO2 hR0 k1 k2 k3
  replace h1 := blk_then h1 hB5
  replace hx := blk_then hx hB5
  replace ha := blk_then ha hB5
  replace hb := blk_then hb hB5
  replace tp2 := tp2.then_ hB5
  replace tq2 := tq2.then_ hB5
  replace tP := tP.then_ hB5
  replace oy := oy.then_ hB5
  replace hB1 := below_then hB1 hB5
  have ngP9 : w9.heap.size ≤ gP := by omega
  clear hB5 szm
  have szH : w9.heap.size ≤ wH.heap.size := by have := hb.lt; omega
  have hc1 := gro_any q2 903 (by omega) _ w9.heap.size (tq2.sml (by omega)) wH tq2.own (fun k hk => (hqR2.out k hk).2) (by have := hb.lt; omega)
  unfold TV.C' at hc1
  replace hc1 : Calls Try.prog 27 #[.agg (dfaC q2.f q2.A q2.rs.length q2.c q2.B q2.fo.length q2.d q2.C q2.en.length q2.e), .int .i64 903] wH _ := hc1
  go_upto_region 19 with (first
    | (refine wl_load_dfa rfl _ rfl gb rfl hb ?_)
    | (go_at_call 27; refine hc1.mono ?_; rintro e wI ⟨Q, rfl, hM, hO1, hO2, hR0, k1, k2, k3⟩; replace k1 := Lib.hid k1; replace k2 := Lib.hid k2; replace k3 := Lib.hid k3; replace hR0 := Lib.hid hR0)
    | (refine wl_store_dfa rfl _ _ rfl _ rfl rfl (Blk.new _ _ _) ?_; intro wJ hQ hG5))
  have hB5 : Below wI.heap.size wI wJ := below_grown (below_alloc (Below.refl _ _) _) hG5 (Nat.le_refl _)
  obtain ⟨gQ, hgg⟩ : ∃ g, g = wI.heap.size := ⟨_, rfl⟩
  rw [← hgg] at hQ ⊢
  have ngQ : wI.heap.size ≤ gQ := by omega
  clear hgg hG5
  clear hc1
  have szm : wH.heap.size ≤ wI.heap.size := hM.size
  replace h1 := blk_mid h1 hM (by omega)
  replace hx := blk_mid hx hM (by omega)
  replace ha := blk_mid ha hM (by omega)
  replace hb := blk_mid hb hM (by omega)
  replace hP := blk_mid hP hM (by omega)
  replace tp2 := tp2.mid hM (fun j hj => by have := hpR2.out j hj; omega)
  replace tP := tP.mid hM (fun j hj => by have := hPR.out j hj; omega)
  replace oy := oy.mid hM (fun j hj => by have := hyR.out j hj; omega)
  replace hB1 := hB1.trans (hM.below (N := w.heap.size) (by omega) hB1.size)
  have tQ := gro_tbl tq2 (by omega) hO2 k1.out k2.out k3.out
  have hQF := gro_full hqF.out k1.out k2.out k3.out
  have hQR : ∀ k, OfAll Q k → (w8.heap.size ≤ k ∧ k < w9.heap.size) ∨ w9.heap.size ≤ k := fun k hk => by
    rcases hR0.out k hk with h | h
    · exact .inl (hqR2.out k h)
    · exact .inr (by omega)
  replace hQF := Lib.hid hQF
  replace hQR := Lib.hid hQR
  replace tq2 : Tbl wI w8.heap.size 4096 q2 := ⟨hO1, tq2.n, tq2.r, tq2.f, tq2.e, tq2.f32, tq2.e32⟩
  clear hM hO1 hO2 hR0 k1 k2 k3
  replace h1 := blk_then h1 hB5
  replace hx := blk_then hx hB5
  replace ha := blk_then ha hB5
  replace hb := blk_then hb hB5
  replace hP := blk_then hP hB5
  replace tp2 := tp2.then_ hB5
  replace tq2 := tq2.then_ hB5
  replace tP := tP.then_ hB5
  replace tQ := tQ.then_ hB5
  replace oy := oy.then_ hB5
  replace hB1 := below_then hB1 hB5
  have ngQ9 : w9.heap.size ≤ gQ := by omega
  clear hB5 szm
  have hf1 : ∀ W : World, Below wJ.heap.size wJ W → Calls Try.prog 26 #[.agg (dfaC p2.f p2.A p2.rs.length p2.c p2.B p2.fo.length p2.d p2.C p2.en.length p2.e), .int .i64 901] W fun e w' => e = .returned (.bool true) ∧ Below W.heap.size W w' := fun W hB => ful_any p2 901 (by omega) hpF.out (tp2.sml (by omega)) W ((tp2.then_ hB).tab (by omega))
  have hf2 : ∀ W : World, Below wJ.heap.size wJ W → Calls Try.prog 26 #[.agg (dfaC q2.f q2.A q2.rs.length q2.c q2.B q2.fo.length q2.d q2.C q2.en.length q2.e), .int .i64 903] W fun e w' => e = .returned (.bool true) ∧ Below W.heap.size W w' := fun W hB => ful_any q2 903 (by omega) hqF.out (tq2.sml (by omega)) W ((tq2.then_ hB).tab (by omega))
  have hf3 : ∀ W : World, Below wJ.heap.size wJ W → Calls Try.prog 26 #[.agg (dfaC P.f P.A P.rs.length P.c P.B P.fo.length P.d P.C P.en.length P.e), .int .i64 901] W fun e w' => e = .returned (.bool true) ∧ Below W.heap.size W w' := fun W hB => ful_any P 901 (by omega) hPF.out (tP.sml (by omega)) W ((tP.then_ hB).tab (by omega))
  have hf4 : ∀ W : World, Below wJ.heap.size wJ W → Calls Try.prog 26 #[.agg (dfaC Q.f Q.A Q.rs.length Q.c Q.B Q.fo.length Q.d Q.C Q.en.length Q.e), .int .i64 903] W fun e w' => e = .returned (.bool true) ∧ Below W.heap.size W w' := fun W hB => ful_any Q 903 (by omega) hQF.out (tQ.sml (by omega)) W ((tQ.then_ hB).tab (by omega))
  have hk1 : ∀ W : World, Below wJ.heap.size wJ W → Calls Try.prog 24 #[.agg (dfaC y.f y.A y.rs.length y.c y.B y.fo.length y.d y.C y.en.length y.e), .agg (dfaC x.f x.A x.rs.length x.c x.B x.fo.length x.d x.C x.en.length x.e)] W fun e w' => e = .returned (.bool true) ∧ Below W.heap.size W w' := fun W hB => kep_any x y rz _ hyT.out hrz hSx W (hT.then_ (below_then hB1 hB)) (oy.then_ hB)
  refine wp_region_text 24 [eqS (.agg (dfaC p2.f p2.A p2.rs.length p2.c p2.B p2.fo.length p2.d p2.C p2.en.length p2.e)), eqS (.bool true), eqS (.bool (!true)), eqS (.bool (!true)), eqS (vF (true && ((!true) == false)) (.agg (dfaC q2.f q2.A q2.rs.length q2.c q2.B q2.fo.length q2.d q2.C q2.en.length q2.e))), eqS (vF (true && ((!true) == false)) (.bool true)), eqS (vF (true && ((!true) == false)) (.bool (!true))), eqS (.bool ((!true) || (!true))), eqS (.bool ((!true) || (!true))), eqS (vF (true && (((!true) || (!true)) == false)) (.agg (dfaC P.f P.A P.rs.length P.c P.B P.fo.length P.d P.C P.en.length P.e))), eqS (vF (true && (((!true) || (!true)) == false)) (.bool true)), eqS (vF (true && (((!true) || (!true)) == false)) (.bool (!true))), eqS (.bool (((!true) || (!true)) || (!true))), eqS (.bool (((!true) || (!true)) || (!true))), eqS (vF (true && ((((!true) || (!true)) || (!true)) == false)) (.agg (dfaC Q.f Q.A Q.rs.length Q.c Q.B Q.fo.length Q.d Q.C Q.en.length Q.e))), eqS (vF (true && ((((!true) || (!true)) || (!true)) == false)) (.bool true)), eqS (vF (true && ((((!true) || (!true)) || (!true)) == false)) (.bool (!true))), eqS (.bool ((((!true) || (!true)) || (!true)) || (!true))), eqS (.bool ((((!true) || (!true)) || (!true)) || (!true))), eqS (vF (true && (((((!true) || (!true)) || (!true)) || (!true)) == false)) (.agg (dfaC y.f y.A y.rs.length y.c y.B y.fo.length y.d y.C y.en.length y.e))), eqS (vF (true && (((((!true) || (!true)) || (!true)) || (!true)) == false)) (.agg (dfaC x.f x.A x.rs.length x.c x.B x.fo.length x.d x.C x.en.length x.e))), eqS (vF (true && (((((!true) || (!true)) || (!true)) || (!true)) == false)) (.bool true)), eqS (vF (true && (((((!true) || (!true)) || (!true)) || (!true)) == false)) (.bool (!true))), eqS (.bool (((((!true) || (!true)) || (!true)) || (!true)) || (!true)))] [87, 88, 89, 90, 91, 92, 93, 94, 95, 96, 97, 98, 99, 100, 101, 102, 103, 104, 105, 106, 107, 108, 109, 110] (by kernel_rfl) rfl ?_ ?_
  · skip
    refine Steps.cons (fun a' w' hG hB dep => gs_load_dfa (want_none rfl) _ rfl ga (hG.other 6 rfl) (blk_then ha hB) rfl) ?_
    refine Steps.cons (fun a' w' hG hB dep => gs_call (want_none rfl) _ _ _ rfl enter_ful _ (map2 (dep 0 rfl 87 rfl) rfl) ((hf1 w' hB).mono fun e w2 ⟨hq1, hb⟩ => ⟨_, hq1, hb, rfl⟩)) ?_
    refine Steps.cons (fun a' w' hG hB dep => gs_not_bool (want_none rfl) _ _ rfl _ (dep 1 rfl 88 rfl) rfl) ?_
    refine Steps.cons (fun a' w' hG hB dep => gs_move (want_none rfl) _ rfl (id (dep 2 rfl 89 rfl))) ?_
    refine Steps.cons (fun a' w' hG hB dep => gs_guard (c := true) (b' := (!true)) rfl rfl (dep 3 rfl 90 rfl) (fun hc he hw => gs_load_dfa hw _ rfl gb (hG.other 8 rfl) (blk_then hb hB) (vF_yes (on_g hc he) _).symm) (fun hn => vF_no hn _)) ?_
    refine Steps.cons (fun a' w' hG hB dep => gs_guard (c := true) (b' := (!true)) rfl rfl (dep 3 rfl 90 rfl) (fun hc he hw => gs_call hw _ _ _ rfl enter_ful _ (map2 (Eq.trans (dep 4 rfl 91 rfl) (vF_yes (on_g hc he) _)) rfl) ((hf2 w' hB).mono fun e w2 ⟨hq1, hb⟩ => ⟨_, hq1, hb, (vF_yes (on_g hc he) _).symm⟩)) (fun hn => vF_no hn _)) ?_
    refine Steps.cons (fun a' w' hG hB dep => gs_guard (c := true) (b' := (!true)) rfl rfl (dep 3 rfl 90 rfl) (fun hc he hw => gs_not_bool hw _ _ rfl _ (Eq.trans (dep 5 rfl 92 rfl) (vF_yes (on_g hc he) _)) (vF_yes (on_g hc he) _).symm) (fun hn => vF_no hn _)) ?_
    refine Steps.cons (fun a' w' hG hB dep => gs_pick (want_none rfl) _ _ _ rfl (!true) (dep 3 rfl 90 rfl) (id (pick_or2 (c := true) rfl (dep 6 rfl 93 rfl)))) ?_
    refine Steps.cons (fun a' w' hG hB dep => gs_move (want_none rfl) _ rfl (id (dep 7 rfl 94 rfl))) ?_
    refine Steps.cons (fun a' w' hG hB dep => gs_guard (c := true) (b' := ((!true) || (!true))) rfl rfl (dep 8 rfl 95 rfl) (fun hc he hw => gs_load_dfa hw _ rfl gP (hG.other 10 rfl) (blk_then hP hB) (vF_yes (on_g hc he) _).symm) (fun hn => vF_no hn _)) ?_
    refine Steps.cons (fun a' w' hG hB dep => gs_guard (c := true) (b' := ((!true) || (!true))) rfl rfl (dep 8 rfl 95 rfl) (fun hc he hw => gs_call hw _ _ _ rfl enter_ful _ (map2 (Eq.trans (dep 9 rfl 96 rfl) (vF_yes (on_g hc he) _)) rfl) ((hf3 w' hB).mono fun e w2 ⟨hq1, hb⟩ => ⟨_, hq1, hb, (vF_yes (on_g hc he) _).symm⟩)) (fun hn => vF_no hn _)) ?_
    refine Steps.cons (fun a' w' hG hB dep => gs_guard (c := true) (b' := ((!true) || (!true))) rfl rfl (dep 8 rfl 95 rfl) (fun hc he hw => gs_not_bool hw _ _ rfl _ (Eq.trans (dep 10 rfl 97 rfl) (vF_yes (on_g hc he) _)) (vF_yes (on_g hc he) _).symm) (fun hn => vF_no hn _)) ?_
    refine Steps.cons (fun a' w' hG hB dep => gs_pick (want_none rfl) _ _ _ rfl ((!true) || (!true)) (dep 8 rfl 95 rfl) (id (pick_or2 (c := true) rfl (dep 11 rfl 98 rfl)))) ?_
    refine Steps.cons (fun a' w' hG hB dep => gs_move (want_none rfl) _ rfl (id (dep 12 rfl 99 rfl))) ?_
    refine Steps.cons (fun a' w' hG hB dep => gs_guard (c := true) (b' := (((!true) || (!true)) || (!true))) rfl rfl (dep 13 rfl 100 rfl) (fun hc he hw => gs_load_dfa hw _ rfl gQ (hG.other 11 rfl) (blk_then hQ hB) (vF_yes (on_g hc he) _).symm) (fun hn => vF_no hn _)) ?_
    refine Steps.cons (fun a' w' hG hB dep => gs_guard (c := true) (b' := (((!true) || (!true)) || (!true))) rfl rfl (dep 13 rfl 100 rfl) (fun hc he hw => gs_call hw _ _ _ rfl enter_ful _ (map2 (Eq.trans (dep 14 rfl 101 rfl) (vF_yes (on_g hc he) _)) rfl) ((hf4 w' hB).mono fun e w2 ⟨hq1, hb⟩ => ⟨_, hq1, hb, (vF_yes (on_g hc he) _).symm⟩)) (fun hn => vF_no hn _)) ?_
    refine Steps.cons (fun a' w' hG hB dep => gs_guard (c := true) (b' := (((!true) || (!true)) || (!true))) rfl rfl (dep 13 rfl 100 rfl) (fun hc he hw => gs_not_bool hw _ _ rfl _ (Eq.trans (dep 15 rfl 102 rfl) (vF_yes (on_g hc he) _)) (vF_yes (on_g hc he) _).symm) (fun hn => vF_no hn _)) ?_
    refine Steps.cons (fun a' w' hG hB dep => gs_pick (want_none rfl) _ _ _ rfl (((!true) || (!true)) || (!true)) (dep 13 rfl 100 rfl) (id (pick_or2 (c := true) rfl (dep 16 rfl 103 rfl)))) ?_
    refine Steps.cons (fun a' w' hG hB dep => gs_move (want_none rfl) _ rfl (id (dep 17 rfl 104 rfl))) ?_
    refine Steps.cons (fun a' w' hG hB dep => gs_guard (c := true) (b' := ((((!true) || (!true)) || (!true)) || (!true))) rfl rfl (dep 18 rfl 105 rfl) (fun hc he hw => gs_load_dfa hw _ rfl gx (hG.other 5 rfl) (blk_then hx hB) (vF_yes (on_g hc he) _).symm) (fun hn => vF_no hn _)) ?_
    refine Steps.cons (fun a' w' hG hB dep => gs_guard (c := true) (b' := ((((!true) || (!true)) || (!true)) || (!true))) rfl rfl (dep 18 rfl 105 rfl) (fun hc he hw => gs_load_dfa hw _ rfl g1 (hG.other 1 rfl) (blk_then h1 hB) (vF_yes (on_g hc he) _).symm) (fun hn => vF_no hn _)) ?_
    refine Steps.cons (fun a' w' hG hB dep => gs_guard (c := true) (b' := ((((!true) || (!true)) || (!true)) || (!true))) rfl rfl (dep 18 rfl 105 rfl) (fun hc he hw => gs_call hw _ _ _ rfl enter_kep _ (map2 (Eq.trans (dep 19 rfl 106 rfl) (vF_yes (on_g hc he) _)) (Eq.trans (dep 20 rfl 107 rfl) (vF_yes (on_g hc he) _))) ((hk1 w' hB).mono fun e w2 ⟨hq1, hb⟩ => ⟨_, hq1, hb, (vF_yes (on_g hc he) _).symm⟩)) (fun hn => vF_no hn _)) ?_
    refine Steps.cons (fun a' w' hG hB dep => gs_guard (c := true) (b' := ((((!true) || (!true)) || (!true)) || (!true))) rfl rfl (dep 18 rfl 105 rfl) (fun hc he hw => gs_not_bool hw _ _ rfl _ (Eq.trans (dep 21 rfl 108 rfl) (vF_yes (on_g hc he) _)) (vF_yes (on_g hc he) _).symm) (fun hn => vF_no hn _)) ?_
    refine Steps.cons (fun a' w' hG hB dep => gs_pick (want_none rfl) _ _ _ rfl ((((!true) || (!true)) || (!true)) || (!true)) (dep 18 rfl 105 rfl) (id (pick_or2 (c := true) rfl (dep 22 rfl 109 rfl)))) ?_
    exact Steps.nil
  intro u wK hwK ans
  have hus110 : u 110 = (.bool (((((!true) || (!true)) || (!true)) || (!true)) || (!true))) := ans 23 110 (by decide) rfl
  clear ans
  simp only [putAll, List.foldl_cons, List.foldl_nil, Act.put, List.setIfInBounds_toArray, List.set_cons_zero, List.set_cons_succ, hus110]
  clear hus110
  simp only [List.drop]
  refine wpList_nil ?_
  replace h1 := blk_then h1 hwK
  replace hx := blk_then hx hwK
  replace ha := blk_then ha hwK
  replace hb := blk_then hb hwK
  replace hP := blk_then hP hwK
  replace hQ := blk_then hQ hwK
  replace tp2 := tp2.then_ hwK
  replace tq2 := tq2.then_ hwK
  replace tP := tP.then_ hwK
  replace tQ := tQ.then_ hwK
  replace oy := oy.then_ hwK
  replace hB1 := below_then hB1 hwK
  clear hwK hf1 hf2 hf3 hf4 hk1 tp2 tq2 tP tQ ha hb hP hQ hpF hqF hPF hQF hpR2 hqR2 hPR hQR hpT2 hqT2 hzT
  have he9 : (((((!true) || (!true)) || (!true)) || (!true)) || (!true)) = false := rfl
  rw [he9]
  clear he9
  clear hE szF szH ngP ngP9 ngQ ngQ9 hrb hra nga ngb s67 s78 s89 s9A hyR hr1 hrx ngx
  go_upto_region 21 with (fail)
  have hyel : y.en.length = x.en.length := by rw [show y.en = x.en from congrArg Tb.en hyT.out]
  replace hyel := Lib.hid hyel
  by_cases hl0 : x.en.length = 0
  case pos =>
    have cE : wK.cell? ⟨g1, 258, none⟩ = some (.slice x.C 0 x.e) := by rw [← hl0]; exact blk_d3 h1
    clear hl0
    go_wp2_with (fail)
    go_ret
    exact ⟨rfl, hB1⟩
  obtain ⟨l, hl⟩ : ∃ l, x.en.length = l + 1 := ⟨x.en.length - 1, by omega⟩
  have hlb : l ≤ 1048576 := by have := hSx.e; omega
  have cE : wK.cell? ⟨g1, 258, none⟩ = some (.slice x.C (l + 1) x.e) := by rw [← hl]; exact blk_d3 h1
  have hyl : y.en.length = l + 1 := by rw [hyel.out, hl]
  have hll : l < y.en.length := by omega
  obtain ⟨v, hv⟩ : ∃ v, y.en[l] = v := ⟨_, rfl⟩
  have hen := oy.en
  obtain ⟨g, cap, hvf, hgb, hgl, hf8, hf9⟩ := hen.form (by simp)
  injection hvf with e1 e9 e3; clear e9 e3 hf8 hf9 cap
  have hcU : ∀ W : World, Own W w4.heap.size 55 1 encR (.slice y.C (y.en.length + 1) y.e) (y.en ++ [77]) → W.cell? ⟨g, l, none⟩ = some (.int .u32 (v : Int)) := fun W ho => by
    obtain ⟨b, o, q1, _, q2⟩ := slice_cell (ho.slice_all encR_size) (s := l) (by simp; omega) (v := .int .u32 (v : Int)) (by rw [List.getElem_append_left hll, hv]; rfl)
    rw [e1] at q1
    injection q1 with q1
    injection q1 with q3 q4
    rw [← q3, ← q4, Nat.zero_add, Nat.mul_one] at q2
    exact q2
  have cY : wK.cell? ⟨gx, 258, none⟩ = some (.slice (some ⟨g, 0, none⟩) (l + 1) y.e) := by rw [← e1, ← hyl]; exact blk_d3 hx
  have cU := hcU wK hen
  clear hcU
  have hl0I : ¬ ((l : Int) + 1 = 0) := by omega
  replace hl := Lib.hid hl
  replace hyl := Lib.hid hyl
  replace hv := Lib.hid hv
  replace hll := Lib.hid hll
  replace e1 := Lib.hid e1
  clear hl0 hen
  go_upto_region 25 with (fail)
  clear cE cY cU
  have hty := cop_own_tab (congrArg Tb.nx hyT.out) (congrArg Tb.fo hyT.out) hyel.out (by rw [show y.en = x.en from congrArg Tb.en hyT.out]; exact hT.e32) hSx (hT.then_ hB1) oy
  have hc1 := lmake_any y wK hty
  unfold TV.C' at hc1
  go_upto_region 26 with (first | (refine wl_load_dfa rfl _ rfl gx rfl hx ?_) | (go_at_call 22; refine hc1.mono ?_; rintro e wL hmk; obtain ⟨hB5, c0, rfl, tc0, _⟩ := mk_of hmk hty hyE.out; clear hmk))
  clear hc1 hty tc0 hyE
  replace h1 := blk_then h1 hB5
  replace hx := blk_then hx hB5
  replace oy := oy.then_ hB5
  replace hB1 := below_then hB1 hB5
  clear hB5
  have hen := oy.en
  have cY : wL.cell? ⟨gx, 258, none⟩ = some (.slice (some ⟨g, 0, none⟩) (l + 1) y.e) := by rw [← e1.out, ← hyl.out]; exact blk_d3 hx
  simp only [List.length_cons, List.length_nil, Nat.zero_add] at hen
  have heg := hen
  rw [e1.out] at heg
  have hgl2 : g < wL.heap.size := (heg.lt g rfl).2
  have nx : gx ≠ g := fun e => own_blk_ne heg hx (by decide) (by rw [ownBlock_slice, e]; rfl)
  have n1 : g1 ≠ g := fun e => own_blk_ne heg h1 (by decide) (by rw [ownBlock_slice, e]; rfl)
  go_upto_region 27 with (refine wl_store_own1 rfl 55 _ _ rfl g l (y.en.length + 1) y.e rfl 4294967295 (.int .u32 ((4294967295 : Nat) : Int)) rfl rfl encR_size rfl rfl info_u32S1 heg (by simp; have := hll.out; omega) ?_; intro wM ho hG)
  try simp only [Act.put]
  clear cY
  rw [List.set_append_left _ _ hll.out] at ho
  have oy2 : TOwn wM w4.heap.size { y with en := y.en.set l 4294967295 } [77] [77] [rz] := oy.setE (by rw [e1.out]; exact hG) (by simp) (by rw [e1.out]; exact ho)
  replace h1 := blk_grown h1 hG n1
  replace hx := blk_grown hx hG nx
  replace hB1 := below_grown hB1 hG (by omega)
  clear hen heg ho hG oy
  have hcp : (dfaC y.f y.A y.rs.length y.c y.B y.fo.length y.d y.C y.en.length y.e) = (dfaC { y with en := y.en.set l 4294967295 }.f { y with en := y.en.set l 4294967295 }.A { y with en := y.en.set l 4294967295 }.rs.length { y with en := y.en.set l 4294967295 }.c { y with en := y.en.set l 4294967295 }.B { y with en := y.en.set l 4294967295 }.fo.length { y with en := y.en.set l 4294967295 }.d { y with en := y.en.set l 4294967295 }.C { y with en := y.en.set l 4294967295 }.en.length { y with en := y.en.set l 4294967295 }.e) := by simp
  rw [hcp] at hx
  clear hcp
  have hyf : y.fo = x.fo := congrArg Tb.fo hyT.out
  have hyn : y.rs.map (·.l) = x.rs.map (·.l) := congrArg Tb.nx hyT.out
  have hye : y.en = x.en := congrArg Tb.en hyT.out
  have hyc : y.C = some ⟨g, 0, none⟩ := e1.out
  obtain ⟨y2, hy2⟩ : ∃ q, ({ y with en := y.en.set l 4294967295 } : TV) = q := ⟨_, rfl⟩
  have hty : TabIn wM wM.heap.size y2 := by
    rw [← hy2]
    exact cop_own_tab hyn hyf (by simp [hye]) (fun v hv => by
      rcases List.mem_or_eq_of_mem_set hv with h | h
      · rw [hye] at h; exact hT.e32 v h
      · omega) hSx (hT.then_ hB1) oy2
  rw [hy2] at hx oy2
  have e2 : y2.C = some ⟨g, 0, none⟩ := by rw [← hy2]; exact hyc
  have hy2l : y2.en.length = l + 1 := by rw [← hy2]; simp [hyl.out]
  have hy2b : ({ y2 with en := y2.en.set l v } : TV) = y := by
    rw [← hy2]
    simp only [List.set_set]
    rw [← hv.out, List.set_getElem_self]
  replace hy2 := Lib.hid hy2
  replace hy2l := Lib.hid hy2l
  replace hy2b := Lib.hid hy2b
  replace e2 := Lib.hid e2
  clear hyf hyn hye hyc
  obtain ⟨E2, hE2⟩ : ∃ E : Int, (if fitsB y2.T then (0 : Int) else 70) = E := ⟨_, rfl⟩
  replace hE2 := Lib.hid hE2
  have hgM : g < wM.heap.size := by have := (oy2.en.lt g (by rw [e2.out]; rfl)).2; exact this
  have hc1 := rmake_any y2 wM hty
  unfold TV.C' at hc1
  go_upto_region 28 with (first
    | (refine wl_load_dfa rfl _ rfl gx rfl hx ?_)
    | (go_at_call 20; refine hc1.mono ?_; rintro e wN hmk; obtain ⟨hB3, o, rfl, tO, hoT⟩ := mk_of hmk hty hE2.out; clear hmk)
    | (refine wl_store_dfa rfl _ _ rfl _ rfl rfl (Blk.new _ _ _) ?_; intro wO ho hG5))
  have hB5 : Below wN.heap.size wN wO := below_grown (below_alloc (Below.refl _ _) _) hG5 (Nat.le_refl _)
  obtain ⟨go, hgg⟩ : ∃ g, g = wN.heap.size := ⟨_, rfl⟩
  rw [← hgg] at ho ⊢
  have ngo : wN.heap.size ≤ go := by omega
  clear hgg hG5
  clear hc1
  replace hoT := Lib.hid hoT
  replace tO := tO.then_ hB5
  replace hB5 := below_then hB3 hB5
  replace h1 := blk_then h1 hB5
  replace hx := blk_then hx hB5
  replace oy2 := oy2.then_ hB5
  replace hB1 := below_then hB1 hB5
  replace hty := hty.then_ hB5
  have hgO : g < wO.heap.size := by have := hB5.size; omega
  clear hB3 hB5
  have hc1 := lmake_any y2 wO hty
  unfold TV.C' at hc1
  go_upto_region 29 with (first
    | (refine wl_load_dfa rfl _ rfl gx rfl hx ?_)
    | (go_at_call 22; refine hc1.mono ?_; rintro e wP hmk; obtain ⟨hB3, c, rfl, tc, hcT⟩ := mk_of hmk hty hE2.out; clear hmk)
    | (refine wl_store_dfa rfl _ _ rfl _ rfl rfl (Blk.new _ _ _) ?_; intro wQ hcb hG5))
  have hB5 : Below wP.heap.size wP wQ := below_grown (below_alloc (Below.refl _ _) _) hG5 (Nat.le_refl _)
  obtain ⟨gc, hgg⟩ : ∃ g, g = wP.heap.size := ⟨_, rfl⟩
  rw [← hgg] at hcb ⊢
  have ngc : wP.heap.size ≤ gc := by omega
  clear hgg hG5
  clear hc1
  replace hcT := Lib.hid hcT
  replace tc := tc.then_ hB5
  replace hB5 := below_then hB3 hB5
  replace h1 := blk_then h1 hB5
  replace hx := blk_then hx hB5
  replace ho := blk_then ho hB5
  replace tO := tO.then_ hB5
  replace oy2 := oy2.then_ hB5
  replace hB1 := below_then hB1 hB5
  clear hB3 hB5 hty hE2
  have hen := oy2.en
  simp only [List.length_cons, List.length_nil, Nat.zero_add] at hen
  have cY : wQ.cell? ⟨gx, 258, none⟩ = some (.slice (some ⟨g, 0, none⟩) (l + 1) y2.e) := by rw [← e2.out, ← hy2l.out]; exact blk_d3 hx
  have heg := hen
  rw [e2.out] at heg
  have n3 : go ≠ g := fun e => own_blk_ne heg ho (by decide) (by rw [ownBlock_slice, e]; rfl)
  have n4 : gc ≠ g := fun e => own_blk_ne heg hcb (by decide) (by rw [ownBlock_slice, e]; rfl)
  go_upto_region 30 with (refine wl_store_own1 rfl 55 _ _ rfl g l (y2.en.length + 1) y2.e rfl v (.int .u32 ((v : Nat) : Int)) rfl rfl encR_size rfl rfl info_u32S1 heg (by simp; have := hy2l.out; omega) ?_; intro wR hoR hG)
  try simp only [Act.put]
  clear cY
  rw [List.set_append_left _ _ (by rw [hy2l.out]; omega)] at hoR
  have oy : TOwn wR w4.heap.size { y2 with en := y2.en.set l v } [77] [77] [rz] := oy2.setE (by rw [e2.out]; exact hG) (by simp) (by rw [e2.out]; exact hoR)
  have hcp : (dfaC y2.f y2.A y2.rs.length y2.c y2.B y2.fo.length y2.d y2.C y2.en.length y2.e) = (dfaC { y2 with en := y2.en.set l v }.f { y2 with en := y2.en.set l v }.A { y2 with en := y2.en.set l v }.rs.length { y2 with en := y2.en.set l v }.c { y2 with en := y2.en.set l v }.B { y2 with en := y2.en.set l v }.fo.length { y2 with en := y2.en.set l v }.d { y2 with en := y2.en.set l v }.C { y2 with en := y2.en.set l v }.en.length { y2 with en := y2.en.set l v }.e) := by simp
  rw [hcp] at hx
  rw [hy2b.out] at oy hx
  clear hcp
  replace h1 := blk_grown h1 hG n1
  replace hx := blk_grown hx hG nx
  replace ho := blk_grown ho hG n3
  replace hcb := blk_grown hcb hG n4
  replace tO : Tbl wR _ _ _ := ⟨tO.own.low hG hgM, tO.n, tO.r, tO.f, tO.e, tO.f32, tO.e32⟩
  replace tc : Tbl wR _ _ _ := ⟨tc.own.low hG hgO, tc.n, tc.r, tc.f, tc.e, tc.f32, tc.e32⟩
  replace hB1 := below_grown hB1 hG (by omega)
  clear hen heg hoR hG oy2 n1 nx n3 n4
  have hs1 : ∀ W : World, Below wR.heap.size wR W → Calls Try.prog 23 #[.agg (dfaC c.f c.A c.rs.length c.c c.B c.fo.length c.d c.C c.en.length c.e), .agg (dfaC o.f o.A o.rs.length o.c o.B o.fo.length o.d o.C o.en.length o.e)] W fun e w' => e = .returned (.bool true) ∧ Below W.heap.size W w' := fun W hB => same_any c o (TEq.of (by rw [hcT.out, hoT.out])) W ((tc.then_ hB).tab (by omega)) ((tO.then_ hB).tab (by omega))
  have hk1 : ∀ W : World, Below wR.heap.size wR W → Calls Try.prog 24 #[.agg (dfaC y.f y.A y.rs.length y.c y.B y.fo.length y.d y.C y.en.length y.e), .agg (dfaC x.f x.A x.rs.length x.c x.B x.fo.length x.d x.C x.en.length x.e)] W fun e w' => e = .returned (.bool true) ∧ Below W.heap.size W w' := fun W hB => kep_any x y rz _ hyT.out hrz hSx W (hT.then_ (below_then hB1 hB)) (oy.then_ hB)
  refine wp_region_text 14 [eqS (.int .i64 (E2)), eqS (.int .i64 (E2)), eqS (.bool true), eqS (.bool true), eqS (vF (true && (true == true)) (.agg (dfaC c.f c.A c.rs.length c.c c.B c.fo.length c.d c.C c.en.length c.e))), eqS (vF (true && (true == true)) (.agg (dfaC o.f o.A o.rs.length o.c o.B o.fo.length o.d o.C o.en.length o.e))), eqS (vF (true && (true == true)) (.bool true)), eqS (.bool (true && true)), eqS (.bool (true && true)), eqS (vF (true && ((true && true) == true)) (.agg (dfaC y.f y.A y.rs.length y.c y.B y.fo.length y.d y.C y.en.length y.e))), eqS (vF (true && ((true && true) == true)) (.agg (dfaC x.f x.A x.rs.length x.c x.B x.fo.length x.d x.C x.en.length x.e))), eqS (vF (true && ((true && true) == true)) (.bool true)), eqS (.bool ((true && true) && true)), eqS (.bool ((true && true) && true))] [145, 146, 147, 148, 149, 150, 151, 152, 153, 154, 155, 156, 157, 2] (by kernel_rfl) rfl ?_ ?_
  · skip
    refine Steps.cons (fun a' w' hG hB dep => gs_move (want_none rfl) _ rfl (id (hG.other 17 rfl))) ?_
    refine Steps.cons (fun a' w' hG hB dep => gs_move (want_none rfl) _ rfl (id (hG.other 15 rfl))) ?_
    refine Steps.cons (fun a' w' hG hB dep => gs_eql_int (want_none rfl) _ _ _ _ rfl _ _ _ (dep 0 rfl 145 rfl) (dep 1 rfl 146 rfl) (id (congrArg Value.bool (beq_self_eq_true E2)))) ?_
    refine Steps.cons (fun a' w' hG hB dep => gs_move (want_none rfl) _ rfl (id (dep 2 rfl 147 rfl))) ?_
    refine Steps.cons (fun a' w' hG hB dep => gs_guard (c := true) (b' := true) rfl rfl (dep 3 rfl 148 rfl) (fun hc he hw => gs_load_dfa hw _ rfl gc (hG.other 16 rfl) (blk_then hcb hB) (vF_yes (on_g hc he) _).symm) (fun hn => vF_no hn _)) ?_
    refine Steps.cons (fun a' w' hG hB dep => gs_guard (c := true) (b' := true) rfl rfl (dep 3 rfl 148 rfl) (fun hc he hw => gs_load_dfa hw _ rfl go (hG.other 14 rfl) (blk_then ho hB) (vF_yes (on_g hc he) _).symm) (fun hn => vF_no hn _)) ?_
    refine Steps.cons (fun a' w' hG hB dep => gs_guard (c := true) (b' := true) rfl rfl (dep 3 rfl 148 rfl) (fun hc he hw => gs_call hw _ _ _ rfl enter_same _ (map2 (Eq.trans (dep 4 rfl 149 rfl) (vF_yes (on_g hc he) _)) (Eq.trans (dep 5 rfl 150 rfl) (vF_yes (on_g hc he) _))) ((hs1 w' hB).mono fun e w2 ⟨hq1, hb⟩ => ⟨_, hq1, hb, (vF_yes (on_g hc he) _).symm⟩)) (fun hn => vF_no hn _)) ?_
    refine Steps.cons (fun a' w' hG hB dep => gs_pick (want_none rfl) _ _ _ rfl true (dep 3 rfl 148 rfl) (id (pick_and2 (c := true) rfl (dep 6 rfl 151 rfl)))) ?_
    refine Steps.cons (fun a' w' hG hB dep => gs_move (want_none rfl) _ rfl (id (dep 7 rfl 152 rfl))) ?_
    refine Steps.cons (fun a' w' hG hB dep => gs_guard (c := true) (b' := (true && true)) rfl rfl (dep 8 rfl 153 rfl) (fun hc he hw => gs_load_dfa hw _ rfl gx (hG.other 5 rfl) (blk_then hx hB) (vF_yes (on_g hc he) _).symm) (fun hn => vF_no hn _)) ?_
    refine Steps.cons (fun a' w' hG hB dep => gs_guard (c := true) (b' := (true && true)) rfl rfl (dep 8 rfl 153 rfl) (fun hc he hw => gs_load_dfa hw _ rfl g1 (hG.other 1 rfl) (blk_then h1 hB) (vF_yes (on_g hc he) _).symm) (fun hn => vF_no hn _)) ?_
    refine Steps.cons (fun a' w' hG hB dep => gs_guard (c := true) (b' := (true && true)) rfl rfl (dep 8 rfl 153 rfl) (fun hc he hw => gs_call hw _ _ _ rfl enter_kep _ (map2 (Eq.trans (dep 9 rfl 154 rfl) (vF_yes (on_g hc he) _)) (Eq.trans (dep 10 rfl 155 rfl) (vF_yes (on_g hc he) _))) ((hk1 w' hB).mono fun e w2 ⟨hq1, hb⟩ => ⟨_, hq1, hb, (vF_yes (on_g hc he) _).symm⟩)) (fun hn => vF_no hn _)) ?_
    refine Steps.cons (fun a' w' hG hB dep => gs_pick (want_none rfl) _ _ _ rfl (true && true) (dep 8 rfl 153 rfl) (id (pick_and2 (c := true) rfl (dep 11 rfl 156 rfl)))) ?_
    refine Steps.cons (fun a' w' hG hB dep => gs_assign (want_none rfl) _ rfl (id (dep 12 rfl 157 rfl))) ?_
    exact Steps.nil
  intro u wS hwS ans
  have hus2 : u 2 = (.bool ((true && true) && true)) := ans 13 2 (by decide) rfl
  clear ans
  simp only [putAll, List.foldl_cons, List.foldl_nil, Act.put, List.setIfInBounds_toArray, List.set_cons_zero, List.set_cons_succ, hus2]
  clear hus2
  simp only [List.drop]
  refine wpList_nil ?_
  replace h1 := blk_then h1 hwS
  replace hx := blk_then hx hwS
  replace ho := blk_then ho hwS
  replace hcb := blk_then hcb hwS
  replace tO := tO.then_ hwS
  replace tc := tc.then_ hwS
  replace oy := oy.then_ hwS
  replace hB1 := below_then hB1 hwS
  have he9 : ((true && true) && true) = true := rfl
  rw [he9]
  go_wp2_with (fail)
  go_ret
  exact ⟨rfl, hB1⟩
end Go.Proofs.Ytgahdookojbbiaa
