/- Part 3 of a proof; packed: the texts that it was made of follow one another. No condition beyond those named in each lemma. -/
import Derived.Test.YtajainmldcnaeaaPo2
namespace Go.Proofs.Ytajainmldcnaeaa
open Go.RowKit Go.Maps
set_option linter.unusedVariables false
set_option linter.unusedSimpArgs false
attribute [local go_sem] Oper.semAt_some

theorem MO.rng {w : World} {B : Nat} {x : MV} (h : MO w B x) : ∀ b, (x.eS.v.ownBlock = some b ∨ x.rS.v.ownBlock = some b) → B ≤ b ∧ b < w.heap.size := by
  rintro b (hb | hb)
  · exact h.1.lt b hb
  · exact h.2.lt b hb
theorem CP.In.rng {w : World} {B : Nat} {x : CP} (h : x.In w B) : ∀ b, (x.mv.eS.v.ownBlock = some b ∨ x.mv.rS.v.ownBlock = some b) → B ≤ b ∧ b < w.heap.size := by
  rintro b (hb | hb)
  · exact h.1.lt b hb
  · exact h.2.lt b hb
set_option maxRecDepth 100000 in
set_option maxHeartbeats 80000000 in
theorem nfaOwn_any (p q : ByteArray) (w : World) (hM : Mx w) :
    Calls Try.prog 10 #[.string p, .string q] w fun e w' => e = .returned (.bool true) ∧ Below w.heap.size w w' := by
  have kP : ∀ W, Mx W → _ := fun W hW => parse_any p W hW
  have kQ : ∀ W, Mx W → _ := fun W hW => parse_any q W hW
  have hgp := (Ere.trees_hold p).good
  have hgq := (Ere.trees_hold q).good
  obtain ⟨⟨t1, a1, e1⟩, hr1⟩ : ∃ r, Ere.parseR p = r := ⟨_, rfl⟩
  obtain ⟨⟨t2, a2, e2⟩, hr2⟩ : ∃ r, Ere.parseR q = r := ⟨_, rfl⟩
  rw [hr1] at kP hgp
  rw [hr2] at kQ hgq
  simp only at kP kQ hgp hgq
  clear hr1 hr2
  replace kP := Lib.hid kP
  replace kQ := Lib.hid kQ
  replace hgp := Lib.hid hgp
  replace hgq := Lib.hid hgq
  go_enter Try.func10, Try.ntmps10
  go_upto_region 3 with (go_at_call 25; refine (known_any _).mono ?_; rintro en w1 ⟨rfl, hT⟩)
  have kP1 := kP.out w1 (hM.then_ hT)
  have hz1 := Lib.hid hT.size
  go_upto_region 4 with (first
    | (go_at_call 12; refine kP1.mono ?_; rintro en wp5 ⟨hBp, x5, bs5, rfl, hO⟩)
    | (refine wl_store_nv rfl _ _ rfl _ x5 rfl rfl _ rfl (Blk.new _ _ zeroC) ?_; intro w2 k5 hg))
  have hBn := below_then hBp (below_grown (below_alloc (Below.refl wp5.heap.size wp5) (.cells zeroC 27)) hg (Nat.le_refl _))
  have o5 := (hO.then_ (below_alloc (Below.refl _ _) (.cells zeroC 27))).keep (w' := w2) (fun b hb => hg.block b (by have := (hO.lt b hb).2; simp; omega) (fun e => by injection e with e; have := (hO.lt b hb).2; omega))
  obtain ⟨g5, hge⟩ : ∃ y, y = wp5.heap.size := ⟨_, rfl⟩
  rw [← hge] at k5 ⊢
  replace hT := below_then hT hBn
  have hs5 := Lib.hid (show w1.heap.size ≤ w2.heap.size from hBn.size)
  clear hBp hO hg hBn hge
  have kQ1 := kQ.out w2 (hM.then_ hT)
  have hz2 := Lib.hid (show w1.heap.size ≤ w2.heap.size from hs5.out)
  clear kQ kP1 kP
  go_upto_region 5 with (first
    | (go_at_call 12; refine kQ1.mono ?_; rintro en wp8 ⟨hBp, x8, bs8, rfl, hO⟩)
    | (refine wl_store_nv rfl _ _ rfl _ x8 rfl rfl _ rfl (Blk.new _ _ zeroC) ?_; intro w3 k8 hg))
  have hBn := below_then hBp (below_grown (below_alloc (Below.refl wp8.heap.size wp8) (.cells zeroC 27)) hg (Nat.le_refl _))
  have o8 := (hO.then_ (below_alloc (Below.refl _ _) (.cells zeroC 27))).keep (w' := w3) (fun b hb => hg.block b (by have := (hO.lt b hb).2; simp; omega) (fun e => by injection e with e; have := (hO.lt b hb).2; omega))
  replace k5 := blk_then k5 hBn
  replace o5 := o5.then_ hBn
  obtain ⟨g8, hge⟩ : ∃ y, y = wp8.heap.size := ⟨_, rfl⟩
  rw [← hge] at k8 ⊢
  replace hT := below_then hT hBn
  have hs8 := Lib.hid (show w2.heap.size ≤ w3.heap.size from hBn.size)
  clear hBp hO hg hBn hge
  have hs0 := Lib.hid (show w.heap.size ≤ w1.heap.size ∧ w1.heap.size ≤ w2.heap.size ∧ w2.heap.size ≤ w3.heap.size from ⟨hz1.out, hz2.out, hs8.out⟩)
  clear kQ1 hM hz1 hz2 hs5 hs8
  by_cases he1 : e1 = 0
  rotate_left
  · have heI : ((e1 : Int) != 0) = true := by rw [bne_iff_ne]; omega
    have he := Lib.hid he1
    clear hgp hgq he1 k5 k8 o5 o8
    go_wp2_with (go_at_call 27; refine (num_any _ _).mono ?_; rintro en wn ⟨rfl, hwn⟩; rw [hwn]; clear hwn)
    go_ret
    exact ⟨rfl, hT⟩
  by_cases he2 : e2 = 0
  rotate_left
  · subst he1
    have heI : ((e2 : Int) != 0) = true := by rw [bne_iff_ne]; omega
    have he := Lib.hid he2
    clear hgp hgq he2 k5 k8 o5 o8
    go_wp2_with (go_at_call 27; refine (num_any _ _).mono ?_; rintro en wn ⟨rfl, hwn⟩; rw [hwn]; clear hwn)
    go_ret
    exact ⟨rfl, hT⟩
  obtain ⟨-, hT1, hp1, hp2, -⟩ := hgp.out he1
  obtain ⟨-, hT2, hq1, hq2, -⟩ := hgq.out he2
  subst he1 he2
  rw [← placesN_eq] at hp2 hq2
  have hU1 : ¬ 2048 ≤ t1.U := by unfold placesN at hp2; rw [if_pos hT1] at hp2; omega
  have hU2 : ¬ 2048 ≤ t2.U := by unfold placesN at hq2; rw [if_pos hT2] at hq2; omega
  obtain ⟨Fa, hFa⟩ : ∃ F : NF, F = ⟨(Mt.mN t1 : Nat), Mt.mE t1, Mt.mR t1 1⟩ := ⟨_, rfl⟩
  obtain ⟨Fb, hFb⟩ : ∃ F : NF, F = ⟨(Mt.mN t2 : Nat), Mt.mE t2, Mt.mR t2 2⟩ := ⟨_, rfl⟩
  have okA : MOk Fa := by rw [hFa]; exact m_ok hT1 hU1 (by omega)
  have okB : MOk Fb := by rw [hFb]; exact m_ok hT2 hU2 (by omega)
  have smA : Fa.E.length ≤ 6144 ∧ Fa.R.length ≤ 6144 := by rw [hFa]; exact m_small hT1 hU1 1
  have smB : Fb.E.length ≤ 6144 ∧ Fb.R.length ≤ 6144 := by rw [hFb]; exact m_small hT2 hU2 2
  have okU := (u_ok okA okB (by omega) (by omega)).2
  have smU := u_small smA.1 smA.2 smB.1 smB.2
  have kA : ∀ W, NdO W w1.heap.size t1 x5 bs5 → Calls Try.prog 28 #[.agg x5.C, .int .i64 1] W fun e w' => Below W.heap.size W w' ∧ ∃ x : MV, x.F = Fa ∧ e = .returned (.tuple #[.agg x.C, .int .i64 0]) ∧ MO w' W.heap.size x := fun W h => by
    rw [hFa]; exact build_mo t1 hT1 hU1 1 (by omega) W.heap.size W x5.C h.toIn (Nat.le_refl _)
  have kB : ∀ W, NdO W w2.heap.size t2 x8 bs8 → Calls Try.prog 28 #[.agg x8.C, .int .i64 2] W fun e w' => Below W.heap.size W w' ∧ ∃ x : MV, x.F = Fb ∧ e = .returned (.tuple #[.agg x.C, .int .i64 0]) ∧ MO w' W.heap.size x := fun W h => by
    rw [hFb]; exact build_mo t2 hT2 hU2 2 (by omega) W.heap.size W x8.C h.toIn (Nat.le_refl _)
  obtain ⟨Fd, hFd⟩ : ∃ F, F = uFold [Fa, Fb] := ⟨_, rfl⟩
  rw [← hFd] at okU smU
  have kU : ∀ (X Y : MV), X.F = Fa → Y.F = Fb → ∀ (W : World) (g c : Nat), Blk W g 52 (X.C ++ Y.C) → MRd W X → MRd W Y → Calls Try.prog 33 #[.slice (some ⟨g, 0, none⟩) 2 c] W fun e w' => Below W.heap.size W w' ∧ ∃ x : MV, x.F = Fd ∧ e = .returned (.tuple #[.agg x.C, .int .i64 0]) ∧ MO w' W.heap.size x := fun X Y hX hY W g c hb m1 m2 => by
    have := union_two g c X Y (by rw [hX]; exact okA) (by rw [hY]; exact okB) (by rw [hX, hY]; omega) (by rw [hX, hY]; omega) W hb m1 m2
    rwa [hX, hY, ← hFd] at this
  replace kA := Lib.hid kA
  replace kB := Lib.hid kB
  replace kU := Lib.hid kU
  replace okA := Lib.hid okA
  replace okB := Lib.hid okB
  replace okU := Lib.hid okU
  replace smA := Lib.hid smA
  replace smB := Lib.hid smB
  replace smU := Lib.hid smU
  clear hgp hgq hp1 hp2 hq1 hq2 hT1 hT2 hU1 hU2 hFa hFb hFd
  go_upto_region 7 with (go_at_call 27; refine (num_any _ _).mono ?_; rintro en wn ⟨rfl, hwn⟩; rw [hwn]; clear hwn)
  have kA1 := kA.out w3 o5
  go_upto_region 8 with (first
    | (refine wl_load_nv rfl _ rfl g5 rfl x5 k5 ?_)
    | (go_at_call 28; refine kA1.mono ?_; rintro en wpa ⟨hBp, xa, hFa, rfl, hMO⟩)
    | (refine wl_store_mv rfl _ _ rfl _ xa rfl rfl _ rfl (Blk.new _ _ _) ?_; intro w4 k11 hg))
  have hBb := below_alloc (Below.refl wpa.heap.size wpa) (.cells #[.int .i64 0, .slice none 0 0, .slice none 0 0] 52)
  have hBn := below_then hBp (below_grown hBb hg (Nat.le_refl _))
  have ma := (hMO.then_ hBb).box (Blk.new _ _ _) hg
  replace k5 := blk_then k5 hBn
  replace o5 := o5.then_ hBn
  replace k8 := blk_then k8 hBn
  replace o8 := o8.then_ hBn
  obtain ⟨g11, hge⟩ : ∃ y, y = wpa.heap.size := ⟨_, rfl⟩
  have hsa := Lib.hid (show w3.heap.size ≤ g11 ∧ g11 < w4.heap.size ∧ (∀ b, (xa.eS.v.ownBlock = some b ∨ xa.rS.v.ownBlock = some b) → w3.heap.size ≤ b ∧ b < g11) from ⟨by have := hBp.size; omega, by have := k11.lt; omega, fun b hb => by rw [hge]; exact MO.rng hMO b hb⟩)
  rw [← hge] at k11 ⊢
  replace hT := below_then hT hBn
  clear hBp hMO hg hBb hBn hge
  have kB1 := kB.out w4 o8
  clear kA1
  go_upto_region 9 with (first
    | (refine wl_load_nv rfl _ rfl g8 rfl x8 k8 ?_)
    | (go_at_call 28; refine kB1.mono ?_; rintro en wpb ⟨hBp, xb, hFb, rfl, hMO⟩)
    | (refine wl_store_mv rfl _ _ rfl _ xb rfl rfl _ rfl (Blk.new _ _ _) ?_; intro w5 k13 hg))
  have hBb := below_alloc (Below.refl wpb.heap.size wpb) (.cells #[.int .i64 0, .slice none 0 0, .slice none 0 0] 52)
  have hBn := below_then hBp (below_grown hBb hg (Nat.le_refl _))
  have mb := (hMO.then_ hBb).box (Blk.new _ _ _) hg
  replace k5 := blk_then k5 hBn
  replace o5 := o5.then_ hBn
  replace k8 := blk_then k8 hBn
  replace o8 := o8.then_ hBn
  replace k11 := blk_then k11 hBn
  replace ma := ma.then_ hBn
  obtain ⟨g13, hge⟩ : ∃ y, y = wpb.heap.size := ⟨_, rfl⟩
  have hsb := Lib.hid (show w4.heap.size ≤ g13 ∧ g13 < w5.heap.size ∧ (∀ b, (xb.eS.v.ownBlock = some b ∨ xb.rS.v.ownBlock = some b) → w4.heap.size ≤ b ∧ b < g13) from ⟨by have := hBp.size; omega, by have := k13.lt; omega, fun b hb => by rw [hge]; exact MO.rng hMO b hb⟩)
  rw [← hge] at k13 ⊢
  replace hT := below_then hT hBn
  clear hBp hMO hg hBb hBn hge
  have kA1 := kA.out w5 o5
  clear kB1 kB k8 o8
  go_upto_region 10 with (first
    | (refine wl_load_nv rfl _ rfl g5 rfl x5 k5 ?_)
    | (go_at_call 28; refine kA1.mono ?_; rintro en wpc ⟨hBp, xc, hFc, rfl, hMO⟩)
    | (refine wl_store_mv rfl _ _ rfl _ xc rfl rfl _ rfl (Blk.new _ _ _) ?_; intro w6 k15 hg))
  have hBb := below_alloc (Below.refl wpc.heap.size wpc) (.cells #[.int .i64 0, .slice none 0 0, .slice none 0 0] 52)
  have hBn := below_then hBp (below_grown hBb hg (Nat.le_refl _))
  have mc := (hMO.then_ hBb).box (Blk.new _ _ _) hg
  replace k5 := blk_then k5 hBn
  replace o5 := o5.then_ hBn
  replace k11 := blk_then k11 hBn
  replace ma := ma.then_ hBn
  replace k13 := blk_then k13 hBn
  replace mb := mb.then_ hBn
  obtain ⟨g15, hge⟩ : ∃ y, y = wpc.heap.size := ⟨_, rfl⟩
  have hsc := Lib.hid (show w5.heap.size ≤ g15 ∧ g15 < w6.heap.size ∧ (∀ b, (xc.eS.v.ownBlock = some b ∨ xc.rS.v.ownBlock = some b) → w5.heap.size ≤ b ∧ b < g15) from ⟨by have := hBp.size; omega, by have := k15.lt; omega, fun b hb => by rw [hge]; exact MO.rng hMO b hb⟩)
  rw [← hge] at k15 ⊢
  replace hT := below_then hT hBn
  clear hBp hMO hg hBb hBn hge
  clear kA1
  have kCx : ∀ W, Below w6.heap.size w6 W → _ := fun W hW => copied_mo xa (by rw [hFa]; exact okA.out) W (ma.then_ hW).rd
  have kCy : ∀ W, Below w6.heap.size w6 W → _ := fun W hW => copied_mo xb (by rw [hFb]; exact okB.out) W (mb.then_ hW).rd
  rw [hFa] at kCx
  rw [hFb] at kCy
  refine wp_region_stepsF 6 [eqS (.agg xa.C), cpS w6.heap.size Fa, eqS (.agg xb.C), cpS w6.heap.size Fb, newS w6.heap.size 52 (nfaC 0 none 0 0 none 0 0), newS w6.heap.size 52 (nfaC 0 none 0 0 none 0 0)] (fun i => i == 4 || i == 5) [84, 85, 86, 87, 17, 18] follows_mixed (by kernel_rfl) (by kernel_rfl) ?_ ?_
  · skip
    refine StepsF.cons (fun a' w' hG hB dep => GStepF.of rfl (gs_load_mv (want_none rfl) _ rfl g11 (hG.other 11 rfl) xa (blk_then k11 hB) rfl)) ?_
    refine StepsF.cons (fun a' w' hG hB dep => GStepF.of rfl (gs_call (want_none rfl) _ _ _ rfl enter_copied7 #[.agg xa.C] (map1 (dep 0 rfl 84 rfl)) ((kCx _ hB).mono fun e w2 ⟨hb, x, h1, h2, h3⟩ => ⟨_, h2, hb, x, rfl, h1, h3.mono hB.size⟩))) ?_
    refine StepsF.cons (fun a' w' hG hB dep => GStepF.of rfl (gs_load_mv (want_none rfl) _ rfl g13 (hG.other 13 rfl) xb (blk_then k13 hB) rfl)) ?_
    refine StepsF.cons (fun a' w' hG hB dep => GStepF.of rfl (gs_call (want_none rfl) _ _ _ rfl enter_copied7 #[.agg xb.C] (map1 (dep 2 rfl 86 rfl)) ((kCy _ hB).mono fun e w2 ⟨hb, x, h1, h2, h3⟩ => ⟨_, h2, hb, x, rfl, h1, h3.mono hB.size⟩))) ?_
    refine StepsF.cons (fun a' w' hG hB dep => gs_alloc_nfaF (want_none rfl) rfl w6.heap.size hB.size (fun v w h => h)) ?_
    refine StepsF.cons (fun a' w' hG hB dep => gs_alloc_nfaF (want_none rfl) rfl w6.heap.size hB.size (fun v w h => h)) ?_
    exact StepsF.nil
  intro u w7 hB7 ans hne
  obtain ⟨xx, v85, hFx, hxI⟩ := ans 1 85 (by decide) rfl
  obtain ⟨xy, v87, hFy, hyI⟩ := ans 3 87 (by decide) rfl
  obtain ⟨g17, v17, hg17, k17⟩ := ans 4 17 (by decide) rfl
  obtain ⟨g18, v18, hg18, k18⟩ := ans 5 18 (by decide) rfl
  have h78 : g18 ≠ g17 := fun e => hne 4 5 (by decide) (by decide) (by decide) rfl rfl 17 18 rfl rfl g17 (by rw [v17]; rfl) (by rw [v18, e]; rfl)
  clear ans hne kCx kCy
  simp only [putAll, List.foldl_cons, List.foldl_nil, Act.put, List.setIfInBounds_toArray, List.set_cons_zero, List.set_cons_succ, v85, v87, v17, v18]
  clear v85 v87 v17 v18
  simp only [List.drop]
  refine wl_store_mv rfl _ _ rfl g17 xx.mv rfl rfl _ rfl k17 ?_
  intro w7b k17b hgx
  have k18b : Blk w7b g18 52 _ := k18.grown hgx (fun e => h78 (by injection e))
  refine wl_store_mv rfl _ _ rfl g18 xy.mv rfl rfl _ rfl k18b ?_
  intro w8 k18c hgy
  have k17c : Blk w8 g17 52 _ := k17b.grown hgy (fun e => h78 (by injection e with e; exact e.symm))
  have mx := (hxI.box k17 hgx).box k18b hgy
  have my := (hyI.box k17 hgx).box k18b hgy
  refine wpList_nil ?_
  have hBn := below_grown (below_grown hB7 hgx hg17) hgy hg18
  have hsx := Lib.hid (show w6.heap.size ≤ w8.heap.size ∧ (∀ b, (xx.mv.eS.v.ownBlock = some b ∨ xx.mv.rS.v.ownBlock = some b) → w6.heap.size ≤ b ∧ b < w8.heap.size) ∧ (∀ b, (xy.mv.eS.v.ownBlock = some b ∨ xy.mv.rS.v.ownBlock = some b) → w6.heap.size ≤ b ∧ b < w8.heap.size) from ⟨hBn.size, CP.In.rng mx, CP.In.rng my⟩)
  replace k5 := blk_then k5 hBn
  replace o5 := o5.then_ hBn
  replace k11 := blk_then k11 hBn
  replace ma := ma.then_ hBn
  replace k13 := blk_then k13 hBn
  replace mb := mb.then_ hBn
  replace k15 := blk_then k15 hBn
  replace mc := mc.then_ hBn
  replace hT := below_then hT hBn
  clear hB7 hgx hgy hxI hyI k17 k17b k18 k18b hBn hg17 hg18 h78
  simp only [Act.put]
  have hAl : Below w8.heap.size w8 (w8.alloc (.cells (xa.C ++ xb.C) 52)) := below_alloc (Below.refl _ _) _
  have kU1 := kU.out xa xb hFa hFb _ w8.heap.size 2 (Blk.new w8 52 (xa.C ++ xb.C)) (ma.then_ hAl).rd (mb.then_ hAl).rd
  go_upto_region 12 with (first
    | (refine wl_load_mv rfl _ rfl g11 rfl xa k11 ?_)
    | (refine wl_load_mv rfl _ rfl g13 rfl xb k13 ?_)
    | (refine wl_bs_mv2 rfl _ _ rfl xa xb rfl rfl ?_)
    | (go_at_call 33; refine kU1.mono ?_; rintro en wpd ⟨hBp, xd, hFd, rfl, hMO⟩)
    | (refine wl_store_mv rfl _ _ rfl _ xd rfl rfl _ rfl (Blk.new _ _ _) ?_; intro w9 k19 hg))
  have hBb := below_alloc (Below.refl wpd.heap.size wpd) (.cells #[.int .i64 0, .slice none 0 0, .slice none 0 0] 52)
  have hBn := below_then hAl (below_then hBp (below_grown hBb hg (Nat.le_refl _)))
  have md := ((hMO.then_ hBb).box (Blk.new _ _ _) hg).mono hAl.size
  replace k5 := blk_then k5 hBn
  replace o5 := o5.then_ hBn
  replace k11 := blk_then k11 hBn
  replace ma := ma.then_ hBn
  replace k13 := blk_then k13 hBn
  replace mb := mb.then_ hBn
  replace k15 := blk_then k15 hBn
  replace mc := mc.then_ hBn
  replace k17c := blk_then k17c hBn
  replace k18c := blk_then k18c hBn
  replace mx := mx.then_ hBn
  replace my := my.then_ hBn
  obtain ⟨g19, hge⟩ : ∃ y, y = wpd.heap.size := ⟨_, rfl⟩
  have hsd := Lib.hid (show w8.heap.size ≤ g19 ∧ g19 < w9.heap.size ∧ (∀ b, (xd.eS.v.ownBlock = some b ∨ xd.rS.v.ownBlock = some b) → w8.heap.size ≤ b ∧ b < g19) from ⟨by have := hBp.size; have := hAl.size; omega, by have := k19.lt; omega, fun b hb => by have := MO.rng hMO b hb; have := hAl.size; omega⟩)
  rw [← hge] at k19 ⊢
  replace hT := below_then hT hBn
  clear hAl kU1 hBp hMO hg hBb hBn hge
  have kCz := copied_mo xd (by rw [hFd]; exact okU.out) w9 md.rd
  rw [hFd] at kCz
  go_upto_region 13 with (first
    | (refine wl_load_mv rfl _ rfl g19 rfl xd k19 ?_)
    | (go_at_call 34; refine kCz.mono ?_; rintro en wpz ⟨hBp, xz, hFz, rfl, hMO⟩)
    | (refine wl_store_mv rfl _ _ rfl _ xz.mv rfl rfl _ rfl (Blk.new _ _ _) ?_; intro w10 k21 hg))
  have hBb := below_alloc (Below.refl wpz.heap.size wpz) (.cells #[.int .i64 0, .slice none 0 0, .slice none 0 0] 52)
  have hBn := below_then hBp (below_grown hBb hg (Nat.le_refl _))
  have mz := (hMO.then_ hBb).box (Blk.new _ _ _) hg
  replace k5 := blk_then k5 hBn
  replace o5 := o5.then_ hBn
  replace k11 := blk_then k11 hBn
  replace ma := ma.then_ hBn
  replace k13 := blk_then k13 hBn
  replace mb := mb.then_ hBn
  replace k15 := blk_then k15 hBn
  replace mc := mc.then_ hBn
  replace k17c := blk_then k17c hBn
  replace k18c := blk_then k18c hBn
  replace mx := mx.then_ hBn
  replace my := my.then_ hBn
  replace k19 := blk_then k19 hBn
  replace md := md.then_ hBn
  obtain ⟨g21, hge⟩ : ∃ y, y = wpz.heap.size := ⟨_, rfl⟩
  have hsz := Lib.hid (show w9.heap.size ≤ g21 ∧ g21 < w10.heap.size ∧ (∀ b, (xz.mv.eS.v.ownBlock = some b ∨ xz.mv.rS.v.ownBlock = some b) → w9.heap.size ≤ b ∧ b < g21) from ⟨by have := hBp.size; omega, by have := k21.lt; omega, fun b hb => by rw [hge]; exact CP.In.rng hMO b hb⟩)
  rw [← hge] at k21 ⊢
  replace hT := below_then hT hBn
  clear hBp hMO hg hBb hBn hge
  clear kCz
  have hAl : Below w10.heap.size w10 (w10.alloc (.cells (xa.C ++ xb.C) 52)) := below_alloc (Below.refl _ _) _
  have kU1 := kU.out xa xb hFa hFb _ w10.heap.size 2 (Blk.new w10 52 (xa.C ++ xb.C)) (ma.then_ hAl).rd (mb.then_ hAl).rd
  go_upto_region 14 with (first
    | (refine wl_load_mv rfl _ rfl g11 rfl xa k11 ?_)
    | (refine wl_load_mv rfl _ rfl g13 rfl xb k13 ?_)
    | (refine wl_bs_mv2 rfl _ _ rfl xa xb rfl rfl ?_)
    | (go_at_call 33; refine kU1.mono ?_; rintro en wpg ⟨hBp, xg, hFg, rfl, hMO⟩)
    | (refine wl_store_mv rfl _ _ rfl _ xg rfl rfl _ rfl (Blk.new _ _ _) ?_; intro w11 k22 hg))
  have hBb := below_alloc (Below.refl wpg.heap.size wpg) (.cells #[.int .i64 0, .slice none 0 0, .slice none 0 0] 52)
  have hBn := below_then hAl (below_then hBp (below_grown hBb hg (Nat.le_refl _)))
  have mg := ((hMO.then_ hBb).box (Blk.new _ _ _) hg).mono hAl.size
  replace k5 := blk_then k5 hBn
  replace o5 := o5.then_ hBn
  replace k11 := blk_then k11 hBn
  replace ma := ma.then_ hBn
  replace k13 := blk_then k13 hBn
  replace mb := mb.then_ hBn
  replace k15 := blk_then k15 hBn
  replace mc := mc.then_ hBn
  replace k17c := blk_then k17c hBn
  replace k18c := blk_then k18c hBn
  replace mx := mx.then_ hBn
  replace my := my.then_ hBn
  replace k19 := blk_then k19 hBn
  replace md := md.then_ hBn
  replace k21 := blk_then k21 hBn
  replace mz := mz.then_ hBn
  obtain ⟨g22, hge⟩ : ∃ y, y = wpg.heap.size := ⟨_, rfl⟩
  have hsg := Lib.hid (show w10.heap.size ≤ g22 ∧ g22 < w11.heap.size ∧ (∀ b, (xg.eS.v.ownBlock = some b ∨ xg.rS.v.ownBlock = some b) → w10.heap.size ≤ b ∧ b < g22) from ⟨by have := hBp.size; have := hAl.size; omega, by have := k22.lt; omega, fun b hb => by have := MO.rng hMO b hb; have := hAl.size; omega⟩)
  rw [← hge] at k22 ⊢
  replace hT := below_then hT hBn
  clear hAl kU1 hBp hMO hg hBb hBn hge
  have kK1 := kept_mo xx xc (by rw [hFx, hFc]) (by rw [hFc]; exact okA.out) w11 mx mc.rd
  have kK2 := fun W (hW : Below w11.heap.size w11 W) => kept_mo xz xg (by rw [hFz, hFg]) (by rw [hFg]; exact okU.out) W (mz.then_ hW) (mg.then_ hW).rd
  have k21' := fun W (hW : Below w11.heap.size w11 W) => blk_then k21 hW
  have k22' := fun W (hW : Below w11.heap.size w11 W) => blk_then k22 hW
  replace kK1 := Lib.hid kK1
  replace kK2 := Lib.hid kK2
  replace k21' := Lib.hid k21'
  replace k22' := Lib.hid k22'
  go_upto_region 16 with (first
    | (refine wl_load_mv rfl _ rfl g17 rfl xx.mv k17c ?_)
    | (refine wl_load_mv rfl _ rfl g15 rfl xc k15 ?_)
    | (go_at_call 35; refine kK1.out.mono ?_; clear kK1; rintro en w12 ⟨rfl, hB12⟩; have k21b := k21'.out _ hB12; have k22b := k22'.out _ hB12)
    | (refine wl_load_mv_g (want_yes rfl rfl rfl) _ rfl g21 rfl xz.mv k21b ?_)
    | (refine wl_load_mv_g (want_yes rfl rfl rfl) _ rfl g22 rfl xg k22b ?_)
    | (go_at_call 35; refine (kK2.out _ hB12).mono ?_; clear kK2; rintro en w13 ⟨rfl, hB13⟩))
  clear k21' k22' k21b k22b
  have hBn := below_then hB12 hB13
  replace k5 := blk_then k5 hBn
  replace o5 := o5.then_ hBn
  replace k11 := blk_then k11 hBn
  replace ma := ma.then_ hBn
  replace k13 := blk_then k13 hBn
  replace mb := mb.then_ hBn
  replace k15 := blk_then k15 hBn
  replace mc := mc.then_ hBn
  replace k17c := blk_then k17c hBn
  replace k18c := blk_then k18c hBn
  replace mx := mx.then_ hBn
  replace my := my.then_ hBn
  replace k19 := blk_then k19 hBn
  replace md := md.then_ hBn
  replace k21 := blk_then k21 hBn
  replace mz := mz.then_ hBn
  replace k22 := blk_then k22 hBn
  replace mg := mg.then_ hBn
  have hs13 := Lib.hid (show w11.heap.size ≤ w13.heap.size from hBn.size)
  replace hT := below_then hT hBn
  clear hBn hB12 hB13
  refine wp_region_lit ?_
  refine wl_load_mv rfl (.tmp 11) rfl g11 rfl xa k11 ?_
  refine wl_load_mv rfl (.tmp 13) rfl g13 ((ev_ne (by decide)).trans rfl) xb k13 ?_
  refine wl_load_mv rfl (.tmp 15) rfl g15 ((ev_ne (by decide)).trans ((ev_ne (by decide)).trans rfl)) xc k15 ?_
  refine wl_load_mv rfl (.tmp 19) rfl g19 ((ev_ne (by decide)).trans ((ev_ne (by decide)).trans ((ev_ne (by decide)).trans rfl))) xd k19 ?_
  refine wl_load_mv rfl (.tmp 22) rfl g22 ((ev_ne (by decide)).trans ((ev_ne (by decide)).trans ((ev_ne (by decide)).trans ((ev_ne (by decide)).trans rfl)))) xg k22 ?_
  refine wl_bs_mv5 rfl (.tmp 114) (.tmp 115) (.tmp 116) (.tmp 117) (.tmp 118) rfl xa xb xc xd xg ?h1 ?h2 ?h3 ?h4 ?h5 ?_
  case h1 => exact (ev_ne (by decide)).trans ((ev_ne (by decide)).trans ((ev_ne (by decide)).trans ((ev_ne (by decide)).trans (ev_same (by simp)))))
  case h2 => exact (ev_ne (by decide)).trans ((ev_ne (by decide)).trans ((ev_ne (by decide)).trans (ev_same (by rw [put_size]; simp))))
  case h3 => exact (ev_ne (by decide)).trans ((ev_ne (by decide)).trans (ev_same (by rw [put_size, put_size]; simp)))
  case h4 => exact (ev_ne (by decide)).trans (ev_same (by rw [put_size, put_size, put_size]; simp))
  case h5 => exact ev_same (by rw [put_size, put_size, put_size, put_size]; simp)
  have hBn : Below w13.heap.size w13 (w13.alloc (.cells (xa.C ++ (xb.C ++ (xc.C ++ (xd.C ++ xg.C)))) 52)) := below_alloc (Below.refl _ _) _
  have kAll : Blk (w13.alloc (.cells (xa.C ++ (xb.C ++ (xc.C ++ (xd.C ++ xg.C)))) 52)) w13.heap.size 52 (xa.C ++ (xb.C ++ (xc.C ++ (xd.C ++ xg.C)))) := Blk.new _ _ _
  replace k5 := blk_then k5 hBn
  replace o5 := o5.then_ hBn
  replace k11 := blk_then k11 hBn
  replace ma := ma.then_ hBn
  replace k13 := blk_then k13 hBn
  replace mb := mb.then_ hBn
  replace k15 := blk_then k15 hBn
  replace mc := mc.then_ hBn
  replace k17c := blk_then k17c hBn
  replace k18c := blk_then k18c hBn
  replace mx := mx.then_ hBn
  replace my := my.then_ hBn
  replace k19 := blk_then k19 hBn
  replace md := md.then_ hBn
  replace k21 := blk_then k21 hBn
  replace mz := mz.then_ hBn
  replace k22 := blk_then k22 hBn
  replace mg := mg.then_ hBn
  have hs14 := Lib.hid (show w13.heap.size ≤ (w13.alloc (.cells (xa.C ++ (xb.C ++ (xc.C ++ (xd.C ++ xg.C)))) 52)).heap.size from hBn.size)
  replace hT := below_then hT hBn
  obtain ⟨w14, hw14⟩ : ∃ y, y = w13.alloc (.cells (xa.C ++ (xb.C ++ (xc.C ++ (xd.C ++ xg.C)))) 52) := ⟨_, rfl⟩
  rw [← hw14] at hT hs14 kAll k5 o5 k11 ma k13 mb k15 mc k17c k18c mx my k19 md k21 mz k22 mg ⊢
  obtain ⟨gA, hgA⟩ : ∃ y, y = w13.heap.size := ⟨_, rfl⟩
  rw [← hgA] at kAll ⊢
  clear hw14 hBn
  have hrows := rows_five kAll
  obtain ⟨csA, hcsA⟩ : ∃ y, y = xa.C ++ (xb.C ++ (xc.C ++ (xd.C ++ xg.C))) := ⟨_, rfl⟩
  rw [← hcsA] at kAll
  clear hcsA hgA
  simp only [Act.put, List.setIfInBounds_toArray, List.set_cons_zero, List.set_cons_succ]
  -- the five machines and their lists
  have hq := Lib.hid (show w.heap.size ≤ w1.heap.size ∧ w1.heap.size ≤ w2.heap.size ∧ w2.heap.size ≤ w3.heap.size ∧ w3.heap.size ≤ g11 ∧ g11 < w4.heap.size ∧ w4.heap.size ≤ g13 ∧ g13 < w5.heap.size ∧ w5.heap.size ≤ g15 ∧ g15 < w6.heap.size ∧ w6.heap.size ≤ w8.heap.size ∧ w8.heap.size ≤ g19 ∧ g19 < w9.heap.size ∧ w9.heap.size ≤ g21 ∧ g21 < w10.heap.size ∧ w10.heap.size ≤ g22 ∧ g22 < w11.heap.size ∧ w11.heap.size ≤ w14.heap.size by
    have := hsa.out; have := hsb.out; have := hsc.out; have := hsx.out; have := hsd.out; have := hsz.out; have := hsg.out; have := hs13.out; have := hs14.out; have := hs0.out; omega)
  obtain ⟨ms, hms⟩ : ∃ l : List MV, l = [xa, xb, xc, xd, xg] := ⟨_, rfl⟩
  have hml : ms.length = 5 := by rw [hms]; rfl
  have sepE : SepT (ms.map MV.eS) := by
    rw [hms]
    exact sep5 (fun g hg => hsa.out.2.2 g (.inl (mem_ownL.1 hg))) (fun g hg => hsb.out.2.2 g (.inl (mem_ownL.1 hg))) (fun g hg => hsc.out.2.2 g (.inl (mem_ownL.1 hg))) (fun g hg => hsd.out.2.2 g (.inl (mem_ownL.1 hg))) (fun g hg => hsg.out.2.2 g (.inl (mem_ownL.1 hg)))
      (by have := hq.out; omega) (by have := hq.out; omega) (by have := hq.out; omega) (by have := hq.out; omega) (by have := hq.out; omega) (by have := hq.out; omega) (by have := hq.out; omega)
  have sepR : SepT (ms.map MV.rS) := by
    rw [hms]
    exact sep5 (fun g hg => hsa.out.2.2 g (.inr (mem_ownL.1 hg))) (fun g hg => hsb.out.2.2 g (.inr (mem_ownL.1 hg))) (fun g hg => hsc.out.2.2 g (.inr (mem_ownL.1 hg))) (fun g hg => hsd.out.2.2 g (.inr (mem_ownL.1 hg))) (fun g hg => hsg.out.2.2 g (.inr (mem_ownL.1 hg)))
      (by have := hq.out; omega) (by have := hq.out; omega) (by have := hq.out; omega) (by have := hq.out; omega) (by have := hq.out; omega) (by have := hq.out; omega) (by have := hq.out; omega)
  have hF1E : Fam1E w1.heap.size w14 (ms.map MV.eS) 0 := by
    rw [hms]
    refine ⟨fun j hj => ⟨fun h => by omega, fun _ => ?_⟩⟩
    exact at5 (P := fun s : TS => ∃ ys, Own w14 w1.heap.size 67 7 edgC s.v ys) ⟨_, (ma.mono (by have := hq.out; omega)).1⟩ ⟨_, (mb.mono (by have := hq.out; omega)).1⟩ ⟨_, (mc.mono (by have := hq.out; omega)).1⟩ ⟨_, (md.mono (by have := hq.out; omega)).1⟩ ⟨_, (mg.mono (by have := hq.out; omega)).1⟩ j hj
  have hF1R : Fam1R w1.heap.size w14 (ms.map MV.rS) 0 := by
    rw [hms]
    refine ⟨fun j hj => ⟨fun h => by omega, fun _ => ?_⟩⟩
    exact at5 (P := fun s : TS => ∃ ys, Own w14 w1.heap.size 57 1 encR s.v ys) ⟨_, (ma.mono (by have := hq.out; omega)).2⟩ ⟨_, (mb.mono (by have := hq.out; omega)).2⟩ ⟨_, (mc.mono (by have := hq.out; omega)).2⟩ ⟨_, (md.mono (by have := hq.out; omega)).2⟩ ⟨_, (mg.mono (by have := hq.out; omega)).2⟩ j hj
  have hsm : ∀ i (h : i < ms.length), ms[i].F.E.length ≤ 20000 ∧ ms[i].F.R.length ≤ 20000 := by
    have := smA.out; have := smB.out; have := smU.out
    intro i h
    simp only [hms] at h ⊢
    exact at5 (P := fun x : MV => x.F.E.length ≤ 20000 ∧ x.F.R.length ≤ 20000) (by rw [hFa]; omega) (by rw [hFb]; omega) (by rw [hFc]; omega) (by rw [hFd]; omega) (by rw [hFg]; omega) i h
  have hxy := Lib.hid (⟨fun b h => (hsx.out.2.1 b h), fun b h => (hsx.out.2.2 b h), fun b h => hsz.out.2.2 b h⟩ : (∀ b, (xx.mv.eS.v.ownBlock = some b ∨ xx.mv.rS.v.ownBlock = some b) → w6.heap.size ≤ b ∧ b < w8.heap.size) ∧ (∀ b, (xy.mv.eS.v.ownBlock = some b ∨ xy.mv.rS.v.ownBlock = some b) → w6.heap.size ≤ b ∧ b < w8.heap.size) ∧ (∀ b, (xz.mv.eS.v.ownBlock = some b ∨ xz.mv.rS.v.ownBlock = some b) → w9.heap.size ≤ b ∧ b < g21))
  have hSr : ∀ i (h : i < ms.length), ∀ b, (b ∈ ownL ms[i].eS.A ∨ b ∈ ownL ms[i].rS.A) → b < w11.heap.size ∧ (b < w6.heap.size ∨ (w8.heap.size ≤ b ∧ b < w9.heap.size) ∨ w10.heap.size ≤ b) ∧ b ≠ g21 := by
    intro i h
    simp only [hms] at h ⊢
    refine at5 (P := fun x : MV => ∀ b, (b ∈ ownL x.eS.A ∨ b ∈ ownL x.rS.A) → b < w11.heap.size ∧ (b < w6.heap.size ∨ (w8.heap.size ≤ b ∧ b < w9.heap.size) ∨ w10.heap.size ≤ b) ∧ b ≠ g21) ?_ ?_ ?_ ?_ ?_ i h
    all_goals intro b hb
    · have := hsa.out.2.2 b (hb.imp mem_ownL.1 mem_ownL.1); have := hq.out; omega
    · have := hsb.out.2.2 b (hb.imp mem_ownL.1 mem_ownL.1); have := hq.out; omega
    · have := hsc.out.2.2 b (hb.imp mem_ownL.1 mem_ownL.1); have := hq.out; omega
    · have := hsd.out.2.2 b (hb.imp mem_ownL.1 mem_ownL.1); have := hq.out; omega
    · have := hsg.out.2.2 b (hb.imp mem_ownL.1 mem_ownL.1); have := hq.out; omega
  rw [← hms] at hrows
  replace sepE := Lib.hid sepE
  replace sepR := Lib.hid sepR
  replace hsm := Lib.hid hsm
  replace hSr := Lib.hid hSr
  replace hFa := Lib.hid hFa
  replace hFb := Lib.hid hFb
  replace hms := Lib.hid hms
  replace hFx := Lib.hid hFx
  replace hFy := Lib.hid hFy
  replace hFz := Lib.hid hFz
  replace hml := Lib.hid hml
  obtain ⟨S, hS⟩ : ∃ S, S = blkS (ms.map MV.eS) ++ blkS (ms.map MV.rS) := ⟨_, rfl⟩
  have hSt : ∀ b ∈ S, ∃ t cs, Blk w14 b t cs ∧ t ≠ 52 ∧ t ≠ 27 := by
    intro b hb
    rw [hS] at hb
    rcases List.mem_append.1 hb with hb | hb
    · obtain ⟨i, hi, hg⟩ := of_blkS hb
      obtain ⟨ys, hy⟩ := (hF1E.d i hi).2 (Nat.zero_le _)
      obtain ⟨cs, hc⟩ := own_typed hy b (mem_ownL.1 hg)
      exact ⟨_, cs, hc, by decide, by decide⟩
    · obtain ⟨i, hi, hg⟩ := of_blkS hb
      obtain ⟨ys, hy⟩ := (hF1R.d i hi).2 (Nat.zero_le _)
      obtain ⟨cs, hc⟩ := own_typed hy b (mem_ownL.1 hg)
      exact ⟨_, cs, hc, by decide, by decide⟩
  have hSA : gA ∉ S := fun hb => by
    obtain ⟨t, cs, h1, h2, -⟩ := hSt gA hb
    have := h1.symm.trans kAll
    injection this with this
    injection this with _ this
    exact h2 this
  have hSm : ∀ i (h : i < ms.length), (∀ b ∈ ownL ms[i].eS.A, b ∈ S) ∧ ∀ b ∈ ownL ms[i].rS.A, b ∈ S := fun i h => ⟨fun b hb => by rw [hS]; exact List.mem_append_left _ (mem_blkS (i := i) (by simpa using h) (by simpa using hb)), fun b hb => by rw [hS]; exact List.mem_append_right _ (mem_blkS (i := i) (by simpa using h) (by simpa using hb))⟩
  have hSlt : ∀ b ∈ S, b < w11.heap.size ∧ (b < w6.heap.size ∨ (w8.heap.size ≤ b ∧ b < w9.heap.size) ∨ w10.heap.size ≤ b) := by
    intro b hb
    rw [hS] at hb
    rcases List.mem_append.1 hb with hb | hb
    · obtain ⟨i, hi, hg⟩ := of_blkS hb
      have := hSr.out i (by simpa using hi) b (.inl (by simpa using hg))
      exact ⟨this.1, this.2.1⟩
    · obtain ⟨i, hi, hg⟩ := of_blkS hb
      have := hSr.out i (by simpa using hi) b (.inr (by simpa using hg))
      exact ⟨this.1, this.2.1⟩
  have hnN : ∀ {g : Nat} {cs : Array Value}, Blk w14 g 52 cs → g ∉ S := fun {g cs} h hb => by
    obtain ⟨t, cs2, h1, h2, -⟩ := hSt g hb
    have := h1.symm.trans h
    injection this with this
    injection this with _ this
    exact h2 this
  have hnD : ∀ {g : Nat} {cs : Array Value}, Blk w14 g 27 cs → g ∉ S := fun {g cs} h hb => by
    obtain ⟨t, cs2, h1, -, h2⟩ := hSt g hb
    have := h1.symm.trans h
    injection this with this
    injection this with _ this
    exact h2 this
  have n5 := hnD k5
  have n11 := hnN k11
  have n13 := hnN k13
  have n17 := hnN k17c
  have n18 := hnN k18c
  have n21 := hnN k21
  have no5 : ∀ b ∈ bs5, b ∉ S := fun b hb => by
    obtain ⟨cs, h⟩ := o5.typed b hb
    exact hnD h
  have hSlo : ∀ b ∈ S, w.heap.size ≤ b := by
    intro b hb
    rw [hS] at hb
    rcases List.mem_append.1 hb with hb | hb
    · obtain ⟨i, hi, hg⟩ := of_blkS hb
      obtain ⟨ys, hy⟩ := (hF1E.d i hi).2 (Nat.zero_le _)
      have := (hy.lt b (mem_ownL.1 hg)).1
      have := hq.out; omega
    · obtain ⟨i, hi, hg⟩ := of_blkS hb
      obtain ⟨ys, hy⟩ := (hF1R.d i hi).2 (Nat.zero_le _)
      have := (hy.lt b (mem_ownL.1 hg)).1
      have := hq.out; omega
  have nx : ∀ b, (xx.mv.eS.v.ownBlock = some b ∨ xx.mv.rS.v.ownBlock = some b) → b ∉ S := fun b h hb => by
    have := hSlt b hb; have := hxy.out.1 b h; have := hq.out; omega
  have ny : ∀ b, (xy.mv.eS.v.ownBlock = some b ∨ xy.mv.rS.v.ownBlock = some b) → b ∉ S := fun b h hb => by
    have := hSlt b hb; have := hxy.out.2.1 b h; have := hq.out; omega
  have nz : ∀ b, (xz.mv.eS.v.ownBlock = some b ∨ xz.mv.rS.v.ownBlock = some b) → b ∉ S := fun b h hb => by
    have := hSlt b hb; have := hxy.out.2.2 b h; have := hq.out; omega
  have hnot := Lib.hid (And.intro n5 (And.intro n11 (And.intro n13 (And.intro n17 (And.intro n18 (And.intro n21 (And.intro no5 (And.intro nx (And.intro ny (And.intro nz hSlo))))))))))
  clear n5 n11 n13 n17 n18 n21 no5 nx ny nz hSlo hnN hnD
  have hgAl := kAll.lt
  replace hSt := Lib.hid hSt
  replace hSA := Lib.hid hSA
  replace hSm := Lib.hid hSm
  replace hSlt := Lib.hid hSlt
  clear hS hsa hsb hsc hsx hsd hsz hsg hs13 hs14 hs0 smA smB smU hFc hFd hFg ma mb mc md mg k15 k19 k22 kAll hSr
  go_upto_block 0 with (fail)
  go_cut [] (fun wx => SpF S w14 wx ∧ Hid (Fam1E w1.heap.size wx (ms.map MV.eS) 5) ∧ Hid (Fam1R w1.heap.size wx (ms.map MV.rS) 5))
  case first =>
    go_wp2_with (fail)
    go_loopw [122] (fun iv wr => ∃ i : Nat, i ≤ 5 ∧ iv = .int .i64 i ∧ SpF S w14 wr ∧ Hid (Fam1E w1.heap.size wr (ms.map MV.eS) i) ∧ Hid (Fam1R w1.heap.size wr (ms.map MV.rS) i)) (fun iv _ => 5 - (intOf iv).toNat)
    case atStart => exact ⟨0, by omega, rfl, SpF.refl _ _, Lib.hid hF1E, Lib.hid hF1R⟩
    case round =>
      clear hF1E hF1R k5 o5 k11 k13 k17c k18c k21 mx my mz hT
      obtain ⟨i, hi, rfl, hF, hE, hR⟩ := hrel
      by_cases hil : i < 5
      · have hiI : (i : Int) < 5 := by omega
        have him : i < ms.length := by rw [hml.out]; exact hil
        have hiE : i < (ms.map MV.eS).length := by simpa using him
        have hiR : i < (ms.map MV.rS).length := by simpa using him
        obtain ⟨ba, off, hAe, hba, hr⟩ := hrows.at_ (by omega)
        injection hAe with hAe
        injection hAe with hA1 hA2
        have hrow := (hr i him).keep (w' := wr) (by rw [← hA1]; exact hF.block gA hgAl hSA.out)
        rw [← hA1, ← hA2, Nat.zero_add] at hrow
        obtain ⟨hsE, hsR⟩ := hsm.out i him
        have hSi := hSm.out i him
        have hxE : (ms.map MV.eS)[i] = ms[i].eS := List.getElem_map ..
        have hxR : (ms.map MV.rS)[i] = ms[i].rS := List.getElem_map ..
        obtain ⟨ysE, hyE⟩ := (hE.out.d i hiE).2 (Nat.le_refl _)
        obtain ⟨ysR, hyR⟩ := (hR.out.d i hiR).2 (Nat.le_refl _)
        rw [hxE] at hyE
        rw [hxR] at hyR
        clear hr hA1 hA2 hba
        obtain ⟨x, hx⟩ : ∃ x, x = ms[i] := ⟨_, rfl⟩
        rw [← hx] at hrow hsE hsR hSi hxE hxR hyE hyR
        clear hx
        obtain ⟨⟨xs, xEe, xRr⟩, xA, xc, xB, xd⟩ := x
        simp only [MV.C, MV.eS, MV.rS, TS.v] at hrow hsE hsR hSi hxE hxR hyE hyR
        obtain ⟨n, hn⟩ : ∃ y, xEe.length = y := ⟨_, rfl⟩
        obtain ⟨m, hm⟩ : ∃ y, xRr.length = y := ⟨_, rfl⟩
        rw [hn] at hrow hsE hxE hyE
        rw [hm] at hrow hsR hxR hyR
        clear hn hm
        replace hxE := Lib.hid hxE
        replace hxR := Lib.hid hxR
        replace hSi := Lib.hid hSi
        replace hyE := Lib.hid hyE
        replace hyR := Lib.hid hyR
        go_upto_region 20 with (first | (refine wl_load_nfa_at rfl _ rfl _ _ rfl _ _ _ _ _ _ _ hrow ?_) | (refine wl_store_nfa rfl _ _ rfl _ _ _ _ _ _ _ _ rfl rfl 0 none 0 0 none 0 0 (Blk.new _ _ _) ?_; intro w20 k26 hg26))
        have hB20 := below_grown (below_alloc (Below.refl _ wr) (.cells #[.int .i64 0, .slice none 0 0, .slice none 0 0] 52)) hg26 (Nat.le_refl _)
        replace hF := hF.then_ hB20
        replace hE := Lib.hid (hE.out.then_ hB20)
        replace hR := Lib.hid (hR.out.then_ hB20)
        replace hyE := hyE.out.then_ hB20
        replace hyR := Lib.hid (hyR.out.then_ hB20)
        obtain ⟨g26, hg⟩ : ∃ y, y = wr.heap.size := ⟨_, rfl⟩
        rw [← hg] at k26 ⊢
        clear hg26 hB20 hg hrow
        have hTE : ∀ b ∈ ownL xA, ∃ cs, Blk w20 b 67 cs := fun b hb => own_typed hyE b (mem_ownL.1 hb)
        have c1 : w20.cell? ⟨g26, 1, none⟩ = some (.slice xA n xc) := k26.cellv (i := 1) rfl
        go_upto_block 2 with (fail)
        clear c1
        go_cut [] (fun wx => SpF (ownL xA) w20 wx ∧ Hid (Own wx w1.heap.size 67 7 edgC (.slice xA n xc) (List.replicate n (kE i))))
        case first =>
          go_wp2_with (fail)
          go_loopw [130] (fun kv wr => ∃ (k : Nat) (ys : List Edg), k ≤ n ∧ kv = .int .i64 k ∧ Hid (ys.length = n) ∧ Hid (∀ j, j < k → ys[j]? = some (kE i)) ∧ Own wr w1.heap.size 67 7 edgC (.slice xA n xc) ys ∧ SpF (ownL xA) w20 wr ∧ Blk wr g26 52 (nfaC xs xA n xc xB m xd)) (fun kv _ => n - (intOf kv).toNat)
          case atStart => exact ⟨0, ysE, by omega, rfl, Lib.hid (own_len hyE).symm, Lib.hid (fun j hj => by omega), hyE, SpF.refl _ _, k26⟩
          case round =>
            clear k26 hyE
            obtain ⟨k, ys, hk, rfl, hyl, hyk, hO, hG, k26⟩ := hrel
            by_cases hkn : k < n
            · have hkI : (k : Int) < n := by omega
              have hkb : k < 1099511628000 := by omega
              have hky : k < ys.length := by rw [hyl.out]; exact hkn
              obtain ⟨g, cap, hv, -, -, -, -⟩ := hO.form (by omega)
              injection hv with hv1 hv2 hv3
              subst hv1
              have c1 : wr.cell? ⟨g26, 1, none⟩ = some (.slice (some ⟨g, 0, none⟩) n xc) := k26.cellv (i := 1) rfl
              have hne := own_blk_ne hO k26 (by decide)
              clear hv2 hv3
              go_wp2_with (first
                | (refine wl_build_kE rfl _ rfl _ rfl ?_)
                | (refine wl_store_own rfl 67 _ _ rfl g k n xc rfl (kE i) rfl edgC_size edgC_one info_edge hO hky ?_; intro w23 hO2 hg2))
              exact ⟨⟨k + 1, ys.set k (kE i), by omega, rfl, Lib.hid (by rw [List.length_set]; exact hyl.out), Lib.hid (set_run hyl.out hkn hyk.out), hO2, hG.grown hg2 (fun b hb => .inl (by injection hb with hb; simp [ownL, hb])), k26.grown hg2 (fun e => hne e.symm)⟩, by simp only [intOf]; omega⟩
            · have hkI : ¬ (k : Int) < n := by omega
              have hke : k = n := by omega
              have hfin := Lib.hid (all_replicate hyl.out (fun j hj => hyk.out j (by omega)))
              clear hke hkn hyk
              go_wp2_with (fail)
              go_meet
              exact ⟨hG, Lib.hid (by rw [← hfin.out]; exact hO)⟩
        obtain ⟨hSp, hO⟩ := hcut
        obtain ⟨w21, rfl⟩ : ∃ y, y = wc := ⟨_, rfl⟩
        have hTN : ∀ b ∈ ownL xA, ∃ t cs, Blk w20 b t cs ∧ t ≠ 52 := fun b hb => by
          obtain ⟨cs, h⟩ := hTE b hb
          exact ⟨_, cs, h, by decide⟩
        have hTU : ∀ b ∈ ownL xA, ∃ t cs, Blk w20 b t cs ∧ t ≠ 57 := fun b hb => by
          obtain ⟨cs, h⟩ := hTE b hb
          exact ⟨_, cs, h, by decide⟩
        replace k26 := blk_spt k26 hSp hTN
        replace hE := Lib.hid (hE.out.step sepE.out hiE (by rw [hxE.out]; exact hSp) (by rw [hxE.out]; exact hO.out))
        replace hR := Lib.hid (hR.out.other hSp hTU)
        replace hyR := own_other hyR.out hSp hTU
        replace hF := hF.trans (hSp.sub hSi.out.1)
        clear hTE hTN hTU hSp hO hyE
        have hTE : ∀ b ∈ ownL xB, ∃ cs, Blk w21 b 57 cs := fun b hb => own_typed hyR b (mem_ownL.1 hb)
        have c2 : w21.cell? ⟨g26, 2, none⟩ = some (.slice xB m xd) := k26.cellv (i := 2) rfl
        go_wp2_with (fail)
        clear c2
        go_loopw [144] (fun kv wr => ∃ (k : Nat) (ys : List Nat), k ≤ m ∧ kv = .int .i64 k ∧ Hid (ys.length = m) ∧ Hid (∀ j, j < k → ys[j]? = some (kR i)) ∧ Own wr w1.heap.size 57 1 encR (.slice xB m xd) ys ∧ SpF (ownL xB) w21 wr ∧ Blk wr g26 52 (nfaC xs xA n xc xB m xd)) (fun kv _ => m - (intOf kv).toNat)
        case atStart => exact ⟨0, ysR, by omega, rfl, Lib.hid (own_len hyR).symm, Lib.hid (fun j hj => by omega), hyR, SpF.refl _ _, k26⟩
        case round =>
          clear k26 hyR
          obtain ⟨k, ys, hk, rfl, hyl, hyk, hO, hG, k26⟩ := hrel
          by_cases hkn : k < m
          · have hkI : (k : Int) < m := by omega
            have hkb : k < 1099511628000 := by omega
            have hky : k < ys.length := by rw [hyl.out]; exact hkn
            obtain ⟨g, cap, hv, -, -, -, -⟩ := hO.form (by omega)
            injection hv with hv1 hv2 hv3
            subst hv1
            have c2 : wr.cell? ⟨g26, 2, none⟩ = some (.slice (some ⟨g, 0, none⟩) m xd) := k26.cellv (i := 2) rfl
            have hne := own_blk_ne hO k26 (by decide)
            have h50 := u32_50 hi
            clear hv2 hv3
            go_wp2_with (first
              | (refine wl_store_rule rfl _ _ rfl g k m xd rfl (kR i) (congrArg (Value.int .u32) h50) hO hky ?_; intro w23 hO2 hg2)
              | (refine wl_store_rule rfl _ _ rfl g k m xd rfl (kR i) rfl hO hky ?_; intro w23 hO2 hg2))
            exact ⟨⟨k + 1, ys.set k (kR i), by omega, rfl, Lib.hid (by rw [List.length_set]; exact hyl.out), Lib.hid (set_run hyl.out hkn hyk.out), hO2, hG.grown hg2 (fun b hb => .inl (by injection hb with hb; simp [ownL, hb])), k26.grown hg2 (fun e => hne e.symm)⟩, by simp only [intOf]; omega⟩
          · have hkI : ¬ (k : Int) < m := by omega
            have hfin := all_replicate hyl.out (fun j hj => hyk.out j (by omega))
            rw [hfin] at hO
            have hTU : ∀ b ∈ ownL xB, ∃ t cs, Blk w21 b t cs ∧ t ≠ 67 := fun b hb => by
              obtain ⟨cs, h⟩ := hTE b hb
              exact ⟨_, cs, h, by decide⟩
            replace hR := Lib.hid (hR.out.step sepR.out hiR (by rw [hxR.out]; exact hG) (by rw [hxR.out]; exact hO))
            replace hE := Lib.hid (hE.out.other hG hTU)
            replace hF := Lib.hid (hF.trans (hG.sub hSi.out.2))
            clear hTE hTU hG hO k26 hfin hyk hyl hkn
            go_wp2_with (fail)
            exact ⟨⟨i + 1, by omega, rfl, hF.out, hE, hR⟩, by simp only [intOf]; omega⟩
      · have hiI : ¬ (i : Int) < 5 := by omega
        have hi5 : i = 5 := by omega
        rw [hi5] at hE hR
        clear hi5
        go_wp2_with (fail)
        go_meet
        exact ⟨hF, hE, hR⟩
  obtain ⟨hF, hE, hR⟩ := hcut
  obtain ⟨w30, rfl⟩ : ∃ y, y = wc := ⟨_, rfl⟩
  go_upto_block 6 with (fail)
  go_cut [29, 30] (fun ev rv wx => ∃ (se sr : TS) (NE NR : List TS), ev = se.v ∧ rv = sr.v ∧ NE.length = 5 ∧ NR.length = 5 ∧ SpF S w14 wx ∧ Own wx w30.heap.size 49 1 encT se.v NE ∧ Own wx w30.heap.size 50 1 encT sr.v NR ∧ Hid (Fam2E w1.heap.size wx w30.heap.size (ms.map MV.eS) NE) ∧ Hid (Fam2R w1.heap.size wx w30.heap.size (ms.map MV.rS) NR))
  case first =>
    go_wp2_with (fail)
    go_loopw [29, 30, 158] (fun ev rv iv wr => ∃ (i : Nat) (se sr : TS) (NE NR : List TS), i ≤ 5 ∧ iv = .int .i64 i ∧ ev = se.v ∧ rv = sr.v ∧ NE.length = i ∧ NR.length = i ∧ SpF S w14 wr ∧ w30.heap.size ≤ wr.heap.size ∧ Own wr w30.heap.size 49 1 encT se.v NE ∧ Own wr w30.heap.size 50 1 encT sr.v NR ∧ Hid (Fam2E w1.heap.size wr w30.heap.size (ms.map MV.eS) NE) ∧ Hid (Fam2R w1.heap.size wr w30.heap.size (ms.map MV.rS) NR)) (fun _ _ iv _ => 5 - (intOf iv).toNat)
    case atStart => exact ⟨0, ⟨none, 0, 0⟩, ⟨none, 0, 0⟩, [], [], by omega, rfl, rfl, rfl, rfl, rfl, hF, Nat.le_refl _, Own.nil_ _ _ _ _ _, Own.nil_ _ _ _ _ _, Lib.hid (Fam2.start hE.out (by have := hml.out; simp [this])), Lib.hid (Fam2.start hR.out (by have := hml.out; simp [this]))⟩
    case round =>
      have hlow14 := hF.size
      clear hF hE hR k5 o5 k11 k13 k17c k18c k21 mx my mz hT
      obtain ⟨i, se, sr, NE, NR, hi, rfl, rfl, rfl, hNE, hNR, hF, hsz, hoE, hoR, hE, hR⟩ := hrel
      by_cases hil : i < 5
      · have hiI : (i : Int) < 5 := by omega
        have him : i < ms.length := by rw [hml.out]; exact hil
        have hiE : i < (ms.map MV.eS).length := by simpa using him
        have hiR : i < (ms.map MV.rS).length := by simpa using him
        obtain ⟨ba, off, hAe, hba, hr⟩ := hrows.at_ (by omega)
        injection hAe with hAe
        injection hAe with hA1 hA2
        have hrow := (hr i him).keep (w' := wr) (by rw [← hA1]; exact hF.block gA hgAl hSA.out)
        rw [← hA1, ← hA2, Nat.zero_add] at hrow
        obtain ⟨hsE, hsR⟩ := hsm.out i him
        have hSi := hSm.out i him
        have hxE : (ms.map MV.eS)[i] = ms[i].eS := List.getElem_map ..
        have hxR : (ms.map MV.rS)[i] = ms[i].rS := List.getElem_map ..
        clear hr hA1 hA2 hba
        obtain ⟨x, hx⟩ : ∃ x, x = ms[i] := ⟨_, rfl⟩
        rw [← hx] at hrow hsE hsR hSi hxE hxR
        clear hx
        obtain ⟨⟨xs, xEe, xRr⟩, xA, xc, xB, xd⟩ := x
        simp only [MV.C, MV.eS, MV.rS, TS.v] at hrow hsE hsR hSi hxE hxR
        obtain ⟨n, hn⟩ : ∃ y, xEe.length = y := ⟨_, rfl⟩
        obtain ⟨m, hm⟩ : ∃ y, xRr.length = y := ⟨_, rfl⟩
        rw [hn] at hrow hsE hxE
        rw [hm] at hrow hsR hxR
        clear hn hm
        replace hxE := Lib.hid hxE
        replace hxR := Lib.hid hxR
        replace hSi := Lib.hid hSi
        obtain ⟨eA, en, ec⟩ := se
        obtain ⟨rA, rn, rc⟩ := sr
        simp only [TS.v] at hoE hoR ⊢
        go_upto_region 36 with (first | (refine wl_load_nfa_at rfl _ rfl _ _ rfl _ _ _ _ _ _ _ hrow ?_) | (refine wl_store_nfa rfl _ _ rfl _ _ _ _ _ _ _ _ rfl rfl 0 none 0 0 none 0 0 (Blk.new _ _ _) ?_; intro w35 k32 hg32))
        have hB35 := below_grown (below_alloc (Below.refl _ wr) (.cells #[.int .i64 0, .slice none 0 0, .slice none 0 0] 52)) hg32 (Nat.le_refl _)
        replace hF := hF.then_ hB35
        replace hE := Lib.hid (hE.out.then_ hB35)
        replace hR := Lib.hid (hR.out.then_ hB35)
        replace hoE := Lib.hid (hoE.then_ hB35)
        replace hoR := Lib.hid (hoR.then_ hB35)
        replace hsz := Nat.le_trans hsz hB35.size
        obtain ⟨g32, hg⟩ : ∃ y, y = wr.heap.size := ⟨_, rfl⟩
        rw [← hg] at k32 ⊢
        clear hg32 hB35 hrow hg
        refine wp_region_steps 6 [eqS (.pointer (some ⟨g32, 1, none⟩)), eqS (.slice xA n xc), eqS (.pointer (some ⟨g32, 2, none⟩)), eqS (.slice xB m xd), eqS (.slice xA n xc), eqS (.slice xB m xd)] [163, 164, 165, 166, 33, 34] follows_mixed (by kernel_rfl) (by kernel_rfl) ?_ ?_
        · skip
          refine Steps.cons (fun a' w' hG hB dep => gs_field (want_none rfl) _ _ _ rfl g32 (0) (1) (hG.other 32 rfl) (fun wz => field_nfa_1 g32 (0) wz) rfl) ?_
          refine Steps.cons (fun a' w' hG hB dep => gs_load1 (want_none rfl) _ _ rfl g32 (1) (dep 0 rfl 163 rfl) (.slice xA n xc) ((blk_then k32 hB).cellv (i := 1) rfl) _ Try.underlying49 rfl rfl) ?_
          refine Steps.cons (fun a' w' hG hB dep => gs_field (want_none rfl) _ _ _ rfl g32 (0) (2) (hG.other 32 rfl) (fun wz => field_nfa_2 g32 (0) wz) rfl) ?_
          refine Steps.cons (fun a' w' hG hB dep => gs_load1 (want_none rfl) _ _ rfl g32 (2) (dep 2 rfl 165 rfl) (.slice xB m xd) ((blk_then k32 hB).cellv (i := 2) rfl) _ Try.underlying50 rfl rfl) ?_
          refine Steps.cons (fun a' w' hG hB dep => gs_assign (want_none rfl) _ rfl (id (dep 1 rfl 164 rfl))) ?_
          refine Steps.cons (fun a' w' hG hB dep => gs_assign (want_none rfl) _ rfl (id (dep 3 rfl 166 rfl))) ?_
          exact Steps.nil
        intro u w36 hBd ans
        have v33 : u 33 = .slice xA n xc := ans 4 33 (by decide) rfl
        have v34 : u 34 = .slice xB m xd := ans 5 34 (by decide) rfl
        clear ans
        simp only [putAll, List.foldl_cons, List.foldl_nil, Act.put, List.setIfInBounds_toArray, List.set_cons_zero, List.set_cons_succ, v33, v34]
        simp only [List.drop]
        refine wpList_nil ?_
        clear v33 v34 k32
        replace hF := hF.then_ hBd
        replace hE := Lib.hid (hE.out.then_ hBd)
        replace hR := Lib.hid (hR.out.then_ hBd)
        replace hoE := Lib.hid (hoE.out.then_ hBd)
        replace hoR := Lib.hid (hoR.out.then_ hBd)
        replace hsz := Nat.le_trans hsz hBd.size
        clear hBd
        have hlow := Lib.hid (show w1.heap.size ≤ w36.heap.size by have := hq.out; omega)
        have holdkE := hE.out.old i hiE
        rw [hxE.out] at holdkE
        have holdkR := hR.out.old i hiR
        rw [hxR.out] at holdkR
        have hTE : ∀ b ∈ ownL xA, ∃ cs, Blk w36 b 67 cs := fun b hb => own_typed holdkE b (mem_ownL.1 hb)
        replace hTE := Lib.hid hTE
        replace holdkR := Lib.hid holdkR
        go_upto_block 8 with (fail)
        go_cut [33] (fun lv wx => ∃ l : TS, lv = l.v ∧ AppT edgC 7 w1.heap.size 67 w36 wx ⟨xA, n, xc⟩ (kE i) l 40)
        case first =>
          go_wp2_with (fail)
          go_loopw [33, 167] (fun lv tv wr => ∃ (t : Nat) (l : TS), t ≤ 40 ∧ tv = .int .i64 t ∧ lv = l.v ∧ Hid (AppT edgC 7 w1.heap.size 67 w36 wr ⟨xA, n, xc⟩ (kE i) l t)) (fun _ tv _ => 40 - (intOf tv).toNat)
          case atStart => exact ⟨0, ⟨xA, n, xc⟩, by omega, rfl, rfl, Lib.hid (AppT.start holdkE)⟩
          case round =>
            obtain ⟨t, l, ht, rfl, rfl, hAp⟩ := hrel
            by_cases ht4 : t < 40
            · have htI : (t : Int) < 40 := by omega
              have h50 := u32_50 hi
              have hlo := Lib.hid (show w1.heap.size ≤ wr.heap.size by have := hAp.out.sp.size; have := hlow.out; omega)
              obtain ⟨lA, ln, lc⟩ := l
              have hln : ln = n + t := hAp.out.ln
              have hln2 : ln ≤ 30000 := by omega
              replace hln := Lib.hid hln
              simp only [TS.v]
              go_wp2_with (first
                | (refine wl_build_kE rfl _ rfl _ rfl ?_)
                | (refine wl_one (d := kE i) rfl _ rfl rfl ?_)
                | (at_builtin; refine park ?_))
              refine Parked.mk ?_
              have hBa := below_alloc (Below.refl wr.heap.size wr) (.cells (edgC (kE i)) 67)
              have hAq := hAp.out.then_ hBa
              have hAo := hAq.o
              refine wl_pushG info_edge3 Try.underlying49 rfl (by decide) edgC_size edgC_one (by decide) rfl _ _ rfl ⟨lA, ln, lc⟩ hAo rfl wr.heap.size rfl (kE i) (Blk.new _ _ _) (by simp only [List.length_replicate]; omega) (by have := hlo.out; have := hBa.size; omega) ?_
              intro l' w9 hn9 hO9 hk9 hg9 hv9
              rw [List.length_replicate] at hn9
              have hA9 := Lib.hid (hAq.push (by first | exact edgC_size | exact encR_size) (by decide) hn9 hO9 hk9 hg9 hv9)
              clear hBa hAq hAo hO9 hk9 hg9 hv9 hAp hlo
              simp only [Act.put, List.setIfInBounds_toArray, List.set_cons_zero, List.set_cons_succ]
              go_wp2_with (fail)
              exact ⟨⟨t + 1, l', by omega, rfl, rfl, hA9⟩, by simp only [intOf]; omega⟩
            · have htI : ¬ (t : Int) < 40 := by omega
              have h40 : t = 40 := by omega
              rw [h40] at hAp
              clear h40
              go_wp2_with (fail)
              go_meet
              exact ⟨l, rfl, hAp.out⟩
        obtain ⟨w38l, rfl, hAp⟩ := hcut
        obtain ⟨w38, rfl⟩ : ∃ y, y = wc := ⟨_, rfl⟩
        have hTU : ∀ b ∈ ownL xA, ∃ t cs, Blk w36 b t cs ∧ t ≠ 57 := fun b hb => by
          obtain ⟨cs, h⟩ := hTE.out b hb
          exact ⟨_, cs, h, by decide⟩
        have hTS : ∀ b ∈ ownL xA, ∃ t cs, Blk w36 b t cs ∧ t ≠ 49 := fun b hb => by
          obtain ⟨cs, h⟩ := hTE.out b hb
          exact ⟨_, cs, h, by decide⟩
        have hTS2 : ∀ b ∈ ownL xA, ∃ t cs, Blk w36 b t cs ∧ t ≠ 50 := fun b hb => by
          obtain ⟨cs, h⟩ := hTE.out b hb
          exact ⟨_, cs, h, by decide⟩
        have hsp := hAp.sp
        have hlowE : ∀ j (hj : j < (ms.map MV.eS).length), ∀ g ∈ ownL (ms.map MV.eS)[j].A, g < w30.heap.size := fun j hj g hg => by
          have := (hSlt.out g ((hSm.out j (by simpa using hj)).1 g (by simpa using hg))).1
          have := hq.out; omega
        replace hE := Lib.hid (hE.out.step sepE.out hlowE hNE hiE hsz (by rw [hxE.out]; exact hsp) (by rw [hxE.out]; exact hAp.old) (by rw [hxE.out]; exact hAp.ln) (by rw [hxE.out]; exact hAp.o) (by rw [hxE.out]; exact hAp.blk))
        replace hR := Lib.hid (hR.out.other hsp hTU)
        replace holdkR := own_other holdkR.out hsp hTU
        replace hoE := Lib.hid (own_other hoE.out hsp hTS)
        replace hoR := Lib.hid (own_other hoR.out hsp hTS2)
        replace hF := hF.trans (hsp.sub hSi.out.1)
        replace hsz := Nat.le_trans hsz hsp.size
        replace hlow := Lib.hid (Nat.le_trans hlow.out hsp.size)
        clear hTU hTS hTS2 hsp hlowE hAp hTE holdkE
        have hTR : ∀ b ∈ ownL xB, ∃ cs, Blk w38 b 57 cs := fun b hb => own_typed holdkR b (mem_ownL.1 hb)
        replace hTR := Lib.hid hTR
        go_upto_block 10 with (fail)
        go_cut [34] (fun lv wx => ∃ l : TS, lv = l.v ∧ AppT encR 1 w1.heap.size 57 w38 wx ⟨xB, m, xd⟩ (kR i) l 40)
        case first =>
          go_wp2_with (fail)
          go_loopw [34, 176] (fun lv tv wr => ∃ (t : Nat) (l : TS), t ≤ 40 ∧ tv = .int .i64 t ∧ lv = l.v ∧ Hid (AppT encR 1 w1.heap.size 57 w38 wr ⟨xB, m, xd⟩ (kR i) l t)) (fun _ tv _ => 40 - (intOf tv).toNat)
          case atStart => exact ⟨0, ⟨xB, m, xd⟩, by omega, rfl, rfl, Lib.hid (AppT.start holdkR)⟩
          case round =>
            obtain ⟨t, l, ht, rfl, rfl, hAp⟩ := hrel
            by_cases ht4 : t < 40
            · have htI : (t : Int) < 40 := by omega
              have h50 := u32_50 hi
              have hlo := Lib.hid (show w1.heap.size ≤ wr.heap.size by have := hAp.out.sp.size; have := hlow.out; omega)
              obtain ⟨lA, ln, lc⟩ := l
              have hln : ln = m + t := hAp.out.ln
              have hln2 : ln ≤ 30000 := by omega
              replace hln := Lib.hid hln
              simp only [TS.v]
              go_wp2_with (first
                | (refine wl_bs_u32 rfl _ rfl (kR i) (congrArg (Value.int .u32) h50) ?_)
                | (refine wl_bs_u32 rfl _ rfl (kR i) rfl ?_)
                | (at_builtin; refine park ?_))
              refine Parked.mk ?_
              have hBa := below_alloc (Below.refl wr.heap.size wr) (.cells (encR (kR i)) 57)
              have hAq := hAp.out.then_ hBa
              have hAo := hAq.o
              refine wl_pushG info_r3 Try.underlying50 rfl (by decide) encR_size encR_one (by decide) rfl _ _ rfl ⟨lA, ln, lc⟩ hAo rfl wr.heap.size rfl (kR i) (Blk.new _ _ _) (by simp only [List.length_replicate]; omega) (by have := hlo.out; have := hBa.size; omega) ?_
              intro l' w9 hn9 hO9 hk9 hg9 hv9
              rw [List.length_replicate] at hn9
              have hA9 := Lib.hid (hAq.push (by first | exact edgC_size | exact encR_size) (by decide) hn9 hO9 hk9 hg9 hv9)
              clear hBa hAq hAo hO9 hk9 hg9 hv9 hAp hlo
              simp only [Act.put, List.setIfInBounds_toArray, List.set_cons_zero, List.set_cons_succ]
              go_wp2_with (fail)
              exact ⟨⟨t + 1, l', by omega, rfl, rfl, hA9⟩, by simp only [intOf]; omega⟩
            · have htI : ¬ (t : Int) < 40 := by omega
              have h40 : t = 40 := by omega
              rw [h40] at hAp
              clear h40
              go_wp2_with (fail)
              go_meet
              exact ⟨l, rfl, hAp.out⟩
        obtain ⟨w40l, rfl, hAp⟩ := hcut
        obtain ⟨w40, rfl⟩ : ∃ y, y = wc := ⟨_, rfl⟩
        have hTU : ∀ b ∈ ownL xB, ∃ t cs, Blk w38 b t cs ∧ t ≠ 67 := fun b hb => by
          obtain ⟨cs, h⟩ := hTR.out b hb
          exact ⟨_, cs, h, by decide⟩
        have hTS : ∀ b ∈ ownL xB, ∃ t cs, Blk w38 b t cs ∧ t ≠ 49 := fun b hb => by
          obtain ⟨cs, h⟩ := hTR.out b hb
          exact ⟨_, cs, h, by decide⟩
        have hTS2 : ∀ b ∈ ownL xB, ∃ t cs, Blk w38 b t cs ∧ t ≠ 50 := fun b hb => by
          obtain ⟨cs, h⟩ := hTR.out b hb
          exact ⟨_, cs, h, by decide⟩
        have hsp := hAp.sp
        have hlowR : ∀ j (hj : j < (ms.map MV.rS).length), ∀ g ∈ ownL (ms.map MV.rS)[j].A, g < w30.heap.size := fun j hj g hg => by
          have := (hSlt.out g ((hSm.out j (by simpa using hj)).2 g (by simpa using hg))).1
          have := hq.out; omega
        replace hR := Lib.hid (hR.out.step sepR.out hlowR hNR hiR hsz (by rw [hxR.out]; exact hsp) (by rw [hxR.out]; exact hAp.old) (by rw [hxR.out]; exact hAp.ln) (by rw [hxR.out]; exact hAp.o) (by rw [hxR.out]; exact hAp.blk))
        replace hE := Lib.hid (hE.out.other hsp hTU)
        replace hoE := own_other hoE.out hsp hTS
        replace hoR := own_other hoR.out hsp hTS2
        replace hF := hF.trans (hsp.sub hSi.out.2)
        replace hsz := Nat.le_trans hsz hsp.size
        clear hTU hTS hTS2 hsp hlowR hAp hTR holdkR
        have hBa := below_alloc (Below.refl w40.heap.size w40) (.cells (encT w38l) 49)
        have hoEq := hoE.then_ hBa
        have hTy : ∀ b ∈ ownL eA, ∃ cs, Blk (w40.alloc (.cells (encT w38l) 49)) b 49 cs := fun b hb => own_typed hoEq b (mem_ownL.1 hb)
        have hlo40 := hoE.lt
        replace hE := Lib.hid (hE.out.then_ hBa)
        replace hR := Lib.hid (hR.out.then_ hBa)
        replace hoR := Lib.hid (hoR.then_ hBa)
        replace hF := Lib.hid (hF.then_ hBa)
        replace hsz := Nat.le_trans hsz hBa.size
        replace hTy := Lib.hid hTy
        replace hlo40 := Lib.hid hlo40
        have hNEl : NE.length ≤ 5 := by omega
        replace hNE := Lib.hid hNE
        replace hNR := Lib.hid hNR
        clear hBa hoE hlow
        go_wp2_with (first | (refine wl_bs_slE rfl _ rfl w38l rfl ?_) | (at_builtin; refine park ?_))
        refine Parked.mk ?_
        refine wl_pushG info_slE Try.underlying68 rfl (by decide) encT_size encT_one (by decide) rfl _ _ rfl ⟨eA, en, ec⟩ hoEq rfl w40.heap.size rfl w38l (Blk.new _ _ _) (by omega) hsz ?_
        intro e' w41 hn41 hO41 hk41 hg41 hv41
        have hsp : SpF (ownL eA) (w40.alloc (.cells (encT w38l) 49)) w41 := (SpF.refl _ _).grown hg41 (fun b hb => .inl (mem_ownL.2 hb))
        replace hE := Lib.hid (hE.out.other hsp (fun b hb => by obtain ⟨cs, h⟩ := hTy.out b hb; exact ⟨_, cs, h, by decide⟩))
        replace hR := Lib.hid (hR.out.other hsp (fun b hb => by obtain ⟨cs, h⟩ := hTy.out b hb; exact ⟨_, cs, h, by decide⟩))
        replace hoR := own_other hoR.out hsp (fun b hb => by obtain ⟨cs, h⟩ := hTy.out b hb; exact ⟨_, cs, h, by decide⟩)
        replace hF := hF.out.grown hg41 (fun b hb => .inr (by have := (hlo40.out b hb).1; omega))
        replace hsz := Nat.le_trans hsz hsp.size
        clear hsp hTy hk41 hg41 hv41 hoEq hlo40
        simp only [Act.put, List.setIfInBounds_toArray, List.set_cons_zero, List.set_cons_succ]
        have hBa := below_alloc (Below.refl w41.heap.size w41) (.cells (encT w40l) 50)
        have hoRq := hoR.then_ hBa
        have hTy : ∀ b ∈ ownL rA, ∃ cs, Blk (w41.alloc (.cells (encT w40l) 50)) b 50 cs := fun b hb => own_typed hoRq b (mem_ownL.1 hb)
        have hlo40 := hoR.lt
        replace hE := Lib.hid (hE.out.then_ hBa)
        replace hR := Lib.hid (hR.out.then_ hBa)
        replace hO41 := Lib.hid (hO41.then_ hBa)
        replace hF := Lib.hid (hF.then_ hBa)
        replace hsz := Nat.le_trans hsz hBa.size
        replace hTy := Lib.hid hTy
        replace hlo40 := Lib.hid hlo40
        have hNRl : NR.length ≤ 5 := by have := hNR.out; omega
        clear hBa hoR
        go_wp2_with (first | (refine wl_bs_slR rfl _ rfl w40l rfl ?_) | (at_builtin; refine park ?_))
        refine Parked.mk ?_
        refine wl_pushG info_slR Try.underlying69 rfl (by decide) encT_size encT_one (by decide) rfl _ _ rfl ⟨rA, rn, rc⟩ hoRq rfl w41.heap.size rfl w40l (Blk.new _ _ _) (by omega) hsz ?_
        intro r' w42 hn42 hO42 hk42 hg42 hv42
        have hsp : SpF (ownL rA) (w41.alloc (.cells (encT w40l) 50)) w42 := (SpF.refl _ _).grown hg42 (fun b hb => .inl (mem_ownL.2 hb))
        replace hE := Lib.hid (hE.out.other hsp (fun b hb => by obtain ⟨cs, h⟩ := hTy.out b hb; exact ⟨_, cs, h, by decide⟩))
        replace hR := Lib.hid (hR.out.other hsp (fun b hb => by obtain ⟨cs, h⟩ := hTy.out b hb; exact ⟨_, cs, h, by decide⟩))
        replace hO41 := Lib.hid (own_other hO41.out hsp (fun b hb => by obtain ⟨cs, h⟩ := hTy.out b hb; exact ⟨_, cs, h, by decide⟩))
        replace hF := Lib.hid (hF.out.grown hg42 (fun b hb => .inr (by have := (hlo40.out b hb).1; omega)))
        replace hsz := Nat.le_trans hsz hsp.size
        replace hO42 := Lib.hid hO42
        clear hsp hTy hk42 hg42 hv42 hoRq hlo40
        simp only [Act.put, List.setIfInBounds_toArray, List.set_cons_zero, List.set_cons_succ]
        go_wp2_with (fail)
        exact ⟨⟨i + 1, e', r', NE ++ [w38l], NR ++ [w40l], by omega, rfl, rfl, rfl, by rw [List.length_append, hNE.out]; rfl, by rw [List.length_append, hNR.out]; rfl, hF.out, hsz, hO41.out, hO42.out, hE, hR⟩, by simp only [intOf]; omega⟩
      · have hiI : ¬ (i : Int) < 5 := by omega
        have hi5 : i = 5 := by omega
        have h1 := Lib.hid (hNE.trans hi5)
        have h2 := Lib.hid (hNR.trans hi5)
        clear hi5 hNE hNR
        go_wp2_with (fail)
        go_meet
        exact ⟨se, sr, NE, NR, rfl, rfl, h1.out, h2.out, hF, hoE, hoR, hE, hR⟩
  obtain ⟨se, sr, NE, NR, rfl, rfl, hNE, hNR, hF2, hoE, hoR, hE, hR⟩ := hcut
  obtain ⟨w50, rfl⟩ : ∃ y, y = wc := ⟨_, rfl⟩
  obtain ⟨eA, en, ec⟩ := se
  obtain ⟨rA, rn, rc⟩ := sr
  simp only [TS.v] at hoE hoR ⊢
  have hen := (own_len hoE).trans hNE
  have hrn := (own_len hoR).trans hNR
  subst hen hrn
  obtain ⟨gE, capE, hvE, -, -, -, -⟩ := hoE.form (by omega)
  obtain ⟨gR, capR, hvR, -, -, -, -⟩ := hoR.form (by omega)
  injection hvE with hvE1 hvE2 hvE3
  injection hvR with hvR1 hvR2 hvR3
  subst hvE1 hvR1
  clear hvE2 hvE3 hvR2 hvR3
  replace hoE := Lib.hid hoE
  replace hoR := Lib.hid hoR
  replace hNE := Lib.hid hNE
  replace hNR := Lib.hid hNR
  clear hF
  go_upto_block 12 with (fail)
  go_cut [] (fun wx => Below w50.heap.size w50 wx)
  case first =>
    go_wp2_with (fail)
    go_loopw [196] (fun iv wr => ∃ i : Nat, i ≤ 5 ∧ iv = .int .i64 i ∧ Below w50.heap.size w50 wr) (fun iv _ => 5 - (intOf iv).toNat)
    case atStart => exact ⟨0, by omega, rfl, Below.refl _ _⟩
    case round =>
      clear k5 o5 k11 k13 k17c k18c k21 mx my mz hT
      obtain ⟨i, hi, rfl, hBr⟩ := hrel
      by_cases hil : i < 5
      · have hiI : (i : Int) < 5 := by omega
        have him : i < ms.length := by rw [hml.out]; exact hil
        have hiE : i < (ms.map MV.eS).length := by simpa using him
        have hiR : i < (ms.map MV.rS).length := by simpa using him
        have hiN : i < NE.length := by rw [hNE.out]; exact hil
        have hiM : i < NR.length := by rw [hNR.out]; exact hil
        obtain ⟨ba, off, hAe, hba, hr⟩ := hrows.at_ (by omega)
        injection hAe with hAe
        injection hAe with hA1 hA2
        have hrow := (hr i him).keep (w' := wr) (by rw [← hA1]; exact (hBr.block gA (by have := hF2.size; omega)).trans (hF2.block gA hgAl hSA.out))
        rw [← hA1, ← hA2, Nat.zero_add] at hrow
        obtain ⟨hsE, hsR⟩ := hsm.out i him
        have hxE : (ms.map MV.eS)[i] = ms[i].eS := List.getElem_map ..
        have hxR : (ms.map MV.rS)[i] = ms[i].rS := List.getElem_map ..
        have hoEi := (hE.out.old i hiE).then_ hBr
        have hoRi := (hR.out.old i hiR).then_ hBr
        obtain ⟨hln, hoNE, -⟩ := hE.out.new i hiE hiN
        obtain ⟨hlm, hoNR, -⟩ := hR.out.new i hiR hiM
        rw [hxE] at hoEi hln hoNE
        rw [hxR] at hoRi hlm hoNR
        replace hoNE := hoNE.then_ hBr
        replace hoNR := hoNR.then_ hBr
        have hcE : ∀ W, Below w50.heap.size w50 W → W.cell? ⟨gE, i, none⟩ = some NE[i].v := fun W hW => by
          have := (hoE.out.then_ hW).row encT_size i hiN 0 _ rfl
          rw [Nat.mul_one, Nat.add_zero] at this
          exact this
        have hcR : ∀ W, Below w50.heap.size w50 W → W.cell? ⟨gR, i, none⟩ = some NR[i].v := fun W hW => by
          have := (hoR.out.then_ hW).row encT_size i hiM 0 _ rfl
          rw [Nat.mul_one, Nat.add_zero] at this
          exact this
        clear hA1 hA2 hba hr
        obtain ⟨x, hx⟩ : ∃ x, x = ms[i] := ⟨_, rfl⟩
        rw [← hx] at hrow hsE hsR hoEi hoRi hln hlm hoNE hoNR
        obtain ⟨yE, hyE⟩ : ∃ x, x = NE[i] := ⟨_, rfl⟩
        rw [← hyE] at hln hoNE hcE
        obtain ⟨yR, hyR⟩ : ∃ x, x = NR[i] := ⟨_, rfl⟩
        rw [← hyR] at hlm hoNR hcR
        clear hx hyE hyR hxE hxR
        obtain ⟨⟨xs, xEe, xRr⟩, xA, xc, xB, xd⟩ := x
        obtain ⟨lA, ln, lc⟩ := yE
        obtain ⟨rB, rm, rd⟩ := yR
        simp only [MV.C, MV.eS, MV.rS, TS.v] at hrow hsE hsR hoEi hoRi hln hlm hoNE hoNR hcE hcR
        obtain ⟨n, hn⟩ : ∃ y, xEe.length = y := ⟨_, rfl⟩
        obtain ⟨m, hm⟩ : ∃ y, xRr.length = y := ⟨_, rfl⟩
        rw [hn] at hrow hsE hoEi hln hoNE
        rw [hm] at hrow hsR hoRi hlm hoNR
        clear hn hm
        rw [← hln] at hoNE
        rw [← hlm] at hoNR
        have hln2 : ln ≤ 20040 ∧ n ≤ ln := by omega
        have hlm2 : rm ≤ 20040 ∧ m ≤ rm := by omega
        obtain ⟨gl, cl, hvl, -, -, -, -⟩ := hoNE.form (by rw [List.length_replicate]; omega)
        obtain ⟨gr, cr, hvr, -, -, -, -⟩ := hoNR.form (by rw [List.length_replicate]; omega)
        injection hvl with hl1 hl2 hl3
        injection hvr with hr1 hr2 hr3
        subst hl1 hr1
        clear hl2 hl3 hr2 hr3
        replace hln := Lib.hid hln
        replace hlm := Lib.hid hlm
        replace hoEi := Lib.hid hoEi
        replace hoRi := Lib.hid hoRi
        replace hoNE := Lib.hid hoNE
        replace hoNR := Lib.hid hoNR
        have h50 := u32_50 hi
        replace hcR := Lib.hid hcR
        replace hcE := Lib.hid hcE
        go_upto_region 50 with (first | (refine wl_load_nfa_at rfl _ rfl _ _ rfl _ _ _ _ _ _ _ hrow ?_) | (refine wl_store_nfa rfl _ _ rfl _ _ _ _ _ _ _ _ rfl rfl 0 none 0 0 none 0 0 (Blk.new _ _ _) ?_; intro w51 k36 hg36))
        have hB51 := below_grown (below_alloc (Below.refl _ wr) (.cells #[.int .i64 0, .slice none 0 0, .slice none 0 0] 52)) hg36 (Nat.le_refl _)
        replace hBr := below_then hBr hB51
        replace hoEi := Lib.hid (hoEi.out.then_ hB51)
        replace hoRi := Lib.hid (hoRi.out.then_ hB51)
        replace hoNE := Lib.hid (hoNE.out.then_ hB51)
        replace hoNR := Lib.hid (hoNR.out.then_ hB51)
        obtain ⟨g36, hg⟩ : ∃ y, y = wr.heap.size := ⟨_, rfl⟩
        rw [← hg] at k36 ⊢
        have c201 := hcE.out w51 hBr
        clear hg36 hB51 hg hrow
        go_upto_block 14 with (fail)
        clear c201
        go_cut [] (fun wx => Below w51.heap.size w51 wx)
        case first =>
          go_wp2_with (fail)
          go_loopw [206] (fun kv wr => ∃ k : Nat, k ≤ ln ∧ kv = .int .i64 k ∧ Below w51.heap.size w51 wr) (fun kv _ => ln - (intOf kv).toNat)
          case atStart => exact ⟨0, by omega, rfl, Below.refl _ _⟩
          case round =>
            obtain ⟨k, hk, rfl, hBk⟩ := hrel
            by_cases hkn : k < ln
            · have hkI : (k : Int) < ln := by omega
              have hkb : k < 1099511628000 := by omega
              have hr1 : RowAt wr gl (k * 7) (edgC (kE i)) := by
                have := (hoNE.out.then_ hBk).row edgC_size k (by rw [List.length_replicate]; exact hkn)
                rwa [List.getElem_replicate] at this
              go_upto_region 53 with (first | (refine wl_load_edge_at rfl _ rfl _ _ rfl (kE i) hr1 ?_) | (refine wl_store_edge rfl _ _ rfl _ _ rfl rfl edge0 (Blk.new _ _ _) ?_; intro w53 k38 hg38))
              have hB53 := below_grown (below_alloc (Below.refl _ wr) (.cells #[.int .i64 0, .int .i64 0, .int .i64 0, .int .u64 0, .int .u64 0, .int .u64 0, .int .u64 0] 67)) hg38 (Nat.le_refl _)
              replace hBk := below_then hBk hB53
              obtain ⟨g38, hg⟩ : ∃ y, y = wr.heap.size := ⟨_, rfl⟩
              rw [← hg] at k38 ⊢
              have c38 : w53.cell? ⟨g38, 0, none⟩ = some (.int .i64 (50 + (i : Int))) := k38.cellv (i := 0) rfl
              have c36 : w53.cell? ⟨g36, 1, none⟩ = some (.slice xA n xc) := (blk_then k36 hBk).cellv (i := 1) rfl
              clear hg38 hB53 hg hr1
              by_cases hkm : k < n
              · have hmI : decide ((k : Int) < (n : Int)) = true := decide_eq_true (by omega)
                obtain ⟨gx, capx, hvx, -, -, -, -⟩ := hoEi.out.form (by rw [List.length_replicate]; omega)
                injection hvx with hv1 hv2 hv3
                subst hv1
                have cm : w53.cell? ⟨gx, k * 7, none⟩ = some (.int .i64 (50 + (i : Int))) := by
                  have := (hoEi.out.then_ hBk).row edgC_size k (by rw [List.length_replicate]; exact hkm) 0 (.int .i64 (50 + (i : Int))) (by rw [List.getElem_replicate]; rfl)
                  rwa [Nat.add_zero] at this
                clear hv2 hv3
                go_wp2_with (fail)
                exact ⟨⟨k + 1, by omega, rfl, hBk⟩, by simp only [intOf]; omega⟩
              · have hmI : decide ((k : Int) < (n : Int)) = false := decide_eq_false (by omega)
                go_wp2_with (fail)
                exact ⟨⟨k + 1, by omega, rfl, hBk⟩, by simp only [intOf]; omega⟩
            · have hkI : ¬ (k : Int) < ln := by omega
              go_wp2_with (fail)
              go_meet
              exact hBk
        obtain ⟨w54, rfl⟩ : ∃ y, y = wc := ⟨_, rfl⟩
        replace hBr := below_then hBr hcut
        replace hoRi := Lib.hid (hoRi.out.then_ hcut)
        replace hoNR := Lib.hid (hoNR.out.then_ hcut)
        replace k36 := blk_then k36 hcut
        have c236 := hcR.out w54 hBr
        have c36 : w54.cell? ⟨g36, 2, none⟩ = some (.slice xB m xd) := k36.cellv (i := 2) rfl
        clear hcut hoEi hoNE hcE
        go_wp2_with (fail)
        clear c236
        go_loopw [240] (fun kv wr => ∃ k : Nat, k ≤ rm ∧ kv = .int .i64 k ∧ wr = w54) (fun kv _ => rm - (intOf kv).toNat)
        case atStart => exact ⟨0, by omega, rfl, rfl⟩
        case round =>
          obtain ⟨k, hk, rfl, rfl⟩ := hrel
          by_cases hkn : k < rm
          · have hkI : (k : Int) < rm := by omega
            have hkb : k < 1099511628000 := by omega
            have cr : wr.cell? ⟨gr, k, none⟩ = some (.int .u32 ((kR i : Nat) : Int)) := by
              have := hoNR.out.row encR_size k (by rw [List.length_replicate]; exact hkn) 0 (.int .u32 ((kR i : Nat) : Int)) (by rw [List.getElem_replicate]; rfl)
              rwa [Nat.mul_one, Nat.add_zero] at this
            by_cases hkm : k < m
            · have hmI : decide ((k : Int) < (m : Int)) = true := decide_eq_true (by omega)
              obtain ⟨gx, capx, hvx, -, -, -, -⟩ := hoRi.out.form (by rw [List.length_replicate]; omega)
              injection hvx with hv1 hv2 hv3
              subst hv1
              have cm : wr.cell? ⟨gx, k, none⟩ = some (.int .u32 ((kR i : Nat) : Int)) := by
                have := hoRi.out.row encR_size k (by rw [List.length_replicate]; exact hkm) 0 (.int .u32 ((kR i : Nat) : Int)) (by rw [List.getElem_replicate]; rfl)
                rwa [Nat.mul_one, Nat.add_zero] at this
              clear hv2 hv3
              go_wp2_with (fail)
              exact ⟨⟨k + 1, by omega, rfl, by trivial⟩, by simp only [intOf]; omega⟩
            · have hmI : decide ((k : Int) < (m : Int)) = false := decide_eq_false (by omega)
              go_wp2_with (fail)
              exact ⟨⟨k + 1, by omega, rfl, by trivial⟩, by simp only [intOf]; omega⟩
          · have hkI : ¬ (k : Int) < rm := by omega
            go_wp2_with (fail)
            exact ⟨⟨i + 1, by omega, rfl, hBr⟩, by simp only [intOf]; omega⟩
      · have hiI : ¬ (i : Int) < 5 := by omega
        go_wp2_with (fail)
        go_meet
        exact hBr
  have hF := hF2.then_ hcut
  obtain ⟨w60, rfl⟩ : ∃ y, y = wc := ⟨_, rfl⟩
  have hms2 := hms.out
  subst hms2
  obtain ⟨n5, n11, n13, n17, n18, n21, no5, nx, ny, nz, hSlo⟩ := hnot.out
  have aE : Own w60 w1.heap.size 67 7 edgC xa.eS.v (List.replicate xa.F.E.length (kE 0)) := (hE.out.old 0 (by simp)).then_ hcut
  have aR : Own w60 w1.heap.size 57 1 encR xa.rS.v (List.replicate xa.F.R.length (kR 0)) := (hR.out.old 0 (by simp)).then_ hcut
  have bE : Own w60 w1.heap.size 67 7 edgC xb.eS.v (List.replicate xb.F.E.length (kE 1)) := (hE.out.old 1 (by simp)).then_ hcut
  have bR : Own w60 w1.heap.size 57 1 encR xb.rS.v (List.replicate xb.F.R.length (kR 1)) := (hR.out.old 1 (by simp)).then_ hcut
  have abE : ∀ g, xb.eS.v.ownBlock = some g → xa.eS.v.ownBlock ≠ some g := fun g h1 h2 => sepE.out 0 1 (by simp) (by simp) (by decide) g (mem_ownL.2 h2) (mem_ownL.2 h1)
  have abR : ∀ g, xb.rS.v.ownBlock = some g → xa.rS.v.ownBlock ≠ some g := fun g h1 h2 => sepR.out 0 1 (by simp) (by simp) (by decide) g (mem_ownL.2 h2) (mem_ownL.2 h1)
  have baE : ∀ g, xa.eS.v.ownBlock = some g → xb.eS.v.ownBlock ≠ some g := fun g h1 h2 => abE g h2 h1
  have baR : ∀ g, xa.rS.v.ownBlock = some g → xb.rS.v.ownBlock ≠ some g := fun g h1 h2 => abR g h2 h1
  have sAE : ∀ g, xa.eS.v.ownBlock = some g → g ∈ S := fun g h => (hSm.out 0 (by simp)).1 g (mem_ownL.2 h)
  have sAR : ∀ g, xa.rS.v.ownBlock = some g → g ∈ S := fun g h => (hSm.out 0 (by simp)).2 g (mem_ownL.2 h)
  have sBE : ∀ g, xb.eS.v.ownBlock = some g → g ∈ S := fun g h => (hSm.out 1 (by simp)).1 g (mem_ownL.2 h)
  have sBR : ∀ g, xb.rS.v.ownBlock = some g → g ∈ S := fun g h => (hSm.out 1 (by simp)).2 g (mem_ownL.2 h)
  have hsz60 : w14.heap.size ≤ w60.heap.size := hF.size
  replace k5 := blk_sp k5 n5 hF
  replace o5 := o5.sp no5 hF
  replace k11 := blk_sp k11 n11 hF
  replace k13 := blk_sp k13 n13 hF
  replace k17c := blk_sp k17c n17 hF
  replace k18c := blk_sp k18c n18 hF
  replace k21 := blk_sp k21 n21 hF
  replace mx := mx.spf hF nx
  replace my := my.spf hF ny
  replace mz := mz.spf hF nz
  replace hT := hT.trans (hF.below (N := w.heap.size) hSlo (by have := hq.out; omega))
  have lxa : xa.F.E.length = xx.F.E.length ∧ xa.F.R.length = xx.F.R.length := by rw [hFa.out, hFx.out]; exact ⟨rfl, rfl⟩
  have lxb : xb.F.E.length = xy.F.E.length ∧ xb.F.R.length = xy.F.R.length := by rw [hFb.out, hFy.out]; exact ⟨rfl, rfl⟩
  have hS11 := Lib.hid (fun b hb => (hSlt.out b hb).1)
  have hsq := Lib.hid (show w11.heap.size ≤ w60.heap.size by have := hq.out; omega)
  replace n5 := Lib.hid n5
  replace n11 := Lib.hid n11
  replace n13 := Lib.hid n13
  replace n17 := Lib.hid n17
  replace n18 := Lib.hid n18
  replace n21 := Lib.hid n21
  replace no5 := Lib.hid no5
  replace nx := Lib.hid nx
  replace ny := Lib.hid ny
  replace nz := Lib.hid nz
  replace hSlo := Lib.hid hSlo
  replace abE := Lib.hid abE
  replace abR := Lib.hid abR
  replace baE := Lib.hid baE
  replace baR := Lib.hid baR
  replace sAE := Lib.hid sAE
  replace sAR := Lib.hid sAR
  replace sBE := Lib.hid sBE
  replace sBR := Lib.hid sBR
  replace lxa := Lib.hid lxa
  replace lxb := Lib.hid lxb
  clear hcut hF hF2 hE hR hoE hoR hNE hNR hrows hF1E hF1R hsm hml hSt hSm hSlt hnot hms sepE sepR hxy hgAl hSA
  have kA1 := kA.out w60 o5
  go_upto_region 64 with (first
    | (refine wl_load_nv rfl _ rfl g5 rfl x5 k5 ?_)
    | (go_at_call 28; refine kA1.mono ?_; rintro en wpe ⟨hBp, xe, hFe, rfl, hMO⟩)
    | (refine wl_store_mv rfl _ _ rfl _ xe rfl rfl _ rfl (Blk.new _ _ _) ?_; intro w61 k41 hg))
  have hBb := below_alloc (Below.refl wpe.heap.size wpe) (.cells #[.int .i64 0, .slice none 0 0, .slice none 0 0] 52)
  have hBn := below_then hBp (below_grown hBb hg (Nat.le_refl _))
  have me := (hMO.then_ hBb).box (Blk.new _ _ _) hg
  replace k11 := blk_then k11 hBn
  replace k13 := blk_then k13 hBn
  replace k17c := blk_then k17c hBn
  replace k18c := blk_then k18c hBn
  replace k21 := blk_then k21 hBn
  replace mx := mx.then_ hBn
  replace my := my.then_ hBn
  replace mz := mz.then_ hBn
  replace aE := aE.then_ hBn
  replace aR := aR.then_ hBn
  replace bE := bE.then_ hBn
  replace bR := bR.then_ hBn
  obtain ⟨g41, hge⟩ : ∃ y, y = wpe.heap.size := ⟨_, rfl⟩
  have hse := Lib.hid (show w60.heap.size ≤ g41 ∧ g41 < w61.heap.size ∧ (∀ b, (xe.eS.v.ownBlock = some b ∨ xe.rS.v.ownBlock = some b) → w60.heap.size ≤ b ∧ b < g41) from ⟨by have := hBp.size; omega, by have := k41.lt; omega, fun b hb => by rw [hge]; exact MO.rng hMO b hb⟩)
  rw [← hge] at k41 ⊢
  replace hT := below_then hT hBn
  clear hBp hMO hg hBb hBn hge
  clear kA1 kA k5 o5
  have hAl : Below w61.heap.size w61 (w61.alloc (.cells (xx.mv.C ++ xy.mv.C) 52)) := below_alloc (Below.refl _ _) _
  have kU1 := kU.out xx.mv xy.mv hFx.out hFy.out _ w61.heap.size 2 (Blk.new w61 52 (xx.mv.C ++ xy.mv.C)) (mx.then_ hAl).two (my.then_ hAl).two
  have l1 := k17c
  have l2 := k18c
  go_upto_region 65 with (first
    | (refine wl_load_mv rfl _ rfl g17 rfl xx.mv l1 ?_; clear l1)
    | (refine wl_load_mv rfl _ rfl g18 rfl xy.mv l2 ?_; clear l2)
    | (refine wl_bs_mv2 rfl (.tmp 276) (.tmp 277) rfl xx.mv xy.mv (by kernel_rfl) (by kernel_rfl) ?_)
    | (go_at_call 33; refine kU1.mono ?_; rintro en wpf ⟨hBp, xf, hFf, rfl, hMO⟩)
    | (refine wl_store_mv rfl _ _ rfl _ xf rfl rfl _ rfl (Blk.new _ _ _) ?_; intro w62 k43 hg))
  have hBb := below_alloc (Below.refl wpf.heap.size wpf) (.cells #[.int .i64 0, .slice none 0 0, .slice none 0 0] 52)
  have hBn := below_then hAl (below_then hBp (below_grown hBb hg (Nat.le_refl _)))
  have mf := ((hMO.then_ hBb).box (Blk.new _ _ _) hg).mono hAl.size
  replace k11 := blk_then k11 hBn
  replace k13 := blk_then k13 hBn
  replace k17c := blk_then k17c hBn
  replace k18c := blk_then k18c hBn
  replace k21 := blk_then k21 hBn
  replace mx := mx.then_ hBn
  replace my := my.then_ hBn
  replace mz := mz.then_ hBn
  replace aE := aE.then_ hBn
  replace aR := aR.then_ hBn
  replace bE := bE.then_ hBn
  replace bR := bR.then_ hBn
  replace k41 := blk_then k41 hBn
  replace me := me.then_ hBn
  obtain ⟨g43, hge⟩ : ∃ y, y = wpf.heap.size := ⟨_, rfl⟩
  have hsf := Lib.hid (show w61.heap.size ≤ g43 ∧ g43 < w62.heap.size ∧ (∀ b, (xf.eS.v.ownBlock = some b ∨ xf.rS.v.ownBlock = some b) → w61.heap.size ≤ b ∧ b < g43) from ⟨by have := hBp.size; have := hAl.size; omega, by have := k43.lt; omega, fun b hb => by have := MO.rng hMO b hb; have := hAl.size; omega⟩)
  rw [← hge] at k43 ⊢
  replace hT := below_then hT hBn
  clear hAl kU1 hBp hMO hg hBb hBn hge
  have ne : ∀ b, (xe.eS.v.ownBlock = some b ∨ xe.rS.v.ownBlock = some b) → b ∉ S := fun b h hb => by
    have := hse.out.2.2 b h; have := hS11.out b hb; have := hsq.out; omega
  have nf : ∀ b, (xf.eS.v.ownBlock = some b ∨ xf.rS.v.ownBlock = some b) → b ∉ S := fun b h hb => by
    have := hsf.out.2.2 b h; have := hse.out; have := hS11.out b hb; have := hsq.out; omega
  have n41 : g41 ∉ S := fun hb => by
    have := hse.out; have := hS11.out g41 hb; have := hsq.out; omega
  have n43 : g43 ∉ S := fun hb => by
    have := hsf.out; have := hse.out; have := hS11.out g43 hb; have := hsq.out; omega
  replace ne := Lib.hid ne
  replace nf := Lib.hid nf
  replace n41 := Lib.hid n41
  replace n43 := Lib.hid n43
  clear hse hsf
  have cd : w62.cell? ⟨g11, 1, none⟩ = some xa.eS.v := k11.cellv (i := 1) rfl
  have cs : w62.cell? ⟨g17, 1, none⟩ = some xx.mv.eS.v := k17c.cellv (i := 1) rfl
  simp only [MV.eS, MV.rS, TS.v, CP.mv] at cd cs
  go_upto_region 66 with (refine wl_copyG info_edge Try.underlying49 edgC_size edgC_one rfl (.tmp 283) (.tmp 285) rfl xa.eS aE (by kernel_rfl) xx.ge xx.ce xx.F.E (by kernel_rfl) mx.rowsE (by rw [List.length_replicate]; exact lxa.out.1) ?_; intro w63 hcx hgc)
  clear cd cs
  have hsp : SpF S w62 w63 := (SpF.refl _ _).grown hgc (fun b hb => .inl (sAE.out b hb))
  replace aR := own_own aR aE hgc (by decide)
  replace bE := own_row bE hgc (fun g h => abE.out g h)
  replace bR := own_own bR aE hgc (by decide)
  replace aE := hcx
  clear hcx
  replace k11 := blk_sp k11 n11.out hsp
  replace k13 := blk_sp k13 n13.out hsp
  replace k17c := blk_sp k17c n17.out hsp
  replace k18c := blk_sp k18c n18.out hsp
  replace k21 := blk_sp k21 n21.out hsp
  replace k41 := blk_sp k41 n41.out hsp
  replace k43 := blk_sp k43 n43.out hsp
  replace mx := mx.spf hsp nx.out
  replace my := my.spf hsp ny.out
  replace mz := mz.spf hsp nz.out
  replace me := me.spf hsp ne.out
  replace mf := mf.spf hsp nf.out
  replace hT := hT.trans (hsp.below (N := w.heap.size) hSlo.out hT.size)
  clear hsp hgc
  have cd : w63.cell? ⟨g11, 2, none⟩ = some xa.rS.v := k11.cellv (i := 2) rfl
  have cs : w63.cell? ⟨g17, 2, none⟩ = some xx.mv.rS.v := k17c.cellv (i := 2) rfl
  simp only [MV.eS, MV.rS, TS.v, CP.mv] at cd cs
  go_upto_region 67 with (refine wl_copyG info_u32 Try.underlying50 encR_size encR_one rfl (.tmp 288) (.tmp 290) rfl xa.rS aR (by kernel_rfl) xx.gu xx.cu xx.F.R (by kernel_rfl) mx.rowsR (by rw [List.length_replicate]; exact lxa.out.2) ?_; intro w64 hcx hgc)
  clear cd cs
  have hsp : SpF S w63 w64 := (SpF.refl _ _).grown hgc (fun b hb => .inl (sAR.out b hb))
  replace aE := own_own aE aR hgc (by decide)
  replace bE := own_own bE aR hgc (by decide)
  replace bR := own_row bR hgc (fun g h => abR.out g h)
  replace aR := hcx
  clear hcx
  replace k11 := blk_sp k11 n11.out hsp
  replace k13 := blk_sp k13 n13.out hsp
  replace k17c := blk_sp k17c n17.out hsp
  replace k18c := blk_sp k18c n18.out hsp
  replace k21 := blk_sp k21 n21.out hsp
  replace k41 := blk_sp k41 n41.out hsp
  replace k43 := blk_sp k43 n43.out hsp
  replace mx := mx.spf hsp nx.out
  replace my := my.spf hsp ny.out
  replace mz := mz.spf hsp nz.out
  replace me := me.spf hsp ne.out
  replace mf := mf.spf hsp nf.out
  replace hT := hT.trans (hsp.below (N := w.heap.size) hSlo.out hT.size)
  clear hsp hgc
  have cd : w64.cell? ⟨g13, 1, none⟩ = some xb.eS.v := k13.cellv (i := 1) rfl
  have cs : w64.cell? ⟨g18, 1, none⟩ = some xy.mv.eS.v := k18c.cellv (i := 1) rfl
  simp only [MV.eS, MV.rS, TS.v, CP.mv] at cd cs
  go_upto_region 68 with (refine wl_copyG info_edge Try.underlying49 edgC_size edgC_one rfl (.tmp 293) (.tmp 295) rfl xb.eS bE (by kernel_rfl) xy.ge xy.ce xy.F.E (by kernel_rfl) my.rowsE (by rw [List.length_replicate]; exact lxb.out.1) ?_; intro w65 hcx hgc)
  clear cd cs
  have hsp : SpF S w64 w65 := (SpF.refl _ _).grown hgc (fun b hb => .inl (sBE.out b hb))
  replace aE := own_row aE hgc (fun g h => baE.out g h)
  replace aR := own_own aR bE hgc (by decide)
  replace bR := own_own bR bE hgc (by decide)
  replace bE := hcx
  clear hcx
  replace k11 := blk_sp k11 n11.out hsp
  replace k13 := blk_sp k13 n13.out hsp
  replace k17c := blk_sp k17c n17.out hsp
  replace k18c := blk_sp k18c n18.out hsp
  replace k21 := blk_sp k21 n21.out hsp
  replace k41 := blk_sp k41 n41.out hsp
  replace k43 := blk_sp k43 n43.out hsp
  replace mx := mx.spf hsp nx.out
  replace my := my.spf hsp ny.out
  replace mz := mz.spf hsp nz.out
  replace me := me.spf hsp ne.out
  replace mf := mf.spf hsp nf.out
  replace hT := hT.trans (hsp.below (N := w.heap.size) hSlo.out hT.size)
  clear hsp hgc
  have cd : w65.cell? ⟨g13, 2, none⟩ = some xb.rS.v := k13.cellv (i := 2) rfl
  have cs : w65.cell? ⟨g18, 2, none⟩ = some xy.mv.rS.v := k18c.cellv (i := 2) rfl
  simp only [MV.eS, MV.rS, TS.v, CP.mv] at cd cs
  go_upto_region 69 with (refine wl_copyG info_u32 Try.underlying50 encR_size encR_one rfl (.tmp 298) (.tmp 300) rfl xb.rS bR (by kernel_rfl) xy.gu xy.cu xy.F.R (by kernel_rfl) my.rowsR (by rw [List.length_replicate]; exact lxb.out.2) ?_; intro w66 hcx hgc)
  clear cd cs
  have hsp : SpF S w65 w66 := (SpF.refl _ _).grown hgc (fun b hb => .inl (sBR.out b hb))
  replace aE := own_own aE bR hgc (by decide)
  replace aR := own_row aR hgc (fun g h => baR.out g h)
  replace bE := own_own bE bR hgc (by decide)
  replace bR := hcx
  clear hcx
  replace k11 := blk_sp k11 n11.out hsp
  replace k13 := blk_sp k13 n13.out hsp
  replace k17c := blk_sp k17c n17.out hsp
  replace k18c := blk_sp k18c n18.out hsp
  replace k21 := blk_sp k21 n21.out hsp
  replace k41 := blk_sp k41 n41.out hsp
  replace k43 := blk_sp k43 n43.out hsp
  replace mx := mx.spf hsp nx.out
  replace my := my.spf hsp ny.out
  replace mz := mz.spf hsp nz.out
  replace me := me.spf hsp ne.out
  replace mf := mf.spf hsp nf.out
  replace hT := hT.trans (hsp.below (N := w.heap.size) hSlo.out hT.size)
  clear hsp hgc
  have exa : xx.F = xa.F := hFx.out.trans hFa.out.symm
  have exb : xy.F = xb.F := hFy.out.trans hFb.out.symm
  rw [exa] at aE aR
  rw [exb] at bE bR
  have ma : MO w66 w1.heap.size xa := ⟨aE, aR⟩
  have mb : MO w66 w1.heap.size xb := ⟨bE, bR⟩
  clear aE aR bE bR exa exb abE abR baE baR sAE sAR sBE sBR lxa lxb k18c my ny n18 n11 n13 nx nz ne nf n17 n21 n41 n43
  have hAl : Below w66.heap.size w66 (w66.alloc (.cells (xa.C ++ xb.C) 52)) := below_alloc (Below.refl _ _) _
  have kU1 := kU.out xa xb hFa.out hFb.out _ w66.heap.size 2 (Blk.new w66 52 (xa.C ++ xb.C)) (ma.then_ hAl).rd (mb.then_ hAl).rd
  have l1 := k11
  have l2 := k13
  go_upto_region 70 with (first
    | (refine wl_load_mv rfl _ rfl g11 rfl xa l1 ?_; clear l1)
    | (refine wl_load_mv rfl _ rfl g13 rfl xb l2 ?_; clear l2)
    | (refine wl_bs_mv2 rfl (.tmp 303) (.tmp 304) rfl xa xb (by kernel_rfl) (by kernel_rfl) ?_)
    | (go_at_call 33; refine kU1.mono ?_; rintro en wph ⟨hBp, xh, hFh, rfl, hMO⟩)
    | (refine wl_store_mv rfl _ _ rfl _ xh rfl rfl _ rfl (Blk.new _ _ _) ?_; intro w67 k45 hg))
  have hBb := below_alloc (Below.refl wph.heap.size wph) (.cells #[.int .i64 0, .slice none 0 0, .slice none 0 0] 52)
  have hBn := below_then hAl (below_then hBp (below_grown hBb hg (Nat.le_refl _)))
  have mh := ((hMO.then_ hBb).box (Blk.new _ _ _) hg).mono hAl.size
  replace k17c := blk_then k17c hBn
  replace k21 := blk_then k21 hBn
  replace mx := mx.then_ hBn
  replace mz := mz.then_ hBn
  replace me := me.then_ hBn
  replace mf := mf.then_ hBn
  replace k41 := blk_then k41 hBn
  replace k43 := blk_then k43 hBn
  obtain ⟨g45, hge⟩ : ∃ y, y = wph.heap.size := ⟨_, rfl⟩
  have hsh := Lib.hid (show w66.heap.size ≤ g45 ∧ g45 < w67.heap.size ∧ (∀ b, (xh.eS.v.ownBlock = some b ∨ xh.rS.v.ownBlock = some b) → w66.heap.size ≤ b ∧ b < g45) from ⟨by have := hBp.size; have := hAl.size; omega, by have := k45.lt; omega, fun b hb => by have := MO.rng hMO b hb; have := hAl.size; omega⟩)
  rw [← hge] at k45 ⊢
  replace hT := below_then hT hBn
  clear hAl kU1 hBp hMO hg hBb hBn hge
  have kK1 := kept_mo xx xe (by rw [hFx.out, hFe]) (by rw [hFe]; exact okA.out) w67 mx me.rd
  have kK2 := fun W (hW : Below w67.heap.size w67 W) => kept_mo xz xf (by rw [hFz.out, hFf]) (by rw [hFf]; exact okU.out) W (mz.then_ hW) (mf.then_ hW).rd
  have kK3 := fun W (hW : Below w67.heap.size w67 W) => kept_mo xz xh (by rw [hFz.out, hFh]) (by rw [hFh]; exact okU.out) W (mz.then_ hW) (mh.then_ hW).rd
  have k21' := fun W (hW : Below w67.heap.size w67 W) => blk_then k21 hW
  have k43' := fun W (hW : Below w67.heap.size w67 W) => blk_then k43 hW
  have k45' := fun W (hW : Below w67.heap.size w67 W) => blk_then k45 hW
  replace kK1 := Lib.hid kK1
  replace kK2 := Lib.hid kK2
  replace kK3 := Lib.hid kK3
  replace k21' := Lib.hid k21'
  replace k43' := Lib.hid k43'
  replace k45' := Lib.hid k45'
  have l1 := k17c
  have l2 := k41
  clear k11 k13 k17c k21 k41 k43 k45 mx mz me mf mh ma mb hsh hFa hFb hFx hFy hFz hFe hFf hFh
  go_wp2_with (first
    | (refine wl_load_mv rfl _ rfl g17 rfl xx.mv l1 ?_; clear l1)
    | (refine wl_load_mv rfl _ rfl g41 rfl xe l2 ?_; clear l2)
    | (go_at_call 35; refine kK1.out.mono ?_; clear kK1; rintro en w68 ⟨rfl, hB68⟩; have l3 := k21'.out _ hB68; have l4 := k43'.out _ hB68)
    | (refine wl_load_mv_g (want_yes rfl rfl rfl) _ rfl g21 rfl xz.mv l3 ?_; clear l3)
    | (refine wl_load_mv_g (want_yes rfl rfl rfl) _ rfl g43 rfl xf l4 ?_; clear l4)
    | (go_at_call 35; refine (kK2.out _ hB68).mono ?_; clear kK2; rintro en w69 ⟨rfl, hB69⟩; have hB689 := below_then hB68 hB69; have l5 := k21'.out _ hB689; have l6 := k45'.out _ hB689)
    | (refine wl_load_mv_g (want_yes rfl rfl rfl) _ rfl g21 rfl xz.mv l5 ?_; clear l5)
    | (refine wl_load_mv_g (want_yes rfl rfl rfl) _ rfl g45 rfl xh l6 ?_; clear l6)
    | (go_at_call 35; refine (kK3.out _ hB689).mono ?_; clear kK3; rintro en w70 ⟨rfl, hB70⟩))
  go_ret
  exact ⟨rfl, below_then hT (below_then hB689 hB70)⟩
end Go.Proofs.Ytajainmldcnaeaa
