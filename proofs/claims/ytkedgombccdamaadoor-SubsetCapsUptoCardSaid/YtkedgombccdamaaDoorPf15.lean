/- Part 15 of a proof; packed: the texts that it was made of follow one another. No condition beyond those named in each lemma. -/
import Derived.Test.YtkedgombccdamaaDoorPf1
import Derived.Test.YtkedgombccdamaaDoorPf14
import Derived.Test.YtkedgombccdamaaDoorPf2
import Derived.Test.YtkedgombccdamaaDoorPf6
import Derived.Test.YtkedgombccdamaaDoorPf9
import Derived.Test.YtkedgombccdamaaDoorRows
import Derived.JoinedCond
import Derived.LaidMore
import Derived.Lib.LaidTab
import Derived.Lib.SmallJoins
import Derived.OpenShut
import Derived.ProofKit
import Derived.Shelf.Vars
import Derived.WalkKit
namespace Go.Proofs.YtkedgombccdamaaDoor
open Go.RowKit Go.Shelf Go.Maps
set_option linter.unusedVariables false
set_option linter.unusedSimpArgs false
attribute [local go_sem] Oper.semAt_some
set_option maxRecDepth 100000 in
set_option maxHeartbeats 8000000 in
theorem subsetCaps_any (Ap : Option Addr) (np cp : Nat) (ps : List ByteArray) (hnp : np = ps.length) (hnp2 : np ≤ 1048576) (hcp : np ≤ cp) (st : Int) (w : World) (hM : Mx w) (hps : SliceOf w w.heap.size 1 encStr Ap ps) :
    Calls Tryd.prog 5 #[.slice Ap np cp, .int .i64 st] w fun e w' => e = .returned (.bool true) ∧ Below w.heap.size w w' := by
  have kM := machine_any Ap np cp ps hnp hnp2 hcp w hM hps
  clear hnp hnp2 hcp hM hps
  go_enter Tryd.func5, Tryd.ntmps5
  go_upto_region 1 with (fail)
  go_upto_region 2 with (first
    | (go_at_call 26; refine kM.mono ?_; clear kM; rintro e w1 ⟨hR, hB1⟩; unfold MRes at hR; obtain ⟨x, ok, rfl, hok⟩ := hR; unfold MV.C)
    | (refine wl_store_nfa rfl _ _ rfl w1.heap.size _ _ _ _ _ _ _ rfl rfl _ _ _ _ _ _ _ (Blk.new _ _ _) ?_; intro w2 h5 hg5))
  have hBg := below_grown (below_alloc (Below.refl w1.heap.size w1) (.cells #[.int .i64 0, .slice none 0 0, .slice none 0 0] 25)) hg5 (Nat.le_refl _)
  obtain ⟨g5, hg5e⟩ : ∃ y, y = w1.heap.size := ⟨_, rfl⟩
  rw [← hg5e] at h5 ⊢
  have hB2 := below_then hB1 hBg
  have Hok : Hid (ok = true → MachOut w2 w.heap.size x) := Lib.hid (fun h => by
    obtain ⟨a, b, c, d⟩ := hok h
    exact ⟨a, b, c, d.then_ hBg⟩)
  clear hg5 hg5e hBg hB1 hok
  try simp only [Act.put]
  go_upto_region 4 with (go_at_call 7; refine (known10_any w2).mono ?_; rintro e w3 ⟨rfl, hB3⟩)
  replace h5 := blk_then h5 hB3
  replace hB2 := below_then hB2 hB3
  cases ok with
  | false =>
    go_wp2_with (fail)
    go_ret
    exact ⟨rfl, hB2⟩
  | true =>
    have hx := Hok.out rfl
    have hx3 : MachOut w3 w.heap.size x := by
      obtain ⟨a, b, c, d⟩ := hx
      exact ⟨a, b, c, d.then_ hB3⟩
    clear hB3 hx Hok
    have Hx := Lib.hid hx3
    clear hx3
    have kB : ∀ (m : Int) (W : World), Below w3.heap.size w3 W → Calls Tryd.prog 10 #[.agg (nfaC x.F.s x.A x.F.E.length x.c x.B x.F.R.length x.d), .int .i64 m] W fun e w' => KRes x.F m e w' ∧ Below W.heap.size W w' := fun m W hW => kb_any Hx.out hW m
    have k1 := kB 200 w3 (Below.refl _ _)
    go_upto_region 7 with (first
      | (refine wpList_load_row rfl _ _ rfl _ rfl _ _ _ _ h5 Tryd.underlying25 rfl (info_nfa3.trans rfl) ?_)
      | (go_at_call 10; refine k1.mono ?_; clear k1; rintro e w4 ⟨hD, hBb⟩; obtain ⟨d, kd, rfl, hTd, hAd⟩ := hD; unfold TV.C'; have hzc := Blk.new w4 33 Tryd.zeroCells33; rw [zero_cells_dfa] at hzc)
      | (rw [zero_cells_dfa]; refine wl_store_dfa rfl _ _ rfl w4.heap.size rfl rfl hzc ?_; intro w5 h7 hgg))
    have hBg := below_grown (below_alloc (Below.refl w4.heap.size w4) (.cells (dfaC (fun _ => 0) none 0 0 none 0 0 none 0 0) 33)) hgg (Nat.le_refl _)
    obtain ⟨g7, hge⟩ : ∃ y, y = w4.heap.size := ⟨_, rfl⟩
    rw [← hge] at h7 ⊢
    replace hTd := hTd.then_ hBg
    have hBn := below_then hBb hBg
    clear hzc hgg hBb hBg hge
    try simp only [Act.put]
    replace h5 := blk_then h5 hBn
    have hB35 := hBn
    replace hB2 := below_then hB2 hBn
    clear hBn
    have HTd := Lib.hid hTd
    clear hTd
    rcases hAd with ⟨hk0, hAd⟩ | ⟨hk0, hAd, hdz⟩
    · subst hk0
      obtain ⟨n, hn, hnle, hdT⟩ := hAd
      have hn200 : n ≤ 200 := by omega
      have hn1 : 1 ≤ n := done_pos hn
      have hnl := nx_len hn hdT
      have hfe := fo_len hn (by omega) hdT
      have hfit : fitsB d.T = true := by rw [hdT]; exact fitsB_Q (by omega) hn
      have hDC : d.C' = (dfaC d.f d.A n d.c d.B d.fo.length d.d d.C d.en.length d.e) := by unfold TV.C'; rw [hnl]
      rw [hnl] at h7 ⊢
      have hRd : ∀ W : World, Below w5.heap.size w5 W → Calls Tryd.prog 15 #[.agg (dfaC d.f d.A n d.c d.B d.fo.length d.d d.C d.en.length d.e)] W fun e w' => e = .returned (.bool true) ∧ Below W.heap.size W w' := fun W hW => by
        have h9 := s_right_any d W (HTd.out.then_ hW)
        rw [hfit, hDC] at h9
        exact h9
      have Hd := Lib.hid (And.intro hn (And.intro hdT (And.intro hnl (And.intro hfe hDC))))
      have cN : w5.cell? ⟨g7, 256, none⟩ = some (.slice d.A n d.c) := blk_d1 h7
      clear hn hdT hnl hfe hfit hDC hnle
      go_upto_region 12 with (go_at_call 27; refine (num10_same _ _).mono ?_; rintro e wn ⟨rfl, hwn⟩; subst hwn)
      clear cN
      refine wp_region_text 16 [eqS (.int .i64 (0)), eqS (.int .i64 (0)), eqS (.bool false), eqS (.bool false), eqS (vF (true && (false == false)) (.int .i64 (((n : Nat) : Int)))), eqS (vF (true && (false == false)) (.bool false)), eqS (.bool (false || false)), eqS (.bool (false || false)), eqS (vF (true && ((false || false) == false)) (.int .i64 (((n : Nat) : Int)))), eqS (vF (true && ((false || false) == false)) (.bool false)), eqS (.bool ((false || false) || false)), eqS (.bool ((false || false) || false)), eqS (vF (true && (((false || false) || false) == false)) (.agg (dfaC d.f d.A n d.c d.B d.fo.length d.d d.C d.en.length d.e))), eqS (vF (true && (((false || false) || false) == false)) (.bool true)), eqS (vF (true && (((false || false) || false) == false)) (.bool (!true))), eqS (.bool (((false || false) || false) || (!true)))] [67, 68, 69, 70, 71, 72, 73, 74, 75, 76, 77, 78, 79, 80, 81, 82] (by kernel_rfl) (by kernel_rfl) ?_ ?_
      · skip
        refine Steps.cons (fun a' w' hG hB dep => gs_move (want_none rfl) _ rfl (id (hG.other 8 rfl))) ?_
        refine Steps.cons (fun a' w' hG hB dep => gs_call (want_none rfl) _ _ _ rfl enter_num10 _ (map1 (dep 0 rfl 67 rfl)) ((num10_any _ _).mono fun e w2 ⟨hq9, hb9⟩ => ⟨_, hq9, hb9, rfl⟩)) ?_
        refine Steps.cons (fun a' w' hG hB dep => gs_neq_int (want_none rfl) _ _ _ _ rfl _ _ _ (dep 1 rfl 68 rfl) rfl (id (congrArg Value.bool rfl))) ?_
        refine Steps.cons (fun a' w' hG hB dep => gs_move (want_none rfl) _ rfl (id (dep 2 rfl 69 rfl))) ?_
        refine Steps.cons (fun a' w' hG hB dep => gs_guard (c := true) (b' := false) rfl rfl (dep 3 rfl 70 rfl) (fun hc he hw => gs_move hw _ rfl (Eq.trans (hG.other 13 rfl) (vF_yes (on_g hc he) _).symm)) (fun hn => vF_no hn _)) ?_
        refine Steps.cons (fun a' w' hG hB dep => gs_guard (c := true) (b' := false) rfl rfl (dep 3 rfl 70 rfl) (fun hc he hw => gs_lss_int hw _ _ _ _ rfl _ _ _ (Eq.trans (dep 4 rfl 71 rfl) (vF_yes (on_g hc he) _)) rfl (Eq.trans (congrArg Value.bool (decide_eq_false (by omega))) (vF_yes (on_g hc he) _).symm)) (fun hn => vF_no hn _)) ?_
        refine Steps.cons (fun a' w' hG hB dep => gs_pick (want_none rfl) _ _ _ rfl false (dep 3 rfl 70 rfl) (id (pick_or2 (c := true) rfl (dep 5 rfl 72 rfl)))) ?_
        refine Steps.cons (fun a' w' hG hB dep => gs_move (want_none rfl) _ rfl (id (dep 6 rfl 73 rfl))) ?_
        refine Steps.cons (fun a' w' hG hB dep => gs_guard (c := true) (b' := (false || false)) rfl rfl (dep 7 rfl 74 rfl) (fun hc he hw => gs_move hw _ rfl (Eq.trans (hG.other 13 rfl) (vF_yes (on_g hc he) _).symm)) (fun hn => vF_no hn _)) ?_
        refine Steps.cons (fun a' w' hG hB dep => gs_guard (c := true) (b' := (false || false)) rfl rfl (dep 7 rfl 74 rfl) (fun hc he hw => gs_gtr_int hw _ _ _ _ rfl _ _ _ (Eq.trans (dep 8 rfl 75 rfl) (vF_yes (on_g hc he) _)) rfl (Eq.trans (congrArg Value.bool (decide_eq_false (by omega))) (vF_yes (on_g hc he) _).symm)) (fun hn => vF_no hn _)) ?_
        refine Steps.cons (fun a' w' hG hB dep => gs_pick (want_none rfl) _ _ _ rfl (false || false) (dep 7 rfl 74 rfl) (id (pick_or2 (c := true) rfl (dep 9 rfl 76 rfl)))) ?_
        refine Steps.cons (fun a' w' hG hB dep => gs_move (want_none rfl) _ rfl (id (dep 10 rfl 77 rfl))) ?_
        refine Steps.cons (fun a' w' hG hB dep => gs_guard (c := true) (b' := ((false || false) || false)) rfl rfl (dep 11 rfl 78 rfl) (fun hc he hw => gs_load_dfa hw _ rfl g7 (hG.other 7 rfl) (blk_then h7 hB) (vF_yes (on_g hc he) _).symm) (fun hn => vF_no hn _)) ?_
        refine Steps.cons (fun a' w' hG hB dep => gs_guard (c := true) (b' := ((false || false) || false)) rfl rfl (dep 11 rfl 78 rfl) (fun hc he hw => gs_call hw _ _ _ rfl enter_sright _ (map1 (Eq.trans (dep 12 rfl 79 rfl) (vF_yes (on_g hc he) _))) ((hRd _ hB).mono fun e w2 ⟨hq9, hb9⟩ => ⟨_, hq9, hb9, (vF_yes (on_g hc he) _).symm⟩)) (fun hn => vF_no hn _)) ?_
        refine Steps.cons (fun a' w' hG hB dep => gs_guard (c := true) (b' := ((false || false) || false)) rfl rfl (dep 11 rfl 78 rfl) (fun hc he hw => gs_not_bool hw _ _ rfl _ (Eq.trans (dep 13 rfl 80 rfl) (vF_yes (on_g hc he) _)) (vF_yes (on_g hc he) _).symm) (fun hn => vF_no hn _)) ?_
        refine Steps.cons (fun a' w' hG hB dep => gs_pick (want_none rfl) _ _ _ rfl ((false || false) || false) (dep 11 rfl 78 rfl) (id (pick_or2 (c := true) rfl (dep 14 rfl 81 rfl)))) ?_
        exact Steps.nil
      intro u wz hwz ans
      have hus82 : u 82 = (.bool (((false || false) || false) || (!true))) := ans 15 82 (by decide) rfl
      clear ans
      simp only [putAll, List.foldl_cons, List.foldl_nil, Act.put, List.setIfInBounds_toArray, List.set_cons_zero, List.set_cons_succ, hus82]
      clear hus82
      simp only [List.drop]
      refine wpList_nil ?_
      replace h5 := blk_then h5 hwz
      replace h7 := blk_then h7 hwz
      replace hB2 := below_then hB2 hwz
      replace hB35 := below_then hB35 hwz
      have hTd := Lib.hid (HTd.out.then_ hwz)
      rw [show (((false || false) || false) || (!true)) = false from rfl]
      clear hwz hRd HTd
      go_upto_region 15 with (refine wl_bsZ6 rfl _ _ _ _ _ _ rfl _ _ _ _ _ _ rfl rfl rfl rfl rfl rfl ?_; intro KK w6 h92 hB6)
      replace h5 := blk_then h5 hB6
      replace h7 := blk_then h7 hB6
      replace hB2 := below_then hB2 hB6
      replace hB35 := below_then hB35 hB6
      have HTd := Lib.hid (hTd.out.then_ hB6)
      obtain ⟨g92, hg92⟩ : ∃ y, y = wz.heap.size := ⟨_, rfl⟩
      rw [← hg92] at h92 ⊢
      clear hg92 hTd hB6
      go_wp2_with (fail)
      go_loopw [94] (fun iv wr => ∃ i : Nat, i ≤ 6 ∧ iv = .int .i64 i ∧ Below w6.heap.size w6 wr) (fun iv _ => 6 - (intOf iv).toNat)
      case atStart => exact ⟨0, by omega, rfl, Below.refl _ _⟩
      case round =>
        obtain ⟨i, hi, rfl, hBr⟩ := hrel
        by_cases hi6 : i < 6
        · have hiI : (i : Int) < 6 := by omega
          have hB3r := below_then hB35 hBr
          have h5r := blk_then h5 hBr
          have h7r := blk_then h7 hBr
          have cK : wr.cell? ⟨g92, 0 + i * 1, none⟩ = some (.int .i64 (KK i)) := blk_arr (blk_then h92 hBr) hi6
          have cL : wr.cell? ⟨g92, i, none⟩ = some (.int .i64 (KK i)) := blk_arrv (blk_then h92 hBr) hi6
          obtain ⟨kz, hkz⟩ : ∃ z, z = KK i := ⟨_, rfl⟩
          rw [← hkz] at cK cL
          clear hkz
          go_upto_region 18 with (first
            | (refine wpList_load_row rfl _ _ rfl _ rfl _ _ _ _ h5r Tryd.underlying25 rfl (info_nfa3.trans rfl) ?_)
            | (go_at_call 10; refine (kB kz wr hB3r).mono ?_; rintro e w8 ⟨hD, hBb⟩; obtain ⟨c, kf, rfl, hTc, hAc⟩ := hD; unfold TV.C'; have hzc := Blk.new w8 33 Tryd.zeroCells33; rw [zero_cells_dfa] at hzc)
            | (rw [zero_cells_dfa]; refine wl_store_dfa rfl _ _ rfl w8.heap.size rfl rfl hzc ?_; intro w9 h16 hgg))
          have hBg := below_grown (below_alloc (Below.refl w8.heap.size w8) (.cells (dfaC (fun _ => 0) none 0 0 none 0 0 none 0 0) 33)) hgg (Nat.le_refl _)
          obtain ⟨g16, hge⟩ : ∃ y, y = w8.heap.size := ⟨_, rfl⟩
          rw [← hge] at h16 ⊢
          replace hTc := hTc.then_ hBg
          have hBn := below_then hBb hBg
          clear hzc hgg hBb hBg hge
          try simp only [Act.put]
          clear cK cL h5r hB3r
          replace h7r := blk_then h7r hBn
          have hTd9 := HTd.out.then_ (below_then hBr hBn)
          replace hBr := below_then hBr hBn
          clear hBn
          rcases kalt_at Hd.out.1 (by omega) hAc with ⟨hkf, hle, hcT⟩ | ⟨hkf, hle, hcz⟩
          · subst hkf
            have hcf := fo_len Hd.out.1 (by omega) hcT
            have hAl : ∀ W : World, Below w9.heap.size w9 W → Calls Tryd.prog 28 #[.agg (dfaC c.f c.A c.rs.length c.c c.B c.fo.length c.d c.C c.en.length c.e), .agg (dfaC d.f d.A n d.c d.B d.fo.length d.d d.C d.en.length d.e)] W fun e w' => e = .returned (.bool true) ∧ Below W.heap.size W w' := fun W hW => by
              have h9 := alike10_any c d (TEq.of (hcT.trans Hd.out.2.1.symm)) hcf.1 hcf.2 W (hTc.then_ hW) (hTd9.then_ hW)
              rw [Hd.out.2.2.2.2] at h9
              exact h9
            clear hcT hcf hTc hTd9 hAc
            refine wp_region_text 34 [eqS (.int .i64 (0)), eqS (.int .i64 (0)), eqS (.bool true), eqS (.int .i64 (kz)), eqS (.int .i64 (((n : Nat) : Int))), eqS (.bool true), eqS (.bool false), eqS (.bool false), eqS (vF (true && (false == false)) (.int .i64 (0))), eqS (vF (true && (false == false)) (.int .i64 (0))), eqS (vF (true && (false == false)) (.bool false)), eqS (vF (true && (false == false)) (.bool false)), eqS (vF ((true && (false == false)) && (false == true)) (.int .i64 (0))), eqS (vF ((true && (false == false)) && (false == true)) (.int .i64 (0))), eqS (vF ((true && (false == false)) && (false == true)) (.bool true)), eqS (vF ((true && (false == false)) && (false == true)) (.bool true)), eqS (vF (((true && (false == false)) && (false == true)) && (true == false)) (.pointer (some ⟨g16, 256, none⟩))), eqS (vF (((true && (false == false)) && (false == true)) && (true == false)) (.slice c.A c.rs.length c.c)), eqS (vF (((true && (false == false)) && (false == true)) && (true == false)) (.int .i64 (((c.rs.length : Nat) : Int)))), eqS (vF (((true && (false == false)) && (false == true)) && (true == false)) (.bool false)), eqS (vF ((true && (false == false)) && (false == true)) (.bool (true || false))), eqS (vF (true && (false == false)) (.bool (false && (true || false)))), eqS (.bool (false || (false && (true || false)))), eqS (.bool (false || (false && (true || false)))), eqS (vF (true && ((false || (false && (true || false))) == false)) (.int .i64 (0))), eqS (vF (true && ((false || (false && (true || false))) == false)) (.int .i64 (0))), eqS (vF (true && ((false || (false && (true || false))) == false)) (.bool true)), eqS (vF (true && ((false || (false && (true || false))) == false)) (.bool true)), eqS (vF ((true && ((false || (false && (true || false))) == false)) && (true == true)) (.agg (dfaC c.f c.A c.rs.length c.c c.B c.fo.length c.d c.C c.en.length c.e))), eqS (vF ((true && ((false || (false && (true || false))) == false)) && (true == true)) (.agg (dfaC d.f d.A n d.c d.B d.fo.length d.d d.C d.en.length d.e))), eqS (vF ((true && ((false || (false && (true || false))) == false)) && (true == true)) (.bool true)), eqS (vF ((true && ((false || (false && (true || false))) == false)) && (true == true)) (.bool (!true))), eqS (vF (true && ((false || (false && (true || false))) == false)) (.bool (true && (!true)))), eqS (.bool ((false || (false && (true || false))) || (true && (!true))))] [104, 105, 106, 107, 108, 109, 110, 111, 112, 113, 114, 115, 116, 117, 118, 119, 120, 121, 122, 123, 124, 125, 126, 127, 128, 129, 130, 131, 132, 133, 134, 135, 136, 137] (by kernel_rfl) (by kernel_rfl) ?_ ?_
            · skip
              refine Steps.cons (fun a' w' hG hB dep => gs_move (want_none rfl) _ rfl (id (hG.other 17 rfl))) ?_
              refine Steps.cons (fun a' w' hG hB dep => gs_call (want_none rfl) _ _ _ rfl enter_num10 _ (map1 (dep 0 rfl 104 rfl)) ((num10_any _ _).mono fun e w2 ⟨hq9, hb9⟩ => ⟨_, hq9, hb9, rfl⟩)) ?_
              refine Steps.cons (fun a' w' hG hB dep => gs_eql_int (want_none rfl) _ _ _ _ rfl _ _ _ (dep 1 rfl 105 rfl) rfl (id (congrArg Value.bool rfl))) ?_
              refine Steps.cons (fun a' w' hG hB dep => gs_move (want_none rfl) _ rfl (id (hG.other 15 rfl))) ?_
              refine Steps.cons (fun a' w' hG hB dep => gs_move (want_none rfl) _ rfl (id (hG.other 13 rfl))) ?_
              refine Steps.cons (fun a' w' hG hB dep => gs_geq_int (want_none rfl) _ _ _ _ rfl _ _ _ (dep 3 rfl 107 rfl) (dep 4 rfl 108 rfl) (id (congrArg Value.bool (decide_eq_true hle)))) ?_
              refine Steps.cons (fun a' w' hG hB dep => gs_neq_bool (want_none rfl) _ _ _ rfl _ _ (dep 2 rfl 106 rfl) (dep 5 rfl 109 rfl) (id (congrArg Value.bool rfl))) ?_
              refine Steps.cons (fun a' w' hG hB dep => gs_move (want_none rfl) _ rfl (id (dep 6 rfl 110 rfl))) ?_
              refine Steps.cons (fun a' w' hG hB dep => gs_guard (c := true) (b' := false) rfl rfl (dep 7 rfl 111 rfl) (fun hc he hw => gs_move hw _ rfl (Eq.trans (hG.other 17 rfl) (vF_yes (on_g hc he) _).symm)) (fun hn => vF_no hn _)) ?_
              refine Steps.cons (fun a' w' hG hB dep => gs_guard (c := true) (b' := false) rfl rfl (dep 7 rfl 111 rfl) (fun hc he hw => gs_call hw _ _ _ rfl enter_num10 _ (map1 (Eq.trans (dep 8 rfl 112 rfl) (vF_yes (on_g hc he) _))) ((num10_any _ _).mono fun e w2 ⟨hq9, hb9⟩ => ⟨_, hq9, hb9, (vF_yes (on_g hc he) _).symm⟩)) (fun hn => vF_no hn _)) ?_
              refine Steps.cons (fun a' w' hG hB dep => gs_guard (c := true) (b' := false) rfl rfl (dep 7 rfl 111 rfl) (fun hc he hw => gs_neq_int hw _ _ _ _ rfl _ _ _ (Eq.trans (dep 9 rfl 113 rfl) (vF_yes (on_g hc he) _)) rfl (Eq.trans (congrArg Value.bool rfl) (vF_yes (on_g hc he) _).symm)) (fun hn => vF_no hn _)) ?_
              refine Steps.cons (fun a' w' hG hB dep => gs_guard (c := true) (b' := false) rfl rfl (dep 7 rfl 111 rfl) (fun hc he hw => gs_move hw _ rfl (Eq.trans (Eq.trans (dep 10 rfl 114 rfl) (vF_yes (on_g hc he) _)) (vF_yes (on_g hc he) _).symm)) (fun hn => vF_no hn _)) ?_
              refine Steps.cons (fun a' w' hG hB dep => gs_guard (c := (true && (false == false))) (b' := false) rfl rfl (dep 11 rfl 115 rfl) (fun hc he hw => gs_move hw _ rfl (Eq.trans (hG.other 17 rfl) (vF_yes (on_g hc he) _).symm)) (fun hn => vF_no hn _)) ?_
              refine Steps.cons (fun a' w' hG hB dep => gs_guard (c := (true && (false == false))) (b' := false) rfl rfl (dep 11 rfl 115 rfl) (fun hc he hw => gs_call hw _ _ _ rfl enter_num10 _ (map1 (Eq.trans (dep 12 rfl 116 rfl) (vF_yes (on_g hc he) _))) ((num10_any _ _).mono fun e w2 ⟨hq9, hb9⟩ => ⟨_, hq9, hb9, (vF_yes (on_g hc he) _).symm⟩)) (fun hn => vF_no hn _)) ?_
              refine Steps.cons (fun a' w' hG hB dep => gs_guard (c := (true && (false == false))) (b' := false) rfl rfl (dep 11 rfl 115 rfl) (fun hc he hw => gs_neq_int hw _ _ _ _ rfl _ _ _ (Eq.trans (dep 13 rfl 117 rfl) (vF_yes (on_g hc he) _)) rfl (Eq.trans (congrArg Value.bool rfl) (vF_yes (on_g hc he) _).symm)) (fun hn => vF_no hn _)) ?_
              refine Steps.cons (fun a' w' hG hB dep => gs_guard (c := (true && (false == false))) (b' := false) rfl rfl (dep 11 rfl 115 rfl) (fun hc he hw => gs_move hw _ rfl (Eq.trans (Eq.trans (dep 14 rfl 118 rfl) (vF_yes (on_g hc he) _)) (vF_yes (on_g hc he) _).symm)) (fun hn => vF_no hn _)) ?_
              refine Steps.cons (fun a' w' hG hB dep => gs_guard (c := ((true && (false == false)) && (false == true))) (b' := true) rfl rfl (dep 15 rfl 119 rfl) (fun hc he hw => gs_field hw _ _ _ rfl g16 (0) (256) (hG.other 16 rfl) (fun wz => field_dfa_1 g16 (0) wz) (vF_yes (on_g hc he) _).symm) (fun hn => vF_no hn _)) ?_
              refine Steps.cons (fun a' w' hG hB dep => gs_guard (c := ((true && (false == false)) && (false == true))) (b' := true) rfl rfl (dep 15 rfl 119 rfl) (fun hc he hw => gs_load1 hw _ _ rfl g16 (256) (Eq.trans (dep 16 rfl 120 rfl) (vF_yes (on_g hc he) _)) (.slice c.A c.rs.length c.c) (blk_d1 (blk_then h16 hB)) _ Tryd.underlying31 rfl (vF_yes (on_g hc he) _).symm) (fun hn => vF_no hn _)) ?_
              refine Steps.cons (fun a' w' hG hB dep => gs_guard (c := ((true && (false == false)) && (false == true))) (b' := true) rfl rfl (dep 15 rfl 119 rfl) (fun hc he hw => gs_len hw _ _ rfl under_rows _ c.rs.length c.c (Eq.trans (dep 17 rfl 121 rfl) (vF_yes (on_g hc he) _)) (vF_yes (on_g hc he) _).symm) (fun hn => vF_no hn _)) ?_
              refine Steps.cons (fun a' w' hG hB dep => gs_guard (c := ((true && (false == false)) && (false == true))) (b' := true) rfl rfl (dep 15 rfl 119 rfl) (fun hc he hw => absurd he (by decide)) (fun hn => vF_no hn _)) ?_
              refine Steps.cons (fun a' w' hG hB dep => gs_guard (c := (true && (false == false))) (b' := false) rfl rfl (dep 11 rfl 115 rfl) (fun hc he hw => gs_pick hw _ _ _ rfl true (Eq.trans (dep 15 rfl 119 rfl) (vF_yes (on_g hc he) _)) (Eq.trans (pick_or2 (c := ((true && (false == false)) && (false == true))) (on_g hc he) (dep 19 rfl 123 rfl)) (vF_yes (on_g hc he) _).symm)) (fun hn => vF_no hn _)) ?_
              refine Steps.cons (fun a' w' hG hB dep => gs_guard (c := true) (b' := false) rfl rfl (dep 7 rfl 111 rfl) (fun hc he hw => gs_pick hw _ _ _ rfl false (Eq.trans (dep 11 rfl 115 rfl) (vF_yes (on_g hc he) _)) (Eq.trans (pick_and2 (c := (true && (false == false))) (on_g hc he) (dep 20 rfl 124 rfl)) (vF_yes (on_g hc he) _).symm)) (fun hn => vF_no hn _)) ?_
              refine Steps.cons (fun a' w' hG hB dep => gs_pick (want_none rfl) _ _ _ rfl false (dep 7 rfl 111 rfl) (id (pick_or2 (c := true) rfl (dep 21 rfl 125 rfl)))) ?_
              refine Steps.cons (fun a' w' hG hB dep => gs_move (want_none rfl) _ rfl (id (dep 22 rfl 126 rfl))) ?_
              refine Steps.cons (fun a' w' hG hB dep => gs_guard (c := true) (b' := (false || (false && (true || false)))) rfl rfl (dep 23 rfl 127 rfl) (fun hc he hw => gs_move hw _ rfl (Eq.trans (hG.other 17 rfl) (vF_yes (on_g hc he) _).symm)) (fun hn => vF_no hn _)) ?_
              refine Steps.cons (fun a' w' hG hB dep => gs_guard (c := true) (b' := (false || (false && (true || false)))) rfl rfl (dep 23 rfl 127 rfl) (fun hc he hw => gs_call hw _ _ _ rfl enter_num10 _ (map1 (Eq.trans (dep 24 rfl 128 rfl) (vF_yes (on_g hc he) _))) ((num10_any _ _).mono fun e w2 ⟨hq9, hb9⟩ => ⟨_, hq9, hb9, (vF_yes (on_g hc he) _).symm⟩)) (fun hn => vF_no hn _)) ?_
              refine Steps.cons (fun a' w' hG hB dep => gs_guard (c := true) (b' := (false || (false && (true || false)))) rfl rfl (dep 23 rfl 127 rfl) (fun hc he hw => gs_eql_int hw _ _ _ _ rfl _ _ _ (Eq.trans (dep 25 rfl 129 rfl) (vF_yes (on_g hc he) _)) rfl (Eq.trans (congrArg Value.bool rfl) (vF_yes (on_g hc he) _).symm)) (fun hn => vF_no hn _)) ?_
              refine Steps.cons (fun a' w' hG hB dep => gs_guard (c := true) (b' := (false || (false && (true || false)))) rfl rfl (dep 23 rfl 127 rfl) (fun hc he hw => gs_move hw _ rfl (Eq.trans (Eq.trans (dep 26 rfl 130 rfl) (vF_yes (on_g hc he) _)) (vF_yes (on_g hc he) _).symm)) (fun hn => vF_no hn _)) ?_
              refine Steps.cons (fun a' w' hG hB dep => gs_guard (c := (true && ((false || (false && (true || false))) == false))) (b' := true) rfl rfl (dep 27 rfl 131 rfl) (fun hc he hw => gs_load_dfa hw _ rfl g16 (hG.other 16 rfl) (blk_then h16 hB) (vF_yes (on_g hc he) _).symm) (fun hn => vF_no hn _)) ?_
              refine Steps.cons (fun a' w' hG hB dep => gs_guard (c := (true && ((false || (false && (true || false))) == false))) (b' := true) rfl rfl (dep 27 rfl 131 rfl) (fun hc he hw => gs_load_dfa hw _ rfl g7 (hG.other 7 rfl) (blk_then h7r hB) (vF_yes (on_g hc he) _).symm) (fun hn => vF_no hn _)) ?_
              refine Steps.cons (fun a' w' hG hB dep => gs_guard (c := (true && ((false || (false && (true || false))) == false))) (b' := true) rfl rfl (dep 27 rfl 131 rfl) (fun hc he hw => gs_call hw _ _ _ rfl enter_alike10 _ (map2 (Eq.trans (dep 28 rfl 132 rfl) (vF_yes (on_g hc he) _)) (Eq.trans (dep 29 rfl 133 rfl) (vF_yes (on_g hc he) _))) ((hAl _ hB).mono fun e w2 ⟨hq9, hb9⟩ => ⟨_, hq9, hb9, (vF_yes (on_g hc he) _).symm⟩)) (fun hn => vF_no hn _)) ?_
              refine Steps.cons (fun a' w' hG hB dep => gs_guard (c := (true && ((false || (false && (true || false))) == false))) (b' := true) rfl rfl (dep 27 rfl 131 rfl) (fun hc he hw => gs_not_bool hw _ _ rfl _ (Eq.trans (dep 30 rfl 134 rfl) (vF_yes (on_g hc he) _)) (vF_yes (on_g hc he) _).symm) (fun hn => vF_no hn _)) ?_
              refine Steps.cons (fun a' w' hG hB dep => gs_guard (c := true) (b' := (false || (false && (true || false)))) rfl rfl (dep 23 rfl 127 rfl) (fun hc he hw => gs_pick hw _ _ _ rfl true (Eq.trans (dep 27 rfl 131 rfl) (vF_yes (on_g hc he) _)) (Eq.trans (pick_and2 (c := (true && ((false || (false && (true || false))) == false))) (on_g hc he) (dep 31 rfl 135 rfl)) (vF_yes (on_g hc he) _).symm)) (fun hn => vF_no hn _)) ?_
              refine Steps.cons (fun a' w' hG hB dep => gs_pick (want_none rfl) _ _ _ rfl (false || (false && (true || false))) (dep 23 rfl 127 rfl) (id (pick_or2 (c := true) rfl (dep 32 rfl 136 rfl)))) ?_
              exact Steps.nil
            intro u wz hwz ans
            have hus137 : u 137 = (.bool ((false || (false && (true || false))) || (true && (!true)))) := ans 33 137 (by decide) rfl
            clear ans
            simp only [putAll, List.foldl_cons, List.foldl_nil, Act.put, List.setIfInBounds_toArray, List.set_cons_zero, List.set_cons_succ, hus137]
            clear hus137
            simp only [List.drop]
            refine wpList_nil ?_
            replace hBr := below_then hBr hwz
            rw [show ((false || (false && (true || false))) || (true && (!true))) = false from rfl]
            clear hAl hwz h16 h7r
            go_wp2_with (fail)
            exact ⟨⟨i + 1, by omega, rfl, hBr⟩, by simp only [intOf]; omega⟩
          · subst hkf
            subst hcz
            clear hTc hTd9 hAc
            refine wp_region_text 34 [eqS (.int .i64 (100)), eqS (.int .i64 (100)), eqS (.bool false), eqS (.int .i64 (kz)), eqS (.int .i64 (((n : Nat) : Int))), eqS (.bool false), eqS (.bool false), eqS (.bool false), eqS (vF (true && (false == false)) (.int .i64 (100))), eqS (vF (true && (false == false)) (.int .i64 (100))), eqS (vF (true && (false == false)) (.bool true)), eqS (vF (true && (false == false)) (.bool true)), eqS (vF ((true && (false == false)) && (true == true)) (.int .i64 (100))), eqS (vF ((true && (false == false)) && (true == true)) (.int .i64 (100))), eqS (vF ((true && (false == false)) && (true == true)) (.bool false)), eqS (vF ((true && (false == false)) && (true == true)) (.bool false)), eqS (vF (((true && (false == false)) && (true == true)) && (false == false)) (.pointer (some ⟨g16, 256, none⟩))), eqS (vF (((true && (false == false)) && (true == true)) && (false == false)) (.slice none 0 0)), eqS (vF (((true && (false == false)) && (true == true)) && (false == false)) (.int .i64 (((0 : Nat) : Int)))), eqS (vF (((true && (false == false)) && (true == true)) && (false == false)) (.bool false)), eqS (vF ((true && (false == false)) && (true == true)) (.bool (false || false))), eqS (vF (true && (false == false)) (.bool (true && (false || false)))), eqS (.bool (false || (true && (false || false)))), eqS (.bool (false || (true && (false || false)))), eqS (vF (true && ((false || (true && (false || false))) == false)) (.int .i64 (100))), eqS (vF (true && ((false || (true && (false || false))) == false)) (.int .i64 (100))), eqS (vF (true && ((false || (true && (false || false))) == false)) (.bool false)), eqS (vF (true && ((false || (true && (false || false))) == false)) (.bool false)), eqS (vF ((true && ((false || (true && (false || false))) == false)) && (false == true)) (.agg (dfaC zeroT.f zeroT.A zeroT.rs.length zeroT.c zeroT.B zeroT.fo.length zeroT.d zeroT.C zeroT.en.length zeroT.e))), eqS (vF ((true && ((false || (true && (false || false))) == false)) && (false == true)) (.agg (dfaC d.f d.A n d.c d.B d.fo.length d.d d.C d.en.length d.e))), eqS (vF ((true && ((false || (true && (false || false))) == false)) && (false == true)) (.bool true)), eqS (vF ((true && ((false || (true && (false || false))) == false)) && (false == true)) (.bool (!true))), eqS (vF (true && ((false || (true && (false || false))) == false)) (.bool (false && (!true)))), eqS (.bool ((false || (true && (false || false))) || (false && (!true))))] [104, 105, 106, 107, 108, 109, 110, 111, 112, 113, 114, 115, 116, 117, 118, 119, 120, 121, 122, 123, 124, 125, 126, 127, 128, 129, 130, 131, 132, 133, 134, 135, 136, 137] (by kernel_rfl) (by kernel_rfl) ?_ ?_
            · skip
              refine Steps.cons (fun a' w' hG hB dep => gs_move (want_none rfl) _ rfl (id (hG.other 17 rfl))) ?_
              refine Steps.cons (fun a' w' hG hB dep => gs_call (want_none rfl) _ _ _ rfl enter_num10 _ (map1 (dep 0 rfl 104 rfl)) ((num10_any _ _).mono fun e w2 ⟨hq9, hb9⟩ => ⟨_, hq9, hb9, rfl⟩)) ?_
              refine Steps.cons (fun a' w' hG hB dep => gs_eql_int (want_none rfl) _ _ _ _ rfl _ _ _ (dep 1 rfl 105 rfl) rfl (id (congrArg Value.bool rfl))) ?_
              refine Steps.cons (fun a' w' hG hB dep => gs_move (want_none rfl) _ rfl (id (hG.other 15 rfl))) ?_
              refine Steps.cons (fun a' w' hG hB dep => gs_move (want_none rfl) _ rfl (id (hG.other 13 rfl))) ?_
              refine Steps.cons (fun a' w' hG hB dep => gs_geq_int (want_none rfl) _ _ _ _ rfl _ _ _ (dep 3 rfl 107 rfl) (dep 4 rfl 108 rfl) (id (congrArg Value.bool (decide_eq_false hle)))) ?_
              refine Steps.cons (fun a' w' hG hB dep => gs_neq_bool (want_none rfl) _ _ _ rfl _ _ (dep 2 rfl 106 rfl) (dep 5 rfl 109 rfl) (id (congrArg Value.bool rfl))) ?_
              refine Steps.cons (fun a' w' hG hB dep => gs_move (want_none rfl) _ rfl (id (dep 6 rfl 110 rfl))) ?_
              refine Steps.cons (fun a' w' hG hB dep => gs_guard (c := true) (b' := false) rfl rfl (dep 7 rfl 111 rfl) (fun hc he hw => gs_move hw _ rfl (Eq.trans (hG.other 17 rfl) (vF_yes (on_g hc he) _).symm)) (fun hn => vF_no hn _)) ?_
              refine Steps.cons (fun a' w' hG hB dep => gs_guard (c := true) (b' := false) rfl rfl (dep 7 rfl 111 rfl) (fun hc he hw => gs_call hw _ _ _ rfl enter_num10 _ (map1 (Eq.trans (dep 8 rfl 112 rfl) (vF_yes (on_g hc he) _))) ((num10_any _ _).mono fun e w2 ⟨hq9, hb9⟩ => ⟨_, hq9, hb9, (vF_yes (on_g hc he) _).symm⟩)) (fun hn => vF_no hn _)) ?_
              refine Steps.cons (fun a' w' hG hB dep => gs_guard (c := true) (b' := false) rfl rfl (dep 7 rfl 111 rfl) (fun hc he hw => gs_neq_int hw _ _ _ _ rfl _ _ _ (Eq.trans (dep 9 rfl 113 rfl) (vF_yes (on_g hc he) _)) rfl (Eq.trans (congrArg Value.bool rfl) (vF_yes (on_g hc he) _).symm)) (fun hn => vF_no hn _)) ?_
              refine Steps.cons (fun a' w' hG hB dep => gs_guard (c := true) (b' := false) rfl rfl (dep 7 rfl 111 rfl) (fun hc he hw => gs_move hw _ rfl (Eq.trans (Eq.trans (dep 10 rfl 114 rfl) (vF_yes (on_g hc he) _)) (vF_yes (on_g hc he) _).symm)) (fun hn => vF_no hn _)) ?_
              refine Steps.cons (fun a' w' hG hB dep => gs_guard (c := (true && (false == false))) (b' := true) rfl rfl (dep 11 rfl 115 rfl) (fun hc he hw => gs_move hw _ rfl (Eq.trans (hG.other 17 rfl) (vF_yes (on_g hc he) _).symm)) (fun hn => vF_no hn _)) ?_
              refine Steps.cons (fun a' w' hG hB dep => gs_guard (c := (true && (false == false))) (b' := true) rfl rfl (dep 11 rfl 115 rfl) (fun hc he hw => gs_call hw _ _ _ rfl enter_num10 _ (map1 (Eq.trans (dep 12 rfl 116 rfl) (vF_yes (on_g hc he) _))) ((num10_any _ _).mono fun e w2 ⟨hq9, hb9⟩ => ⟨_, hq9, hb9, (vF_yes (on_g hc he) _).symm⟩)) (fun hn => vF_no hn _)) ?_
              refine Steps.cons (fun a' w' hG hB dep => gs_guard (c := (true && (false == false))) (b' := true) rfl rfl (dep 11 rfl 115 rfl) (fun hc he hw => gs_neq_int hw _ _ _ _ rfl _ _ _ (Eq.trans (dep 13 rfl 117 rfl) (vF_yes (on_g hc he) _)) rfl (Eq.trans (congrArg Value.bool rfl) (vF_yes (on_g hc he) _).symm)) (fun hn => vF_no hn _)) ?_
              refine Steps.cons (fun a' w' hG hB dep => gs_guard (c := (true && (false == false))) (b' := true) rfl rfl (dep 11 rfl 115 rfl) (fun hc he hw => gs_move hw _ rfl (Eq.trans (Eq.trans (dep 14 rfl 118 rfl) (vF_yes (on_g hc he) _)) (vF_yes (on_g hc he) _).symm)) (fun hn => vF_no hn _)) ?_
              refine Steps.cons (fun a' w' hG hB dep => gs_guard (c := ((true && (false == false)) && (true == true))) (b' := false) rfl rfl (dep 15 rfl 119 rfl) (fun hc he hw => gs_field hw _ _ _ rfl g16 (0) (256) (hG.other 16 rfl) (fun wz => field_dfa_1 g16 (0) wz) (vF_yes (on_g hc he) _).symm) (fun hn => vF_no hn _)) ?_
              refine Steps.cons (fun a' w' hG hB dep => gs_guard (c := ((true && (false == false)) && (true == true))) (b' := false) rfl rfl (dep 15 rfl 119 rfl) (fun hc he hw => gs_load1 hw _ _ rfl g16 (256) (Eq.trans (dep 16 rfl 120 rfl) (vF_yes (on_g hc he) _)) (.slice none 0 0) (blk_d1 (blk_then h16 hB)) _ Tryd.underlying31 rfl (vF_yes (on_g hc he) _).symm) (fun hn => vF_no hn _)) ?_
              refine Steps.cons (fun a' w' hG hB dep => gs_guard (c := ((true && (false == false)) && (true == true))) (b' := false) rfl rfl (dep 15 rfl 119 rfl) (fun hc he hw => gs_len hw _ _ rfl under_rows _ 0 0 (Eq.trans (dep 17 rfl 121 rfl) (vF_yes (on_g hc he) _)) (vF_yes (on_g hc he) _).symm) (fun hn => vF_no hn _)) ?_
              refine Steps.cons (fun a' w' hG hB dep => gs_guard (c := ((true && (false == false)) && (true == true))) (b' := false) rfl rfl (dep 15 rfl 119 rfl) (fun hc he hw => gs_neq_int hw _ _ _ _ rfl _ _ _ (Eq.trans (dep 18 rfl 122 rfl) (vF_yes (on_g hc he) _)) rfl (Eq.trans (congrArg Value.bool rfl) (vF_yes (on_g hc he) _).symm)) (fun hn => vF_no hn _)) ?_
              refine Steps.cons (fun a' w' hG hB dep => gs_guard (c := (true && (false == false))) (b' := true) rfl rfl (dep 11 rfl 115 rfl) (fun hc he hw => gs_pick hw _ _ _ rfl false (Eq.trans (dep 15 rfl 119 rfl) (vF_yes (on_g hc he) _)) (Eq.trans (pick_or2 (c := ((true && (false == false)) && (true == true))) (on_g hc he) (dep 19 rfl 123 rfl)) (vF_yes (on_g hc he) _).symm)) (fun hn => vF_no hn _)) ?_
              refine Steps.cons (fun a' w' hG hB dep => gs_guard (c := true) (b' := false) rfl rfl (dep 7 rfl 111 rfl) (fun hc he hw => gs_pick hw _ _ _ rfl true (Eq.trans (dep 11 rfl 115 rfl) (vF_yes (on_g hc he) _)) (Eq.trans (pick_and2 (c := (true && (false == false))) (on_g hc he) (dep 20 rfl 124 rfl)) (vF_yes (on_g hc he) _).symm)) (fun hn => vF_no hn _)) ?_
              refine Steps.cons (fun a' w' hG hB dep => gs_pick (want_none rfl) _ _ _ rfl false (dep 7 rfl 111 rfl) (id (pick_or2 (c := true) rfl (dep 21 rfl 125 rfl)))) ?_
              refine Steps.cons (fun a' w' hG hB dep => gs_move (want_none rfl) _ rfl (id (dep 22 rfl 126 rfl))) ?_
              refine Steps.cons (fun a' w' hG hB dep => gs_guard (c := true) (b' := (false || (true && (false || false)))) rfl rfl (dep 23 rfl 127 rfl) (fun hc he hw => gs_move hw _ rfl (Eq.trans (hG.other 17 rfl) (vF_yes (on_g hc he) _).symm)) (fun hn => vF_no hn _)) ?_
              refine Steps.cons (fun a' w' hG hB dep => gs_guard (c := true) (b' := (false || (true && (false || false)))) rfl rfl (dep 23 rfl 127 rfl) (fun hc he hw => gs_call hw _ _ _ rfl enter_num10 _ (map1 (Eq.trans (dep 24 rfl 128 rfl) (vF_yes (on_g hc he) _))) ((num10_any _ _).mono fun e w2 ⟨hq9, hb9⟩ => ⟨_, hq9, hb9, (vF_yes (on_g hc he) _).symm⟩)) (fun hn => vF_no hn _)) ?_
              refine Steps.cons (fun a' w' hG hB dep => gs_guard (c := true) (b' := (false || (true && (false || false)))) rfl rfl (dep 23 rfl 127 rfl) (fun hc he hw => gs_eql_int hw _ _ _ _ rfl _ _ _ (Eq.trans (dep 25 rfl 129 rfl) (vF_yes (on_g hc he) _)) rfl (Eq.trans (congrArg Value.bool rfl) (vF_yes (on_g hc he) _).symm)) (fun hn => vF_no hn _)) ?_
              refine Steps.cons (fun a' w' hG hB dep => gs_guard (c := true) (b' := (false || (true && (false || false)))) rfl rfl (dep 23 rfl 127 rfl) (fun hc he hw => gs_move hw _ rfl (Eq.trans (Eq.trans (dep 26 rfl 130 rfl) (vF_yes (on_g hc he) _)) (vF_yes (on_g hc he) _).symm)) (fun hn => vF_no hn _)) ?_
              refine Steps.cons (fun a' w' hG hB dep => gs_guard (c := (true && ((false || (true && (false || false))) == false))) (b' := false) rfl rfl (dep 27 rfl 131 rfl) (fun hc he hw => gs_load_dfa hw _ rfl g16 (hG.other 16 rfl) (blk_then h16 hB) (vF_yes (on_g hc he) _).symm) (fun hn => vF_no hn _)) ?_
              refine Steps.cons (fun a' w' hG hB dep => gs_guard (c := (true && ((false || (true && (false || false))) == false))) (b' := false) rfl rfl (dep 27 rfl 131 rfl) (fun hc he hw => gs_load_dfa hw _ rfl g7 (hG.other 7 rfl) (blk_then h7r hB) (vF_yes (on_g hc he) _).symm) (fun hn => vF_no hn _)) ?_
              refine Steps.cons (fun a' w' hG hB dep => gs_guard (c := (true && ((false || (true && (false || false))) == false))) (b' := false) rfl rfl (dep 27 rfl 131 rfl) (fun hc he hw => absurd he (by decide)) (fun hn => vF_no hn _)) ?_
              refine Steps.cons (fun a' w' hG hB dep => gs_guard (c := (true && ((false || (true && (false || false))) == false))) (b' := false) rfl rfl (dep 27 rfl 131 rfl) (fun hc he hw => gs_not_bool hw _ _ rfl _ (Eq.trans (dep 30 rfl 134 rfl) (vF_yes (on_g hc he) _)) (vF_yes (on_g hc he) _).symm) (fun hn => vF_no hn _)) ?_
              refine Steps.cons (fun a' w' hG hB dep => gs_guard (c := true) (b' := (false || (true && (false || false)))) rfl rfl (dep 23 rfl 127 rfl) (fun hc he hw => gs_pick hw _ _ _ rfl false (Eq.trans (dep 27 rfl 131 rfl) (vF_yes (on_g hc he) _)) (Eq.trans (pick_and2 (c := (true && ((false || (true && (false || false))) == false))) (on_g hc he) (dep 31 rfl 135 rfl)) (vF_yes (on_g hc he) _).symm)) (fun hn => vF_no hn _)) ?_
              refine Steps.cons (fun a' w' hG hB dep => gs_pick (want_none rfl) _ _ _ rfl (false || (true && (false || false))) (dep 23 rfl 127 rfl) (id (pick_or2 (c := true) rfl (dep 32 rfl 136 rfl)))) ?_
              exact Steps.nil
            intro u wz hwz ans
            have hus137 : u 137 = (.bool ((false || (true && (false || false))) || (false && (!true)))) := ans 33 137 (by decide) rfl
            clear ans
            simp only [putAll, List.foldl_cons, List.foldl_nil, Act.put, List.setIfInBounds_toArray, List.set_cons_zero, List.set_cons_succ, hus137]
            clear hus137
            simp only [List.drop]
            refine wpList_nil ?_
            replace hBr := below_then hBr hwz
            rw [show ((false || (true && (false || false))) || (false && (!true))) = false from rfl]
            clear hwz h16 h7r
            go_wp2_with (fail)
            exact ⟨⟨i + 1, by omega, rfl, hBr⟩, by simp only [intOf]; omega⟩
        · have hiI : ¬ (i : Int) < 6 := by omega
          have h7r := blk_then h7 hBr
          have hTr := Lib.hid (HTd.out.then_ hBr)
          have hBw := below_then hB2 hBr
          clear h5 h7 hB2 hB35 h92 hBr kB Hx HTd
          obtain ⟨wA, hwA⟩ : ∃ y, y = wr := ⟨_, rfl⟩
          rw [← hwA] at h7r hTr hBw ⊢
          clear hwA
          go_upto_region 22 with (refine wl_makeF rfl _ _ rfl n rfl rfl (by omega) ?_; intro w7 hS hB7)
          have hSl := hS.lt
          go_upto_region 23 with (refine wl_store_arr eB true rfl _ _ _ rfl wA.heap.size 0 n _ _ hS rfl rfl (by omega) info_boolS rfl rfl ?_; intro w8 hS2 hg8)
          have hB8 := below_grown hB7 hg8 (Nat.le_refl _)
          have hs8 := hg8.size
          clear hS hB7 hg8
          go_upto_region 24 with (refine wl_bsZ1 rfl _ rfl 0 rfl ?_)
          have hqs : QIn (w8.alloc (.cells #[.int .i64 0] 3)) wA.heap.size w8.heap.size 0 1 1 [0] := ⟨rfl, Nat.le_refl _, by decide, hB8.size, #[.int .i64 0], Blk.new _ _ _, by decide, fun i hi => by
            have e : i = 0 := by simp at hi; omega
            subst e
            rfl⟩
          have hS9 := hS2.alloc (.cells #[.int .i64 0] 3)
          have hB9 := below_alloc hB8 (.cells #[.int .i64 0] 3)
          have hne9 : w8.heap.size ≠ wA.heap.size := by omega
          obtain ⟨w9, hw9⟩ : ∃ y, y = w8.alloc (.cells #[.int .i64 0] 3) := ⟨_, rfl⟩
          rw [← hw9] at hqs hS9 hB9 ⊢
          obtain ⟨g9, hg9⟩ : ∃ y, y = w8.heap.size := ⟨_, rfl⟩
          rw [← hg9] at hqs hne9 ⊢
          clear hw9 hg9 hS2 hB8 hs8 hSl
          try go_wp2_with (fail)
          go_loopw [19] (fun tv wr => ∃ (g off k c : Nat) (ys : List Int) (K : Nat → Bool), tv = .slice (some ⟨g, off, none⟩) k c ∧ QIn wr wA.heap.size g off k c ys ∧ g ≠ wA.heap.size ∧ Below wA.heap.size wA wr ∧ Blk wr wA.heap.size 4 (arr eB n K) ∧ Srch d n K ys none) (fun tv wr => 2 * (n - cntF (boolAt wr wA.heap.size) n) + lenV tv)
          case atStart => exact ⟨g9, 0, 1, 1, [0], _, rfl, hqs, hne9, hB9, hS9, Srch.start d hn1⟩
          case round =>
            clear hqs hne9 hB9 hS9
            obtain ⟨g, off, k, c, ys, K, rfl, hq, hgne, hBr, hS, hI⟩ := hrel
            have hcnt := cntF_blk hS
            cases ys with
            | nil =>
              have hk0 : k = 0 := hq.nlen
              subst hk0
              have hall := hI.all Hd.out.1 Hd.out.2.1
              go_wp2_with (fail)
              go_loopw [177] (fun iv wq => ∃ i : Nat, i ≤ n ∧ iv = .int .i64 i ∧ wq = wr) (fun iv _ => n - (intOf iv).toNat)
              case atStart => exact ⟨0, by omega, rfl, by trivial⟩
              case round =>
                obtain ⟨i, hin, rfl, hwq⟩ := hrel
                subst hwq
                by_cases hil : i < n
                · have hilI : (i : Int) < n := by omega
                  have cS : wr.cell? ⟨wA.heap.size, i, none⟩ = some (.bool true) := by have h9 := blk_arrv hS hil; rw [hall i hil] at h9; exact h9
                  go_wp2_with (fail)
                  exact ⟨⟨i + 1, by omega, rfl, by trivial⟩, by simp only [intOf]; omega⟩
                · have hilI : ¬ (i : Int) < n := by omega
                  go_wp2_with (fail)
                  go_ret
                  exact ⟨rfl, below_then hBw hBr⟩
            | cons y ys =>
              have hkl := hq.nlen
              rw [List.length_cons] at hkl
              have hk1 : 1 ≤ k := by omega
              have hk1I : (0 : Int) < k := by omega
              have hfw := hI.few
              obtain ⟨s, hys, hsn, hks, hI2⟩ := hI.take
              subst hys
              clear hI
              have cQ : wr.cell? ⟨g, off, none⟩ = some (.int .i64 (s : Int)) := hq.front rfl
              have cQ2 : wr.cell? ⟨g, off + 0 * 1, none⟩ = some (.int .i64 (s : Int)) := hq.front rfl
              have hq2 := hq.tail rfl
              have hsl : s < d.rs.length := by rw [Hd.out.2.2.1]; exact hsn
              obtain ⟨bX, oX, hXA, hbX, cX0⟩ := hTr.out.rowAt hsl
              have hrp := row_pos Hd.out.1 (by omega) Hd.out.2.1 hsl
              have hrv := row_val Hd.out.1 (by omega) Hd.out.2.1 hsl
              have hrow := hTr.out.row _ (List.getElem_mem hsl)
              have hdn : ∀ (K : Nat → Bool) (zs : List Int), Srch d n K zs (some s) → (∀ u : Nat, (u : Int) ∈ d.rs[s].l → K u = true) → Srch d n K zs none := fun K zs h1 h2 => h1.done hsl h2
              obtain ⟨p, hp⟩ : ∃ p, d.rs[s] = p := ⟨_, rfl⟩
              rw [hp] at cX0 hrp hrv hrow hdn
              obtain ⟨bp, op, hpA, hbp, hpr⟩ := hrow.at_ (by omega)
              rw [hpA] at cX0
              have cX : wr.cell? ⟨bX, oX + s * 1, none⟩ = some (.slice (some ⟨bp, op, none⟩) p.l.length p.c) := cell_keep cX0 hbX hBr
              have cX2 : wr.cell? ⟨bX, oX + s, none⟩ = some (.slice (some ⟨bp, op, none⟩) p.l.length p.c) := by rw [← Nat.mul_one s]; exact cX
              have cN : wr.cell? ⟨g7, 256, none⟩ = some (.slice (some ⟨bX, oX, none⟩) n d.c) := by rw [← hXA]; exact blk_d1 (blk_then h7r hBr)
              have Hq := Lib.hid hq
              have Hdn := Lib.hid hdn
              have Hrv := Lib.hid hrv
              have Hpr := Lib.hid hpr
              clear hp hrow hXA hpA cX0 hq hdn hrv hpr
              go_upto_region 26 with (fail)
              go_upto_region 27 with (refine wl_tail1 rfl _ rfl g off k c rfl hk1 Hq.out.ncap ?_)
              obtain ⟨o2, ho2⟩ : ∃ o, o = (if c = 1 then off else off + 1) := ⟨_, rfl⟩
              rw [← ho2] at hq2 ⊢
              clear ho2 cQ cQ2
              replace hq2 : QIn wr wA.heap.size g o2 ys.length (c - 1) ys := by rw [show ys.length = k - 1 by omega]; exact hq2
              go_wp2_with (fail)
              clear cX cX2 cN
              go_loopw [158, 19] (fun jv tv wq => ∃ (j g off k c : Nat) (zs : List Int) (L : Nat → Bool), jv = .int .i64 j ∧ j ≤ p.l.length ∧ tv = .slice (some ⟨g, off, none⟩) k c ∧ QIn wq wA.heap.size g off k c zs ∧ g ≠ wA.heap.size ∧ Below wA.heap.size wA wq ∧ Blk wq wA.heap.size 4 (arr eB n L) ∧ Srch d n L zs (some s) ∧ Hid ((∀ i (h : i < p.l.length), i < j → ∀ u : Nat, p.l[i] = (u : Int) → L u = true) ∧ 2 * (n - cntF L n) + zs.length ≤ 2 * (n - cntF K n) + ys.length)) (fun jv _ _ => p.l.length - (intOf jv).toNat)
              case atStart => exact ⟨0, g, o2, ys.length, c - 1, ys, K, rfl, by omega, rfl, hq2, hgne, hBr, hS, hI2, Lib.hid ⟨fun i h hj => absurd hj (by omega), Nat.le_refl _⟩⟩
              case round =>
                obtain ⟨j, g2, off2, k2, c2, zs, L, rfl, hj, rfl, hq3, hgne2, hBq, hS3, hI3, hin⟩ := hrel
                by_cases hjl : j < p.l.length
                · have hjlI : (j : Int) < p.l.length := by omega
                  obtain ⟨t, ht, htn⟩ := Hrv.out p.l[j] (List.getElem_mem hjl)
                  have cP : wr.cell? ⟨bp, op + j * 1, none⟩ = some (.int .i64 p.l[j]) := cell_keep (Hpr.out j hjl 0 _ rfl) hbp hBq
                  rw [ht] at cP
                  have cP2 : wr.cell? ⟨bp, op + j, none⟩ = some (.int .i64 (t : Int)) := by rw [← Nat.mul_one j]; exact cP
                  have cS : wr.cell? ⟨wA.heap.size, t, none⟩ = some (.bool (L t)) := blk_arrv hS3 htn
                  obtain ⟨lt, hlt⟩ : ∃ b, L t = b := ⟨_, rfl⟩
                  rw [hlt] at cS
                  cases lt with
                  | true =>
                    go_wp2_with (fail)
                    exact ⟨⟨j + 1, g2, off2, k2, c2, zs, L, rfl, by omega, rfl, hq3, hgne2, hBq, hS3, hI3, Lib.hid ⟨fun i h hij u hu => by
                      by_cases e : i < j
                      · exact hin.out.1 i h e u hu
                      · have e2 : i = j := by omega
                        subst e2
                        rw [ht] at hu
                        have e3 : t = u := by omega
                        rw [← e3]
                        exact hlt, hin.out.2⟩⟩, by simp only [intOf]; omega⟩
                  | false =>
                    have hmk := hI3.mark htn hlt
                    have Hkz := Lib.hid (And.intro hq3.nlen hI3.few)
                    go_upto_region 32 with (refine wl_store_arr eB true rfl _ _ _ rfl wA.heap.size t n _ _ hS3 rfl rfl htn info_boolS rfl rfl ?_; intro w10 hS4 hg10)
                    have hq4 := hq3.far hg10 (fun e => hgne2 (by injection e))
                    have hBq2 := below_grown hBq hg10 (Nat.le_refl _)
                    have hSl := hS4.lt
                    clear hg10
                    go_upto_region 33 with (first
                      | (refine wl_bsZ1 rfl _ rfl (t : Int) rfl ?_)
                      | (at_builtin; refine wl_pushQ rfl _ _ rfl wA.heap.size g2 off2 k2 c2 w10.heap.size zs (t : Int) rfl rfl (Blk.new _ _ _) (hq4.then_ (below_alloc (Below.refl _ _) _)) (by have h8 := Hkz.out.1; have h9 := Hkz.out.2; omega) (by rw [World.size_alloc]; have := hBq2.size; omega) ?_; intro g3 off3 c3 w11 hq5 hg11 hge))
                    have hS5 := blk_grown (hS4.alloc (.cells #[.int .i64 (t : Int)] 3)) hg11 (Ne.symm hgne2)
                    have hBq3 := below_grown (below_alloc hBq2 (.cells #[.int .i64 (t : Int)] 3)) hg11 hq4.low
                    have hg3ne : g3 ≠ wA.heap.size := by
                      rcases hge with e | e
                      · rw [e]; exact hgne2
                      · rw [World.size_alloc] at e; omega
                    clear hg11 hge hS4 hBq2 hq4
                    go_wp2_with (fail)
                    refine ⟨⟨j + 1, g3, off3, k2 + 1, c3, zs ++ [(t : Int)], upd L t true, rfl, by omega, rfl, hq5, hg3ne, hBq3, hS5, hmk.1, Lib.hid ⟨fun i h hij u hu => ?_, ?_⟩⟩, by simp only [intOf]; omega⟩
                    · by_cases e : i < j
                      · exact upd_up L t (hin.out.1 i h e u hu)
                      · have e2 : i = j := by omega
                        subst e2
                        rw [ht] at hu
                        have e3 : t = u := by omega
                        rw [← e3]
                        exact upd_self _ _ _
                    · have h1 := hin.out.2
                      have h2 := hmk.2.1
                      have h3 := hmk.2.2
                      rw [List.length_append, List.length_singleton]
                      omega
                · have hjlI : ¬ (j : Int) < p.l.length := by omega
                  go_wp2_with (fail)
                  refine ⟨⟨g2, off2, k2, c2, zs, L, rfl, hq3, hgne2, hBq, hS3, Hdn.out L zs hI3 fun u hu => ?_⟩, ?_⟩
                  · obtain ⟨i, hi, e⟩ := List.mem_iff_getElem.1 hu
                    exact hin.out.1 i hi (by omega) u e
                  · rw [cntF_blk hS3, hcnt]
                    simp only [lenV]
                    have h1 := hin.out.2
                    have h2 := hq3.nlen
                    omega
    · subst hk0
      go_upto_region 8 with (go_at_call 27; refine (num10_same _ _).mono ?_; rintro e wn ⟨rfl, hwn⟩; subst hwn)
      go_upto_region 9 with (first
        | (refine wpList_load_row rfl _ _ rfl _ rfl _ _ _ _ h5 Tryd.underlying25 rfl (info_nfa3.trans rfl) ?_)
        | (go_at_call 10; refine (kB _ wn hB35).mono ?_; rintro e w8 ⟨hD, hBb⟩; obtain ⟨y, ky, rfl, hTy, hAy⟩ := hD; unfold TV.C'; have hzc := Blk.new w8 33 Tryd.zeroCells33; rw [zero_cells_dfa] at hzc)
        | (rw [zero_cells_dfa]; refine wl_store_dfa rfl _ _ rfl w8.heap.size rfl rfl hzc ?_; intro w9 h9 hgg))
      have hBg := below_grown (below_alloc (Below.refl w8.heap.size w8) (.cells (dfaC (fun _ => 0) none 0 0 none 0 0 none 0 0) 33)) hgg (Nat.le_refl _)
      obtain ⟨g9, hge⟩ : ∃ y, y = w8.heap.size := ⟨_, rfl⟩
      rw [← hge] at h9 ⊢
      replace hTy := hTy.then_ hBg
      have hBn := below_then hBb hBg
      clear hzc hgg hBb hBg hge
      try simp only [Act.put]
      have hky : ky = 100 := kalt_low hAd (by have := (rem_small st 200 (by decide) (by decide)).2; omega) hAy
      subst hky
      clear hAy hTy
      replace h5 := blk_then h5 hBn
      have hB49 := below_then hB35 hBn
      replace hB2 := below_then hB2 hBn
      clear hBn
      go_upto_region 10 with (first
        | (refine wpList_load_row rfl _ _ rfl _ rfl _ _ _ _ h5 Tryd.underlying25 rfl (info_nfa3.trans rfl) ?_)
        | (go_at_call 10; refine (kB _ w9 hB49).mono ?_; rintro e w10 ⟨hD, hBb⟩; obtain ⟨z, kz, rfl, hTz, hAz⟩ := hD; unfold TV.C'; have hzc := Blk.new w10 33 Tryd.zeroCells33; rw [zero_cells_dfa] at hzc)
        | (rw [zero_cells_dfa]; refine wl_store_dfa rfl _ _ rfl w10.heap.size rfl rfl hzc ?_; intro w11 h11 hgg))
      have hBg := below_grown (below_alloc (Below.refl w10.heap.size w10) (.cells (dfaC (fun _ => 0) none 0 0 none 0 0 none 0 0) 33)) hgg (Nat.le_refl _)
      obtain ⟨g11, hge⟩ : ∃ y, y = w10.heap.size := ⟨_, rfl⟩
      rw [← hge] at h11 ⊢
      replace hTz := hTz.then_ hBg
      have hBn := below_then hBb hBg
      clear hzc hgg hBb hBg hge
      try simp only [Act.put]
      have hkz : kz = 100 := kalt_low hAd (by decide) hAz
      subst hkz
      clear hAz hTz
      replace hB2 := below_then hB2 hBn
      clear hBn
      refine wp_region_text 9 [eqS (.int .i64 (100)), eqS (.int .i64 (100)), eqS (.bool true), eqS (.bool true), eqS (vF (true && (true == true)) (.int .i64 (100))), eqS (vF (true && (true == true)) (.int .i64 (100))), eqS (vF (true && (true == true)) (.bool true)), eqS (.bool (true && true)), eqS (.bool (true && true))] [56, 57, 58, 59, 60, 61, 62, 63, 4] (by kernel_rfl) (by kernel_rfl) ?_ ?_
      · skip
        refine Steps.cons (fun a' w' hG hB dep => gs_move (want_none rfl) _ rfl (id (hG.other 10 rfl))) ?_
        refine Steps.cons (fun a' w' hG hB dep => gs_call (want_none rfl) _ _ _ rfl enter_num10 _ (map1 (dep 0 rfl 56 rfl)) ((num10_any _ _).mono fun e w2 ⟨hq9, hb9⟩ => ⟨_, hq9, hb9, rfl⟩)) ?_
        refine Steps.cons (fun a' w' hG hB dep => gs_eql_int (want_none rfl) _ _ _ _ rfl _ _ _ (dep 1 rfl 57 rfl) rfl (id (congrArg Value.bool rfl))) ?_
        refine Steps.cons (fun a' w' hG hB dep => gs_move (want_none rfl) _ rfl (id (dep 2 rfl 58 rfl))) ?_
        refine Steps.cons (fun a' w' hG hB dep => gs_guard (c := true) (b' := true) rfl rfl (dep 3 rfl 59 rfl) (fun hc he hw => gs_move hw _ rfl (Eq.trans (hG.other 12 rfl) (vF_yes (on_g hc he) _).symm)) (fun hn => vF_no hn _)) ?_
        refine Steps.cons (fun a' w' hG hB dep => gs_guard (c := true) (b' := true) rfl rfl (dep 3 rfl 59 rfl) (fun hc he hw => gs_call hw _ _ _ rfl enter_num10 _ (map1 (Eq.trans (dep 4 rfl 60 rfl) (vF_yes (on_g hc he) _))) ((num10_any _ _).mono fun e w2 ⟨hq9, hb9⟩ => ⟨_, hq9, hb9, (vF_yes (on_g hc he) _).symm⟩)) (fun hn => vF_no hn _)) ?_
        refine Steps.cons (fun a' w' hG hB dep => gs_guard (c := true) (b' := true) rfl rfl (dep 3 rfl 59 rfl) (fun hc he hw => gs_eql_int hw _ _ _ _ rfl _ _ _ (Eq.trans (dep 5 rfl 61 rfl) (vF_yes (on_g hc he) _)) rfl (Eq.trans (congrArg Value.bool rfl) (vF_yes (on_g hc he) _).symm)) (fun hn => vF_no hn _)) ?_
        refine Steps.cons (fun a' w' hG hB dep => gs_pick (want_none rfl) _ _ _ rfl true (dep 3 rfl 59 rfl) (id (pick_and2 (c := true) rfl (dep 6 rfl 62 rfl)))) ?_
        refine Steps.cons (fun a' w' hG hB dep => gs_assign (want_none rfl) _ rfl (id (dep 7 rfl 63 rfl))) ?_
        exact Steps.nil
      intro u wz hwz ans
      have hus4 : u 4 = (.bool (true && true)) := ans 8 4 (by decide) rfl
      clear ans
      simp only [putAll, List.foldl_cons, List.foldl_nil, Act.put, List.setIfInBounds_toArray, List.set_cons_zero, List.set_cons_succ, hus4]
      clear hus4
      simp only [List.drop]
      refine wpList_nil ?_
      replace hB2 := below_then hB2 hwz
      clear hwz
      go_wp2_with (fail)
      go_ret
      exact ⟨rfl, hB2⟩
end Go.Proofs.YtkedgombccdamaaDoor
namespace Go.Proofs.YtkedgombccdamaaDoor
open Go.ChangeShapes Go.WideShapes Go.ChangeAt Go.RowKit Go.Joins
set_option linter.unusedVariables false
set_option linter.unusedSimpArgs false
section
variable {H : Type}
theorem bulk_pos (d : DataW H) : 1 ≤ Rows.uptoBulk d := by
  cases d with
  | lit l => cases l <;> simp [Rows.uptoBulk]
  | _ => simp [Rows.uptoBulk]
theorem bulk_len : ∀ l : List (DataW H), l.length ≤ Rows.uptoBulkAll l
  | [] => by simp [Rows.uptoBulkAll]
  | d :: l => by
    have := bulk_pos d
    have := bulk_len l
    simp only [List.length_cons, Rows.uptoBulkAll]
    omega
theorem bulk_mem : ∀ (l : List (DataW H)) (d : DataW H), d ∈ l → Rows.uptoBulk d ≤ Rows.uptoBulkAll l
  | [], d, h => by simp at h
  | e :: l, d, h => by
    simp only [Rows.uptoBulkAll]
    rcases List.mem_cons.1 h with rfl | h
    · omega
    · have := bulk_mem l d h
      omega
end
section
variable {H : Type} {enc : TypeId × Value → H} {W : World} {held : Bool}
set_option maxRecDepth 100000 in
theorem trod_slice_q {α : Type} {ea : α → Array Value} {t e : TypeId} {size K fuel : Nat} {v : Value} {x : DataW H × List MemPlace}
    (ht : Tryd.prog.underlying t = some (.slice e)) (hc : Tryd.prog.cellsOf e = size) (hpos : 0 < size) (hsz : ∀ y, (ea y).size = size)
    (hel : ∀ (fuel : Nat) (cs : List Value) (x : DataW H × List MemPlace), DataW.trod enc Tryd.prog W 0 (fun _ => true) held fuel e cs = some x → Rows.uptoBulk x.1 + 1 ≤ K → ∃ y, cs = (ea y).toList)
    (hf : DataW.trod enc Tryd.prog W 0 (fun _ => true) held fuel t [v] = some x) (hK : Rows.uptoBulk x.1 ≤ K) :
    ∃ (A : Option Addr) (n c : Nat) (l : List α), v = .slice A n c ∧ n = l.length ∧ n ≤ K ∧ SliceOf W W.heap.size size ea A l := by
  rcases Deep.open_slice ht hf with ⟨hcs, hx⟩ | ⟨a, len, cap, m, n', D, Pl, hcs, _, hl, hm, hmm, hx, hi⟩
  · injection hcs with hcs _
    subst hcs
    exact ⟨none, 0, 0, [], rfl, rfl, by omega, .inl rfl⟩
  · injection hcs with hcs _
    subst hcs
    have hmc : m = cap := by simpa using hmm
    subst hmc
    rw [hx] at hK
    simp only [Rows.uptoBulk] at hK
    have hlen := bulk_len ((List.range len).map D)
    rw [List.length_map, List.length_range] at hlen
    have key : ∀ i, i < len → ∃ y : α, W.cells? 0 (a.add (i * size)) size = some (ea y).toList := by
      intro i hlt
      obtain ⟨cs', h1, h2⟩ := hi i (by omega)
      have hb := bulk_mem ((List.range len).map D) (D i) (List.mem_map_of_mem (List.mem_range.2 hlt))
      obtain ⟨y, hy⟩ := hel _ _ _ h2 (by simp only; omega)
      rw [hc] at h1
      exact ⟨y, by rw [h1, hy]⟩
    obtain ⟨l, hll, hp⟩ := choose_list len key
    refine ⟨some a, len, m, l, rfl, hll.symm, by omega, ?_⟩
    rcases Nat.eq_zero_or_pos l.length with h0 | h0
    · exact .inl (List.eq_nil_of_length_eq_zero h0)
    · have hcell : ∀ i (h : i < l.length) (j : Nat) (u : Value), (ea l[i])[j]? = some u → W.cell? ((a.add (i * size)).add j) = some u := by
        intro i h j u hu
        obtain ⟨_, hlen, hget⟩ := World.cells?_some (hp i h)
        have hj : j < size := by
          rw [← hsz l[i]]
          rcases Nat.lt_or_ge j (ea l[i]).size with h1 | h1
          · exact h1
          · rw [Array.getElem?_eq_none h1] at hu; cases hu
        rw [hget j hj]
        simpa using hu
      have hz : ∃ u, (ea l[0])[0]? = some u := ⟨_, Array.getElem?_eq_getElem (by rw [hsz]; exact hpos)⟩
      obtain ⟨u, hu⟩ := hz
      have h00 := hcell 0 h0 0 u hu
      have hsp : a.spot = none := by
        have := spot_none h00
        simpa [Addr.add] using this
      obtain ⟨b, off, spot⟩ := a
      simp only at hsp
      subst hsp
      have hb : b < W.heap.size := by
        have := block_lt_of_cell h00
        simpa [Addr.add] using this
      refine .inr ⟨b, off, rfl, hb, fun i h j u hu => ?_⟩
      have := hcell i h j u hu
      rw [addr_add, addr_add] at this
      exact this
variable {r : Go.Reach} {b0 : Nat} {v : Value} {d : DataW H} {ps : List MemPlace}
end
end Go.Proofs.YtkedgombccdamaaDoor
namespace Go.Proofs.YtkedgombccdamaaDoor
open Go.ChangeShapes Go.WideShapes Go.ChangeAt Go.RowKit Go.Joins
set_option linter.unusedVariables false
set_option linter.unusedSimpArgs false
section
variable {H : Type}
end
section
variable {H : Type} {enc : TypeId × Value → H} {W : World} {held : Bool} {r : Go.Reach} {b0 : Nat} {v : Value} {d : DataW H} {ps : List MemPlace} {fuel : Nat}
end
theorem witness_and {H : Type} {enc : TypeId × Value → H} {C : Checked} {os : Os} {f : FuncId} {fn : Func} {s : OpenSpec} {k : (H : Type) → List (DataW H) → Bool} (hk : s.cond = some k) {conds : List PathCond} {apart : Bool} {X : World → Prop} (modest : Bool) (w0 : World) (args : Array Value) (fuel : Nat) (hos : w0.os = os)
    (hsh : (w0.forCall (fun _ _ => 0) ⟨#[], args, []⟩).Shaped C.prog)
    (hok : Input.okWideB C.prog (w0.forCall (fun _ _ => 0) ⟨#[], args, []⟩) f ⟨#[], args, []⟩ = true)
    {x : List (DataW H) × List (DataW H) × List MemPlace} (hx : DataW.whole enc C.prog (w0.forCall (fun _ _ => 0) ⟨#[], args, []⟩).memory fn.params.toList s.vars apart args.toList fuel = some x)
    (hconds : conds.all (PathCond.test C.prog ⟨fn.params.toList, x.1, s.bare.plain.varTypes C.prog, x.2.1⟩) = true) (hkk : k H (x.1 ++ x.2.1) = true)
    (hsz : s.bare.sizedB enc C.prog fn apart (w0.forCall (fun _ _ => 0) ⟨#[], args, []⟩).memory args fuel = true)
    (hX : X (w0.forCall (fun _ _ => 0) ⟨#[], args, []⟩).memory) :
    ∃ (w : World) (tape : Tape) (i : Input), w.os = os ∧ (w.forCall tape i).Shaped C.prog ∧ i.vars = [] ∧ Input.okWide C.prog (w.forCall tape i) .any w.heap.size f i ∧
      ((s.pre enc C.prog fn conds apart (w.forCall tape i).memory i.args ∧ X (w.forCall tape i).memory) ∧ sizedMet enc C.prog fn s apart (w.forCall tape i).memory i.args) ∧ ({ modest := modest } : Assume).holds C.prog (lone (Frame.enter C.prog f i.args .normal) [] (w.forCall tape i)) :=
  ⟨w0, fun _ _ => 0, ⟨#[], args, []⟩, hos, hsh, (Input.okWide_of_okWideB (base := 0) hok).1, (Input.okWide_of_okWideB hok).2,
    ⟨⟨(OpenSpec.pre_some hk conds apart _ _).2 ⟨x.1, x.2.1, x.2.2, DataW.Whole_of_whole hx, hconds, hkk⟩, hX⟩, sizedMet_of_sizedB hsz⟩, by
    simp only [Assume.holds]
    exact ⟨by simp, by simp, fun _ => Modest.zero, by simp, by simp⟩⟩
end Go.Proofs.YtkedgombccdamaaDoor
namespace Go.Proofs.YtkedgombccdamaaDoor
open Go.ChangeShapes Go.WideShapes Go.ChangeAt Go.RowKit
open Go.ChangeMaps (open_string shut_string)
set_option linter.unusedVariables false
set_option linter.unusedSimpArgs false
theorem mx_of {W : World} (h : W.ShapedOpen Tryd.prog) : Mx W :=
  cell_of_shapedOpen_int (P := Tryd.prog) (g := 1) (t := 3) (zero := #[.int .i64 0]) h (of_decide_eq_true (by kernel_rfl)) (by kernel_rfl) rfl (by kernel_rfl) (by kernel_rfl) Tryd.underlying3
theorem bulk_str {H : Type} {l : List UInt8} {K : Nat} (h : Rows.uptoBulk (DataW.lit (H := H) (.string l)) ≤ K) : l.length ≤ K := by
  simp only [Rows.uptoBulk] at h
  omega
end Go.Proofs.YtkedgombccdamaaDoor
namespace Go.Proofs.YtkedgombccdamaaDoor
open Go.ChangeShapes Go.WideShapes Go.ChangeAt Go.RowKit Go.Joins
set_option linter.unusedVariables false
set_option linter.unusedSimpArgs false
theorem returnsInHanded_of_cond_and_shaped {H : Type} {enc : TypeId × Value → H} {a : Assume} {C : Checked} {os : Os} {f : FuncId} {fn : Func} {s : OpenSpec} {k : (H : Type) → List (DataW H) → Bool} (hk : s.cond = some k) {F : Stop.Interp} {conds : List PathCond} {apart fresh handsOn again : Bool} {X : World → Prop}
    (hX : ∀ (w w' : World), w.heap = w'.heap → X w → X w')
    (own : ownKnob C.prog.godebug = none) (started : os.Started) (noInit : C.prog.inits.idxOf? f = none) (hfn : C.prog.funcs[f]? = some fn)
    (witness : ∃ (w : World) (tape : Tape) (i : Input), w.os = os ∧ (w.forCall tape i).Shaped C.prog ∧ i.vars = [] ∧ Input.okWide C.prog (w.forCall tape i) .any w.heap.size f i ∧
      ((s.pre enc C.prog fn conds apart (w.forCall tape i).memory i.args ∧ X (w.forCall tape i).memory) ∧ sizedMet enc C.prog fn s apart (w.forCall tape i).memory i.args) ∧ a.holds C.prog (lone (Frame.enter C.prog f i.args .normal) [] (w.forCall tape i)))
    (contract : ∀ (W : World) (base : Nat) (args : Array Value) (ds gs : List (DataW H)) (before : List MemPlace),
      (∀ (j : Nat) t v, fn.params[j]? = some t → args[j]? = some v → Value.okWide C.prog W .any base t v) →
      DataW.Whole enc C.prog fn.params.toList s.vars apart W args.toList ds gs before →
      conds.all (PathCond.test C.prog ⟨fn.params.toList, ds, s.bare.plain.varTypes C.prog, gs⟩) = true → k H (ds ++ gs) = true → X W → W.ShapedOpen C.prog →
      a.holds C.prog (lone (Frame.enter C.prog f args .normal) [] W) →
      Calls C.prog f args W fun e W' => ∃ v, e = .returned v ∧ (s.at F).post enc C.prog fn apart fresh handsOn again W args v W') :
    ReturnsInHanded a C os f .any (fun w args => (s.pre enc C.prog fn conds apart w args ∧ X w) ∧ sizedMet enc C.prog fn s apart w args) ((s.at F).post enc C.prog fn apart fresh handsOn again) := by
  refine returnsInHanded_of_calls own started noInit witness ?_
  intro w tape i _ hsh _ hok hpre hholds
  obtain ⟨_, _, _, fn', hfn', _, _, _, _, hval⟩ := hok
  have e : fn' = fn := Option.some.inj (hfn'.symm.trans hfn)
  subst e
  obtain ⟨ds, gs, before, hw, hc, hkk⟩ := (OpenSpec.pre_some hk conds apart _ _).1 hpre.1.1
  have hw' := DataW.Whole.of_heap (w' := w.forCall tape i) (by rfl) hw
  refine (contract (w.forCall tape i) w.heap.size i.args ds gs before hval hw' hc hkk (hX _ _ (by rfl) hpre.1.2) hsh hholds).mono fun e W' ⟨v, he, hp⟩ => ?_
  subst he
  exact ChangeSpec.post_blind hp
set_option maxRecDepth 100000 in
theorem open_strs_q {H : Type} {enc : TypeId × Value → H} {W : World} {held : Bool} {K : Nat} {r : Go.Reach} {b0 : Nat} {v : Value} {d : DataW H} {ps : List MemPlace} (hval : Value.okWide Tryd.prog W r b0 47 v) (hd : DataW.Trod enc Tryd.prog W 0 (fun _ => true) held 47 v d ps) (hK : Rows.uptoBulk d ≤ K) :
    ∃ (A : Option Addr) (n c : Nat) (l : List ByteArray), v = .slice A n c ∧ n = l.length ∧ n ≤ K ∧ SliceOf W W.heap.size 1 encStr A l ∧ ∀ s ∈ l, s.size ≤ K := by
  obtain ⟨A0, n0, c0, rfl⟩ := okWide_slice Tryd.underlying47 hval
  obtain ⟨fuel, hf⟩ := hd
  obtain ⟨A, n, c, l, h1, h2, h3, h4⟩ := trod_slice_q (K := K) (v := .slice A0 n0 c0) (α := {s : ByteArray // s.size ≤ K}) (ea := fun s => encStr s.1) (size := 1) Tryd.underlying47 cells_string (by omega) (fun s => rfl) (fun fuel cs x hx hxK => by
    obtain ⟨s, hc, hd, _⟩ := DataW.trod_string Tryd.underlying9 hx
    refine ⟨⟨s, ?_⟩, hc⟩
    simp only [hd] at hxK
    have := bulk_str (H := H) (l := s.data.toList) (K := K) (by omega)
    simpa using this) (by simpa [Value.cells] using hf) hK
  refine ⟨A, n, c, l.map (·.1), h1, by rw [List.length_map]; exact h2, h3, ?_, fun s hs => ?_⟩
  · rcases h4 with h | ⟨b, off, e1, e2, e3⟩
    · exact .inl (by rw [h]; rfl)
    · refine .inr ⟨b, off, e1, e2, fun i hi => ?_⟩
      rw [List.getElem_map]
      exact e3 i (by simpa using hi)
  · obtain ⟨z, _, rfl⟩ := List.mem_map.1 hs
    exact z.2
end Go.Proofs.YtkedgombccdamaaDoor
