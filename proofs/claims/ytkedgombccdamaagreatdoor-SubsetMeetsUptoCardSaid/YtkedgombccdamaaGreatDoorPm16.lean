/- Part 16 of a proof; packed: the texts that it was made of follow one another. No condition beyond those named in each lemma. -/
import Derived.Test.YtkedgombccdamaaGreatDoorPm1
import Derived.Test.YtkedgombccdamaaGreatDoorPm10
import Derived.Test.YtkedgombccdamaaGreatDoorPm12
import Derived.Test.YtkedgombccdamaaGreatDoorPm15
import Derived.Test.YtkedgombccdamaaGreatDoorPm2
import Derived.Test.YtkedgombccdamaaGreatDoorPm6
import Derived.Test.YtkedgombccdamaaGreatDoorPm9
import Derived.Test.YtkedgombccdamaaGreatDoorRows
import Derived.JoinedCond
import Derived.LaidMore
import Derived.Lib.LaidTab
import Derived.Lib.SmallJoins
import Derived.OpenShut
import Derived.ProofKit
import Derived.Shelf.Vars
import Derived.Stop.LaidErr
import Derived.WalkKit
namespace Go.Proofs.YtkedgombccdamaaGreatDoor
open Go.RowKit Go.Shelf Go.Maps
set_option linter.unusedVariables false
set_option linter.unusedSimpArgs false
attribute [local go_sem] Oper.semAt_some
theorem enter_wrules (args : Array Value) (w : World) : (callFunc 10 args).run Tryz.prog w = .ok (.enter 10 args) w := by kernel_rfl
theorem enter_wend (args : Array Value) (w : World) : (callFunc 11 args).run Tryz.prog w = .ok (.enter 11 args) w := by kernel_rfl
theorem run_nil_walk (b o : Nat) (w : World) : (binOp .eql 38 (.pointer (some ⟨b, o, none⟩)) (.pointer none)).run Tryz.prog w = .ok (.bool false) w := by kernel_rfl
theorem str_pre {q : ByteArray} {i : Nat} (h : i ≤ q.size) : zyb (q.extract 0 i) = (zyb q).take i := by
 unfold zyb
 rw [← List.map_take]
 congr 1
 simp
theorem bytesN_L (q : ByteArray) : bytesN q = zyb q := by
 apply List.ext_getElem
 ·rw [bytesL_length]; simp [bytesN]
 ·intro i h1 h2
  have hi : i < q.size := by simpa [bytesN] using h1
  rw [bytesL_get q i hi h2]
  simp only [bytesN, List.getElem_map, List.getElem_range]
  exact chr_of hi
theorem bytesL_lt (q : ByteArray) : ∀ b ∈ zyb q, b < 256 := by
 intro b hb
 unfold zyb at hb
 obtain ⟨x, _, rfl⟩ := List.mem_map.1 hb
 exact x.toNat_lt
set_option maxRecDepth 100000 in
set_option maxHeartbeats 8000000 in
theorem subsetMeets_any (Ap : Option Addr) (np cp : Nat) (ps : List ByteArray) (hnp : np = ps.length) (hnp2 : np ≤ 1048576) (hcp : np ≤ cp) (q0 : ByteArray) (hq0 : q0.size ≤ 1048576) (w : World) (hM : Mx w) (hT : TabOk w) (hps : SliceOf w w.heap.size 1 encStr Ap ps) :
  Calls Tryz.prog 3 #[.slice Ap np cp, .string q0] w fun e w' => e = .returned (.bool true) ∧ Below w.heap.size w w' := by
 have kM := machine_any Ap np cp ps hnp hnp2 hcp w hM hps
 have hTp := hT.size
 have HT := Lib.hid hT
 clear hnp hnp2 hcp hM hps hT
 go_enter Tryz.func3, Tryz.ntmps3
 go_upto_region 1 with (fail)
 go_upto_region 2 with (first
  | (go_at_call 4; refine kM.mono ?_; clear kM; rintro e w1 ⟨hR, hB1⟩; unfold MRes at hR; obtain ⟨x, ok, rfl, hok⟩ := hR; unfold MV.C)
  | (refine zzw rfl _ _ rfl w1.heap.size _ _ _ _ _ _ _ rfl rfl _ _ _ _ _ _ _ (Blk.new _ _ _) ?_; intro w2 h5 hg5))
 have hBg := zqh (zqc (Below.refl w1.heap.size w1) (.cells #[.int .i64 0, .slice none 0 0, .slice none 0 0] 26)) hg5 (Nat.le_refl _)
 obtain ⟨g5, hg5e⟩ : ∃ y, y = w1.heap.size := ⟨_, rfl⟩
 rw [← hg5e] at h5 ⊢
 have hB2 := zqd hB1 hBg
 have Hok : Hid (ok = true → MachOut w2 w.heap.size x) := Lib.hid (fun h => by
  obtain ⟨a, b, c, d⟩ := hok h
  exact ⟨a, b, c, d.then_ hBg⟩)
 clear hg5 hg5e hBg hB1 hok
 try simp only [Act.put]
 go_upto_region 4 with (go_at_call 5; refine (known10_any w2).mono ?_; rintro e w3 ⟨rfl, hB3⟩)
 replace h5 := zqb h5 hB3
 replace hB2 := zqd hB2 hB3
 cases ok with
 | false =>
   go_wp2_with (fail)
   go_ret
   exact ⟨rfl, hB2⟩
 | true =>
   have hx := Hok.out rfl
   have hx3 : MachOut w3 w.heap.size x := by
    obtain ⟨a, b, c, d⟩ := hx
    exact ⟨a, b, c, d.then_ hB3⟩
   clear hB3 hx Hok
   have Hx := Lib.hid hx3
   clear hx3
   obtain ⟨K, hK⟩ : ∃ K : Nat, K = min q0.size 200 := ⟨_, rfl⟩
   have HK := Lib.hid hK
   clear hK
   go_upto_region 6 with (fail)
   go_cut [1] from 26 to 31 (fun a wx => w3 = wx ∧ a = .string (q0.extract 0 K))
   case first =>
    have hKe := HK.out
    by_cases h20 : (q0.size : Int) ≤ 200
    ·have e1 : K = q0.size := by omega
     have h20b : q0.size ≤ 200 := by omega
     subst e1
     clear hKe
     go_wp2_with (fail)
     go_meet
     exact ⟨rfl, congrArg (fun k => Value.string (q0.extract 0 k)) (by omega)⟩
    ·have e1 : K = 200 := by omega
     subst e1
     have h20e : (200 : Int) < q0.size := by omega
     have h20d : 200 ≤ q0.size := by omega
     clear hKe
     go_wp2_with (fail)
     go_meet
     exact ⟨rfl, congrArg (fun k => Value.string (q0.extract 0 k)) (by omega)⟩
   case rest =>
    obtain ⟨hwc, rfl⟩ := hcut
    obtain ⟨li, hli⟩ : ∃ q, q = q0.extract 0 K := ⟨_, rfl⟩
    rw [← hli]
    have hls : li.size ≤ 200 := by
     have h8 := HK.out
     rw [hli, ByteArray.size_extract]
     omega
    clear hli HK
    subst hwc
    have kB : ∀ (m : Int) (W : World), Below w3.heap.size w3 W → Calls Tryz.prog 6 #[.agg (nfaC x.F.s x.A x.F.E.length x.c x.B x.F.R.length x.d), .int .i64 m] W fun e w' => KRes x.F m e w' ∧ Below W.heap.size W w' := fun m W hW => kb_any Hx.out hW m
    have k1 := kB 300 w3 (Below.refl _ _)
    go_upto_region 8 with (first
     | (refine wpList_load_row rfl _ _ rfl _ rfl _ _ _ _ h5 Tryz.underlying26 rfl (info_nfa3.trans rfl) ?_)
     | (go_at_call 6; refine k1.mono ?_; clear k1; rintro e w4 ⟨hD, hBb⟩; obtain ⟨d, kd, rfl, hTd, hAd⟩ := hD; unfold TV.C'; have hzc := Blk.new w4 33 Tryz.zeroCells33; rw [zxd] at hzc)
     | (rw [zxd]; refine zyg rfl _ _ rfl w4.heap.size rfl rfl hzc ?_; intro w5 h7 hgg))
    have hBg := zqh (zqc (Below.refl w4.heap.size w4) (.cells (dfaC (fun _ => 0) none 0 0 none 0 0 none 0 0) 33)) hgg (Nat.le_refl _)
    obtain ⟨g7, hge⟩ : ∃ y, y = w4.heap.size := ⟨_, rfl⟩
    rw [← hge] at h7 ⊢
    replace hTd := hTd.then_ hBg
    have hBn := zqd hBb hBg
    clear hzc hgg hBb hBg hge
    try simp only [Act.put]
    replace h5 := zqb h5 hBn
    have hB35 := hBn
    replace hB2 := zqd hB2 hBn
    clear hBn kB
    have HTd := Lib.hid hTd
    clear hTd
    rcases hAd with ⟨hk0, hAd⟩ | ⟨hk0, hAd, hdz⟩
    ·subst hk0
     obtain ⟨n, hn, hnle, hdT⟩ := hAd
     have hn300 : n ≤ 300 := by omega
     have hn1 : 1 ≤ n := done_pos hn
     have hnl := nx_len hn hdT
     have hfe := fo_len hn (by omega) hdT
     have hfit : fitsB d.T = true := by rw [hdT]; exact fitsB_Q (by omega) hn
     have hDC : d.C' = (dfaC d.f d.A n d.c d.B d.fo.length d.d d.C d.en.length d.e) := by unfold TV.C'; rw [hnl]
     rw [hnl] at h7 ⊢
     have hx5 : MachOut w5 w.heap.size x := by
      obtain ⟨a, b, c, e⟩ := Hx.out
      exact ⟨a, b, c, e.then_ hB35⟩
     obtain ⟨N, hFN, hN1, hN2⟩ := hx5.fit
     have hT5 : TabOk w5 := HT.out.then_ hTp hB2
     have kBeg := begin_mo hFN (by have := hx5.few; omega) (by omega) hx5.lt (fits_right7 hFN) w5 (hx5.mo.1.slice_all zxt) (hx5.mo.2.slice_all zya) hT5
     unfold MV.C at kBeg
     have Hd := Lib.hid (And.intro hn (And.intro hdT (And.intro hnl (And.intro hfe (And.intro hDC hfit)))))
     have HN := Lib.hid (And.intro hFN (And.intro hN1 hN2))
     have HT5 := Lib.hid hT5
     have Hx5 := Lib.hid hx5
     clear hn hdT hnl hfe hfit hDC hnle hx5 hFN hN1 hN2 hT5 HT Hx
     go_upto_region 11 with (first
      | (go_at_call 7; refine (num10_same _ _).mono ?_; rintro e wn ⟨rfl, hwn⟩; subst wn)
      | (refine wpList_load_row rfl _ _ rfl _ rfl _ _ _ _ h5 Tryz.underlying26 rfl (info_nfa3.trans rfl) ?_)
      | (go_at_call 8; refine kBeg.mono ?_; clear kBeg; rintro e w6 ⟨⟨gw, gm, lo, nb, rfl, hgw, hWk⟩, hB6⟩))
     have hpos : 0 < w5.heap.size := HT5.out.size
     have hRd : ∀ W : World, Below w6.heap.size w6 W → Calls Tryz.prog 9 #[.agg (dfaC d.f d.A n d.c d.B d.fo.length d.d d.C d.en.length d.e)] W fun e w' => e = .returned (.bool true) ∧ Below W.heap.size W w' := fun W hW => by
      have h9 := s_right_any d W ((HTd.out.then_ hB6).then_ hW)
      rw [Hd.out.2.2.2.2.2, Hd.out.2.2.2.2.1] at h9
      exact h9
     have h50 := h5
     have h70 := h7
     replace h7 := zqb h7 hB6
     refine zqs 23 [eqS (.int .i64 (0)), eqS (.int .i64 (0)), eqS (.bool false), eqS (.bool false), eqS (vF (true && (false == false)) (.int .i64 (0))), eqS (vF (true && (false == false)) (.int .i64 (0))), eqS (vF (true && (false == false)) (.bool false)), eqS (.bool (false || false)), eqS (.bool (false || false)), eqS (vF (true && ((false || false) == false)) (.pointer (some ⟨gw, 0, none⟩))), eqS (vF (true && ((false || false) == false)) (.bool false)), eqS (.bool ((false || false) || false)), eqS (.bool ((false || false) || false)), eqS (vF (true && (((false || false) || false) == false)) (.agg (dfaC d.f d.A n d.c d.B d.fo.length d.d d.C d.en.length d.e))), eqS (vF (true && (((false || false) || false) == false)) (.bool true)), eqS (vF (true && (((false || false) || false) == false)) (.bool (!true))), eqS (.bool (((false || false) || false) || (!true))), eqS (.bool (((false || false) || false) || (!true))), eqS (vF (true && ((((false || false) || false) || (!true)) == false)) (.pointer (some ⟨g7, 256, none⟩))), eqS (vF (true && ((((false || false) || false) || (!true)) == false)) (.slice d.A n d.c)), eqS (vF (true && ((((false || false) || false) || (!true)) == false)) (.int .i64 (((n : Nat) : Int)))), eqS (vF (true && ((((false || false) || false) || (!true)) == false)) (.bool false)), eqS (.bool ((((false || false) || false) || (!true)) || false))] [44, 45, 46, 47, 48, 49, 50, 51, 52, 53, 54, 55, 56, 57, 58, 59, 60, 61, 62, 63, 64, 65, 66] (by kernel_rfl) (by kernel_rfl) ?_ ?_
     ·skip
      refine Steps.cons (fun a' w' hG hB dep => zqi (zqa rfl) _ rfl (id (hG.other 8 rfl))) ?_
      refine Steps.cons (fun a' w' hG hB dep => zze (zqa rfl) _ _ _ rfl zyo _ (map1 (dep 0 rfl 44 rfl)) ((num10_any _ _).mono fun e w2 ⟨hq9, hb9⟩ => ⟨_, hq9, hb9, rfl⟩)) ?_
      refine Steps.cons (fun a' w' hG hB dep => zzn (zqa rfl) _ _ _ _ rfl _ _ _ (dep 1 rfl 45 rfl) rfl (id (congrArg Value.bool rfl))) ?_
      refine Steps.cons (fun a' w' hG hB dep => zqi (zqa rfl) _ rfl (id (dep 2 rfl 46 rfl))) ?_
      refine Steps.cons (fun a' w' hG hB dep => zqf (c := true) (b' := false) rfl rfl (dep 3 rfl 47 rfl) (fun hc he hw => zqi hw _ rfl (Eq.trans (hG.other 10 rfl) (zqg (on_g hc he) _).symm)) (fun hn => vF_no hn _)) ?_
      refine Steps.cons (fun a' w' hG hB dep => zqf (c := true) (b' := false) rfl rfl (dep 3 rfl 47 rfl) (fun hc he hw => zze hw _ _ _ rfl zyo _ (map1 (Eq.trans (dep 4 rfl 48 rfl) (zqg (on_g hc he) _))) ((num10_any _ _).mono fun e w2 ⟨hq9, hb9⟩ => ⟨_, hq9, hb9, (zqg (on_g hc he) _).symm⟩)) (fun hn => vF_no hn _)) ?_
      refine Steps.cons (fun a' w' hG hB dep => zqf (c := true) (b' := false) rfl rfl (dep 3 rfl 47 rfl) (fun hc he hw => zzn hw _ _ _ _ rfl _ _ _ (Eq.trans (dep 5 rfl 49 rfl) (zqg (on_g hc he) _)) rfl (Eq.trans (congrArg Value.bool rfl) (zqg (on_g hc he) _).symm)) (fun hn => vF_no hn _)) ?_
      refine Steps.cons (fun a' w' hG hB dep => zqy (zqa rfl) _ _ _ rfl false (dep 3 rfl 47 rfl) (id (zzr (c := true) rfl (dep 6 rfl 50 rfl)))) ?_
      refine Steps.cons (fun a' w' hG hB dep => zqi (zqa rfl) _ rfl (id (dep 7 rfl 51 rfl))) ?_
      refine Steps.cons (fun a' w' hG hB dep => zqf (c := true) (b' := (false || false)) rfl rfl (dep 8 rfl 52 rfl) (fun hc he hw => zqi hw _ rfl (Eq.trans (hG.other 9 rfl) (zqg (on_g hc he) _).symm)) (fun hn => vF_no hn _)) ?_
      refine Steps.cons (fun a' w' hG hB dep => zqf (c := true) (b' := (false || false)) rfl rfl (dep 8 rfl 52 rfl) (fun hc he hw => gs_bin hw _ _ _ _ _ rfl _ _ _ (Eq.trans (dep 9 rfl 53 rfl) (zqg (on_g hc he) _)) rfl (by rfl) (run_nil_walk _ _ _) (zqg (on_g hc he) _).symm) (fun hn => vF_no hn _)) ?_
      refine Steps.cons (fun a' w' hG hB dep => zqy (zqa rfl) _ _ _ rfl (false || false) (dep 8 rfl 52 rfl) (id (zzr (c := true) rfl (dep 10 rfl 54 rfl)))) ?_
      refine Steps.cons (fun a' w' hG hB dep => zqi (zqa rfl) _ rfl (id (dep 11 rfl 55 rfl))) ?_
      refine Steps.cons (fun a' w' hG hB dep => zqf (c := true) (b' := ((false || false) || false)) rfl rfl (dep 12 rfl 56 rfl) (fun hc he hw => gs_load_dfa hw _ rfl g7 (hG.other 7 rfl) (zqb h7 hB) (zqg (on_g hc he) _).symm) (fun hn => vF_no hn _)) ?_
      refine Steps.cons (fun a' w' hG hB dep => zqf (c := true) (b' := ((false || false) || false)) rfl rfl (dep 12 rfl 56 rfl) (fun hc he hw => zze hw _ _ _ rfl enter_sright _ (map1 (Eq.trans (dep 13 rfl 57 rfl) (zqg (on_g hc he) _))) ((hRd _ hB).mono fun e w2 ⟨hq9, hb9⟩ => ⟨_, hq9, hb9, (zqg (on_g hc he) _).symm⟩)) (fun hn => vF_no hn _)) ?_
      refine Steps.cons (fun a' w' hG hB dep => zqf (c := true) (b' := ((false || false) || false)) rfl rfl (dep 12 rfl 56 rfl) (fun hc he hw => gs_not_bool hw _ _ rfl _ (Eq.trans (dep 14 rfl 58 rfl) (zqg (on_g hc he) _)) (zqg (on_g hc he) _).symm) (fun hn => vF_no hn _)) ?_
      refine Steps.cons (fun a' w' hG hB dep => zqy (zqa rfl) _ _ _ rfl ((false || false) || false) (dep 12 rfl 56 rfl) (id (zzr (c := true) rfl (dep 15 rfl 59 rfl)))) ?_
      refine Steps.cons (fun a' w' hG hB dep => zqi (zqa rfl) _ rfl (id (dep 16 rfl 60 rfl))) ?_
      refine Steps.cons (fun a' w' hG hB dep => zqf (c := true) (b' := (((false || false) || false) || (!true))) rfl rfl (dep 17 rfl 61 rfl) (fun hc he hw => zqn hw _ _ _ rfl g7 (0) (256) (hG.other 7 rfl) (fun wz => field_dfa_1 g7 (0) wz) (zqg (on_g hc he) _).symm) (fun hn => vF_no hn _)) ?_
      refine Steps.cons (fun a' w' hG hB dep => zqf (c := true) (b' := (((false || false) || false) || (!true))) rfl rfl (dep 17 rfl 61 rfl) (fun hc he hw => zqj hw _ _ rfl g7 (256) (Eq.trans (dep 18 rfl 62 rfl) (zqg (on_g hc he) _)) (.slice d.A n d.c) (blk_d1 (zqb h7 hB)) _ Tryz.underlying31 rfl (zqg (on_g hc he) _).symm) (fun hn => vF_no hn _)) ?_
      refine Steps.cons (fun a' w' hG hB dep => zqf (c := true) (b' := (((false || false) || false) || (!true))) rfl rfl (dep 17 rfl 61 rfl) (fun hc he hw => gs_len hw _ _ rfl under_rows _ n d.c (Eq.trans (dep 19 rfl 63 rfl) (zqg (on_g hc he) _)) (zqg (on_g hc he) _).symm) (fun hn => vF_no hn _)) ?_
      refine Steps.cons (fun a' w' hG hB dep => zqf (c := true) (b' := (((false || false) || false) || (!true))) rfl rfl (dep 17 rfl 61 rfl) (fun hc he hw => gs_gtr_int hw _ _ _ _ rfl _ _ _ (Eq.trans (dep 20 rfl 64 rfl) (zqg (on_g hc he) _)) rfl (Eq.trans (congrArg Value.bool (decide_eq_false (by omega))) (zqg (on_g hc he) _).symm)) (fun hn => vF_no hn _)) ?_
      refine Steps.cons (fun a' w' hG hB dep => zqy (zqa rfl) _ _ _ rfl (((false || false) || false) || (!true)) (dep 17 rfl 61 rfl) (id (zzr (c := true) rfl (dep 21 rfl 65 rfl)))) ?_
      exact Steps.nil
     intro u wz hwz ans
     have hus66 : u 66 = (.bool ((((false || false) || false) || (!true)) || false)) := ans 22 66 (by decide) rfl
     clear ans
     simp only [zqr, List.foldl_cons, List.foldl_nil, Act.put, List.setIfInBounds_toArray, List.set_cons_zero, List.set_cons_succ, hus66]
     clear hus66
     simp only [List.drop]
     refine wpList_nil ?_
     have hB56 := zqd hB6 hwz
     clear h5 h7
     replace hWk := hWk.then_ hwz
     rw [show ((((false || false) || false) || (!true)) || false) = false from rfl]
     clear hRd hB6 hwz
     have hNs : x.F.s.toNat = N := by have := HN.out.1.1; omega
     have hF : s_Fits d.T := fits_yes Hd.out.2.2.2.2.2
     obtain ⟨bF, oF, hFX, hbF, rF⟩ := HTd.out.fo.at_ (by have := Hd.out.2.2.2.1.1; have := Hd.out.2.2.1; omega)
     obtain ⟨bE, oE, hEX, hbE, rE⟩ := HTd.out.en.at_ (by have := Hd.out.2.2.2.1.2; have := Hd.out.2.2.1; omega)
     replace hFX := Lib.hid hFX
     replace hEX := Lib.hid hEX
     replace hF := Lib.hid hF
     go_wp2_with (fail)
     go_loopw [11, 12] (fun sv iv wr => ∃ i s : Nat, i ≤ li.size ∧ iv = .int .i64 i ∧ sv = .int .i64 s ∧ Hid (s = (TQ x.F n).au.run 0 ((zyb li).take i)) ∧ Below w5.heap.size w5 wr ∧ Hid (WalkOk lo nb wr gw gm N x.F.E x.F.R (goesW x.F.E N x.F.R ((zyb li).take i) (begW x.F.E N x.F.R)))) (fun _ iv _ => li.size - (intOf iv).toNat)
     case atStart => exact ⟨0, 0, by omega, rfl, rfl, Lib.hid rfl, hB56, Lib.hid hWk⟩
     case round =>
      clear hB56 hWk
      obtain ⟨i, s, hil, rfl, rfl, hs, hBr, hWk⟩ := hrel
      have hlt : ∀ b ∈ (zyb li).take i, b < 256 := fun b hb => bytesL_lt li b (List.mem_of_mem_take hb)
      obtain ⟨mo, hmo, hMW⟩ := runs_at (F := x.F) (by rw [hNs]; exact HN.out.2.1) Hd.out.1 ((zyb li).take i) hlt
      rw [← hs.out] at hmo
      rw [hNs] at hMW
      obtain ⟨hsn, hfo, hen⟩ := told_at Hd.out.1 hmo
      obtain ⟨vm, hvm⟩ : ∃ v, v = mo.met := ⟨_, rfl⟩
      obtain ⟨ve, hve⟩ : ∃ v, v = mo.end_ := ⟨_, rfl⟩
      rw [← hvm] at hfo
      rw [← hve] at hen
      have hfo2 : d.fo[s]? = some vm := by rw [← hfo, ← Hd.out.2.1]; rfl
      have hen2 : d.en[s]? = some ve := by rw [← hen, ← Hd.out.2.1]; rfl
      obtain ⟨hsf, hfv⟩ := List.getElem?_eq_some_iff.1 hfo2
      obtain ⟨hse, hev⟩ := List.getElem?_eq_some_iff.1 hen2
      have hkm : vm = (goesW x.F.E N x.F.R ((zyb li).take i) (begW x.F.E N x.F.R)).met := hvm.trans hMW.met
      have hke : ve = endW x.F.E N x.F.R (goesW x.F.E N x.F.R ((zyb li).take i) (begW x.F.E N x.F.R)) := hve.trans hMW.fin
      have hTr : TabOk wr := HT5.out.then_ hpos hBr
      have hTdr := HTd.out.then_ hBr
      have kRu : ∀ W : World, Below wr.heap.size wr W → Calls Tryz.prog 10 #[.pointer (some ⟨gw, 0, none⟩)] W fun e w' => e = .returned (.int .u32 ((vm : Nat) : Int)) ∧ Below W.heap.size W w' := fun W hW => by
       refine (rules_any lo nb gw gm N x.F.E x.F.R _ W (hWk.out.then_ hW)).mono ?_
       rintro e w' ⟨he9, rfl⟩
       rw [hkm]
       exact ⟨he9, Below.refl _ _⟩
      have kEn : ∀ W : World, Below wr.heap.size wr W → Calls Tryz.prog 11 #[.pointer (some ⟨gw, 0, none⟩)] W fun e w' => e = .returned (.int .u32 ((ve : Nat) : Int)) ∧ Below W.heap.size W w' := fun W hW => by
       have h9 := s_end_any lo nb gw gm N x.F.E x.F.R _ W (hWk.out.then_ hW) (hTr.then_ hTr.size hW)
       rw [← hke] at h9
       exact h9
      have hpre := str_pre hil
      have hrn : runV d (li.extract 0 i) = .tuple #[.int .u32 ((ve : Nat) : Int), .int .i64 0] := by
       rw [runV_yes Hd.out.2.2.2.2.2]
       unfold endOf
       rw [bytesN_L, hpre, Hd.out.2.1, ← hs.out, List.getD_eq_getElem?_getD, hen2]
       rfl
      have hlv : Mt.vF (li.extract 0 i) x.F = ve := by rw [← Mt.line_v HN.out.1, hpre, ← hke]
      have hpz : (li.extract 0 i).size ≤ 1000 := by rw [ByteArray.size_extract]; omega
      have kRn : ∀ W : World, Below wr.heap.size wr W → Calls Tryz.prog 12 #[.agg (dfaC d.f d.A n d.c d.B d.fo.length d.d d.C d.en.length d.e), .string (li.extract 0 i)] W fun e w' => e = .returned (.tuple #[.int .u32 ((ve : Nat) : Int), .int .i64 0]) ∧ Below W.heap.size W w' := fun W hW => by
       have h9 := srun_any d (li.extract 0 i) (by omega) W (hTdr.then_ hW)
       rw [hrn, Hd.out.2.2.2.2.1] at h9
       exact h9
      have kLi : ∀ W : World, Below wr.heap.size wr W → Calls Tryz.prog 13 #[.agg (nfaC x.F.s x.A x.F.E.length x.c x.B x.F.R.length x.d), .string (li.extract 0 i)] W fun e w' => e = .returned (.tuple #[.int .u32 ((ve : Nat) : Int), .int .i64 0]) ∧ Below W.heap.size W w' := fun W hW => by
       have hmo9 := (Hx5.out.mo.then_ hBr).then_ hW
       have h9 := line_mo HN.out.1 (by have := Hx5.out.few; omega) (by have := HN.out.2.2; omega) Hx5.out.lt (fits_right7 HN.out.1) W (hmo9.1.slice_all zxt) (hmo9.2.slice_all zya) (hTr.then_ hTr.size hW) (li.extract 0 i) hpz
       rw [hlv] at h9
       exact h9
      have cFv : ∀ X : World, Below wr.heap.size wr X → X.cell? ⟨bF, oF + s * 1, none⟩ = some (.int .u32 ((vm : Nat) : Int)) := fun X hB => by
       have h9 := rF s hsf 0 _ rfl
       rw [hfv] at h9
       exact cell_keep h9 hbF (zqd hBr hB)
      have cEv : ∀ X : World, Below wr.heap.size wr X → X.cell? ⟨bE, oE + s * 1, none⟩ = some (.int .u32 ((ve : Nat) : Int)) := fun X hB => by
       have h9 := rE s hse 0 _ rfl
       rw [hev] at h9
       exact cell_keep h9 hbE (zqd hBr hB)
      have h5 := zqb h50 hBr
      have h7 := zqb h70 hBr
      have HS := Lib.hid (And.intro hs.out (And.intro hsn (And.intro hsf hse)))
      have HM := Lib.hid (And.intro hkm hke)
      clear hmo hMW hfo hen hvm hve hfo2 hen2 hfv hev hkm hke hpre hrn hlv hpz hlt hs
      go_upto_region 16 with (fail)
      refine zql 18 [eqS (.pointer (some ⟨g7, 257, none⟩)), eqS (.slice (some ⟨bF, oF, none⟩) d.fo.length d.d), eqS (.int .i64 (((s : Nat) : Int))), eqS (.pointer (some ⟨bF, oF + s * 1, none⟩)), eqS (.int .u32 (((vm : Nat) : Int))), eqS (.pointer (some ⟨gw, 0, none⟩)), eqS (.int .u32 (((vm : Nat) : Int))), eqS (.bool false), eqS (.bool false), eqS (vF (true && (false == false)) (.pointer (some ⟨g7, 258, none⟩))), eqS (vF (true && (false == false)) (.slice (some ⟨bE, oE, none⟩) d.en.length d.e)), eqS (vF (true && (false == false)) (.int .i64 (((s : Nat) : Int)))), eqS (vF (true && (false == false)) (.pointer (some ⟨bE, oE + s * 1, none⟩))), eqS (vF (true && (false == false)) (.int .u32 (((ve : Nat) : Int)))), eqS (vF (true && (false == false)) (.pointer (some ⟨gw, 0, none⟩))), eqS (vF (true && (false == false)) (.int .u32 (((ve : Nat) : Int)))), eqS (vF (true && (false == false)) (.bool false)), eqS (.bool (false || false))] [69, 70, 71, 72, 73, 74, 75, 76, 77, 78, 79, 80, 81, 82, 83, 84, 85, 86] zqp (by kernel_rfl) (by kernel_rfl) ?_ ?_
      ·skip
       refine Steps.cons (fun a' w' hG hB dep => zqn (zqa rfl) _ _ _ rfl g7 (0) (257) (hG.other 7 rfl) (fun wz => field_dfa_2 g7 (0) wz) rfl) ?_
       refine Steps.cons (fun a' w' hG hB dep => zqj (zqa rfl) _ _ rfl g7 (257) (dep 0 rfl 69 rfl) (.slice (some ⟨bF, oF, none⟩) d.fo.length d.d) (by have h9 := blk_d2 (zqb h7 hB); rw [hFX.out] at h9; exact h9) _ Tryz.underlying24 rfl rfl) ?_
       refine Steps.cons (fun a' w' hG hB dep => zqi (zqa rfl) _ rfl (id (hG.other 11 rfl))) ?_
       refine Steps.cons (fun a' w' hG hB dep => zxu (zqa rfl) _ _ _ rfl zxa 1 size_ruleE bF oF d.fo.length d.d (s) (dep 1 rfl 70 rfl) (dep 2 rfl 71 rfl) hsf rfl) ?_
       refine Steps.cons (fun a' w' hG hB dep => zqj (zqa rfl) _ _ rfl bF (oF + s * 1) (dep 3 rfl 72 rfl) (.int .u32 (((vm : Nat) : Int))) (cFv _ hB) _ Tryz.underlying42 rfl rfl) ?_
       refine Steps.cons (fun a' w' hG hB dep => zqi (zqa rfl) _ rfl (id (hG.other 9 rfl))) ?_
       refine Steps.cons (fun a' w' hG hB dep => zze (zqa rfl) _ _ _ rfl enter_wrules _ (map1 (dep 5 rfl 74 rfl)) ((kRu _ hB).mono fun e w2 ⟨hq9, hb9⟩ => ⟨_, hq9, hb9, rfl⟩)) ?_
       refine Steps.cons (fun a' w' hG hB dep => zzn (zqa rfl) _ _ _ _ rfl _ _ _ (dep 4 rfl 73 rfl) (dep 6 rfl 75 rfl) (id (congrArg Value.bool (bne_self_eq_false _)))) ?_
       refine Steps.cons (fun a' w' hG hB dep => zqi (zqa rfl) _ rfl (id (dep 7 rfl 76 rfl))) ?_
       refine Steps.cons (fun a' w' hG hB dep => zqf (c := true) (b' := false) rfl rfl (dep 8 rfl 77 rfl) (fun hc he hw => zqn hw _ _ _ rfl g7 (0) (258) (hG.other 7 rfl) (fun wz => field_dfa_3 g7 (0) wz) (zqg (on_g hc he) _).symm) (fun hn => vF_no hn _)) ?_
       refine Steps.cons (fun a' w' hG hB dep => zqf (c := true) (b' := false) rfl rfl (dep 8 rfl 77 rfl) (fun hc he hw => zqj hw _ _ rfl g7 (258) (Eq.trans (dep 9 rfl 78 rfl) (zqg (on_g hc he) _)) (.slice (some ⟨bE, oE, none⟩) d.en.length d.e) (by have h9 := blk_d3 (zqb h7 hB); rw [hEX.out] at h9; exact h9) _ Tryz.underlying24 rfl (zqg (on_g hc he) _).symm) (fun hn => vF_no hn _)) ?_
       refine Steps.cons (fun a' w' hG hB dep => zqf (c := true) (b' := false) rfl rfl (dep 8 rfl 77 rfl) (fun hc he hw => zqi hw _ rfl (Eq.trans (hG.other 11 rfl) (zqg (on_g hc he) _).symm)) (fun hn => vF_no hn _)) ?_
       refine Steps.cons (fun a' w' hG hB dep => zqf (c := true) (b' := false) rfl rfl (dep 8 rfl 77 rfl) (fun hc he hw => zxu hw _ _ _ rfl zxa 1 size_ruleE bE oE d.en.length d.e (s) (Eq.trans (dep 10 rfl 79 rfl) (zqg (on_g hc he) _)) (Eq.trans (dep 11 rfl 80 rfl) (zqg (on_g hc he) _)) hse (zqg (on_g hc he) _).symm) (fun hn => vF_no hn _)) ?_
       refine Steps.cons (fun a' w' hG hB dep => zqf (c := true) (b' := false) rfl rfl (dep 8 rfl 77 rfl) (fun hc he hw => zqj hw _ _ rfl bE (oE + s * 1) (Eq.trans (dep 12 rfl 81 rfl) (zqg (on_g hc he) _)) (.int .u32 (((ve : Nat) : Int))) (cEv _ hB) _ Tryz.underlying42 rfl (zqg (on_g hc he) _).symm) (fun hn => vF_no hn _)) ?_
       refine Steps.cons (fun a' w' hG hB dep => zqf (c := true) (b' := false) rfl rfl (dep 8 rfl 77 rfl) (fun hc he hw => zqi hw _ rfl (Eq.trans (hG.other 9 rfl) (zqg (on_g hc he) _).symm)) (fun hn => vF_no hn _)) ?_
       refine Steps.cons (fun a' w' hG hB dep => zqf (c := true) (b' := false) rfl rfl (dep 8 rfl 77 rfl) (fun hc he hw => zze hw _ _ _ rfl enter_wend _ (map1 (Eq.trans (dep 14 rfl 83 rfl) (zqg (on_g hc he) _))) ((kEn _ hB).mono fun e w2 ⟨hq9, hb9⟩ => ⟨_, hq9, hb9, (zqg (on_g hc he) _).symm⟩)) (fun hn => vF_no hn _)) ?_
       refine Steps.cons (fun a' w' hG hB dep => zqf (c := true) (b' := false) rfl rfl (dep 8 rfl 77 rfl) (fun hc he hw => zzn hw _ _ _ _ rfl _ _ _ (Eq.trans (dep 13 rfl 82 rfl) (zqg (on_g hc he) _)) (Eq.trans (dep 15 rfl 84 rfl) (zqg (on_g hc he) _)) (Eq.trans (congrArg Value.bool (bne_self_eq_false _)) (zqg (on_g hc he) _).symm)) (fun hn => vF_no hn _)) ?_
       refine Steps.cons (fun a' w' hG hB dep => zqy (zqa rfl) _ _ _ rfl false (dep 8 rfl 77 rfl) (id (zzr (c := true) rfl (dep 16 rfl 85 rfl)))) ?_
       exact Steps.nil
      intro u w16 hw16 ans
      have hus86 : u 86 = (.bool (false || false)) := ans 17 86 (by decide) rfl
      clear ans
      simp only [zqr, List.foldl_cons, List.foldl_nil, Act.put, List.setIfInBounds_toArray, List.set_cons_zero, List.set_cons_succ, hus86]
      clear hus86
      simp only [List.drop]
      refine wpList_nil ?_
      replace h5 := zqb h5 hw16
      replace h7 := zqb h7 hw16
      replace kRn := fun (W : World) (hW : Below w16.heap.size w16 W) => kRn W (zqd hw16 hW)
      replace kLi := fun (W : World) (hW : Below w16.heap.size w16 W) => kLi W (zqd hw16 hW)
      replace cEv := fun (W : World) (hW : Below w16.heap.size w16 W) => cEv W (zqd hw16 hW)
      replace hBr := zqd hBr hw16
      replace hWk := Lib.hid (hWk.out.then_ hw16)
      rw [show (false || false) = false from rfl]
      clear kRu kEn cFv hw16
      go_upto_region 18 with (fail)
      refine zql 10 [eqS (.agg (dfaC d.f d.A n d.c d.B d.fo.length d.d d.C d.en.length d.e)), eqS (.string li), eqS (.int .i64 (((i : Nat) : Int))), eqS (.string (li.extract 0 i)), eqS (.tuple #[(.int .u32 (((ve : Nat) : Int))), (.int .i64 (0))]), eqS (.tuple #[(.int .u32 (((ve : Nat) : Int))), (.int .i64 (0))]), eqS (.int .u32 (((ve : Nat) : Int))), eqS (.int .i64 (0)), eqS (.int .u32 (((ve : Nat) : Int))), eqS (.int .i64 (0))] [88, 89, 90, 91, 92, 87, 93, 94, 13, 14] zqp (by kernel_rfl) (by kernel_rfl) ?_ ?_
      ·skip
       refine Steps.cons (fun a' w' hG hB dep => gs_load_dfa (zqa rfl) _ rfl g7 (hG.other 7 rfl) (zqb h7 hB) rfl) ?_
       refine Steps.cons (fun a' w' hG hB dep => zqi (zqa rfl) _ rfl (id (hG.other 1 rfl))) ?_
       refine Steps.cons (fun a' w' hG hB dep => zqi (zqa rfl) _ rfl (id (hG.other 12 rfl))) ?_
       refine Steps.cons (fun a' w' hG hB dep => gs_str_to (zqa rfl) _ _ rfl li i (dep 1 rfl 89 rfl) (dep 2 rfl 90 rfl) hil rfl) ?_
       refine Steps.cons (fun a' w' hG hB dep => zze (zqa rfl) _ _ _ rfl enter_srun _ (map2 (dep 0 rfl 88 rfl) (dep 3 rfl 91 rfl)) ((kRn _ hB).mono fun e w2 ⟨hq9, hb9⟩ => ⟨_, hq9, hb9, rfl⟩)) ?_
       refine Steps.cons (fun a' w' hG hB dep => zqi (zqa rfl) _ rfl (id (dep 4 rfl 92 rfl))) ?_
       refine Steps.cons (fun a' w' hG hB dep => gs_extract (zqa rfl) _ 0 rfl _ (dep 5 rfl 87 rfl) _ rfl rfl) ?_
       refine Steps.cons (fun a' w' hG hB dep => gs_extract (zqa rfl) _ 1 rfl _ (dep 5 rfl 87 rfl) _ rfl rfl) ?_
       refine Steps.cons (fun a' w' hG hB dep => zxl (zqa rfl) _ rfl (id (dep 6 rfl 93 rfl))) ?_
       refine Steps.cons (fun a' w' hG hB dep => zxl (zqa rfl) _ rfl (id (dep 7 rfl 94 rfl))) ?_
       exact Steps.nil
      intro u w18 hw18 ans
      have hus13 : u 13 = (.int .u32 (((ve : Nat) : Int))) := ans 8 13 (by decide) rfl
      have hus14 : u 14 = (.int .i64 (0)) := ans 9 14 (by decide) rfl
      clear ans
      simp only [zqr, List.foldl_cons, List.foldl_nil, Act.put, List.setIfInBounds_toArray, List.set_cons_zero, List.set_cons_succ, hus13, hus14]
      clear hus13 hus14
      simp only [List.drop]
      refine wpList_nil ?_
      replace h5 := zqb h5 hw18
      replace h7 := zqb h7 hw18
      replace kLi := fun (W : World) (hW : Below w18.heap.size w18 W) => kLi W (zqd hw18 hW)
      replace cEv := fun (W : World) (hW : Below w18.heap.size w18 W) => cEv W (zqd hw18 hW)
      replace hBr := zqd hBr hw18
      replace hWk := Lib.hid (hWk.out.then_ hw18)
      clear kRn hw18
      go_upto_region 19 with (fail)
      refine zql 10 [eqS (.agg (nfaC x.F.s x.A x.F.E.length x.c x.B x.F.R.length x.d)), eqS (.string li), eqS (.int .i64 (((i : Nat) : Int))), eqS (.string (li.extract 0 i)), eqS (.tuple #[(.int .u32 (((ve : Nat) : Int))), (.int .i64 (0))]), eqS (.tuple #[(.int .u32 (((ve : Nat) : Int))), (.int .i64 (0))]), eqS (.int .u32 (((ve : Nat) : Int))), eqS (.int .i64 (0)), eqS (.int .u32 (((ve : Nat) : Int))), eqS (.int .i64 (0))] [96, 97, 98, 99, 100, 95, 101, 102, 15, 16] zqp (by kernel_rfl) (by kernel_rfl) ?_ ?_
      ·skip
       refine Steps.cons (fun a' w' hG hB dep => gs_load_nfa (zqa rfl) _ rfl g5 (hG.other 5 rfl) _ _ _ _ _ _ _ (zqb h5 hB) rfl) ?_
       refine Steps.cons (fun a' w' hG hB dep => zqi (zqa rfl) _ rfl (id (hG.other 1 rfl))) ?_
       refine Steps.cons (fun a' w' hG hB dep => zqi (zqa rfl) _ rfl (id (hG.other 12 rfl))) ?_
       refine Steps.cons (fun a' w' hG hB dep => gs_str_to (zqa rfl) _ _ rfl li i (dep 1 rfl 97 rfl) (dep 2 rfl 98 rfl) hil rfl) ?_
       refine Steps.cons (fun a' w' hG hB dep => zze (zqa rfl) _ _ _ rfl enter_line8 _ (map2 (dep 0 rfl 96 rfl) (dep 3 rfl 99 rfl)) ((kLi _ hB).mono fun e w2 ⟨hq9, hb9⟩ => ⟨_, hq9, hb9, rfl⟩)) ?_
       refine Steps.cons (fun a' w' hG hB dep => zqi (zqa rfl) _ rfl (id (dep 4 rfl 100 rfl))) ?_
       refine Steps.cons (fun a' w' hG hB dep => gs_extract (zqa rfl) _ 0 rfl _ (dep 5 rfl 95 rfl) _ rfl rfl) ?_
       refine Steps.cons (fun a' w' hG hB dep => gs_extract (zqa rfl) _ 1 rfl _ (dep 5 rfl 95 rfl) _ rfl rfl) ?_
       refine Steps.cons (fun a' w' hG hB dep => zxl (zqa rfl) _ rfl (id (dep 6 rfl 101 rfl))) ?_
       refine Steps.cons (fun a' w' hG hB dep => zxl (zqa rfl) _ rfl (id (dep 7 rfl 102 rfl))) ?_
       exact Steps.nil
      intro u w19 hw19 ans
      have hus15 : u 15 = (.int .u32 (((ve : Nat) : Int))) := ans 8 15 (by decide) rfl
      have hus16 : u 16 = (.int .i64 (0)) := ans 9 16 (by decide) rfl
      clear ans
      simp only [zqr, List.foldl_cons, List.foldl_nil, Act.put, List.setIfInBounds_toArray, List.set_cons_zero, List.set_cons_succ, hus15, hus16]
      clear hus15 hus16
      simp only [List.drop]
      refine wpList_nil ?_
      replace h5 := zqb h5 hw19
      replace h7 := zqb h7 hw19
      replace cEv := fun (W : World) (hW : Below w19.heap.size w19 W) => cEv W (zqd hw19 hW)
      replace hBr := zqd hBr hw19
      replace hWk := Lib.hid (hWk.out.then_ hw19)
      clear kLi hw19
      try go_upto_region 20 with (fail)
      refine zqs 22 [eqS (.int .i64 (0)), eqS (.int .i64 (0)), eqS (.bool false), eqS (.bool false), eqS (vF (true && (false == false)) (.int .i64 (0))), eqS (vF (true && (false == false)) (.int .i64 (0))), eqS (vF (true && (false == false)) (.bool false)), eqS (.bool (false || false)), eqS (.bool (false || false)), eqS (vF (true && ((false || false) == false)) (.int .u32 (((ve : Nat) : Int)))), eqS (vF (true && ((false || false) == false)) (.int .u32 (((ve : Nat) : Int)))), eqS (vF (true && ((false || false) == false)) (.bool false)), eqS (.bool ((false || false) || false)), eqS (.bool ((false || false) || false)), eqS (vF (true && (((false || false) || false) == false)) (.int .u32 (((ve : Nat) : Int)))), eqS (vF (true && (((false || false) || false) == false)) (.pointer (some ⟨g7, 258, none⟩))), eqS (vF (true && (((false || false) || false) == false)) (.slice (some ⟨bE, oE, none⟩) d.en.length d.e)), eqS (vF (true && (((false || false) || false) == false)) (.int .i64 (((s : Nat) : Int)))), eqS (vF (true && (((false || false) || false) == false)) (.pointer (some ⟨bE, oE + s * 1, none⟩))), eqS (vF (true && (((false || false) || false) == false)) (.int .u32 (((ve : Nat) : Int)))), eqS (vF (true && (((false || false) || false) == false)) (.bool false)), eqS (.bool (((false || false) || false) || false))] [103, 104, 105, 106, 107, 108, 109, 110, 111, 112, 113, 114, 115, 116, 117, 118, 119, 120, 121, 122, 123, 124] (by kernel_rfl) (by kernel_rfl) ?_ ?_
      ·skip
       refine Steps.cons (fun a' w' hG hB dep => zqi (zqa rfl) _ rfl (id (hG.other 14 rfl))) ?_
       refine Steps.cons (fun a' w' hG hB dep => zze (zqa rfl) _ _ _ rfl zyo _ (map1 (dep 0 rfl 103 rfl)) ((num10_any _ _).mono fun e w2 ⟨hq9, hb9⟩ => ⟨_, hq9, hb9, rfl⟩)) ?_
       refine Steps.cons (fun a' w' hG hB dep => zzn (zqa rfl) _ _ _ _ rfl _ _ _ (dep 1 rfl 104 rfl) rfl (id (congrArg Value.bool rfl))) ?_
       refine Steps.cons (fun a' w' hG hB dep => zqi (zqa rfl) _ rfl (id (dep 2 rfl 105 rfl))) ?_
       refine Steps.cons (fun a' w' hG hB dep => zqf (c := true) (b' := false) rfl rfl (dep 3 rfl 106 rfl) (fun hc he hw => zqi hw _ rfl (Eq.trans (hG.other 16 rfl) (zqg (on_g hc he) _).symm)) (fun hn => vF_no hn _)) ?_
       refine Steps.cons (fun a' w' hG hB dep => zqf (c := true) (b' := false) rfl rfl (dep 3 rfl 106 rfl) (fun hc he hw => zze hw _ _ _ rfl zyo _ (map1 (Eq.trans (dep 4 rfl 107 rfl) (zqg (on_g hc he) _))) ((num10_any _ _).mono fun e w2 ⟨hq9, hb9⟩ => ⟨_, hq9, hb9, (zqg (on_g hc he) _).symm⟩)) (fun hn => vF_no hn _)) ?_
       refine Steps.cons (fun a' w' hG hB dep => zqf (c := true) (b' := false) rfl rfl (dep 3 rfl 106 rfl) (fun hc he hw => zzn hw _ _ _ _ rfl _ _ _ (Eq.trans (dep 5 rfl 108 rfl) (zqg (on_g hc he) _)) rfl (Eq.trans (congrArg Value.bool rfl) (zqg (on_g hc he) _).symm)) (fun hn => vF_no hn _)) ?_
       refine Steps.cons (fun a' w' hG hB dep => zqy (zqa rfl) _ _ _ rfl false (dep 3 rfl 106 rfl) (id (zzr (c := true) rfl (dep 6 rfl 109 rfl)))) ?_
       refine Steps.cons (fun a' w' hG hB dep => zqi (zqa rfl) _ rfl (id (dep 7 rfl 110 rfl))) ?_
       refine Steps.cons (fun a' w' hG hB dep => zqf (c := true) (b' := (false || false)) rfl rfl (dep 8 rfl 111 rfl) (fun hc he hw => zqi hw _ rfl (Eq.trans (hG.other 13 rfl) (zqg (on_g hc he) _).symm)) (fun hn => vF_no hn _)) ?_
       refine Steps.cons (fun a' w' hG hB dep => zqf (c := true) (b' := (false || false)) rfl rfl (dep 8 rfl 111 rfl) (fun hc he hw => zqi hw _ rfl (Eq.trans (hG.other 15 rfl) (zqg (on_g hc he) _).symm)) (fun hn => vF_no hn _)) ?_
       refine Steps.cons (fun a' w' hG hB dep => zqf (c := true) (b' := (false || false)) rfl rfl (dep 8 rfl 111 rfl) (fun hc he hw => zzn hw _ _ _ _ rfl _ _ _ (Eq.trans (dep 9 rfl 112 rfl) (zqg (on_g hc he) _)) (Eq.trans (dep 10 rfl 113 rfl) (zqg (on_g hc he) _)) (Eq.trans (congrArg Value.bool (bne_self_eq_false _)) (zqg (on_g hc he) _).symm)) (fun hn => vF_no hn _)) ?_
       refine Steps.cons (fun a' w' hG hB dep => zqy (zqa rfl) _ _ _ rfl (false || false) (dep 8 rfl 111 rfl) (id (zzr (c := true) rfl (dep 11 rfl 114 rfl)))) ?_
       refine Steps.cons (fun a' w' hG hB dep => zqi (zqa rfl) _ rfl (id (dep 12 rfl 115 rfl))) ?_
       refine Steps.cons (fun a' w' hG hB dep => zqf (c := true) (b' := ((false || false) || false)) rfl rfl (dep 13 rfl 116 rfl) (fun hc he hw => zqi hw _ rfl (Eq.trans (hG.other 13 rfl) (zqg (on_g hc he) _).symm)) (fun hn => vF_no hn _)) ?_
       refine Steps.cons (fun a' w' hG hB dep => zqf (c := true) (b' := ((false || false) || false)) rfl rfl (dep 13 rfl 116 rfl) (fun hc he hw => zqn hw _ _ _ rfl g7 (0) (258) (hG.other 7 rfl) (fun wz => field_dfa_3 g7 (0) wz) (zqg (on_g hc he) _).symm) (fun hn => vF_no hn _)) ?_
       refine Steps.cons (fun a' w' hG hB dep => zqf (c := true) (b' := ((false || false) || false)) rfl rfl (dep 13 rfl 116 rfl) (fun hc he hw => zqj hw _ _ rfl g7 (258) (Eq.trans (dep 15 rfl 118 rfl) (zqg (on_g hc he) _)) (.slice (some ⟨bE, oE, none⟩) d.en.length d.e) (by have h9 := blk_d3 (zqb h7 hB); rw [hEX.out] at h9; exact h9) _ Tryz.underlying24 rfl (zqg (on_g hc he) _).symm) (fun hn => vF_no hn _)) ?_
       refine Steps.cons (fun a' w' hG hB dep => zqf (c := true) (b' := ((false || false) || false)) rfl rfl (dep 13 rfl 116 rfl) (fun hc he hw => zqi hw _ rfl (Eq.trans (hG.other 11 rfl) (zqg (on_g hc he) _).symm)) (fun hn => vF_no hn _)) ?_
       refine Steps.cons (fun a' w' hG hB dep => zqf (c := true) (b' := ((false || false) || false)) rfl rfl (dep 13 rfl 116 rfl) (fun hc he hw => zxu hw _ _ _ rfl zxa 1 size_ruleE bE oE d.en.length d.e (s) (Eq.trans (dep 16 rfl 119 rfl) (zqg (on_g hc he) _)) (Eq.trans (dep 17 rfl 120 rfl) (zqg (on_g hc he) _)) hse (zqg (on_g hc he) _).symm) (fun hn => vF_no hn _)) ?_
       refine Steps.cons (fun a' w' hG hB dep => zqf (c := true) (b' := ((false || false) || false)) rfl rfl (dep 13 rfl 116 rfl) (fun hc he hw => zqj hw _ _ rfl bE (oE + s * 1) (Eq.trans (dep 18 rfl 121 rfl) (zqg (on_g hc he) _)) (.int .u32 (((ve : Nat) : Int))) (cEv _ hB) _ Tryz.underlying42 rfl (zqg (on_g hc he) _).symm) (fun hn => vF_no hn _)) ?_
       refine Steps.cons (fun a' w' hG hB dep => zqf (c := true) (b' := ((false || false) || false)) rfl rfl (dep 13 rfl 116 rfl) (fun hc he hw => zzn hw _ _ _ _ rfl _ _ _ (Eq.trans (dep 14 rfl 117 rfl) (zqg (on_g hc he) _)) (Eq.trans (dep 19 rfl 122 rfl) (zqg (on_g hc he) _)) (Eq.trans (congrArg Value.bool (bne_self_eq_false _)) (zqg (on_g hc he) _).symm)) (fun hn => vF_no hn _)) ?_
       refine Steps.cons (fun a' w' hG hB dep => zqy (zqa rfl) _ _ _ rfl ((false || false) || false) (dep 13 rfl 116 rfl) (id (zzr (c := true) rfl (dep 20 rfl 123 rfl)))) ?_
       exact Steps.nil
      intro u w20 hw20 ans
      have hus124 : u 124 = (.bool (((false || false) || false) || false)) := ans 21 124 (by decide) rfl
      clear ans
      simp only [zqr, List.foldl_cons, List.foldl_nil, Act.put, List.setIfInBounds_toArray, List.set_cons_zero, List.set_cons_succ, hus124]
      clear hus124
      simp only [List.drop]
      refine wpList_nil ?_
      replace h5 := zqb h5 hw20
      replace h7 := zqb h7 hw20
      replace hBr := zqd hBr hw20
      replace hWk := Lib.hid (hWk.out.then_ hw20)
      rw [show (((false || false) || false) || false) = false from rfl]
      clear cEv hw20
      by_cases hil2 : i < li.size
      ·have hilI : (i : Int) < li.size := by omega
       have hneI : ¬ (i : Int) = li.size := by omega
       have hsd : s < d.rs.length := by rw [Hd.out.2.2.1]; exact HS.out.2.1
       have hT20 := HTd.out.then_ hBr
       obtain ⟨bN, oN, bR, oR, m, nr, cr, hAx, hfm, hmn, _, _, cN, cR⟩ := nx_cells hF.out hT20 hsd (Ere.chr_lt li i)
       obtain ⟨uq, hu⟩ : ∃ u, d.T.au.go s (Ere.chr li i) = u := ⟨_, rfl⟩
       rw [hu] at cR
       have hsn := HS.out.2.1
       have htk := bytesL_take li i hil2
       have hch : Ere.chr li i = (li[i]).toNat := chr_of hil2
       have hu2 : Hid (uq = (TQ x.F n).au.run 0 ((zyb li).take (i + 1))) := Lib.hid (by
        rw [htk, run_snoc, ← HS.out.1, ← hu, hch, Hd.out.2.1])
       have hgo : Hid (goesW x.F.E N x.F.R ((zyb li).take (i + 1)) (begW x.F.E N x.F.R) = byteW x.F.E N x.F.R (goesW x.F.E N x.F.R ((zyb li).take i) (begW x.F.E N x.F.R)) (li[i]).toNat) := Lib.hid (by
        rw [htk, goesW_snoc])
       clear hu htk hch
       go_upto_region 24 with (fail)
       refine zql 13 [eqS (.pointer (some ⟨g7, 256, none⟩)), eqS (.slice (some ⟨bN, oN, none⟩) n d.c), eqS (.int .i64 (((s : Nat) : Int))), eqS (.pointer (some ⟨bN, oN + s * 1, none⟩)), eqS (.slice (some ⟨bR, oR, none⟩) nr cr), eqS (.string li), eqS (.int .i64 (((i : Nat) : Int))), eqS (.int .u8 (((Ere.chr li i : Nat) : Int))), eqS (.pointer (some ⟨g7, 0, none⟩)), eqS (.pointer (some ⟨g7, 0 + (Ere.chr li i) * 1, none⟩)), eqS (.int .i64 (((m : Nat) : Int))), eqS (.pointer (some ⟨bR, oR + m * 1, none⟩)), eqS (.int .i64 (((uq : Nat) : Int)))] [129, 130, 131, 132, 133, 134, 135, 136, 137, 138, 139, 140, 141] zqp (by kernel_rfl) (by kernel_rfl) ?_ ?_
       ·skip
        refine Steps.cons (fun a' w' hG hB dep => zqn (zqa rfl) _ _ _ rfl g7 (0) (256) (hG.other 7 rfl) (fun wz => field_dfa_1 g7 (0) wz) rfl) ?_
        refine Steps.cons (fun a' w' hG hB dep => zqj (zqa rfl) _ _ rfl g7 (256) (dep 0 rfl 129 rfl) (.slice (some ⟨bN, oN, none⟩) n d.c) (by have h9 := blk_d1 (zqb h7 hB); rw [hAx] at h9; exact h9) _ Tryz.underlying31 rfl rfl) ?_
        refine Steps.cons (fun a' w' hG hB dep => zqi (zqa rfl) _ rfl (id (hG.other 11 rfl))) ?_
        refine Steps.cons (fun a' w' hG hB dep => zxu (zqa rfl) _ _ _ rfl under_rows 1 size_rowE bN oN n d.c (s) (dep 1 rfl 130 rfl) (dep 2 rfl 131 rfl) hsn rfl) ?_
        refine Steps.cons (fun a' w' hG hB dep => zqj (zqa rfl) _ _ rfl bN (oN + s * 1) (dep 3 rfl 132 rfl) (.slice (some ⟨bR, oR, none⟩) nr cr) (cN hB) _ Tryz.underlying47 rfl rfl) ?_
        refine Steps.cons (fun a' w' hG hB dep => zqi (zqa rfl) _ rfl (id (hG.other 1 rfl))) ?_
        refine Steps.cons (fun a' w' hG hB dep => zqi (zqa rfl) _ rfl (id (hG.other 12 rfl))) ?_
        refine Steps.cons (fun a' w' hG hB dep => gs_index_str (zqa rfl) _ _ rfl li i (dep 5 rfl 134 rfl) (dep 6 rfl 135 rfl) hil2 rfl) ?_
        refine Steps.cons (fun a' w' hG hB dep => zqn (zqa rfl) _ _ _ rfl g7 (0) (0) (hG.other 7 rfl) (fun wz => field_dfa_0 g7 (0) wz) rfl) ?_
        refine Steps.cons (fun a' w' hG hB dep => gs_index_arr8 (zqa rfl) _ _ rfl g7 (Ere.chr li i) (dep 8 rfl 137 rfl) (dep 7 rfl 136 rfl) (Ere.chr_lt li i) rfl) ?_
        refine Steps.cons (fun a' w' hG hB dep => zqj (zqa rfl) _ _ rfl g7 (0 + (Ere.chr li i) * 1) (dep 9 rfl 138 rfl) (.int .i64 (((m : Nat) : Int))) (by have h9 := blk_cls (zqb h7 hB) (Ere.chr_lt li i); rw [hfm] at h9; exact h9) _ Tryz.underlying3 rfl rfl) ?_
        refine Steps.cons (fun a' w' hG hB dep => zxu (zqa rfl) _ _ _ rfl under_ints 1 size_intE bR oR nr cr (m) (dep 4 rfl 133 rfl) (dep 10 rfl 139 rfl) hmn rfl) ?_
        refine Steps.cons (fun a' w' hG hB dep => zqj (zqa rfl) _ _ rfl bR (oR + m * 1) (dep 11 rfl 140 rfl) (.int .i64 (((uq : Nat) : Int))) (cR hB) _ Tryz.underlying3 rfl rfl) ?_
        exact Steps.nil
       intro u w24 hw24 ans
       have hus141 : u 141 = (.int .i64 ((uq : Nat) : Int)) := ans 12 141 (by decide) rfl
       clear ans
       simp only [zqr, List.foldl_cons, List.foldl_nil, Act.put, List.setIfInBounds_toArray, List.set_cons_zero, List.set_cons_succ, hus141]
       clear hus141
       simp only [List.drop]
       have hBr2 := zqd hBr hw24
       have hW24 := hWk.out.then_ hw24
       have hT24 := (HT5.out.then_ hpos hBr2)
       clear cN cR hAx hfm hmn hw24
       go_wp2_with (go_at_call 14; refine (s_byte_any lo nb gw gm N x.F.E x.F.R _ (li[i]).toNat (UInt8.toNat_lt _) w24 hW24 hT24).mono ?_; rintro e w9 ⟨rfl, hWc, hgc⟩)
       exact ⟨⟨i + 1, uq, by omega, rfl, rfl, hu2, zqh hBr2 hgc hgw, Lib.hid (by rw [hgo.out]; exact hWc)⟩, by simp only [intOf]; omega⟩
      ·have hie : i = li.size := by omega
       have hieI : (i : Int) = li.size := by omega
       go_wp2_with (fail)
       go_ret
       exact ⟨rfl, zqd hB2 hBr⟩
    ·subst hk0
     go_wp2_with (go_at_call 7; refine (num10_same _ _).mono ?_; rintro e wn ⟨rfl, hwn⟩; subst wn)
     go_ret
     exact ⟨rfl, hB2⟩
end Go.Proofs.YtkedgombccdamaaGreatDoor
namespace Go.Proofs.YtkedgombccdamaaGreatDoor
open Go.ChangeShapes Go.WideShapes Go.ChangeAt Go.RowKit Go.Joins
set_option linter.unusedVariables false
set_option linter.unusedSimpArgs false
section
variable {H : Type}
theorem bulk_pos (d : DataW H) : 1 ≤ Rows.uptoBulk d := by
 cases d with
 | lit l => cases l <;> simp [Rows.uptoBulk]
 | _ => simp [Rows.uptoBulk]
theorem bulk_len : ∀ l : List (DataW H), l.length ≤ Rows.uptoBulkAll l
 | [] => by simp [Rows.uptoBulkAll]
 | d :: l => by
   have := bulk_pos d
   have := bulk_len l
   simp only [List.length_cons, Rows.uptoBulkAll]
   omega
theorem bulk_mem : ∀ (l : List (DataW H)) (d : DataW H), d ∈ l → Rows.uptoBulk d ≤ Rows.uptoBulkAll l
 | [], d, h => by simp at h
 | e :: l, d, h => by
   simp only [Rows.uptoBulkAll]
   rcases List.mem_cons.1 h with rfl | h
   ·omega
   ·have := bulk_mem l d h
    omega
end
section
variable {H : Type} {enc : TypeId × Value → H} {W : World} {held : Bool}
set_option maxRecDepth 100000 in
theorem trod_slice_q {α : Type} {ea : α → Array Value} {t e : TypeId} {size K fuel : Nat} {v : Value} {x : DataW H × List MemPlace}
  (ht : Tryz.prog.underlying t = some (.slice e)) (hc : Tryz.prog.cellsOf e = size) (hpos : 0 < size) (hsz : ∀ y, (ea y).size = size)
  (hel : ∀ (fuel : Nat) (cs : List Value) (x : DataW H × List MemPlace), DataW.trod enc Tryz.prog W 0 (fun _ => true) held fuel e cs = some x → Rows.uptoBulk x.1 + 1 ≤ K → ∃ y, cs = (ea y).toList)
  (hf : DataW.trod enc Tryz.prog W 0 (fun _ => true) held fuel t [v] = some x) (hK : Rows.uptoBulk x.1 ≤ K) :
  ∃ (A : Option Addr) (n c : Nat) (l : List α), v = .slice A n c ∧ n = l.length ∧ n ≤ K ∧ SliceOf W W.heap.size size ea A l := by
 rcases Deep.open_slice ht hf with ⟨hcs, hx⟩ | ⟨a, len, cap, m, n', D, Pl, hcs, _, hl, hm, hmm, hx, hi⟩
 ·injection hcs with hcs _
  subst hcs
  exact ⟨none, 0, 0, [], rfl, rfl, by omega, .inl rfl⟩
 ·injection hcs with hcs _
  subst hcs
  have hmc : m = cap := by simpa using hmm
  subst hmc
  rw [hx] at hK
  simp only [Rows.uptoBulk] at hK
  have hlen := bulk_len ((List.range len).map D)
  rw [List.length_map, List.length_range] at hlen
  have key : ∀ i, i < len → ∃ y : α, W.cells? 0 (a.add (i * size)) size = some (ea y).toList := by
   intro i hlt
   obtain ⟨cs', h1, h2⟩ := hi i (by omega)
   have hb := bulk_mem ((List.range len).map D) (D i) (List.mem_map_of_mem (List.mem_range.2 hlt))
   obtain ⟨y, hy⟩ := hel _ _ _ h2 (by simp only; omega)
   rw [hc] at h1
   exact ⟨y, by rw [h1, hy]⟩
  obtain ⟨l, hll, hp⟩ := choose_list len key
  refine ⟨some a, len, m, l, rfl, hll.symm, by omega, ?_⟩
  rcases Nat.eq_zero_or_pos l.length with h0 | h0
  ·exact .inl (List.eq_nil_of_length_eq_zero h0)
  ·have hcell : ∀ i (h : i < l.length) (j : Nat) (u : Value), (ea l[i])[j]? = some u → W.cell? ((a.add (i * size)).add j) = some u := by
    intro i h j u hu
    obtain ⟨_, hlen, hget⟩ := World.cells?_some (hp i h)
    have hj : j < size := by
     rw [← hsz l[i]]
     rcases Nat.lt_or_ge j (ea l[i]).size with h1 | h1
     ·exact h1
     ·rw [Array.getElem?_eq_none h1] at hu; cases hu
    rw [hget j hj]
    simpa using hu
   have hz : ∃ u, (ea l[0])[0]? = some u := ⟨_, Array.getElem?_eq_getElem (by rw [hsz]; exact hpos)⟩
   obtain ⟨u, hu⟩ := hz
   have h00 := hcell 0 h0 0 u hu
   have hsp : a.spot = none := by
    have := spot_none h00
    simpa [Addr.add] using this
   obtain ⟨b, off, spot⟩ := a
   simp only at hsp
   subst hsp
   have hb : b < W.heap.size := by
    have := block_lt_of_cell h00
    simpa [Addr.add] using this
   refine .inr ⟨b, off, rfl, hb, fun i h j u hu => ?_⟩
   have := hcell i h j u hu
   rw [addr_add, addr_add] at this
   exact this
variable {r : Go.Reach} {b0 : Nat} {v : Value} {d : DataW H} {ps : List MemPlace}
end
section
variable {H : Type}
end
section
variable {H : Type} {enc : TypeId × Value → H} {W : World} {held : Bool} {r : Go.Reach} {b0 : Nat} {v : Value} {d : DataW H} {ps : List MemPlace} {fuel : Nat}
end
theorem witness_and {H : Type} {enc : TypeId × Value → H} {C : Checked} {os : Os} {f : FuncId} {fn : Func} {s : OpenSpec} {k : (H : Type) → List (DataW H) → Bool} (hk : s.cond = some k) {conds : List PathCond} {apart : Bool} {X : World → Prop} (modest : Bool) (w0 : World) (args : Array Value) (fuel : Nat) (hos : w0.os = os)
  (hsh : (w0.forCall (fun _ _ => 0) ⟨#[], args, []⟩).Shaped C.prog)
  (hok : Input.okWideB C.prog (w0.forCall (fun _ _ => 0) ⟨#[], args, []⟩) f ⟨#[], args, []⟩ = true)
  {x : List (DataW H) × List (DataW H) × List MemPlace} (hx : DataW.whole enc C.prog (w0.forCall (fun _ _ => 0) ⟨#[], args, []⟩).memory fn.params.toList s.vars apart args.toList fuel = some x)
  (hconds : conds.all (PathCond.test C.prog ⟨fn.params.toList, x.1, s.bare.plain.varTypes C.prog, x.2.1⟩) = true) (hkk : k H (x.1 ++ x.2.1) = true)
  (hsz : s.bare.sizedB enc C.prog fn apart (w0.forCall (fun _ _ => 0) ⟨#[], args, []⟩).memory args fuel = true)
  (hX : X (w0.forCall (fun _ _ => 0) ⟨#[], args, []⟩).memory) :
  ∃ (w : World) (tape : Tape) (i : Input), w.os = os ∧ (w.forCall tape i).Shaped C.prog ∧ i.vars = [] ∧ Input.okWide C.prog (w.forCall tape i) .any w.heap.size f i ∧
   ((s.pre enc C.prog fn conds apart (w.forCall tape i).memory i.args ∧ X (w.forCall tape i).memory) ∧ sizedMet enc C.prog fn s apart (w.forCall tape i).memory i.args) ∧ ({ modest := modest } : Assume).holds C.prog (lone (Frame.enter C.prog f i.args .normal) [] (w.forCall tape i)) :=
 ⟨w0, fun _ _ => 0, ⟨#[], args, []⟩, hos, hsh, (Input.okWide_of_okWideB (base := 0) hok).1, (Input.okWide_of_okWideB hok).2,
  ⟨⟨(OpenSpec.pre_some hk conds apart _ _).2 ⟨x.1, x.2.1, x.2.2, DataW.Whole_of_whole hx, hconds, hkk⟩, hX⟩, sizedMet_of_sizedB hsz⟩, by
  simp only [Assume.holds]
  exact ⟨by simp, by simp, fun _ => Modest.zero, by simp, by simp⟩⟩
set_option maxRecDepth 100000 in
theorem gTab : Tryz.prog.globalNamed "math/bits.deBruijn64tab" = some 0 := by kernel_rfl
end Go.Proofs.YtkedgombccdamaaGreatDoor
namespace Go.Proofs.YtkedgombccdamaaGreatDoor
open Go.ChangeShapes Go.WideShapes Go.ChangeAt Go.RowKit
open Go.ChangeMaps (open_string shut_string)
set_option linter.unusedVariables false
set_option linter.unusedSimpArgs false
theorem mx_of {W : World} (h : W.ShapedOpen Tryz.prog) : Mx W :=
 cell_of_shapedOpen_int (P := Tryz.prog) (g := 1) (t := 3) (zero := #[.int .i64 0]) h (of_decide_eq_true (by kernel_rfl)) (by kernel_rfl) rfl (by kernel_rfl) (by kernel_rfl) Tryz.underlying3
theorem bulk_str {H : Type} {l : List UInt8} {K : Nat} (h : Rows.uptoBulk (DataW.lit (H := H) (.string l)) ≤ K) : l.length ≤ K := by
 simp only [Rows.uptoBulk] at h
 omega
end Go.Proofs.YtkedgombccdamaaGreatDoor
namespace Go.Proofs.YtkedgombccdamaaGreatDoor
open Go.ChangeShapes Go.WideShapes Go.ChangeAt Go.RowKit Go.Joins
set_option linter.unusedVariables false
set_option linter.unusedSimpArgs false
theorem returnsInHanded_of_cond_and_shaped {H : Type} {enc : TypeId × Value → H} {a : Assume} {C : Checked} {os : Os} {f : FuncId} {fn : Func} {s : OpenSpec} {k : (H : Type) → List (DataW H) → Bool} (hk : s.cond = some k) {F : Stop.Interp} {conds : List PathCond} {apart fresh handsOn again : Bool} {X : World → Prop}
  (hX : ∀ (w w' : World), w.heap = w'.heap → X w → X w')
  (own : ownKnob C.prog.godebug = none) (started : os.Started) (noInit : C.prog.inits.idxOf? f = none) (hfn : C.prog.funcs[f]? = some fn)
  (witness : ∃ (w : World) (tape : Tape) (i : Input), w.os = os ∧ (w.forCall tape i).Shaped C.prog ∧ i.vars = [] ∧ Input.okWide C.prog (w.forCall tape i) .any w.heap.size f i ∧
   ((s.pre enc C.prog fn conds apart (w.forCall tape i).memory i.args ∧ X (w.forCall tape i).memory) ∧ sizedMet enc C.prog fn s apart (w.forCall tape i).memory i.args) ∧ a.holds C.prog (lone (Frame.enter C.prog f i.args .normal) [] (w.forCall tape i)))
  (contract : ∀ (W : World) (base : Nat) (args : Array Value) (ds gs : List (DataW H)) (before : List MemPlace),
   (∀ (j : Nat) t v, fn.params[j]? = some t → args[j]? = some v → Value.okWide C.prog W .any base t v) →
   DataW.Whole enc C.prog fn.params.toList s.vars apart W args.toList ds gs before →
   conds.all (PathCond.test C.prog ⟨fn.params.toList, ds, s.bare.plain.varTypes C.prog, gs⟩) = true → k H (ds ++ gs) = true → X W → W.ShapedOpen C.prog →
   a.holds C.prog (lone (Frame.enter C.prog f args .normal) [] W) →
   Calls C.prog f args W fun e W' => ∃ v, e = .returned v ∧ (s.at F).post enc C.prog fn apart fresh handsOn again W args v W') :
  ReturnsInHanded a C os f .any (fun w args => (s.pre enc C.prog fn conds apart w args ∧ X w) ∧ sizedMet enc C.prog fn s apart w args) ((s.at F).post enc C.prog fn apart fresh handsOn again) := by
 refine returnsInHanded_of_calls own started noInit witness ?_
 intro w tape i _ hsh _ hok hpre hholds
 obtain ⟨_, _, _, fn', hfn', _, _, _, _, hval⟩ := hok
 have e : fn' = fn := Option.some.inj (hfn'.symm.trans hfn)
 subst e
 obtain ⟨ds, gs, before, hw, hc, hkk⟩ := (OpenSpec.pre_some hk conds apart _ _).1 hpre.1.1
 have hw' := DataW.Whole.of_heap (w' := w.forCall tape i) (by rfl) hw
 refine (contract (w.forCall tape i) w.heap.size i.args ds gs before hval hw' hc hkk (hX _ _ (by rfl) hpre.1.2) hsh hholds).mono fun e W' ⟨v, he, hp⟩ => ?_
 subst he
 exact ChangeSpec.post_blind hp
set_option maxRecDepth 100000 in
theorem open_strs_q {H : Type} {enc : TypeId × Value → H} {W : World} {held : Bool} {K : Nat} {r : Go.Reach} {b0 : Nat} {v : Value} {d : DataW H} {ps : List MemPlace} (hval : Value.okWide Tryz.prog W r b0 22 v) (hd : DataW.Trod enc Tryz.prog W 0 (fun _ => true) held 22 v d ps) (hK : Rows.uptoBulk d ≤ K) :
  ∃ (A : Option Addr) (n c : Nat) (l : List ByteArray), v = .slice A n c ∧ n = l.length ∧ n ≤ K ∧ SliceOf W W.heap.size 1 encStr A l ∧ ∀ s ∈ l, s.size ≤ K := by
 obtain ⟨A0, n0, c0, rfl⟩ := okWide_slice Tryz.underlying22 hval
 obtain ⟨fuel, hf⟩ := hd
 obtain ⟨A, n, c, l, h1, h2, h3, h4⟩ := trod_slice_q (K := K) (v := .slice A0 n0 c0) (α := {s : ByteArray // s.size ≤ K}) (ea := fun s => encStr s.1) (size := 1) Tryz.underlying22 cells_string (by omega) (fun s => rfl) (fun fuel cs x hx hxK => by
  obtain ⟨s, hc, hd, _⟩ := DataW.trod_string Tryz.underlying9 hx
  refine ⟨⟨s, ?_⟩, hc⟩
  simp only [hd] at hxK
  have := bulk_str (H := H) (l := s.data.toList) (K := K) (by omega)
  simpa using this) (by simpa [Value.cells] using hf) hK
 refine ⟨A, n, c, l.map (·.1), h1, by rw [List.length_map]; exact h2, h3, ?_, fun s hs => ?_⟩
 ·rcases h4 with h | ⟨b, off, e1, e2, e3⟩
  ·exact .inl (by rw [h]; rfl)
  ·refine .inr ⟨b, off, e1, e2, fun i hi => ?_⟩
   rw [List.getElem_map]
   exact e3 i (by simpa using hi)
 ·obtain ⟨z, _, rfl⟩ := List.mem_map.1 hs
  exact z.2
set_option maxRecDepth 100000 in
theorem tab_of_laid3 {W : World} (h : laidMetH Tryz.prog [("math/bits.deBruijn32tab", Rows.laid_math_bits_deBruijn32tab), ("math/bits.deBruijn64tab", Rows.laid_math_bits_deBruijn64tab), ("internal/strconv.uint64pow10", Rows.laid_internal_strconv_uint64pow10)] W) : TabOk W := by
 have h1 : laidMet Tryz.prog (("math/bits.deBruijn32tab", Rows.laid_math_bits_deBruijn32tab) :: ("math/bits.deBruijn64tab", Lib.tabData .u8 (deB.map Int.ofNat)) :: [("internal/strconv.uint64pow10", Rows.laid_internal_strconv_uint64pow10)]) W := h
 have h2 := laidMet.tail h1
 have h3 := Lib.tabIs_of_head gTab (t := (Tryz.prog.globals[0]?).elim 0 (·.type)) (n := 64) (by kernel_rfl) (by kernel_rfl) Tryz.underlying5 (by kernel_rfl) (by kernel_rfl) h2
 intro i hi
 have := h3.cell gTab i (by simpa [deB] using hi)
 rw [this]
 congr 2
 have e : ∀ i, i < 64 → (deB.map Int.ofNat).getD i 0 = ((deB.getD i 0 : Nat) : Int) := by decide
 exact e i hi
end Go.Proofs.YtkedgombccdamaaGreatDoor
