/- least.groups: top and join. No condition beyond those named in each lemma. -/
import Derived.Test.YtgahdookojbbiaaLSame
import Derived.Test.YtgahdookojbbiaaFind
namespace Go.Proofs.Ytgahdookojbbiaa
open Go.RowKit Go.Maps
set_option linter.unusedVariables false
set_option linter.unusedSimpArgs false
attribute [local go_sem] Oper.semAt_some

set_option maxRecDepth 100000 in
set_option maxHeartbeats 4000000 in
theorem top_any (n g s : Nat) (G : Nat → Int) (rt : Nat → Nat) (hU : UF n G rt) (hs : s < n) (hn : n ≤ 1048576) (w : World) (hb : Blk w g 3 (arr eZ n G)) :
    Calls Try.prog 72 #[.slice (some ⟨g, 0, none⟩) n n, .int .i64 (s : Nat)] w fun e w' => e = .returned (.int .i64 (rt s : Nat)) ∧ w.grownBy w' (some g) ∧ ∃ G', Blk w' g 3 (arr eZ n G') ∧ UF n G' rt := by
  obtain ⟨r, hr⟩ : ∃ r, rt s = r := ⟨_, rfl⟩
  rw [hr]
  replace hr := Lib.hid hr
  go_enter Try.func72, Try.ntmps72
  go_wp2_with (fail)
  go_loopw [1] (fun sv wr => ∃ (s : Nat) (G : Nat → Int), sv = .int .i64 s ∧ s < n ∧ rt s = r ∧ w.grownBy wr (some g) ∧ Blk wr g 3 (arr eZ n G) ∧ UF n G rt) (fun sv wr => dpt (fun i => (intAt2 wr g i).toNat) (intOf sv).toNat)
  case atStart => exact ⟨s, G, rfl, hs, hr.out, World.grownBy.refl _ _, hb, hU⟩
  case round =>
    clear hs hr hb hU
    obtain ⟨s, G, rfl, hs, hr, hG, hb, hU⟩ := hrel
    have hsI : (s : Int) < n := by omega
    obtain ⟨v, hv⟩ := Int.eq_ofNat_of_zero_le (hU.lo s hs).1
    have hvn : v < n := by have := (hU.lo s hs).2; omega
    replace hv : G s = (v : Int) := hv
    have cs : wr.cell? ⟨g, s, none⟩ = some (.int .i64 (v : Nat)) := by rw [blk_arrv hb hs, ← hv]; rfl
    by_cases he : v = s
    · have heI : (v : Int) = s := by omega
      have hrs : rt s = s := hU.is hs (by rw [hv, he])
      have hrr : s = r := by rw [← hr, hrs]
      subst he
      replace hU := Lib.hid hU
      replace hrr := Lib.hid hrr
      clear hrs hr heI hv
      go_wp2_with (fail)
      go_ret
      exact ⟨by rw [hrr.out]; rfl, hG, G, hb, hU.out⟩
    · have heI : ¬ (v : Int) = s := by omega
      obtain ⟨m, hm⟩ := Int.eq_ofNat_of_zero_le (hU.lo v hvn).1
      replace hm : G v = (m : Int) := hm
      have hGm : G (G s).toNat = (m : Nat) := by rw [hv]; exact hm
      have hne : G s ≠ (s : Nat) := by rw [hv]; exact heI
      have hvI : (v : Int) < n := by omega
      have cv : wr.cell? ⟨g, v, none⟩ = some (.int .i64 (m : Nat)) := by rw [blk_arrv hb hvn, ← hm]; rfl
      obtain ⟨h1, h2, h3⟩ := hU.depth hs hne hGm
      have hU2 := Lib.hid (hU.half hs hne hGm)
      have hd := Lib.hid (dpt_blk hb hU hs)
      replace h2 := Lib.hid (h2.trans hr)
      replace h3 := Lib.hid h3
      clear hU hr hm hGm hne hv he
      go_upto_region 3 with (refine wl_store_arr eZ (m : Int) rfl _ _ _ rfl g s n _ _ hb rfl rfl hs info_intS rfl rfl ?_; intro w2 hb2 hG2)
      have cs2 : w2.cell? ⟨g, s, none⟩ = some (.int .i64 (m : Nat)) := by rw [blk_arrv hb2 hs, upd_self]; rfl
      have hd2 := Lib.hid (dpt_blk hb2 hU2.out h1)
      clear cs cv hb heI
      go_wp2_with (fail)
      refine ⟨⟨m, _, rfl, h1, h2.out, hG.trans hG2, hb2, hU2.out⟩, ?_⟩
      simp only [intOf, Int.toNat_natCast]
      rw [hd.out, hd2.out]
      exact h3.out
theorem enter_top (args : Array Value) (w : World) : (callFunc 72 args).run Try.prog w = .ok (.enter 72 args) w := by kernel_rfl
set_option maxRecDepth 100000 in
set_option maxHeartbeats 4000000 in
theorem join_any (n g a b : Nat) (G : Nat → Int) (rt : Nat → Nat) (hU : UF n G rt) (ha : a < n) (hb2 : b < n) (hn : n ≤ 1048576) (w : World) (hb : Blk w g 3 (arr eZ n G)) :
    Calls Try.prog 56 #[.slice (some ⟨g, 0, none⟩) n n, .int .i64 (a : Nat), .int .i64 (b : Nat)] w fun e w' => e = .returned (.bool (decide (rt a ≠ rt b))) ∧ w.grownBy w' (some g) ∧ ∃ G', Blk w' g 3 (arr eZ n G') ∧ UF n G' (merge rt a b) := by
  go_enter Try.func56, Try.ntmps56
  have hc1 := top_any n g a G rt hU ha hn w hb
  have hra := (hU.top a ha).1
  have hrb := (hU.top b hb2).1
  obtain ⟨x, hx⟩ : ∃ x, rt a = x := ⟨_, rfl⟩
  obtain ⟨y, hy⟩ : ∃ y, rt b = y := ⟨_, rfl⟩
  rw [hx] at hc1 hra
  replace hx := Lib.hid hx
  go_upto_region 2 with (first | (go_at_call 72; refine hc1.mono ?_; rintro e w2 ⟨rfl, hG2, G2, hb3, hU2⟩; have hc2 := top_any n g b G2 rt hU2 hb2 hn w2 hb3; rw [hy] at hc2; clear hc1) | (go_at_call 72; refine hc2.mono ?_; rintro e w3 ⟨rfl, hG3, G3, hb4, hU3⟩; clear hc2) | (go_at_call 72; refine park ?_))
  rw [hy] at hrb
  replace hy := Lib.hid hy
  have hxI : (x : Int) < n := by omega
  go_upto_region 3 with (refine wl_store_arr eZ (y : Int) rfl _ _ _ rfl g x n _ _ hb4 rfl rfl hra info_intS rfl rfl ?_; intro w4 hb5 hG5)
  have hbne : ((x : Int) != (y : Int)) = decide (rt a ≠ rt b) := by
    rw [hx.out, hy.out]
    by_cases e : x = y
    · subst e; simp
    · simp [e]; omega
  replace hbne := Lib.hid hbne
  have hU5 : UF n (upd G3 x (y : Nat)) (merge rt a b) := by
    by_cases e : rt a = rt b
    · rw [merge_self e, ← hx.out, ← hy.out, ← e]
      exact hU3.stay ha
    · rw [← hx.out, ← hy.out]
      exact hU3.link ha hb2 e
  replace hU5 := Lib.hid hU5
  go_wp2_with (fail)
  go_ret
  exact ⟨by rw [← hbne.out]; rfl, (hG2.trans hG3).trans hG5, _, hb5, hU5.out⟩
theorem enter_join (args : Array Value) (w : World) : (callFunc 56 args).run Try.prog w = .ok (.enter 56 args) w := by kernel_rfl
end Go.Proofs.Ytgahdookojbbiaa
