/- Part 3 of a proof; packed: the texts that it was made of follow one another. No condition beyond those named in each lemma. -/
import Derived.Test.YtkedgombccdamaaGreatDoorPm2
namespace Go.Proofs.YtkedgombccdamaaGreatDoor
open Go.RowKit Go.Maps
set_option linter.unusedVariables false
set_option linter.unusedSimpArgs false
attribute [local go_sem] Oper.semAt_some
theorem zxv (kd : Int) (st : BSet) (A : Option Addr) (n c : Nat) (mi ma : Int) (w : World) :
  Calls Tryz.prog 63 #[.agg (nodeC kd st A n c mi ma)] w fun e w' => e = .returned (.bool (decide (mi = 0) && decide (ma = 0))) ∧ Below w.heap.size w w' := by
 go_enter Tryz.func63, Tryz.ntmps63
 have h1 := Blk.new w 56 (nodeC kd st A n c mi ma)
 have hB1 : Below w.heap.size w (w.alloc (.cells (nodeC kd st A n c mi ma) 56)) := zqc (Below.refl _ _) _
 go_upto_region 1 with (fail)
 obtain ⟨W1, hW1⟩ : ∃ y, y = w.alloc (.cells (nodeC kd st A n c mi ma) 56) := ⟨_, rfl⟩
 rw [← hW1] at h1 hB1 ⊢
 clear hW1
 have c6 : W1.cell? ⟨w.heap.size, 6, none⟩ = some (.int .i64 mi) := h1.cellv (i := 6) rfl
 have c7 : W1.cell? ⟨w.heap.size, 7, none⟩ = some (.int .i64 ma) := h1.cellv (i := 7) rfl
 by_cases e1 : mi = 0
 ·subst e1
  by_cases e2 : ma = 0
  ·subst e2
   go_wp2_with (fail)
   go_ret
   exact ⟨rfl, hB1⟩
  ·have e3 : (ma == 0) = false := by simpa using e2
   go_wp2_with (fail)
   go_ret
   exact ⟨by simp [e2], hB1⟩
 ·have e3 : (mi == 0) = false := by simpa using e1
  go_wp2_with (fail)
  go_ret
  exact ⟨by simp [e1], hB1⟩
theorem five_t {st : BSet} {n : Nat} {mi ma : Int} {z a1 a2 a3 a4 a5 a6 : Bool} (hz : decide (st = 0) = z) (g1 : (((n : Nat) : Int) == 1) = a1) (g2 : decide ((0 : Int) ≤ mi) = a2) (g3 : decide (mi ≤ (255 : Int)) = a3) (g4 : decide (ma ≤ (255 : Int)) = a4) (g5 : (ma == (-1 : Int)) = a5) (g6 : decide (mi ≤ ma) = a6) :
  (((((z && a1) && a2) && a3) && a4) && (a5 || a6)) = headOk 5 st n mi ma := by
 rw [headOk_5 hz, Bool.eq_iff_iff]
 subst g1 g2 g3 g4 g5 g6
 simp only [Bool.and_eq_true, Bool.or_eq_true, beq_iff_eq, decide_eq_true_eq]
 constructor
 ·rintro ⟨⟨⟨⟨⟨h0, h1⟩, h2⟩, h3⟩, h4⟩, h5⟩
  exact ⟨⟨⟨⟨h0, by omega⟩, h2⟩, h3⟩, by omega⟩
 ·rintro ⟨⟨⟨⟨h0, h1⟩, h2⟩, h3⟩, h4⟩
  exact ⟨⟨⟨⟨⟨h0, by omega⟩, h2⟩, h3⟩, by omega⟩, by omega⟩
set_option maxRecDepth 100000 in
set_option maxHeartbeats 40000000 in
theorem isTree_any (nd : Nd) : ∀ (B : Nat) (w : World) (cs : Array Value), NdIn w B nd cs → B ≤ w.heap.size →
  Calls Tryz.prog 56 #[.agg cs] w fun e w' => e = .returned (.bool nd.isT) ∧ Below w.heap.size w w' := by
 induction nd using Nd.ind with
 | h kd st l mi ma ih =>
 intro B w cs hin hB
 obtain ⟨A, n, c, cl, rfl, hn, hcl, hmax, hs, hr⟩ := hin.inv
 have hh : (Nd.mk kd st l mi ma).isT = (headOk kd st n mi ma && l.all Nd.isT) := by rw [hn]; simp only [Nd.isT, Nd.areT_all]
 rw [hh]
 have Hn := Lib.hid hn
 have Hcl := Lib.hid hcl
 have Hr := Lib.hid hr
 have Ih := Lib.hid ih
 clear hn hcl hr ih hh hin
 go_enter Tryz.func56, Tryz.ntmps56
 have h1 := Blk.new w 56 (nodeC kd st A n c mi ma)
 have hB1 : Below w.heap.size w (w.alloc (.cells (nodeC kd st A n c mi ma) 56)) := zqc (Below.refl _ _) _
 go_upto_region 1 with (fail)
 obtain ⟨W1, hW1⟩ : ∃ y, y = w.alloc (.cells (nodeC kd st A n c mi ma) 56) := ⟨_, rfl⟩
 rw [← hW1] at h1 hB1 ⊢
 clear hW1
 have hl1 := h1.lt
 have c0 : W1.cell? ⟨w.heap.size, 0, none⟩ = some (.int .i64 kd) := h1.cellv (i := 0) rfl
 obtain ⟨z, hz⟩ : ∃ z, decide (st = (0 : BSet)) = z := ⟨_, rfl⟩
 have Hz := Lib.hid hz
 clear hz
 go_upto_block 0 with (first | (refine zqo rfl _ rfl _ _ rfl _ (zxx h1) ?_) | (refine zyl rfl rfl ?_) | (refine wl_eql_setz rfl _ _ _ rfl _ _ rfl rfl z Hz.out ?_))
 go_cut [4] from 13 to 93 (fun v wx => v = .bool (headOk kd st n mi ma) ∧ Below W1.heap.size W1 wx)
 case first =>
  have c5 : W1.cell? ⟨w.heap.size, 5, none⟩ = some (.slice A n c) := h1.cellv (i := 5) rfl
  have c6 : W1.cell? ⟨w.heap.size, 6, none⟩ = some (.int .i64 mi) := h1.cellv (i := 6) rfl
  have c7 : W1.cell? ⟨w.heap.size, 7, none⟩ = some (.int .i64 ma) := h1.cellv (i := 7) rfl
  by_cases k167 : kd = 1 ∨ kd = 6 ∨ kd = 7
  ·rcases k167 with rfl | rfl | rfl
   ·go_upto_region 7 with (fail)
    cases z
    ·go_wp2_with (first | (refine zqw (zzb rfl rfl rfl) _ rfl _ rfl _ _ _ _ _ _ _ h1 ?_) | (refine zqo rfl _ rfl _ _ rfl _ (zxx h1) ?_) | (go_at_call 63; refine (zxv _ _ _ _ _ _ _ _).mono ?_; rintro e w5 ⟨rfl, hB5⟩) | (go_at_call 34; refine (HH.out _).mono ?_; rintro e w5 ⟨rfl, hB5⟩))
     go_meet
     exact ⟨congrArg Value.bool (Eq.trans (by simp) (headOk_1 (by omega) Hz.out _ _ _).symm), Below.refl _ _⟩
    ·by_cases hn0 : n = 0
     ·subst hn0
      go_wp2_with (first | (refine zqw (zzb rfl rfl rfl) _ rfl _ rfl _ _ _ _ _ _ _ h1 ?_) | (refine zqo rfl _ rfl _ _ rfl _ (zxx h1) ?_) | (go_at_call 63; refine (zxv _ _ _ _ _ _ _ _).mono ?_; rintro e w5 ⟨rfl, hB5⟩) | (go_at_call 34; refine (HH.out _).mono ?_; rintro e w5 ⟨rfl, hB5⟩))
      go_meet
      exact ⟨congrArg Value.bool (Eq.trans (by simp) (headOk_1 (by omega) Hz.out _ _ _).symm), hB5⟩
     ·have hnI : ((n : Int) == 0) = false := by simpa using hn0
      go_wp2_with (first | (refine zqw (zzb rfl rfl rfl) _ rfl _ rfl _ _ _ _ _ _ _ h1 ?_) | (refine zqo rfl _ rfl _ _ rfl _ (zxx h1) ?_) | (go_at_call 63; refine (zxv _ _ _ _ _ _ _ _).mono ?_; rintro e w5 ⟨rfl, hB5⟩) | (go_at_call 34; refine (HH.out _).mono ?_; rintro e w5 ⟨rfl, hB5⟩))
      go_meet
      exact ⟨congrArg Value.bool (Eq.trans (by simp [hn0]) (headOk_1 (by omega) Hz.out _ _ _).symm), Below.refl _ _⟩
   ·go_upto_region 7 with (fail)
    cases z
    ·go_wp2_with (first | (refine zqw (zzb rfl rfl rfl) _ rfl _ rfl _ _ _ _ _ _ _ h1 ?_) | (refine zqo rfl _ rfl _ _ rfl _ (zxx h1) ?_) | (go_at_call 63; refine (zxv _ _ _ _ _ _ _ _).mono ?_; rintro e w5 ⟨rfl, hB5⟩) | (go_at_call 34; refine (HH.out _).mono ?_; rintro e w5 ⟨rfl, hB5⟩))
     go_meet
     exact ⟨congrArg Value.bool (Eq.trans (by simp) (headOk_1 (by omega) Hz.out _ _ _).symm), Below.refl _ _⟩
    ·by_cases hn0 : n = 0
     ·subst hn0
      go_wp2_with (first | (refine zqw (zzb rfl rfl rfl) _ rfl _ rfl _ _ _ _ _ _ _ h1 ?_) | (refine zqo rfl _ rfl _ _ rfl _ (zxx h1) ?_) | (go_at_call 63; refine (zxv _ _ _ _ _ _ _ _).mono ?_; rintro e w5 ⟨rfl, hB5⟩) | (go_at_call 34; refine (HH.out _).mono ?_; rintro e w5 ⟨rfl, hB5⟩))
      go_meet
      exact ⟨congrArg Value.bool (Eq.trans (by simp) (headOk_1 (by omega) Hz.out _ _ _).symm), hB5⟩
     ·have hnI : ((n : Int) == 0) = false := by simpa using hn0
      go_wp2_with (first | (refine zqw (zzb rfl rfl rfl) _ rfl _ rfl _ _ _ _ _ _ _ h1 ?_) | (refine zqo rfl _ rfl _ _ rfl _ (zxx h1) ?_) | (go_at_call 63; refine (zxv _ _ _ _ _ _ _ _).mono ?_; rintro e w5 ⟨rfl, hB5⟩) | (go_at_call 34; refine (HH.out _).mono ?_; rintro e w5 ⟨rfl, hB5⟩))
      go_meet
      exact ⟨congrArg Value.bool (Eq.trans (by simp [hn0]) (headOk_1 (by omega) Hz.out _ _ _).symm), Below.refl _ _⟩
   ·go_upto_region 7 with (fail)
    cases z
    ·go_wp2_with (first | (refine zqw (zzb rfl rfl rfl) _ rfl _ rfl _ _ _ _ _ _ _ h1 ?_) | (refine zqo rfl _ rfl _ _ rfl _ (zxx h1) ?_) | (go_at_call 63; refine (zxv _ _ _ _ _ _ _ _).mono ?_; rintro e w5 ⟨rfl, hB5⟩) | (go_at_call 34; refine (HH.out _).mono ?_; rintro e w5 ⟨rfl, hB5⟩))
     go_meet
     exact ⟨congrArg Value.bool (Eq.trans (by simp) (headOk_1 (by omega) Hz.out _ _ _).symm), Below.refl _ _⟩
    ·by_cases hn0 : n = 0
     ·subst hn0
      go_wp2_with (first | (refine zqw (zzb rfl rfl rfl) _ rfl _ rfl _ _ _ _ _ _ _ h1 ?_) | (refine zqo rfl _ rfl _ _ rfl _ (zxx h1) ?_) | (go_at_call 63; refine (zxv _ _ _ _ _ _ _ _).mono ?_; rintro e w5 ⟨rfl, hB5⟩) | (go_at_call 34; refine (HH.out _).mono ?_; rintro e w5 ⟨rfl, hB5⟩))
      go_meet
      exact ⟨congrArg Value.bool (Eq.trans (by simp) (headOk_1 (by omega) Hz.out _ _ _).symm), hB5⟩
     ·have hnI : ((n : Int) == 0) = false := by simpa using hn0
      go_wp2_with (first | (refine zqw (zzb rfl rfl rfl) _ rfl _ rfl _ _ _ _ _ _ _ h1 ?_) | (refine zqo rfl _ rfl _ _ rfl _ (zxx h1) ?_) | (go_at_call 63; refine (zxv _ _ _ _ _ _ _ _).mono ?_; rintro e w5 ⟨rfl, hB5⟩) | (go_at_call 34; refine (HH.out _).mono ?_; rintro e w5 ⟨rfl, hB5⟩))
      go_meet
      exact ⟨congrArg Value.bool (Eq.trans (by simp [hn0]) (headOk_1 (by omega) Hz.out _ _ _).symm), Below.refl _ _⟩
  by_cases k2 : kd = 2
  ·subst k2
   have hh := fun W => has_any st 10 (by omega) W
   obtain ⟨q, hq⟩ : ∃ q, st.getLsbD 10 = q := ⟨_, rfl⟩
   rw [hq] at hh
   have HH := Lib.hid hh
   have Hq := Lib.hid hq
   clear hh hq
   have hc5 := fun w' (hb : Below W1.heap.size W1 w') => (zqb h1 hb).cellv (i := 5) (v := .slice A n c) rfl
   have Hc5 := Lib.hid hc5
   clear hc5 c5
   go_upto_region 9 with (fail)
   cases q
   ·by_cases hn0 : n = 0
    ·subst hn0
     go_wp2_with (first | (refine zqo rfl _ rfl _ _ rfl _ (zxx h1) ?_) | (go_at_call 34; refine (HH.out _).mono ?_; rintro e w5 ⟨rfl, hB5⟩; have c5 := Hc5.out _ hB5; replace h1 := zqb h1 hB5) | (refine zqw (zzb rfl rfl rfl) _ rfl _ rfl _ _ _ _ _ _ _ h1 ?_) | (go_at_call 63; refine (zxv _ _ _ _ _ _ _ _).mono ?_; rintro e w6 ⟨rfl, hB6⟩))
     go_meet
     exact ⟨congrArg Value.bool (Eq.trans (by simp) (headOk_2 Hq.out _ _ _).symm), zqd hB5 hB6⟩
    ·have hnI : ((n : Int) == 0) = false := by simpa using hn0
     go_wp2_with (first | (refine zqo rfl _ rfl _ _ rfl _ (zxx h1) ?_) | (go_at_call 34; refine (HH.out _).mono ?_; rintro e w5 ⟨rfl, hB5⟩; have c5 := Hc5.out _ hB5; replace h1 := zqb h1 hB5) | (refine zqw (zzb rfl rfl rfl) _ rfl _ rfl _ _ _ _ _ _ _ h1 ?_) | (go_at_call 63; refine (zxv _ _ _ _ _ _ _ _).mono ?_; rintro e w6 ⟨rfl, hB6⟩))
     go_meet
     exact ⟨congrArg Value.bool (Eq.trans (by simp [hn0]) (headOk_2 Hq.out _ _ _).symm), hB5⟩
   ·go_wp2_with (first | (refine zqo rfl _ rfl _ _ rfl _ (zxx h1) ?_) | (go_at_call 34; refine (HH.out _).mono ?_; rintro e w5 ⟨rfl, hB5⟩; have c5 := Hc5.out _ hB5; replace h1 := zqb h1 hB5) | (refine zqw (zzb rfl rfl rfl) _ rfl _ rfl _ _ _ _ _ _ _ h1 ?_) | (go_at_call 63; refine (zxv _ _ _ _ _ _ _ _).mono ?_; rintro e w6 ⟨rfl, hB6⟩))
    go_meet
    exact ⟨congrArg Value.bool (Eq.trans (by simp) (headOk_2 Hq.out _ _ _).symm), hB5⟩
  by_cases k34 : kd = 3 ∨ kd = 4
  ·rcases k34 with rfl | rfl
   ·go_upto_region 12 with (fail)
    cases z
    ·go_wp2_with (first | (refine zqw (zzb rfl rfl rfl) _ rfl _ rfl _ _ _ _ _ _ _ h1 ?_) | (refine zqo rfl _ rfl _ _ rfl _ (zxx h1) ?_) | (go_at_call 63; refine (zxv _ _ _ _ _ _ _ _).mono ?_; rintro e w5 ⟨rfl, hB5⟩) | (go_at_call 34; refine (HH.out _).mono ?_; rintro e w5 ⟨rfl, hB5⟩))
     go_meet
     exact ⟨congrArg Value.bool (Eq.trans (by simp) (headOk_3 (by omega) Hz.out _ _ _).symm), Below.refl _ _⟩
    ·by_cases hn2 : 2 ≤ n
     ·have hnI : decide (2 ≤ (n : Int)) = true := by simp; omega
      go_wp2_with (first | (refine zqw (zzb rfl rfl rfl) _ rfl _ rfl _ _ _ _ _ _ _ h1 ?_) | (refine zqo rfl _ rfl _ _ rfl _ (zxx h1) ?_) | (go_at_call 63; refine (zxv _ _ _ _ _ _ _ _).mono ?_; rintro e w5 ⟨rfl, hB5⟩) | (go_at_call 34; refine (HH.out _).mono ?_; rintro e w5 ⟨rfl, hB5⟩))
      go_meet
      exact ⟨congrArg Value.bool (Eq.trans (by simp [hn2]) (headOk_3 (by omega) Hz.out _ _ _).symm), hB5⟩
     ·have hnI : decide (2 ≤ (n : Int)) = false := by simp; omega
      go_wp2_with (first | (refine zqw (zzb rfl rfl rfl) _ rfl _ rfl _ _ _ _ _ _ _ h1 ?_) | (refine zqo rfl _ rfl _ _ rfl _ (zxx h1) ?_) | (go_at_call 63; refine (zxv _ _ _ _ _ _ _ _).mono ?_; rintro e w5 ⟨rfl, hB5⟩) | (go_at_call 34; refine (HH.out _).mono ?_; rintro e w5 ⟨rfl, hB5⟩))
      go_meet
      exact ⟨congrArg Value.bool (Eq.trans (by simp [hn2]) (headOk_3 (by omega) Hz.out _ _ _).symm), Below.refl _ _⟩
   ·go_upto_region 12 with (fail)
    cases z
    ·go_wp2_with (first | (refine zqw (zzb rfl rfl rfl) _ rfl _ rfl _ _ _ _ _ _ _ h1 ?_) | (refine zqo rfl _ rfl _ _ rfl _ (zxx h1) ?_) | (go_at_call 63; refine (zxv _ _ _ _ _ _ _ _).mono ?_; rintro e w5 ⟨rfl, hB5⟩) | (go_at_call 34; refine (HH.out _).mono ?_; rintro e w5 ⟨rfl, hB5⟩))
     go_meet
     exact ⟨congrArg Value.bool (Eq.trans (by simp) (headOk_3 (by omega) Hz.out _ _ _).symm), Below.refl _ _⟩
    ·by_cases hn2 : 2 ≤ n
     ·have hnI : decide (2 ≤ (n : Int)) = true := by simp; omega
      go_wp2_with (first | (refine zqw (zzb rfl rfl rfl) _ rfl _ rfl _ _ _ _ _ _ _ h1 ?_) | (refine zqo rfl _ rfl _ _ rfl _ (zxx h1) ?_) | (go_at_call 63; refine (zxv _ _ _ _ _ _ _ _).mono ?_; rintro e w5 ⟨rfl, hB5⟩) | (go_at_call 34; refine (HH.out _).mono ?_; rintro e w5 ⟨rfl, hB5⟩))
      go_meet
      exact ⟨congrArg Value.bool (Eq.trans (by simp [hn2]) (headOk_3 (by omega) Hz.out _ _ _).symm), hB5⟩
     ·have hnI : decide (2 ≤ (n : Int)) = false := by simp; omega
      go_wp2_with (first | (refine zqw (zzb rfl rfl rfl) _ rfl _ rfl _ _ _ _ _ _ _ h1 ?_) | (refine zqo rfl _ rfl _ _ rfl _ (zxx h1) ?_) | (go_at_call 63; refine (zxv _ _ _ _ _ _ _ _).mono ?_; rintro e w5 ⟨rfl, hB5⟩) | (go_at_call 34; refine (HH.out _).mono ?_; rintro e w5 ⟨rfl, hB5⟩))
      go_meet
      exact ⟨congrArg Value.bool (Eq.trans (by simp [hn2]) (headOk_3 (by omega) Hz.out _ _ _).symm), Below.refl _ _⟩
  by_cases k5 : kd = 5
  ·subst k5
   go_upto_region 14 with (fail)
   obtain ⟨a1, g1⟩ : ∃ q, (((n : Nat) : Int) == 1) = q := ⟨_, rfl⟩
   obtain ⟨a2, g2⟩ : ∃ q, (decide ((0 : Int) ≤ mi)) = q := ⟨_, rfl⟩
   obtain ⟨a3, g3⟩ : ∃ q, (decide (mi ≤ (255 : Int))) = q := ⟨_, rfl⟩
   obtain ⟨a4, g4⟩ : ∃ q, (decide (ma ≤ (255 : Int))) = q := ⟨_, rfl⟩
   obtain ⟨a5, g5⟩ : ∃ q, (ma == (-1 : Int)) = q := ⟨_, rfl⟩
   obtain ⟨a6, g6⟩ : ∃ q, (decide (mi ≤ ma)) = q := ⟨_, rfl⟩
   have hfive : (((((z && a1) && a2) && a3) && a4) && (a5 || a6)) = headOk 5 st n mi ma := five_t Hz.out g1 g2 g3 g4 g5 g6
   refine zqs 35 [eqS (.bool z), eqS (.bool z), eqS (vF (true && (z == true)) (.pointer (some ⟨w.heap.size, 5, none⟩))), eqS (vF (true && (z == true)) (.slice A n c)), eqS (vF (true && (z == true)) (.int .i64 (((n : Nat) : Int)))), eqS (vF (true && (z == true)) (.bool a1)), eqS (.bool (z && a1)), eqS (.bool (z && a1)), eqS (vF (true && ((z && a1) == true)) (.pointer (some ⟨w.heap.size, 6, none⟩))), eqS (vF (true && ((z && a1) == true)) (.int .i64 (mi))), eqS (vF (true && ((z && a1) == true)) (.bool a2)), eqS (.bool ((z && a1) && a2)), eqS (.bool ((z && a1) && a2)), eqS (vF (true && (((z && a1) && a2) == true)) (.pointer (some ⟨w.heap.size, 6, none⟩))), eqS (vF (true && (((z && a1) && a2) == true)) (.int .i64 (mi))), eqS (vF (true && (((z && a1) && a2) == true)) (.bool a3)), eqS (.bool (((z && a1) && a2) && a3)), eqS (.bool (((z && a1) && a2) && a3)), eqS (vF (true && ((((z && a1) && a2) && a3) == true)) (.pointer (some ⟨w.heap.size, 7, none⟩))), eqS (vF (true && ((((z && a1) && a2) && a3) == true)) (.int .i64 (ma))), eqS (vF (true && ((((z && a1) && a2) && a3) == true)) (.bool a4)), eqS (.bool ((((z && a1) && a2) && a3) && a4)), eqS (.bool ((((z && a1) && a2) && a3) && a4)), eqS (vF (true && (((((z && a1) && a2) && a3) && a4) == true)) (.pointer (some ⟨w.heap.size, 7, none⟩))), eqS (vF (true && (((((z && a1) && a2) && a3) && a4) == true)) (.int .i64 (ma))), eqS (vF (true && (((((z && a1) && a2) && a3) && a4) == true)) (.bool a5)), eqS (vF (true && (((((z && a1) && a2) && a3) && a4) == true)) (.bool a5)), eqS (vF ((true && (((((z && a1) && a2) && a3) && a4) == true)) && (a5 == false)) (.pointer (some ⟨w.heap.size, 7, none⟩))), eqS (vF ((true && (((((z && a1) && a2) && a3) && a4) == true)) && (a5 == false)) (.int .i64 (ma))), eqS (vF ((true && (((((z && a1) && a2) && a3) && a4) == true)) && (a5 == false)) (.pointer (some ⟨w.heap.size, 6, none⟩))), eqS (vF ((true && (((((z && a1) && a2) && a3) && a4) == true)) && (a5 == false)) (.int .i64 (mi))), eqS (vF ((true && (((((z && a1) && a2) && a3) && a4) == true)) && (a5 == false)) (.bool a6)), eqS (vF (true && (((((z && a1) && a2) && a3) && a4) == true)) (.bool (a5 || a6))), eqS (.bool (((((z && a1) && a2) && a3) && a4) && (a5 || a6))), eqS (.bool (((((z && a1) && a2) && a3) && a4) && (a5 || a6)))] [60, 61, 62, 63, 64, 65, 66, 67, 68, 69, 70, 71, 72, 73, 74, 75, 76, 77, 78, 79, 80, 81, 82, 83, 84, 85, 86, 87, 88, 89, 90, 91, 92, 93, 4] (by kernel_rfl) rfl ?_ ?_
   ·skip
    refine Steps.cons (fun a' w' hG hB dep => zqi (zqa rfl) _ rfl (id (hG.other 3 rfl))) ?_
    refine Steps.cons (fun a' w' hG hB dep => zqi (zqa rfl) _ rfl (id (dep 0 rfl 60 rfl))) ?_
    refine Steps.cons (fun a' w' hG hB dep => zqf (c := true) (b' := z) rfl rfl (dep 1 rfl 61 rfl) (fun hc he hw => zqn hw _ _ _ rfl w.heap.size (0) (5) (hG.other 1 rfl) (fun wz => field_node_2 w.heap.size (0) wz) (zqg (on_g hc he) _).symm) (fun hn => vF_no hn _)) ?_
    refine Steps.cons (fun a' w' hG hB dep => zqf (c := true) (b' := z) rfl rfl (dep 1 rfl 61 rfl) (fun hc he hw => zqj hw _ _ rfl w.heap.size (5) (Eq.trans (dep 2 rfl 62 rfl) (zqg (on_g hc he) _)) (.slice A n c) ((zqb h1 hB).cellv (i := 5) rfl) _ Tryz.underlying54 rfl (zqg (on_g hc he) _).symm) (fun hn => vF_no hn _)) ?_
    refine Steps.cons (fun a' w' hG hB dep => zqf (c := true) (b' := z) rfl rfl (dep 1 rfl 61 rfl) (fun hc he hw => gs_len hw _ _ rfl under_nodes _ n c (Eq.trans (dep 3 rfl 63 rfl) (zqg (on_g hc he) _)) (zqg (on_g hc he) _).symm) (fun hn => vF_no hn _)) ?_
    refine Steps.cons (fun a' w' hG hB dep => zqf (c := true) (b' := z) rfl rfl (dep 1 rfl 61 rfl) (fun hc he hw => zzo hw _ _ _ _ rfl _ _ _ (Eq.trans (dep 4 rfl 64 rfl) (zqg (on_g hc he) _)) rfl (Eq.trans (congrArg Value.bool g1) (zqg (on_g hc he) _).symm)) (fun hn => vF_no hn _)) ?_
    refine Steps.cons (fun a' w' hG hB dep => zqy (zqa rfl) _ _ _ rfl z (dep 1 rfl 61 rfl) (id (zxq (c := true) rfl (dep 5 rfl 65 rfl)))) ?_
    refine Steps.cons (fun a' w' hG hB dep => zqi (zqa rfl) _ rfl (id (dep 6 rfl 66 rfl))) ?_
    refine Steps.cons (fun a' w' hG hB dep => zqf (c := true) (b' := (z && a1)) rfl rfl (dep 7 rfl 67 rfl) (fun hc he hw => zqn hw _ _ _ rfl w.heap.size (0) (6) (hG.other 1 rfl) (fun wz => field_node_3 w.heap.size (0) wz) (zqg (on_g hc he) _).symm) (fun hn => vF_no hn _)) ?_
    refine Steps.cons (fun a' w' hG hB dep => zqf (c := true) (b' := (z && a1)) rfl rfl (dep 7 rfl 67 rfl) (fun hc he hw => zqj hw _ _ rfl w.heap.size (6) (Eq.trans (dep 8 rfl 68 rfl) (zqg (on_g hc he) _)) (.int .i64 (mi)) ((zqb h1 hB).cellv (i := 6) rfl) _ Tryz.underlying3 rfl (zqg (on_g hc he) _).symm) (fun hn => vF_no hn _)) ?_
    refine Steps.cons (fun a' w' hG hB dep => zqf (c := true) (b' := (z && a1)) rfl rfl (dep 7 rfl 67 rfl) (fun hc he hw => gs_geq_int hw _ _ _ _ rfl _ _ _ (Eq.trans (dep 9 rfl 69 rfl) (zqg (on_g hc he) _)) rfl (Eq.trans (congrArg Value.bool g2) (zqg (on_g hc he) _).symm)) (fun hn => vF_no hn _)) ?_
    refine Steps.cons (fun a' w' hG hB dep => zqy (zqa rfl) _ _ _ rfl (z && a1) (dep 7 rfl 67 rfl) (id (zxq (c := true) rfl (dep 10 rfl 70 rfl)))) ?_
    refine Steps.cons (fun a' w' hG hB dep => zqi (zqa rfl) _ rfl (id (dep 11 rfl 71 rfl))) ?_
    refine Steps.cons (fun a' w' hG hB dep => zqf (c := true) (b' := ((z && a1) && a2)) rfl rfl (dep 12 rfl 72 rfl) (fun hc he hw => zqn hw _ _ _ rfl w.heap.size (0) (6) (hG.other 1 rfl) (fun wz => field_node_3 w.heap.size (0) wz) (zqg (on_g hc he) _).symm) (fun hn => vF_no hn _)) ?_
    refine Steps.cons (fun a' w' hG hB dep => zqf (c := true) (b' := ((z && a1) && a2)) rfl rfl (dep 12 rfl 72 rfl) (fun hc he hw => zqj hw _ _ rfl w.heap.size (6) (Eq.trans (dep 13 rfl 73 rfl) (zqg (on_g hc he) _)) (.int .i64 (mi)) ((zqb h1 hB).cellv (i := 6) rfl) _ Tryz.underlying3 rfl (zqg (on_g hc he) _).symm) (fun hn => vF_no hn _)) ?_
    refine Steps.cons (fun a' w' hG hB dep => zqf (c := true) (b' := ((z && a1) && a2)) rfl rfl (dep 12 rfl 72 rfl) (fun hc he hw => gs_leq_int hw _ _ _ _ rfl _ _ _ (Eq.trans (dep 14 rfl 74 rfl) (zqg (on_g hc he) _)) rfl (Eq.trans (congrArg Value.bool g3) (zqg (on_g hc he) _).symm)) (fun hn => vF_no hn _)) ?_
    refine Steps.cons (fun a' w' hG hB dep => zqy (zqa rfl) _ _ _ rfl ((z && a1) && a2) (dep 12 rfl 72 rfl) (id (zxq (c := true) rfl (dep 15 rfl 75 rfl)))) ?_
    refine Steps.cons (fun a' w' hG hB dep => zqi (zqa rfl) _ rfl (id (dep 16 rfl 76 rfl))) ?_
    refine Steps.cons (fun a' w' hG hB dep => zqf (c := true) (b' := (((z && a1) && a2) && a3)) rfl rfl (dep 17 rfl 77 rfl) (fun hc he hw => zqn hw _ _ _ rfl w.heap.size (0) (7) (hG.other 1 rfl) (fun wz => field_node_4 w.heap.size (0) wz) (zqg (on_g hc he) _).symm) (fun hn => vF_no hn _)) ?_
    refine Steps.cons (fun a' w' hG hB dep => zqf (c := true) (b' := (((z && a1) && a2) && a3)) rfl rfl (dep 17 rfl 77 rfl) (fun hc he hw => zqj hw _ _ rfl w.heap.size (7) (Eq.trans (dep 18 rfl 78 rfl) (zqg (on_g hc he) _)) (.int .i64 (ma)) ((zqb h1 hB).cellv (i := 7) rfl) _ Tryz.underlying3 rfl (zqg (on_g hc he) _).symm) (fun hn => vF_no hn _)) ?_
    refine Steps.cons (fun a' w' hG hB dep => zqf (c := true) (b' := (((z && a1) && a2) && a3)) rfl rfl (dep 17 rfl 77 rfl) (fun hc he hw => gs_leq_int hw _ _ _ _ rfl _ _ _ (Eq.trans (dep 19 rfl 79 rfl) (zqg (on_g hc he) _)) rfl (Eq.trans (congrArg Value.bool g4) (zqg (on_g hc he) _).symm)) (fun hn => vF_no hn _)) ?_
    refine Steps.cons (fun a' w' hG hB dep => zqy (zqa rfl) _ _ _ rfl (((z && a1) && a2) && a3) (dep 17 rfl 77 rfl) (id (zxq (c := true) rfl (dep 20 rfl 80 rfl)))) ?_
    refine Steps.cons (fun a' w' hG hB dep => zqi (zqa rfl) _ rfl (id (dep 21 rfl 81 rfl))) ?_
    refine Steps.cons (fun a' w' hG hB dep => zqf (c := true) (b' := ((((z && a1) && a2) && a3) && a4)) rfl rfl (dep 22 rfl 82 rfl) (fun hc he hw => zqn hw _ _ _ rfl w.heap.size (0) (7) (hG.other 1 rfl) (fun wz => field_node_4 w.heap.size (0) wz) (zqg (on_g hc he) _).symm) (fun hn => vF_no hn _)) ?_
    refine Steps.cons (fun a' w' hG hB dep => zqf (c := true) (b' := ((((z && a1) && a2) && a3) && a4)) rfl rfl (dep 22 rfl 82 rfl) (fun hc he hw => zqj hw _ _ rfl w.heap.size (7) (Eq.trans (dep 23 rfl 83 rfl) (zqg (on_g hc he) _)) (.int .i64 (ma)) ((zqb h1 hB).cellv (i := 7) rfl) _ Tryz.underlying3 rfl (zqg (on_g hc he) _).symm) (fun hn => vF_no hn _)) ?_
    refine Steps.cons (fun a' w' hG hB dep => zqf (c := true) (b' := ((((z && a1) && a2) && a3) && a4)) rfl rfl (dep 22 rfl 82 rfl) (fun hc he hw => zzo hw _ _ _ _ rfl _ _ _ (Eq.trans (dep 24 rfl 84 rfl) (zqg (on_g hc he) _)) rfl (Eq.trans (congrArg Value.bool g5) (zqg (on_g hc he) _).symm)) (fun hn => vF_no hn _)) ?_
    refine Steps.cons (fun a' w' hG hB dep => zqf (c := true) (b' := ((((z && a1) && a2) && a3) && a4)) rfl rfl (dep 22 rfl 82 rfl) (fun hc he hw => zqi hw _ rfl (Eq.trans (Eq.trans (dep 25 rfl 85 rfl) (zqg (on_g hc he) _)) (zqg (on_g hc he) _).symm)) (fun hn => vF_no hn _)) ?_
    refine Steps.cons (fun a' w' hG hB dep => zqf (c := (true && (((((z && a1) && a2) && a3) && a4) == true))) (b' := a5) rfl rfl (dep 26 rfl 86 rfl) (fun hc he hw => zqn hw _ _ _ rfl w.heap.size (0) (7) (hG.other 1 rfl) (fun wz => field_node_4 w.heap.size (0) wz) (zqg (on_g hc he) _).symm) (fun hn => vF_no hn _)) ?_
    refine Steps.cons (fun a' w' hG hB dep => zqf (c := (true && (((((z && a1) && a2) && a3) && a4) == true))) (b' := a5) rfl rfl (dep 26 rfl 86 rfl) (fun hc he hw => zqj hw _ _ rfl w.heap.size (7) (Eq.trans (dep 27 rfl 87 rfl) (zqg (on_g hc he) _)) (.int .i64 (ma)) ((zqb h1 hB).cellv (i := 7) rfl) _ Tryz.underlying3 rfl (zqg (on_g hc he) _).symm) (fun hn => vF_no hn _)) ?_
    refine Steps.cons (fun a' w' hG hB dep => zqf (c := (true && (((((z && a1) && a2) && a3) && a4) == true))) (b' := a5) rfl rfl (dep 26 rfl 86 rfl) (fun hc he hw => zqn hw _ _ _ rfl w.heap.size (0) (6) (hG.other 1 rfl) (fun wz => field_node_3 w.heap.size (0) wz) (zqg (on_g hc he) _).symm) (fun hn => vF_no hn _)) ?_
    refine Steps.cons (fun a' w' hG hB dep => zqf (c := (true && (((((z && a1) && a2) && a3) && a4) == true))) (b' := a5) rfl rfl (dep 26 rfl 86 rfl) (fun hc he hw => zqj hw _ _ rfl w.heap.size (6) (Eq.trans (dep 29 rfl 89 rfl) (zqg (on_g hc he) _)) (.int .i64 (mi)) ((zqb h1 hB).cellv (i := 6) rfl) _ Tryz.underlying3 rfl (zqg (on_g hc he) _).symm) (fun hn => vF_no hn _)) ?_
    refine Steps.cons (fun a' w' hG hB dep => zqf (c := (true && (((((z && a1) && a2) && a3) && a4) == true))) (b' := a5) rfl rfl (dep 26 rfl 86 rfl) (fun hc he hw => gs_geq_int hw _ _ _ _ rfl _ _ _ (Eq.trans (dep 28 rfl 88 rfl) (zqg (on_g hc he) _)) (Eq.trans (dep 30 rfl 90 rfl) (zqg (on_g hc he) _)) (Eq.trans (congrArg Value.bool g6) (zqg (on_g hc he) _).symm)) (fun hn => vF_no hn _)) ?_
    refine Steps.cons (fun a' w' hG hB dep => zqf (c := true) (b' := ((((z && a1) && a2) && a3) && a4)) rfl rfl (dep 22 rfl 82 rfl) (fun hc he hw => zqy hw _ _ _ rfl a5 (Eq.trans (dep 26 rfl 86 rfl) (zqg (on_g hc he) _)) (Eq.trans (zzr (c := (true && (((((z && a1) && a2) && a3) && a4) == true))) (on_g hc he) (dep 31 rfl 91 rfl)) (zqg (on_g hc he) _).symm)) (fun hn => vF_no hn _)) ?_
    refine Steps.cons (fun a' w' hG hB dep => zqy (zqa rfl) _ _ _ rfl ((((z && a1) && a2) && a3) && a4) (dep 22 rfl 82 rfl) (id (zxq (c := true) rfl (dep 32 rfl 92 rfl)))) ?_
    refine Steps.cons (fun a' w' hG hB dep => zxl (zqa rfl) _ rfl (id (dep 33 rfl 93 rfl))) ?_
    exact Steps.nil
   intro u w2 hB2 ans
   have hu4 : u 4 = .bool (headOk 5 st n mi ma) := (ans 34 4 (by decide) rfl).trans (congrArg Value.bool hfive)
   clear ans hfive g1 g2 g3 g4 g5 g6
   simp only [zqr, List.foldl_cons, List.foldl_nil, Act.put, List.setIfInBounds_toArray, List.set_cons_zero, List.set_cons_succ, hu4]
   clear hu4
   simp only [List.drop]
   refine wpList_nil ?_
   go_wp2_with (fail)
   go_meet
   exact ⟨rfl, hB2⟩
  have e1 : (kd == 1) = false := by simp; omega
  have e2 : (kd == 2) = false := by simp; omega
  have e3 : (kd == 3) = false := by simp; omega
  have e4 : (kd == 4) = false := by simp; omega
  have e5 : (kd == 5) = false := by simp; omega
  have e6 : (kd == 6) = false := by simp; omega
  have e7 : (kd == 7) = false := by simp; omega
  go_wp2_with (fail)
  go_meet
  exact ⟨congrArg Value.bool (by unfold headOk; rw [if_neg k167, if_neg k2, if_neg k34, if_neg k5]), Below.refl _ _⟩
 case rest =>
  obtain ⟨rfl, hBc⟩ := hcut
  obtain ⟨b, hb⟩ : ∃ b, headOk kd st n mi ma = b := ⟨_, rfl⟩
  rw [hb]
  have h2 := zqb h1 hBc
  have hB2 := zqd hB1 hBc
  have c5 : wc.cell? ⟨w.heap.size, 5, none⟩ = some (.slice A n c) := h2.cellv (i := 5) rfl
  have Hb := Lib.hid hb
  clear hb h1 hB1 hl1 c0 hBc Hz
  go_wp2_with (fail)
  go_loopw [4, 97] (fun v i wr => ∃ k : Nat, k ≤ n ∧ i = .int .i64 k ∧ v = .bool (b && (l.take k).all Nd.isT) ∧ Below w.heap.size w wr) (fun _ i _ => n - (intOf i).toNat)
  case atStart => exact ⟨0, by omega, rfl, by simp, hB2⟩
  case round =>
   clear hB2 h2 c5
   obtain ⟨k, hk, rfl, rfl, hBw⟩ := hrel
   by_cases hkn : k < n
   ·have hkI : (k : Int) < n := by omega
    have hkl : k < l.length := by rw [← Hn.out]; exact hkn
    have hkc : k < cl.length := by rw [Hcl.out]; exact hkl
    obtain ⟨ba, off, rfl, hba, hrows⟩ := hs.at_ (by omega)
    have hrow := (hrows k hkc).keep (hBw.block ba (by omega))
    have hsub := Hr.out k hkl hkc
    obtain ⟨⟨kd', st', l', mi', ma'⟩, hx⟩ : ∃ x, x = l[k] := ⟨_, rfl⟩
    rw [← hx] at hsub
    obtain ⟨A', n', c', cl', hce, -⟩ := hsub.inv
    rw [hce] at hrow hsub
    have hst : (l.take (k + 1)).all Nd.isT = ((l.take k).all Nd.isT && (Nd.mk kd' st' l' mi' ma').isT) := by
     rw [List.take_succ_eq_append_getElem hkl, List.all_append, ← hx]
     simp
    have hmem : Nd.mk kd' st' l' mi' ma' ∈ l := by rw [hx]; exact List.getElem_mem hkl
    obtain ⟨y, hy⟩ : ∃ y, (b && (l.take k).all Nd.isT) = y := ⟨_, rfl⟩
    obtain ⟨u, hu⟩ : ∃ u, (Nd.mk kd' st' l' mi' ma').isT = u := ⟨_, rfl⟩
    have hst2 : (b && (l.take (k + 1)).all Nd.isT) = (y && u) := by rw [hst, ← Bool.and_assoc, hy, hu]
    rw [hy]
    have hcall := fun W h => Ih.out _ hmem B W _ (hsub.keep (w' := W) h)
    rw [hu] at hcall
    have Hcall := Lib.hid hcall
    have Hst := Lib.hid hst2
    have hkb : k < 1099511628000 := by omega
    clear hcall hst2 hst hy hu hx hce hsub
    go_upto_region 18 with (first | (refine zxg rfl _ rfl _ _ rfl _ _ _ _ _ _ _ hrow ?_) | (refine zyj rfl _ _ rfl _ _ _ _ _ _ _ _ rfl rfl (nodeC 0 0 none 0 0 0 0) rfl (Blk.new _ _ _) ?_; intro w3 h5 hg3))
    have hB3 := zqh (zqc (Below.refl _ wr) (.cells (nodeC 0 0 none 0 0 0 0) 56)) hg3 (Nat.le_refl _)
    replace hBw := zqd hBw hB3
    clear hrow hrows hB3 hg3
    cases y
    ·go_wp2_with (fail)
     exact ⟨⟨k + 1, by omega, rfl, by rw [Hst.out]; rfl, hBw⟩, by simp only [intOf]; omega⟩
    ·go_wp2_with (first | (refine zqw (zzb rfl rfl rfl) _ rfl _ rfl _ _ _ _ _ _ _ h5 ?_) | (go_at_call 56; refine (Hcall.out _ (fun j hj => hBw.block j (by omega)) (by have := hBw.size; omega)).mono ?_; rintro e w5 ⟨rfl, hB5⟩))
     exact ⟨⟨k + 1, by omega, rfl, by rw [Hst.out]; rfl, zqd hBw hB5⟩, by simp only [intOf]; omega⟩
   ·have hkI : ¬ (k : Int) < n := by omega
    have hke : l.take k = l := List.take_of_length_le (by have := Hn.out; omega)
    rw [hke]
    go_wp2_with (fail)
    go_ret
    exact ⟨by rw [Hb.out]; rfl, hBw⟩
set_option maxRecDepth 100000 in
set_option maxHeartbeats 40000000 in
theorem places_any (nd : Nd) : nd.isT = true → ∀ (B : Nat) (w : World) (cs : Array Value), NdIn w B nd cs → B ≤ w.heap.size →
  Calls Tryz.prog 57 #[.agg cs] w fun e w' => e = .returned (.int .i64 ((min nd.U 2049 : Nat) : Int)) ∧ Below w.heap.size w w' := by
 induction nd using Nd.ind with
 | h kd st l mi ma ih =>
 intro hT B w cs hin hB
 obtain ⟨A, n, c, cl, rfl, hn, hcl, hmax, hs, hr⟩ := hin.inv
 simp only [Nd.isT, Bool.and_eq_true, Nd.areT_all, List.all_eq_true] at hT
 obtain ⟨hh, hl⟩ := hT
 obtain ⟨V, hV⟩ : ∃ V, min (Nd.mk kd st l mi ma).U 2049 = V := ⟨_, rfl⟩
 rw [hV]
 have Hn := Lib.hid hn
 have Hcl := Lib.hid hcl
 have Hr := Lib.hid hr
 have Ih := Lib.hid ih
 have Hl := Lib.hid hl
 have Hh := Lib.hid hh
 clear hn hcl hr ih hh hin hl
 go_enter Tryz.func57, Tryz.ntmps57
 have h1 := Blk.new w 56 (nodeC kd st A n c mi ma)
 have hB1 : Below w.heap.size w (w.alloc (.cells (nodeC kd st A n c mi ma) 56)) := zqc (Below.refl _ _) _
 go_upto_region 1 with (fail)
 obtain ⟨W1, hW1⟩ : ∃ y, y = w.alloc (.cells (nodeC kd st A n c mi ma) 56) := ⟨_, rfl⟩
 rw [← hW1] at h1 hB1 ⊢
 clear hW1
 have hl1 := h1.lt
 have c0 : W1.cell? ⟨w.heap.size, 0, none⟩ = some (.int .i64 kd) := h1.cellv (i := 0) rfl
 have c5 : W1.cell? ⟨w.heap.size, 5, none⟩ = some (.slice A n c) := h1.cellv (i := 5) rfl
 by_cases k267 : kd = 2 ∨ kd = 6 ∨ kd = 7
 ·have hU : (Nd.mk kd st l mi ma).U = 1 := by simp only [Nd.U]; rw [if_pos k267]
  rw [hU] at hV
  have HV := Lib.hid hV
  clear hV hU
  rcases k267 with rfl | rfl | rfl
  ·go_wp2_with (fail)
   go_ret
   exact ⟨congrArg (fun v => Ending.returned (.int .i64 v)) (by have := HV.out; omega), hB1⟩
  ·go_wp2_with (fail)
   go_ret
   exact ⟨congrArg (fun v => Ending.returned (.int .i64 v)) (by have := HV.out; omega), hB1⟩
  ·go_wp2_with (fail)
   go_ret
   exact ⟨congrArg (fun v => Ending.returned (.int .i64 v)) (by have := HV.out; omega), hB1⟩
 by_cases k1 : kd = 1
 ·subst k1
  have hU : (Nd.mk 1 st l mi ma).U = 0 := by simp [Nd.U]
  rw [hU] at hV
  have HV := Lib.hid hV
  clear hV hU
  go_wp2_with (fail)
  go_ret
  exact ⟨congrArg (fun v => Ending.returned (.int .i64 v)) (by have := HV.out; omega), hB1⟩
 by_cases k34 : kd = 3 ∨ kd = 4
 ·rcases k34 with rfl | rfl
  ·skip
   obtain ⟨b0, hb0⟩ : ∃ b0 : Nat, b0 = 0 := ⟨_, rfl⟩
   have hb0m : b0 ≤ n + 1 := by omega
   have hU : (Nd.mk 3 st l mi ma).U = b0 + Nd.Us l := by rw [hb0]; simp [Nd.U]
   rw [hU] at hV
   have HV := Lib.hid hV
   clear hV hU
   have Hb0 := Lib.hid hb0
   clear hb0
   go_wp2_with (fail)
   go_loopw [3, 26] (fun v i wr => ∃ k m : Nat, k ≤ n ∧ i = .int .i64 k ∧ v = .int .i64 m ∧ min m 2049 = min (b0 + Nd.Us (l.take k)) 2049 ∧ m ≤ b0 + 2049 ∧ Below w.heap.size w wr) (fun _ i _ => n - (intOf i).toNat)
   case atStart => exact ⟨0, b0, by omega, rfl, by rw [Hb0.out]; rfl, by simp [Nd.Us], by omega, hB1⟩
   case round =>
    clear h1 hB1 hl1 c0 c5
    obtain ⟨k, m, hk, rfl, rfl, hm, hmb, hBw⟩ := hrel
    by_cases hkn : k < n
    ·have hkI : (k : Int) < n := by omega
     have hkl : k < l.length := by rw [← Hn.out]; exact hkn
     have hkc : k < cl.length := by rw [Hcl.out]; exact hkl
     obtain ⟨ba, off, rfl, hba, hrows⟩ := hs.at_ (by omega)
     have hrow := (hrows k hkc).keep (hBw.block ba (by omega))
     have hsub := Hr.out k hkl hkc
     have hmem : l[k] ∈ l := List.getElem_mem hkl
     have hUs := Nd.Us_step l k hkl
     have hT := Hl.out _ hmem
     obtain ⟨⟨kd', st', l', mi', ma'⟩, hx⟩ : ∃ x, x = l[k] := ⟨_, rfl⟩
     rw [← hx] at hsub hUs hmem hT
     obtain ⟨A', n', c', cl', hce, -⟩ := hsub.inv
     rw [hce] at hrow hsub
     obtain ⟨q, hq⟩ : ∃ q, min (Nd.mk kd' st' l' mi' ma').U 2049 = q := ⟨_, rfl⟩
     have hm2 : min (min (m + q) 2049) 2049 = min (b0 + Nd.Us (l.take (k + 1))) 2049 := by rw [hUs]; omega
     have hqb : q ≤ 2049 := by omega
     have hcall := fun W h => Ih.out _ hmem hT B W _ (hsub.keep (w' := W) h)
     rw [hq] at hcall
     have Hcall := Lib.hid hcall
     have Hm2 := Lib.hid hm2
     clear hcall hm2 hq hx hce hsub hUs hm hT hmem
     have hkb : k < 1099511628000 := by omega
     go_upto_region 14 with (first | (refine zxg rfl _ rfl _ _ rfl _ _ _ _ _ _ _ hrow ?_) | (refine zyj rfl _ _ rfl _ _ _ _ _ _ _ _ rfl rfl (nodeC 0 0 none 0 0 0 0) rfl (Blk.new _ _ _) ?_; intro w3 h5 hg3))
     have hB3 := zqh (zqc (Below.refl _ wr) (.cells (nodeC 0 0 none 0 0 0 0) 56)) hg3 (Nat.le_refl _)
     replace hBw := zqd hBw hB3
     clear hrow hrows hB3 hg3
     go_wp2_with (first | (refine zzp rfl _ rfl _ rfl _ _ _ _ _ _ _ h5 ?_) | (go_at_call 57; refine (Hcall.out _ (fun j hj => hBw.block j (by omega)) (by have := hBw.size; omega)).mono ?_; rintro e w5 ⟨rfl, hB5⟩) | (go_at_call 57; refine park ?_))
     all_goals exact ⟨⟨k + 1, min (m + q) 2049, by omega, rfl, congrArg (Value.int .i64) (by omega), Hm2.out, by omega, zqd hBw hB5⟩, by simp only [intOf]; omega⟩
    ·have hkI : ¬ (k : Int) < n := by omega
     have hke : l.take k = l := List.take_of_length_le (by have := Hn.out; omega)
     rw [hke] at hm
     have Hm := Lib.hid hm
     clear hm hke
     go_wp2_with (fail)
     all_goals
      go_ret
      exact ⟨congrArg (fun v => Ending.returned (.int .i64 v)) (by have := HV.out; have := Hm.out; omega), hBw⟩
  ·skip
   obtain ⟨b0, hb0⟩ : ∃ b0 : Nat, b0 = n + 1 := ⟨_, rfl⟩
   have hb0m : b0 ≤ n + 1 := by omega
   have hU : (Nd.mk 4 st l mi ma).U = b0 + Nd.Us l := by rw [hb0]; simp [Nd.U, Hn.out]
   rw [hU] at hV
   have HV := Lib.hid hV
   clear hV hU
   have Hb0 := Lib.hid hb0
   clear hb0
   go_wp2_with (fail)
   go_loopw [3, 26] (fun v i wr => ∃ k m : Nat, k ≤ n ∧ i = .int .i64 k ∧ v = .int .i64 m ∧ min m 2049 = min (b0 + Nd.Us (l.take k)) 2049 ∧ m ≤ b0 + 2049 ∧ Below w.heap.size w wr) (fun _ i _ => n - (intOf i).toNat)
   case atStart => exact ⟨0, b0, by omega, rfl, by rw [Hb0.out]; simp, by simp [Nd.Us], by omega, hB1⟩
   case round =>
    clear h1 hB1 hl1 c0 c5
    obtain ⟨k, m, hk, rfl, rfl, hm, hmb, hBw⟩ := hrel
    by_cases hkn : k < n
    ·have hkI : (k : Int) < n := by omega
     have hkl : k < l.length := by rw [← Hn.out]; exact hkn
     have hkc : k < cl.length := by rw [Hcl.out]; exact hkl
     obtain ⟨ba, off, rfl, hba, hrows⟩ := hs.at_ (by omega)
     have hrow := (hrows k hkc).keep (hBw.block ba (by omega))
     have hsub := Hr.out k hkl hkc
     have hmem : l[k] ∈ l := List.getElem_mem hkl
     have hUs := Nd.Us_step l k hkl
     have hT := Hl.out _ hmem
     obtain ⟨⟨kd', st', l', mi', ma'⟩, hx⟩ : ∃ x, x = l[k] := ⟨_, rfl⟩
     rw [← hx] at hsub hUs hmem hT
     obtain ⟨A', n', c', cl', hce, -⟩ := hsub.inv
     rw [hce] at hrow hsub
     obtain ⟨q, hq⟩ : ∃ q, min (Nd.mk kd' st' l' mi' ma').U 2049 = q := ⟨_, rfl⟩
     have hm2 : min (min (m + q) 2049) 2049 = min (b0 + Nd.Us (l.take (k + 1))) 2049 := by rw [hUs]; omega
     have hqb : q ≤ 2049 := by omega
     have hcall := fun W h => Ih.out _ hmem hT B W _ (hsub.keep (w' := W) h)
     rw [hq] at hcall
     have Hcall := Lib.hid hcall
     have Hm2 := Lib.hid hm2
     clear hcall hm2 hq hx hce hsub hUs hm hT hmem
     have hkb : k < 1099511628000 := by omega
     go_upto_region 14 with (first | (refine zxg rfl _ rfl _ _ rfl _ _ _ _ _ _ _ hrow ?_) | (refine zyj rfl _ _ rfl _ _ _ _ _ _ _ _ rfl rfl (nodeC 0 0 none 0 0 0 0) rfl (Blk.new _ _ _) ?_; intro w3 h5 hg3))
     have hB3 := zqh (zqc (Below.refl _ wr) (.cells (nodeC 0 0 none 0 0 0 0) 56)) hg3 (Nat.le_refl _)
     replace hBw := zqd hBw hB3
     clear hrow hrows hB3 hg3
     go_wp2_with (first | (refine zzp rfl _ rfl _ rfl _ _ _ _ _ _ _ h5 ?_) | (go_at_call 57; refine (Hcall.out _ (fun j hj => hBw.block j (by omega)) (by have := hBw.size; omega)).mono ?_; rintro e w5 ⟨rfl, hB5⟩) | (go_at_call 57; refine park ?_))
     all_goals exact ⟨⟨k + 1, min (m + q) 2049, by omega, rfl, congrArg (Value.int .i64) (by omega), Hm2.out, by omega, zqd hBw hB5⟩, by simp only [intOf]; omega⟩
    ·have hkI : ¬ (k : Int) < n := by omega
     have hke : l.take k = l := List.take_of_length_le (by have := Hn.out; omega)
     rw [hke] at hm
     have Hm := Lib.hid hm
     clear hm hke
     go_wp2_with (fail)
     all_goals
      go_ret
      exact ⟨congrArg (fun v => Ending.returned (.int .i64 v)) (by have := HV.out; have := Hm.out; omega), hBw⟩
 by_cases k5 : kd = 5
 ·subst k5
  obtain ⟨_, hn1, hmi0, hmi1, hma⟩ := headOk_times Hh.out
  obtain ⟨x, rfl⟩ := List.length_eq_one_iff.1 hn1
  have hkc : 0 < cl.length := by rw [Hcl.out]; exact Nat.zero_lt_one
  obtain ⟨ba, off, rfl, hba, hrows⟩ := hs.at_ hkc
  have hrow := (hrows 0 hkc).keep (hB1.block ba (by omega))
  have hsub := Hr.out 0 (by simp) hkc
  have hT := Hl.out x (by simp)
  have hih := fun W h1 h2 => Ih.out x (by simp) hT B W _ (NdIn.keep (w' := W) h1 hsub) h2
  obtain ⟨⟨kd', st', l', mi', ma'⟩, hx⟩ : ∃ y, y = x := ⟨_, rfl⟩
  simp only [List.getElem_cons_zero] at hsub
  rw [← hx] at hsub hih hV
  obtain ⟨A', n', c', cl', hce, -⟩ := hsub.inv
  rw [hce] at hrow hih
  have hU : (Nd.mk 5 st [Nd.mk kd' st' l' mi' ma'] mi ma).U = tU (Nd.mk kd' st' l' mi' ma').U mi ma := by simp [Nd.U, Nd.Us]
  rw [hU, ← tU_cap 2049 _ _ _ (by omega)] at hV
  obtain ⟨q, hq⟩ : ∃ q, min (Nd.mk kd' st' l' mi' ma').U 2049 = q := ⟨_, rfl⟩
  rw [hq] at hV hih
  have hqb : q ≤ 2049 := by omega
  have Hih := Lib.hid hih
  have hn1' : 0 < n := by have := Hn.out; simp at this; omega
  clear hih hx hce hq hsub hT
  go_upto_region 17 with (first | (refine zxg rfl _ rfl _ _ rfl _ _ _ _ _ _ _ hrow ?_) | (go_at_call 57; refine (Hih.out _ (fun j hj => hB1.block j (by omega)) (by have := hB1.size; omega)).mono ?_; rintro e w5 ⟨rfl, hB5⟩) | (go_at_call 57; refine park ?_))
  replace hB1 := zqd hB1 hB5
  replace h1 := zqb h1 hB5
  have c6 : w5.cell? ⟨w.heap.size, 6, none⟩ = some (.int .i64 mi) := h1.cellv (i := 6) rfl
  have c7 : w5.cell? ⟨w.heap.size, 7, none⟩ = some (.int .i64 ma) := h1.cellv (i := 7) rfl
  clear hB5 hrow hrows c5 c0 hs Ih Hl Hr
  by_cases hq0 : q = 0
  ·subst hq0
   have hV0 : V = 0 := by rw [← hV]; simp [tU]
   have HV := Lib.hid hV0
   clear hV hV0
   go_wp2_with (fail)
   all_goals
    go_ret
    exact ⟨congrArg (fun v => Ending.returned (.int .i64 v)) (by have := HV.out; omega), hB1⟩
  ·have hq0I : ((q : Int) == 0) = false := by simpa using hq0
   have hti := tU_int (ma := ma) hmi0 hq0
   obtain ⟨b1, b2⟩ := mul_bound (q := q) hmi0 (by omega) (by omega)
   have HV := Lib.hid hV
   clear hV
   by_cases hm1 : ma = -1
   ·subst hm1
    rw [if_pos rfl] at hti
    have Hti := Lib.hid hti
    clear hti
    go_wp2_with (fail)
    all_goals
     go_ret
     exact ⟨congrArg (fun v => Ending.returned (.int .i64 v)) (by have := HV.out; have := Hti.out; omega), hB1⟩
   ·have hm1b : (ma == -1) = false := by simpa using hm1
    rw [if_neg hm1] at hti
    by_cases hm2 : mi < ma
    ·rw [if_pos hm2] at hti
     have Hti := Lib.hid hti
     clear hti
     have hm2b : decide (mi < ma) = true := by simpa using hm2
     obtain ⟨b3, b4⟩ := mul_bound (q := q) (a := ma - mi) (by omega) (by omega) (by omega)
     go_wp2_with (fail)
     all_goals
      go_ret
      exact ⟨congrArg (fun v => Ending.returned (.int .i64 v)) (by have := HV.out; have := Hti.out; omega), hB1⟩
    ·rw [if_neg hm2] at hti
     have Hti := Lib.hid hti
     clear hti
     have hm2b : decide (mi < ma) = false := by simpa using hm2
     go_wp2_with (fail)
     all_goals
      go_ret
      exact ⟨congrArg (fun v => Ending.returned (.int .i64 v)) (by have := HV.out; have := Hti.out; omega), hB1⟩
 exfalso
 have := Hh.out
 unfold headOk at this
 rw [if_neg (by omega), if_neg (by omega), if_neg k34, if_neg k5] at this
 cases this
def placesN (nd : Nd) : Nat := if nd.isT then min (nd.U + 1) 2049 else 0
set_option maxRecDepth 100000 in
set_option maxHeartbeats 4000000 in
theorem placesE_any (nd : Nd) (B : Nat) (w : World) (cs : Array Value) (hin : NdIn w B nd cs) (hB : B ≤ w.heap.size) :
  Calls Tryz.prog 39 #[.agg cs] w fun e w' => e = .returned (.int .i64 (placesN nd : Int)) ∧ Below w.heap.size w w' := by
 obtain ⟨kd, st, l, mi, ma⟩ := nd
 obtain ⟨A, n, c, cl, rfl, -⟩ := hin.inv
 have hi := fun W h1 h2 => isTree_any (Nd.mk kd st l mi ma) B W _ (NdIn.keep (w' := W) h1 hin) h2
 have hp := fun hT W h1 h2 => places_any (Nd.mk kd st l mi ma) hT B W _ (NdIn.keep (w' := W) h1 hin) h2
 obtain ⟨t, ht⟩ : ∃ t, (Nd.mk kd st l mi ma).isT = t := ⟨_, rfl⟩
 obtain ⟨V, hV⟩ : ∃ V, placesN (Nd.mk kd st l mi ma) = V := ⟨_, rfl⟩
 obtain ⟨q, hq⟩ : ∃ q, min (Nd.mk kd st l mi ma).U 2049 = q := ⟨_, rfl⟩
 have hVq : V = if t = true then min (q + 1) 2049 else 0 := by
  rw [← hV, ← ht, ← hq]
  unfold placesN
  split <;> omega
 have hqb : q ≤ 2049 := by omega
 rw [hV]
 rw [ht] at hi hp
 rw [hq] at hp
 have Hi := Lib.hid hi
 have Hp := Lib.hid hp
 have HV := Lib.hid hVq
 clear hi hp hVq hV hq ht hin
 go_enter Tryz.func39, Tryz.ntmps39
 have h1 := Blk.new w 56 (nodeC kd st A n c mi ma)
 have hB1 : Below w.heap.size w (w.alloc (.cells (nodeC kd st A n c mi ma) 56)) := zqc (Below.refl _ _) _
 go_upto_region 1 with (fail)
 obtain ⟨W1, hW1⟩ : ∃ y, y = w.alloc (.cells (nodeC kd st A n c mi ma) 56) := ⟨_, rfl⟩
 rw [← hW1] at h1 hB1 ⊢
 clear hW1
 cases t
 ·go_wp2_with (first | (refine zzp rfl _ rfl _ rfl _ _ _ _ _ _ _ h1 ?_) | (go_at_call 56; refine (Hi.out _ (fun j hj => hB1.block j (by omega)) (by have := hB1.size; omega)).mono ?_; rintro e w5 ⟨rfl, hB5⟩) | (go_at_call 56; refine park ?_))
  go_ret
  exact ⟨congrArg (fun v => Ending.returned (.int .i64 v)) (by rw [HV.out]; rfl), zqd hB1 hB5⟩
 ·go_wp2_with (first | (refine zzp rfl _ rfl _ rfl _ _ _ _ _ _ _ h1 ?_) | (go_at_call 56; refine (Hi.out _ (fun j hj => hB1.block j (by omega)) (by have := hB1.size; omega)).mono ?_; rintro e w5 ⟨rfl, hB5⟩; replace h1 := zqb h1 hB5; replace hB1 := zqd hB1 hB5) | (go_at_call 57; refine (Hp.out (by first | rfl | trivial) _ (fun j hj => hB1.block j (by omega)) (by have := hB1.size; omega)).mono ?_; rintro e w6 ⟨rfl, hB6⟩) | (go_at_call 56; refine park ?_) | (go_at_call 57; refine park ?_))
  all_goals
   go_ret
   exact ⟨congrArg (fun v => Ending.returned (.int .i64 v)) (by have h := HV.out; simp only [if_true] at h; omega), zqd hB1 hB6⟩
section
variable {α β : Type} {enc : α → Array Value} {enc2 : β → Array Value} {size size2 base base2 B g r : Nat} {e e2 t : TypeId} {W W' : World} {v v2 : Value} {ys : List α} {zs : List β} {cs : Array Value} {row : Option Nat}
theorem zxr (h : Own W base e size enc v ys) (hg : W.grownBy W' (some r)) (hr : r < base) : Own W' base e size enc v ys :=
 h.kept_ hg (fun j e1 e2 => by
  injection e2 with e2
  have := (h.lt j e1).1
  omega)
theorem zxb (h : Own W base e size enc v ys) (hb : Blk W r t cs) (hg : W.grownBy W' (some r)) (hne : e ≠ t) : Own W' base e size enc v ys :=
 h.kept_ hg (fun j e1 e2 => by
  injection e2 with e2
  rcases h.2 with ⟨hv, _⟩ | ⟨g', cap, cur, hv, hge, hh, _⟩
  ·rw [hv] at e1; cases e1
  ·rw [hv] at e1
   have a1 : g' = j := by simpa [Value.ownBlock] using e1
   subst a1; subst e2
   unfold Blk at hb
   rw [hh] at hb
   injection hb with hb
   injection hb with _ hb
   exact hne hb)
theorem zyc (h : Blk W g t cs) (ho : Own W base e size enc v ys) (hg : W.grownBy W' v.ownBlock) (hr : g < base) : Blk W' g t cs :=
 h.grown hg (fun e => by have := (ho.lt _ e.symm).1; omega)
theorem zxw (h : Own W base2 e2 size2 enc2 v2 zs) (ho : Own W base e size enc v ys) (hg : W.grownBy W' v.ownBlock) (hne : e ≠ e2) : Own W' base2 e2 size2 enc2 v2 zs :=
 h.kept_ hg (fun j e1 e3 => by
  rcases h.2 with ⟨hv, _⟩ | ⟨g', cap, cur, hv, hge, hh, _⟩
  ·rw [hv] at e1; cases e1
  ·rcases ho.2 with ⟨hv2, _⟩ | ⟨g2, cap2, cur2, hv2, hge2, hh2, _⟩
   ·rw [hv2] at e3; cases e3
   ·rw [hv] at e1; rw [hv2] at e3
    have a1 : g' = j := by simpa [Value.ownBlock] using e1
    have a2 : g2 = j := by simpa [Value.ownBlock] using e3
    subst a1; subst a2
    rw [hh] at hh2
    injection hh2 with hh2
    injection hh2 with _ hh2
    exact hne hh2.symm)
end
theorem run_edge1 (w : World) (y : Edg) : (Instr.buildSlice 23 1 #[(0, .agg (edgC y))]).run Tryz.prog w = .ok (.slice (some ⟨w.heap.size, 0, none⟩) 1 1) (w.alloc (.cells (edgC y) 69)) := by kernel_rfl
theorem build_edge (x : Edg) (w : World) : (Instr.build 69 #[(0, .int .i64 x.kd), (1, .int .i64 x.fr), (2, .int .i64 x.tt), (3, .agg (setC x.st))]).run Tryz.prog w = .ok (.agg (edgC x)) w := by kernel_rfl
theorem gs_build_edge {ops : Array Oper} {S : Nat → GSpec} {Q : Exit → Act → World → Prop} {i : Nat} {o : Oper} {a : Act} {w : World} (hw : Region.wanted o (yielded ops a.tmps) = true) (x0 x1 x2 x3 : Operand) (ho : o.op = .build 69 #[(0, x0), (1, x1), (2, x2), (3, x3)]) (x : Edg)
  (h0 : a.eval x0 = .int .i64 x.kd) (h1 : a.eval x1 = .int .i64 x.fr) (h2 : a.eval x2 = .int .i64 x.tt) (h3 : a.eval x3 = .agg (setC x.st)) (hp : (S i).p (.agg (edgC x)) w) : GStep Tryz.prog ops S Q i o a w :=
 zzx hw (v := .agg (edgC x))
  (by
   have e : (#[(0, x0), (1, x1), (2, x2), (3, x3)] : Array (Nat × Operand)).map (fun (i, x) => (i, a.eval x)) = #[(0, .int .i64 x.kd), (1, .int .i64 x.fr), (2, .int .i64 x.tt), (3, .agg (setC x.st))] := by simp [h0, h1, h2, h3]
   unfold execOp; simp only [ho, e, Sem.run_bind, build_edge, Result.andThen_ok, Sem.run_pure])
  (Below.refl _ _) hp
def oneS (lo : Nat) (d : Edg) : GSpec := ⟨fun v w => ∃ g, v = .slice (some ⟨g, 0, none⟩) 1 1 ∧ lo ≤ g ∧ Blk w g 69 (edgC d), fun v w w' ⟨g, h1, h2, h3⟩ hb => ⟨g, h1, h2, zqb h3 hb⟩⟩
def moreS (lo k0 : Nat) (rw : Option Nat) (es : List Edg) : GSpec := ⟨fun v w => Own w lo 69 7 edgC v es ∧ (v.ownBlock = rw ∨ ∃ k, v.ownBlock = some k ∧ k0 ≤ k), fun v w w' ⟨h1, h2⟩ hb => ⟨h1.then_ hb, h2⟩⟩
theorem gs_one {ops : Array Oper} {S : Nat → GSpec} {Q : Exit → Act → World → Prop} {i : Nat} {o : Oper} {a : Act} {w : World} (hw : Region.wanted o (yielded ops a.tmps) = true) (x : Operand) (ho : o.op = .buildSlice 23 1 #[(0, x)]) {lo : Nat} (hlo : lo ≤ w.heap.size) (d : Edg) (hx : a.eval x = .agg (edgC d))
  (hp : ∀ v w', (oneS lo d).p v w' → (S i).p v w') : GStep Tryz.prog ops S Q i o a w :=
 zzx hw (v := .slice (some ⟨w.heap.size, 0, none⟩) 1 1) (by unfold execOp; simp only [ho, List.map_toArray, List.map_cons, List.map_nil, hx, Sem.run_bind, run_edge1, Result.andThen_ok, Sem.run_pure]) (zqc (Below.refl _ _) _) (hp _ _ ⟨_, rfl, hlo, Blk.new _ _ _⟩)
theorem gs_more {rw : Option Nat} {i0 : Nat} {ops : Array Oper} {S : Nat → GSpec} {Q : Exit → Act → World → Prop} {o : Oper} {a : Act} {w : World} (hw : Region.wanted o (yielded ops a.tmps) = true) (x y : Operand) (ho : o.op = .call { callee := .builtin .append, args := #[x, y], argTypes := #[23, 23] })
  {lo k0 : Nat} (hlo : lo ≤ w.heap.size) (hk0 : k0 ≤ w.heap.size) (v : Value) (es : List Edg) (d : Edg) (hv : a.eval x = v) (hrw : v.ownBlock = rw) (hown : Own w lo 69 7 edgC v es) (hl : es.length ≤ 1099511627776) (lo2 : Nat) (hy : (oneS lo2 d).p (a.eval y) w)
  (hp : ∀ v w', (moreS lo k0 rw (es ++ [d])).p v w' → (S i0).p v w') : GStepR rw i0 Tryz.prog ops S Q i0 o a w := by
 obtain ⟨g, hy, _, hb⟩ := hy
 obtain ⟨i1, hi1, hz0, hz1, hz2⟩ := info_parts info_edge3
 obtain ⟨v', w', hrun, h2, h3, h4⟩ := run_append_slice (P := Tryz.prog) w lo 23 o.type 69 i1 _ 7 56 Tryz.underlying23 hi1 hz0 hz1 hz2 rfl (by decide) zxt edgC_one v es hown w.heap.size (some ⟨g, 0, none⟩) 1 1 [d] rfl (zxk (enc := edgC) (size := 7) hb) (by unfold maxLen; omega) (by omega) hlo
 refine GStepR.run hw (v := v') (w' := w') ?_ (hrw ▸ h3) (hp _ _ ⟨h2, ?_⟩)
 ·unfold execOp
  simp only [ho, resolve, invoke, builtin, Sem.run_bind, Sem.run_pure, Result.andThen_ok, List.map_toArray, List.map_cons, List.map_nil, hv, hy, hrun]
 ·rcases h4 with h4 | h4
  ·exact .inl (h4.trans hrw)
  ·exact .inr ⟨_, h4, hk0⟩
structure Fr (t1 t2 : TypeId) (gk : Nat) (W W' : World) : Prop where
 os : W'.os = W.os
 tape : W'.tape = W.tape
 output : W'.output = W.output
 size : W.heap.size ≤ W'.heap.size
 block : ∀ i, i < W.heap.size → (i < gk ∨ ∀ t cs, Blk W i t cs → t ≠ t1 ∧ t ≠ t2) → W'.heap[i]? = W.heap[i]?
section
variable {t1 t2 : TypeId} {gk g : Nat} {W W' W2 : World} {t : TypeId} {cs : Array Value}
theorem Fr.below (h : Below W.heap.size W W') : Fr t1 t2 gk W W' := ⟨h.os, h.tape, h.output, h.size, fun i hi _ => h.block i hi⟩
theorem Fr.trans (h : Fr t1 t2 gk W W') (k : Fr t1 t2 gk W' W2) : Fr t1 t2 gk W W2 :=
 ⟨k.os.trans h.os, k.tape.trans h.tape, k.output.trans h.output, Nat.le_trans h.size k.size, fun i hi hd => by
  have h1 := h.block i hi hd
  refine (k.block i (Nat.lt_of_lt_of_le hi h.size) ?_).trans h1
  rcases hd with hd | hd
  ·exact .inl hd
  ·exact .inr fun t cs hb => hd t cs (h1.symm.trans hb)⟩
theorem Fr.blk (hg : W.grownBy W' (some g)) (hb : Blk W g t cs) (hk : gk ≤ g) (ht : t = t1 ∨ t = t2) : Fr t1 t2 gk W W' :=
 ⟨hg.os, hg.tape, hg.output, hg.size, fun i hi hd => hg.block i hi (by
  intro e
  injection e with e
  subst e
  rcases hd with hd | hd
  ·omega
  ·have := hd t cs hb
   rcases ht with ht | ht
   ·exact this.1 ht
   ·exact this.2 ht)⟩
theorem Fr.own {α : Type} {enc : α → Array Value} {size : Nat} {v : Value} {ys : List α} (ho : Own W gk t2 size enc v ys) (hg : W.grownBy W' v.ownBlock) : Fr t1 t2 gk W W' :=
 ⟨hg.os, hg.tape, hg.output, hg.size, fun i hi hd => hg.block i hi (by
  intro e
  rcases ho.2 with ⟨hv, _⟩ | ⟨g', cap, cur, hv, hge, hh, _⟩
  ·rw [hv] at e; cases e
  ·rw [hv] at e
   have a1 : g' = i := by simpa [Value.ownBlock] using e.symm
   subst a1
   rcases hd with hd | hd
   ·omega
   ·exact (hd _ _ hh).2 rfl)⟩
theorem blk_fr (h : Blk W g t cs) (hf : Fr t1 t2 gk W W') (ht : g < gk ∨ (t ≠ t1 ∧ t ≠ t2)) : Blk W' g t cs :=
 (hf.block g h.lt (by
  rcases ht with ht | ht
  ·exact .inl ht
  ·refine .inr fun t2 cs2 hb => ?_
   have h2 : some (Obj.cells cs t) = some (Obj.cells cs2 t2) := h.symm.trans hb
   injection h2 with h2
   injection h2 with _ h3
   rw [← h3]
   exact ht)).trans h
theorem Own.fr {α : Type} {enc : α → Array Value} {size base : Nat} {e : TypeId} {v : Value} {ys : List α} (h : Own W base e size enc v ys) (hf : Fr t1 t2 gk W W') (he : e ≠ t1 ∧ e ≠ t2) : Own W' base e size enc v ys := by
 obtain ⟨h1, h2⟩ := h
 refine ⟨h1, ?_⟩
 rcases h2 with h2 | ⟨g', cap, cur, hv, hge, hh, r⟩
 ·exact .inl h2
 ·exact .inr ⟨g', cap, cur, hv, hge, blk_fr (t := e) (cs := cur) hh hf (.inr he), r⟩
theorem Below.fr {b0 : Nat} {w : World} (h : Below b0 w W) (hf : Fr t1 t2 gk W W') (hb : b0 ≤ gk) (h0 : b0 ≤ W.heap.size) : Below b0 w W' :=
 ⟨hf.os.trans h.os, hf.tape.trans h.tape, hf.output.trans h.output, Nat.le_trans h.size hf.size, fun i hi => (hf.block i (by omega) (.inl (by omega))).trans (h.block i hi)⟩
theorem NdIn.fr {B : Nat} {nd : Nd} {cs : Array Value} (h : NdIn W B nd cs) (hf : Fr t1 t2 gk W W') (hb : B ≤ gk) (h0 : B ≤ W.heap.size) : NdIn W' B nd cs := h.keep fun k hk => hf.block k (by omega) (.inl (by omega))
end
def MkIs (t : TypeId) (mc : Int → Value → Array Value) (W : World) (gk lo : Nat) (m : Ly) : Prop :=
 ∃ v, Blk W gk t (mc m.s v) ∧ Own W lo 69 7 edgC v m.e ∧ lo ≤ gk
def mkP (s : Int) (v : Value) : Array Value := #[.int .i64 s, v, .slice none 0 0]
theorem MkIs.then_ {t : TypeId} {mc : Int → Value → Array Value} {W W' : World} {gk lo : Nat} {m : Ly} (h : MkIs t mc W gk lo m) (hb : Below W.heap.size W W') : MkIs t mc W' gk lo m := by
 obtain ⟨v, h1, h2, h3⟩ := h
 exact ⟨v, zqb h1 hb, h2.then_ hb, h3⟩
theorem MkIs.lt {t : TypeId} {mc : Int → Value → Array Value} {W : World} {gk lo : Nat} {m : Ly} (h : MkIs t mc W gk lo m) : lo ≤ gk ∧ gk < W.heap.size := by
 obtain ⟨v, h1, h2, h3⟩ := h
 exact ⟨h3, h1.lt⟩
theorem field_maker_0 (b off : Nat) (w : World) : (Instr.fieldAt 116 (.pointer (some ⟨b, off, none⟩)) 0).run Tryz.prog w = .ok (.pointer (some ⟨b, off, none⟩)) w := by kernel_rfl
theorem info_edges1 : (Tryz.prog.info? 23).map (·.size) = some 1 := by kernel_rfl
set_option maxRecDepth 100000 in
set_option maxHeartbeats 4000000 in
theorem pstate_any (gk lo : Nat) (m : Ly) (w : World) (h : MkIs 116 mkP w gk lo m) (hm : m.s ≤ 1048576) :
  Calls Tryz.prog 42 #[.pointer (some ⟨gk, 0, none⟩)] w fun e w' => e = .returned (.int .i64 (m.s : Int)) ∧ MkIs 116 mkP w' gk lo m.new ∧ Fr 116 69 lo w w' := by
 obtain ⟨v, h1, h2, h3⟩ := h
 obtain ⟨s, es⟩ := m
 simp only at h1 h2 hm
 have hfb := Fr.blk (t1 := 116) (t2 := 69) (gk := lo) (zzi (zzk w (some gk)) (p := ⟨gk, 0, none⟩) (.inl rfl) (.int .i64 ((s : Int) + 1))) h1 h3 (.inl rfl)
 have hg := zzi (zzk w (some gk)) (p := ⟨gk, 0, none⟩) (.inl rfl) (.int .i64 ((s : Int) + 1))
 have c0 : w.cell? ⟨gk, 0, none⟩ = some (.int .i64 (s : Int)) := h1.cellv (i := 0) rfl
 have f0 := h1.frozen 0
 go_enter Tryz.func42, Tryz.ntmps42
 go_upto_region 2 with (fail)
 have h4 : Blk (w.setCell ⟨gk, 0, none⟩ (.int .i64 ((s : Int) + 1))) gk 116 (mkP ((s + 1 : Nat) : Int) v) := h1.set_eq rfl
 have h5 := zxb h2 h1 hg (by decide)
 obtain ⟨w2, hw2⟩ : ∃ y, y = w.setCell ⟨gk, 0, none⟩ (.int .i64 ((s : Int) + 1)) := ⟨_, rfl⟩
 rw [← hw2] at h4 h5 hfb ⊢
 clear hw2 c0 f0 hg h2 h1
 have c0 : w2.cell? ⟨gk, 0, none⟩ = some (.int .i64 ((s : Int) + 1)) := h4.cellv (i := 0) rfl
 go_wp2_with (fail)
 go_ret
 exact ⟨congrArg (fun v => Ending.returned (.int .i64 v)) (by omega), ⟨v, h4, h5, h3⟩, hfb⟩
set_option maxRecDepth 100000 in
set_option maxHeartbeats 4000000 in
theorem pedge_any (gk lo : Nat) (m : Ly) (kd : Int) (fr tt : Nat) (st : BSet) (w : World) (h : MkIs 116 mkP w gk lo m) (hm : m.e.length ≤ 1048576) :
  Calls Tryz.prog 94 #[.pointer (some ⟨gk, 0, none⟩), .int .i64 kd, .int .i64 (fr : Int), .int .i64 (tt : Int), .agg (setC st)] w fun e w' => e = .returned (.tuple #[]) ∧ MkIs 116 mkP w' gk lo (m.edge kd fr tt st) ∧ Fr 116 69 lo w w' := by
 obtain ⟨v, hk1, hk2, hlo⟩ := h
 obtain ⟨s, es⟩ := m
 simp only at hk1 hk2 hm
 have hgl := hk1.lt
 go_enter Tryz.func94, Tryz.ntmps94
 have h9 := Blk.new w 53 (setC st)
 have hB1 : Below w.heap.size w (w.alloc (.cells (setC st) 53)) := zqc (Below.refl _ _) _
 go_upto_region 1 with (fail)
 obtain ⟨w1, hw1⟩ : ∃ y, y = w.alloc (.cells (setC st) 53) := ⟨_, rfl⟩
 rw [← hw1] at h9 hB1 ⊢
 clear hw1
 replace hk1 := zqb hk1 hB1
 replace hk2 := hk2.then_ hB1
 have hl1 := h9.lt
 have hlt0 := hk2.lt
 have hne_9 : some w.heap.size ≠ v.ownBlock := fun e => zzm hk2 h9 (by decide) e.symm
 have hne_gk : some gk ≠ v.ownBlock := fun e => zzm hk2 hk1 (by decide) e.symm
 obtain ⟨rw0, hrw⟩ : ∃ y, v.ownBlock = y := ⟨_, rfl⟩
 rw [hrw] at hne_9 hne_gk hlt0
 refine zzv (rw := rw0) (i0 := 12) 16 [eqS (.pointer (some ⟨gk, 0, none⟩)), eqS (.pointer (some ⟨gk, 0, none⟩)), eqS (.pointer (some ⟨gk, 0, none⟩)), eqS (.pointer (some ⟨gk, 0, none⟩)), eqS (.pointer (some ⟨gk, 1, none⟩)), eqS v, eqS (.int .i64 kd), eqS (.int .i64 (fr : Int)), eqS (.int .i64 (tt : Int)), eqS (.agg (setC st)), eqS (.agg (edgC ⟨kd, fr, tt, st⟩)), oneS w1.heap.size ⟨kd, fr, tt, st⟩, moreS lo w1.heap.size rw0 (es ++ [⟨kd, fr, tt, st⟩]), eqS (.pointer (some ⟨gk, 0, none⟩)), eqS (.pointer (some ⟨gk, 0, none⟩)), eqS (.pointer (some ⟨gk, 1, none⟩))] [10, 11, 12, 13, 14, 15, 16, 17, 18, 19, 20, 21, 22, 23, 24, 25] rfl ?_ (by kernel_rfl) rfl ?_ ?_
 ·intro j hj v wa wb hp hg
  match j, hj, hp with
  | 0, _, hp => exact hp
  | 1, _, hp => exact hp
  | 2, _, hp => exact hp
  | 3, _, hp => exact hp
  | 4, _, hp => exact hp
  | 5, _, hp => exact hp
  | 6, _, hp => exact hp
  | 7, _, hp => exact hp
  | 8, _, hp => exact hp
  | 9, _, hp => exact hp
  | 10, _, hp => exact hp
  | 11, _, hp =>
   obtain ⟨g, q1, q2, q3⟩ := hp
   exact ⟨g, q1, q2, q3.grown hg (fun e => by have := (hlt0 g e.symm).2; omega)⟩
  | 12, hj, _ => exact absurd rfl hj
  | 13, _, hp => exact hp
  | 14, _, hp => exact hp
  | 15, _, hp => exact hp
  | j + 16, _, hp => exact hp
 ·skip
  refine StepsR.cons (fun a' w' hG hW hP dep => GStepR.of (zqi (zqa rfl) _ rfl (hG.other 0 rfl))) ?_
  refine StepsR.cons (fun a' w' hG hW hP dep => GStepR.of (zqi (zqa rfl) _ rfl (hG.other 0 rfl))) ?_
  refine StepsR.cons (fun a' w' hG hW hP dep => GStepR.of (gs_nil (zqa rfl) _ rfl _ (dep 1 rfl 11 rfl) rfl)) ?_
  refine StepsR.cons (fun a' w' hG hW hP dep => GStepR.of (zqn (zqa rfl) _ _ _ rfl gk 0 0 (dep 2 rfl 12 rfl) (fun wz => field_maker_0 gk 0 wz) rfl)) ?_
  refine StepsR.cons (fun a' w' hG hW hP dep => GStepR.of (zqn (zqa rfl) _ _ _ rfl gk 0 1 (dep 3 rfl 13 rfl) (fun wz => field_nfa_1 gk 0 wz) rfl)) ?_
  refine StepsR.cons (fun a' w' hG hW hP dep => GStepR.of (zqj (zqa rfl) _ _ rfl gk 1 (dep 4 rfl 14 rfl) v ((hk1.grown hW hne_gk).cellv (i := 1) rfl) _ Tryz.underlying23 rfl rfl)) ?_
  refine StepsR.cons (fun a' w' hG hW hP dep => GStepR.of (zqi (zqa rfl) _ rfl (hG.other 1 rfl))) ?_
  refine StepsR.cons (fun a' w' hG hW hP dep => GStepR.of (zqi (zqa rfl) _ rfl (hG.other 2 rfl))) ?_
  refine StepsR.cons (fun a' w' hG hW hP dep => GStepR.of (zqi (zqa rfl) _ rfl (hG.other 3 rfl))) ?_
  refine StepsR.cons (fun a' w' hG hW hP dep => GStepR.of (zxe (zqa rfl) _ rfl w.heap.size 0 (hG.other 9 rfl) st (RowAt.of_blk (h9.grown hW hne_9)) rfl)) ?_
  refine StepsR.cons (fun a' w' hG hW hP dep => GStepR.of (gs_build_edge (zqa rfl) _ _ _ _ rfl ⟨kd, fr, tt, st⟩ (dep 6 rfl 16 rfl) (dep 7 rfl 17 rfl) (dep 8 rfl 18 rfl) (dep 9 rfl 19 rfl) rfl)) ?_
  refine StepsR.cons (fun a' w' hG hW hP dep => GStepR.of (gs_one (zqa rfl) _ rfl (lo := w1.heap.size) hW.size ⟨kd, fr, tt, st⟩ (dep 10 rfl 20 rfl) (fun _ _ h => h))) ?_
  refine StepsR.cons (fun a' w' hG hW hP dep => gs_more (zqa rfl) _ _ rfl (lo := lo) (k0 := w1.heap.size) (by have := hW.size; omega) hW.size v _ ⟨kd, fr, tt, st⟩ (dep 5 rfl 15 rfl) hrw (hk2.then_ (hP rfl)) (by omega) w1.heap.size (dep 11 rfl 21 rfl) (fun _ _ h => h)) ?_
  refine StepsR.cons (fun a' w' hG hW hP dep => GStepR.of (gs_nil (zqa rfl) _ rfl _ (dep 0 rfl 10 rfl) rfl)) ?_
  refine StepsR.cons (fun a' w' hG hW hP dep => GStepR.of (zqn (zqa rfl) _ _ _ rfl gk 0 0 (dep 13 rfl 23 rfl) (fun wz => field_maker_0 gk 0 wz) rfl)) ?_
  refine StepsR.cons (fun a' w' hG hW hP dep => GStepR.of (zqn (zqa rfl) _ _ _ rfl gk 0 1 (dep 14 rfl 24 rfl) (fun wz => field_nfa_1 gk 0 wz) rfl)) ?_
  exact StepsR.nil
 intro uf w7 hW7 ans
 obtain ⟨hv7, hat7⟩ := ans 12 22 (by decide) rfl
 have hf : uf 25 = .pointer (some ⟨gk, 1, none⟩) := ans 15 25 (by decide) rfl
 obtain ⟨v7, hv8⟩ : ∃ v7, v7 = uf 22 := ⟨_, rfl⟩
 rw [← hv8] at hv7
 clear ans hat7
 simp only [zqr, List.foldl_cons, List.foldl_nil, Act.put, List.setIfInBounds_toArray, List.set_cons_zero, List.set_cons_succ, hf, ← hv8]
 clear hf hv8
 obtain ⟨A7, k7, rfl, _, _⟩ := hv7.shape
 simp only [List.drop]
 have hk7 : Blk w7 gk _ _ := hk1.grown hW7 hne_gk
 refine zqt rfl _ _ _ rfl gk 1 rfl _ _ (mkP (s : Int) (.slice A7 _ k7)) hk7 (by simp [mkP]) info_edges1 rfl rfl rfl ?_
 intro w8 h8 hg8
 have hF1 : Fr 116 69 lo w w1 := Fr.below hB1
 have hF2 : Fr 116 69 lo w1 w7 := Fr.own hk2 (hrw ▸ hW7)
 have hF3 : Fr 116 69 lo w7 w8 := Fr.blk hg8 hk7 hlo (.inl rfl)
 have hv8 := zxb hv7 hk7 hg8 (by decide)
 clear hk2 hk7 hv7 hg8 hW7 h9 hlt0 hrw
 refine wpList_nil ?_
 go_wp2_with (fail)
 first | (refine bodyPost_end (results_none rfl _ _ _) rfl ?_) | (refine bodyPost_ret (results_none rfl _ _ _) rfl ?_)
 exact ⟨rfl, ⟨_, h8, hv8, hlo⟩, (hF1.trans hF2).trans hF3⟩
set_option maxRecDepth 100000 in
set_option maxHeartbeats 4000000 in
theorem pfree_any (gk lo : Nat) (m : Ly) (fr tt : Nat) (w : World) (h : MkIs 116 mkP w gk lo m) (hm : m.e.length ≤ 1048576) :
  Calls Tryz.prog 82 #[.pointer (some ⟨gk, 0, none⟩), .int .i64 (fr : Int), .int .i64 (tt : Int)] w fun e w' => e = .returned (.tuple #[]) ∧ MkIs 116 mkP w' gk lo (m.free fr tt) ∧ Fr 116 69 lo w w' := by
 have hc := pedge_any gk lo m 1 fr tt 0 w h hm
 go_enter Tryz.func82, Tryz.ntmps82
 go_wp2_with (first | (refine zyl rfl rfl ?_) | (go_at_call 94; refine hc.mono ?_; rintro e w5 ⟨rfl, h5, hf5⟩) | (go_at_call 94; refine park ?_))
 first | (refine bodyPost_end (results_none rfl _ _ _) rfl ?_) | (refine bodyPost_ret (results_none rfl _ _ _) rfl ?_)
 exact ⟨rfl, h5, hf5⟩
def LayEnd (t : TypeId) (mc : Int → Value → Array Value) (gk lo : Nat) (w : World) (r : Ly × Nat) : Ending → World → Prop :=
 fun e w' => e = .returned (.int .i64 (r.2 : Int)) ∧ MkIs t mc w' gk lo r.1 ∧ Fr t 69 lo w w'
set_option maxRecDepth 100000 in
set_option maxHeartbeats 4000000 in
theorem over_any (gk lo : Nat) (m : Ly) (kd : Int) (a : Nat) (st : BSet) (w : World) (h : MkIs 116 mkP w gk lo m) (hm : m.s ≤ 1048576) (he : m.e.length ≤ 1048576) :
  Calls Tryz.prog 81 #[.pointer (some ⟨gk, 0, none⟩), .int .i64 kd, .int .i64 (a : Int), .agg (setC st)] w (LayEnd 116 mkP gk lo w (m.over kd a st)) := by
 have hlo := h.lt
 go_enter Tryz.func81, Tryz.ntmps81
 have h9 := Blk.new w 53 (setC st)
 have hB1 : Below w.heap.size w (w.alloc (.cells (setC st) 53)) := zqc (Below.refl _ _) _
 go_upto_region 1 with (fail)
 obtain ⟨w1, hw1⟩ : ∃ y, y = w.alloc (.cells (setC st) 53) := ⟨_, rfl⟩
 rw [← hw1] at h9 hB1 ⊢
 clear hw1
 replace h := h.then_ hB1
 have hF1 : Fr 116 69 lo w w1 := Fr.below hB1
 have hc := pstate_any gk lo m w1 h hm
 go_upto_region 2 with (first | (go_at_call 42; refine hc.mono ?_; rintro e w2 ⟨rfl, h2, hF2⟩) | (go_at_call 42; refine park ?_))
 replace h9 := blk_fr h9 hF2 (.inr ⟨by decide, by decide⟩)
 have hc2 := pedge_any gk lo m.new kd a m.s st w2 h2 he
 go_wp2_with (first | (refine zqv rfl _ rfl _ rfl _ h9 ?_) | (go_at_call 94; refine hc2.mono ?_; rintro e w3 ⟨rfl, h3, hF3⟩) | (go_at_call 94; refine park ?_))
 go_ret
 exact ⟨rfl, h3, (hF1.trans hF2).trans hF3⟩
set_option maxRecDepth 100000 in
set_option maxHeartbeats 4000000 in
theorem byte_any (gk lo : Nat) (m : Ly) (a : Nat) (kd : Int) (st : BSet) (A : Option Addr) (n c : Nat) (mi ma : Int) (w : World) (h : MkIs 116 mkP w gk lo m) (hm : m.s ≤ 1048576) (he : m.e.length ≤ 1048576) :
  Calls Tryz.prog 65 #[.pointer (some ⟨gk, 0, none⟩), .agg (nodeC kd st A n c mi ma), .int .i64 (a : Int)] w (LayEnd 116 mkP gk lo w (m.over 2 a st)) := by
 have hlo := h.lt
 go_enter Tryz.func65, Tryz.ntmps65
 have h9 := Blk.new w 56 (nodeC kd st A n c mi ma)
 have hB1 : Below w.heap.size w (w.alloc (.cells (nodeC kd st A n c mi ma) 56)) := zqc (Below.refl _ _) _
 go_upto_region 1 with (fail)
 obtain ⟨w1, hw1⟩ : ∃ y, y = w.alloc (.cells (nodeC kd st A n c mi ma) 56) := ⟨_, rfl⟩
 rw [← hw1] at h9 hB1 ⊢
 clear hw1
 replace h := h.then_ hB1
 have hF1 : Fr 116 69 lo w w1 := Fr.below hB1
 have hc := over_any gk lo m 2 a st w1 h hm he
 go_wp2_with (first | (refine zqo rfl _ rfl _ _ rfl _ (zxx h9) ?_) | (refine zyl rfl rfl ?_) | (go_at_call 81; refine hc.mono ?_; rintro e w3 ⟨rfl, h3, hF3⟩) | (go_at_call 81; refine park ?_))
 go_ret
 exact ⟨rfl, h3, hF1.trans hF3⟩
set_option maxRecDepth 100000 in
set_option maxHeartbeats 4000000 in
theorem begin_any (gk lo : Nat) (m : Ly) (a : Nat) (kd : Int) (st : BSet) (A : Option Addr) (n c : Nat) (mi ma : Int) (w : World) (h : MkIs 116 mkP w gk lo m) (hm : m.s ≤ 1048576) (he : m.e.length ≤ 1048576) :
  Calls Tryz.prog 69 #[.pointer (some ⟨gk, 0, none⟩), .agg (nodeC kd st A n c mi ma), .int .i64 (a : Int)] w (LayEnd 116 mkP gk lo w (m.over 3 a 0)) := by
 have hlo := h.lt
 go_enter Tryz.func69, Tryz.ntmps69
 have h9 := Blk.new w 56 (nodeC kd st A n c mi ma)
 have hB1 : Below w.heap.size w (w.alloc (.cells (nodeC kd st A n c mi ma) 56)) := zqc (Below.refl _ _) _
 go_upto_region 1 with (fail)
 obtain ⟨w1, hw1⟩ : ∃ y, y = w.alloc (.cells (nodeC kd st A n c mi ma) 56) := ⟨_, rfl⟩
 rw [← hw1] at h9 hB1 ⊢
 clear hw1
 replace h := h.then_ hB1
 have hF1 : Fr 116 69 lo w w1 := Fr.below hB1
 have hc := over_any gk lo m 3 a 0 w1 h hm he
 go_wp2_with (first | (refine zqo rfl _ rfl _ _ rfl _ (zxx h9) ?_) | (refine zyl rfl rfl ?_) | (go_at_call 81; refine hc.mono ?_; rintro e w3 ⟨rfl, h3, hF3⟩) | (go_at_call 81; refine park ?_))
 go_ret
 exact ⟨rfl, h3, hF1.trans hF3⟩
set_option maxRecDepth 100000 in
set_option maxHeartbeats 4000000 in
theorem end_any (gk lo : Nat) (m : Ly) (a : Nat) (kd : Int) (st : BSet) (A : Option Addr) (n c : Nat) (mi ma : Int) (w : World) (h : MkIs 116 mkP w gk lo m) (hm : m.s ≤ 1048576) (he : m.e.length ≤ 1048576) :
  Calls Tryz.prog 70 #[.pointer (some ⟨gk, 0, none⟩), .agg (nodeC kd st A n c mi ma), .int .i64 (a : Int)] w (LayEnd 116 mkP gk lo w (m.over 4 a 0)) := by
 have hlo := h.lt
 go_enter Tryz.func70, Tryz.ntmps70
 have h9 := Blk.new w 56 (nodeC kd st A n c mi ma)
 have hB1 : Below w.heap.size w (w.alloc (.cells (nodeC kd st A n c mi ma) 56)) := zqc (Below.refl _ _) _
 go_upto_region 1 with (fail)
 obtain ⟨w1, hw1⟩ : ∃ y, y = w.alloc (.cells (nodeC kd st A n c mi ma) 56) := ⟨_, rfl⟩
 rw [← hw1] at h9 hB1 ⊢
 clear hw1
 replace h := h.then_ hB1
 have hF1 : Fr 116 69 lo w w1 := Fr.below hB1
 have hc := over_any gk lo m 4 a 0 w1 h hm he
 go_wp2_with (first | (refine zqo rfl _ rfl _ _ rfl _ (zxx h9) ?_) | (refine zyl rfl rfl ?_) | (go_at_call 81; refine hc.mono ?_; rintro e w3 ⟨rfl, h3, hF3⟩) | (go_at_call 81; refine park ?_))
 go_ret
 exact ⟨rfl, h3, hF1.trans hF3⟩
set_option maxRecDepth 100000 in
set_option maxHeartbeats 4000000 in
theorem empty_any (gk lo : Nat) (m : Ly) (a : Nat) (kd : Int) (st : BSet) (A : Option Addr) (n c : Nat) (mi ma : Int) (w : World) (h : MkIs 116 mkP w gk lo m) :
  Calls Tryz.prog 64 #[.pointer (some ⟨gk, 0, none⟩), .agg (nodeC kd st A n c mi ma), .int .i64 (a : Int)] w (LayEnd 116 mkP gk lo w (m, a)) := by
 go_enter Tryz.func64, Tryz.ntmps64
 have hB1 : Below w.heap.size w (w.alloc (.cells (nodeC kd st A n c mi ma) 56)) := zqc (Below.refl _ _) _
 go_wp2_with (fail)
 go_ret
 exact ⟨rfl, h.then_ hB1, Fr.below hB1⟩
def encI1 (z : Nat) : Array Value := #[.int .i64 (z : Int)]
theorem encI1_size (z : Nat) : (encI1 z).size = 1 := rfl
theorem encI1_one (z : Nat) : (encI1 z).all (·.oneCell') = true := by simp [encI1, Value.oneCell']
theorem own_new1 {w : World} {base : Nat} {y : Nat} (hb : base ≤ w.heap.size) : Own (w.alloc (.cells (encI1 y) 3)) base 3 1 encI1 (.slice (some ⟨w.heap.size, 0, none⟩) 1 1) [y] :=
 ⟨rfl, .inr ⟨w.heap.size, 1, encI1 y, rfl, hb, heap_alloc_new w _, Nat.le_refl _, by unfold maxLen; omega, rfl, rfl⟩⟩
theorem run_int1 (w : World) (y : Int) : (Instr.buildSlice 47 1 #[(0, .int .i64 y)]).run Tryz.prog w = .ok (.slice (some ⟨w.heap.size, 0, none⟩) 1 1) (w.alloc (.cells #[.int .i64 y] 3)) := by kernel_rfl
theorem wl_int1 {ops : Array Oper} {rest : List Oper} {o : Oper} {a : Act} {w : World} {Q : Exit → Act → World → Prop} (hgd : o.guard = none) (x : Operand) (ho : o.op = .buildSlice 47 1 #[(0, x)]) (y : Nat) (hx : a.eval x = .int .i64 (y : Int))
  (h : wpList Tryz.prog ops Q rest (a.put o.dst (.slice (some ⟨w.heap.size, 0, none⟩) 1 1)) (w.alloc (.cells (encI1 y) 3))) : wpList Tryz.prog ops Q (o :: rest) a w :=
 wl_run hgd (v := .slice (some ⟨w.heap.size, 0, none⟩) 1 1) (by unfold execOp; simp only [ho, List.map_toArray, List.map_cons, List.map_nil, hx, Sem.run_bind, run_int1, Result.andThen_ok, Sem.run_pure]; rfl) h
set_option maxRecDepth 100000 in
set_option maxHeartbeats 4000000 in
theorem joined_any (gk lo b2 : Nat) (m : Ly) (ends : List Nat) (A : Option Addr) (n c : Nat) (hn : n = ends.length) (w : World) (h : MkIs 116 mkP w gk lo m) (hv : Own w b2 3 1 encI1 (.slice A n c) ends) (hm : m.s ≤ 1048576) (he : m.e.length + ends.length ≤ 1048576) :
  Calls Tryz.prog 83 #[.pointer (some ⟨gk, 0, none⟩), .slice A n c] w (LayEnd 116 mkP gk lo w (m.joined ends)) := by
 have Hn := Lib.hid hn
 have hnb : n ≤ 1048576 := by omega
 clear hn
 go_enter Tryz.func83, Tryz.ntmps83
 have hc := pstate_any gk lo m w h hm
 go_upto_region 2 with (first | (go_at_call 42; refine hc.mono ?_; rintro e w2 ⟨rfl, h2, hF2⟩) | (go_at_call 42; refine park ?_))
 replace hv := hv.fr hF2 ⟨by decide, by decide⟩
 clear hc h
 go_wp2_with (fail)
 go_loopw [12] (fun i wr => ∃ k : Nat, k ≤ n ∧ i = .int .i64 k ∧ MkIs 116 mkP wr gk lo (m.new.frees m.s (ends.take k)) ∧ Own wr b2 3 1 encI1 (.slice A n c) ends ∧ Fr 116 69 lo w wr) (fun i _ => n - (intOf i).toNat)
 case atStart => exact ⟨0, by omega, rfl, h2, hv, hF2⟩
 case round =>
  clear h2 hv hF2
  obtain ⟨k, hk, rfl, h2, hv, hF2⟩ := hrel
  by_cases hkn : k < n
  ·have hkI : (k : Int) < n := by omega
   have hkl : k < ends.length := by rw [← Hn.out]; exact hkn
   obtain ⟨g, cap, hvf, _, _, _⟩ := hv.form (by omega)
   injection hvf with hA hnn hcap
   clear hnn
   subst hA hcap
   have hrow := hv.row encI1_size k hkl
   obtain ⟨q, hq⟩ : ∃ q, q = ends[k] := ⟨_, rfl⟩
   rw [← hq, Nat.mul_one] at hrow
   have hc0 : wr.cell? ⟨g, k, none⟩ = some (.int .i64 (q : Int)) := hrow 0 _ rfl
   have hst : m.new.frees m.s (ends.take (k + 1)) = (m.new.frees m.s (ends.take k)).free q m.s := by rw [Ly.frees_snoc _ _ _ _ hkl, hq]
   have hel : (m.new.frees m.s (ends.take k)).e.length ≤ 1048576 := by
    rw [Ly.frees_e, List.length_take]
    have : m.new.e.length = m.e.length := rfl
    omega
   have hc2 := pfree_any gk lo _ q m.s wr h2 hel
   rw [← hst] at hc2
   have hkb : k < 1099511628000 := by omega
   clear hq hst hrow hel h2
   go_wp2_with (first | (go_at_call 82; refine hc2.mono ?_; rintro e w3 ⟨rfl, h3, hF3⟩) | (go_at_call 82; refine park ?_))
   exact ⟨⟨k + 1, by omega, rfl, h3, hv.fr hF3 ⟨by decide, by decide⟩, hF2.trans hF3⟩, by simp only [intOf]; omega⟩
  ·have hkI : ¬ (k : Int) < n := by omega
   have hke : ends.take k = ends := List.take_of_length_le (by have := Hn.out; omega)
   rw [hke] at h2
   clear hke
   go_wp2_with (fail)
   go_ret
   exact ⟨rfl, h2, hF2⟩
def LayOk (f : FuncId) (t : TypeId) (mc : Int → Value → Array Value) (nd : Nd) : Prop :=
 ∀ (gk lo B : Nat) (m : Ly) (a : Nat) (w : World) (cs : Array Value), NdIn w B nd cs → B ≤ lo → nd.isT = true → MkIs t mc w gk lo m → m.s + nd.U ≤ 524288 → m.e.length + 3 * nd.U ≤ 524288 →
  Calls Tryz.prog f #[.pointer (some ⟨gk, 0, none⟩), .agg cs, .int .i64 (a : Int)] w (LayEnd t mc gk lo w (nd.lay m a))
theorem Fr.grown {t1 t2 : TypeId} {gk : Nat} {w W W' : World} {row : Option Nat} (h : Fr t1 t2 gk w W) (hg : W.grownBy W' row) (hr : ∀ i, row = some i → w.heap.size ≤ i) : Fr t1 t2 gk w W' :=
 ⟨hg.os.trans h.os, hg.tape.trans h.tape, hg.output.trans h.output, Nat.le_trans h.size hg.size, fun i hi hd => (hg.block i (Nat.lt_of_lt_of_le hi h.size) (fun e => by have := hr i e.symm; omega)).trans (h.block i hi hd)⟩
theorem newfree_s (m : Ly) (a b : Nat) : (m.new.free a b).s = m.s + 1 := rfl
theorem newfree_e (m : Ly) (a b : Nat) : (m.new.free a b).e.length = m.e.length + 1 := by simp [Ly.free, Ly.edge, Ly.new]
theorem MkIs.row {t : TypeId} {mc : Int → Value → Array Value} {W W' : World} {gk lo base size : Nat} {m : Ly} {α : Type} {enc : α → Array Value} {e : TypeId} {v : Value} {ys : List α} (h : MkIs t mc W gk lo m) (ho : Own W base e size enc v ys) (hg : W.grownBy W' v.ownBlock) (he : e ≠ t) (he2 : e ≠ 69) : MkIs t mc W' gk lo m := by
 obtain ⟨x, h1, h2, h3⟩ := h
 exact ⟨x, h1.grown hg (fun q => zzm ho h1 he q.symm), zxw h2 ho hg he2, h3⟩
theorem row_at (l : List Nd) (hl : ∀ x ∈ l, x.isT = true) (m : Ly) (a k : Nat) : (Nd.row (l.take k) (m, a)).1.s = m.s + Nd.Us (l.take k) ∧ (Nd.row (l.take k) (m, a)).1.e.length ≤ m.e.length + 3 * Nd.Us (l.take k) := by
 have hg := row_good (l.take k) (fun x hx => lay_good x (hl x (List.mem_of_mem_take hx)))
 have h1 := hg.st m a
 have h2 := hg.ed m a
 exact ⟨h1, by omega⟩
theorem alt_at (l : List Nd) (hl : ∀ x ∈ l, x.isT = true) (m : Ly) (a k : Nat) (hk : k ≤ l.length) : (Nd.alt (l.take k) a (m, [])).1.s = m.s + k + Nd.Us (l.take k) ∧ (Nd.alt (l.take k) a (m, [])).1.e.length ≤ m.e.length + k + 3 * Nd.Us (l.take k) ∧ (Nd.alt (l.take k) a (m, [])).2.length = k := by
 have hg := alt_good (l.take k) (fun x hx => lay_good x (hl x (List.mem_of_mem_take hx))) a (m, [])
 simp only [List.length_take, List.length_nil, Nat.min_eq_left hk] at hg
 exact ⟨hg.1, hg.2.1, by omega⟩
set_option maxRecDepth 100000 in
set_option maxHeartbeats 4000000 in
theorem row_any (kd : Int) (st : BSet) (l : List Nd) (mi ma : Int) (ih : ∀ x ∈ l, LayOk 41 116 mkP x) (hl : ∀ x ∈ l, x.isT = true) (gk lo B : Nat) (m : Ly) (a : Nat) (w : World) (cs : Array Value) (hin : NdIn w B (.mk kd st l mi ma) cs) (hBl : B ≤ lo) (h : MkIs 116 mkP w gk lo m)
  (hms : m.s + Nd.Us l ≤ 524288) (hme : m.e.length + 3 * Nd.Us l ≤ 524288) :
  Calls Tryz.prog 66 #[.pointer (some ⟨gk, 0, none⟩), .agg cs, .int .i64 (a : Int)] w (LayEnd 116 mkP gk lo w (Nd.row l (m, a))) := by
 obtain ⟨A, n, c, cl, rfl, hn, hcl, hmax, hs, hr⟩ := hin.inv
 have hlo := h.lt
 have Hn := Lib.hid hn
 have Hcl := Lib.hid hcl
 have Hr := Lib.hid hr
 have Ih := Lib.hid ih
 have Hl := Lib.hid hl
 clear hn hcl hr ih hl hin
 go_enter Tryz.func66, Tryz.ntmps66
 have h1 := Blk.new w 56 (nodeC kd st A n c mi ma)
 have hB1 : Below w.heap.size w (w.alloc (.cells (nodeC kd st A n c mi ma) 56)) := zqc (Below.refl _ _) _
 go_upto_region 1 with (fail)
 obtain ⟨w1, hw1⟩ : ∃ y, y = w.alloc (.cells (nodeC kd st A n c mi ma) 56) := ⟨_, rfl⟩
 rw [← hw1] at h1 hB1 ⊢
 clear hw1
 replace h := h.then_ hB1
 have hF1 : Fr 116 69 lo w w1 := Fr.below hB1
 have c5 : w1.cell? ⟨w.heap.size, 5, none⟩ = some (.slice A n c) := h1.cellv (i := 5) rfl
 go_wp2_with (fail)
 go_loopw [2, 12] (fun v i wr => ∃ k : Nat, k ≤ n ∧ i = .int .i64 k ∧ v = .int .i64 ((Nd.row (l.take k) (m, a)).2 : Int) ∧ MkIs 116 mkP wr gk lo (Nd.row (l.take k) (m, a)).1 ∧ Fr 116 69 lo w wr) (fun _ i _ => n - (intOf i).toNat)
 case atStart => exact ⟨0, by omega, rfl, rfl, h, hF1⟩
 case round =>
  clear h hF1 h1 hB1 c5
  obtain ⟨k, hk, rfl, rfl, h, hFw⟩ := hrel
  have hsz := hFw.size
  by_cases hkn : k < n
  ·skip
   have hkI : (k : Int) < n := by omega
   have hkl : k < l.length := by rw [← Hn.out]; exact hkn
   have hkc : k < cl.length := by rw [Hcl.out]; exact hkl
   obtain ⟨ba, off, rfl, hba, hrows⟩ := hs.at_ (by omega)
   have hrow := (hrows k hkc).keep (hFw.block ba (by omega) (.inl (by omega)))
   have hsub := (Hr.out k hkl hkc).fr hFw (by omega) (by omega)
   have hmem : l[k] ∈ l := List.getElem_mem hkl
   have hUs := Nd.Us_step l k hkl
   have hUt := Nd.Us_take l (k + 1)
   have hT := Hl.out _ hmem
   have hih := Ih.out _ hmem
   have hrs := row_at l Hl.out m a k
   have hst := Nd.row_step l (m, a) k hkl
   obtain ⟨r, hrk⟩ : ∃ r, r = Nd.row (l.take k) (m, a) := ⟨_, rfl⟩
   rw [← hrk] at h hrs hst
   rw [← hrk]
   obtain ⟨⟨kd', st', l', mi', ma'⟩, hx⟩ : ∃ x, x = l[k] := ⟨_, rfl⟩
   rw [← hx] at hsub hUs hmem hT hih hst
   obtain ⟨A', n', c', cl', hce, -⟩ := hsub.inv
   rw [hce] at hrow hsub
   have Hst := Lib.hid hst
   have Hih := Lib.hid hih
   have HT := Lib.hid hT
   have hb1 : r.1.s + (Nd.mk kd' st' l' mi' ma').U ≤ 524288 := by omega
   have hb2 : r.1.e.length + 3 * (Nd.mk kd' st' l' mi' ma').U ≤ 524288 := by omega
   clear hst hih hT hrk hx hce hUs hUt hrs hmem
   have hkb : k < 1099511628000 := by omega
   go_upto_region 4 with (first | (refine zxg rfl _ rfl _ _ rfl _ _ _ _ _ _ _ hrow ?_) | (refine zyj rfl _ _ rfl _ _ _ _ _ _ _ _ rfl rfl (nodeC 0 0 none 0 0 0 0) rfl (Blk.new _ _ _) ?_; intro w3 h5 hg3))
   have hB3 := zqh (zqc (Below.refl _ wr) (.cells (nodeC 0 0 none 0 0 0 0) 56)) hg3 (Nat.le_refl _)
   have hF3 := hFw.trans (Fr.below hB3)
   replace h := h.then_ hB3
   replace hsub := hsub.then_ hB3 (by have := hFw.size; omega)
   clear hrow hrows hg3
   have hc := Hih.out gk lo B r.1 r.2 w3 _ hsub hBl HT.out h hb1 hb2
   have Hc := Lib.hid hc
   clear hc Hih HT h hb1 hb2
   go_wp2_with (first | (refine zzp rfl _ rfl _ rfl _ _ _ _ _ _ _ h5 ?_) | (go_at_call 41; refine Hc.out.mono ?_; rintro e w4 ⟨rfl, h4, hF4⟩) | (go_at_call 41; refine park ?_))
   exact ⟨⟨k + 1, by omega, rfl, by rw [Hst.out], by rw [Hst.out]; exact h4, hF3.trans hF4⟩, by simp only [intOf]; omega⟩
  ·have hkI : ¬ (k : Int) < n := by omega
   have hke : l.take k = l := List.take_of_length_le (by have := Hn.out; omega)
   rw [hke] at h
   rw [hke]
   clear hke
   go_wp2_with (fail)
   go_ret
   exact ⟨rfl, h, hFw⟩
set_option maxRecDepth 100000 in
set_option maxHeartbeats 4000000 in
theorem choice_any (kd : Int) (st : BSet) (l : List Nd) (mi ma : Int) (ih : ∀ x ∈ l, LayOk 41 116 mkP x) (hl : ∀ x ∈ l, x.isT = true) (gk lo B : Nat) (m : Ly) (a : Nat) (w : World) (cs : Array Value) (hin : NdIn w B (.mk kd st l mi ma) cs) (hBl : B ≤ lo) (h : MkIs 116 mkP w gk lo m)
  (hms : m.s + (l.length + 1 + Nd.Us l) ≤ 524288) (hme : m.e.length + 3 * (l.length + 1 + Nd.Us l) ≤ 524288) :
  Calls Tryz.prog 67 #[.pointer (some ⟨gk, 0, none⟩), .agg cs, .int .i64 (a : Int)] w (LayEnd 116 mkP gk lo w ((Nd.alt l a (m, [])).1.joined (Nd.alt l a (m, [])).2)) := by
 obtain ⟨A, n, c, cl, rfl, hn, hcl, hmax, hs, hr⟩ := hin.inv
 have hlo := h.lt
 have Hn := Lib.hid hn
 have Hcl := Lib.hid hcl
 have Hr := Lib.hid hr
 have Ih := Lib.hid ih
 have Hl := Lib.hid hl
 rw [← hn] at hms hme
 clear hn hcl hr ih hl hin
 go_enter Tryz.func67, Tryz.ntmps67
 have h1 := Blk.new w 56 (nodeC kd st A n c mi ma)
 have hB1 : Below w.heap.size w (w.alloc (.cells (nodeC kd st A n c mi ma) 56)) := zqc (Below.refl _ _) _
 go_upto_region 1 with (fail)
 obtain ⟨w1, hw1⟩ : ∃ y, y = w.alloc (.cells (nodeC kd st A n c mi ma) 56) := ⟨_, rfl⟩
 rw [← hw1] at h1 hB1 ⊢
 clear hw1
 replace h := h.then_ hB1
 have hF1 : Fr 116 69 lo w w1 := Fr.below hB1
 have c5 : w1.cell? ⟨w.heap.size, 5, none⟩ = some (.slice A n c) := h1.cellv (i := 5) rfl
 go_wp2_with (fail)
 go_loopw [7, 14] (fun v i wr => ∃ k : Nat, k ≤ n ∧ i = .int .i64 k ∧ Own wr w.heap.size 3 1 encI1 v (Nd.alt (l.take k) a (m, [])).2 ∧ MkIs 116 mkP wr gk lo (Nd.alt (l.take k) a (m, [])).1 ∧ Fr 116 69 lo w wr) (fun _ i _ => n - (intOf i).toNat)
 case atStart => exact ⟨0, by omega, rfl, Own.nil_ _ _ _ _ _, h, hF1⟩
 case round =>
  clear h hF1 h1 hB1 c5
  obtain ⟨k, hk, rfl, hv, h, hFw⟩ := hrel
  have hsz := hFw.size
  have hrs := alt_at l Hl.out m a k (by rw [← Hn.out]; exact hk)
  by_cases hkn : k < n
  ·skip
   have hkI : (k : Int) < n := by omega
   have hkl : k < l.length := by rw [← Hn.out]; exact hkn
   have hkc : k < cl.length := by rw [Hcl.out]; exact hkl
   obtain ⟨ba, off, rfl, hba, hrows⟩ := hs.at_ (by omega)
   have hrow := (hrows k hkc).keep (hFw.block ba (by omega) (.inl (by omega)))
   have hsub := (Hr.out k hkl hkc).fr hFw (by omega) (by omega)
   have hmem : l[k] ∈ l := List.getElem_mem hkl
   have hUs := Nd.Us_step l k hkl
   have hUt := Nd.Us_take l (k + 1)
   have hT := Hl.out _ hmem
   have hih := Ih.out _ hmem
   have hst := Nd.alt_step l a (m, []) k hkl
   obtain ⟨r, hrk⟩ : ∃ r, r = Nd.alt (l.take k) a (m, []) := ⟨_, rfl⟩
   rw [← hrk] at h hrs hst hv
   obtain ⟨⟨kd', st', l', mi', ma'⟩, hx⟩ : ∃ x, x = l[k] := ⟨_, rfl⟩
   rw [← hx] at hsub hUs hmem hT hih hst
   obtain ⟨A', n', c', cl', hce, -⟩ := hsub.inv
   rw [hce] at hrow hsub
   have Hst := Lib.hid hst
   have Hih := Lib.hid hih
   have HT := Lib.hid hT
   have hb1 : r.1.s + 1 + (Nd.mk kd' st' l' mi' ma').U ≤ 524288 := by omega
   have hb2 : r.1.e.length + 1 + 3 * (Nd.mk kd' st' l' mi' ma').U ≤ 524288 := by omega
   have hb3 : r.2.length ≤ 524288 := by omega
   clear hst hih hT hrk hx hce hUs hUt hrs hmem
   have hkb : k < 1099511628000 := by omega
   obtain ⟨A7, k7, rfl, _, _⟩ := hv.shape
   obtain ⟨rn, hrn⟩ : ∃ q, q = r.2.length := ⟨_, rfl⟩
   rw [← hrn]
   rw [← hrn] at hv hb3
   have Hrn := Lib.hid hrn
   clear hrn
   go_upto_region 5 with (first | (refine zxg rfl _ rfl _ _ rfl _ _ _ _ _ _ _ hrow ?_) | (refine zyj rfl _ _ rfl _ _ _ _ _ _ _ _ rfl rfl (nodeC 0 0 none 0 0 0 0) rfl (Blk.new _ _ _) ?_; intro w3 h5 hg3))
   have hB3 := zqh (zqc (Below.refl _ wr) (.cells (nodeC 0 0 none 0 0 0 0) 56)) hg3 (Nat.le_refl _)
   have hF3 := hFw.trans (Fr.below hB3)
   replace h := h.then_ hB3
   replace hsub := hsub.then_ hB3 (by have := hFw.size; omega)
   clear hrow hrows hg3
   replace hv := hv.then_ hB3
   have hc1 := pstate_any gk lo r.1 w3 h (by omega)
   have Hc1 := Lib.hid hc1
   clear hc1 h
   go_upto_region 6 with (first | (go_at_call 42; refine Hc1.out.mono ?_; rintro e w4 ⟨rfl, h4, hF4⟩) | (go_at_call 42; refine park ?_))
   have hc2 := pfree_any gk lo r.1.new a r.1.s w4 h4 (by have : r.1.new.e = r.1.e := rfl; rw [this]; omega)
   have Hc2 := Lib.hid hc2
   clear hc2 Hc1 h4
   go_upto_region 7 with (first | (go_at_call 82; refine Hc2.out.mono ?_; rintro e w5 ⟨rfl, h6, hF5⟩) | (go_at_call 82; refine park ?_))
   have hF35 := (hF3.trans hF4).trans hF5
   have hF45 := hF4.trans hF5
   replace h5 := blk_fr h5 hF45 (.inr ⟨by decide, by decide⟩)
   replace hv := hv.fr hF45 ⟨by decide, by decide⟩
   replace hsub := hsub.fr hF45 hBl (by have := hF3.size; omega)
   have hc3 := Hih.out gk lo B (r.1.new.free a r.1.s) r.1.s w5 _ hsub hBl HT.out h6 (by rw [newfree_s]; omega) (by rw [newfree_e]; omega)
   have Hc3 := Lib.hid hc3
   clear hc3 Hc2 Hih h6 hF4 hF5 hsub
   obtain ⟨i1, hi1, hy0, hy1, hy2⟩ := info_parts info_int3
   obtain ⟨p, hp⟩ : ∃ p, p = (Nd.mk kd' st' l' mi' ma').lay (r.1.new.free a r.1.s) r.1.s := ⟨_, rfl⟩
   have hst2 : Nd.alt (l.take (k + 1)) a (m, []) = (p.1, r.2 ++ [p.2]) := by rw [Hst.out, hp]; rfl
   have hc4 := Hc3.out
   rw [← hp] at hc4
   have Hc4 := Lib.hid hc4
   have Hst2 := Lib.hid hst2
   clear hc4 Hc3 hp hst2 Hst
   go_wp2_with (first | (refine zzp rfl _ rfl _ rfl _ _ _ _ _ _ _ h5 ?_) | (go_at_call 41; refine Hc4.out.mono ?_; rintro e w6 ⟨rfl, h7, hF6⟩) | (refine wl_int1 rfl _ rfl _ rfl ?_) | (at_builtin; refine park ?_) | (go_at_call 41; refine park ?_))
   refine Parked.mk ?_
   replace hv := hv.fr hF6 ⟨by decide, by decide⟩
   have hB7 : Below w6.heap.size w6 (w6.alloc (.cells (encI1 p.2) 3)) := zqc (Below.refl _ _) _
   have hv7 := hv.then_ hB7
   have hone := zxk (enc := encI1) (size := 1) (y := p.2) (w := w6.alloc (.cells (encI1 p.2) 3)) (g := w6.heap.size) (t := 3) (Blk.new _ _ _)
   have hsz3 := hF3.size
   have hsz5 := hF35.size
   have hsz6 := hF6.size
   have hsz7 := hB7.size
   refine zxh _ rfl _ _ 47 rfl w.heap.size 3 i1 _ 1 8 Tryz.underlying47 hi1 hy0 hy1 hy2 rfl (by decide) encI1_size encI1_one (.slice A7 _ k7) _ rfl hv7 _ _ 1 1 [p.2] rfl rfl hone (by rw [← Hrn.out]; unfold maxLen; omega) (by rw [← Hrn.out]; omega) (by omega) ?_
   intro v9 w8 hv8 hg8 hat8
   have hF8 : Fr 116 69 lo w w8 := (hF35.trans (hF6.trans (Fr.below hB7))).grown hg8 (fun i e => (hv7.lt i e).1)
   have h8 := (h7.then_ hB7).row hv7 hg8 (by decide) (by decide)
   simp only [Act.put, List.setIfInBounds_toArray, List.set_cons_zero, List.set_cons_succ]
   clear hv7 hg8 hat8 hone hi1 hy0 hy1 hy2 hv h7 hB7 h5
   go_wp2_with (fail)
   exact ⟨⟨k + 1, by omega, rfl, by rw [Hst2.out]; exact hv8, by rw [Hst2.out]; exact h8, hF8⟩, by simp only [intOf]; omega⟩
  ·have hkI : ¬ (k : Int) < n := by omega
   have hke : l.take k = l := List.take_of_length_le (by have := Hn.out; omega)
   rw [hke] at h hv
   have hk2 : k = n := by omega
   obtain ⟨r, hrk⟩ : ∃ r, r = Nd.alt l a (m, []) := ⟨_, rfl⟩
   rw [← hrk] at h hv
   rw [hke, hk2, ← hrk] at hrs
   rw [← hrk]
   obtain ⟨A7, k7, rfl, _, _⟩ := hv.shape
   have hc := joined_any gk lo w.heap.size r.1 r.2 A7 r.2.length k7 rfl wr h hv (by omega) (by omega)
   have Hc := Lib.hid hc
   have Hrk := Lib.hid hrk
   clear hke hk2 hrk hrs hc h hv
   go_wp2_with (first | (go_at_call 83; refine Hc.out.mono ?_; rintro e w4 ⟨rfl, h4, hF4⟩) | (go_at_call 83; refine park ?_))
   go_ret
   exact ⟨by rw [← Hrk.out]; rfl, by rw [← Hrk.out]; exact h4, hFw.trans hF4⟩
theorem placesN_one {x : Nd} (hT : x.isT = true) : placesN x = 1 ↔ x.U = 0 := by
 unfold placesN
 rw [if_pos hT]
 omega
section
variable {f : LayF} {u : Nat}
theorem reps_at (h : GoodF f u) (m : Ly) (a k mn : Nat) (hk : k ≤ mn) : (reps f k (m, a)).1.s = m.s + k * u ∧ (reps f k (m, a)).1.e.length ≤ m.e.length + 3 * (k * u) ∧ k * u ≤ mn * u := by
 have h1 := h.reps_s (m, a) k
 have h2 := h.reps_e (m, a) k
 refine ⟨h1, Nat.le_trans h2 ?_, Nat.mul_le_mul_right _ hk⟩
 rcases Nat.eq_zero_or_pos u with h0 | h0
 ·subst h0; simp
 ·have := mul_three k u h0
  simp only
  omega
theorem opts_at (h : GoodF f u) (q : Ly × Nat) (k d : Nat) (hk : k ≤ d) : (opts f k (q, [q.2])).1.1.s = q.1.s + k * u ∧ (opts f k (q, [q.2])).1.1.e.length ≤ q.1.e.length + 3 * (k * u) ∧ k * u ≤ d * u ∧ (opts f k (q, [q.2])).2.length = 1 + k := by
 have h1 := h.opts_s (q, [q.2]) k
 have h2 := h.opts_e (q, [q.2]) k
 refine ⟨h1, Nat.le_trans h2 ?_, Nat.mul_le_mul_right _ hk, opts_len _ k⟩
 rcases Nat.eq_zero_or_pos u with h0 | h0
 ·subst h0; simp
 ·have := mul_three k u h0
  simp only
  omega
theorem succ_mul_le (u k mn : Nat) (h : k < mn) : k * u + u ≤ mn * u := by
 have := Nat.mul_le_mul_right u (show k + 1 ≤ mn from h)
 rw [Nat.add_mul, Nat.one_mul] at this
 exact this
end
set_option maxRecDepth 100000 in
set_option maxHeartbeats 8000000 in
theorem times_any (kd : Int) (st : BSet) (x : Nd) (mi ma : Int) (hT : x.isT = true) (ih : LayOk 41 116 mkP x) (hmi0 : 0 ≤ mi) (hmi1 : mi ≤ 255) (hma : ma = -1 ∨ (mi ≤ ma ∧ ma ≤ 255)) (gk lo B : Nat) (m : Ly) (a : Nat) (w : World) (cs : Array Value) (hin : NdIn w B (.mk kd st [x] mi ma) cs) (hBl : B ≤ lo) (h : MkIs 116 mkP w gk lo m)
  (hms : m.s + tU x.U mi ma ≤ 524288) (hme : m.e.length + 3 * tU x.U mi ma ≤ 524288) :
  Calls Tryz.prog 68 #[.pointer (some ⟨gk, 0, none⟩), .agg cs, .int .i64 (a : Int)] w (LayEnd 116 mkP gk lo w (zzy x.lay x.U mi ma m a)) := by
 obtain ⟨A, n, c, cl, rfl, hn, hcl, hmax, hs, hr⟩ := hin.inv
 have hlo := h.lt
 have hkc : 0 < cl.length := by rw [hcl]; exact Nat.zero_lt_one
 have hn1 : 0 < n := by rw [hn]; exact Nat.zero_lt_one
 obtain ⟨ba, off, rfl, hba, hrows⟩ := hs.at_ hkc
 have hrow0 := hrows 0 hkc
 have hsub := hr 0 (by simp) hkc
 simp only [List.getElem_cons_zero] at hsub
 have hgood := lay_good x hT
 have hpl := fun W h1 h2 => placesE_any x B W _ (NdIn.keep (w' := W) h1 hsub) h2
 have hone := placesN_one hT
 obtain ⟨V, hV⟩ : ∃ V, placesN x = V := ⟨_, rfl⟩
 obtain ⟨u, hu⟩ : ∃ u, x.U = u := ⟨_, rfl⟩
 obtain ⟨f, hf⟩ : ∃ f, x.lay = f := ⟨_, rfl⟩
 rw [hV] at hpl hone
 rw [hu] at hone hgood hms hme ⊢
 rw [hf] at hgood ⊢
 have hih : ∀ (m : Ly) (a : Nat) (w : World) (cs : Array Value), NdIn w B x cs → MkIs 116 mkP w gk lo m → m.s + u ≤ 524288 → m.e.length + 3 * u ≤ 524288 →
   Calls Tryz.prog 41 #[.pointer (some ⟨gk, 0, none⟩), .agg cs, .int .i64 (a : Int)] w (LayEnd 116 mkP gk lo w (f m a)) := fun m a w cs q1 q2 q3 q4 => by
  have := ih gk lo B m a w cs q1 hBl hT q2 (by rw [hu]; exact q3) (by rw [hu]; exact q4)
  rw [hf] at this
  exact this
 obtain ⟨⟨kd', st', l', mi', ma'⟩, hx⟩ : ∃ y, y = x := ⟨_, rfl⟩
 rw [← hx] at hsub hih
 obtain ⟨A', n', c', cl', hce, -⟩ := hsub.inv
 rw [hce] at hrow0 hsub hpl
 obtain ⟨mn, rfl⟩ := Int.eq_ofNat_of_zero_le hmi0
 have hsubl := fun W h1 => NdIn.keep (w' := W) h1 hsub
 have Hsub := Lib.hid hsubl
 have Hih := Lib.hid hih
 have Hpl := Lib.hid hpl
 have Hone := Lib.hid hone
 have Hgood := Lib.hid hgood
 clear hn hcl hr ih hT hin hgood hpl hone hih hx hce hsub hu hf hV hsubl hs hrows
 go_enter Tryz.func68, Tryz.ntmps68
 have h1 := Blk.new w 56 (nodeC kd st (some ⟨ba, off, none⟩) n c mn ma)
 have hB1 : Below w.heap.size w (w.alloc (.cells (nodeC kd st (some ⟨ba, off, none⟩) n c mn ma) 56)) := zqc (Below.refl _ _) _
 go_upto_region 1 with (fail)
 obtain ⟨w1, hw1⟩ : ∃ y, y = w.alloc (.cells (nodeC kd st (some ⟨ba, off, none⟩) n c mn ma) 56) := ⟨_, rfl⟩
 rw [← hw1] at h1 hB1 ⊢
 clear hw1
 replace h := h.then_ hB1
 have hF1 : Fr 116 69 lo w w1 := Fr.below hB1
 have c5 : w1.cell? ⟨w.heap.size, 5, none⟩ = some (.slice (some ⟨ba, off, none⟩) n c) := h1.cellv (i := 5) rfl
 have hrow := hrow0.keep (hB1.block ba (by omega))
 go_upto_region 2 with (first | (refine zxg rfl _ rfl _ _ rfl _ _ _ _ _ _ _ hrow ?_) | (refine zyj rfl _ _ rfl _ _ _ _ _ _ _ _ rfl rfl (nodeC 0 0 none 0 0 0 0) rfl (Blk.new _ _ _) ?_; intro w3 h5 hg3))
 have hB3 := zqh (zqc (Below.refl _ w1) (.cells (nodeC 0 0 none 0 0 0 0) 56)) hg3 (Nat.le_refl _)
 replace h := h.then_ hB3
 replace h1 := zqb h1 hB3
 replace hB1 := zqd hB1 hB3
 obtain ⟨g7, hg7⟩ : ∃ g, g = w1.heap.size := ⟨_, rfl⟩
 rw [← hg7] at h5
 rw [← hg7]
 have hp := Hpl.out w3 (fun j hj => hB1.block j (by omega)) (by have := hB1.size; omega)
 have Hp := Lib.hid hp
 clear hp hg3 hB3 hF1 hrow c5 hg7 Hpl hrow0
 by_cases hu0 : u = 0
 ·have hV1 := Hone.out.2 hu0
  have e1 : zzy f u mn ma m a = (m, a) := by unfold zzy; rw [if_pos hu0]
  have Hp1 : Hid _ := Lib.hid (hV1 ▸ Hp.out)
  have E1 := Lib.hid e1
  clear hV1 Hp e1 hms hme
  go_wp2_with (first | (refine zzp rfl _ rfl _ rfl _ _ _ _ _ _ _ h5 ?_) | (go_at_call 39; refine Hp1.out.mono ?_; rintro e w4 ⟨rfl, hB4⟩) | (go_at_call 39; refine park ?_))
  go_ret
  exact ⟨by rw [E1.out]; rfl, by rw [E1.out]; exact h.then_ hB4, Fr.below (zqd hB1 hB4)⟩
 have hVI : ((V : Int) == 1) = false := by
  have := Hone.out
  have h2 : ¬ V = 1 := fun h => hu0 (this.1 h)
  simp only [beq_eq_false_iff_ne, ne_eq]
  omega
 go_upto_region 4 with (first | (refine zzp rfl _ rfl _ rfl _ _ _ _ _ _ _ h5 ?_) | (go_at_call 39; refine Hp.out.mono ?_; rintro e w4 ⟨rfl, hB4⟩) | (go_at_call 39; refine park ?_))
 replace h := h.then_ hB4
 replace h1 := zqb h1 hB4
 replace h5 := zqb h5 hB4
 have hF1 : Fr 116 69 lo w w4 := Fr.below (zqd hB1 hB4)
 have c6 : w4.cell? ⟨w.heap.size, 6, none⟩ = some (.int .i64 (mn : Int)) := h1.cellv (i := 6) rfl
 clear hB4 hB1 Hp Hone hVI
 go_wp2_with (fail)
 clear c6
 go_loopw [8, 22] (fun v i wr => ∃ k : Nat, k ≤ mn ∧ i = .int .i64 k ∧ v = .int .i64 ((reps f k (m, a)).2 : Int) ∧ MkIs 116 mkP wr gk lo (reps f k (m, a)).1 ∧ Blk wr g7 56 (nodeC kd' st' A' n' c' mi' ma') ∧ Blk wr w.heap.size 56 (nodeC kd st (some ⟨ba, off, none⟩) n c mn ma) ∧ Fr 116 69 lo w wr) (fun _ i _ => mn - (intOf i).toNat)
 case atStart => exact ⟨0, by omega, rfl, rfl, h, h5, h1, hF1⟩
 case round =>
  clear h h5 h1 hF1
  obtain ⟨k, hk, rfl, rfl, h, h5, h1, hFw⟩ := hrel
  have hsz := hFw.size
  obtain ⟨hr1, hr2, hr3⟩ := reps_at Hgood.out m a k mn hk
  have hmul : mn * u ≤ tU u mn ma := by unfold tU; rw [if_neg hu0]; simp
  by_cases hkn : k < mn
  ·have hkI : (k : Int) < mn := by omega
   have hsucc := succ_mul_le u k mn hkn
   have hc := Hih.out _ (reps f k (m, a)).2 wr _ (Hsub.out wr (fun j hj => hFw.block j (by omega) (.inl (by omega)))) h (by omega) (by omega)
   have hst : f (reps f k (m, a)).1 (reps f k (m, a)).2 = reps f (k + 1) (m, a) := rfl
   rw [hst] at hc
   have Hc := Lib.hid hc
   have hkb : k < 1099511628000 := by omega
   clear hc hst h hr1 hr2 hr3 hsucc hmul hms hme
   go_wp2_with (first | (refine zzp rfl _ rfl _ rfl _ _ _ _ _ _ _ h5 ?_) | (go_at_call 41; refine Hc.out.mono ?_; rintro e w5 ⟨rfl, h6, hF5⟩) | (go_at_call 41; refine park ?_))
   exact ⟨⟨k + 1, by omega, rfl, rfl, h6, blk_fr h5 hF5 (.inr ⟨by decide, by decide⟩), blk_fr h1 hF5 (.inr ⟨by decide, by decide⟩), hFw.trans hF5⟩, by simp only [intOf]; omega⟩
  ·have hkI : ¬ (k : Int) < mn := by omega
   obtain rfl : k = mn := by omega
   have c6 : wr.cell? ⟨w.heap.size, 6, none⟩ = some (.int .i64 (k : Int)) := h1.cellv (i := 6) rfl
   have c7 : wr.cell? ⟨w.heap.size, 7, none⟩ = some (.int .i64 ma) := h1.cellv (i := 7) rfl
   obtain ⟨q, hq⟩ : ∃ q, q = reps f k (m, a) := ⟨_, rfl⟩
   rw [← hq] at h hr1 hr2
   rw [← hq]
   by_cases hm1 : ma = -1
   ·subst hm1
    have e2 : tU u (k : Int) (-1) = k * u + (u + 2) := by unfold tU; rw [if_neg hu0, if_pos rfl]; simp
    rw [e2] at hms hme
    have hc1 := pstate_any gk lo q.1 wr h (by omega)
    have Hc1 := Lib.hid hc1
    have hb1 : q.1.s + 1 + u ≤ 524288 := by omega
    have hb2 : q.1.e.length + 3 + 3 * u ≤ 524288 := by omega
    have e3 : zzy f u (k : Int) (-1) m a = ((f (q.1.new.free q.2 q.1.s) q.1.s).1.free (f (q.1.new.free q.2 q.1.s) q.1.s).2 q.1.s).joined [q.1.s] := by
     unfold zzy
     rw [if_neg hu0, if_pos rfl]
     simp only [Int.toNat_natCast]
     rw [← hq]
    have E3 := Lib.hid e3
    have hub := Hgood.out.st (q.1.new.free q.2 q.1.s) q.1.s
    have hue := Hgood.out.ed (q.1.new.free q.2 q.1.s) q.1.s
    rw [newfree_s] at hub
    rw [newfree_e] at hue
    clear hc1 e3 e2 hq hr1 hr2 hr3 h hmul hms hme
    go_upto_region 11 with (first | (go_at_call 42; refine Hc1.out.mono ?_; rintro e w4 ⟨rfl, h4, hF4⟩) | (go_at_call 42; refine park ?_))
    have hc2 := pfree_any gk lo q.1.new q.2 q.1.s w4 h4 (by have : q.1.new.e = q.1.e := rfl; rw [this]; omega)
    have Hc2 := Lib.hid hc2
    clear hc2 Hc1 h4
    go_upto_region 12 with (first | (go_at_call 82; refine Hc2.out.mono ?_; rintro e w5 ⟨rfl, h6, hF5⟩) | (go_at_call 82; refine park ?_))
    have hF45 := hF4.trans hF5
    replace h5 := blk_fr h5 hF45 (.inr ⟨by decide, by decide⟩)
    replace hFw := hFw.trans hF45
    have hsz5 := hFw.size
    have hc3 := Hih.out (q.1.new.free q.2 q.1.s) q.1.s w5 _ (Hsub.out w5 (fun j hj => hFw.block j (by omega) (.inl (by omega)))) h6 (by rw [newfree_s]; omega) (by rw [newfree_e]; omega)
    obtain ⟨p, hp⟩ : ∃ p, p = f (q.1.new.free q.2 q.1.s) q.1.s := ⟨_, rfl⟩
    rw [← hp] at hc3 hub hue
    have e4 := E3.out
    rw [← hp] at e4
    have E4 := Lib.hid e4
    have Hc3 := Lib.hid hc3
    clear hc3 e4 E3 hp h6 hF4 hF5 Hc2 c6 c7
    go_wp2_with (first | (refine zzp rfl _ rfl _ rfl _ _ _ _ _ _ _ h5 ?_) | (go_at_call 41; refine Hc3.out.mono ?_; rintro e w6 ⟨rfl, h7, hF6⟩) | (go_at_call 82; refine (pfree_any gk lo p.1 p.2 q.1.s w6 h7 (by omega)).mono ?_; rintro e w7 ⟨rfl, h8, hF7⟩) | (refine wl_int1 rfl _ rfl _ rfl ?_) | (go_at_call 83; refine park ?_) | (go_at_call 41; refine park ?_))
    refine Parked.mk ?_
    have hF67 := hF6.trans hF7
    have hsz7 := hF67.size
    have hB8 : Below w7.heap.size w7 (w7.alloc (.cells (encI1 q.1.s) 3)) := zqc (Below.refl _ _) _
    have h9 := h8.then_ hB8
    refine (joined_any gk lo w.heap.size (p.1.free p.2 q.1.s) [q.1.s] _ 1 1 rfl _ h9 (own_new1 (by omega)) (by show p.1.s ≤ 1048576; omega) (by simp [Ly.free, Ly.edge]; omega)).mono ?_
    rintro e w9 ⟨rfl, h10, hF9⟩
    have hFe := (hFw.trans hF67).trans ((Fr.below hB8).trans hF9)
    clear h9 hB8 h8 hF6 hF7 hF67 h5 h1 hFw h7 hF9 hF45
    go_wp2_with (fail)
    go_ret
    exact ⟨by rw [E4.out]; rfl, by rw [E4.out]; exact h10, hFe⟩
   have hm1b : (ma == -1) = false := by simpa using hm1
   by_cases hm2 : (k : Int) < ma
   ·have hm2b : decide ((k : Int) < ma) = true := by simpa using hm2
    obtain ⟨d, hd⟩ : ∃ d : Nat, ma - (k : Int) = (d : Int) := ⟨(ma - (k : Int)).toNat, by omega⟩
    have e2 : tU u (k : Int) ma = k * u + (d * u + 1) := by unfold tU; rw [if_neg hu0, if_neg hm1, if_pos hm2, hd]; simp
    rw [e2] at hms hme
    have e3 : zzy f u (k : Int) ma m a = (opts f d (q, [q.2])).1.1.joined (opts f d (q, [q.2])).2 := by
     unfold zzy
     rw [if_neg hu0, if_neg hm1, if_pos hm2, hd]
     simp only [Int.toNat_natCast]
     rw [← hq]
    have E3 := Lib.hid e3
    have Hd := Lib.hid hd
    have hd2 : d ≤ 255 := by omega
    clear e3 e2 hq
    go_upto_region 16 with (refine wl_int1 rfl _ rfl _ rfl ?_)
    have hB4 : Below wr.heap.size wr (wr.alloc (.cells (encI1 q.2) 3)) := zqc (Below.refl _ _) _
    have hv := own_new1 (w := wr) (base := w.heap.size) (y := q.2) (by omega)
    obtain ⟨w4, hw4⟩ : ∃ y, y = wr.alloc (.cells (encI1 q.2) 3) := ⟨_, rfl⟩
    rw [← hw4] at hB4 hv ⊢
    clear hw4 c6 c7
    replace h := h.then_ hB4
    replace h1 := zqb h1 hB4
    replace h5 := zqb h5 hB4
    replace hFw := hFw.trans (Fr.below hB4)
    have c6 : w4.cell? ⟨w.heap.size, 6, none⟩ = some (.int .i64 (k : Int)) := h1.cellv (i := 6) rfl
    have c7 : w4.cell? ⟨w.heap.size, 7, none⟩ = some (.int .i64 ma) := h1.cellv (i := 7) rfl
    clear hd hB4
    go_wp2_with (fail)
    clear c6 c7
    go_loopw [8, 10, 63] (fun v x i wr => ∃ j : Nat, j ≤ d ∧ i = .int .i64 j ∧ v = .int .i64 ((opts f j (q, [q.2])).1.2 : Int) ∧ Own wr w.heap.size 3 1 encI1 x (opts f j (q, [q.2])).2 ∧ MkIs 116 mkP wr gk lo (opts f j (q, [q.2])).1.1 ∧ Blk wr g7 56 (nodeC kd' st' A' n' c' mi' ma') ∧ Fr 116 69 lo w wr) (fun _ _ i _ => d - (intOf i).toNat)
    case atStart => exact ⟨0, by omega, rfl, rfl, hv, h, h5, hFw⟩
    case round =>
     clear h h5 h1 hFw hv
     obtain ⟨j, hj, rfl, rfl, hv, h, h5, hFz⟩ := hrel
     have hszz := hFz.size
     obtain ⟨ho1, ho2, ho3, ho4⟩ := opts_at Hgood.out q j d hj
     by_cases hjd : j < d
     ·have hjI : (j : Int) < ma - (k : Int) := by have := Hd.out; omega
      have hsucc := succ_mul_le u j d hjd
      have hc := Hih.out _ (opts f j (q, [q.2])).1.2 wr _ (Hsub.out wr (fun i hi => hFz.block i (by omega) (.inl (by omega)))) h (by omega) (by omega)
      obtain ⟨o, ho⟩ : ∃ o, o = opts f j (q, [q.2]) := ⟨_, rfl⟩
      have hst : opts f (j + 1) (q, [q.2]) = (f o.1.1 o.1.2, o.2 ++ [(f o.1.1 o.1.2).2]) := by rw [ho]; rfl
      rw [← ho] at hc hv h ho4
      rw [← ho]
      obtain ⟨p, hp⟩ : ∃ p, p = f o.1.1 o.1.2 := ⟨_, rfl⟩
      rw [← hp] at hc hst
      obtain ⟨A7, k7, rfl, _, _⟩ := hv.shape
      obtain ⟨on, hon⟩ : ∃ x, x = o.2.length := ⟨_, rfl⟩
      rw [← hon] at hv ho4
      rw [← hon]
      have Hon := Lib.hid hon
      have hon2 : on ≤ 300 := by omega
      have Hc := Lib.hid hc
      have Hst := Lib.hid hst
      have hjb : j < 1099511628000 := by omega
      obtain ⟨i1, hi1, hy0, hy1, hy2⟩ := info_parts info_int3
      clear hc hst h ho1 ho2 ho3 ho4 hsucc hmul hms hme hp ho hon
      go_wp2_with (first | (refine zzp rfl _ rfl _ rfl _ _ _ _ _ _ _ h5 ?_) | (go_at_call 41; refine Hc.out.mono ?_; rintro e w6 ⟨rfl, h7, hF6⟩) | (refine wl_int1 rfl _ rfl _ rfl ?_) | (at_builtin; refine park ?_) | (go_at_call 41; refine park ?_))
      refine Parked.mk ?_
      replace hv := hv.fr hF6 ⟨by decide, by decide⟩
      have hB7 : Below w6.heap.size w6 (w6.alloc (.cells (encI1 p.2) 3)) := zqc (Below.refl _ _) _
      have hv7 := hv.then_ hB7
      have hone := zxk (enc := encI1) (size := 1) (y := p.2) (w := w6.alloc (.cells (encI1 p.2) 3)) (g := w6.heap.size) (t := 3) (Blk.new _ _ _)
      have hsz6 := hF6.size
      have hsz7 := hB7.size
      replace h5 := zqb (blk_fr h5 hF6 (.inr ⟨by decide, by decide⟩)) hB7
      refine zxh _ rfl _ _ 47 rfl w.heap.size 3 i1 _ 1 8 Tryz.underlying47 hi1 hy0 hy1 hy2 rfl (by decide) encI1_size encI1_one (.slice A7 _ k7) _ rfl hv7 _ _ 1 1 [p.2] rfl rfl hone (by rw [← Hon.out]; unfold maxLen; omega) (by rw [← Hon.out]; omega) (by omega) ?_
      intro v9 w8 hv8 hg8 hat8
      have hF8 : Fr 116 69 lo w w8 := (hFz.trans (hF6.trans (Fr.below hB7))).grown hg8 (fun i e => (hv7.lt i e).1)
      have h8 := (h7.then_ hB7).row hv7 hg8 (by decide) (by decide)
      have h5b : Blk w8 g7 56 _ := h5.grown hg8 (fun e => zzm hv7 h5 (by decide) e.symm)
      simp only [Act.put, List.setIfInBounds_toArray, List.set_cons_zero, List.set_cons_succ]
      clear hv7 hg8 hat8 hone hi1 hy0 hy1 hy2 hv h7 hB7 h5
      go_wp2_with (fail)
      exact ⟨⟨j + 1, by omega, rfl, by rw [Hst.out], by rw [Hst.out]; exact hv8, by rw [Hst.out]; exact h8, h5b, hF8⟩, by simp only [intOf]; omega⟩
     ·have hjI : ¬ (j : Int) < ma - (k : Int) := by have := Hd.out; omega
      obtain rfl : j = d := by omega
      have e4 := E3.out
      obtain ⟨o, ho⟩ : ∃ o, o = opts f j (q, [q.2]) := ⟨_, rfl⟩
      rw [← ho] at hv h ho1 ho2 ho4 e4
      rw [← ho]
      obtain ⟨A7, k7, rfl, _, _⟩ := hv.shape
      have hc := joined_any gk lo w.heap.size o.1.1 o.2 A7 o.2.length k7 rfl wr h hv (by omega) (by omega)
      have Hc := Lib.hid hc
      have E4 := Lib.hid e4
      clear hc e4 ho E3 ho1 ho2 ho3 ho4 h hv hms hme
      go_wp2_with (first | (go_at_call 83; refine Hc.out.mono ?_; rintro e w5 ⟨rfl, h6, hF5⟩) | (go_at_call 83; refine park ?_))
      go_ret
      exact ⟨by rw [E4.out]; rfl, by rw [E4.out]; exact h6, hFz.trans hF5⟩
   ·have hm2b : decide ((k : Int) < ma) = false := by simpa using hm2
    have e3 : zzy f u (k : Int) ma m a = q := by
     unfold zzy
     rw [if_neg hu0, if_neg hm1, if_neg hm2, hq]
     simp
    have E3 := Lib.hid e3
    clear e3 hq
    go_wp2_with (fail)
    go_ret
    exact ⟨by rw [E3.out]; rfl, by rw [E3.out]; exact h, hFw⟩
end Go.Proofs.YtkedgombccdamaaGreatDoor
