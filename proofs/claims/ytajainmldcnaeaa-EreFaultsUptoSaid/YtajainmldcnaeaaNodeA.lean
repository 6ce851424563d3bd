/- ere.isTree, ere.places, ere.Places. No condition beyond those named in each lemma. -/
import Derived.Test.YtajainmldcnaeaaNodeM
namespace Go.Proofs.Ytajainmldcnaeaa
open Go.RowKit Go.Maps
set_option linter.unusedVariables false
set_option linter.unusedSimpArgs false
attribute [local go_sem] Oper.semAt_some

theorem bare_any (kd : Int) (st : BSet) (A : Option Addr) (n c : Nat) (mi ma : Int) (w : World) :
    Calls Try.prog 61 #[.agg (nodeC kd st A n c mi ma)] w fun e w' => e = .returned (.bool (decide (mi = 0) && decide (ma = 0))) ∧ Below w.heap.size w w' := by
  go_enter Try.func61, Try.ntmps61
  have h1 := Blk.new w 27 (nodeC kd st A n c mi ma)
  have hB1 : Below w.heap.size w (w.alloc (.cells (nodeC kd st A n c mi ma) 27)) := below_alloc (Below.refl _ _) _
  go_upto_region 1 with (fail)
  obtain ⟨W1, hW1⟩ : ∃ y, y = w.alloc (.cells (nodeC kd st A n c mi ma) 27) := ⟨_, rfl⟩
  rw [← hW1] at h1 hB1 ⊢
  clear hW1
  have c6 : W1.cell? ⟨w.heap.size, 6, none⟩ = some (.int .i64 mi) := h1.cellv (i := 6) rfl
  have c7 : W1.cell? ⟨w.heap.size, 7, none⟩ = some (.int .i64 ma) := h1.cellv (i := 7) rfl
  by_cases e1 : mi = 0
  · subst e1
    by_cases e2 : ma = 0
    · subst e2
      go_wp2_with (fail)
      go_ret
      exact ⟨rfl, hB1⟩
    · have e3 : (ma == 0) = false := by simpa using e2
      go_wp2_with (fail)
      go_ret
      exact ⟨by simp [e2], hB1⟩
  · have e3 : (mi == 0) = false := by simpa using e1
    go_wp2_with (fail)
    go_ret
    exact ⟨by simp [e1], hB1⟩
theorem five_t {st : BSet} {n : Nat} {mi ma : Int} {z a1 a2 a3 a4 a5 a6 : Bool} (hz : decide (st = 0) = z) (g1 : (((n : Nat) : Int) == 1) = a1) (g2 : decide ((0 : Int) ≤ mi) = a2) (g3 : decide (mi ≤ (255 : Int)) = a3) (g4 : decide (ma ≤ (255 : Int)) = a4) (g5 : (ma == (-1 : Int)) = a5) (g6 : decide (mi ≤ ma) = a6) :
    (((((z && a1) && a2) && a3) && a4) && (a5 || a6)) = headOk 5 st n mi ma := by
  rw [headOk_5 hz, Bool.eq_iff_iff]
  subst g1 g2 g3 g4 g5 g6
  simp only [Bool.and_eq_true, Bool.or_eq_true, beq_iff_eq, decide_eq_true_eq]
  constructor
  · rintro ⟨⟨⟨⟨⟨h0, h1⟩, h2⟩, h3⟩, h4⟩, h5⟩
    exact ⟨⟨⟨⟨h0, by omega⟩, h2⟩, h3⟩, by omega⟩
  · rintro ⟨⟨⟨⟨h0, h1⟩, h2⟩, h3⟩, h4⟩
    exact ⟨⟨⟨⟨⟨h0, by omega⟩, h2⟩, h3⟩, by omega⟩, by omega⟩
set_option maxRecDepth 100000 in
set_option maxHeartbeats 40000000 in
theorem isTree_any (nd : Nd) : ∀ (B : Nat) (w : World) (cs : Array Value), NdIn w B nd cs → B ≤ w.heap.size →
    Calls Try.prog 43 #[.agg cs] w fun e w' => e = .returned (.bool nd.isT) ∧ Below w.heap.size w w' := by
  induction nd using Nd.ind with
  | h kd st l mi ma ih =>
  intro B w cs hin hB
  obtain ⟨A, n, c, cl, rfl, hn, hcl, hmax, hs, hr⟩ := hin.inv
  have hh : (Nd.mk kd st l mi ma).isT = (headOk kd st n mi ma && l.all Nd.isT) := by rw [hn]; simp only [Nd.isT, Nd.areT_all]
  rw [hh]
  have Hn := Lib.hid hn
  have Hcl := Lib.hid hcl
  have Hr := Lib.hid hr
  have Ih := Lib.hid ih
  clear hn hcl hr ih hh hin
  go_enter Try.func43, Try.ntmps43
  have h1 := Blk.new w 27 (nodeC kd st A n c mi ma)
  have hB1 : Below w.heap.size w (w.alloc (.cells (nodeC kd st A n c mi ma) 27)) := below_alloc (Below.refl _ _) _
  go_upto_region 1 with (fail)
  obtain ⟨W1, hW1⟩ : ∃ y, y = w.alloc (.cells (nodeC kd st A n c mi ma) 27) := ⟨_, rfl⟩
  rw [← hW1] at h1 hB1 ⊢
  clear hW1
  have hl1 := h1.lt
  have c0 : W1.cell? ⟨w.heap.size, 0, none⟩ = some (.int .i64 kd) := h1.cellv (i := 0) rfl
  obtain ⟨z, hz⟩ : ∃ z, decide (st = (0 : BSet)) = z := ⟨_, rfl⟩
  have Hz := Lib.hid hz
  clear hz
  go_upto_block 0 with (first | (refine wl_load_set_at rfl _ rfl _ _ rfl _ (node_st h1) ?_) | (refine wl_build_set0 rfl rfl ?_) | (refine wl_eql_setz rfl _ _ _ rfl _ _ rfl rfl z Hz.out ?_))
  go_cut [4] from 13 to 93 (fun v wx => v = .bool (headOk kd st n mi ma) ∧ Below W1.heap.size W1 wx)
  case first =>
    have c5 : W1.cell? ⟨w.heap.size, 5, none⟩ = some (.slice A n c) := h1.cellv (i := 5) rfl
    have c6 : W1.cell? ⟨w.heap.size, 6, none⟩ = some (.int .i64 mi) := h1.cellv (i := 6) rfl
    have c7 : W1.cell? ⟨w.heap.size, 7, none⟩ = some (.int .i64 ma) := h1.cellv (i := 7) rfl
    by_cases k167 : kd = 1 ∨ kd = 6 ∨ kd = 7
    · rcases k167 with rfl | rfl | rfl
      · go_upto_region 7 with (fail)
        cases z
        · go_wp2_with (first | (refine wl_load_node_g (want_yes rfl rfl rfl) _ rfl _ rfl _ _ _ _ _ _ _ h1 ?_) | (refine wl_load_set_at rfl _ rfl _ _ rfl _ (node_st h1) ?_) | (go_at_call 61; refine (bare_any _ _ _ _ _ _ _ _).mono ?_; rintro e w5 ⟨rfl, hB5⟩) | (go_at_call 62; refine (HH.out _).mono ?_; rintro e w5 ⟨rfl, hB5⟩))
          go_meet
          exact ⟨congrArg Value.bool (Eq.trans (by simp) (headOk_1 (by omega) Hz.out _ _ _).symm), Below.refl _ _⟩
        · by_cases hn0 : n = 0
          · subst hn0
            go_wp2_with (first | (refine wl_load_node_g (want_yes rfl rfl rfl) _ rfl _ rfl _ _ _ _ _ _ _ h1 ?_) | (refine wl_load_set_at rfl _ rfl _ _ rfl _ (node_st h1) ?_) | (go_at_call 61; refine (bare_any _ _ _ _ _ _ _ _).mono ?_; rintro e w5 ⟨rfl, hB5⟩) | (go_at_call 62; refine (HH.out _).mono ?_; rintro e w5 ⟨rfl, hB5⟩))
            go_meet
            exact ⟨congrArg Value.bool (Eq.trans (by simp) (headOk_1 (by omega) Hz.out _ _ _).symm), hB5⟩
          · have hnI : ((n : Int) == 0) = false := by simpa using hn0
            go_wp2_with (first | (refine wl_load_node_g (want_yes rfl rfl rfl) _ rfl _ rfl _ _ _ _ _ _ _ h1 ?_) | (refine wl_load_set_at rfl _ rfl _ _ rfl _ (node_st h1) ?_) | (go_at_call 61; refine (bare_any _ _ _ _ _ _ _ _).mono ?_; rintro e w5 ⟨rfl, hB5⟩) | (go_at_call 62; refine (HH.out _).mono ?_; rintro e w5 ⟨rfl, hB5⟩))
            go_meet
            exact ⟨congrArg Value.bool (Eq.trans (by simp [hn0]) (headOk_1 (by omega) Hz.out _ _ _).symm), Below.refl _ _⟩
      · go_upto_region 7 with (fail)
        cases z
        · go_wp2_with (first | (refine wl_load_node_g (want_yes rfl rfl rfl) _ rfl _ rfl _ _ _ _ _ _ _ h1 ?_) | (refine wl_load_set_at rfl _ rfl _ _ rfl _ (node_st h1) ?_) | (go_at_call 61; refine (bare_any _ _ _ _ _ _ _ _).mono ?_; rintro e w5 ⟨rfl, hB5⟩) | (go_at_call 62; refine (HH.out _).mono ?_; rintro e w5 ⟨rfl, hB5⟩))
          go_meet
          exact ⟨congrArg Value.bool (Eq.trans (by simp) (headOk_1 (by omega) Hz.out _ _ _).symm), Below.refl _ _⟩
        · by_cases hn0 : n = 0
          · subst hn0
            go_wp2_with (first | (refine wl_load_node_g (want_yes rfl rfl rfl) _ rfl _ rfl _ _ _ _ _ _ _ h1 ?_) | (refine wl_load_set_at rfl _ rfl _ _ rfl _ (node_st h1) ?_) | (go_at_call 61; refine (bare_any _ _ _ _ _ _ _ _).mono ?_; rintro e w5 ⟨rfl, hB5⟩) | (go_at_call 62; refine (HH.out _).mono ?_; rintro e w5 ⟨rfl, hB5⟩))
            go_meet
            exact ⟨congrArg Value.bool (Eq.trans (by simp) (headOk_1 (by omega) Hz.out _ _ _).symm), hB5⟩
          · have hnI : ((n : Int) == 0) = false := by simpa using hn0
            go_wp2_with (first | (refine wl_load_node_g (want_yes rfl rfl rfl) _ rfl _ rfl _ _ _ _ _ _ _ h1 ?_) | (refine wl_load_set_at rfl _ rfl _ _ rfl _ (node_st h1) ?_) | (go_at_call 61; refine (bare_any _ _ _ _ _ _ _ _).mono ?_; rintro e w5 ⟨rfl, hB5⟩) | (go_at_call 62; refine (HH.out _).mono ?_; rintro e w5 ⟨rfl, hB5⟩))
            go_meet
            exact ⟨congrArg Value.bool (Eq.trans (by simp [hn0]) (headOk_1 (by omega) Hz.out _ _ _).symm), Below.refl _ _⟩
      · go_upto_region 7 with (fail)
        cases z
        · go_wp2_with (first | (refine wl_load_node_g (want_yes rfl rfl rfl) _ rfl _ rfl _ _ _ _ _ _ _ h1 ?_) | (refine wl_load_set_at rfl _ rfl _ _ rfl _ (node_st h1) ?_) | (go_at_call 61; refine (bare_any _ _ _ _ _ _ _ _).mono ?_; rintro e w5 ⟨rfl, hB5⟩) | (go_at_call 62; refine (HH.out _).mono ?_; rintro e w5 ⟨rfl, hB5⟩))
          go_meet
          exact ⟨congrArg Value.bool (Eq.trans (by simp) (headOk_1 (by omega) Hz.out _ _ _).symm), Below.refl _ _⟩
        · by_cases hn0 : n = 0
          · subst hn0
            go_wp2_with (first | (refine wl_load_node_g (want_yes rfl rfl rfl) _ rfl _ rfl _ _ _ _ _ _ _ h1 ?_) | (refine wl_load_set_at rfl _ rfl _ _ rfl _ (node_st h1) ?_) | (go_at_call 61; refine (bare_any _ _ _ _ _ _ _ _).mono ?_; rintro e w5 ⟨rfl, hB5⟩) | (go_at_call 62; refine (HH.out _).mono ?_; rintro e w5 ⟨rfl, hB5⟩))
            go_meet
            exact ⟨congrArg Value.bool (Eq.trans (by simp) (headOk_1 (by omega) Hz.out _ _ _).symm), hB5⟩
          · have hnI : ((n : Int) == 0) = false := by simpa using hn0
            go_wp2_with (first | (refine wl_load_node_g (want_yes rfl rfl rfl) _ rfl _ rfl _ _ _ _ _ _ _ h1 ?_) | (refine wl_load_set_at rfl _ rfl _ _ rfl _ (node_st h1) ?_) | (go_at_call 61; refine (bare_any _ _ _ _ _ _ _ _).mono ?_; rintro e w5 ⟨rfl, hB5⟩) | (go_at_call 62; refine (HH.out _).mono ?_; rintro e w5 ⟨rfl, hB5⟩))
            go_meet
            exact ⟨congrArg Value.bool (Eq.trans (by simp [hn0]) (headOk_1 (by omega) Hz.out _ _ _).symm), Below.refl _ _⟩
    by_cases k2 : kd = 2
    · subst k2
      have hh := fun W => has_any st 10 (by omega) W
      obtain ⟨q, hq⟩ : ∃ q, st.getLsbD 10 = q := ⟨_, rfl⟩
      rw [hq] at hh
      have HH := Lib.hid hh
      have Hq := Lib.hid hq
      clear hh hq
      have hc5 := fun w' (hb : Below W1.heap.size W1 w') => (blk_then h1 hb).cellv (i := 5) (v := .slice A n c) rfl
      have Hc5 := Lib.hid hc5
      clear hc5 c5
      go_upto_region 9 with (fail)
      cases q
      · by_cases hn0 : n = 0
        · subst hn0
          go_wp2_with (first | (refine wl_load_set_at rfl _ rfl _ _ rfl _ (node_st h1) ?_) | (go_at_call 62; refine (HH.out _).mono ?_; rintro e w5 ⟨rfl, hB5⟩; have c5 := Hc5.out _ hB5; replace h1 := blk_then h1 hB5) | (refine wl_load_node_g (want_yes rfl rfl rfl) _ rfl _ rfl _ _ _ _ _ _ _ h1 ?_) | (go_at_call 61; refine (bare_any _ _ _ _ _ _ _ _).mono ?_; rintro e w6 ⟨rfl, hB6⟩))
          go_meet
          exact ⟨congrArg Value.bool (Eq.trans (by simp) (headOk_2 Hq.out _ _ _).symm), below_then hB5 hB6⟩
        · have hnI : ((n : Int) == 0) = false := by simpa using hn0
          go_wp2_with (first | (refine wl_load_set_at rfl _ rfl _ _ rfl _ (node_st h1) ?_) | (go_at_call 62; refine (HH.out _).mono ?_; rintro e w5 ⟨rfl, hB5⟩; have c5 := Hc5.out _ hB5; replace h1 := blk_then h1 hB5) | (refine wl_load_node_g (want_yes rfl rfl rfl) _ rfl _ rfl _ _ _ _ _ _ _ h1 ?_) | (go_at_call 61; refine (bare_any _ _ _ _ _ _ _ _).mono ?_; rintro e w6 ⟨rfl, hB6⟩))
          go_meet
          exact ⟨congrArg Value.bool (Eq.trans (by simp [hn0]) (headOk_2 Hq.out _ _ _).symm), hB5⟩
      · go_wp2_with (first | (refine wl_load_set_at rfl _ rfl _ _ rfl _ (node_st h1) ?_) | (go_at_call 62; refine (HH.out _).mono ?_; rintro e w5 ⟨rfl, hB5⟩; have c5 := Hc5.out _ hB5; replace h1 := blk_then h1 hB5) | (refine wl_load_node_g (want_yes rfl rfl rfl) _ rfl _ rfl _ _ _ _ _ _ _ h1 ?_) | (go_at_call 61; refine (bare_any _ _ _ _ _ _ _ _).mono ?_; rintro e w6 ⟨rfl, hB6⟩))
        go_meet
        exact ⟨congrArg Value.bool (Eq.trans (by simp) (headOk_2 Hq.out _ _ _).symm), hB5⟩
    by_cases k34 : kd = 3 ∨ kd = 4
    · rcases k34 with rfl | rfl
      · go_upto_region 12 with (fail)
        cases z
        · go_wp2_with (first | (refine wl_load_node_g (want_yes rfl rfl rfl) _ rfl _ rfl _ _ _ _ _ _ _ h1 ?_) | (refine wl_load_set_at rfl _ rfl _ _ rfl _ (node_st h1) ?_) | (go_at_call 61; refine (bare_any _ _ _ _ _ _ _ _).mono ?_; rintro e w5 ⟨rfl, hB5⟩) | (go_at_call 62; refine (HH.out _).mono ?_; rintro e w5 ⟨rfl, hB5⟩))
          go_meet
          exact ⟨congrArg Value.bool (Eq.trans (by simp) (headOk_3 (by omega) Hz.out _ _ _).symm), Below.refl _ _⟩
        · by_cases hn2 : 2 ≤ n
          · have hnI : decide (2 ≤ (n : Int)) = true := by simp; omega
            go_wp2_with (first | (refine wl_load_node_g (want_yes rfl rfl rfl) _ rfl _ rfl _ _ _ _ _ _ _ h1 ?_) | (refine wl_load_set_at rfl _ rfl _ _ rfl _ (node_st h1) ?_) | (go_at_call 61; refine (bare_any _ _ _ _ _ _ _ _).mono ?_; rintro e w5 ⟨rfl, hB5⟩) | (go_at_call 62; refine (HH.out _).mono ?_; rintro e w5 ⟨rfl, hB5⟩))
            go_meet
            exact ⟨congrArg Value.bool (Eq.trans (by simp [hn2]) (headOk_3 (by omega) Hz.out _ _ _).symm), hB5⟩
          · have hnI : decide (2 ≤ (n : Int)) = false := by simp; omega
            go_wp2_with (first | (refine wl_load_node_g (want_yes rfl rfl rfl) _ rfl _ rfl _ _ _ _ _ _ _ h1 ?_) | (refine wl_load_set_at rfl _ rfl _ _ rfl _ (node_st h1) ?_) | (go_at_call 61; refine (bare_any _ _ _ _ _ _ _ _).mono ?_; rintro e w5 ⟨rfl, hB5⟩) | (go_at_call 62; refine (HH.out _).mono ?_; rintro e w5 ⟨rfl, hB5⟩))
            go_meet
            exact ⟨congrArg Value.bool (Eq.trans (by simp [hn2]) (headOk_3 (by omega) Hz.out _ _ _).symm), Below.refl _ _⟩
      · go_upto_region 12 with (fail)
        cases z
        · go_wp2_with (first | (refine wl_load_node_g (want_yes rfl rfl rfl) _ rfl _ rfl _ _ _ _ _ _ _ h1 ?_) | (refine wl_load_set_at rfl _ rfl _ _ rfl _ (node_st h1) ?_) | (go_at_call 61; refine (bare_any _ _ _ _ _ _ _ _).mono ?_; rintro e w5 ⟨rfl, hB5⟩) | (go_at_call 62; refine (HH.out _).mono ?_; rintro e w5 ⟨rfl, hB5⟩))
          go_meet
          exact ⟨congrArg Value.bool (Eq.trans (by simp) (headOk_3 (by omega) Hz.out _ _ _).symm), Below.refl _ _⟩
        · by_cases hn2 : 2 ≤ n
          · have hnI : decide (2 ≤ (n : Int)) = true := by simp; omega
            go_wp2_with (first | (refine wl_load_node_g (want_yes rfl rfl rfl) _ rfl _ rfl _ _ _ _ _ _ _ h1 ?_) | (refine wl_load_set_at rfl _ rfl _ _ rfl _ (node_st h1) ?_) | (go_at_call 61; refine (bare_any _ _ _ _ _ _ _ _).mono ?_; rintro e w5 ⟨rfl, hB5⟩) | (go_at_call 62; refine (HH.out _).mono ?_; rintro e w5 ⟨rfl, hB5⟩))
            go_meet
            exact ⟨congrArg Value.bool (Eq.trans (by simp [hn2]) (headOk_3 (by omega) Hz.out _ _ _).symm), hB5⟩
          · have hnI : decide (2 ≤ (n : Int)) = false := by simp; omega
            go_wp2_with (first | (refine wl_load_node_g (want_yes rfl rfl rfl) _ rfl _ rfl _ _ _ _ _ _ _ h1 ?_) | (refine wl_load_set_at rfl _ rfl _ _ rfl _ (node_st h1) ?_) | (go_at_call 61; refine (bare_any _ _ _ _ _ _ _ _).mono ?_; rintro e w5 ⟨rfl, hB5⟩) | (go_at_call 62; refine (HH.out _).mono ?_; rintro e w5 ⟨rfl, hB5⟩))
            go_meet
            exact ⟨congrArg Value.bool (Eq.trans (by simp [hn2]) (headOk_3 (by omega) Hz.out _ _ _).symm), Below.refl _ _⟩
    by_cases k5 : kd = 5
    · subst k5
      go_upto_region 14 with (fail)
      obtain ⟨a1, g1⟩ : ∃ q, (((n : Nat) : Int) == 1) = q := ⟨_, rfl⟩
      obtain ⟨a2, g2⟩ : ∃ q, (decide ((0 : Int) ≤ mi)) = q := ⟨_, rfl⟩
      obtain ⟨a3, g3⟩ : ∃ q, (decide (mi ≤ (255 : Int))) = q := ⟨_, rfl⟩
      obtain ⟨a4, g4⟩ : ∃ q, (decide (ma ≤ (255 : Int))) = q := ⟨_, rfl⟩
      obtain ⟨a5, g5⟩ : ∃ q, (ma == (-1 : Int)) = q := ⟨_, rfl⟩
      obtain ⟨a6, g6⟩ : ∃ q, (decide (mi ≤ ma)) = q := ⟨_, rfl⟩
      have hfive : (((((z && a1) && a2) && a3) && a4) && (a5 || a6)) = headOk 5 st n mi ma := five_t Hz.out g1 g2 g3 g4 g5 g6
      refine wp_region_text 35 [eqS (.bool z), eqS (.bool z), eqS (vF (true && (z == true)) (.pointer (some ⟨w.heap.size, 5, none⟩))), eqS (vF (true && (z == true)) (.slice A n c)), eqS (vF (true && (z == true)) (.int .i64 (((n : Nat) : Int)))), eqS (vF (true && (z == true)) (.bool a1)), eqS (.bool (z && a1)), eqS (.bool (z && a1)), eqS (vF (true && ((z && a1) == true)) (.pointer (some ⟨w.heap.size, 6, none⟩))), eqS (vF (true && ((z && a1) == true)) (.int .i64 (mi))), eqS (vF (true && ((z && a1) == true)) (.bool a2)), eqS (.bool ((z && a1) && a2)), eqS (.bool ((z && a1) && a2)), eqS (vF (true && (((z && a1) && a2) == true)) (.pointer (some ⟨w.heap.size, 6, none⟩))), eqS (vF (true && (((z && a1) && a2) == true)) (.int .i64 (mi))), eqS (vF (true && (((z && a1) && a2) == true)) (.bool a3)), eqS (.bool (((z && a1) && a2) && a3)), eqS (.bool (((z && a1) && a2) && a3)), eqS (vF (true && ((((z && a1) && a2) && a3) == true)) (.pointer (some ⟨w.heap.size, 7, none⟩))), eqS (vF (true && ((((z && a1) && a2) && a3) == true)) (.int .i64 (ma))), eqS (vF (true && ((((z && a1) && a2) && a3) == true)) (.bool a4)), eqS (.bool ((((z && a1) && a2) && a3) && a4)), eqS (.bool ((((z && a1) && a2) && a3) && a4)), eqS (vF (true && (((((z && a1) && a2) && a3) && a4) == true)) (.pointer (some ⟨w.heap.size, 7, none⟩))), eqS (vF (true && (((((z && a1) && a2) && a3) && a4) == true)) (.int .i64 (ma))), eqS (vF (true && (((((z && a1) && a2) && a3) && a4) == true)) (.bool a5)), eqS (vF (true && (((((z && a1) && a2) && a3) && a4) == true)) (.bool a5)), eqS (vF ((true && (((((z && a1) && a2) && a3) && a4) == true)) && (a5 == false)) (.pointer (some ⟨w.heap.size, 7, none⟩))), eqS (vF ((true && (((((z && a1) && a2) && a3) && a4) == true)) && (a5 == false)) (.int .i64 (ma))), eqS (vF ((true && (((((z && a1) && a2) && a3) && a4) == true)) && (a5 == false)) (.pointer (some ⟨w.heap.size, 6, none⟩))), eqS (vF ((true && (((((z && a1) && a2) && a3) && a4) == true)) && (a5 == false)) (.int .i64 (mi))), eqS (vF ((true && (((((z && a1) && a2) && a3) && a4) == true)) && (a5 == false)) (.bool a6)), eqS (vF (true && (((((z && a1) && a2) && a3) && a4) == true)) (.bool (a5 || a6))), eqS (.bool (((((z && a1) && a2) && a3) && a4) && (a5 || a6))), eqS (.bool (((((z && a1) && a2) && a3) && a4) && (a5 || a6)))] [60, 61, 62, 63, 64, 65, 66, 67, 68, 69, 70, 71, 72, 73, 74, 75, 76, 77, 78, 79, 80, 81, 82, 83, 84, 85, 86, 87, 88, 89, 90, 91, 92, 93, 4] (by kernel_rfl) rfl ?_ ?_
      · skip
        refine Steps.cons (fun a' w' hG hB dep => gs_move (want_none rfl) _ rfl (id (hG.other 3 rfl))) ?_
        refine Steps.cons (fun a' w' hG hB dep => gs_move (want_none rfl) _ rfl (id (dep 0 rfl 60 rfl))) ?_
        refine Steps.cons (fun a' w' hG hB dep => gs_guard (c := true) (b' := z) rfl rfl (dep 1 rfl 61 rfl) (fun hc he hw => gs_field hw _ _ _ rfl w.heap.size (0) (5) (hG.other 1 rfl) (fun wz => field_node_2 w.heap.size (0) wz) (vF_yes (on_g hc he) _).symm) (fun hn => vF_no hn _)) ?_
        refine Steps.cons (fun a' w' hG hB dep => gs_guard (c := true) (b' := z) rfl rfl (dep 1 rfl 61 rfl) (fun hc he hw => gs_load1 hw _ _ rfl w.heap.size (5) (Eq.trans (dep 2 rfl 62 rfl) (vF_yes (on_g hc he) _)) (.slice A n c) ((blk_then h1 hB).cellv (i := 5) rfl) _ Try.underlying25 rfl (vF_yes (on_g hc he) _).symm) (fun hn => vF_no hn _)) ?_
        refine Steps.cons (fun a' w' hG hB dep => gs_guard (c := true) (b' := z) rfl rfl (dep 1 rfl 61 rfl) (fun hc he hw => gs_len hw _ _ rfl under_nodes _ n c (Eq.trans (dep 3 rfl 63 rfl) (vF_yes (on_g hc he) _)) (vF_yes (on_g hc he) _).symm) (fun hn => vF_no hn _)) ?_
        refine Steps.cons (fun a' w' hG hB dep => gs_guard (c := true) (b' := z) rfl rfl (dep 1 rfl 61 rfl) (fun hc he hw => gs_eql_int hw _ _ _ _ rfl _ _ _ (Eq.trans (dep 4 rfl 64 rfl) (vF_yes (on_g hc he) _)) rfl (Eq.trans (congrArg Value.bool g1) (vF_yes (on_g hc he) _).symm)) (fun hn => vF_no hn _)) ?_
        refine Steps.cons (fun a' w' hG hB dep => gs_pick (want_none rfl) _ _ _ rfl z (dep 1 rfl 61 rfl) (id (pick_and2 (c := true) rfl (dep 5 rfl 65 rfl)))) ?_
        refine Steps.cons (fun a' w' hG hB dep => gs_move (want_none rfl) _ rfl (id (dep 6 rfl 66 rfl))) ?_
        refine Steps.cons (fun a' w' hG hB dep => gs_guard (c := true) (b' := (z && a1)) rfl rfl (dep 7 rfl 67 rfl) (fun hc he hw => gs_field hw _ _ _ rfl w.heap.size (0) (6) (hG.other 1 rfl) (fun wz => field_node_3 w.heap.size (0) wz) (vF_yes (on_g hc he) _).symm) (fun hn => vF_no hn _)) ?_
        refine Steps.cons (fun a' w' hG hB dep => gs_guard (c := true) (b' := (z && a1)) rfl rfl (dep 7 rfl 67 rfl) (fun hc he hw => gs_load1 hw _ _ rfl w.heap.size (6) (Eq.trans (dep 8 rfl 68 rfl) (vF_yes (on_g hc he) _)) (.int .i64 (mi)) ((blk_then h1 hB).cellv (i := 6) rfl) _ Try.underlying3 rfl (vF_yes (on_g hc he) _).symm) (fun hn => vF_no hn _)) ?_
        refine Steps.cons (fun a' w' hG hB dep => gs_guard (c := true) (b' := (z && a1)) rfl rfl (dep 7 rfl 67 rfl) (fun hc he hw => gs_geq_int hw _ _ _ _ rfl _ _ _ (Eq.trans (dep 9 rfl 69 rfl) (vF_yes (on_g hc he) _)) rfl (Eq.trans (congrArg Value.bool g2) (vF_yes (on_g hc he) _).symm)) (fun hn => vF_no hn _)) ?_
        refine Steps.cons (fun a' w' hG hB dep => gs_pick (want_none rfl) _ _ _ rfl (z && a1) (dep 7 rfl 67 rfl) (id (pick_and2 (c := true) rfl (dep 10 rfl 70 rfl)))) ?_
        refine Steps.cons (fun a' w' hG hB dep => gs_move (want_none rfl) _ rfl (id (dep 11 rfl 71 rfl))) ?_
        refine Steps.cons (fun a' w' hG hB dep => gs_guard (c := true) (b' := ((z && a1) && a2)) rfl rfl (dep 12 rfl 72 rfl) (fun hc he hw => gs_field hw _ _ _ rfl w.heap.size (0) (6) (hG.other 1 rfl) (fun wz => field_node_3 w.heap.size (0) wz) (vF_yes (on_g hc he) _).symm) (fun hn => vF_no hn _)) ?_
        refine Steps.cons (fun a' w' hG hB dep => gs_guard (c := true) (b' := ((z && a1) && a2)) rfl rfl (dep 12 rfl 72 rfl) (fun hc he hw => gs_load1 hw _ _ rfl w.heap.size (6) (Eq.trans (dep 13 rfl 73 rfl) (vF_yes (on_g hc he) _)) (.int .i64 (mi)) ((blk_then h1 hB).cellv (i := 6) rfl) _ Try.underlying3 rfl (vF_yes (on_g hc he) _).symm) (fun hn => vF_no hn _)) ?_
        refine Steps.cons (fun a' w' hG hB dep => gs_guard (c := true) (b' := ((z && a1) && a2)) rfl rfl (dep 12 rfl 72 rfl) (fun hc he hw => gs_leq_int hw _ _ _ _ rfl _ _ _ (Eq.trans (dep 14 rfl 74 rfl) (vF_yes (on_g hc he) _)) rfl (Eq.trans (congrArg Value.bool g3) (vF_yes (on_g hc he) _).symm)) (fun hn => vF_no hn _)) ?_
        refine Steps.cons (fun a' w' hG hB dep => gs_pick (want_none rfl) _ _ _ rfl ((z && a1) && a2) (dep 12 rfl 72 rfl) (id (pick_and2 (c := true) rfl (dep 15 rfl 75 rfl)))) ?_
        refine Steps.cons (fun a' w' hG hB dep => gs_move (want_none rfl) _ rfl (id (dep 16 rfl 76 rfl))) ?_
        refine Steps.cons (fun a' w' hG hB dep => gs_guard (c := true) (b' := (((z && a1) && a2) && a3)) rfl rfl (dep 17 rfl 77 rfl) (fun hc he hw => gs_field hw _ _ _ rfl w.heap.size (0) (7) (hG.other 1 rfl) (fun wz => field_node_4 w.heap.size (0) wz) (vF_yes (on_g hc he) _).symm) (fun hn => vF_no hn _)) ?_
        refine Steps.cons (fun a' w' hG hB dep => gs_guard (c := true) (b' := (((z && a1) && a2) && a3)) rfl rfl (dep 17 rfl 77 rfl) (fun hc he hw => gs_load1 hw _ _ rfl w.heap.size (7) (Eq.trans (dep 18 rfl 78 rfl) (vF_yes (on_g hc he) _)) (.int .i64 (ma)) ((blk_then h1 hB).cellv (i := 7) rfl) _ Try.underlying3 rfl (vF_yes (on_g hc he) _).symm) (fun hn => vF_no hn _)) ?_
        refine Steps.cons (fun a' w' hG hB dep => gs_guard (c := true) (b' := (((z && a1) && a2) && a3)) rfl rfl (dep 17 rfl 77 rfl) (fun hc he hw => gs_leq_int hw _ _ _ _ rfl _ _ _ (Eq.trans (dep 19 rfl 79 rfl) (vF_yes (on_g hc he) _)) rfl (Eq.trans (congrArg Value.bool g4) (vF_yes (on_g hc he) _).symm)) (fun hn => vF_no hn _)) ?_
        refine Steps.cons (fun a' w' hG hB dep => gs_pick (want_none rfl) _ _ _ rfl (((z && a1) && a2) && a3) (dep 17 rfl 77 rfl) (id (pick_and2 (c := true) rfl (dep 20 rfl 80 rfl)))) ?_
        refine Steps.cons (fun a' w' hG hB dep => gs_move (want_none rfl) _ rfl (id (dep 21 rfl 81 rfl))) ?_
        refine Steps.cons (fun a' w' hG hB dep => gs_guard (c := true) (b' := ((((z && a1) && a2) && a3) && a4)) rfl rfl (dep 22 rfl 82 rfl) (fun hc he hw => gs_field hw _ _ _ rfl w.heap.size (0) (7) (hG.other 1 rfl) (fun wz => field_node_4 w.heap.size (0) wz) (vF_yes (on_g hc he) _).symm) (fun hn => vF_no hn _)) ?_
        refine Steps.cons (fun a' w' hG hB dep => gs_guard (c := true) (b' := ((((z && a1) && a2) && a3) && a4)) rfl rfl (dep 22 rfl 82 rfl) (fun hc he hw => gs_load1 hw _ _ rfl w.heap.size (7) (Eq.trans (dep 23 rfl 83 rfl) (vF_yes (on_g hc he) _)) (.int .i64 (ma)) ((blk_then h1 hB).cellv (i := 7) rfl) _ Try.underlying3 rfl (vF_yes (on_g hc he) _).symm) (fun hn => vF_no hn _)) ?_
        refine Steps.cons (fun a' w' hG hB dep => gs_guard (c := true) (b' := ((((z && a1) && a2) && a3) && a4)) rfl rfl (dep 22 rfl 82 rfl) (fun hc he hw => gs_eql_int hw _ _ _ _ rfl _ _ _ (Eq.trans (dep 24 rfl 84 rfl) (vF_yes (on_g hc he) _)) rfl (Eq.trans (congrArg Value.bool g5) (vF_yes (on_g hc he) _).symm)) (fun hn => vF_no hn _)) ?_
        refine Steps.cons (fun a' w' hG hB dep => gs_guard (c := true) (b' := ((((z && a1) && a2) && a3) && a4)) rfl rfl (dep 22 rfl 82 rfl) (fun hc he hw => gs_move hw _ rfl (Eq.trans (Eq.trans (dep 25 rfl 85 rfl) (vF_yes (on_g hc he) _)) (vF_yes (on_g hc he) _).symm)) (fun hn => vF_no hn _)) ?_
        refine Steps.cons (fun a' w' hG hB dep => gs_guard (c := (true && (((((z && a1) && a2) && a3) && a4) == true))) (b' := a5) rfl rfl (dep 26 rfl 86 rfl) (fun hc he hw => gs_field hw _ _ _ rfl w.heap.size (0) (7) (hG.other 1 rfl) (fun wz => field_node_4 w.heap.size (0) wz) (vF_yes (on_g hc he) _).symm) (fun hn => vF_no hn _)) ?_
        refine Steps.cons (fun a' w' hG hB dep => gs_guard (c := (true && (((((z && a1) && a2) && a3) && a4) == true))) (b' := a5) rfl rfl (dep 26 rfl 86 rfl) (fun hc he hw => gs_load1 hw _ _ rfl w.heap.size (7) (Eq.trans (dep 27 rfl 87 rfl) (vF_yes (on_g hc he) _)) (.int .i64 (ma)) ((blk_then h1 hB).cellv (i := 7) rfl) _ Try.underlying3 rfl (vF_yes (on_g hc he) _).symm) (fun hn => vF_no hn _)) ?_
        refine Steps.cons (fun a' w' hG hB dep => gs_guard (c := (true && (((((z && a1) && a2) && a3) && a4) == true))) (b' := a5) rfl rfl (dep 26 rfl 86 rfl) (fun hc he hw => gs_field hw _ _ _ rfl w.heap.size (0) (6) (hG.other 1 rfl) (fun wz => field_node_3 w.heap.size (0) wz) (vF_yes (on_g hc he) _).symm) (fun hn => vF_no hn _)) ?_
        refine Steps.cons (fun a' w' hG hB dep => gs_guard (c := (true && (((((z && a1) && a2) && a3) && a4) == true))) (b' := a5) rfl rfl (dep 26 rfl 86 rfl) (fun hc he hw => gs_load1 hw _ _ rfl w.heap.size (6) (Eq.trans (dep 29 rfl 89 rfl) (vF_yes (on_g hc he) _)) (.int .i64 (mi)) ((blk_then h1 hB).cellv (i := 6) rfl) _ Try.underlying3 rfl (vF_yes (on_g hc he) _).symm) (fun hn => vF_no hn _)) ?_
        refine Steps.cons (fun a' w' hG hB dep => gs_guard (c := (true && (((((z && a1) && a2) && a3) && a4) == true))) (b' := a5) rfl rfl (dep 26 rfl 86 rfl) (fun hc he hw => gs_geq_int hw _ _ _ _ rfl _ _ _ (Eq.trans (dep 28 rfl 88 rfl) (vF_yes (on_g hc he) _)) (Eq.trans (dep 30 rfl 90 rfl) (vF_yes (on_g hc he) _)) (Eq.trans (congrArg Value.bool g6) (vF_yes (on_g hc he) _).symm)) (fun hn => vF_no hn _)) ?_
        refine Steps.cons (fun a' w' hG hB dep => gs_guard (c := true) (b' := ((((z && a1) && a2) && a3) && a4)) rfl rfl (dep 22 rfl 82 rfl) (fun hc he hw => gs_pick hw _ _ _ rfl a5 (Eq.trans (dep 26 rfl 86 rfl) (vF_yes (on_g hc he) _)) (Eq.trans (pick_or2 (c := (true && (((((z && a1) && a2) && a3) && a4) == true))) (on_g hc he) (dep 31 rfl 91 rfl)) (vF_yes (on_g hc he) _).symm)) (fun hn => vF_no hn _)) ?_
        refine Steps.cons (fun a' w' hG hB dep => gs_pick (want_none rfl) _ _ _ rfl ((((z && a1) && a2) && a3) && a4) (dep 22 rfl 82 rfl) (id (pick_and2 (c := true) rfl (dep 32 rfl 92 rfl)))) ?_
        refine Steps.cons (fun a' w' hG hB dep => gs_assign (want_none rfl) _ rfl (id (dep 33 rfl 93 rfl))) ?_
        exact Steps.nil
      intro u w2 hB2 ans
      have hu4 : u 4 = .bool (headOk 5 st n mi ma) := (ans 34 4 (by decide) rfl).trans (congrArg Value.bool hfive)
      clear ans hfive g1 g2 g3 g4 g5 g6
      simp only [putAll, List.foldl_cons, List.foldl_nil, Act.put, List.setIfInBounds_toArray, List.set_cons_zero, List.set_cons_succ, hu4]
      clear hu4
      simp only [List.drop]
      refine wpList_nil ?_
      go_wp2_with (fail)
      go_meet
      exact ⟨rfl, hB2⟩
    have e1 : (kd == 1) = false := by simp; omega
    have e2 : (kd == 2) = false := by simp; omega
    have e3 : (kd == 3) = false := by simp; omega
    have e4 : (kd == 4) = false := by simp; omega
    have e5 : (kd == 5) = false := by simp; omega
    have e6 : (kd == 6) = false := by simp; omega
    have e7 : (kd == 7) = false := by simp; omega
    go_wp2_with (fail)
    go_meet
    exact ⟨congrArg Value.bool (by unfold headOk; rw [if_neg k167, if_neg k2, if_neg k34, if_neg k5]), Below.refl _ _⟩
  case rest =>
    obtain ⟨rfl, hBc⟩ := hcut
    obtain ⟨b, hb⟩ : ∃ b, headOk kd st n mi ma = b := ⟨_, rfl⟩
    rw [hb]
    have h2 := blk_then h1 hBc
    have hB2 := below_then hB1 hBc
    have c5 : wc.cell? ⟨w.heap.size, 5, none⟩ = some (.slice A n c) := h2.cellv (i := 5) rfl
    have Hb := Lib.hid hb
    clear hb h1 hB1 hl1 c0 hBc Hz
    go_wp2_with (fail)
    go_loopw [4, 97] (fun v i wr => ∃ k : Nat, k ≤ n ∧ i = .int .i64 k ∧ v = .bool (b && (l.take k).all Nd.isT) ∧ Below w.heap.size w wr) (fun _ i _ => n - (intOf i).toNat)
    case atStart => exact ⟨0, by omega, rfl, by simp, hB2⟩
    case round =>
      clear hB2 h2 c5
      obtain ⟨k, hk, rfl, rfl, hBw⟩ := hrel
      by_cases hkn : k < n
      · have hkI : (k : Int) < n := by omega
        have hkl : k < l.length := by rw [← Hn.out]; exact hkn
        have hkc : k < cl.length := by rw [Hcl.out]; exact hkl
        obtain ⟨ba, off, rfl, hba, hrows⟩ := hs.at_ (by omega)
        have hrow := (hrows k hkc).keep (hBw.block ba (by omega))
        have hsub := Hr.out k hkl hkc
        obtain ⟨⟨kd', st', l', mi', ma'⟩, hx⟩ : ∃ x, x = l[k] := ⟨_, rfl⟩
        rw [← hx] at hsub
        obtain ⟨A', n', c', cl', hce, -⟩ := hsub.inv
        rw [hce] at hrow hsub
        have hst : (l.take (k + 1)).all Nd.isT = ((l.take k).all Nd.isT && (Nd.mk kd' st' l' mi' ma').isT) := by
          rw [List.take_succ_eq_append_getElem hkl, List.all_append, ← hx]
          simp
        have hmem : Nd.mk kd' st' l' mi' ma' ∈ l := by rw [hx]; exact List.getElem_mem hkl
        obtain ⟨y, hy⟩ : ∃ y, (b && (l.take k).all Nd.isT) = y := ⟨_, rfl⟩
        obtain ⟨u, hu⟩ : ∃ u, (Nd.mk kd' st' l' mi' ma').isT = u := ⟨_, rfl⟩
        have hst2 : (b && (l.take (k + 1)).all Nd.isT) = (y && u) := by rw [hst, ← Bool.and_assoc, hy, hu]
        rw [hy]
        have hcall := fun W h => Ih.out _ hmem B W _ (hsub.keep (w' := W) h)
        rw [hu] at hcall
        have Hcall := Lib.hid hcall
        have Hst := Lib.hid hst2
        have hkb : k < 1099511628000 := by omega
        clear hcall hst2 hst hy hu hx hce hsub
        go_upto_region 18 with (first | (refine wl_load_node_at rfl _ rfl _ _ rfl _ _ _ _ _ _ _ hrow ?_) | (refine wl_store_node rfl _ _ rfl _ _ _ _ _ _ _ _ rfl rfl (nodeC 0 0 none 0 0 0 0) rfl (Blk.new _ _ _) ?_; intro w3 h5 hg3))
        have hB3 := below_grown (below_alloc (Below.refl _ wr) (.cells (nodeC 0 0 none 0 0 0 0) 27)) hg3 (Nat.le_refl _)
        replace hBw := below_then hBw hB3
        clear hrow hrows hB3 hg3
        cases y
        · go_wp2_with (fail)
          exact ⟨⟨k + 1, by omega, rfl, by rw [Hst.out]; rfl, hBw⟩, by simp only [intOf]; omega⟩
        · go_wp2_with (first | (refine wl_load_node_g (want_yes rfl rfl rfl) _ rfl _ rfl _ _ _ _ _ _ _ h5 ?_) | (go_at_call 43; refine (Hcall.out _ (fun j hj => hBw.block j (by omega)) (by have := hBw.size; omega)).mono ?_; rintro e w5 ⟨rfl, hB5⟩))
          exact ⟨⟨k + 1, by omega, rfl, by rw [Hst.out]; rfl, below_then hBw hB5⟩, by simp only [intOf]; omega⟩
      · have hkI : ¬ (k : Int) < n := by omega
        have hke : l.take k = l := List.take_of_length_le (by have := Hn.out; omega)
        rw [hke]
        go_wp2_with (fail)
        go_ret
        exact ⟨by rw [Hb.out]; rfl, hBw⟩
end Go.Proofs.Ytajainmldcnaeaa
