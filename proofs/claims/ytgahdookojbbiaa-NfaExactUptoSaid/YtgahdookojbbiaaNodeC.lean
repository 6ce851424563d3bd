/- heronref04.Is. No condition beyond those named in each lemma. -/
import Derived.Test.YtgahdookojbbiaaNodeB
namespace Go.Proofs.Ytgahdookojbbiaa
open Go.RowKit Go.Maps
set_option linter.unusedVariables false
set_option linter.unusedSimpArgs false
attribute [local go_sem] Oper.semAt_some

theorem five_f {st : BSet} {n : Nat} {mi ma : Int} {z a1 a2 a3 a4 a5 a6 : Bool} (hz : decide (st = 0) = z) (g1 : (((n : Nat) : Int) != 1) = a1) (g2 : decide (mi < (0 : Int)) = a2) (g3 : decide ((255 : Int) < mi) = a3) (g4 : (ma != (-1 : Int)) = a4) (g5 : decide (ma < mi) = a5) (g6 : decide ((255 : Int) < ma) = a6) :
    (((((!z) || a1) || a2) || a3) || (a4 && (a5 || a6))) = !headOk 5 st n mi ma := by
  rw [headOk_5 hz, Bool.eq_iff_iff]
  subst g1 g2 g3 g4 g5 g6
  cases z
  · simp
  · simp only [Bool.and_eq_true, Bool.or_eq_true, bne_iff_ne, ne_eq, decide_eq_true_eq, Bool.not_eq_true', Bool.and_eq_false_iff, Bool.or_eq_false_iff, decide_eq_false_iff_not, Bool.not_true, Bool.false_eq_true, false_or, Bool.true_eq_false]
    omega
theorem leaf_T {k : Int} (h : k = 1 ∨ k = 6 ∨ k = 7 ∨ k = 2) {st : BSet} {n : Nat} {mi ma : Int} {l : List Nd} (hn : n = l.length) : (headOk k st n mi ma && l.all Nd.isT) = headOk k st n mi ma := by
  by_cases h0 : n = 0
  · have : l = [] := List.eq_nil_of_length_eq_zero (by omega)
    rw [this]; simp
  · have : headOk k st n mi ma = false := by
      by_cases k2 : k = 2
      · subst k2
        rw [headOk_2 rfl]; simp [h0]
      · rw [headOk_1 (by omega) rfl]; simp [h0]
    rw [this]; rfl
set_option maxRecDepth 100000 in
set_option maxHeartbeats 40000000 in
theorem ris_any (nd : Nd) : ∀ (B : Nat) (w : World) (cs : Array Value), NdIn w B nd cs → B ≤ w.heap.size →
    Calls Try.prog 40 #[.agg cs] w fun e w' => e = .returned (.bool nd.isT) ∧ Below w.heap.size w w' := by
  induction nd using Nd.ind with
  | h kd st l mi ma ih =>
  intro B w cs hin hB
  obtain ⟨A, n, c, cl, rfl, hn, hcl, hmax, hs, hr⟩ := hin.inv
  have hh : (Nd.mk kd st l mi ma).isT = (headOk kd st n mi ma && l.all Nd.isT) := by rw [hn]; simp only [Nd.isT, Nd.areT_all]
  obtain ⟨V, hV⟩ : ∃ V, (Nd.mk kd st l mi ma).isT = V := ⟨_, rfl⟩
  rw [hV]
  rw [hh] at hV
  have hleaf := fun h => (leaf_T (k := kd) (st := st) (mi := mi) (ma := ma) h hn).symm.trans hV
  have Hleaf := Lib.hid hleaf
  have HV := Lib.hid hV
  have Hn := Lib.hid hn
  have Hcl := Lib.hid hcl
  have Hr := Lib.hid hr
  have Ih := Lib.hid ih
  clear hn hcl hr ih hh hin hV hleaf
  go_enter Try.func40, Try.ntmps40
  have h1 := Blk.new w 27 (nodeC kd st A n c mi ma)
  have hB1 : Below w.heap.size w (w.alloc (.cells (nodeC kd st A n c mi ma) 27)) := below_alloc (Below.refl _ _) _
  go_upto_region 1 with (fail)
  obtain ⟨W1, hW1⟩ : ∃ y, y = w.alloc (.cells (nodeC kd st A n c mi ma) 27) := ⟨_, rfl⟩
  rw [← hW1] at h1 hB1 ⊢
  clear hW1
  obtain ⟨z, hz⟩ : ∃ z, decide (st = (0 : BSet)) = z := ⟨_, rfl⟩
  have Hz := Lib.hid hz
  clear hz
  obtain ⟨a1, g1⟩ : ∃ q, (mi == (0 : Int)) = q := ⟨_, rfl⟩
  obtain ⟨a2, g2⟩ : ∃ q, (ma == (0 : Int)) = q := ⟨_, rfl⟩
  obtain ⟨nn, hnn⟩ : ∃ q, ((z && a1) && a2) = q := ⟨_, rfl⟩
  refine wp_region_text 15 [eqS (.pointer (some ⟨w.heap.size, 1, none⟩)), eqS (.agg (setC st)), eqS (.agg (setC 0)), eqS (.bool z), eqS (.bool z), eqS (vF (true && (z == true)) (.pointer (some ⟨w.heap.size, 6, none⟩))), eqS (vF (true && (z == true)) (.int .i64 (mi))), eqS (vF (true && (z == true)) (.bool a1)), eqS (.bool (z && a1)), eqS (.bool (z && a1)), eqS (vF (true && ((z && a1) == true)) (.pointer (some ⟨w.heap.size, 7, none⟩))), eqS (vF (true && ((z && a1) == true)) (.int .i64 (ma))), eqS (vF (true && ((z && a1) == true)) (.bool a2)), eqS (.bool ((z && a1) && a2)), eqS (.bool ((z && a1) && a2))] [5, 6, 7, 8, 9, 10, 11, 12, 13, 14, 15, 16, 17, 18, 3] (by kernel_rfl) rfl ?_ ?_
  · skip
    refine Steps.cons (fun a' w' hG hB dep => gs_field (want_none rfl) _ _ _ rfl w.heap.size (0) (1) (hG.other 1 rfl) (fun wz => field_node_1 w.heap.size (0) wz) rfl) ?_
    refine Steps.cons (fun a' w' hG hB dep => gs_load_set_at (want_none rfl) _ rfl w.heap.size (1) (dep 0 rfl 5 rfl) _ (node_st (blk_then h1 hB)) rfl) ?_
    refine Steps.cons (fun a' w' hG hB dep => gs_build_set0 (want_none rfl) rfl rfl) ?_
    refine Steps.cons (fun a' w' hG hB dep => gs_eql_set (want_none rfl) _ _ _ rfl _ _ (dep 1 rfl 6 rfl) (dep 2 rfl 7 rfl) (id (congrArg Value.bool Hz.out))) ?_
    refine Steps.cons (fun a' w' hG hB dep => gs_move (want_none rfl) _ rfl (id (dep 3 rfl 8 rfl))) ?_
    refine Steps.cons (fun a' w' hG hB dep => gs_guard (c := true) (b' := z) rfl rfl (dep 4 rfl 9 rfl) (fun hc he hw => gs_field hw _ _ _ rfl w.heap.size (0) (6) (hG.other 1 rfl) (fun wz => field_node_3 w.heap.size (0) wz) (vF_yes (on_g hc he) _).symm) (fun hn => vF_no hn _)) ?_
    refine Steps.cons (fun a' w' hG hB dep => gs_guard (c := true) (b' := z) rfl rfl (dep 4 rfl 9 rfl) (fun hc he hw => gs_load1 hw _ _ rfl w.heap.size (6) (Eq.trans (dep 5 rfl 10 rfl) (vF_yes (on_g hc he) _)) (.int .i64 (mi)) ((blk_then h1 hB).cellv (i := 6) rfl) _ Try.underlying3 rfl (vF_yes (on_g hc he) _).symm) (fun hn => vF_no hn _)) ?_
    refine Steps.cons (fun a' w' hG hB dep => gs_guard (c := true) (b' := z) rfl rfl (dep 4 rfl 9 rfl) (fun hc he hw => gs_eql_int hw _ _ _ _ rfl _ _ _ (Eq.trans (dep 6 rfl 11 rfl) (vF_yes (on_g hc he) _)) rfl (Eq.trans (congrArg Value.bool g1) (vF_yes (on_g hc he) _).symm)) (fun hn => vF_no hn _)) ?_
    refine Steps.cons (fun a' w' hG hB dep => gs_pick (want_none rfl) _ _ _ rfl z (dep 4 rfl 9 rfl) (id (pick_and2 (c := true) rfl (dep 7 rfl 12 rfl)))) ?_
    refine Steps.cons (fun a' w' hG hB dep => gs_move (want_none rfl) _ rfl (id (dep 8 rfl 13 rfl))) ?_
    refine Steps.cons (fun a' w' hG hB dep => gs_guard (c := true) (b' := (z && a1)) rfl rfl (dep 9 rfl 14 rfl) (fun hc he hw => gs_field hw _ _ _ rfl w.heap.size (0) (7) (hG.other 1 rfl) (fun wz => field_node_4 w.heap.size (0) wz) (vF_yes (on_g hc he) _).symm) (fun hn => vF_no hn _)) ?_
    refine Steps.cons (fun a' w' hG hB dep => gs_guard (c := true) (b' := (z && a1)) rfl rfl (dep 9 rfl 14 rfl) (fun hc he hw => gs_load1 hw _ _ rfl w.heap.size (7) (Eq.trans (dep 10 rfl 15 rfl) (vF_yes (on_g hc he) _)) (.int .i64 (ma)) ((blk_then h1 hB).cellv (i := 7) rfl) _ Try.underlying3 rfl (vF_yes (on_g hc he) _).symm) (fun hn => vF_no hn _)) ?_
    refine Steps.cons (fun a' w' hG hB dep => gs_guard (c := true) (b' := (z && a1)) rfl rfl (dep 9 rfl 14 rfl) (fun hc he hw => gs_eql_int hw _ _ _ _ rfl _ _ _ (Eq.trans (dep 11 rfl 16 rfl) (vF_yes (on_g hc he) _)) rfl (Eq.trans (congrArg Value.bool g2) (vF_yes (on_g hc he) _).symm)) (fun hn => vF_no hn _)) ?_
    refine Steps.cons (fun a' w' hG hB dep => gs_pick (want_none rfl) _ _ _ rfl (z && a1) (dep 9 rfl 14 rfl) (id (pick_and2 (c := true) rfl (dep 12 rfl 17 rfl)))) ?_
    refine Steps.cons (fun a' w' hG hB dep => gs_assign (want_none rfl) _ rfl (id (dep 13 rfl 18 rfl))) ?_
    exact Steps.nil
  intro u w2 hB2 ans
  have hus : u 3 = .bool nn := (ans 14 3 (by decide) rfl).trans (congrArg Value.bool hnn)
  clear ans
  simp only [putAll, List.foldl_cons, List.foldl_nil, Act.put, List.setIfInBounds_toArray, List.set_cons_zero, List.set_cons_succ, hus]
  clear hus
  simp only [List.drop]
  refine wpList_nil ?_
  have Hnn : Hid (((z && decide (mi = 0)) && decide (ma = 0)) = nn) := Lib.hid (by rw [← hnn, ← g1, ← g2]; rfl)
  clear hnn g1 g2 a1 a2
  replace h1 := blk_then h1 hB2
  replace hB1 := below_then hB1 hB2
  clear hB2
  have hl1 := h1.lt
  have c0 : w2.cell? ⟨w.heap.size, 0, none⟩ = some (.int .i64 kd) := h1.cellv (i := 0) rfl
  have c5 : w2.cell? ⟨w.heap.size, 5, none⟩ = some (.slice A n c) := h1.cellv (i := 5) rfl
  have c6 : w2.cell? ⟨w.heap.size, 6, none⟩ = some (.int .i64 mi) := h1.cellv (i := 6) rfl
  have c7 : w2.cell? ⟨w.heap.size, 7, none⟩ = some (.int .i64 ma) := h1.cellv (i := 7) rfl
  go_upto_block 0 with (fail)
  go_cut [21] from 21 to 105 (fun _ wx => headOk kd st n mi ma = true ∧ Below w2.heap.size w2 wx)
  case first =>
    by_cases k167 : kd = 1 ∨ kd = 6 ∨ kd = 7
    · have hv := Hleaf.out (by omega)
      rw [headOk_1 k167 Hz.out, Hnn.out] at hv
      have Hv := Lib.hid hv
      clear hv
      rcases k167 with rfl | rfl | rfl
      · go_upto_region 7 with (fail)
        cases nn
        · go_wp2_with (fail)
          go_ret
          exact ⟨congrArg (fun v => Ending.returned (.bool v)) (by rw [← Hv.out]; rfl), hB1⟩
        · by_cases hn0 : n = 0
          · subst hn0
            go_wp2_with (fail)
            go_ret
            exact ⟨congrArg (fun v => Ending.returned (.bool v)) (by rw [← Hv.out]; rfl), hB1⟩
          · have hnI : ((n : Int) == 0) = false := by simpa using hn0
            go_wp2_with (fail)
            go_ret
            exact ⟨congrArg (fun v => Ending.returned (.bool v)) (by rw [← Hv.out, decide_eq_false hn0]; rfl), hB1⟩
      · go_upto_region 7 with (fail)
        cases nn
        · go_wp2_with (fail)
          go_ret
          exact ⟨congrArg (fun v => Ending.returned (.bool v)) (by rw [← Hv.out]; rfl), hB1⟩
        · by_cases hn0 : n = 0
          · subst hn0
            go_wp2_with (fail)
            go_ret
            exact ⟨congrArg (fun v => Ending.returned (.bool v)) (by rw [← Hv.out]; rfl), hB1⟩
          · have hnI : ((n : Int) == 0) = false := by simpa using hn0
            go_wp2_with (fail)
            go_ret
            exact ⟨congrArg (fun v => Ending.returned (.bool v)) (by rw [← Hv.out, decide_eq_false hn0]; rfl), hB1⟩
      · go_upto_region 7 with (fail)
        cases nn
        · go_wp2_with (fail)
          go_ret
          exact ⟨congrArg (fun v => Ending.returned (.bool v)) (by rw [← Hv.out]; rfl), hB1⟩
        · by_cases hn0 : n = 0
          · subst hn0
            go_wp2_with (fail)
            go_ret
            exact ⟨congrArg (fun v => Ending.returned (.bool v)) (by rw [← Hv.out]; rfl), hB1⟩
          · have hnI : ((n : Int) == 0) = false := by simpa using hn0
            go_wp2_with (fail)
            go_ret
            exact ⟨congrArg (fun v => Ending.returned (.bool v)) (by rw [← Hv.out, decide_eq_false hn0]; rfl), hB1⟩
    by_cases k2 : kd = 2
    · subst k2
      obtain ⟨q, hq⟩ : ∃ q, st.getLsbD 10 = q := ⟨_, rfl⟩
      have hv := Hleaf.out (by omega)
      rw [headOk_2 hq] at hv
      have Hv := Lib.hid hv
      have Hq := Lib.hid hq
      clear hv hq
      have cw : w2.cell? ⟨w.heap.size, 1, none⟩ = some (.int .u64 (word st 0)) := h1.cellv (i := 1) rfl
      go_upto_region 9 with (fail)
      have hbit : q = !decide ((word st 0 : Int) / 1024 % 2 = 0) := by
        rw [← Hq.out, word_bit (by omega), Nat.testBit_eq_decide_div_mod_eq, Bool.eq_iff_iff]
        simp only [decide_eq_true_eq, Bool.not_eq_true', decide_eq_false_iff_not]
        show word st 0 / 1024 % 2 = 1 ↔ _
        omega
      have Hbit := Lib.hid hbit
      clear hbit
      go_wp2_with (fail)
      all_goals
        go_ret
        exact ⟨congrArg (fun v => Ending.returned (.bool v)) (by rw [← Hv.out, Hbit.out]; first | (simp [*]; done) | (simp [*]; rw [Bool.eq_iff_iff]; simp only [beq_iff_eq, decide_eq_true_eq]; omega)), hB1⟩
    have hV0 : headOk kd st n mi ma = false → V = false := fun h => by rw [← HV.out, h]; rfl
    by_cases k34 : kd = 3 ∨ kd = 4
    · have hh := headOk_3 k34 Hz.out n mi ma
      rw [Hnn.out] at hh
      rw [hh] at hV0
      have Hh := Lib.hid hh
      have HV0 := Lib.hid hV0
      clear hh hV0
      rcases k34 with rfl | rfl
      · go_upto_region 12 with (fail)
        cases nn
        · go_wp2_with (fail)
          go_ret
          exact ⟨congrArg (fun v => Ending.returned (.bool v)) (HV0.out (by rfl)).symm, hB1⟩
        · by_cases hn2 : 2 ≤ n
          · have hnI : decide ((n : Int) < 2) = false := by simp; omega
            go_wp2_with (fail)
            go_meet
            exact ⟨by rw [Hh.out]; simp [hn2], Below.refl _ _⟩
          · have hnI : decide ((n : Int) < 2) = true := by simp; omega
            go_wp2_with (fail)
            go_ret
            exact ⟨congrArg (fun v => Ending.returned (.bool v)) (HV0.out (by simp [hn2])).symm, hB1⟩
      · go_upto_region 12 with (fail)
        cases nn
        · go_wp2_with (fail)
          go_ret
          exact ⟨congrArg (fun v => Ending.returned (.bool v)) (HV0.out (by rfl)).symm, hB1⟩
        · by_cases hn2 : 2 ≤ n
          · have hnI : decide ((n : Int) < 2) = false := by simp; omega
            go_wp2_with (fail)
            go_meet
            exact ⟨by rw [Hh.out]; simp [hn2], Below.refl _ _⟩
          · have hnI : decide ((n : Int) < 2) = true := by simp; omega
            go_wp2_with (fail)
            go_ret
            exact ⟨congrArg (fun v => Ending.returned (.bool v)) (HV0.out (by simp [hn2])).symm, hB1⟩
    by_cases k5 : kd = 5
    · subst k5
      go_upto_region 15 with (fail)
      have HV0 := Lib.hid hV0
      clear hV0
      obtain ⟨a1, g1⟩ : ∃ q, (((n : Nat) : Int) != 1) = q := ⟨_, rfl⟩
      obtain ⟨a2, g2⟩ : ∃ q, (decide (mi < (0 : Int))) = q := ⟨_, rfl⟩
      obtain ⟨a3, g3⟩ : ∃ q, (decide ((255 : Int) < mi)) = q := ⟨_, rfl⟩
      obtain ⟨a4, g4⟩ : ∃ q, (ma != (-1 : Int)) = q := ⟨_, rfl⟩
      obtain ⟨a5, g5⟩ : ∃ q, (decide (ma < mi)) = q := ⟨_, rfl⟩
      obtain ⟨a6, g6⟩ : ∃ q, (decide ((255 : Int) < ma)) = q := ⟨_, rfl⟩
      obtain ⟨y, hy⟩ : ∃ y, headOk 5 st n mi ma = y := ⟨_, rfl⟩
      have hfive : (((((!z) || a1) || a2) || a3) || (a4 && (a5 || a6))) = !y := (five_f Hz.out g1 g2 g3 g4 g5 g6).trans (congrArg (!·) hy)
      refine wp_region_text 37 [eqS (.pointer (some ⟨w.heap.size, 1, none⟩)), eqS (.agg (setC st)), eqS (.agg (setC 0)), eqS (.bool (!z)), eqS (.bool (!z)), eqS (vF (true && ((!z) == false)) (.pointer (some ⟨w.heap.size, 5, none⟩))), eqS (vF (true && ((!z) == false)) (.slice A n c)), eqS (vF (true && ((!z) == false)) (.int .i64 (((n : Nat) : Int)))), eqS (vF (true && ((!z) == false)) (.bool a1)), eqS (.bool ((!z) || a1)), eqS (.bool ((!z) || a1)), eqS (vF (true && (((!z) || a1) == false)) (.pointer (some ⟨w.heap.size, 6, none⟩))), eqS (vF (true && (((!z) || a1) == false)) (.int .i64 (mi))), eqS (vF (true && (((!z) || a1) == false)) (.bool a2)), eqS (.bool (((!z) || a1) || a2)), eqS (.bool (((!z) || a1) || a2)), eqS (vF (true && ((((!z) || a1) || a2) == false)) (.pointer (some ⟨w.heap.size, 6, none⟩))), eqS (vF (true && ((((!z) || a1) || a2) == false)) (.int .i64 (mi))), eqS (vF (true && ((((!z) || a1) || a2) == false)) (.bool a3)), eqS (.bool ((((!z) || a1) || a2) || a3)), eqS (.bool ((((!z) || a1) || a2) || a3)), eqS (vF (true && (((((!z) || a1) || a2) || a3) == false)) (.pointer (some ⟨w.heap.size, 7, none⟩))), eqS (vF (true && (((((!z) || a1) || a2) || a3) == false)) (.int .i64 (ma))), eqS (vF (true && (((((!z) || a1) || a2) || a3) == false)) (.bool a4)), eqS (vF (true && (((((!z) || a1) || a2) || a3) == false)) (.bool a4)), eqS (vF ((true && (((((!z) || a1) || a2) || a3) == false)) && (a4 == true)) (.pointer (some ⟨w.heap.size, 7, none⟩))), eqS (vF ((true && (((((!z) || a1) || a2) || a3) == false)) && (a4 == true)) (.int .i64 (ma))), eqS (vF ((true && (((((!z) || a1) || a2) || a3) == false)) && (a4 == true)) (.pointer (some ⟨w.heap.size, 6, none⟩))), eqS (vF ((true && (((((!z) || a1) || a2) || a3) == false)) && (a4 == true)) (.int .i64 (mi))), eqS (vF ((true && (((((!z) || a1) || a2) || a3) == false)) && (a4 == true)) (.bool a5)), eqS (vF ((true && (((((!z) || a1) || a2) || a3) == false)) && (a4 == true)) (.bool a5)), eqS (vF (((true && (((((!z) || a1) || a2) || a3) == false)) && (a4 == true)) && (a5 == false)) (.pointer (some ⟨w.heap.size, 7, none⟩))), eqS (vF (((true && (((((!z) || a1) || a2) || a3) == false)) && (a4 == true)) && (a5 == false)) (.int .i64 (ma))), eqS (vF (((true && (((((!z) || a1) || a2) || a3) == false)) && (a4 == true)) && (a5 == false)) (.bool a6)), eqS (vF ((true && (((((!z) || a1) || a2) || a3) == false)) && (a4 == true)) (.bool (a5 || a6))), eqS (vF (true && (((((!z) || a1) || a2) || a3) == false)) (.bool (a4 && (a5 || a6)))), eqS (.bool (((((!z) || a1) || a2) || a3) || (a4 && (a5 || a6))))] [69, 70, 71, 72, 73, 74, 75, 76, 77, 78, 79, 80, 81, 82, 83, 84, 85, 86, 87, 88, 89, 90, 91, 92, 93, 94, 95, 96, 97, 98, 99, 100, 101, 102, 103, 104, 105] (by kernel_rfl) rfl ?_ ?_
      · skip
        refine Steps.cons (fun a' w' hG hB dep => gs_field (want_none rfl) _ _ _ rfl w.heap.size (0) (1) (hG.other 1 rfl) (fun wz => field_node_1 w.heap.size (0) wz) rfl) ?_
        refine Steps.cons (fun a' w' hG hB dep => gs_load_set_at (want_none rfl) _ rfl w.heap.size (1) (dep 0 rfl 69 rfl) _ (node_st (blk_then h1 hB)) rfl) ?_
        refine Steps.cons (fun a' w' hG hB dep => gs_build_set0 (want_none rfl) rfl rfl) ?_
        refine Steps.cons (fun a' w' hG hB dep => gs_neq_set (want_none rfl) _ _ _ rfl _ _ (dep 1 rfl 70 rfl) (dep 2 rfl 71 rfl) (id (congrArg Value.bool (congrArg (!·) Hz.out)))) ?_
        refine Steps.cons (fun a' w' hG hB dep => gs_move (want_none rfl) _ rfl (id (dep 3 rfl 72 rfl))) ?_
        refine Steps.cons (fun a' w' hG hB dep => gs_guard (c := true) (b' := (!z)) rfl rfl (dep 4 rfl 73 rfl) (fun hc he hw => gs_field hw _ _ _ rfl w.heap.size (0) (5) (hG.other 1 rfl) (fun wz => field_node_2 w.heap.size (0) wz) (vF_yes (on_g hc he) _).symm) (fun hn => vF_no hn _)) ?_
        refine Steps.cons (fun a' w' hG hB dep => gs_guard (c := true) (b' := (!z)) rfl rfl (dep 4 rfl 73 rfl) (fun hc he hw => gs_load1 hw _ _ rfl w.heap.size (5) (Eq.trans (dep 5 rfl 74 rfl) (vF_yes (on_g hc he) _)) (.slice A n c) ((blk_then h1 hB).cellv (i := 5) rfl) _ Try.underlying25 rfl (vF_yes (on_g hc he) _).symm) (fun hn => vF_no hn _)) ?_
        refine Steps.cons (fun a' w' hG hB dep => gs_guard (c := true) (b' := (!z)) rfl rfl (dep 4 rfl 73 rfl) (fun hc he hw => gs_len hw _ _ rfl under_nodes _ n c (Eq.trans (dep 6 rfl 75 rfl) (vF_yes (on_g hc he) _)) (vF_yes (on_g hc he) _).symm) (fun hn => vF_no hn _)) ?_
        refine Steps.cons (fun a' w' hG hB dep => gs_guard (c := true) (b' := (!z)) rfl rfl (dep 4 rfl 73 rfl) (fun hc he hw => gs_neq_int hw _ _ _ _ rfl _ _ _ (Eq.trans (dep 7 rfl 76 rfl) (vF_yes (on_g hc he) _)) rfl (Eq.trans (congrArg Value.bool g1) (vF_yes (on_g hc he) _).symm)) (fun hn => vF_no hn _)) ?_
        refine Steps.cons (fun a' w' hG hB dep => gs_pick (want_none rfl) _ _ _ rfl (!z) (dep 4 rfl 73 rfl) (id (pick_or2 (c := true) rfl (dep 8 rfl 77 rfl)))) ?_
        refine Steps.cons (fun a' w' hG hB dep => gs_move (want_none rfl) _ rfl (id (dep 9 rfl 78 rfl))) ?_
        refine Steps.cons (fun a' w' hG hB dep => gs_guard (c := true) (b' := ((!z) || a1)) rfl rfl (dep 10 rfl 79 rfl) (fun hc he hw => gs_field hw _ _ _ rfl w.heap.size (0) (6) (hG.other 1 rfl) (fun wz => field_node_3 w.heap.size (0) wz) (vF_yes (on_g hc he) _).symm) (fun hn => vF_no hn _)) ?_
        refine Steps.cons (fun a' w' hG hB dep => gs_guard (c := true) (b' := ((!z) || a1)) rfl rfl (dep 10 rfl 79 rfl) (fun hc he hw => gs_load1 hw _ _ rfl w.heap.size (6) (Eq.trans (dep 11 rfl 80 rfl) (vF_yes (on_g hc he) _)) (.int .i64 (mi)) ((blk_then h1 hB).cellv (i := 6) rfl) _ Try.underlying3 rfl (vF_yes (on_g hc he) _).symm) (fun hn => vF_no hn _)) ?_
        refine Steps.cons (fun a' w' hG hB dep => gs_guard (c := true) (b' := ((!z) || a1)) rfl rfl (dep 10 rfl 79 rfl) (fun hc he hw => gs_lss_int hw _ _ _ _ rfl _ _ _ (Eq.trans (dep 12 rfl 81 rfl) (vF_yes (on_g hc he) _)) rfl (Eq.trans (congrArg Value.bool g2) (vF_yes (on_g hc he) _).symm)) (fun hn => vF_no hn _)) ?_
        refine Steps.cons (fun a' w' hG hB dep => gs_pick (want_none rfl) _ _ _ rfl ((!z) || a1) (dep 10 rfl 79 rfl) (id (pick_or2 (c := true) rfl (dep 13 rfl 82 rfl)))) ?_
        refine Steps.cons (fun a' w' hG hB dep => gs_move (want_none rfl) _ rfl (id (dep 14 rfl 83 rfl))) ?_
        refine Steps.cons (fun a' w' hG hB dep => gs_guard (c := true) (b' := (((!z) || a1) || a2)) rfl rfl (dep 15 rfl 84 rfl) (fun hc he hw => gs_field hw _ _ _ rfl w.heap.size (0) (6) (hG.other 1 rfl) (fun wz => field_node_3 w.heap.size (0) wz) (vF_yes (on_g hc he) _).symm) (fun hn => vF_no hn _)) ?_
        refine Steps.cons (fun a' w' hG hB dep => gs_guard (c := true) (b' := (((!z) || a1) || a2)) rfl rfl (dep 15 rfl 84 rfl) (fun hc he hw => gs_load1 hw _ _ rfl w.heap.size (6) (Eq.trans (dep 16 rfl 85 rfl) (vF_yes (on_g hc he) _)) (.int .i64 (mi)) ((blk_then h1 hB).cellv (i := 6) rfl) _ Try.underlying3 rfl (vF_yes (on_g hc he) _).symm) (fun hn => vF_no hn _)) ?_
        refine Steps.cons (fun a' w' hG hB dep => gs_guard (c := true) (b' := (((!z) || a1) || a2)) rfl rfl (dep 15 rfl 84 rfl) (fun hc he hw => gs_gtr_int hw _ _ _ _ rfl _ _ _ (Eq.trans (dep 17 rfl 86 rfl) (vF_yes (on_g hc he) _)) rfl (Eq.trans (congrArg Value.bool g3) (vF_yes (on_g hc he) _).symm)) (fun hn => vF_no hn _)) ?_
        refine Steps.cons (fun a' w' hG hB dep => gs_pick (want_none rfl) _ _ _ rfl (((!z) || a1) || a2) (dep 15 rfl 84 rfl) (id (pick_or2 (c := true) rfl (dep 18 rfl 87 rfl)))) ?_
        refine Steps.cons (fun a' w' hG hB dep => gs_move (want_none rfl) _ rfl (id (dep 19 rfl 88 rfl))) ?_
        refine Steps.cons (fun a' w' hG hB dep => gs_guard (c := true) (b' := ((((!z) || a1) || a2) || a3)) rfl rfl (dep 20 rfl 89 rfl) (fun hc he hw => gs_field hw _ _ _ rfl w.heap.size (0) (7) (hG.other 1 rfl) (fun wz => field_node_4 w.heap.size (0) wz) (vF_yes (on_g hc he) _).symm) (fun hn => vF_no hn _)) ?_
        refine Steps.cons (fun a' w' hG hB dep => gs_guard (c := true) (b' := ((((!z) || a1) || a2) || a3)) rfl rfl (dep 20 rfl 89 rfl) (fun hc he hw => gs_load1 hw _ _ rfl w.heap.size (7) (Eq.trans (dep 21 rfl 90 rfl) (vF_yes (on_g hc he) _)) (.int .i64 (ma)) ((blk_then h1 hB).cellv (i := 7) rfl) _ Try.underlying3 rfl (vF_yes (on_g hc he) _).symm) (fun hn => vF_no hn _)) ?_
        refine Steps.cons (fun a' w' hG hB dep => gs_guard (c := true) (b' := ((((!z) || a1) || a2) || a3)) rfl rfl (dep 20 rfl 89 rfl) (fun hc he hw => gs_neq_int hw _ _ _ _ rfl _ _ _ (Eq.trans (dep 22 rfl 91 rfl) (vF_yes (on_g hc he) _)) rfl (Eq.trans (congrArg Value.bool g4) (vF_yes (on_g hc he) _).symm)) (fun hn => vF_no hn _)) ?_
        refine Steps.cons (fun a' w' hG hB dep => gs_guard (c := true) (b' := ((((!z) || a1) || a2) || a3)) rfl rfl (dep 20 rfl 89 rfl) (fun hc he hw => gs_move hw _ rfl (Eq.trans (Eq.trans (dep 23 rfl 92 rfl) (vF_yes (on_g hc he) _)) (vF_yes (on_g hc he) _).symm)) (fun hn => vF_no hn _)) ?_
        refine Steps.cons (fun a' w' hG hB dep => gs_guard (c := (true && (((((!z) || a1) || a2) || a3) == false))) (b' := a4) rfl rfl (dep 24 rfl 93 rfl) (fun hc he hw => gs_field hw _ _ _ rfl w.heap.size (0) (7) (hG.other 1 rfl) (fun wz => field_node_4 w.heap.size (0) wz) (vF_yes (on_g hc he) _).symm) (fun hn => vF_no hn _)) ?_
        refine Steps.cons (fun a' w' hG hB dep => gs_guard (c := (true && (((((!z) || a1) || a2) || a3) == false))) (b' := a4) rfl rfl (dep 24 rfl 93 rfl) (fun hc he hw => gs_load1 hw _ _ rfl w.heap.size (7) (Eq.trans (dep 25 rfl 94 rfl) (vF_yes (on_g hc he) _)) (.int .i64 (ma)) ((blk_then h1 hB).cellv (i := 7) rfl) _ Try.underlying3 rfl (vF_yes (on_g hc he) _).symm) (fun hn => vF_no hn _)) ?_
        refine Steps.cons (fun a' w' hG hB dep => gs_guard (c := (true && (((((!z) || a1) || a2) || a3) == false))) (b' := a4) rfl rfl (dep 24 rfl 93 rfl) (fun hc he hw => gs_field hw _ _ _ rfl w.heap.size (0) (6) (hG.other 1 rfl) (fun wz => field_node_3 w.heap.size (0) wz) (vF_yes (on_g hc he) _).symm) (fun hn => vF_no hn _)) ?_
        refine Steps.cons (fun a' w' hG hB dep => gs_guard (c := (true && (((((!z) || a1) || a2) || a3) == false))) (b' := a4) rfl rfl (dep 24 rfl 93 rfl) (fun hc he hw => gs_load1 hw _ _ rfl w.heap.size (6) (Eq.trans (dep 27 rfl 96 rfl) (vF_yes (on_g hc he) _)) (.int .i64 (mi)) ((blk_then h1 hB).cellv (i := 6) rfl) _ Try.underlying3 rfl (vF_yes (on_g hc he) _).symm) (fun hn => vF_no hn _)) ?_
        refine Steps.cons (fun a' w' hG hB dep => gs_guard (c := (true && (((((!z) || a1) || a2) || a3) == false))) (b' := a4) rfl rfl (dep 24 rfl 93 rfl) (fun hc he hw => gs_lss_int hw _ _ _ _ rfl _ _ _ (Eq.trans (dep 26 rfl 95 rfl) (vF_yes (on_g hc he) _)) (Eq.trans (dep 28 rfl 97 rfl) (vF_yes (on_g hc he) _)) (Eq.trans (congrArg Value.bool g5) (vF_yes (on_g hc he) _).symm)) (fun hn => vF_no hn _)) ?_
        refine Steps.cons (fun a' w' hG hB dep => gs_guard (c := (true && (((((!z) || a1) || a2) || a3) == false))) (b' := a4) rfl rfl (dep 24 rfl 93 rfl) (fun hc he hw => gs_move hw _ rfl (Eq.trans (Eq.trans (dep 29 rfl 98 rfl) (vF_yes (on_g hc he) _)) (vF_yes (on_g hc he) _).symm)) (fun hn => vF_no hn _)) ?_
        refine Steps.cons (fun a' w' hG hB dep => gs_guard (c := ((true && (((((!z) || a1) || a2) || a3) == false)) && (a4 == true))) (b' := a5) rfl rfl (dep 30 rfl 99 rfl) (fun hc he hw => gs_field hw _ _ _ rfl w.heap.size (0) (7) (hG.other 1 rfl) (fun wz => field_node_4 w.heap.size (0) wz) (vF_yes (on_g hc he) _).symm) (fun hn => vF_no hn _)) ?_
        refine Steps.cons (fun a' w' hG hB dep => gs_guard (c := ((true && (((((!z) || a1) || a2) || a3) == false)) && (a4 == true))) (b' := a5) rfl rfl (dep 30 rfl 99 rfl) (fun hc he hw => gs_load1 hw _ _ rfl w.heap.size (7) (Eq.trans (dep 31 rfl 100 rfl) (vF_yes (on_g hc he) _)) (.int .i64 (ma)) ((blk_then h1 hB).cellv (i := 7) rfl) _ Try.underlying3 rfl (vF_yes (on_g hc he) _).symm) (fun hn => vF_no hn _)) ?_
        refine Steps.cons (fun a' w' hG hB dep => gs_guard (c := ((true && (((((!z) || a1) || a2) || a3) == false)) && (a4 == true))) (b' := a5) rfl rfl (dep 30 rfl 99 rfl) (fun hc he hw => gs_gtr_int hw _ _ _ _ rfl _ _ _ (Eq.trans (dep 32 rfl 101 rfl) (vF_yes (on_g hc he) _)) rfl (Eq.trans (congrArg Value.bool g6) (vF_yes (on_g hc he) _).symm)) (fun hn => vF_no hn _)) ?_
        refine Steps.cons (fun a' w' hG hB dep => gs_guard (c := (true && (((((!z) || a1) || a2) || a3) == false))) (b' := a4) rfl rfl (dep 24 rfl 93 rfl) (fun hc he hw => gs_pick hw _ _ _ rfl a5 (Eq.trans (dep 30 rfl 99 rfl) (vF_yes (on_g hc he) _)) (Eq.trans (pick_or2 (c := ((true && (((((!z) || a1) || a2) || a3) == false)) && (a4 == true))) (on_g hc he) (dep 33 rfl 102 rfl)) (vF_yes (on_g hc he) _).symm)) (fun hn => vF_no hn _)) ?_
        refine Steps.cons (fun a' w' hG hB dep => gs_guard (c := true) (b' := ((((!z) || a1) || a2) || a3)) rfl rfl (dep 20 rfl 89 rfl) (fun hc he hw => gs_pick hw _ _ _ rfl a4 (Eq.trans (dep 24 rfl 93 rfl) (vF_yes (on_g hc he) _)) (Eq.trans (pick_and2 (c := (true && (((((!z) || a1) || a2) || a3) == false))) (on_g hc he) (dep 34 rfl 103 rfl)) (vF_yes (on_g hc he) _).symm)) (fun hn => vF_no hn _)) ?_
        refine Steps.cons (fun a' w' hG hB dep => gs_pick (want_none rfl) _ _ _ rfl ((((!z) || a1) || a2) || a3) (dep 20 rfl 89 rfl) (id (pick_or2 (c := true) rfl (dep 35 rfl 104 rfl)))) ?_
        exact Steps.nil
      intro u w2 hB2 ans
      have hus : u 105 = .bool (!y) := (ans 36 105 (by decide) rfl).trans (congrArg Value.bool hfive)
      clear ans
      simp only [putAll, List.foldl_cons, List.foldl_nil, Act.put, List.setIfInBounds_toArray, List.set_cons_zero, List.set_cons_succ, hus]
      clear hus
      simp only [List.drop]
      refine wpList_nil ?_
      clear hfive g1 g2 g3 g4 g5 g6
      have Hy := Lib.hid hy
      clear hy
      cases y
      · go_wp2_with (fail)
        go_ret
        exact ⟨congrArg (fun v => Ending.returned (.bool v)) (HV0.out Hy.out).symm, below_then hB1 hB2⟩
      · go_wp2_with (fail)
        go_meet
        exact ⟨Hy.out, hB2⟩
    have e1 : (kd == 1) = false := by simp; omega
    have e2 : (kd == 2) = false := by simp; omega
    have e3 : (kd == 3) = false := by simp; omega
    have e4 : (kd == 4) = false := by simp; omega
    have e5 : (kd == 5) = false := by simp; omega
    have e6 : (kd == 6) = false := by simp; omega
    have e7 : (kd == 7) = false := by simp; omega
    have hv := hV0 (by unfold headOk; rw [if_neg k167, if_neg k2, if_neg k34, if_neg k5])
    have Hv := Lib.hid hv
    clear hv hV0
    go_wp2_with (fail)
    go_ret
    exact ⟨congrArg (fun v => Ending.returned (.bool v)) Hv.out.symm, hB1⟩
  case rest =>
    obtain ⟨hh, hBc⟩ := hcut
    have hv : l.all Nd.isT = V := by rw [← HV.out, hh]; rfl
    have h2 := blk_then h1 hBc
    have hB2 := below_then hB1 hBc
    have Hv := Lib.hid hv
    clear hv hh h1 hB1 hl1 c0 c5 c6 c7 hBc Hz Hnn HV Hleaf
    go_wp2_with (fail)
    go_loopw [4] (fun i wr => ∃ k : Nat, k ≤ n ∧ i = .int .i64 k ∧ Hid ((l.take k).all Nd.isT = true) ∧ Below w.heap.size w wr ∧ Blk wr w.heap.size 27 (nodeC kd st A n c mi ma)) (fun i _ => n - (intOf i).toNat)
    case atStart => exact ⟨0, by omega, rfl, Lib.hid rfl, hB2, h2⟩
    case round =>
      clear hB2 h2
      obtain ⟨k, hk, rfl, hall, hBw, h2⟩ := hrel
      by_cases hkn : k < n
      · have hkI : (k : Int) < n := by omega
        have hkl : k < l.length := by rw [← Hn.out]; exact hkn
        have hkc : k < cl.length := by rw [Hcl.out]; exact hkl
        obtain ⟨ba, off, rfl, hba, hrows⟩ := hs.at_ (by omega)
        have hrow := (hrows k hkc).keep (hBw.block ba (by omega))
        have hsub := Hr.out k hkl hkc
        obtain ⟨⟨kd', st', l', mi', ma'⟩, hx⟩ : ∃ x, x = l[k] := ⟨_, rfl⟩
        rw [← hx] at hsub
        obtain ⟨A', n', c', cl', hce, -⟩ := hsub.inv
        rw [hce] at hrow hsub
        have hmem : Nd.mk kd' st' l' mi' ma' ∈ l := by rw [hx]; exact List.getElem_mem hkl
        obtain ⟨y, hy⟩ : ∃ y, (Nd.mk kd' st' l' mi' ma').isT = y := ⟨_, rfl⟩
        have hst : (l.take (k + 1)).all Nd.isT = y := by
          rw [List.take_succ_eq_append_getElem hkl, List.all_append, hall.out, ← hx]
          simp [hy]
        have hno : y = false → V = false := fun h => by
          rw [← Hv.out, List.all_eq_false]
          exact ⟨_, hmem, by rw [hy, h]; decide⟩
        have hcall := fun W h => Ih.out _ hmem B W _ (hsub.keep (w' := W) h)
        rw [hy] at hcall
        have Hcall := Lib.hid hcall
        have Hst := Lib.hid hst
        have Hno := Lib.hid hno
        have hkb : k < 1099511628000 := by omega
        have c5 : wr.cell? ⟨w.heap.size, 5, none⟩ = some (.slice (some ⟨ba, off, none⟩) n c) := h2.cellv (i := 5) rfl
        clear hcall hst hno hy hx hce hsub hrows
        cases y
        · go_wp2_with (first | (refine wl_load_node_at rfl _ rfl _ _ rfl _ _ _ _ _ _ _ hrow ?_) | (go_at_call 40; refine (Hcall.out _ (fun j hj => hBw.block j (by omega)) (by have := hBw.size; omega)).mono ?_; rintro e w5 ⟨rfl, hB5⟩) | (go_at_call 40; refine park ?_))
          go_ret
          exact ⟨congrArg (fun v => Ending.returned (.bool v)) (Hno.out (by first | rfl | trivial)).symm, below_then hBw hB5⟩
        · go_wp2_with (first | (refine wl_load_node_at rfl _ rfl _ _ rfl _ _ _ _ _ _ _ hrow ?_) | (go_at_call 40; refine (Hcall.out _ (fun j hj => hBw.block j (by omega)) (by have := hBw.size; omega)).mono ?_; rintro e w5 ⟨rfl, hB5⟩) | (go_at_call 40; refine park ?_))
          exact ⟨⟨k + 1, by omega, rfl, Lib.hid Hst.out, below_then hBw hB5, blk_then h2 hB5⟩, by simp only [intOf]; omega⟩
      · have hkI : ¬ (k : Int) < n := by omega
        have hke : l.take k = l := List.take_of_length_le (by have := Hn.out; omega)
        have hv : V = true := by rw [← Hv.out, ← hall.out, hke]
        have HVt := Lib.hid hv
        clear hv hke
        have c5 : wr.cell? ⟨w.heap.size, 5, none⟩ = some (.slice A n c) := h2.cellv (i := 5) rfl
        go_wp2_with (fail)
        go_ret
        exact ⟨congrArg (fun v => Ending.returned (.bool v)) HVt.out.symm, hBw⟩
end Go.Proofs.Ytgahdookojbbiaa
