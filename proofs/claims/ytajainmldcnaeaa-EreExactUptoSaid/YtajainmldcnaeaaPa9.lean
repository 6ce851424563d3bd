/- Part 9 of a proof; packed: the texts that it was made of follow one another. No condition beyond those named in each lemma. -/
import Derived.Test.YtajainmldcnaeaaPa1
import Derived.Test.YtajainmldcnaeaaPa3
import Derived.Test.YtajainmldcnaeaaPa4
import Derived.Test.YtajainmldcnaeaaPa5
import Derived.Test.YtajainmldcnaeaaPa8
import Derived.JoinedCond
namespace Go.Proofs.Ytajainmldcnaeaa
open Go.RowKit Go.Maps
set_option linter.unusedVariables false
set_option linter.unusedSimpArgs false
attribute [local go_sem] Oper.semAt_some

theorem five_f {st : BSet} {n : Nat} {mi ma : Int} {z a1 a2 a3 a4 a5 a6 : Bool} (hz : decide (st = 0) = z) (g1 : (((n : Nat) : Int) != 1) = a1) (g2 : decide (mi < (0 : Int)) = a2) (g3 : decide ((255 : Int) < mi) = a3) (g4 : (ma != (-1 : Int)) = a4) (g5 : decide (ma < mi) = a5) (g6 : decide ((255 : Int) < ma) = a6) :
    (((((!z) || a1) || a2) || a3) || (a4 && (a5 || a6))) = !headOk 5 st n mi ma := by
  rw [headOk_5 hz, Bool.eq_iff_iff]
  subst g1 g2 g3 g4 g5 g6
  cases z
  · simp
  · simp only [Bool.and_eq_true, Bool.or_eq_true, bne_iff_ne, ne_eq, decide_eq_true_eq, Bool.not_eq_true', Bool.and_eq_false_iff, Bool.or_eq_false_iff, decide_eq_false_iff_not, Bool.not_true, Bool.false_eq_true, false_or, Bool.true_eq_false]
    omega
theorem leaf_T {k : Int} (h : k = 1 ∨ k = 6 ∨ k = 7 ∨ k = 2) {st : BSet} {n : Nat} {mi ma : Int} {l : List Nd} (hn : n = l.length) : (headOk k st n mi ma && l.all Nd.isT) = headOk k st n mi ma := by
  by_cases h0 : n = 0
  · have : l = [] := List.eq_nil_of_length_eq_zero (by omega)
    rw [this]; simp
  · have : headOk k st n mi ma = false := by
      by_cases k2 : k = 2
      · subst k2
        rw [headOk_2 rfl]; simp [h0]
      · rw [headOk_1 (by omega) rfl]; simp [h0]
    rw [this]; rfl
set_option maxRecDepth 100000 in
set_option maxHeartbeats 40000000 in
theorem ris_any (nd : Nd) : ∀ (B : Nat) (w : World) (cs : Array Value), NdIn w B nd cs → B ≤ w.heap.size →
    Calls Try.prog 45 #[.agg cs] w fun e w' => e = .returned (.bool nd.isT) ∧ Below w.heap.size w w' := by
  induction nd using Nd.ind with
  | h kd st l mi ma ih =>
  intro B w cs hin hB
  obtain ⟨A, n, c, cl, rfl, hn, hcl, hmax, hs, hr⟩ := hin.inv
  have hh : (Nd.mk kd st l mi ma).isT = (headOk kd st n mi ma && l.all Nd.isT) := by rw [hn]; simp only [Nd.isT, Nd.areT_all]
  obtain ⟨V, hV⟩ : ∃ V, (Nd.mk kd st l mi ma).isT = V := ⟨_, rfl⟩
  rw [hV]
  rw [hh] at hV
  have hleaf := fun h => (leaf_T (k := kd) (st := st) (mi := mi) (ma := ma) h hn).symm.trans hV
  have Hleaf := Lib.hid hleaf
  have HV := Lib.hid hV
  have Hn := Lib.hid hn
  have Hcl := Lib.hid hcl
  have Hr := Lib.hid hr
  have Ih := Lib.hid ih
  clear hn hcl hr ih hh hin hV hleaf
  go_enter Try.func45, Try.ntmps45
  have h1 := Blk.new w 27 (nodeC kd st A n c mi ma)
  have hB1 : Below w.heap.size w (w.alloc (.cells (nodeC kd st A n c mi ma) 27)) := below_alloc (Below.refl _ _) _
  go_upto_region 1 with (fail)
  obtain ⟨W1, hW1⟩ : ∃ y, y = w.alloc (.cells (nodeC kd st A n c mi ma) 27) := ⟨_, rfl⟩
  rw [← hW1] at h1 hB1 ⊢
  clear hW1
  obtain ⟨z, hz⟩ : ∃ z, decide (st = (0 : BSet)) = z := ⟨_, rfl⟩
  have Hz := Lib.hid hz
  clear hz
  obtain ⟨a1, g1⟩ : ∃ q, (mi == (0 : Int)) = q := ⟨_, rfl⟩
  obtain ⟨a2, g2⟩ : ∃ q, (ma == (0 : Int)) = q := ⟨_, rfl⟩
  obtain ⟨nn, hnn⟩ : ∃ q, ((z && a1) && a2) = q := ⟨_, rfl⟩
  refine wp_region_text 15 [eqS (.pointer (some ⟨w.heap.size, 1, none⟩)), eqS (.agg (setC st)), eqS (.agg (setC 0)), eqS (.bool z), eqS (.bool z), eqS (vF (true && (z == true)) (.pointer (some ⟨w.heap.size, 6, none⟩))), eqS (vF (true && (z == true)) (.int .i64 (mi))), eqS (vF (true && (z == true)) (.bool a1)), eqS (.bool (z && a1)), eqS (.bool (z && a1)), eqS (vF (true && ((z && a1) == true)) (.pointer (some ⟨w.heap.size, 7, none⟩))), eqS (vF (true && ((z && a1) == true)) (.int .i64 (ma))), eqS (vF (true && ((z && a1) == true)) (.bool a2)), eqS (.bool ((z && a1) && a2)), eqS (.bool ((z && a1) && a2))] [5, 6, 7, 8, 9, 10, 11, 12, 13, 14, 15, 16, 17, 18, 3] (by kernel_rfl) rfl ?_ ?_
  · skip
    refine Steps.cons (fun a' w' hG hB dep => gs_field (want_none rfl) _ _ _ rfl w.heap.size (0) (1) (hG.other 1 rfl) (fun wz => field_node_1 w.heap.size (0) wz) rfl) ?_
    refine Steps.cons (fun a' w' hG hB dep => gs_load_set_at (want_none rfl) _ rfl w.heap.size (1) (dep 0 rfl 5 rfl) _ (node_st (blk_then h1 hB)) rfl) ?_
    refine Steps.cons (fun a' w' hG hB dep => gs_build_set0 (want_none rfl) rfl rfl) ?_
    refine Steps.cons (fun a' w' hG hB dep => gs_eql_set (want_none rfl) _ _ _ rfl _ _ (dep 1 rfl 6 rfl) (dep 2 rfl 7 rfl) (id (congrArg Value.bool Hz.out))) ?_
    refine Steps.cons (fun a' w' hG hB dep => gs_move (want_none rfl) _ rfl (id (dep 3 rfl 8 rfl))) ?_
    refine Steps.cons (fun a' w' hG hB dep => gs_guard (c := true) (b' := z) rfl rfl (dep 4 rfl 9 rfl) (fun hc he hw => gs_field hw _ _ _ rfl w.heap.size (0) (6) (hG.other 1 rfl) (fun wz => field_node_3 w.heap.size (0) wz) (vF_yes (on_g hc he) _).symm) (fun hn => vF_no hn _)) ?_
    refine Steps.cons (fun a' w' hG hB dep => gs_guard (c := true) (b' := z) rfl rfl (dep 4 rfl 9 rfl) (fun hc he hw => gs_load1 hw _ _ rfl w.heap.size (6) (Eq.trans (dep 5 rfl 10 rfl) (vF_yes (on_g hc he) _)) (.int .i64 (mi)) ((blk_then h1 hB).cellv (i := 6) rfl) _ Try.underlying3 rfl (vF_yes (on_g hc he) _).symm) (fun hn => vF_no hn _)) ?_
    refine Steps.cons (fun a' w' hG hB dep => gs_guard (c := true) (b' := z) rfl rfl (dep 4 rfl 9 rfl) (fun hc he hw => gs_eql_int hw _ _ _ _ rfl _ _ _ (Eq.trans (dep 6 rfl 11 rfl) (vF_yes (on_g hc he) _)) rfl (Eq.trans (congrArg Value.bool g1) (vF_yes (on_g hc he) _).symm)) (fun hn => vF_no hn _)) ?_
    refine Steps.cons (fun a' w' hG hB dep => gs_pick (want_none rfl) _ _ _ rfl z (dep 4 rfl 9 rfl) (id (pick_and2 (c := true) rfl (dep 7 rfl 12 rfl)))) ?_
    refine Steps.cons (fun a' w' hG hB dep => gs_move (want_none rfl) _ rfl (id (dep 8 rfl 13 rfl))) ?_
    refine Steps.cons (fun a' w' hG hB dep => gs_guard (c := true) (b' := (z && a1)) rfl rfl (dep 9 rfl 14 rfl) (fun hc he hw => gs_field hw _ _ _ rfl w.heap.size (0) (7) (hG.other 1 rfl) (fun wz => field_node_4 w.heap.size (0) wz) (vF_yes (on_g hc he) _).symm) (fun hn => vF_no hn _)) ?_
    refine Steps.cons (fun a' w' hG hB dep => gs_guard (c := true) (b' := (z && a1)) rfl rfl (dep 9 rfl 14 rfl) (fun hc he hw => gs_load1 hw _ _ rfl w.heap.size (7) (Eq.trans (dep 10 rfl 15 rfl) (vF_yes (on_g hc he) _)) (.int .i64 (ma)) ((blk_then h1 hB).cellv (i := 7) rfl) _ Try.underlying3 rfl (vF_yes (on_g hc he) _).symm) (fun hn => vF_no hn _)) ?_
    refine Steps.cons (fun a' w' hG hB dep => gs_guard (c := true) (b' := (z && a1)) rfl rfl (dep 9 rfl 14 rfl) (fun hc he hw => gs_eql_int hw _ _ _ _ rfl _ _ _ (Eq.trans (dep 11 rfl 16 rfl) (vF_yes (on_g hc he) _)) rfl (Eq.trans (congrArg Value.bool g2) (vF_yes (on_g hc he) _).symm)) (fun hn => vF_no hn _)) ?_
    refine Steps.cons (fun a' w' hG hB dep => gs_pick (want_none rfl) _ _ _ rfl (z && a1) (dep 9 rfl 14 rfl) (id (pick_and2 (c := true) rfl (dep 12 rfl 17 rfl)))) ?_
    refine Steps.cons (fun a' w' hG hB dep => gs_assign (want_none rfl) _ rfl (id (dep 13 rfl 18 rfl))) ?_
    exact Steps.nil
  intro u w2 hB2 ans
  have hus : u 3 = .bool nn := (ans 14 3 (by decide) rfl).trans (congrArg Value.bool hnn)
  clear ans
  simp only [putAll, List.foldl_cons, List.foldl_nil, Act.put, List.setIfInBounds_toArray, List.set_cons_zero, List.set_cons_succ, hus]
  clear hus
  simp only [List.drop]
  refine wpList_nil ?_
  have Hnn : Hid (((z && decide (mi = 0)) && decide (ma = 0)) = nn) := Lib.hid (by rw [← hnn, ← g1, ← g2]; rfl)
  clear hnn g1 g2 a1 a2
  replace h1 := blk_then h1 hB2
  replace hB1 := below_then hB1 hB2
  clear hB2
  have hl1 := h1.lt
  have c0 : w2.cell? ⟨w.heap.size, 0, none⟩ = some (.int .i64 kd) := h1.cellv (i := 0) rfl
  have c5 : w2.cell? ⟨w.heap.size, 5, none⟩ = some (.slice A n c) := h1.cellv (i := 5) rfl
  have c6 : w2.cell? ⟨w.heap.size, 6, none⟩ = some (.int .i64 mi) := h1.cellv (i := 6) rfl
  have c7 : w2.cell? ⟨w.heap.size, 7, none⟩ = some (.int .i64 ma) := h1.cellv (i := 7) rfl
  go_upto_block 0 with (fail)
  go_cut [21] from 21 to 105 (fun _ wx => headOk kd st n mi ma = true ∧ Below w2.heap.size w2 wx)
  case first =>
    by_cases k167 : kd = 1 ∨ kd = 6 ∨ kd = 7
    · have hv := Hleaf.out (by omega)
      rw [headOk_1 k167 Hz.out, Hnn.out] at hv
      have Hv := Lib.hid hv
      clear hv
      rcases k167 with rfl | rfl | rfl
      · go_upto_region 7 with (fail)
        cases nn
        · go_wp2_with (fail)
          go_ret
          exact ⟨congrArg (fun v => Ending.returned (.bool v)) (by rw [← Hv.out]; rfl), hB1⟩
        · by_cases hn0 : n = 0
          · subst hn0
            go_wp2_with (fail)
            go_ret
            exact ⟨congrArg (fun v => Ending.returned (.bool v)) (by rw [← Hv.out]; rfl), hB1⟩
          · have hnI : ((n : Int) == 0) = false := by simpa using hn0
            go_wp2_with (fail)
            go_ret
            exact ⟨congrArg (fun v => Ending.returned (.bool v)) (by rw [← Hv.out, decide_eq_false hn0]; rfl), hB1⟩
      · go_upto_region 7 with (fail)
        cases nn
        · go_wp2_with (fail)
          go_ret
          exact ⟨congrArg (fun v => Ending.returned (.bool v)) (by rw [← Hv.out]; rfl), hB1⟩
        · by_cases hn0 : n = 0
          · subst hn0
            go_wp2_with (fail)
            go_ret
            exact ⟨congrArg (fun v => Ending.returned (.bool v)) (by rw [← Hv.out]; rfl), hB1⟩
          · have hnI : ((n : Int) == 0) = false := by simpa using hn0
            go_wp2_with (fail)
            go_ret
            exact ⟨congrArg (fun v => Ending.returned (.bool v)) (by rw [← Hv.out, decide_eq_false hn0]; rfl), hB1⟩
      · go_upto_region 7 with (fail)
        cases nn
        · go_wp2_with (fail)
          go_ret
          exact ⟨congrArg (fun v => Ending.returned (.bool v)) (by rw [← Hv.out]; rfl), hB1⟩
        · by_cases hn0 : n = 0
          · subst hn0
            go_wp2_with (fail)
            go_ret
            exact ⟨congrArg (fun v => Ending.returned (.bool v)) (by rw [← Hv.out]; rfl), hB1⟩
          · have hnI : ((n : Int) == 0) = false := by simpa using hn0
            go_wp2_with (fail)
            go_ret
            exact ⟨congrArg (fun v => Ending.returned (.bool v)) (by rw [← Hv.out, decide_eq_false hn0]; rfl), hB1⟩
    by_cases k2 : kd = 2
    · subst k2
      obtain ⟨q, hq⟩ : ∃ q, st.getLsbD 10 = q := ⟨_, rfl⟩
      have hv := Hleaf.out (by omega)
      rw [headOk_2 hq] at hv
      have Hv := Lib.hid hv
      have Hq := Lib.hid hq
      clear hv hq
      have cw : w2.cell? ⟨w.heap.size, 1, none⟩ = some (.int .u64 (word st 0)) := h1.cellv (i := 1) rfl
      go_upto_region 9 with (fail)
      have hbit : q = !decide ((word st 0 : Int) / 1024 % 2 = 0) := by
        rw [← Hq.out, word_bit (by omega), Nat.testBit_eq_decide_div_mod_eq, Bool.eq_iff_iff]
        simp only [decide_eq_true_eq, Bool.not_eq_true', decide_eq_false_iff_not]
        show word st 0 / 1024 % 2 = 1 ↔ _
        omega
      have Hbit := Lib.hid hbit
      clear hbit
      go_wp2_with (fail)
      all_goals
        go_ret
        exact ⟨congrArg (fun v => Ending.returned (.bool v)) (by rw [← Hv.out, Hbit.out]; first | (simp [*]; done) | (simp [*]; rw [Bool.eq_iff_iff]; simp only [beq_iff_eq, decide_eq_true_eq]; omega)), hB1⟩
    have hV0 : headOk kd st n mi ma = false → V = false := fun h => by rw [← HV.out, h]; rfl
    by_cases k34 : kd = 3 ∨ kd = 4
    · have hh := headOk_3 k34 Hz.out n mi ma
      rw [Hnn.out] at hh
      rw [hh] at hV0
      have Hh := Lib.hid hh
      have HV0 := Lib.hid hV0
      clear hh hV0
      rcases k34 with rfl | rfl
      · go_upto_region 12 with (fail)
        cases nn
        · go_wp2_with (fail)
          go_ret
          exact ⟨congrArg (fun v => Ending.returned (.bool v)) (HV0.out (by rfl)).symm, hB1⟩
        · by_cases hn2 : 2 ≤ n
          · have hnI : decide ((n : Int) < 2) = false := by simp; omega
            go_wp2_with (fail)
            go_meet
            exact ⟨by rw [Hh.out]; simp [hn2], Below.refl _ _⟩
          · have hnI : decide ((n : Int) < 2) = true := by simp; omega
            go_wp2_with (fail)
            go_ret
            exact ⟨congrArg (fun v => Ending.returned (.bool v)) (HV0.out (by simp [hn2])).symm, hB1⟩
      · go_upto_region 12 with (fail)
        cases nn
        · go_wp2_with (fail)
          go_ret
          exact ⟨congrArg (fun v => Ending.returned (.bool v)) (HV0.out (by rfl)).symm, hB1⟩
        · by_cases hn2 : 2 ≤ n
          · have hnI : decide ((n : Int) < 2) = false := by simp; omega
            go_wp2_with (fail)
            go_meet
            exact ⟨by rw [Hh.out]; simp [hn2], Below.refl _ _⟩
          · have hnI : decide ((n : Int) < 2) = true := by simp; omega
            go_wp2_with (fail)
            go_ret
            exact ⟨congrArg (fun v => Ending.returned (.bool v)) (HV0.out (by simp [hn2])).symm, hB1⟩
    by_cases k5 : kd = 5
    · subst k5
      go_upto_region 15 with (fail)
      have HV0 := Lib.hid hV0
      clear hV0
      obtain ⟨a1, g1⟩ : ∃ q, (((n : Nat) : Int) != 1) = q := ⟨_, rfl⟩
      obtain ⟨a2, g2⟩ : ∃ q, (decide (mi < (0 : Int))) = q := ⟨_, rfl⟩
      obtain ⟨a3, g3⟩ : ∃ q, (decide ((255 : Int) < mi)) = q := ⟨_, rfl⟩
      obtain ⟨a4, g4⟩ : ∃ q, (ma != (-1 : Int)) = q := ⟨_, rfl⟩
      obtain ⟨a5, g5⟩ : ∃ q, (decide (ma < mi)) = q := ⟨_, rfl⟩
      obtain ⟨a6, g6⟩ : ∃ q, (decide ((255 : Int) < ma)) = q := ⟨_, rfl⟩
      obtain ⟨y, hy⟩ : ∃ y, headOk 5 st n mi ma = y := ⟨_, rfl⟩
      have hfive : (((((!z) || a1) || a2) || a3) || (a4 && (a5 || a6))) = !y := (five_f Hz.out g1 g2 g3 g4 g5 g6).trans (congrArg (!·) hy)
      refine wp_region_text 37 [eqS (.pointer (some ⟨w.heap.size, 1, none⟩)), eqS (.agg (setC st)), eqS (.agg (setC 0)), eqS (.bool (!z)), eqS (.bool (!z)), eqS (vF (true && ((!z) == false)) (.pointer (some ⟨w.heap.size, 5, none⟩))), eqS (vF (true && ((!z) == false)) (.slice A n c)), eqS (vF (true && ((!z) == false)) (.int .i64 (((n : Nat) : Int)))), eqS (vF (true && ((!z) == false)) (.bool a1)), eqS (.bool ((!z) || a1)), eqS (.bool ((!z) || a1)), eqS (vF (true && (((!z) || a1) == false)) (.pointer (some ⟨w.heap.size, 6, none⟩))), eqS (vF (true && (((!z) || a1) == false)) (.int .i64 (mi))), eqS (vF (true && (((!z) || a1) == false)) (.bool a2)), eqS (.bool (((!z) || a1) || a2)), eqS (.bool (((!z) || a1) || a2)), eqS (vF (true && ((((!z) || a1) || a2) == false)) (.pointer (some ⟨w.heap.size, 6, none⟩))), eqS (vF (true && ((((!z) || a1) || a2) == false)) (.int .i64 (mi))), eqS (vF (true && ((((!z) || a1) || a2) == false)) (.bool a3)), eqS (.bool ((((!z) || a1) || a2) || a3)), eqS (.bool ((((!z) || a1) || a2) || a3)), eqS (vF (true && (((((!z) || a1) || a2) || a3) == false)) (.pointer (some ⟨w.heap.size, 7, none⟩))), eqS (vF (true && (((((!z) || a1) || a2) || a3) == false)) (.int .i64 (ma))), eqS (vF (true && (((((!z) || a1) || a2) || a3) == false)) (.bool a4)), eqS (vF (true && (((((!z) || a1) || a2) || a3) == false)) (.bool a4)), eqS (vF ((true && (((((!z) || a1) || a2) || a3) == false)) && (a4 == true)) (.pointer (some ⟨w.heap.size, 7, none⟩))), eqS (vF ((true && (((((!z) || a1) || a2) || a3) == false)) && (a4 == true)) (.int .i64 (ma))), eqS (vF ((true && (((((!z) || a1) || a2) || a3) == false)) && (a4 == true)) (.pointer (some ⟨w.heap.size, 6, none⟩))), eqS (vF ((true && (((((!z) || a1) || a2) || a3) == false)) && (a4 == true)) (.int .i64 (mi))), eqS (vF ((true && (((((!z) || a1) || a2) || a3) == false)) && (a4 == true)) (.bool a5)), eqS (vF ((true && (((((!z) || a1) || a2) || a3) == false)) && (a4 == true)) (.bool a5)), eqS (vF (((true && (((((!z) || a1) || a2) || a3) == false)) && (a4 == true)) && (a5 == false)) (.pointer (some ⟨w.heap.size, 7, none⟩))), eqS (vF (((true && (((((!z) || a1) || a2) || a3) == false)) && (a4 == true)) && (a5 == false)) (.int .i64 (ma))), eqS (vF (((true && (((((!z) || a1) || a2) || a3) == false)) && (a4 == true)) && (a5 == false)) (.bool a6)), eqS (vF ((true && (((((!z) || a1) || a2) || a3) == false)) && (a4 == true)) (.bool (a5 || a6))), eqS (vF (true && (((((!z) || a1) || a2) || a3) == false)) (.bool (a4 && (a5 || a6)))), eqS (.bool (((((!z) || a1) || a2) || a3) || (a4 && (a5 || a6))))] [69, 70, 71, 72, 73, 74, 75, 76, 77, 78, 79, 80, 81, 82, 83, 84, 85, 86, 87, 88, 89, 90, 91, 92, 93, 94, 95, 96, 97, 98, 99, 100, 101, 102, 103, 104, 105] (by kernel_rfl) rfl ?_ ?_
      · skip
        refine Steps.cons (fun a' w' hG hB dep => gs_field (want_none rfl) _ _ _ rfl w.heap.size (0) (1) (hG.other 1 rfl) (fun wz => field_node_1 w.heap.size (0) wz) rfl) ?_
        refine Steps.cons (fun a' w' hG hB dep => gs_load_set_at (want_none rfl) _ rfl w.heap.size (1) (dep 0 rfl 69 rfl) _ (node_st (blk_then h1 hB)) rfl) ?_
        refine Steps.cons (fun a' w' hG hB dep => gs_build_set0 (want_none rfl) rfl rfl) ?_
        refine Steps.cons (fun a' w' hG hB dep => gs_neq_set (want_none rfl) _ _ _ rfl _ _ (dep 1 rfl 70 rfl) (dep 2 rfl 71 rfl) (id (congrArg Value.bool (congrArg (!·) Hz.out)))) ?_
        refine Steps.cons (fun a' w' hG hB dep => gs_move (want_none rfl) _ rfl (id (dep 3 rfl 72 rfl))) ?_
        refine Steps.cons (fun a' w' hG hB dep => gs_guard (c := true) (b' := (!z)) rfl rfl (dep 4 rfl 73 rfl) (fun hc he hw => gs_field hw _ _ _ rfl w.heap.size (0) (5) (hG.other 1 rfl) (fun wz => field_node_2 w.heap.size (0) wz) (vF_yes (on_g hc he) _).symm) (fun hn => vF_no hn _)) ?_
        refine Steps.cons (fun a' w' hG hB dep => gs_guard (c := true) (b' := (!z)) rfl rfl (dep 4 rfl 73 rfl) (fun hc he hw => gs_load1 hw _ _ rfl w.heap.size (5) (Eq.trans (dep 5 rfl 74 rfl) (vF_yes (on_g hc he) _)) (.slice A n c) ((blk_then h1 hB).cellv (i := 5) rfl) _ Try.underlying25 rfl (vF_yes (on_g hc he) _).symm) (fun hn => vF_no hn _)) ?_
        refine Steps.cons (fun a' w' hG hB dep => gs_guard (c := true) (b' := (!z)) rfl rfl (dep 4 rfl 73 rfl) (fun hc he hw => gs_len hw _ _ rfl under_nodes _ n c (Eq.trans (dep 6 rfl 75 rfl) (vF_yes (on_g hc he) _)) (vF_yes (on_g hc he) _).symm) (fun hn => vF_no hn _)) ?_
        refine Steps.cons (fun a' w' hG hB dep => gs_guard (c := true) (b' := (!z)) rfl rfl (dep 4 rfl 73 rfl) (fun hc he hw => gs_neq_int hw _ _ _ _ rfl _ _ _ (Eq.trans (dep 7 rfl 76 rfl) (vF_yes (on_g hc he) _)) rfl (Eq.trans (congrArg Value.bool g1) (vF_yes (on_g hc he) _).symm)) (fun hn => vF_no hn _)) ?_
        refine Steps.cons (fun a' w' hG hB dep => gs_pick (want_none rfl) _ _ _ rfl (!z) (dep 4 rfl 73 rfl) (id (pick_or2 (c := true) rfl (dep 8 rfl 77 rfl)))) ?_
        refine Steps.cons (fun a' w' hG hB dep => gs_move (want_none rfl) _ rfl (id (dep 9 rfl 78 rfl))) ?_
        refine Steps.cons (fun a' w' hG hB dep => gs_guard (c := true) (b' := ((!z) || a1)) rfl rfl (dep 10 rfl 79 rfl) (fun hc he hw => gs_field hw _ _ _ rfl w.heap.size (0) (6) (hG.other 1 rfl) (fun wz => field_node_3 w.heap.size (0) wz) (vF_yes (on_g hc he) _).symm) (fun hn => vF_no hn _)) ?_
        refine Steps.cons (fun a' w' hG hB dep => gs_guard (c := true) (b' := ((!z) || a1)) rfl rfl (dep 10 rfl 79 rfl) (fun hc he hw => gs_load1 hw _ _ rfl w.heap.size (6) (Eq.trans (dep 11 rfl 80 rfl) (vF_yes (on_g hc he) _)) (.int .i64 (mi)) ((blk_then h1 hB).cellv (i := 6) rfl) _ Try.underlying3 rfl (vF_yes (on_g hc he) _).symm) (fun hn => vF_no hn _)) ?_
        refine Steps.cons (fun a' w' hG hB dep => gs_guard (c := true) (b' := ((!z) || a1)) rfl rfl (dep 10 rfl 79 rfl) (fun hc he hw => gs_lss_int hw _ _ _ _ rfl _ _ _ (Eq.trans (dep 12 rfl 81 rfl) (vF_yes (on_g hc he) _)) rfl (Eq.trans (congrArg Value.bool g2) (vF_yes (on_g hc he) _).symm)) (fun hn => vF_no hn _)) ?_
        refine Steps.cons (fun a' w' hG hB dep => gs_pick (want_none rfl) _ _ _ rfl ((!z) || a1) (dep 10 rfl 79 rfl) (id (pick_or2 (c := true) rfl (dep 13 rfl 82 rfl)))) ?_
        refine Steps.cons (fun a' w' hG hB dep => gs_move (want_none rfl) _ rfl (id (dep 14 rfl 83 rfl))) ?_
        refine Steps.cons (fun a' w' hG hB dep => gs_guard (c := true) (b' := (((!z) || a1) || a2)) rfl rfl (dep 15 rfl 84 rfl) (fun hc he hw => gs_field hw _ _ _ rfl w.heap.size (0) (6) (hG.other 1 rfl) (fun wz => field_node_3 w.heap.size (0) wz) (vF_yes (on_g hc he) _).symm) (fun hn => vF_no hn _)) ?_
        refine Steps.cons (fun a' w' hG hB dep => gs_guard (c := true) (b' := (((!z) || a1) || a2)) rfl rfl (dep 15 rfl 84 rfl) (fun hc he hw => gs_load1 hw _ _ rfl w.heap.size (6) (Eq.trans (dep 16 rfl 85 rfl) (vF_yes (on_g hc he) _)) (.int .i64 (mi)) ((blk_then h1 hB).cellv (i := 6) rfl) _ Try.underlying3 rfl (vF_yes (on_g hc he) _).symm) (fun hn => vF_no hn _)) ?_
        refine Steps.cons (fun a' w' hG hB dep => gs_guard (c := true) (b' := (((!z) || a1) || a2)) rfl rfl (dep 15 rfl 84 rfl) (fun hc he hw => gs_gtr_int hw _ _ _ _ rfl _ _ _ (Eq.trans (dep 17 rfl 86 rfl) (vF_yes (on_g hc he) _)) rfl (Eq.trans (congrArg Value.bool g3) (vF_yes (on_g hc he) _).symm)) (fun hn => vF_no hn _)) ?_
        refine Steps.cons (fun a' w' hG hB dep => gs_pick (want_none rfl) _ _ _ rfl (((!z) || a1) || a2) (dep 15 rfl 84 rfl) (id (pick_or2 (c := true) rfl (dep 18 rfl 87 rfl)))) ?_
        refine Steps.cons (fun a' w' hG hB dep => gs_move (want_none rfl) _ rfl (id (dep 19 rfl 88 rfl))) ?_
        refine Steps.cons (fun a' w' hG hB dep => gs_guard (c := true) (b' := ((((!z) || a1) || a2) || a3)) rfl rfl (dep 20 rfl 89 rfl) (fun hc he hw => gs_field hw _ _ _ rfl w.heap.size (0) (7) (hG.other 1 rfl) (fun wz => field_node_4 w.heap.size (0) wz) (vF_yes (on_g hc he) _).symm) (fun hn => vF_no hn _)) ?_
        refine Steps.cons (fun a' w' hG hB dep => gs_guard (c := true) (b' := ((((!z) || a1) || a2) || a3)) rfl rfl (dep 20 rfl 89 rfl) (fun hc he hw => gs_load1 hw _ _ rfl w.heap.size (7) (Eq.trans (dep 21 rfl 90 rfl) (vF_yes (on_g hc he) _)) (.int .i64 (ma)) ((blk_then h1 hB).cellv (i := 7) rfl) _ Try.underlying3 rfl (vF_yes (on_g hc he) _).symm) (fun hn => vF_no hn _)) ?_
        refine Steps.cons (fun a' w' hG hB dep => gs_guard (c := true) (b' := ((((!z) || a1) || a2) || a3)) rfl rfl (dep 20 rfl 89 rfl) (fun hc he hw => gs_neq_int hw _ _ _ _ rfl _ _ _ (Eq.trans (dep 22 rfl 91 rfl) (vF_yes (on_g hc he) _)) rfl (Eq.trans (congrArg Value.bool g4) (vF_yes (on_g hc he) _).symm)) (fun hn => vF_no hn _)) ?_
        refine Steps.cons (fun a' w' hG hB dep => gs_guard (c := true) (b' := ((((!z) || a1) || a2) || a3)) rfl rfl (dep 20 rfl 89 rfl) (fun hc he hw => gs_move hw _ rfl (Eq.trans (Eq.trans (dep 23 rfl 92 rfl) (vF_yes (on_g hc he) _)) (vF_yes (on_g hc he) _).symm)) (fun hn => vF_no hn _)) ?_
        refine Steps.cons (fun a' w' hG hB dep => gs_guard (c := (true && (((((!z) || a1) || a2) || a3) == false))) (b' := a4) rfl rfl (dep 24 rfl 93 rfl) (fun hc he hw => gs_field hw _ _ _ rfl w.heap.size (0) (7) (hG.other 1 rfl) (fun wz => field_node_4 w.heap.size (0) wz) (vF_yes (on_g hc he) _).symm) (fun hn => vF_no hn _)) ?_
        refine Steps.cons (fun a' w' hG hB dep => gs_guard (c := (true && (((((!z) || a1) || a2) || a3) == false))) (b' := a4) rfl rfl (dep 24 rfl 93 rfl) (fun hc he hw => gs_load1 hw _ _ rfl w.heap.size (7) (Eq.trans (dep 25 rfl 94 rfl) (vF_yes (on_g hc he) _)) (.int .i64 (ma)) ((blk_then h1 hB).cellv (i := 7) rfl) _ Try.underlying3 rfl (vF_yes (on_g hc he) _).symm) (fun hn => vF_no hn _)) ?_
        refine Steps.cons (fun a' w' hG hB dep => gs_guard (c := (true && (((((!z) || a1) || a2) || a3) == false))) (b' := a4) rfl rfl (dep 24 rfl 93 rfl) (fun hc he hw => gs_field hw _ _ _ rfl w.heap.size (0) (6) (hG.other 1 rfl) (fun wz => field_node_3 w.heap.size (0) wz) (vF_yes (on_g hc he) _).symm) (fun hn => vF_no hn _)) ?_
        refine Steps.cons (fun a' w' hG hB dep => gs_guard (c := (true && (((((!z) || a1) || a2) || a3) == false))) (b' := a4) rfl rfl (dep 24 rfl 93 rfl) (fun hc he hw => gs_load1 hw _ _ rfl w.heap.size (6) (Eq.trans (dep 27 rfl 96 rfl) (vF_yes (on_g hc he) _)) (.int .i64 (mi)) ((blk_then h1 hB).cellv (i := 6) rfl) _ Try.underlying3 rfl (vF_yes (on_g hc he) _).symm) (fun hn => vF_no hn _)) ?_
        refine Steps.cons (fun a' w' hG hB dep => gs_guard (c := (true && (((((!z) || a1) || a2) || a3) == false))) (b' := a4) rfl rfl (dep 24 rfl 93 rfl) (fun hc he hw => gs_lss_int hw _ _ _ _ rfl _ _ _ (Eq.trans (dep 26 rfl 95 rfl) (vF_yes (on_g hc he) _)) (Eq.trans (dep 28 rfl 97 rfl) (vF_yes (on_g hc he) _)) (Eq.trans (congrArg Value.bool g5) (vF_yes (on_g hc he) _).symm)) (fun hn => vF_no hn _)) ?_
        refine Steps.cons (fun a' w' hG hB dep => gs_guard (c := (true && (((((!z) || a1) || a2) || a3) == false))) (b' := a4) rfl rfl (dep 24 rfl 93 rfl) (fun hc he hw => gs_move hw _ rfl (Eq.trans (Eq.trans (dep 29 rfl 98 rfl) (vF_yes (on_g hc he) _)) (vF_yes (on_g hc he) _).symm)) (fun hn => vF_no hn _)) ?_
        refine Steps.cons (fun a' w' hG hB dep => gs_guard (c := ((true && (((((!z) || a1) || a2) || a3) == false)) && (a4 == true))) (b' := a5) rfl rfl (dep 30 rfl 99 rfl) (fun hc he hw => gs_field hw _ _ _ rfl w.heap.size (0) (7) (hG.other 1 rfl) (fun wz => field_node_4 w.heap.size (0) wz) (vF_yes (on_g hc he) _).symm) (fun hn => vF_no hn _)) ?_
        refine Steps.cons (fun a' w' hG hB dep => gs_guard (c := ((true && (((((!z) || a1) || a2) || a3) == false)) && (a4 == true))) (b' := a5) rfl rfl (dep 30 rfl 99 rfl) (fun hc he hw => gs_load1 hw _ _ rfl w.heap.size (7) (Eq.trans (dep 31 rfl 100 rfl) (vF_yes (on_g hc he) _)) (.int .i64 (ma)) ((blk_then h1 hB).cellv (i := 7) rfl) _ Try.underlying3 rfl (vF_yes (on_g hc he) _).symm) (fun hn => vF_no hn _)) ?_
        refine Steps.cons (fun a' w' hG hB dep => gs_guard (c := ((true && (((((!z) || a1) || a2) || a3) == false)) && (a4 == true))) (b' := a5) rfl rfl (dep 30 rfl 99 rfl) (fun hc he hw => gs_gtr_int hw _ _ _ _ rfl _ _ _ (Eq.trans (dep 32 rfl 101 rfl) (vF_yes (on_g hc he) _)) rfl (Eq.trans (congrArg Value.bool g6) (vF_yes (on_g hc he) _).symm)) (fun hn => vF_no hn _)) ?_
        refine Steps.cons (fun a' w' hG hB dep => gs_guard (c := (true && (((((!z) || a1) || a2) || a3) == false))) (b' := a4) rfl rfl (dep 24 rfl 93 rfl) (fun hc he hw => gs_pick hw _ _ _ rfl a5 (Eq.trans (dep 30 rfl 99 rfl) (vF_yes (on_g hc he) _)) (Eq.trans (pick_or2 (c := ((true && (((((!z) || a1) || a2) || a3) == false)) && (a4 == true))) (on_g hc he) (dep 33 rfl 102 rfl)) (vF_yes (on_g hc he) _).symm)) (fun hn => vF_no hn _)) ?_
        refine Steps.cons (fun a' w' hG hB dep => gs_guard (c := true) (b' := ((((!z) || a1) || a2) || a3)) rfl rfl (dep 20 rfl 89 rfl) (fun hc he hw => gs_pick hw _ _ _ rfl a4 (Eq.trans (dep 24 rfl 93 rfl) (vF_yes (on_g hc he) _)) (Eq.trans (pick_and2 (c := (true && (((((!z) || a1) || a2) || a3) == false))) (on_g hc he) (dep 34 rfl 103 rfl)) (vF_yes (on_g hc he) _).symm)) (fun hn => vF_no hn _)) ?_
        refine Steps.cons (fun a' w' hG hB dep => gs_pick (want_none rfl) _ _ _ rfl ((((!z) || a1) || a2) || a3) (dep 20 rfl 89 rfl) (id (pick_or2 (c := true) rfl (dep 35 rfl 104 rfl)))) ?_
        exact Steps.nil
      intro u w2 hB2 ans
      have hus : u 105 = .bool (!y) := (ans 36 105 (by decide) rfl).trans (congrArg Value.bool hfive)
      clear ans
      simp only [putAll, List.foldl_cons, List.foldl_nil, Act.put, List.setIfInBounds_toArray, List.set_cons_zero, List.set_cons_succ, hus]
      clear hus
      simp only [List.drop]
      refine wpList_nil ?_
      clear hfive g1 g2 g3 g4 g5 g6
      have Hy := Lib.hid hy
      clear hy
      cases y
      · go_wp2_with (fail)
        go_ret
        exact ⟨congrArg (fun v => Ending.returned (.bool v)) (HV0.out Hy.out).symm, below_then hB1 hB2⟩
      · go_wp2_with (fail)
        go_meet
        exact ⟨Hy.out, hB2⟩
    have e1 : (kd == 1) = false := by simp; omega
    have e2 : (kd == 2) = false := by simp; omega
    have e3 : (kd == 3) = false := by simp; omega
    have e4 : (kd == 4) = false := by simp; omega
    have e5 : (kd == 5) = false := by simp; omega
    have e6 : (kd == 6) = false := by simp; omega
    have e7 : (kd == 7) = false := by simp; omega
    have hv := hV0 (by unfold headOk; rw [if_neg k167, if_neg k2, if_neg k34, if_neg k5])
    have Hv := Lib.hid hv
    clear hv hV0
    go_wp2_with (fail)
    go_ret
    exact ⟨congrArg (fun v => Ending.returned (.bool v)) Hv.out.symm, hB1⟩
  case rest =>
    obtain ⟨hh, hBc⟩ := hcut
    have hv : l.all Nd.isT = V := by rw [← HV.out, hh]; rfl
    have h2 := blk_then h1 hBc
    have hB2 := below_then hB1 hBc
    have Hv := Lib.hid hv
    clear hv hh h1 hB1 hl1 c0 c5 c6 c7 hBc Hz Hnn HV Hleaf
    go_wp2_with (fail)
    go_loopw [4] (fun i wr => ∃ k : Nat, k ≤ n ∧ i = .int .i64 k ∧ Hid ((l.take k).all Nd.isT = true) ∧ Below w.heap.size w wr ∧ Blk wr w.heap.size 27 (nodeC kd st A n c mi ma)) (fun i _ => n - (intOf i).toNat)
    case atStart => exact ⟨0, by omega, rfl, Lib.hid rfl, hB2, h2⟩
    case round =>
      clear hB2 h2
      obtain ⟨k, hk, rfl, hall, hBw, h2⟩ := hrel
      by_cases hkn : k < n
      · have hkI : (k : Int) < n := by omega
        have hkl : k < l.length := by rw [← Hn.out]; exact hkn
        have hkc : k < cl.length := by rw [Hcl.out]; exact hkl
        obtain ⟨ba, off, rfl, hba, hrows⟩ := hs.at_ (by omega)
        have hrow := (hrows k hkc).keep (hBw.block ba (by omega))
        have hsub := Hr.out k hkl hkc
        obtain ⟨⟨kd', st', l', mi', ma'⟩, hx⟩ : ∃ x, x = l[k] := ⟨_, rfl⟩
        rw [← hx] at hsub
        obtain ⟨A', n', c', cl', hce, -⟩ := hsub.inv
        rw [hce] at hrow hsub
        have hmem : Nd.mk kd' st' l' mi' ma' ∈ l := by rw [hx]; exact List.getElem_mem hkl
        obtain ⟨y, hy⟩ : ∃ y, (Nd.mk kd' st' l' mi' ma').isT = y := ⟨_, rfl⟩
        have hst : (l.take (k + 1)).all Nd.isT = y := by
          rw [List.take_succ_eq_append_getElem hkl, List.all_append, hall.out, ← hx]
          simp [hy]
        have hno : y = false → V = false := fun h => by
          rw [← Hv.out, List.all_eq_false]
          exact ⟨_, hmem, by rw [hy, h]; decide⟩
        have hcall := fun W h => Ih.out _ hmem B W _ (hsub.keep (w' := W) h)
        rw [hy] at hcall
        have Hcall := Lib.hid hcall
        have Hst := Lib.hid hst
        have Hno := Lib.hid hno
        have hkb : k < 1099511628000 := by omega
        have c5 : wr.cell? ⟨w.heap.size, 5, none⟩ = some (.slice (some ⟨ba, off, none⟩) n c) := h2.cellv (i := 5) rfl
        clear hcall hst hno hy hx hce hsub hrows
        cases y
        · go_wp2_with (first | (refine wl_load_node_at rfl _ rfl _ _ rfl _ _ _ _ _ _ _ hrow ?_) | (go_at_call 45; refine (Hcall.out _ (fun j hj => hBw.block j (by omega)) (by have := hBw.size; omega)).mono ?_; rintro e w5 ⟨rfl, hB5⟩) | (go_at_call 45; refine park ?_))
          go_ret
          exact ⟨congrArg (fun v => Ending.returned (.bool v)) (Hno.out (by first | rfl | trivial)).symm, below_then hBw hB5⟩
        · go_wp2_with (first | (refine wl_load_node_at rfl _ rfl _ _ rfl _ _ _ _ _ _ _ hrow ?_) | (go_at_call 45; refine (Hcall.out _ (fun j hj => hBw.block j (by omega)) (by have := hBw.size; omega)).mono ?_; rintro e w5 ⟨rfl, hB5⟩) | (go_at_call 45; refine park ?_))
          exact ⟨⟨k + 1, by omega, rfl, Lib.hid Hst.out, below_then hBw hB5, blk_then h2 hB5⟩, by simp only [intOf]; omega⟩
      · have hkI : ¬ (k : Int) < n := by omega
        have hke : l.take k = l := List.take_of_length_le (by have := Hn.out; omega)
        have hv : V = true := by rw [← Hv.out, ← hall.out, hke]
        have HVt := Lib.hid hv
        clear hv hke
        have c5 : wr.cell? ⟨w.heap.size, 5, none⟩ = some (.slice A n c) := h2.cellv (i := 5) rfl
        go_wp2_with (fail)
        go_ret
        exact ⟨congrArg (fun v => Ending.returned (.bool v)) HVt.out.symm, hBw⟩
end Go.Proofs.Ytajainmldcnaeaa
namespace Go.Proofs.Ytajainmldcnaeaa
open Go.RowKit Go.Maps
set_option linter.unusedVariables false
set_option linter.unusedSimpArgs false
attribute [local go_sem] Oper.semAt_some

set_option maxRecDepth 100000 in
set_option maxHeartbeats 40000000 in
theorem count_any (nd : Nd) : nd.isT = true → ∀ (B : Nat) (w : World) (cs : Array Value), NdIn w B nd cs → B ≤ w.heap.size →
    Calls Try.prog 46 #[.agg cs] w fun e w' => e = .returned (.int .i64 ((min nd.U 4096 : Nat) : Int)) ∧ Below w.heap.size w w' := by
  induction nd using Nd.ind with
  | h kd st l mi ma ih =>
  intro hT B w cs hin hB
  obtain ⟨A, n, c, cl, rfl, hn, hcl, hmax, hs, hr⟩ := hin.inv
  simp only [Nd.isT, Bool.and_eq_true, Nd.areT_all, List.all_eq_true] at hT
  obtain ⟨hh, hl⟩ := hT
  obtain ⟨V, hV⟩ : ∃ V, min (Nd.mk kd st l mi ma).U 4096 = V := ⟨_, rfl⟩
  rw [hV]
  have Hn := Lib.hid hn
  have Hcl := Lib.hid hcl
  have Hr := Lib.hid hr
  have Ih := Lib.hid ih
  have Hl := Lib.hid hl
  have Hh := Lib.hid hh
  have HV := Lib.hid hV
  clear hn hcl hr ih hh hin hl hV
  go_enter Try.func46, Try.ntmps46
  have h1 := Blk.new w 27 (nodeC kd st A n c mi ma)
  have hB1 : Below w.heap.size w (w.alloc (.cells (nodeC kd st A n c mi ma) 27)) := below_alloc (Below.refl _ _) _
  go_upto_region 1 with (fail)
  obtain ⟨W1, hW1⟩ : ∃ y, y = w.alloc (.cells (nodeC kd st A n c mi ma) 27) := ⟨_, rfl⟩
  rw [← hW1] at h1 hB1 ⊢
  clear hW1
  go_wp2_with (fail)
  go_loopw [3, 4] (fun v i wr => ∃ k m : Nat, k ≤ n ∧ i = .int .i64 k ∧ v = .int .i64 m ∧ m = min (Nd.Us (l.take k)) 4096 ∧ Below w.heap.size w wr ∧ Blk wr w.heap.size 27 (nodeC kd st A n c mi ma)) (fun _ i _ => n - (intOf i).toNat)
  case atStart => exact ⟨0, 0, by omega, rfl, rfl, rfl, hB1, h1⟩
  case round =>
    clear h1 hB1
    obtain ⟨k, m, hk, rfl, rfl, hm, hBw, h1⟩ := hrel
    have hmb : m ≤ 4096 := by omega
    by_cases hkn : k < n
    · have hkI : (k : Int) < n := by omega
      have hkl : k < l.length := by rw [← Hn.out]; exact hkn
      have hkc : k < cl.length := by rw [Hcl.out]; exact hkl
      obtain ⟨ba, off, rfl, hba, hrows⟩ := hs.at_ (by omega)
      have hrow := (hrows k hkc).keep (hBw.block ba (by omega))
      have hsub := Hr.out k hkl hkc
      have hmem : l[k] ∈ l := List.getElem_mem hkl
      have hUs := Nd.Us_step l k hkl
      have hT := Hl.out _ hmem
      obtain ⟨⟨kd', st', l', mi', ma'⟩, hx⟩ : ∃ x, x = l[k] := ⟨_, rfl⟩
      rw [← hx] at hsub hUs hmem hT
      obtain ⟨A', n', c', cl', hce, -⟩ := hsub.inv
      rw [hce] at hrow hsub
      obtain ⟨q, hq⟩ : ∃ q, min (Nd.mk kd' st' l' mi' ma').U 4096 = q := ⟨_, rfl⟩
      have hm2 : min (m + q) 4096 = min (Nd.Us (l.take (k + 1))) 4096 := by rw [hUs]; omega
      have hqb : q ≤ 4096 := by omega
      have hcall := fun W h => Ih.out _ hmem hT B W _ (hsub.keep (w' := W) h)
      rw [hq] at hcall
      have Hcall := Lib.hid hcall
      have Hm2 := Lib.hid hm2
      have c5 : wr.cell? ⟨w.heap.size, 5, none⟩ = some (.slice (some ⟨ba, off, none⟩) n c) := h1.cellv (i := 5) rfl
      clear hcall hm2 hq hx hce hsub hUs hm hT hmem hrows
      have hkb : k < 1099511628000 := by omega
      go_wp2_with (first | (refine wl_load_node_at rfl _ rfl _ _ rfl _ _ _ _ _ _ _ hrow ?_) | (go_at_call 46; refine (Hcall.out _ (fun j hj => hBw.block j (by omega)) (by have := hBw.size; omega)).mono ?_; rintro e w5 ⟨rfl, hB5⟩) | (go_at_call 46; refine park ?_))
      all_goals exact ⟨⟨k + 1, min (m + q) 4096, by omega, rfl, congrArg (Value.int .i64) (by omega), Hm2.out, below_then hBw hB5, blk_then h1 hB5⟩, by simp only [intOf]; omega⟩
    · have hkI : ¬ (k : Int) < n := by omega
      have hke : l.take k = l := List.take_of_length_le (by have := Hn.out; omega)
      rw [hke] at hm
      have Hm := Lib.hid hm
      have c0 : wr.cell? ⟨w.heap.size, 0, none⟩ = some (.int .i64 kd) := h1.cellv (i := 0) rfl
      have c5 : wr.cell? ⟨w.heap.size, 5, none⟩ = some (.slice A n c) := h1.cellv (i := 5) rfl
      have c6 : wr.cell? ⟨w.heap.size, 6, none⟩ = some (.int .i64 mi) := h1.cellv (i := 6) rfl
      have c7 : wr.cell? ⟨w.heap.size, 7, none⟩ = some (.int .i64 ma) := h1.cellv (i := 7) rfl
      clear hm hke
      by_cases k267 : kd = 2 ∨ kd = 6 ∨ kd = 7
      · have hU : (Nd.mk kd st l mi ma).U = 1 := by simp only [Nd.U]; rw [if_pos k267]
        have hv := HV.out
        rw [hU] at hv
        replace HV := Lib.hid hv
        clear hv hU
        rcases k267 with rfl | rfl | rfl
        · go_wp2_with (fail)
          go_ret
          exact ⟨congrArg (fun v => Ending.returned (.int .i64 v)) (by have := HV.out; omega), hBw⟩
        · go_wp2_with (fail)
          go_ret
          exact ⟨congrArg (fun v => Ending.returned (.int .i64 v)) (by have := HV.out; omega), hBw⟩
        · go_wp2_with (fail)
          go_ret
          exact ⟨congrArg (fun v => Ending.returned (.int .i64 v)) (by have := HV.out; omega), hBw⟩
      by_cases k1 : kd = 1
      · subst k1
        have hl0 : l = [] := by
          have h := Hh.out
          rw [headOk_1 (by omega) rfl] at h
          simp only [Bool.and_eq_true, decide_eq_true_eq] at h
          exact List.eq_nil_of_length_eq_zero h.2
        have hU : (Nd.mk 1 st l mi ma).U = Nd.Us l := by rw [hl0]; simp [Nd.U, Nd.Us]
        have hv := HV.out
        rw [hU] at hv
        replace HV := Lib.hid hv
        clear hv hU hl0
        go_wp2_with (fail)
        all_goals
          go_ret
          exact ⟨congrArg (fun v => Ending.returned (.int .i64 v)) (by have := HV.out; have := Hm.out; omega), hBw⟩
      by_cases k3 : kd = 3
      · subst k3
        have hU : (Nd.mk 3 st l mi ma).U = Nd.Us l := by simp [Nd.U]
        have hv := HV.out
        rw [hU] at hv
        replace HV := Lib.hid hv
        clear hv hU
        go_wp2_with (fail)
        all_goals
          go_ret
          exact ⟨congrArg (fun v => Ending.returned (.int .i64 v)) (by have := HV.out; have := Hm.out; omega), hBw⟩
      by_cases k4 : kd = 4
      · subst k4
        have hU : (Nd.mk 4 st l mi ma).U = n + 1 + Nd.Us l := by simp [Nd.U, Hn.out]
        have hv := HV.out
        rw [hU] at hv
        replace HV := Lib.hid hv
        clear hv hU
        go_wp2_with (fail)
        all_goals
          go_ret
          exact ⟨congrArg (fun v => Ending.returned (.int .i64 v)) (by have := HV.out; have := Hm.out; omega), hBw⟩
      by_cases k5 : kd = 5
      · subst k5
        obtain ⟨_, hn1, hmi0, hmi1, hma⟩ := headOk_times Hh.out
        have hU : (Nd.mk 5 st l mi ma).U = tU (Nd.Us l) mi ma := by simp [Nd.U]
        have hv := HV.out
        have hm := Hm.out
        rw [hU, ← tU_cap 4096 _ _ _ (by omega), ← hm] at hv
        replace HV := Lib.hid hv
        clear hv hU hm Hm
        by_cases hq0 : m = 0
        · subst hq0
          have hV0 : V = 0 := by rw [← HV.out]; simp [tU]
          replace HV := Lib.hid hV0
          clear hV0
          go_wp2_with (fail)
          all_goals
            go_ret
            exact ⟨congrArg (fun v => Ending.returned (.int .i64 v)) (by have := HV.out; omega), hBw⟩
        · have hq0I : ((m : Int) == 0) = false := by simpa using hq0
          have hti := tU_int (ma := ma) hmi0 hq0
          obtain ⟨b1, b2⟩ := mul_bound (q := m) hmi0 (by omega) (by omega)
          by_cases hm1 : ma = -1
          · subst hm1
            rw [if_pos rfl] at hti
            have Hti := Lib.hid hti
            clear hti
            go_wp2_with (fail)
            all_goals
              go_ret
              exact ⟨congrArg (fun v => Ending.returned (.int .i64 v)) (by have := HV.out; have := Hti.out; omega), hBw⟩
          · have hm1b : (ma == -1) = false := by simpa using hm1
            rw [if_neg hm1] at hti
            by_cases hm2 : mi < ma
            · rw [if_pos hm2] at hti
              have Hti := Lib.hid hti
              clear hti
              have hm2b : decide (mi < ma) = true := by simpa using hm2
              obtain ⟨b3, b4⟩ := mul_bound (q := m) (a := ma - mi) (by omega) (by omega) (by omega)
              go_wp2_with (fail)
              all_goals
                go_ret
                exact ⟨congrArg (fun v => Ending.returned (.int .i64 v)) (by have := HV.out; have := Hti.out; omega), hBw⟩
            · rw [if_neg hm2] at hti
              have Hti := Lib.hid hti
              clear hti
              have hm2b : decide (mi < ma) = false := by simpa using hm2
              go_wp2_with (fail)
              all_goals
                go_ret
                exact ⟨congrArg (fun v => Ending.returned (.int .i64 v)) (by have := HV.out; have := Hti.out; omega), hBw⟩
      exfalso
      have := Hh.out
      unfold headOk at this
      rw [if_neg (by omega), if_neg (by omega), if_neg (by omega), if_neg k5] at this
      cases this
set_option maxRecDepth 100000 in
set_option maxHeartbeats 4000000 in
theorem placesR_any (nd : Nd) (B : Nat) (w : World) (cs : Array Value) (hin : NdIn w B nd cs) (hB : B ≤ w.heap.size) :
    Calls Try.prog 17 #[.agg cs] w fun e w' => e = .returned (.int .i64 (placesN nd : Int)) ∧ Below w.heap.size w w' := by
  obtain ⟨kd, st, l, mi, ma⟩ := nd
  obtain ⟨A, n, c, cl, rfl, -⟩ := hin.inv
  have hi := fun W h1 h2 => ris_any (Nd.mk kd st l mi ma) B W _ (NdIn.keep (w' := W) h1 hin) h2
  have hp := fun hT W h1 h2 => count_any (Nd.mk kd st l mi ma) hT B W _ (NdIn.keep (w' := W) h1 hin) h2
  obtain ⟨t, ht⟩ : ∃ t, (Nd.mk kd st l mi ma).isT = t := ⟨_, rfl⟩
  obtain ⟨V, hV⟩ : ∃ V, placesN (Nd.mk kd st l mi ma) = V := ⟨_, rfl⟩
  obtain ⟨q, hq⟩ : ∃ q, min (Nd.mk kd st l mi ma).U 4096 = q := ⟨_, rfl⟩
  have hVq : V = if t = true then min (q + 1) 2049 else 0 := by
    rw [← hV, ← ht, ← hq]
    unfold placesN
    split <;> omega
  have hqb : q ≤ 4096 := by omega
  rw [hV]
  rw [ht] at hi hp
  rw [hq] at hp
  have Hi := Lib.hid hi
  have Hp := Lib.hid hp
  have HV := Lib.hid hVq
  clear hi hp hVq hV hq ht hin
  go_enter Try.func17, Try.ntmps17
  have h1 := Blk.new w 27 (nodeC kd st A n c mi ma)
  have hB1 : Below w.heap.size w (w.alloc (.cells (nodeC kd st A n c mi ma) 27)) := below_alloc (Below.refl _ _) _
  go_upto_region 1 with (fail)
  obtain ⟨W1, hW1⟩ : ∃ y, y = w.alloc (.cells (nodeC kd st A n c mi ma) 27) := ⟨_, rfl⟩
  rw [← hW1] at h1 hB1 ⊢
  clear hW1
  cases t
  · go_wp2_with (first | (refine wl_load_node rfl _ rfl _ rfl _ _ _ _ _ _ _ h1 ?_) | (go_at_call 45; refine (Hi.out _ (fun j hj => hB1.block j (by omega)) (by have := hB1.size; omega)).mono ?_; rintro e w5 ⟨rfl, hB5⟩) | (go_at_call 45; refine park ?_))
    go_ret
    exact ⟨congrArg (fun v => Ending.returned (.int .i64 v)) (by rw [HV.out]; rfl), below_then hB1 hB5⟩
  · go_wp2_with (first | (refine wl_load_node rfl _ rfl _ rfl _ _ _ _ _ _ _ h1 ?_) | (go_at_call 45; refine (Hi.out _ (fun j hj => hB1.block j (by omega)) (by have := hB1.size; omega)).mono ?_; rintro e w5 ⟨rfl, hB5⟩; replace h1 := blk_then h1 hB5; replace hB1 := below_then hB1 hB5) | (go_at_call 46; refine (Hp.out (by first | rfl | trivial) _ (fun j hj => hB1.block j (by omega)) (by have := hB1.size; omega)).mono ?_; rintro e w6 ⟨rfl, hB6⟩) | (go_at_call 45; refine park ?_) | (go_at_call 46; refine park ?_))
    all_goals
      go_ret
      exact ⟨congrArg (fun v => Ending.returned (.int .i64 v)) (by have h := HV.out; simp only [if_true] at h; omega), below_then hB1 hB6⟩
end Go.Proofs.Ytajainmldcnaeaa
namespace Go.Proofs.Ytajainmldcnaeaa
open Go.RowKit Go.Maps
set_option linter.unusedVariables false
set_option linter.unusedSimpArgs false
attribute [local go_sem] Oper.semAt_some

theorem Ere.nlAt_is {p : ByteArray} {i : Nat} (hi : i < p.size) (h : Ere.chr p i = 10) (hall : ∀ k, k < i → Ere.chr p k ≠ 10) : Ere.nlAt p (p.size + 1) 0 = some i := by
  cases he : Ere.nlAt p (p.size + 1) 0 with
  | none => exact absurd h (Ere.nlAt_none p (p.size + 1) 0 (by omega) he i (by omega) hi)
  | some j =>
    obtain ⟨_, h2, h3, h4⟩ := Ere.nlAt_some p _ _ _ he
    rcases Nat.lt_trichotomy i j with q | q | q
    · exact absurd h (h4 i (by omega) q)
    · rw [q]
    · exact absurd h3 (hall j q)
theorem Ere.nlAt_no {p : ByteArray} (hall : ∀ k, k < p.size → Ere.chr p k ≠ 10) : Ere.nlAt p (p.size + 1) 0 = none := by
  cases he : Ere.nlAt p (p.size + 1) 0 with
  | none => rfl
  | some j =>
    obtain ⟨_, h2, h3, h4⟩ := Ere.nlAt_some p _ _ _ he
    exact absurd h3 (hall j h2)
theorem TR.below {lo g N : Nat} {w w' : World} (h : TR lo g w w') (h1 : N ≤ g) (h2 : N ≤ lo) (h3 : N ≤ w.heap.size) : Below N w w' := ⟨h.os, h.tape, h.output, h.size, fun k hk => h.block k (by omega) (by omega) (.inl (by omega))⟩
theorem below_of_grown {N g : Nat} {w w' : World} (hg : w.grownBy w' (some g)) (h : N ≤ g) (hN : N ≤ w.heap.size) : Below N w w' := ⟨hg.os, hg.tape, hg.output, hg.size, fun k hk => hg.block k (by omega) (by intro e; injection e with e; omega)⟩
theorem wl_assign {P : Program} {ops : Array Oper} {rest : List Oper} {o : Oper} {a : Act} {w : World} {Q : Exit → Act → World → Prop} (hgd : o.guard = none) (x : Operand) (ho : o.op = .assign x) (h : wpList P ops Q rest (a.put o.dst (a.eval x)) w) : wpList P ops Q (o :: rest) a w :=
  wl_run hgd (v := a.eval x) (by unfold execOp; rw [ho]; rfl) h
theorem ret_nv3 {fn : Func} {p u v : Tmp} {g : Nat} {x : NV} (hres : fn.results = #[.cell p 27, .tmp u, .tmp v]) {a : Act} {w : World}
    (hp : a.tmps.getD p undef = .pointer (some ⟨g, 0, none⟩)) (hb : Blk w g 27 x.C)
    (hdf : a.defers = []) {R : Ending → World → Prop} (hR : R (.returned (.tuple #[.agg x.C, a.tmps.getD u undef, a.tmps.getD v undef])) w) : bodyPost Try.prog fn R .ret a w := by
  refine bodyPost_ret ?_ hdf hR
  have hl := run_loadVar_row (P := Try.prog) w g 27 27 x.C (0, 0) _ hb Try.underlying27 rfl (info_node.trans rfl)
  have hp' : a.tmps[p]?.getD undef = .pointer (some ⟨g, 0, none⟩) := by simpa using hp
  simp [results, hres, hp', asAddr, hl]
set_option maxRecDepth 100000 in
set_option maxHeartbeats 16000000 in
theorem rparse_any (p : ByteArray) (w : World) :
    Calls Try.prog 13 #[.string p] w fun e w' => Below w.heap.size w w' ∧ ∃ x bs, e = .returned (.tuple #[.agg (NV.C x), .int .i64 ((Ere.parseR p).2.1 : Int), .int .i64 ((Ere.parseR p).2.2 : Int)]) ∧ NdO w' w.heap.size (Ere.parseR p).1 x bs := by
  obtain ⟨r, hr0⟩ : ∃ r, Ere.parseR p = r := ⟨_, rfl⟩
  rw [hr0]
  unfold Ere.parseR at hr0
  replace hr0 := Lib.hid hr0
  go_enter Try.func13, Try.ntmps13
  have h4 : Blk (w.alloc (.cells zeroC 27)) w.heap.size 27 zeroC := Blk.new' _ _ _ rfl
  have hB1 : Below w.heap.size w (w.alloc (.cells zeroC 27)) := below_alloc (Below.refl _ _) _
  unfold zeroC at h4 hB1
  go_upto_region 1 with (fail)
  obtain ⟨w1, hw1⟩ : ∃ y, y = w.alloc (.cells zeroC 27) := ⟨_, rfl⟩
  unfold zeroC at hw1
  rw [← hw1] at h4 hB1 ⊢
  clear hw1
  obtain ⟨g, hge⟩ : ∃ y, y = w.heap.size := ⟨_, rfl⟩
  have hwb := Lib.hid (show w.heap.size ≤ g ∧ g < w1.heap.size ∧ w.heap.size ≤ w1.heap.size by have := h4.lt; omega)
  rw [← hge] at h4 ⊢
  have hB := hB1
  clear hB1 hge
  by_cases hbig : 1024 < p.size
  · have hr1 := hr0.out
    rw [if_pos hbig] at hr1
    have hbigI : (1024 : Int) < p.size := by omega
    subst hr1
    replace hbig := Lib.hid hbig
    go_wp2_with (first
      | (refine wl_build_node rfl _ rfl zeroV #[] rfl (fun w => build_nzero w) ?_)
      | (refine wl_store_nv rfl _ _ rfl g zeroV rfl rfl _ rfl h4 ?_; intro w2 m2 hg2))
    exact ret_nv3 rfl rfl m2 rfl ⟨below_grown hB hg2 hwb.out.1, zeroV, rfl, [], NdO.leaf _ _ _ _ _ _⟩
  · have hr1 := hr0.out
    rw [if_neg hbig] at hr1
    have hbigI : (p.size : Int) ≤ 1024 := by omega
    have hp : p.size ≤ 1024 := by omega
    clear hr0 hbig
    replace hr1 := Lib.hid hr1
    go_wp2_with (fail)
    go_loopw [5] (fun iv wr => ∃ i : Nat, i ≤ p.size ∧ iv = .int .i64 i ∧ wr = w1 ∧ ∀ k, k < i → Ere.chr p k ≠ 10) (fun iv _ => p.size - (intOf iv).toNat)
    case atStart => exact ⟨0, by omega, rfl, rfl, fun k hk => by omega⟩
    case round =>
      obtain ⟨i, hi, rfl, hwr, hall⟩ := hrel
      subst hwr
      replace hall := Lib.hid hall
      by_cases hlt : i < p.size
      · have hltI : (i : Int) < p.size := by omega
        have hi0 : ¬ (i : Int) < 0 := by omega
        have hch : Ere.chr p i = p[i].toNat := by unfold Ere.chr; rw [dif_pos hlt]
        obtain ⟨b, hb⟩ : ∃ v : Nat, p[i].toNat = v := ⟨_, rfl⟩
        rw [hb] at hch
        replace hch := Lib.hid hch
        by_cases h10 : b = 10
        · have h10I : (((b : Nat) : Int) == 10) = true := beq_iff_eq.2 (by omega)
          have hr2 := hr1.out
          rw [Ere.nlAt_is hlt (hch.out.trans h10) hall.out] at hr2
          simp only at hr2
          clear hr1
          subst hr2
          replace h10 := Lib.hid h10
          go_wp2_with (first
            | (refine wl_build_node rfl _ rfl zeroV #[] rfl (fun w => build_nzero w) ?_)
            | (refine wl_store_nv rfl _ _ rfl g zeroV rfl rfl _ rfl h4 ?_; intro w2 m2 hg2))
          exact ret_nv3 rfl rfl m2 rfl ⟨below_grown hB hg2 hwb.out.1, zeroV, rfl, [], NdO.leaf _ _ _ _ _ _⟩
        · have h10I : (((b : Nat) : Int) == 10) = false := beq_eq_false_iff_ne.2 (by omega)
          replace h10 := Lib.hid h10
          go_wp2_with (fail)
          exact ⟨⟨i + 1, by omega, rfl, by trivial, fun k hk => by
            by_cases e : k = i
            · subst e; rw [hch.out]; exact h10.out
            · exact hall.out k (by omega)⟩, by simp only [intOf]; omega⟩
      · have hltI : ¬ (i : Int) < p.size := by omega
        have hr2 := hr1.out
        rw [Ere.nlAt_no (fun k hk => hall.out k (by omega))] at hr2
        simp only at hr2
        clear hr1 hall
        replace hr2 := Lib.hid hr2
        go_upto_region 9 with (fail)
        have hP : Blk (wr.alloc (.cells (rrC p 0 none 0 0 0 0) 82)) wr.heap.size 82 (rrC p 0 none 0 0 0 0) := Blk.new' _ _ _ rfl
        have hB2 : Below wr.heap.size wr (wr.alloc (.cells (rrC p 0 none 0 0 0 0) 82)) := below_alloc (Below.refl _ _) _
        obtain ⟨w2, hw2⟩ : ∃ y, y = wr.alloc (.cells (rrC p 0 none 0 0 0 0) 82) := ⟨_, rfl⟩
        rw [← hw2] at hP hB2
        unfold rrC at hw2
        rw [show ((0 : Nat) : Int) = 0 from rfl] at hw2
        rw [← hw2]
        clear hw2
        have m2 := blk_then h4 hB2
        have hB3 := below_then hB hB2
        obtain ⟨gr, hgr⟩ : ∃ y, y = wr.heap.size := ⟨_, rfl⟩
        rw [← hgr] at hP ⊢
        have hgr2 := Lib.hid (show g < gr ∧ gr < w2.heap.size ∧ g < w2.heap.size ∧ w.heap.size ≤ gr ∧ w.heap.size ≤ g ∧ w.heap.size ≤ w2.heap.size by have := hwb.out; have := hP.lt; have := hB2.size; omega)
        clear hgr h4 hB hB2
        have kP := rpat_any w2.heap.size gr p hp 64 0 0 0 none w2 rfl hP (OpenOk.nil_ _ _) (Nat.le_refl _) (by omega)
        obtain ⟨rp, hrp⟩ : ∃ q, Ere.patR p 64 0 = q := ⟨_, rfl⟩
        have hr3 := hr2.out
        rw [hrp] at hr3 kP
        clear hrp hr2
        replace hr3 := Lib.hid hr3
        cases rp with
        | fault e0 a0 =>
          have hr := Lib.hid (show r = (Ere.zeroN, a0, e0) from hr3.out.symm)
          clear hr3
          go_upto_region 10 with (first | (go_at_call 41; refine kP.mono ?_; rintro e w5 ⟨hT5, hnz, ⟨x, rfl⟩, i', A2, n2, c2, hP5⟩) | (refine wl_store_nv rfl _ _ rfl _ x rfl rfl _ rfl (Blk.new _ _ _) ?_; intro w6 h6 hg6))
          have hBa := below_alloc (Below.refl w5.heap.size w5) (.cells zeroC 27)
          unfold zeroC at hBa
          have hs5 := hT5.size
          have hB6 := below_grown (below_then (hB3.trans (hT5.below (by have := hgr2.out; omega) (by have := hgr2.out; omega) (by have := hgr2.out; omega))) hBa) hg6 (by have := hgr2.out; omega)
          have hP := (blk_then hP5 hBa).grown hg6 (fun e => by injection e with e; have := hgr2.out; omega)
          have m6 := (blk_then (blk_tr m2 (by decide) (by have := hgr2.out; omega) hT5) hBa).grown hg6 (fun e => by injection e with e; have := hgr2.out; omega)
          clear h6 hg6 hBa hs5 hT5 hP5 kP hB3 m2
          have c3 : w6.cell? ⟨gr, 3, none⟩ = some (.int .i64 (e0 : Int)) := hP.cellv rfl
          have hE1 : ((e0 : Int) == 0) = false := by rw [beq_eq_false_iff_ne]; omega
          have hE2 : ((e0 : Int) != 0) = true := by rw [bne_iff_ne]; omega
          replace hnz := Lib.hid hnz
          go_upto_region 13 with (fail)
          have c4 : w6.cell? ⟨gr, 4, none⟩ = some (.int .i64 (a0 : Int)) := hP.cellv rfl
          have hng : gr ≠ g := by have := hgr2.out; omega
          have r0 := m6.cellv (i := 0) rfl
          have z0 := m6.frozen 0
          have r1 := m6.cellv (i := 1) rfl
          have z1 := m6.frozen 1
          have r2 := m6.cellv (i := 2) rfl
          have z2 := m6.frozen 2
          have r3 := m6.cellv (i := 3) rfl
          have z3 := m6.frozen 3
          have r4 := m6.cellv (i := 4) rfl
          have z4 := m6.frozen 4
          have r5 := m6.cellv (i := 5) rfl
          have z5 := m6.frozen 5
          have r6 := m6.cellv (i := 6) rfl
          have z6 := m6.frozen 6
          have r7 := m6.cellv (i := 7) rfl
          have z7 := m6.frozen 7
          go_big_region
          clear c3 c4 r0 z0 r1 z1 r2 z2 r3 z3 r4 z4 r5 z5 r6 z6 r7 z7
          have hTz := Turn.refl g (g + 1) w6
          replace m6 := m6.set_ 0 (.int .i64 0)
          replace hTz := hTz.set (b := g) (i := 0) (v := (.int .i64 0)) (by omega) (by omega)
          replace m6 := m6.set_ 1 (.int .u64 0)
          replace hTz := hTz.set (b := g) (i := 1) (v := (.int .u64 0)) (by omega) (by omega)
          replace m6 := m6.set_ 2 (.int .u64 0)
          replace hTz := hTz.set (b := g) (i := 2) (v := (.int .u64 0)) (by omega) (by omega)
          replace m6 := m6.set_ 3 (.int .u64 0)
          replace hTz := hTz.set (b := g) (i := 3) (v := (.int .u64 0)) (by omega) (by omega)
          replace m6 := m6.set_ 4 (.int .u64 0)
          replace hTz := hTz.set (b := g) (i := 4) (v := (.int .u64 0)) (by omega) (by omega)
          replace m6 := m6.set_ 5 (.slice none 0 0)
          replace hTz := hTz.set (b := g) (i := 5) (v := (.slice none 0 0)) (by omega) (by omega)
          replace m6 := m6.set_ 6 (.int .i64 0)
          replace hTz := hTz.set (b := g) (i := 6) (v := (.int .i64 0)) (by omega) (by omega)
          replace m6 := m6.set_ 7 (.int .i64 0)
          replace hTz := hTz.set (b := g) (i := 7) (v := (.int .i64 0)) (by omega) (by omega)
          replace m6 := m6.drew
          replace hTz := hTz.then_ ((Below.refl _ _).drew)
          have hBz := hB6.trans (hTz.below (N := w.heap.size) (by have := hgr2.out; omega) hB6.size)
          have m9 : Blk _ g 27 zeroV.C := m6
          generalize World.drew _ = w9 at m9 hBz ⊢
          clear m6 hTz
          go_wp2_with (fail)
          rw [hr.out]
          exact ret_nv3 rfl rfl m9 rfl ⟨hBz, zeroV, [], rfl, NdO.leaf _ _ _ _ _ _⟩
        | got t j =>
          have hr4 := hr3.out
          simp only at hr4
          clear hr3
          have hplb : Ere.placesN t ≤ 2049 := by unfold Ere.placesN; split <;> omega
          have hplr := placesN_eq t
          obtain ⟨np, hnp⟩ : ∃ q, Ere.placesN t = q := ⟨_, rfl⟩
          rw [hnp] at hr4 hplb hplr
          replace hr4 := Lib.hid hr4
          replace hplr := Lib.hid hplr
          clear hnp
          go_upto_region 10 with (first | (go_at_call 41; refine kP.mono ?_; rintro e w5 ⟨hT5, ⟨A5, c5, hP5, hO5⟩, x, bs, rfl, hN5⟩) | (refine wl_store_nv rfl _ _ rfl _ x rfl rfl _ rfl (Blk.new _ _ _) ?_; intro w6 h6 hg6))
          have hBa := below_alloc (Below.refl w5.heap.size w5) (.cells zeroC 27)
          unfold zeroC at hBa
          have hs5 := hT5.size
          have hB6 := below_grown (below_then (hB3.trans (hT5.below (by have := hgr2.out; omega) (by have := hgr2.out; omega) (by have := hgr2.out; omega))) hBa) hg6 (by have := hgr2.out; omega)
          have hP := (blk_then hP5 hBa).grown hg6 (fun e => by injection e with e; have := hgr2.out; omega)
          have hN6 := (hN5.then_ hBa).keep (w' := w6) (fun b hb => hg6.block b (by have := (hN5.lt b hb).2; have := hBa.size; omega) (fun e => by injection e with e; have := (hN5.lt b hb).2; omega))
          have m6 := (blk_then (blk_tr m2 (by decide) (by have := hgr2.out; omega) hT5) hBa).grown hg6 (fun e => by injection e with e; have := hgr2.out; omega)
          obtain ⟨g7, hg7e⟩ : ∃ y, y = w5.heap.size := ⟨_, rfl⟩
          have hw7 := Lib.hid (show g7 ≠ g ∧ g7 ≠ gr ∧ w.heap.size ≤ g7 by have := hgr2.out; omega)
          have kQ := placesR_any t w6.heap.size w6 x.C hN6.toIn (Nat.le_refl _)
          rw [hplr.out] at kQ
          rw [← hg7e] at h6 ⊢
          clear hg6 hBa hs5 hT5 hP5 kP hB3 m2 hN5 hO5 hg7e
          have c3 : w6.cell? ⟨gr, 3, none⟩ = some (.int .i64 0) := hP.cellv rfl
          by_cases hbp : 2048 < np
          · have hr := Lib.hid (show r = (Ere.zeroN, 0, 48) by rw [← hr4.out, if_pos hbp])
            have hbpI : (2048 : Int) < np := by omega
            clear hr4
            replace hbp := Lib.hid hbp
            have hPb := fun (W : World) (hBW : Below w6.heap.size w6 W) => rfault_any (blk_then hP hBW) 48 0 48 0 rfl rfl
            replace hPb := Lib.hid hPb
            go_upto_region 11 with (first
              | (refine wl_load_node_g (want_yes rfl rfl rfl) _ rfl g7 rfl x.kd x.st x.A x.n x.c x.mi x.ma h6 ?_)
              | (go_at_call 17; refine kQ.mono ?_; rintro e w7 ⟨rfl, hB7⟩))
            have kF := hPb.out w7 hB7
            have n6 := blk_then m6 hB7
            have hB7b := hB6.trans (hB7.mono hB6.size)
            clear h6 m6 hP c3 hPb hB6 kQ hN6 hB7
            go_upto_region 12 with (go_at_call 42; refine kF.mono ?_; rintro e w8 ⟨rfl, hT8, hP⟩)
            have m6 := blk_turn n6 hT8 (by have := hgr2.out; omega)
            have hB6 := hB7b.trans (hT8.below (N := w.heap.size) (by have := hgr2.out; omega) hB7b.size)
            clear kF hT8 n6 hB7b
            obtain ⟨e0, he0⟩ : ∃ e : Nat, e = 48 := ⟨_, rfl⟩
            obtain ⟨a0, ha0⟩ : ∃ e : Nat, e = 0 := ⟨_, rfl⟩
            rw [← he0, ← ha0] at hP hr
            obtain ⟨w6, hw6e⟩ : ∃ y, y = w8 := ⟨_, rfl⟩
            rw [← hw6e] at hP m6 hB6 ⊢
            have hE2 : ((e0 : Int) != 0) = true := by rw [bne_iff_ne]; omega
            have c3 : w6.cell? ⟨gr, 3, none⟩ = some (.int .i64 (e0 : Int)) := hP.cellv rfl
            clear he0 ha0 hw6e
            go_upto_region 13 with (fail)
            have c4 : w6.cell? ⟨gr, 4, none⟩ = some (.int .i64 (a0 : Int)) := hP.cellv rfl
            have hng : gr ≠ g := by have := hgr2.out; omega
            have r0 := m6.cellv (i := 0) rfl
            have z0 := m6.frozen 0
            have r1 := m6.cellv (i := 1) rfl
            have z1 := m6.frozen 1
            have r2 := m6.cellv (i := 2) rfl
            have z2 := m6.frozen 2
            have r3 := m6.cellv (i := 3) rfl
            have z3 := m6.frozen 3
            have r4 := m6.cellv (i := 4) rfl
            have z4 := m6.frozen 4
            have r5 := m6.cellv (i := 5) rfl
            have z5 := m6.frozen 5
            have r6 := m6.cellv (i := 6) rfl
            have z6 := m6.frozen 6
            have r7 := m6.cellv (i := 7) rfl
            have z7 := m6.frozen 7
            go_big_region
            clear c3 c4 r0 z0 r1 z1 r2 z2 r3 z3 r4 z4 r5 z5 r6 z6 r7 z7
            have hTz := Turn.refl g (g + 1) w6
            replace m6 := m6.set_ 0 (.int .i64 0)
            replace hTz := hTz.set (b := g) (i := 0) (v := (.int .i64 0)) (by omega) (by omega)
            replace m6 := m6.set_ 1 (.int .u64 0)
            replace hTz := hTz.set (b := g) (i := 1) (v := (.int .u64 0)) (by omega) (by omega)
            replace m6 := m6.set_ 2 (.int .u64 0)
            replace hTz := hTz.set (b := g) (i := 2) (v := (.int .u64 0)) (by omega) (by omega)
            replace m6 := m6.set_ 3 (.int .u64 0)
            replace hTz := hTz.set (b := g) (i := 3) (v := (.int .u64 0)) (by omega) (by omega)
            replace m6 := m6.set_ 4 (.int .u64 0)
            replace hTz := hTz.set (b := g) (i := 4) (v := (.int .u64 0)) (by omega) (by omega)
            replace m6 := m6.set_ 5 (.slice none 0 0)
            replace hTz := hTz.set (b := g) (i := 5) (v := (.slice none 0 0)) (by omega) (by omega)
            replace m6 := m6.set_ 6 (.int .i64 0)
            replace hTz := hTz.set (b := g) (i := 6) (v := (.int .i64 0)) (by omega) (by omega)
            replace m6 := m6.set_ 7 (.int .i64 0)
            replace hTz := hTz.set (b := g) (i := 7) (v := (.int .i64 0)) (by omega) (by omega)
            replace m6 := m6.drew
            replace hTz := hTz.then_ ((Below.refl _ _).drew)
            have hBz := hB6.trans (hTz.below (N := w.heap.size) (by have := hgr2.out; omega) hB6.size)
            have m9 : Blk _ g 27 zeroV.C := m6
            generalize World.drew _ = w9 at m9 hBz ⊢
            clear m6 hTz
            go_wp2_with (fail)
            rw [hr.out]
            exact ret_nv3 rfl rfl m9 rfl ⟨hBz, zeroV, [], rfl, NdO.leaf _ _ _ _ _ _⟩
          · have hr := Lib.hid (show r = (t, 0, 0) by rw [← hr4.out, if_neg hbp])
            have hbpI : (np : Int) ≤ 2048 := by omega
            clear hr4
            replace hbp := Lib.hid hbp
            have hKeep := fun (W : World) (hBW : Below w6.heap.size w6 W) => And.intro (blk_then h6 hBW) (And.intro (blk_then m6 hBW) (And.intro (show W.cell? ⟨gr, 3, none⟩ = some (.int .i64 0) from (blk_then hP hBW).cellv rfl) (hN6.then_ hBW)))
            replace hKeep := Lib.hid hKeep
            go_upto_region 12 with (first
              | (refine wl_load_node_g (want_yes rfl rfl rfl) _ rfl g7 rfl x.kd x.st x.A x.n x.c x.mi x.ma h6 ?_)
              | (go_at_call 17; refine kQ.mono ?_; rintro e w7 ⟨rfl, hB7⟩))
            obtain ⟨h7, n6, c37, hN7⟩ := hKeep.out w7 hB7
            have hB7b := hB6.trans (hB7.mono hB6.size)
            clear h6 m6 hP c3 hKeep hB6 kQ hN6 hB7
            go_wp2_with (first
              | (refine wl_load_nv rfl _ rfl g7 rfl x h7 ?_)
              | (refine wl_store_nv rfl _ _ rfl g x rfl rfl _ rfl n6 ?_; intro w8 m8 hg8))
            rw [hr.out]
            exact ret_nv3 rfl rfl m8 rfl ⟨hB7b.trans (below_of_grown hg8 hgr2.out.2.2.2.2.1 hB7b.size), x, bs, rfl, (hN7.mono hgr2.out.2.2.2.2.2).keep (fun b hb => hg8.block b (hN7.lt b hb).2 (fun e => by injection e with e; have := (hN7.lt b hb).1; have := hgr2.out; omega))⟩
end Go.Proofs.Ytajainmldcnaeaa
namespace Go.Proofs.Ytajainmldcnaeaa
open Go.RowKit Go.Maps
set_option linter.unusedVariables false
set_option linter.unusedSimpArgs false
attribute [local go_sem] Oper.semAt_some

mutual
/-- what nodes answers -/
def Nd.nz : Nd → Int
  | .mk _ _ l _ _ => Nd.nzs 1 l
def Nd.nzs : Int → List Nd → Int
  | n, [] => n
  | n, x :: l => if n ≤ 3000 then Nd.nzs (wrap64 (n + x.nz)) l else n
end
theorem Nd.nzs_at {n : Int} {l : List Nd} {k : Nat} (hk : k < l.length) (hn : n ≤ 3000) : Nd.nzs n (l.drop k) = Nd.nzs (wrap64 (n + l[k].nz)) (l.drop (k + 1)) := by
  rw [List.drop_eq_getElem_cons hk, Nd.nzs, if_pos hn]
theorem Nd.nzs_big {n : Int} (hn : ¬ n ≤ 3000) : ∀ l : List Nd, Nd.nzs n l = n
  | [] => by unfold Nd.nzs; rfl
  | x :: l => by unfold Nd.nzs; rw [if_neg hn]

set_option maxRecDepth 100000 in
set_option maxHeartbeats 4000000 in
theorem nodes4_any (nd : Nd) : ∀ (B : Nat) (w : World) (cs : Array Value), NdIn w B nd cs → B ≤ w.heap.size →
    Calls Try.prog 15 #[.agg cs] w fun e w' => Below w.heap.size w w' ∧ e = .returned (.int .i64 nd.nz) := by
  induction nd using Nd.ind with
  | h kd st l mi ma ih =>
  intro B w cs hin hB
  obtain ⟨R, hR⟩ : ∃ R, (Nd.mk kd st l mi ma).nz = R := ⟨_, rfl⟩
  rw [hR]
  unfold Nd.nz at hR
  replace hR := Lib.hid hR
  obtain ⟨A, n, c, cl, rfl, hn, hcl, hmax, hs, hr⟩ := hin.inv
  have Hn := Lib.hid hn
  have Hcl := Lib.hid hcl
  have Hr := Lib.hid hr
  have Ih := Lib.hid ih
  clear hn hcl hr ih hin
  go_enter Try.func15, Try.ntmps15
  have h1 := Blk.new w 27 (nodeC kd st A n c mi ma)
  have hB1 : Below w.heap.size w (w.alloc (.cells (nodeC kd st A n c mi ma) 27)) := below_alloc (Below.refl _ _) _
  go_upto_region 1 with (fail)
  obtain ⟨w1, hw1⟩ : ∃ y, y = w.alloc (.cells (nodeC kd st A n c mi ma) 27) := ⟨_, rfl⟩
  rw [← hw1] at h1 hB1 ⊢
  clear hw1
  go_wp2_with (fail)
  go_loopw [3, 4] (fun v i wr => ∃ (k : Nat) (m : Int), k ≤ n ∧ i = .int .i64 k ∧ v = .int .i64 m ∧ Hid (Nd.nzs m (l.drop k) = R) ∧ Below w.heap.size w wr ∧ Blk wr w.heap.size 27 (nodeC kd st A n c mi ma)) (fun _ i _ => n - (intOf i).toNat)
  case atStart => exact ⟨0, 1, by omega, rfl, rfl, hR, hB1, h1⟩
  case round =>
    clear h1 hB1
    obtain ⟨k, m, hk, rfl, rfl, hRk, hBw, h1⟩ := hrel
    have c5 : wr.cell? ⟨w.heap.size, 5, none⟩ = some (.slice A n c) := h1.cellv (i := 5) rfl
    by_cases hkn : k < n
    · have hkI : (k : Int) < n := by omega
      have hkb2 : decide ((k : Int) < n) = true := by simpa using hkI
      by_cases hm : m ≤ 3000
      · have hmb : decide (m ≤ 3000) = true := by simpa using hm
        have hkl : k < l.length := by rw [← Hn.out]; exact hkn
        have hkc : k < cl.length := by rw [Hcl.out]; exact hkl
        obtain ⟨ba, off, rfl, hba, hrows⟩ := hs.at_ (by omega)
        have hrow := (hrows k hkc).keep (hBw.block ba (by omega))
        have hsub := Hr.out k hkl hkc
        have hmem : l[k] ∈ l := List.getElem_mem hkl
        obtain ⟨⟨kd', st', l', mi', ma'⟩, hx⟩ : ∃ x, x = l[k] := ⟨_, rfl⟩
        have hR2 := Lib.hid ((Nd.nzs_at hkl hm).symm.trans hRk.out)
        rw [← hx] at hsub hmem hR2
        obtain ⟨A', n', c', cl', hce, -⟩ := hsub.inv
        rw [hce] at hrow hsub
        have hcall := Ih.out _ hmem B wr _ (hsub.keep (fun j hj => hBw.block j (by omega))) (by have := hBw.size; omega)
        have Hcall := Lib.hid hcall
        have hkb : k < 1099511628000 := by omega
        clear hcall hx hce hsub hrows hmem
        go_wp2_with (first | (refine wl_load_node_at rfl _ rfl _ _ rfl _ _ _ _ _ _ _ hrow ?_) | (go_at_call 15; refine Hcall.out.mono ?_; rintro e w5 ⟨hB5, rfl⟩) | (go_at_call 15; refine park ?_))
        exact ⟨⟨k + 1, _, by omega, rfl, rfl, hR2, below_then hBw hB5, blk_then h1 hB5⟩, by simp only [intOf]; omega⟩
      · have hmb : decide (m ≤ 3000) = false := by simpa using hm
        go_wp2_with (fail)
        go_ret
        refine ⟨hBw, ?_⟩
        rw [← hRk.out, Nd.nzs_big (by omega)]
        rfl
    · have hkI : ¬ (k : Int) < n := by omega
      have hkb2 : decide ((k : Int) < n) = false := by simpa using hkI
      go_wp2_with (fail)
      go_ret
      refine ⟨hBw, ?_⟩
      rw [← hRk.out, List.drop_of_length_le (by have := Hn.out; omega), Nd.nzs]
      rfl
end Go.Proofs.Ytajainmldcnaeaa
namespace Go.Proofs.Ytajainmldcnaeaa
open Go.RowKit Go.Maps
set_option linter.unusedVariables false
set_option linter.unusedSimpArgs false
attribute [local go_sem] Oper.semAt_some

theorem enter_nodes4 (args : Array Value) (w : World) : (callFunc 15 args).run Try.prog w = .ok (.enter 15 args) w := by kernel_rfl
theorem enter_placesE4 (args : Array Value) (w : World) : (callFunc 16 args).run Try.prog w = .ok (.enter 16 args) w := by kernel_rfl
theorem enter_placesR4 (args : Array Value) (w : World) : (callFunc 17 args).run Try.prog w = .ok (.enter 17 args) w := by kernel_rfl
theorem row_blk {w : World} {g : Nat} {t : TypeId} {cs : Array Value} (h : Blk w g t cs) : RowAt w g 0 cs := fun j v hv => by rw [Nat.zero_add]; exact h.cellv hv
set_option maxRecDepth 100000 in
set_option maxHeartbeats 8000000 in
theorem exact_any (p : ByteArray) (nd : Nd) (cs : Array Value) (w : World) (hM : Mx w) (hin : NdIn w w.heap.size nd cs) :
    Calls Try.prog 3 #[.string p, .agg cs] w fun e w' => e = .returned (.bool true) ∧ Below w.heap.size w w' := by
  have kK : ∀ W, Mx W → _ := fun W h => known4_any W h
  have kP : ∀ W, Mx W → _ := fun W h => parse_any p W h
  have kP2 := fun W => rparse_any p W
  have hcs8 := hin.size8
  obtain ⟨⟨tr, a1, e1⟩, hr⟩ : ∃ r, Ere.parseR p = r := ⟨_, rfl⟩
  rw [hr] at kP kP2
  simp only at kP kP2
  clear hr
  obtain ⟨kd, st, l0, mi, ma⟩ := nd
  obtain ⟨A0, n0, c0, cl, hcs, -⟩ := hin.inv
  obtain ⟨nd, hnd⟩ : ∃ x, x = Nd.mk kd st l0 mi ma := ⟨_, rfl⟩
  rw [← hnd] at hin
  replace kK := Lib.hid kK
  replace kP := Lib.hid kP
  replace kP2 := Lib.hid kP2
  replace hin := Lib.hid hin
  replace hcs8 := Lib.hid hcs8
  clear hnd
  subst hcs
  go_enter Try.func3, Try.ntmps3
  have k3 := Blk.new w 27 (nodeC kd st A0 n0 c0 mi ma)
  have hB1 : Below w.heap.size w (w.alloc (.cells (nodeC kd st A0 n0 c0 mi ma) 27)) := below_alloc (Below.refl _ _) _
  go_upto_region 1 with (fail)
  obtain ⟨w1, hw1⟩ : ∃ y, y = w.alloc (.cells (nodeC kd st A0 n0 c0 mi ma) 27) := ⟨_, rfl⟩
  rw [← hw1] at k3 hB1 ⊢
  clear hw1
  obtain ⟨g3, hg3⟩ : ∃ y, y = w.heap.size := ⟨_, rfl⟩
  rw [← hg3] at k3 ⊢
  have hw0 := Lib.hid (show g3 < w1.heap.size ∧ w.heap.size ≤ g3 by have := k3.lt; omega)
  clear hg3
  replace hcs8 := hcs8.out
  obtain ⟨cs, hcs⟩ : ∃ y, y = nodeC kd st A0 n0 c0 mi ma := ⟨_, rfl⟩
  rw [← hcs] at k3 hin hcs8
  have hK := kK.out w1 (hM.then_ hB1)
  go_upto_region 3 with (go_at_call 11; refine hK.mono ?_; rintro en w2 ⟨rfl, hB2⟩)
  replace k3 := blk_then k3 hB2
  have hBa := below_then hB1 hB2
  clear hK hB1
  have hP := kP.out w2 (hM.then_ hBa)
  go_upto_region 4 with (first
    | (go_at_call 12; refine hP.mono ?_; rintro en w3 ⟨hB3, x, bs, rfl, hO3⟩)
    | (refine wl_store_nv rfl _ _ rfl _ x rfl rfl _ rfl (Blk.new _ _ zeroC) ?_; intro w4 k5 hg5))
  have hB4 := below_then hB3 (below_grown (below_alloc (Below.refl w3.heap.size w3) (.cells zeroC 27)) hg5 (Nat.le_refl _))
  have hO4 := (hO3.then_ (below_alloc (Below.refl _ _) (.cells zeroC 27))).keep (w' := w4) (fun b hb => hg5.block b (by have := (hO3.lt b hb).2; simp; omega) (fun e => by injection e with e; have := (hO3.lt b hb).2; omega))
  replace k3 := blk_then k3 hB4
  have hBb := below_then hBa hB4
  obtain ⟨g5, hg5e⟩ : ∃ y, y = w3.heap.size := ⟨_, rfl⟩
  rw [← hg5e] at k5 ⊢
  clear hB3 hO3 hg5 hg5e hP hB2 hBa hB4 kK kP
  have hP := kP2.out w4
  go_upto_region 5 with (first
    | (go_at_call 13; refine hP.mono ?_; rintro en w5 ⟨hB5, y, bs2, rfl, hO5⟩)
    | (refine wl_store_nv rfl _ _ rfl _ y rfl rfl _ rfl (Blk.new _ _ zeroC) ?_; intro w6 k8 hg8))
  have hB6 := below_then hB5 (below_grown (below_alloc (Below.refl w5.heap.size w5) (.cells zeroC 27)) hg8 (Nat.le_refl _))
  have hO6 := (hO5.then_ (below_alloc (Below.refl _ _) (.cells zeroC 27))).keep (w' := w6) (fun b hb => hg8.block b (by have := (hO5.lt b hb).2; simp; omega) (fun e => by injection e with e; have := (hO5.lt b hb).2; omega))
  replace k3 := blk_then k3 hB6
  replace k5 := blk_then k5 hB6
  replace hO4 := hO4.then_ hB6
  have hBc := below_then hBb hB6
  obtain ⟨g8, hg8e⟩ : ∃ y, y = w5.heap.size := ⟨_, rfl⟩
  rw [← hg8e] at k8 ⊢
  clear hB5 hO5 hg8 hg8e hP hBb hB6 kP2
  have hx := hO4.toIn
  have hy := hO6.toIn
  have ht := fun W (hW : Below w6.heap.size w6 W) => And.intro (hin.out.keep (w' := W) (fun j hj => (hBc.trans (hW.mono hBc.size)).block j hj)) (Nat.le_trans hBc.size hW.size)
  have kS : ∀ W, Below w6.heap.size w6 W → Calls Try.prog 14 #[.agg x.C, .agg y.C] W fun e w' => e = .returned (.bool true) ∧ Below W.heap.size W w' := fun W hW => by
    have := same4_any tr tr w6.heap.size W x.C y.C (hx.keep (fun j hj => hW.block j hj)) (hy.keep (fun j hj => hW.block j hj)) hW.size
    rwa [sameB_self] at this
  have kN := fun W (hW : Below w6.heap.size w6 W) => nodes4_any nd w.heap.size W cs (ht W hW).1 (ht W hW).2
  have kE := fun W (hW : Below w6.heap.size w6 W) => placesE_any nd w.heap.size W cs (ht W hW).1 (ht W hW).2
  have kR := fun W (hW : Below w6.heap.size w6 W) => placesR_any nd w.heap.size W cs (ht W hW).1 (ht W hW).2
  have kEx := fun W (hW : Below w6.heap.size w6 W) => placesE_any tr w6.heap.size W x.C (hx.keep (fun j hj => hW.block j hj)) hW.size
  have kRy := fun W (hW : Below w6.heap.size w6 W) => placesR_any tr w6.heap.size W y.C (hy.keep (fun j hj => hW.block j hj)) hW.size
  obtain ⟨np, hnp⟩ : ∃ q, placesN nd = q := ⟨_, rfl⟩
  obtain ⟨nq, hnq⟩ : ∃ q, placesN tr = q := ⟨_, rfl⟩
  obtain ⟨bn, hbn⟩ : ∃ q, decide (nd.nz > 3000) = q := ⟨_, rfl⟩
  rw [hnp] at kE kR
  rw [hnq] at kEx kRy
  replace hbn := Lib.hid hbn
  clear hnp hnq hx hy ht hin hO4 hO6
  refine wp_region_steps 33 [eqS (.int .i64 (((e1 : Nat) : Int))), eqS (.int .i64 (((e1 : Nat) : Int))), eqS (.bool true), eqS (.bool true), eqS (vF (true && (true == true)) (.int .i64 (((a1 : Nat) : Int)))), eqS (vF (true && (true == true)) (.int .i64 (((a1 : Nat) : Int)))), eqS (vF (true && (true == true)) (.bool true)), eqS (.bool (true && true)), eqS (.bool (true && true)), eqS (vF (true && ((true && true) == true)) (.agg x.C)), eqS (vF (true && ((true && true) == true)) (.agg y.C)), eqS (vF (true && ((true && true) == true)) (.bool true)), eqS (.bool ((true && true) && true)), eqS (.bool ((true && true) && true)), eqS (vF (true && (((true && true) && true) == true)) (.agg cs)), eqS (vF (true && (((true && true) && true) == true)) (.int .i64 (nd.nz))), eqS (vF (true && (((true && true) && true) == true)) (.bool bn)), eqS (vF (true && (((true && true) && true) == true)) (.bool bn)), eqS (vF ((true && (((true && true) && true) == true)) && (bn == false)) (.agg cs)), eqS (vF ((true && (((true && true) && true) == true)) && (bn == false)) (.int .i64 (((np : Nat) : Int)))), eqS (vF ((true && (((true && true) && true) == true)) && (bn == false)) (.agg cs)), eqS (vF ((true && (((true && true) && true) == true)) && (bn == false)) (.int .i64 (((np : Nat) : Int)))), eqS (vF ((true && (((true && true) && true) == true)) && (bn == false)) (.bool true)), eqS (vF (true && (((true && true) && true) == true)) (.bool (bn || true))), eqS (.bool (((true && true) && true) && (bn || true))), eqS (.bool (((true && true) && true) && (bn || true))), eqS (vF (true && ((((true && true) && true) && (bn || true)) == true)) (.agg x.C)), eqS (vF (true && ((((true && true) && true) && (bn || true)) == true)) (.int .i64 (((nq : Nat) : Int)))), eqS (vF (true && ((((true && true) && true) && (bn || true)) == true)) (.agg y.C)), eqS (vF (true && ((((true && true) && true) && (bn || true)) == true)) (.int .i64 (((nq : Nat) : Int)))), eqS (vF (true && ((((true && true) && true) && (bn || true)) == true)) (.bool true)), eqS (.bool ((((true && true) && true) && (bn || true)) && true)), eqS (.bool ((((true && true) && true) && (bn || true)) && true))] [25, 26, 27, 28, 29, 30, 31, 32, 33, 34, 35, 36, 37, 38, 39, 40, 41, 42, 43, 44, 45, 46, 47, 48, 49, 50, 51, 52, 53, 54, 55, 56, 4] follows_mixed (by kernel_rfl) (by kernel_rfl) ?_ ?_
  · skip
    refine Steps.cons (fun a' w' hG hB dep => gs_move (want_none rfl) _ rfl (id (hG.other 7 rfl))) ?_
    refine Steps.cons (fun a' w' hG hB dep => gs_move (want_none rfl) _ rfl (id (hG.other 10 rfl))) ?_
    refine Steps.cons (fun a' w' hG hB dep => gs_eql_int (want_none rfl) _ _ _ _ rfl _ _ _ (dep 0 rfl 25 rfl) (dep 1 rfl 26 rfl) (id (congrArg Value.bool (beq_self_eq_true _)))) ?_
    refine Steps.cons (fun a' w' hG hB dep => gs_move (want_none rfl) _ rfl (id (dep 2 rfl 27 rfl))) ?_
    refine Steps.cons (fun a' w' hG hB dep => gs_guard (c := true) (b' := true) rfl rfl (dep 3 rfl 28 rfl) (fun hc he hw => gs_move hw _ rfl (Eq.trans (hG.other 6 rfl) (vF_yes (on_g hc he) _).symm)) (fun hn => vF_no hn _)) ?_
    refine Steps.cons (fun a' w' hG hB dep => gs_guard (c := true) (b' := true) rfl rfl (dep 3 rfl 28 rfl) (fun hc he hw => gs_move hw _ rfl (Eq.trans (hG.other 9 rfl) (vF_yes (on_g hc he) _).symm)) (fun hn => vF_no hn _)) ?_
    refine Steps.cons (fun a' w' hG hB dep => gs_guard (c := true) (b' := true) rfl rfl (dep 3 rfl 28 rfl) (fun hc he hw => gs_eql_int hw _ _ _ _ rfl _ _ _ (Eq.trans (dep 4 rfl 29 rfl) (vF_yes (on_g hc he) _)) (Eq.trans (dep 5 rfl 30 rfl) (vF_yes (on_g hc he) _)) (Eq.trans (congrArg Value.bool (beq_self_eq_true _)) (vF_yes (on_g hc he) _).symm)) (fun hn => vF_no hn _)) ?_
    refine Steps.cons (fun a' w' hG hB dep => gs_pick (want_none rfl) _ _ _ rfl true (dep 3 rfl 28 rfl) (id (pick_and2 (c := true) rfl (dep 6 rfl 31 rfl)))) ?_
    refine Steps.cons (fun a' w' hG hB dep => gs_move (want_none rfl) _ rfl (id (dep 7 rfl 32 rfl))) ?_
    refine Steps.cons (fun a' w' hG hB dep => gs_guard (c := true) (b' := (true && true)) rfl rfl (dep 8 rfl 33 rfl) (fun hc he hw => gs_load_nd hw _ rfl g5 0 (hG.other 5 rfl) _ ⟨row_blk (blk_then k5 hB), rfl⟩ (vF_yes (on_g hc he) _).symm) (fun hn => vF_no hn _)) ?_
    refine Steps.cons (fun a' w' hG hB dep => gs_guard (c := true) (b' := (true && true)) rfl rfl (dep 8 rfl 33 rfl) (fun hc he hw => gs_load_nd hw _ rfl g8 0 (hG.other 8 rfl) _ ⟨row_blk (blk_then k8 hB), rfl⟩ (vF_yes (on_g hc he) _).symm) (fun hn => vF_no hn _)) ?_
    refine Steps.cons (fun a' w' hG hB dep => gs_guard (c := true) (b' := (true && true)) rfl rfl (dep 8 rfl 33 rfl) (fun hc he hw => gs_call hw _ _ _ rfl enter_same4 #[.agg x.C, .agg y.C] (map2 (Eq.trans (dep 9 rfl 34 rfl) (vF_yes (on_g hc he) _)) (Eq.trans (dep 10 rfl 35 rfl) (vF_yes (on_g hc he) _))) (ret_step (kS _ hB) (fun _ => (vF_yes (on_g hc he) _).symm))) (fun hn => vF_no hn _)) ?_
    refine Steps.cons (fun a' w' hG hB dep => gs_pick (want_none rfl) _ _ _ rfl (true && true) (dep 8 rfl 33 rfl) (id (pick_and2 (c := true) rfl (dep 11 rfl 36 rfl)))) ?_
    refine Steps.cons (fun a' w' hG hB dep => gs_move (want_none rfl) _ rfl (id (dep 12 rfl 37 rfl))) ?_
    refine Steps.cons (fun a' w' hG hB dep => gs_guard (c := true) (b' := ((true && true) && true)) rfl rfl (dep 13 rfl 38 rfl) (fun hc he hw => gs_load_nd hw _ rfl g3 0 (hG.other 3 rfl) _ ⟨row_blk (blk_then k3 hB), hcs8⟩ (vF_yes (on_g hc he) _).symm) (fun hn => vF_no hn _)) ?_
    refine Steps.cons (fun a' w' hG hB dep => gs_guard (c := true) (b' := ((true && true) && true)) rfl rfl (dep 13 rfl 38 rfl) (fun hc he hw => gs_call hw _ _ _ rfl enter_nodes4 #[.agg cs] (map1 (Eq.trans (dep 14 rfl 39 rfl) (vF_yes (on_g hc he) _))) (ret_step ((kN _ hB).mono fun e w h => ⟨h.2, h.1⟩) (fun _ => (vF_yes (on_g hc he) _).symm))) (fun hn => vF_no hn _)) ?_
    refine Steps.cons (fun a' w' hG hB dep => gs_guard (c := true) (b' := ((true && true) && true)) rfl rfl (dep 13 rfl 38 rfl) (fun hc he hw => gs_gtr_int hw _ _ _ _ rfl _ _ _ (Eq.trans (dep 15 rfl 40 rfl) (vF_yes (on_g hc he) _)) rfl (Eq.trans (congrArg Value.bool hbn.out) (vF_yes (on_g hc he) _).symm)) (fun hn => vF_no hn _)) ?_
    refine Steps.cons (fun a' w' hG hB dep => gs_guard (c := true) (b' := ((true && true) && true)) rfl rfl (dep 13 rfl 38 rfl) (fun hc he hw => gs_move hw _ rfl (Eq.trans (Eq.trans (dep 16 rfl 41 rfl) (vF_yes (on_g hc he) _)) (vF_yes (on_g hc he) _).symm)) (fun hn => vF_no hn _)) ?_
    refine Steps.cons (fun a' w' hG hB dep => gs_guard (c := (true && (((true && true) && true) == true))) (b' := bn) rfl rfl (dep 17 rfl 42 rfl) (fun hc he hw => gs_load_nd hw _ rfl g3 0 (hG.other 3 rfl) _ ⟨row_blk (blk_then k3 hB), hcs8⟩ (vF_yes (on_g hc he) _).symm) (fun hn => vF_no hn _)) ?_
    refine Steps.cons (fun a' w' hG hB dep => gs_guard (c := (true && (((true && true) && true) == true))) (b' := bn) rfl rfl (dep 17 rfl 42 rfl) (fun hc he hw => gs_call hw _ _ _ rfl enter_placesE4 #[.agg cs] (map1 (Eq.trans (dep 18 rfl 43 rfl) (vF_yes (on_g hc he) _))) (ret_step (kE _ hB) (fun _ => (vF_yes (on_g hc he) _).symm))) (fun hn => vF_no hn _)) ?_
    refine Steps.cons (fun a' w' hG hB dep => gs_guard (c := (true && (((true && true) && true) == true))) (b' := bn) rfl rfl (dep 17 rfl 42 rfl) (fun hc he hw => gs_load_nd hw _ rfl g3 0 (hG.other 3 rfl) _ ⟨row_blk (blk_then k3 hB), hcs8⟩ (vF_yes (on_g hc he) _).symm) (fun hn => vF_no hn _)) ?_
    refine Steps.cons (fun a' w' hG hB dep => gs_guard (c := (true && (((true && true) && true) == true))) (b' := bn) rfl rfl (dep 17 rfl 42 rfl) (fun hc he hw => gs_call hw _ _ _ rfl enter_placesR4 #[.agg cs] (map1 (Eq.trans (dep 20 rfl 45 rfl) (vF_yes (on_g hc he) _))) (ret_step (kR _ hB) (fun _ => (vF_yes (on_g hc he) _).symm))) (fun hn => vF_no hn _)) ?_
    refine Steps.cons (fun a' w' hG hB dep => gs_guard (c := (true && (((true && true) && true) == true))) (b' := bn) rfl rfl (dep 17 rfl 42 rfl) (fun hc he hw => gs_eql_int hw _ _ _ _ rfl _ _ _ (Eq.trans (dep 19 rfl 44 rfl) (vF_yes (on_g hc he) _)) (Eq.trans (dep 21 rfl 46 rfl) (vF_yes (on_g hc he) _)) (Eq.trans (congrArg Value.bool (beq_self_eq_true _)) (vF_yes (on_g hc he) _).symm)) (fun hn => vF_no hn _)) ?_
    refine Steps.cons (fun a' w' hG hB dep => gs_guard (c := true) (b' := ((true && true) && true)) rfl rfl (dep 13 rfl 38 rfl) (fun hc he hw => gs_pick hw _ _ _ rfl bn (Eq.trans (dep 17 rfl 42 rfl) (vF_yes (on_g hc he) _)) (Eq.trans (pick_or2 (c := (true && (((true && true) && true) == true))) (on_g hc he) (dep 22 rfl 47 rfl)) (vF_yes (on_g hc he) _).symm)) (fun hn => vF_no hn _)) ?_
    refine Steps.cons (fun a' w' hG hB dep => gs_pick (want_none rfl) _ _ _ rfl ((true && true) && true) (dep 13 rfl 38 rfl) (id (pick_and2 (c := true) rfl (dep 23 rfl 48 rfl)))) ?_
    refine Steps.cons (fun a' w' hG hB dep => gs_move (want_none rfl) _ rfl (id (dep 24 rfl 49 rfl))) ?_
    refine Steps.cons (fun a' w' hG hB dep => gs_guard (c := true) (b' := (((true && true) && true) && (bn || true))) rfl rfl (dep 25 rfl 50 rfl) (fun hc he hw => gs_load_nd hw _ rfl g5 0 (hG.other 5 rfl) _ ⟨row_blk (blk_then k5 hB), rfl⟩ (vF_yes (on_g hc he) _).symm) (fun hn => vF_no hn _)) ?_
    refine Steps.cons (fun a' w' hG hB dep => gs_guard (c := true) (b' := (((true && true) && true) && (bn || true))) rfl rfl (dep 25 rfl 50 rfl) (fun hc he hw => gs_call hw _ _ _ rfl enter_placesE4 #[.agg x.C] (map1 (Eq.trans (dep 26 rfl 51 rfl) (vF_yes (on_g hc he) _))) (ret_step (kEx _ hB) (fun _ => (vF_yes (on_g hc he) _).symm))) (fun hn => vF_no hn _)) ?_
    refine Steps.cons (fun a' w' hG hB dep => gs_guard (c := true) (b' := (((true && true) && true) && (bn || true))) rfl rfl (dep 25 rfl 50 rfl) (fun hc he hw => gs_load_nd hw _ rfl g8 0 (hG.other 8 rfl) _ ⟨row_blk (blk_then k8 hB), rfl⟩ (vF_yes (on_g hc he) _).symm) (fun hn => vF_no hn _)) ?_
    refine Steps.cons (fun a' w' hG hB dep => gs_guard (c := true) (b' := (((true && true) && true) && (bn || true))) rfl rfl (dep 25 rfl 50 rfl) (fun hc he hw => gs_call hw _ _ _ rfl enter_placesR4 #[.agg y.C] (map1 (Eq.trans (dep 28 rfl 53 rfl) (vF_yes (on_g hc he) _))) (ret_step (kRy _ hB) (fun _ => (vF_yes (on_g hc he) _).symm))) (fun hn => vF_no hn _)) ?_
    refine Steps.cons (fun a' w' hG hB dep => gs_guard (c := true) (b' := (((true && true) && true) && (bn || true))) rfl rfl (dep 25 rfl 50 rfl) (fun hc he hw => gs_eql_int hw _ _ _ _ rfl _ _ _ (Eq.trans (dep 27 rfl 52 rfl) (vF_yes (on_g hc he) _)) (Eq.trans (dep 29 rfl 54 rfl) (vF_yes (on_g hc he) _)) (Eq.trans (congrArg Value.bool (beq_self_eq_true _)) (vF_yes (on_g hc he) _).symm)) (fun hn => vF_no hn _)) ?_
    refine Steps.cons (fun a' w' hG hB dep => gs_pick (want_none rfl) _ _ _ rfl (((true && true) && true) && (bn || true)) (dep 25 rfl 50 rfl) (id (pick_and2 (c := true) rfl (dep 30 rfl 55 rfl)))) ?_
    refine Steps.cons (fun a' w' hG hB dep => gs_assign (want_none rfl) _ rfl (id (dep 31 rfl 56 rfl))) ?_
    exact Steps.nil
  intro u w7 hB7 ans
  have u4 : u 4 = .bool (((((true && true) && true) && (bn || true)) && true)) := ans 32 4 (by decide) rfl
  clear ans
  simp only [putAll, List.foldl_cons, List.foldl_nil, Act.put, List.setIfInBounds_toArray, List.set_cons_zero, List.set_cons_succ, u4]
  clear u4
  simp only [List.drop]
  refine wpList_nil ?_
  go_wp2_with (fail)
  go_ret
  exact ⟨by cases bn <;> rfl, below_then hBc hB7⟩
end Go.Proofs.Ytajainmldcnaeaa
namespace Go.Proofs.Ytajainmldcnaeaa
open Go.ChangeShapes Go.WideShapes Go.ChangeAt Go.RowKit Go.Joins
set_option linter.unusedVariables false
set_option linter.unusedSimpArgs false

theorem cells_node : Try.prog.cellsOf 27 = 8 := by kernel_rfl
theorem cells_slN : Try.prog.cellsOf 25 = 1 := by kernel_rfl
section
variable {H : Type}
theorem bulk_pos (d : DataW H) : 1 ≤ Rows.uptoBulk d := by
  cases d with
  | lit l => cases l <;> simp [Rows.uptoBulk]
  | _ => simp [Rows.uptoBulk]
theorem bulk_len : ∀ l : List (DataW H), l.length ≤ Rows.uptoBulkAll l
  | [] => by simp [Rows.uptoBulkAll]
  | d :: l => by
    have := bulk_pos d
    have := bulk_len l
    simp only [List.length_cons, Rows.uptoBulkAll]
    omega
theorem bulk_mem : ∀ (l : List (DataW H)) (d : DataW H), d ∈ l → Rows.uptoBulk d ≤ Rows.uptoBulkAll l
  | [], d, h => by simp at h
  | e :: l, d, h => by
    simp only [Rows.uptoBulkAll]
    rcases List.mem_cons.1 h with rfl | h
    · omega
    · have := bulk_mem l d h
      omega
end
section
variable {H : Type} {enc : TypeId × Value → H} {W : World} {held : Bool}
set_option maxRecDepth 100000 in
/-- a slice, opened from its reading, where what is read is of bulk at most K -/
theorem trod_slice_q {α : Type} {ea : α → Array Value} {t e : TypeId} {size K fuel : Nat} {v : Value} {x : DataW H × List MemPlace}
    (ht : Try.prog.underlying t = some (.slice e)) (hc : Try.prog.cellsOf e = size) (hpos : 0 < size) (hsz : ∀ y, (ea y).size = size)
    (hel : ∀ (fuel : Nat) (cs : List Value) (x : DataW H × List MemPlace), DataW.trod enc Try.prog W 0 (fun _ => true) held fuel e cs = some x → Rows.uptoBulk x.1 + 1 ≤ K → ∃ y, cs = (ea y).toList)
    (hf : DataW.trod enc Try.prog W 0 (fun _ => true) held fuel t [v] = some x) (hK : Rows.uptoBulk x.1 ≤ K) :
    ∃ (A : Option Addr) (n c : Nat) (l : List α), v = .slice A n c ∧ n = l.length ∧ n ≤ K ∧ SliceOf W W.heap.size size ea A l := by
  rcases Deep.open_slice ht hf with ⟨hcs, hx⟩ | ⟨a, len, cap, m, n', D, Pl, hcs, _, hl, hm, hmm, hx, hi⟩
  · injection hcs with hcs _
    subst hcs
    exact ⟨none, 0, 0, [], rfl, rfl, by omega, .inl rfl⟩
  · injection hcs with hcs _
    subst hcs
    have hmc : m = cap := by simpa using hmm
    subst hmc
    rw [hx] at hK
    simp only [Rows.uptoBulk] at hK
    have hlen := bulk_len ((List.range len).map D)
    rw [List.length_map, List.length_range] at hlen
    have key : ∀ i, i < len → ∃ y : α, W.cells? 0 (a.add (i * size)) size = some (ea y).toList := by
      intro i hlt
      obtain ⟨cs', h1, h2⟩ := hi i (by omega)
      have hb := bulk_mem ((List.range len).map D) (D i) (List.mem_map_of_mem (List.mem_range.2 hlt))
      obtain ⟨y, hy⟩ := hel _ _ _ h2 (by simp only; omega)
      rw [hc] at h1
      exact ⟨y, by rw [h1, hy]⟩
    obtain ⟨l, hll, hp⟩ := choose_list len key
    refine ⟨some a, len, m, l, rfl, hll.symm, by omega, ?_⟩
    rcases Nat.eq_zero_or_pos l.length with h0 | h0
    · exact .inl (List.eq_nil_of_length_eq_zero h0)
    · have hcell : ∀ i (h : i < l.length) (j : Nat) (u : Value), (ea l[i])[j]? = some u → W.cell? ((a.add (i * size)).add j) = some u := by
        intro i h j u hu
        obtain ⟨_, hlen, hget⟩ := World.cells?_some (hp i h)
        have hj : j < size := by
          rw [← hsz l[i]]
          rcases Nat.lt_or_ge j (ea l[i]).size with h1 | h1
          · exact h1
          · rw [Array.getElem?_eq_none h1] at hu; cases hu
        rw [hget j hj]
        simpa using hu
      have hz : ∃ u, (ea l[0])[0]? = some u := ⟨_, Array.getElem?_eq_getElem (by rw [hsz]; exact hpos)⟩
      obtain ⟨u, hu⟩ := hz
      have h00 := hcell 0 h0 0 u hu
      have hsp : a.spot = none := by
        have := spot_none h00
        simpa [Addr.add] using this
      obtain ⟨b, off, spot⟩ := a
      simp only at hsp
      subst hsp
      have hb : b < W.heap.size := by
        have := block_lt_of_cell h00
        simpa [Addr.add] using this
      refine .inr ⟨b, off, rfl, hb, fun i h j u hu => ?_⟩
      have := hcell i h j u hu
      rw [addr_add, addr_add] at this
      exact this
theorem bulk_nth {xs : List (DataW H × List MemPlace)} (i : Nat) (h : i < xs.length) : Rows.uptoBulk (xs[i]).1 ≤ Rows.uptoBulkAll (xs.map (·.1)) :=
  bulk_mem _ _ (List.mem_map_of_mem (List.getElem_mem h))
set_option maxRecDepth 100000 in
theorem trod_node : ∀ (K fuel : Nat) (cs : List Value) (x : DataW H × List MemPlace), K ≤ 1048576 → DataW.trod enc Try.prog W 0 (fun _ => true) held fuel 27 cs = some x → Rows.uptoBulk x.1 ≤ K →
    ∃ (nd : Nd) (c : Array Value), cs = c.toList ∧ c.size = 8 ∧ NdIn W W.heap.size nd c := by
  intro K
  induction K with
  | zero =>
    intro fuel cs x _ _ h
    have := bulk_pos x.1
    omega
  | succ K ih =>
    intro fuel cs x hK h hb
    obtain ⟨xs, n, _, hx, hl, hlen, hf⟩ := DataW.trod_struct Try.underlying27 h
    rw [cells_node] at hl
    obtain ⟨c0, c1, c2, c3, c4, c5, c6, c7, rfl⟩ : ∃ c0 c1 c2 c3 c4 c5 c6 c7 : Value, cs = [c0, c1, c2, c3, c4, c5, c6, c7] := by
      clear h hf hx ih
      match cs, hl with
      | [c0, c1, c2, c3, c4, c5, c6, c7], _ => exact ⟨_, _, _, _, _, _, _, _, rfl⟩
    have xsl : xs.length = 5 := hlen
    have h0 : DataW.trod enc Try.prog W 0 (fun _ => true) held n 3 ((([c0, c1, c2, c3, c4, c5, c6, c7] : List Value).drop 0).take (Try.prog.cellsOf 3)) = xs[0]? := hf 0 _ rfl
    have h1 : DataW.trod enc Try.prog W 0 (fun _ => true) held n 24 ((([c0, c1, c2, c3, c4, c5, c6, c7] : List Value).drop 1).take (Try.prog.cellsOf 24)) = xs[1]? := hf 1 _ rfl
    have h2 : DataW.trod enc Try.prog W 0 (fun _ => true) held n 25 ((([c0, c1, c2, c3, c4, c5, c6, c7] : List Value).drop 5).take (Try.prog.cellsOf 25)) = xs[2]? := hf 2 _ rfl
    have h3 : DataW.trod enc Try.prog W 0 (fun _ => true) held n 3 ((([c0, c1, c2, c3, c4, c5, c6, c7] : List Value).drop 6).take (Try.prog.cellsOf 3)) = xs[3]? := hf 3 _ rfl
    have h4 : DataW.trod enc Try.prog W 0 (fun _ => true) held n 3 ((([c0, c1, c2, c3, c4, c5, c6, c7] : List Value).drop 7).take (Try.prog.cellsOf 3)) = xs[4]? := hf 4 _ rfl
    rw [cells_int, List.getElem?_eq_getElem (by omega)] at h0 h3 h4
    rw [cells_set, List.getElem?_eq_getElem (by omega)] at h1
    rw [cells_slN, List.getElem?_eq_getElem (by omega)] at h2
    have hb2 := bulk_nth 2 (show 2 < xs.length by omega)
    rw [hx] at hb
    simp only [Rows.uptoBulk] at hb
    obtain ⟨z0, e0, _, _⟩ := DataW.trod_int Try.underlying3 h0
    obtain ⟨st, e1⟩ := trod_set h1
    obtain ⟨z3, e3, _, _⟩ := DataW.trod_int Try.underlying3 h3
    obtain ⟨z4, e4, _, _⟩ := DataW.trod_int Try.underlying3 h4
    have h2' : DataW.trod enc Try.prog W 0 (fun _ => true) held n 25 [c5] = some xs[2] := h2
    obtain ⟨A, len, cap, l, rfl, hn, hnK, hsl⟩ := trod_slice_q (K := K) (size := 8) (ea := fun z : {z : Nd × Array Value // z.2.size = 8 ∧ NdIn W W.heap.size z.1 z.2} => z.1.2) Try.underlying25 cells_node (by omega) (fun z => z.2.1) (fun fuel cs x hx hb => by
      obtain ⟨nd, c, e, hs8, hnd⟩ := ih fuel cs x (by omega) hx (by omega)
      exact ⟨⟨(nd, c), hs8, hnd⟩, e⟩) h2' (by omega)
    simp [setC] at e0 e1 e3 e4
    obtain ⟨e11, e12, e13, e14⟩ := e1
    subst e0 e11 e12 e13 e14 e3 e4
    refine ⟨.mk z0 st (l.map (·.1.1)) z3 z4, nodeC z0 st A len cap z3 z4, rfl, rfl, .mk z0 st _ z3 z4 A len cap (l.map (·.1.2)) (by rw [List.length_map]; exact hn) (by simp) (by omega) ?_ (fun i h h2 => ?_)⟩
    · rcases hsl with h | ⟨b, off, q1, q2, q3⟩
      · exact .inl (by rw [h]; rfl)
      · refine .inr ⟨b, off, q1, q2, fun i hi => ?_⟩
        rw [List.getElem_map]
        exact q3 i (by simpa using hi)
    · rw [List.getElem_map, List.getElem_map]
      exact (l[i]'(by simpa using h)).2.2
variable {r : Reach} {b0 : Nat} {v : Value} {d : DataW H} {ps : List MemPlace}
set_option maxRecDepth 100000 in
theorem open_node (hval : Value.okWide Try.prog W r b0 27 v) (hd : DataW.Trod enc Try.prog W 0 (fun _ => true) held 27 v d ps) (hb : Rows.uptoBulk d ≤ 1048576) :
    ∃ (nd : Nd) (c : Array Value), v = .agg c ∧ NdIn W W.heap.size nd c := by
  have hv : ∃ cs, v = .agg cs := by
    unfold Value.okWide at hval
    rw [Try.underlying27] at hval
    obtain ⟨cs, h, _⟩ := hval
    exact ⟨cs, h⟩
  obtain ⟨cs, rfl⟩ := hv
  obtain ⟨fuel, hf⟩ := hd
  obtain ⟨nd, c, h1, _, h3⟩ := trod_node 1048576 _ _ _ (Nat.le_refl _) hf hb
  have : cs.toList = c.toList := by simpa [Value.cells] using h1
  exact ⟨nd, c, by rw [Array.toList_inj.1 this], h3⟩
end
end Go.Proofs.Ytajainmldcnaeaa
namespace Go.Proofs.Ytajainmldcnaeaa
open Go.ChangeShapes Go.WideShapes Go.ChangeAt Go.RowKit
open Go.ChangeMaps (open_string shut_string)
set_option linter.unusedVariables false
set_option linter.unusedSimpArgs false

set_option maxRecDepth 100000 in
theorem ereExact_contract (H : Type) (enc : TypeId × Value → H) (W : World) (base : Nat) (args : Array Value) (ds gs : List (DataW H)) (before : List MemPlace)
    (hval0 : ∀ (j : Nat) t v, Try.f3.params[j]? = some t → args[j]? = some v → Value.okWide Try.prog W .any base t v)
    (hcond : Rows.uptoSmall H (ds ++ gs) = true) (hM : Mx W)
    (hW : DataW.Whole enc Try.prog Try.f3.params.toList Rows.ereExactSpec.vars false W args.toList ds gs before) (F : Stop.Interp) :
    Calls Try.prog 3 args W fun e W' => ∃ v, e = .returned v ∧ ((Rows.OpenSpec.upto Rows.ereExactSpec).at F).post enc Try.prog Try.f3 false true false false W args v W' := by
  have hW' := hW
  obtain ⟨p, q, hA0, hV, rfl, hfz, hnd⟩ := hW
  have hA : DataW.TrodAll enc Try.prog W 0 (fun _ => true) true Try.f3.params.toList args.toList ds p := hA0
  have hval := hval0
  rw [Try.params3] at hA hval
  obtain ⟨v0, vs0, d0, ds0, p0, q0, hargs, rfl, rfl, h0, r0⟩ := trodAll_cons hA
  obtain ⟨v1, vs1, d1, ds1, p1, q1, rfl, rfl, rfl, h1, r1⟩ := trodAll_cons r0
  obtain ⟨rfl, rfl, rfl⟩ := trodAll_nil r1
  obtain rfl : args = #[v0, v1] := by cases args; simp_all
  obtain ⟨rfl, rfl⟩ := trodVars_none hV
  have k0 := h0
  have lt0 : ∀ x ∈ p0, x.block < W.heap.size := by obtain ⟨m, hm⟩ := k0; exact DataW.trod_lt m _ _ _ hm
  have k1 := h1
  have lt1 : ∀ x ∈ p1, x.block < W.heap.size := by obtain ⟨m, hm⟩ := k1; exact DataW.trod_lt m _ _ _ hm
  have hbulk : Rows.uptoBulkAll ([d0, d1] ++ []) ≤ 1048576 := of_decide_eq_true hcond
  simp only [List.append_nil, Rows.uptoBulkAll] at hbulk
  obtain ⟨s0, rfl, hd0, _⟩ := open_string Try.underlying9 (hval 0 9 v0 rfl rfl) h0
  have b0 : s0.size ≤ 1048576 := by
    rw [hd0] at hbulk
    have := bulk_str (H := H) (l := s0.data.toList) (K := 1048576) (by omega)
    simpa using this
  obtain ⟨nd1, cs1, rfl, hin1⟩ := open_node (hval 1 27 v1 rfl rfl) h1 (by omega)
  clear hA0 hval0
  refine (exact_any s0 nd1 cs1 W hM hin1).mono fun e W' ⟨he, bel⟩ => ?_
  subst he
  exact ⟨_, rfl, _, _, _, [], _, [], hW', trodAll_mk1 (shut_bool Try.underlying4 _), (trodAll_cons_mk (Below.trod laidOut (by kernel_rfl) (of_decide_eq_true (by kernel_rfl)) k0 bel lt0) (trodAll_cons_mk (Below.trod laidOut (by kernel_rfl) (of_decide_eq_true (by kernel_rfl)) k1 bel lt1) trodAll_mk0)), rfl, bel.frame _, fun h => by cases h⟩

set_option maxRecDepth 100000 in
theorem ereExact_lifted (os : Os) (started : os.Started) (H : Type) (enc : TypeId × Value → H) (F : Stop.Interp) :
    ReturnsInHanded {} Try.checked os 3 .any ((Rows.OpenSpec.upto Rows.ereExactSpec).pre6 enc Try.prog Try.f3 Rows.ereExactUptoRow.domain false) (((Rows.OpenSpec.upto Rows.ereExactSpec).at F).post enc Try.prog Try.f3 false true false false) := by
  refine returnsInHanded_of_cond_shaped (C := Try.checked) (s := Rows.OpenSpec.upto Rows.ereExactSpec) (k := Rows.uptoSmall) rfl own started (by kernel_rfl) Try.func3
    (OpenSpec.witness (enc := enc) (C := Try.checked) (s := Rows.OpenSpec.upto Rows.ereExactSpec) (k := Rows.uptoSmall) rfl false ⟨#[], #[.string ⟨#[]⟩, .agg #[.int .i64 0, .int .u64 0, .int .u64 0, .int .u64 0, .int .u64 0, .slice none 0 0, .int .i64 0, .int .i64 0]], []⟩ 8 (by kernel_rfl) (by kernel_rfl) (by kernel_rfl)
      (x := ([.lit (.string []), .agg [.lit (.int .i64 0), .agg [.lit (.int .u64 0), .lit (.int .u64 0), .lit (.int .u64 0), .lit (.int .u64 0)], .nil, .lit (.int .i64 0), .lit (.int .i64 0)]], [], [])) (by kernel_rfl) rfl (by kernel_rfl)) ?_
  intro W base args ds gs before hval hW _ hk hsh _
  exact ereExact_contract H enc W base args ds gs before hval hk (mx_of hsh) hW F

theorem ereExactUpto_holds : Rows.EreExactUptoSaid :=
  OpenClaim.holds_of_cond 3 Try.f3 rfl rfl rfl rfl rfl rfl rfl ⟨rfl, rfl, rfl, rfl, rfl⟩ rfl rfl rfl rfl rfl (by kernel_rfl) Try.func3 (by kernel_rfl)
    (of_decide_eq_true (by kernel_rfl)) (by unfold Func.isWrapper; first | (rw [if_pos (by decide +kernel)]; kernel_rfl) | (rw [if_neg (by decide +kernel)]; exact ⟨rfl, rfl⟩))
    (fun os started H enc _ F => ereExact_lifted os started H enc F)
#print axioms ereExactUpto_holds
end Go.Proofs.Ytajainmldcnaeaa
