/- subset.Right: whether a table's numbers fit one another. No condition beyond those named in each lemma. -/
import Derived.Test.YtgahdookojbbiaaLRight
namespace Go.Proofs.Ytgahdookojbbiaa
open Go.RowKit Go.Maps
set_option linter.unusedVariables false
set_option linter.unusedSimpArgs false
attribute [local go_sem] Oper.semAt_some

set_option maxRecDepth 100000 in
set_option maxHeartbeats 4000000 in
theorem within_any (x : TV) (y : Nat) (z : Int) (hy32 : y < 4294967296) (hfo : x.fo.length = x.rs.length) (w : World) (hT : TabIn w w.heap.size x) :
    Calls Try.prog 55 #[.agg x.C', .int .u32 (y : Nat), .int .i64 z] w fun e w' => ∃ b : Bool, (b = true ↔ 0 ≤ z ∧ z < x.rs.length ∧ y &&& x.fo.getD z.toNat 0 = y) ∧ e = .returned (.bool b) ∧ Below w.heap.size w w' := by
  unfold TV.C'
  replace hfo := Lib.hid hfo
  go_enter Try.func55, Try.ntmps55
  obtain ⟨A, hA⟩ : ∃ A, A = x.A := ⟨_, rfl⟩
  have h1 := Blk.new w 47 (dfaC x.f x.A x.rs.length x.c x.B x.fo.length x.d x.C x.en.length x.e)
  have hB1 := below_alloc (Below.refl w.heap.size w) (.cells (dfaC x.f x.A x.rs.length x.c x.B x.fo.length x.d x.C x.en.length x.e) 47)
  go_upto_region 1 with (fail)
  obtain ⟨w1, hw1⟩ : ∃ y, y = w.alloc (.cells (dfaC x.f x.A x.rs.length x.c x.B x.fo.length x.d x.C x.en.length x.e) 47) := ⟨_, rfl⟩
  rw [← hw1] at h1 hB1 ⊢
  clear hw1 hA A
  by_cases hzr : 0 ≤ z ∧ z < x.rs.length
  · obtain ⟨t, rfl⟩ := Int.eq_ofNat_of_zero_le hzr.1
    have htl : t < x.rs.length := by omega
    have htF : t < x.fo.length := by rw [hfo.out]; exact htl
    obtain ⟨bF, oF, hFo, hbF, hrF⟩ := hT.fo.at_ (by omega)
    replace hFo := Lib.hid hFo
    obtain ⟨v, hv⟩ : ∃ v, v = x.fo[t] := ⟨_, rfl⟩
    have hv32 : v < 4294967296 := by rw [hv]; exact hT.f32 _ (List.getElem_mem _)
    have cF : ∀ {X : World}, Below w1.heap.size w1 X → X.cell? ⟨w.heap.size, 257, none⟩ = some (.slice (some ⟨bF, oF, none⟩) x.fo.length x.d) := fun hB => by rw [← hFo.out]; exact blk_d2 (blk_then h1 hB)
    have cv : ∀ {X : World}, Below w1.heap.size w1 X → X.cell? ⟨bF, oF + t * 1, none⟩ = some (.int .u32 ((v : Nat) : Int)) := fun hB => by rw [hv]; exact cell_keep (hrF t htF 0 _ rfl) hbF (below_then hB1 hB)
    have vT : x.fo.getD ((t : Nat) : Int).toNat 0 = v := by rw [hv, Int.toNat_natCast]; exact getD_at x.fo 0 htF
    replace vT := Lib.hid vT
    clear hv
    obtain ⟨q, hq⟩ : ∃ q, (((y &&& (4294967295 - v) : Nat) : Int) == 0) = q := ⟨_, rfl⟩
    have hp1 : decide ((0 : Int) ≤ ((t : Nat) : Int)) = true := decide_eq_true (by omega)
    have hp2 : decide (((t : Nat) : Int) < ((x.rs.length : Nat) : Int)) = true := decide_eq_true (by omega)
    refine wp_region_text 20 [eqS (.int .i64 (((t : Nat) : Int))), eqS (.bool true), eqS (.bool true), eqS (vF (true && (true == true)) (.int .i64 (((t : Nat) : Int)))), eqS (vF (true && (true == true)) (.pointer (some ⟨w.heap.size, 256, none⟩))), eqS (vF (true && (true == true)) (.slice x.A x.rs.length x.c)), eqS (vF (true && (true == true)) (.int .i64 (((x.rs.length : Nat) : Int)))), eqS (vF (true && (true == true)) (.bool true)), eqS (.bool (true && true)), eqS (.bool (true && true)), eqS (vF (true && ((true && true) == true)) (.int .u32 (((y : Nat) : Int)))), eqS (vF (true && ((true && true) == true)) (.pointer (some ⟨w.heap.size, 257, none⟩))), eqS (vF (true && ((true && true) == true)) (.slice (some ⟨bF, oF, none⟩) x.fo.length x.d)), eqS (vF (true && ((true && true) == true)) (.int .i64 (((t : Nat) : Int)))), eqS (vF (true && ((true && true) == true)) (.pointer (some ⟨bF, oF + t * 1, none⟩))), eqS (vF (true && ((true && true) == true)) (.int .u32 (((v : Nat) : Int)))), eqS (vF (true && ((true && true) == true)) (.int .u32 ((((y) &&& (4294967295 - (v)) : Nat) : Int)))), eqS (vF (true && ((true && true) == true)) (.bool q)), eqS (.bool ((true && true) && q)), eqS (.bool ((true && true) && q))] [7, 8, 9, 10, 11, 12, 13, 14, 15, 16, 17, 18, 19, 20, 21, 22, 23, 24, 25, 6] (by kernel_rfl) rfl ?_ ?_
    · skip
      refine Steps.cons (fun a' w' hG hB dep => gs_move (want_none rfl) _ rfl (id (hG.other 2 rfl))) ?_
      refine Steps.cons (fun a' w' hG hB dep => gs_geq_int (want_none rfl) _ _ _ _ rfl _ _ _ (dep 0 rfl 7 rfl) rfl (id (congrArg Value.bool hp1))) ?_
      refine Steps.cons (fun a' w' hG hB dep => gs_move (want_none rfl) _ rfl (id (dep 1 rfl 8 rfl))) ?_
      refine Steps.cons (fun a' w' hG hB dep => gs_guard (c := true) (b' := true) rfl rfl (dep 2 rfl 9 rfl) (fun hc he hw => gs_move hw _ rfl (Eq.trans (hG.other 2 rfl) (vF_yes (on_g hc he) _).symm)) (fun hn => vF_no hn _)) ?_
      refine Steps.cons (fun a' w' hG hB dep => gs_guard (c := true) (b' := true) rfl rfl (dep 2 rfl 9 rfl) (fun hc he hw => gs_field hw _ _ _ rfl w.heap.size (0) (256) (hG.other 3 rfl) (fun wz => field_dfa_1 w.heap.size (0) wz) (vF_yes (on_g hc he) _).symm) (fun hn => vF_no hn _)) ?_
      refine Steps.cons (fun a' w' hG hB dep => gs_guard (c := true) (b' := true) rfl rfl (dep 2 rfl 9 rfl) (fun hc he hw => gs_load1 hw _ _ rfl w.heap.size (256) (Eq.trans (dep 4 rfl 11 rfl) (vF_yes (on_g hc he) _)) (.slice x.A x.rs.length x.c) (blk_d1 (blk_then h1 hB)) _ Try.underlying45 rfl (vF_yes (on_g hc he) _).symm) (fun hn => vF_no hn _)) ?_
      refine Steps.cons (fun a' w' hG hB dep => gs_guard (c := true) (b' := true) rfl rfl (dep 2 rfl 9 rfl) (fun hc he hw => gs_len hw _ _ rfl under_rows _ x.rs.length x.c (Eq.trans (dep 5 rfl 12 rfl) (vF_yes (on_g hc he) _)) (vF_yes (on_g hc he) _).symm) (fun hn => vF_no hn _)) ?_
      refine Steps.cons (fun a' w' hG hB dep => gs_guard (c := true) (b' := true) rfl rfl (dep 2 rfl 9 rfl) (fun hc he hw => gs_lss_int hw _ _ _ _ rfl _ _ _ (Eq.trans (dep 3 rfl 10 rfl) (vF_yes (on_g hc he) _)) (Eq.trans (dep 6 rfl 13 rfl) (vF_yes (on_g hc he) _)) (Eq.trans (congrArg Value.bool hp2) (vF_yes (on_g hc he) _).symm)) (fun hn => vF_no hn _)) ?_
      refine Steps.cons (fun a' w' hG hB dep => gs_pick (want_none rfl) _ _ _ rfl true (dep 2 rfl 9 rfl) (id (pick_and2 (c := true) rfl (dep 7 rfl 14 rfl)))) ?_
      refine Steps.cons (fun a' w' hG hB dep => gs_move (want_none rfl) _ rfl (id (dep 8 rfl 15 rfl))) ?_
      refine Steps.cons (fun a' w' hG hB dep => gs_guard (c := true) (b' := (true && true)) rfl rfl (dep 9 rfl 16 rfl) (fun hc he hw => gs_move hw _ rfl (Eq.trans (hG.other 1 rfl) (vF_yes (on_g hc he) _).symm)) (fun hn => vF_no hn _)) ?_
      refine Steps.cons (fun a' w' hG hB dep => gs_guard (c := true) (b' := (true && true)) rfl rfl (dep 9 rfl 16 rfl) (fun hc he hw => gs_field hw _ _ _ rfl w.heap.size (0) (257) (hG.other 3 rfl) (fun wz => field_dfa_2 w.heap.size (0) wz) (vF_yes (on_g hc he) _).symm) (fun hn => vF_no hn _)) ?_
      refine Steps.cons (fun a' w' hG hB dep => gs_guard (c := true) (b' := (true && true)) rfl rfl (dep 9 rfl 16 rfl) (fun hc he hw => gs_load1 hw _ _ rfl w.heap.size (257) (Eq.trans (dep 11 rfl 18 rfl) (vF_yes (on_g hc he) _)) (.slice (some ⟨bF, oF, none⟩) x.fo.length x.d) (cF hB) _ Try.underlying32 rfl (vF_yes (on_g hc he) _).symm) (fun hn => vF_no hn _)) ?_
      refine Steps.cons (fun a' w' hG hB dep => gs_guard (c := true) (b' := (true && true)) rfl rfl (dep 9 rfl 16 rfl) (fun hc he hw => gs_move hw _ rfl (Eq.trans (hG.other 2 rfl) (vF_yes (on_g hc he) _).symm)) (fun hn => vF_no hn _)) ?_
      refine Steps.cons (fun a' w' hG hB dep => gs_guard (c := true) (b' := (true && true)) rfl rfl (dep 9 rfl 16 rfl) (fun hc he hw => gs_index hw _ _ _ rfl under_rules 1 size_ruleE bF oF x.fo.length x.d (t) (Eq.trans (dep 12 rfl 19 rfl) (vF_yes (on_g hc he) _)) (Eq.trans (dep 13 rfl 20 rfl) (vF_yes (on_g hc he) _)) htF (vF_yes (on_g hc he) _).symm) (fun hn => vF_no hn _)) ?_
      refine Steps.cons (fun a' w' hG hB dep => gs_guard (c := true) (b' := (true && true)) rfl rfl (dep 9 rfl 16 rfl) (fun hc he hw => gs_load1 hw _ _ rfl bF (oF + t * 1) (Eq.trans (dep 14 rfl 21 rfl) (vF_yes (on_g hc he) _)) (.int .u32 (((v : Nat) : Int))) (cv hB) _ Try.underlying55 rfl (vF_yes (on_g hc he) _).symm) (fun hn => vF_no hn _)) ?_
      refine Steps.cons (fun a' w' hG hB dep => gs_guard (c := true) (b' := (true && true)) rfl rfl (dep 9 rfl 16 rfl) (fun hc he hw => gs_andnot_u32 hw _ _ _ _ rfl (y) (v) (Eq.trans (dep 10 rfl 17 rfl) (vF_yes (on_g hc he) _)) (Eq.trans (dep 15 rfl 22 rfl) (vF_yes (on_g hc he) _)) hy32 hv32 (vF_yes (on_g hc he) _).symm) (fun hn => vF_no hn _)) ?_
      refine Steps.cons (fun a' w' hG hB dep => gs_guard (c := true) (b' := (true && true)) rfl rfl (dep 9 rfl 16 rfl) (fun hc he hw => gs_eql_int hw _ _ _ _ rfl _ _ _ (Eq.trans (dep 16 rfl 23 rfl) (vF_yes (on_g hc he) _)) rfl (Eq.trans (congrArg Value.bool hq) (vF_yes (on_g hc he) _).symm)) (fun hn => vF_no hn _)) ?_
      refine Steps.cons (fun a' w' hG hB dep => gs_pick (want_none rfl) _ _ _ rfl (true && true) (dep 9 rfl 16 rfl) (id (pick_and2 (c := true) rfl (dep 17 rfl 24 rfl)))) ?_
      refine Steps.cons (fun a' w' hG hB dep => gs_assign (want_none rfl) _ rfl (id (dep 18 rfl 25 rfl))) ?_
      exact Steps.nil
    intro u w2 hw2 ans
    have hus6 : u 6 = (.bool ((true && true) && q)) := ans 19 6 (by decide) rfl
    clear ans
    simp only [putAll, List.foldl_cons, List.foldl_nil, Act.put, List.setIfInBounds_toArray, List.set_cons_zero, List.set_cons_succ, hus6]
    clear hus6
    simp only [List.drop]
    refine wpList_nil ?_
    have hB2 := below_then hB1 hw2
    have hres : (q = true ↔ 0 ≤ ((t : Nat) : Int) ∧ ((t : Nat) : Int) < x.rs.length ∧ y &&& x.fo.getD ((t : Nat) : Int).toNat 0 = y) := by
      rw [vT.out, ← andnot_zero y v hy32 hv32, ← hq, beq_iff_eq]
      constructor
      · intro h; exact ⟨by omega, by omega, by omega⟩
      · intro h; have := h.2.2; omega
    replace hres := Lib.hid hres
    clear hp1 hp2 hq hw2 cF cv hzr
    go_wp2_with (fail)
    go_ret
    exact ⟨q, hres.out, by cases q <;> rfl, hB2⟩
  · obtain ⟨p, hp⟩ : ∃ p, decide ((0 : Int) ≤ z) = p := ⟨_, rfl⟩
    obtain ⟨q, hq⟩ : ∃ q, decide (z < ((x.rs.length : Nat) : Int)) = q := ⟨_, rfl⟩
    have hpq : (p && q) = false := by
      by_cases hz0 : 0 ≤ z
      · rw [← hq, decide_eq_false (by omega), Bool.and_false]
      · rw [← hp, decide_eq_false hz0, Bool.false_and]
    have hne : ¬ ((p && q) = true) := by rw [hpq]; decide
    replace hpq := Lib.hid hpq
    refine wp_region_text 20 [eqS (.int .i64 (z)), eqS (.bool p), eqS (.bool p), eqS (vF (true && (p == true)) (.int .i64 (z))), eqS (vF (true && (p == true)) (.pointer (some ⟨w.heap.size, 256, none⟩))), eqS (vF (true && (p == true)) (.slice x.A x.rs.length x.c)), eqS (vF (true && (p == true)) (.int .i64 (((x.rs.length : Nat) : Int)))), eqS (vF (true && (p == true)) (.bool q)), eqS (.bool (p && q)), eqS (.bool (p && q)), eqS (vF (true && ((p && q) == true)) undef), eqS (vF (true && ((p && q) == true)) undef), eqS (vF (true && ((p && q) == true)) undef), eqS (vF (true && ((p && q) == true)) undef), eqS (vF (true && ((p && q) == true)) undef), eqS (vF (true && ((p && q) == true)) undef), eqS (vF (true && ((p && q) == true)) undef), eqS (vF (true && ((p && q) == true)) (.bool false)), eqS (.bool ((p && q) && false)), eqS (.bool ((p && q) && false))] [7, 8, 9, 10, 11, 12, 13, 14, 15, 16, 17, 18, 19, 20, 21, 22, 23, 24, 25, 6] (by kernel_rfl) rfl ?_ ?_
    · skip
      refine Steps.cons (fun a' w' hG hB dep => gs_move (want_none rfl) _ rfl (id (hG.other 2 rfl))) ?_
      refine Steps.cons (fun a' w' hG hB dep => gs_geq_int (want_none rfl) _ _ _ _ rfl _ _ _ (dep 0 rfl 7 rfl) rfl (id (congrArg Value.bool hp))) ?_
      refine Steps.cons (fun a' w' hG hB dep => gs_move (want_none rfl) _ rfl (id (dep 1 rfl 8 rfl))) ?_
      refine Steps.cons (fun a' w' hG hB dep => gs_guard (c := true) (b' := p) rfl rfl (dep 2 rfl 9 rfl) (fun hc he hw => gs_move hw _ rfl (Eq.trans (hG.other 2 rfl) (vF_yes (on_g hc he) _).symm)) (fun hn => vF_no hn _)) ?_
      refine Steps.cons (fun a' w' hG hB dep => gs_guard (c := true) (b' := p) rfl rfl (dep 2 rfl 9 rfl) (fun hc he hw => gs_field hw _ _ _ rfl w.heap.size (0) (256) (hG.other 3 rfl) (fun wz => field_dfa_1 w.heap.size (0) wz) (vF_yes (on_g hc he) _).symm) (fun hn => vF_no hn _)) ?_
      refine Steps.cons (fun a' w' hG hB dep => gs_guard (c := true) (b' := p) rfl rfl (dep 2 rfl 9 rfl) (fun hc he hw => gs_load1 hw _ _ rfl w.heap.size (256) (Eq.trans (dep 4 rfl 11 rfl) (vF_yes (on_g hc he) _)) (.slice x.A x.rs.length x.c) (blk_d1 (blk_then h1 hB)) _ Try.underlying45 rfl (vF_yes (on_g hc he) _).symm) (fun hn => vF_no hn _)) ?_
      refine Steps.cons (fun a' w' hG hB dep => gs_guard (c := true) (b' := p) rfl rfl (dep 2 rfl 9 rfl) (fun hc he hw => gs_len hw _ _ rfl under_rows _ x.rs.length x.c (Eq.trans (dep 5 rfl 12 rfl) (vF_yes (on_g hc he) _)) (vF_yes (on_g hc he) _).symm) (fun hn => vF_no hn _)) ?_
      refine Steps.cons (fun a' w' hG hB dep => gs_guard (c := true) (b' := p) rfl rfl (dep 2 rfl 9 rfl) (fun hc he hw => gs_lss_int hw _ _ _ _ rfl _ _ _ (Eq.trans (dep 3 rfl 10 rfl) (vF_yes (on_g hc he) _)) (Eq.trans (dep 6 rfl 13 rfl) (vF_yes (on_g hc he) _)) (Eq.trans (congrArg Value.bool hq) (vF_yes (on_g hc he) _).symm)) (fun hn => vF_no hn _)) ?_
      refine Steps.cons (fun a' w' hG hB dep => gs_pick (want_none rfl) _ _ _ rfl p (dep 2 rfl 9 rfl) (id (pick_and2 (c := true) rfl (dep 7 rfl 14 rfl)))) ?_
      refine Steps.cons (fun a' w' hG hB dep => gs_move (want_none rfl) _ rfl (id (dep 8 rfl 15 rfl))) ?_
      refine Steps.cons (fun a' w' hG hB dep => gs_guard (c := true) (b' := (p && q)) rfl rfl (dep 9 rfl 16 rfl) (fun hc he hw => absurd he hne) (fun hn => vF_no hn _)) ?_
      refine Steps.cons (fun a' w' hG hB dep => gs_guard (c := true) (b' := (p && q)) rfl rfl (dep 9 rfl 16 rfl) (fun hc he hw => absurd he hne) (fun hn => vF_no hn _)) ?_
      refine Steps.cons (fun a' w' hG hB dep => gs_guard (c := true) (b' := (p && q)) rfl rfl (dep 9 rfl 16 rfl) (fun hc he hw => absurd he hne) (fun hn => vF_no hn _)) ?_
      refine Steps.cons (fun a' w' hG hB dep => gs_guard (c := true) (b' := (p && q)) rfl rfl (dep 9 rfl 16 rfl) (fun hc he hw => absurd he hne) (fun hn => vF_no hn _)) ?_
      refine Steps.cons (fun a' w' hG hB dep => gs_guard (c := true) (b' := (p && q)) rfl rfl (dep 9 rfl 16 rfl) (fun hc he hw => absurd he hne) (fun hn => vF_no hn _)) ?_
      refine Steps.cons (fun a' w' hG hB dep => gs_guard (c := true) (b' := (p && q)) rfl rfl (dep 9 rfl 16 rfl) (fun hc he hw => absurd he hne) (fun hn => vF_no hn _)) ?_
      refine Steps.cons (fun a' w' hG hB dep => gs_guard (c := true) (b' := (p && q)) rfl rfl (dep 9 rfl 16 rfl) (fun hc he hw => absurd he hne) (fun hn => vF_no hn _)) ?_
      refine Steps.cons (fun a' w' hG hB dep => gs_guard (c := true) (b' := (p && q)) rfl rfl (dep 9 rfl 16 rfl) (fun hc he hw => absurd he hne) (fun hn => vF_no hn _)) ?_
      refine Steps.cons (fun a' w' hG hB dep => gs_pick (want_none rfl) _ _ _ rfl (p && q) (dep 9 rfl 16 rfl) (id (pick_and2 (c := true) rfl (dep 17 rfl 24 rfl)))) ?_
      refine Steps.cons (fun a' w' hG hB dep => gs_assign (want_none rfl) _ rfl (id (dep 18 rfl 25 rfl))) ?_
      exact Steps.nil
    intro u w2 hw2 ans
    have hus6 : u 6 = (.bool ((p && q) && false)) := ans 19 6 (by decide) rfl
    clear ans
    simp only [putAll, List.foldl_cons, List.foldl_nil, Act.put, List.setIfInBounds_toArray, List.set_cons_zero, List.set_cons_succ, hus6]
    clear hus6
    simp only [List.drop]
    refine wpList_nil ?_
    have hB2 := below_then hB1 hw2
    rw [hpq.out]
    clear hp hq hpq hne hw2
    replace hzr := Lib.hid hzr
    go_wp2_with (fail)
    go_ret
    exact ⟨false, ⟨fun h => (by cases h), fun h => absurd ⟨h.1, h.2.1⟩ hzr.out⟩, rfl, hB2⟩
theorem enter_within (args : Array Value) (w : World) : (callFunc 55 args).run Try.prog w = .ok (.enter 55 args) w := by kernel_rfl
def withinB (x : TV) (y : Nat) (z : Int) : Bool := decide (0 ≤ z ∧ z < x.rs.length ∧ y &&& x.fo.getD z.toNat 0 = y)
theorem within_any2 (x : TV) (y : Nat) (z : Int) (hy32 : y < 4294967296) (hfo : x.fo.length = x.rs.length) (w : World) (hT : TabIn w w.heap.size x) :
    Calls Try.prog 55 #[.agg x.C', .int .u32 (y : Nat), .int .i64 z] w fun e w' => e = .returned (.bool (withinB x y z)) ∧ Below w.heap.size w w' :=
  (within_any x y z hy32 hfo w hT).mono fun e w' ⟨b, hb, he, hB⟩ => ⟨by rw [he, show b = withinB x y z by rw [Bool.eq_iff_iff, hb]; unfold withinB; rw [decide_eq_true_iff]], hB⟩
set_option maxRecDepth 100000 in
set_option maxHeartbeats 4000000 in
theorem right_any (x : TV) (w : World) (hT : TabIn w w.heap.size x) :
    Calls Try.prog 28 #[.agg x.C'] w fun e w' => e = .returned (.bool (fitsB x.T)) ∧ Below w.heap.size w w' := by
  unfold TV.C'
  go_enter Try.func28, Try.ntmps28
  obtain ⟨A, hA⟩ : ∃ A, A = x.A := ⟨_, rfl⟩
  have h1 := Blk.new w 47 (dfaC x.f x.A x.rs.length x.c x.B x.fo.length x.d x.C x.en.length x.e)
  have hB1 := below_alloc (Below.refl w.heap.size w) (.cells (dfaC x.f x.A x.rs.length x.c x.B x.fo.length x.d x.C x.en.length x.e) 47)
  go_upto_region 1 with (fail)
  obtain ⟨w1, hw1⟩ : ∃ y, y = w.alloc (.cells (dfaC x.f x.A x.rs.length x.c x.B x.fo.length x.d x.C x.en.length x.e) 47) := ⟨_, rfl⟩
  rw [← hw1] at h1 hB1 ⊢
  clear hw1 hA A
  have c1 : w1.cell? ⟨w.heap.size, 256, none⟩ = some (.slice x.A x.rs.length x.c) := blk_d1 h1
  go_upto_region 2 with (fail)
  clear c1
  obtain ⟨p1, hp1⟩ : ∃ p, decide (((x.rs.length : Nat) : Int) < 1) = p := ⟨_, rfl⟩
  obtain ⟨p2, hp2⟩ : ∃ p, decide (((x.rs.length : Nat) : Int) > 4096) = p := ⟨_, rfl⟩
  obtain ⟨p3, hp3⟩ : ∃ p, (((x.fo.length : Nat) : Int) != ((x.rs.length : Nat) : Int)) = p := ⟨_, rfl⟩
  obtain ⟨p4, hp4⟩ : ∃ p, (((x.en.length : Nat) : Int) != ((x.rs.length : Nat) : Int)) = p := ⟨_, rfl⟩
  refine wp_region_text 20 [eqS (.int .i64 (((x.rs.length : Nat) : Int))), eqS (.bool p1), eqS (.bool p1), eqS (vF (true && (p1 == false)) (.int .i64 (((x.rs.length : Nat) : Int)))), eqS (vF (true && (p1 == false)) (.bool p2)), eqS (.bool (p1 || p2)), eqS (.bool (p1 || p2)), eqS (vF (true && ((p1 || p2) == false)) (.pointer (some ⟨w.heap.size, 257, none⟩))), eqS (vF (true && ((p1 || p2) == false)) (.slice x.B x.fo.length x.d)), eqS (vF (true && ((p1 || p2) == false)) (.int .i64 (((x.fo.length : Nat) : Int)))), eqS (vF (true && ((p1 || p2) == false)) (.int .i64 (((x.rs.length : Nat) : Int)))), eqS (vF (true && ((p1 || p2) == false)) (.bool p3)), eqS (.bool ((p1 || p2) || p3)), eqS (.bool ((p1 || p2) || p3)), eqS (vF (true && (((p1 || p2) || p3) == false)) (.pointer (some ⟨w.heap.size, 258, none⟩))), eqS (vF (true && (((p1 || p2) || p3) == false)) (.slice x.C x.en.length x.e)), eqS (vF (true && (((p1 || p2) || p3) == false)) (.int .i64 (((x.en.length : Nat) : Int)))), eqS (vF (true && (((p1 || p2) || p3) == false)) (.int .i64 (((x.rs.length : Nat) : Int)))), eqS (vF (true && (((p1 || p2) || p3) == false)) (.bool p4)), eqS (.bool (((p1 || p2) || p3) || p4))] [14, 15, 16, 17, 18, 19, 20, 21, 22, 23, 24, 25, 26, 27, 28, 29, 30, 31, 32, 33] (by kernel_rfl) rfl ?_ ?_
  · skip
    refine Steps.cons (fun a' w' hG hB dep => gs_move (want_none rfl) _ rfl (id (hG.other 3 rfl))) ?_
    refine Steps.cons (fun a' w' hG hB dep => gs_lss_int (want_none rfl) _ _ _ _ rfl _ _ _ (dep 0 rfl 14 rfl) rfl (id (congrArg Value.bool hp1))) ?_
    refine Steps.cons (fun a' w' hG hB dep => gs_move (want_none rfl) _ rfl (id (dep 1 rfl 15 rfl))) ?_
    refine Steps.cons (fun a' w' hG hB dep => gs_guard (c := true) (b' := p1) rfl rfl (dep 2 rfl 16 rfl) (fun hc he hw => gs_move hw _ rfl (Eq.trans (hG.other 3 rfl) (vF_yes (on_g hc he) _).symm)) (fun hn => vF_no hn _)) ?_
    refine Steps.cons (fun a' w' hG hB dep => gs_guard (c := true) (b' := p1) rfl rfl (dep 2 rfl 16 rfl) (fun hc he hw => gs_gtr_int hw _ _ _ _ rfl _ _ _ (Eq.trans (dep 3 rfl 17 rfl) (vF_yes (on_g hc he) _)) rfl (Eq.trans (congrArg Value.bool hp2) (vF_yes (on_g hc he) _).symm)) (fun hn => vF_no hn _)) ?_
    refine Steps.cons (fun a' w' hG hB dep => gs_pick (want_none rfl) _ _ _ rfl p1 (dep 2 rfl 16 rfl) (id (pick_or2 (c := true) rfl (dep 4 rfl 18 rfl)))) ?_
    refine Steps.cons (fun a' w' hG hB dep => gs_move (want_none rfl) _ rfl (id (dep 5 rfl 19 rfl))) ?_
    refine Steps.cons (fun a' w' hG hB dep => gs_guard (c := true) (b' := (p1 || p2)) rfl rfl (dep 6 rfl 20 rfl) (fun hc he hw => gs_field hw _ _ _ rfl w.heap.size (0) (257) (hG.other 1 rfl) (fun wz => field_dfa_2 w.heap.size (0) wz) (vF_yes (on_g hc he) _).symm) (fun hn => vF_no hn _)) ?_
    refine Steps.cons (fun a' w' hG hB dep => gs_guard (c := true) (b' := (p1 || p2)) rfl rfl (dep 6 rfl 20 rfl) (fun hc he hw => gs_load1 hw _ _ rfl w.heap.size (257) (Eq.trans (dep 7 rfl 21 rfl) (vF_yes (on_g hc he) _)) (.slice x.B x.fo.length x.d) (blk_d2 (blk_then h1 hB)) _ Try.underlying32 rfl (vF_yes (on_g hc he) _).symm) (fun hn => vF_no hn _)) ?_
    refine Steps.cons (fun a' w' hG hB dep => gs_guard (c := true) (b' := (p1 || p2)) rfl rfl (dep 6 rfl 20 rfl) (fun hc he hw => gs_len hw _ _ rfl under_rules _ x.fo.length x.d (Eq.trans (dep 8 rfl 22 rfl) (vF_yes (on_g hc he) _)) (vF_yes (on_g hc he) _).symm) (fun hn => vF_no hn _)) ?_
    refine Steps.cons (fun a' w' hG hB dep => gs_guard (c := true) (b' := (p1 || p2)) rfl rfl (dep 6 rfl 20 rfl) (fun hc he hw => gs_move hw _ rfl (Eq.trans (hG.other 3 rfl) (vF_yes (on_g hc he) _).symm)) (fun hn => vF_no hn _)) ?_
    refine Steps.cons (fun a' w' hG hB dep => gs_guard (c := true) (b' := (p1 || p2)) rfl rfl (dep 6 rfl 20 rfl) (fun hc he hw => gs_neq_int hw _ _ _ _ rfl _ _ _ (Eq.trans (dep 9 rfl 23 rfl) (vF_yes (on_g hc he) _)) (Eq.trans (dep 10 rfl 24 rfl) (vF_yes (on_g hc he) _)) (Eq.trans (congrArg Value.bool hp3) (vF_yes (on_g hc he) _).symm)) (fun hn => vF_no hn _)) ?_
    refine Steps.cons (fun a' w' hG hB dep => gs_pick (want_none rfl) _ _ _ rfl (p1 || p2) (dep 6 rfl 20 rfl) (id (pick_or2 (c := true) rfl (dep 11 rfl 25 rfl)))) ?_
    refine Steps.cons (fun a' w' hG hB dep => gs_move (want_none rfl) _ rfl (id (dep 12 rfl 26 rfl))) ?_
    refine Steps.cons (fun a' w' hG hB dep => gs_guard (c := true) (b' := ((p1 || p2) || p3)) rfl rfl (dep 13 rfl 27 rfl) (fun hc he hw => gs_field hw _ _ _ rfl w.heap.size (0) (258) (hG.other 1 rfl) (fun wz => field_dfa_3 w.heap.size (0) wz) (vF_yes (on_g hc he) _).symm) (fun hn => vF_no hn _)) ?_
    refine Steps.cons (fun a' w' hG hB dep => gs_guard (c := true) (b' := ((p1 || p2) || p3)) rfl rfl (dep 13 rfl 27 rfl) (fun hc he hw => gs_load1 hw _ _ rfl w.heap.size (258) (Eq.trans (dep 14 rfl 28 rfl) (vF_yes (on_g hc he) _)) (.slice x.C x.en.length x.e) (blk_d3 (blk_then h1 hB)) _ Try.underlying32 rfl (vF_yes (on_g hc he) _).symm) (fun hn => vF_no hn _)) ?_
    refine Steps.cons (fun a' w' hG hB dep => gs_guard (c := true) (b' := ((p1 || p2) || p3)) rfl rfl (dep 13 rfl 27 rfl) (fun hc he hw => gs_len hw _ _ rfl under_rules _ x.en.length x.e (Eq.trans (dep 15 rfl 29 rfl) (vF_yes (on_g hc he) _)) (vF_yes (on_g hc he) _).symm) (fun hn => vF_no hn _)) ?_
    refine Steps.cons (fun a' w' hG hB dep => gs_guard (c := true) (b' := ((p1 || p2) || p3)) rfl rfl (dep 13 rfl 27 rfl) (fun hc he hw => gs_move hw _ rfl (Eq.trans (hG.other 3 rfl) (vF_yes (on_g hc he) _).symm)) (fun hn => vF_no hn _)) ?_
    refine Steps.cons (fun a' w' hG hB dep => gs_guard (c := true) (b' := ((p1 || p2) || p3)) rfl rfl (dep 13 rfl 27 rfl) (fun hc he hw => gs_neq_int hw _ _ _ _ rfl _ _ _ (Eq.trans (dep 16 rfl 30 rfl) (vF_yes (on_g hc he) _)) (Eq.trans (dep 17 rfl 31 rfl) (vF_yes (on_g hc he) _)) (Eq.trans (congrArg Value.bool hp4) (vF_yes (on_g hc he) _).symm)) (fun hn => vF_no hn _)) ?_
    refine Steps.cons (fun a' w' hG hB dep => gs_pick (want_none rfl) _ _ _ rfl ((p1 || p2) || p3) (dep 13 rfl 27 rfl) (id (pick_or2 (c := true) rfl (dep 18 rfl 32 rfl)))) ?_
    exact Steps.nil
  intro u w2 hw2 ans
  have hus33 : u 33 = (.bool (((p1 || p2) || p3) || p4)) := ans 19 33 (by decide) rfl
  clear ans
  simp only [putAll, List.foldl_cons, List.foldl_nil, Act.put, List.setIfInBounds_toArray, List.set_cons_zero, List.set_cons_succ, hus33]
  clear hus33
  simp only [List.drop]
  refine wpList_nil ?_
  have hB2 := below_then hB1 hw2
  replace h1 := blk_then h1 hw2
  clear hw2 hB1
  obtain ⟨r, hr⟩ : ∃ r, (((p1 || p2) || p3) || p4) = r := ⟨_, rfl⟩
  rw [hr]
  cases r with
  | true =>
    have hno : ¬ Fits x.T := fun hF => by
      have e1 := hF.n1
      have e2 := hF.n2
      have e3 := hF.nf
      have e4 := hF.ne
      rw [fits_n] at e1 e2 e3 e4
      replace e3 : x.fo.length = x.rs.length := e3
      replace e4 : x.en.length = x.rs.length := e4
      have q1 : p1 = false := by rw [← hp1]; exact decide_eq_false (by omega)
      have q2 : p2 = false := by rw [← hp2]; exact decide_eq_false (by omega)
      have q3 : p3 = false := by rw [← hp3, e3]; exact bne_self_eq_false _
      have q4 : p4 = false := by rw [← hp4, e4]; exact bne_self_eq_false _
      rw [q1, q2, q3, q4] at hr
      cases hr
    have hv := Lib.hid (fitsB_no hno)
    clear hr hp1 hp2 hp3 hp4
    go_wp2_with (fail)
    go_ret
    exact ⟨by rw [hv.out]; rfl, hB2⟩
  | false =>
    simp only [Bool.or_eq_false_iff] at hr
    obtain ⟨⟨⟨rfl, rfl⟩, rfl⟩, rfl⟩ := hr
    have n1 : 1 ≤ x.rs.length := by have := of_decide_eq_false hp1; omega
    have n2 : x.rs.length ≤ 4096 := by have := of_decide_eq_false hp2; omega
    have n3 : x.fo.length = x.rs.length := by rw [bne_nat] at hp3; exact Decidable.not_not.1 (of_decide_eq_false hp3)
    have n4 : x.en.length = x.rs.length := by rw [bne_nat] at hp4; exact Decidable.not_not.1 (of_decide_eq_false hp4)
    clear hp1 hp2 hp3 hp4
    replace n3 := Lib.hid n3
    replace n4 := Lib.hid n4
    obtain ⟨bN, oN, hA, hbN, hrows⟩ := hT.rows.at_ (by omega)
    have c1 : w2.cell? ⟨w.heap.size, 256, none⟩ = some (.slice (some ⟨bN, oN, none⟩) x.rs.length x.c) := by rw [← hA]; exact blk_d1 h1
    have c2 : w2.cell? ⟨bN, oN, none⟩ = some (.slice x.rs[0].a x.rs[0].l.length x.rs[0].c) := by
      have c2' : w2.cell? ⟨bN, oN + 0 * 1 + 0, none⟩ = some (.slice x.rs[0].a x.rs[0].l.length x.rs[0].c) := cell_keep (hrows 0 (by omega) 0 _ rfl) hbN hB2
      simpa using c2'
    have hmany := many_at (x := x) (by omega)
    obtain ⟨m, hm⟩ : ∃ m, m = x.rs[0].l.length := ⟨_, rfl⟩
    rw [← hm] at hmany c2
    have Hm := Lib.hid hm
    have Hmany := Lib.hid hmany
    clear hm hmany
    have hn1 : (0 : Int) < x.rs.length := by omega
    replace hA := Lib.hid hA
    go_upto_region 5 with (fail)
    clear c1 c2
    obtain ⟨p5, hp5⟩ : ∃ p, decide (((m : Nat) : Int) < 1) = p := ⟨_, rfl⟩
    obtain ⟨p6, hp6⟩ : ∃ p, decide (((m : Nat) : Int) > 256) = p := ⟨_, rfl⟩
    refine wp_region_text 6 [eqS (.int .i64 (((m : Nat) : Int))), eqS (.bool p5), eqS (.bool p5), eqS (vF (true && (p5 == false)) (.int .i64 (((m : Nat) : Int)))), eqS (vF (true && (p5 == false)) (.bool p6)), eqS (.bool (p5 || p6))] [39, 40, 41, 42, 43, 44] (by kernel_rfl) rfl ?_ ?_
    · skip
      refine Steps.cons (fun a' w' hG hB dep => gs_move (want_none rfl) _ rfl (id (hG.other 4 rfl))) ?_
      refine Steps.cons (fun a' w' hG hB dep => gs_lss_int (want_none rfl) _ _ _ _ rfl _ _ _ (dep 0 rfl 39 rfl) rfl (id (congrArg Value.bool hp5))) ?_
      refine Steps.cons (fun a' w' hG hB dep => gs_move (want_none rfl) _ rfl (id (dep 1 rfl 40 rfl))) ?_
      refine Steps.cons (fun a' w' hG hB dep => gs_guard (c := true) (b' := p5) rfl rfl (dep 2 rfl 41 rfl) (fun hc he hw => gs_move hw _ rfl (Eq.trans (hG.other 4 rfl) (vF_yes (on_g hc he) _).symm)) (fun hn => vF_no hn _)) ?_
      refine Steps.cons (fun a' w' hG hB dep => gs_guard (c := true) (b' := p5) rfl rfl (dep 2 rfl 41 rfl) (fun hc he hw => gs_gtr_int hw _ _ _ _ rfl _ _ _ (Eq.trans (dep 3 rfl 42 rfl) (vF_yes (on_g hc he) _)) rfl (Eq.trans (congrArg Value.bool hp6) (vF_yes (on_g hc he) _).symm)) (fun hn => vF_no hn _)) ?_
      refine Steps.cons (fun a' w' hG hB dep => gs_pick (want_none rfl) _ _ _ rfl p5 (dep 2 rfl 41 rfl) (id (pick_or2 (c := true) rfl (dep 4 rfl 43 rfl)))) ?_
      exact Steps.nil
    intro u w3 hw3 ans
    have hus44 : u 44 = (.bool (p5 || p6)) := ans 5 44 (by decide) rfl
    clear ans
    simp only [putAll, List.foldl_cons, List.foldl_nil, Act.put, List.setIfInBounds_toArray, List.set_cons_zero, List.set_cons_succ, hus44]
    clear hus44
    simp only [List.drop]
    refine wpList_nil ?_
    have hB3 := below_then hB2 hw3
    replace h1 := blk_then h1 hw3
    clear hw3 hB2
    obtain ⟨r, hr⟩ : ∃ r, (p5 || p6) = r := ⟨_, rfl⟩
    rw [hr]
    cases r with
    | true =>
      have hno : ¬ Fits x.T := fun hF => by
        have e1 := hF.m1
        have e2 := hF.m2
        rw [Hmany.out] at e1 e2
        have q1 : p5 = false := by rw [← hp5]; exact decide_eq_false (by omega)
        have q2 : p6 = false := by rw [← hp6]; exact decide_eq_false (by omega)
        rw [q1, q2] at hr
        cases hr
      have hv := Lib.hid (fitsB_no hno)
      clear hr hp5 hp6
      go_wp2_with (fail)
      go_ret
      exact ⟨by rw [hv.out]; rfl, hB3⟩
    | false =>
      simp only [Bool.or_eq_false_iff] at hr
      obtain ⟨rfl, rfl⟩ := hr
      have m1 : 1 ≤ m := by have := of_decide_eq_false hp5; omega
      have m2 : m ≤ 256 := by have := of_decide_eq_false hp6; omega
      clear hp5 hp6
      have hrc := dfaC_cls _ _ _ _ _ _ _ _ _ _ (RowAt.of_blk h1)
      go_upto_region 8 with (refine wl_load_cls rfl _ rfl _ rfl _ hrc ?_)
      clear hrc
      go_loopw [47, 6] (fun iv _ wr => ∃ b : Nat, b ≤ 256 ∧ iv = .int .i64 b ∧ Below w.heap.size w wr ∧ Blk wr w.heap.size 47 (dfaC x.f x.A x.rs.length x.c x.B x.fo.length x.d x.C x.en.length x.e) ∧ (∀ j, j < b → 0 ≤ x.f j ∧ x.f j < m)) (fun iv _ _ => 256 - (intOf iv).toNat)
      case atStart => exact ⟨0, by omega, rfl, hB3, h1, fun j hj => by omega⟩
      case round =>
        clear h1 hB3
        obtain ⟨b, hb, rfl, hB3, h1, hall⟩ := hrel
        replace hall := Lib.hid hall
        by_cases hbl : b < 256
        · have hbI : (b : Int) < 256 := by omega
          obtain ⟨z, hz⟩ : ∃ z, z = x.f b := ⟨_, rfl⟩
          have ci : ∀ w, (Instr.index 44 (.agg (clsC x.f)) (.int .i64 (b : Int))).run Try.prog w = .ok (.int .i64 z) w := fun w => by rw [hz]; exact run_index_cls w x.f b hbl
          replace hz := Lib.hid hz
          go_upto_region 10 with (fail)
          obtain ⟨p7, hp7⟩ : ∃ p, decide (z < 0) = p := ⟨_, rfl⟩
          obtain ⟨p8, hp8⟩ : ∃ p, decide (((m : Nat) : Int) ≤ z) = p := ⟨_, rfl⟩
          clear ci
          refine wp_region_text 7 [eqS (.int .i64 (z)), eqS (.bool p7), eqS (.bool p7), eqS (vF (true && (p7 == false)) (.int .i64 (z))), eqS (vF (true && (p7 == false)) (.int .i64 (((m : Nat) : Int)))), eqS (vF (true && (p7 == false)) (.bool p8)), eqS (.bool (p7 || p8))] [50, 51, 52, 53, 54, 55, 56] (by kernel_rfl) rfl ?_ ?_
          · skip
            refine Steps.cons (fun a' w' hG hB dep => gs_move (want_none rfl) _ rfl (id (hG.other 6 rfl))) ?_
            refine Steps.cons (fun a' w' hG hB dep => gs_lss_int (want_none rfl) _ _ _ _ rfl _ _ _ (dep 0 rfl 50 rfl) rfl (id (congrArg Value.bool hp7))) ?_
            refine Steps.cons (fun a' w' hG hB dep => gs_move (want_none rfl) _ rfl (id (dep 1 rfl 51 rfl))) ?_
            refine Steps.cons (fun a' w' hG hB dep => gs_guard (c := true) (b' := p7) rfl rfl (dep 2 rfl 52 rfl) (fun hc he hw => gs_move hw _ rfl (Eq.trans (hG.other 6 rfl) (vF_yes (on_g hc he) _).symm)) (fun hn => vF_no hn _)) ?_
            refine Steps.cons (fun a' w' hG hB dep => gs_guard (c := true) (b' := p7) rfl rfl (dep 2 rfl 52 rfl) (fun hc he hw => gs_move hw _ rfl (Eq.trans (hG.other 4 rfl) (vF_yes (on_g hc he) _).symm)) (fun hn => vF_no hn _)) ?_
            refine Steps.cons (fun a' w' hG hB dep => gs_guard (c := true) (b' := p7) rfl rfl (dep 2 rfl 52 rfl) (fun hc he hw => gs_geq_int hw _ _ _ _ rfl _ _ _ (Eq.trans (dep 3 rfl 53 rfl) (vF_yes (on_g hc he) _)) (Eq.trans (dep 4 rfl 54 rfl) (vF_yes (on_g hc he) _)) (Eq.trans (congrArg Value.bool hp8) (vF_yes (on_g hc he) _).symm)) (fun hn => vF_no hn _)) ?_
            refine Steps.cons (fun a' w' hG hB dep => gs_pick (want_none rfl) _ _ _ rfl p7 (dep 2 rfl 52 rfl) (id (pick_or2 (c := true) rfl (dep 5 rfl 55 rfl)))) ?_
            exact Steps.nil
          intro u w4 hw4 ans
          have hus56 : u 56 = (.bool (p7 || p8)) := ans 6 56 (by decide) rfl
          clear ans
          simp only [putAll, List.foldl_cons, List.foldl_nil, Act.put, List.setIfInBounds_toArray, List.set_cons_zero, List.set_cons_succ, hus56]
          clear hus56
          simp only [List.drop]
          refine wpList_nil ?_
          have hB4 := below_then hB3 hw4
          replace h1 := blk_then h1 hw4
          clear hw4
          obtain ⟨r, hr⟩ : ∃ r, (p7 || p8) = r := ⟨_, rfl⟩
          rw [hr]
          cases r with
          | true =>
            have hno : ¬ Fits x.T := fun hF => by
              have e1 := hF.cl b hbl
              rw [Hmany.out, show x.T.cls b = z from hz.out.symm] at e1
              have q1 : p7 = false := by rw [← hp7]; exact decide_eq_false (by omega)
              have q2 : p8 = false := by rw [← hp8]; exact decide_eq_false (by omega)
              rw [q1, q2] at hr
              cases hr
            have hv := Lib.hid (fitsB_no hno)
            clear hr hp7 hp8
            go_wp2_with (fail)
            go_ret
            exact ⟨by rw [hv.out]; rfl, hB4⟩
          | false =>
            simp only [Bool.or_eq_false_iff] at hr
            obtain ⟨rfl, rfl⟩ := hr
            have z1 : 0 ≤ z ∧ z < m := by have := of_decide_eq_false hp7; have := of_decide_eq_false hp8; omega
            have hZ := Lib.hid z1
            clear hp7 hp8 z1
            go_wp2_with (fail)
            exact ⟨⟨b + 1, by omega, rfl, hB4, h1, fun j hj => by
              rcases Nat.lt_or_ge j b with h | h
              · exact hall.out j h
              · have : j = b := by omega
                subst this
                rw [← hz.out]
                exact hZ.out⟩, by simp only [intOf]; omega⟩
        · have hbI : ¬ (b : Int) < 256 := by omega
          have hcls : ∀ j, j < 256 → 0 ≤ x.f j ∧ x.f j < m := fun j hj => hall.out j (by omega)
          replace hcls := Lib.hid hcls
          clear hall
          have c1 : wr.cell? ⟨w.heap.size, 256, none⟩ = some (.slice (some ⟨bN, oN, none⟩) x.rs.length x.c) := by rw [← hA.out]; exact blk_d1 h1
          go_upto_region 14 with (fail)
          clear c1
          obtain ⟨bF, oF, hFo, hbF, hrF⟩ := hT.fo.at_ (by have := n3.out; omega)
          obtain ⟨bE, oE, hEn, hbE, hrE⟩ := hT.en.at_ (by have := n4.out; omega)
          replace hFo := Lib.hid hFo
          replace hEn := Lib.hid hEn
          clear hbI hbl hb
          go_loopw [61] (fun iv wr => ∃ s : Nat, s ≤ x.rs.length ∧ iv = .int .i64 s ∧ Below w.heap.size w wr ∧ Blk wr w.heap.size 47 (dfaC x.f x.A x.rs.length x.c x.B x.fo.length x.d x.C x.en.length x.e) ∧ (∀ j, j < s → RowOk x.T j ∧ ∀ c, c < m → ToOk x.T j (x.T.nxt j (c : Nat)))) (fun iv _ => x.rs.length - (intOf iv).toNat)
          case atStart => exact ⟨0, by omega, rfl, hB3, h1, fun j hj => by omega⟩
          case round =>
            clear h1 hB3
            obtain ⟨s, hs, rfl, hB3, h1, hall⟩ := hrel
            replace hall := Lib.hid hall
            by_cases hsl : s < x.rs.length
            · have hsI : (s : Int) < x.rs.length := by omega
              have hsF : s < x.fo.length := by rw [n3.out]; exact hsl
              have hsE : s < x.en.length := by rw [n4.out]; exact hsl
              obtain ⟨r, hr⟩ : ∃ r, r = x.rs[s] := ⟨_, rfl⟩
              obtain ⟨y, hy⟩ : ∃ y, y = x.fo[s] := ⟨_, rfl⟩
              obtain ⟨e, he⟩ : ∃ e, e = x.en[s] := ⟨_, rfl⟩
              have hy32 : y < 4294967296 := by rw [hy]; exact hT.f32 _ (List.getElem_mem _)
              have he32 : e < 4294967296 := by rw [he]; exact hT.e32 _ (List.getElem_mem _)
              have hrow := hT.row _ (List.getElem_mem hsl)
              rw [← hr] at hrow
              have c2 : wr.cell? ⟨bN, oN + s, none⟩ = some (.slice r.a r.l.length r.c) := by
                rw [hr]
                have := cell_keep (hrows s hsl 0 _ rfl) hbN hB3
                rw [show oN + s * 1 + 0 = oN + s by omega] at this
                exact this
              have cF : ∀ {X : World}, Below wr.heap.size wr X → X.cell? ⟨w.heap.size, 257, none⟩ = some (.slice (some ⟨bF, oF, none⟩) x.fo.length x.d) := fun hB => by rw [← hFo.out]; exact blk_d2 (blk_then h1 hB)
              have cE : ∀ {X : World}, Below wr.heap.size wr X → X.cell? ⟨w.heap.size, 258, none⟩ = some (.slice (some ⟨bE, oE, none⟩) x.en.length x.e) := fun hB => by rw [← hEn.out]; exact blk_d3 (blk_then h1 hB)
              have cy : ∀ {X : World}, Below wr.heap.size wr X → X.cell? ⟨bF, oF + s * 1, none⟩ = some (.int .u32 ((y : Nat) : Int)) := fun hB => by rw [hy]; exact cell_keep (hrF s hsF 0 _ rfl) hbF (below_then hB3 hB)
              have ce : ∀ {X : World}, Below wr.heap.size wr X → X.cell? ⟨bE, oE + s * 1, none⟩ = some (.int .u32 ((e : Nat) : Int)) := fun hB => by rw [he]; exact cell_keep (hrE s hsE 0 _ rfl) hbE (below_then hB3 hB)
              have yT : x.T.fo.getD s 0 = y := by rw [hy]; exact getD_at x.fo 0 hsF
              have eT : x.T.en.getD s 0 = e := by rw [he]; exact getD_at x.en 0 hsE
              have rT : x.T.nx.getD s [] = r.l := by rw [row_at hsl, hr]
              replace hr := Lib.hid hr
              replace yT := Lib.hid yT
              replace eT := Lib.hid eT
              replace rT := Lib.hid rT
              clear hy he
              go_upto_region 16 with (fail)
              clear c2
              obtain ⟨p, hp⟩ : ∃ p, (((r.l.length : Nat) : Int) != ((m : Nat) : Int)) = p := ⟨_, rfl⟩
              obtain ⟨q, hq⟩ : ∃ q, (((y &&& (4294967295 - e) : Nat) : Int) != 0) = q := ⟨_, rfl⟩
              refine wp_region_steps 18 [eqS (.slice r.a r.l.length r.c), eqS (.int .i64 (((r.l.length : Nat) : Int))), eqS (.int .i64 (((m : Nat) : Int))), eqS (.bool p), eqS (.bool p), eqS (vF (true && (p == false)) (.pointer (some ⟨w.heap.size, 257, none⟩))), eqS (vF (true && (p == false)) (.slice (some ⟨bF, oF, none⟩) x.fo.length x.d)), eqS (vF (true && (p == false)) (.int .i64 (((s : Nat) : Int)))), eqS (vF (true && (p == false)) (.pointer (some ⟨bF, oF + s * 1, none⟩))), eqS (vF (true && (p == false)) (.int .u32 (((y : Nat) : Int)))), eqS (vF (true && (p == false)) (.pointer (some ⟨w.heap.size, 258, none⟩))), eqS (vF (true && (p == false)) (.slice (some ⟨bE, oE, none⟩) x.en.length x.e)), eqS (vF (true && (p == false)) (.int .i64 (((s : Nat) : Int)))), eqS (vF (true && (p == false)) (.pointer (some ⟨bE, oE + s * 1, none⟩))), eqS (vF (true && (p == false)) (.int .u32 (((e : Nat) : Int)))), eqS (vF (true && (p == false)) (.int .u32 ((((y) &&& (4294967295 - (e)) : Nat) : Int)))), eqS (vF (true && (p == false)) (.bool q)), eqS (.bool (p || q))] [66, 67, 68, 69, 70, 71, 72, 73, 74, 75, 76, 77, 78, 79, 80, 81, 82, 83] rfl (by kernel_rfl) rfl ?_ ?_
              · skip
                refine Steps.cons (fun a' w' hG hB dep => gs_move (want_none rfl) _ rfl (id (hG.other 8 rfl))) ?_
                refine Steps.cons (fun a' w' hG hB dep => gs_len (want_none rfl) _ _ rfl under_ints _ r.l.length r.c (dep 0 rfl 66 rfl) rfl) ?_
                refine Steps.cons (fun a' w' hG hB dep => gs_move (want_none rfl) _ rfl (id (hG.other 4 rfl))) ?_
                refine Steps.cons (fun a' w' hG hB dep => gs_neq_int (want_none rfl) _ _ _ _ rfl _ _ _ (dep 1 rfl 67 rfl) (dep 2 rfl 68 rfl) (id (congrArg Value.bool hp))) ?_
                refine Steps.cons (fun a' w' hG hB dep => gs_move (want_none rfl) _ rfl (id (dep 3 rfl 69 rfl))) ?_
                refine Steps.cons (fun a' w' hG hB dep => gs_guard (c := true) (b' := p) rfl rfl (dep 4 rfl 70 rfl) (fun hc he hw => gs_field hw _ _ _ rfl w.heap.size (0) (257) (hG.other 1 rfl) (fun wz => field_dfa_2 w.heap.size (0) wz) (vF_yes (on_g hc he) _).symm) (fun hn => vF_no hn _)) ?_
                refine Steps.cons (fun a' w' hG hB dep => gs_guard (c := true) (b' := p) rfl rfl (dep 4 rfl 70 rfl) (fun hc he hw => gs_load1 hw _ _ rfl w.heap.size (257) (Eq.trans (dep 5 rfl 71 rfl) (vF_yes (on_g hc he) _)) (.slice (some ⟨bF, oF, none⟩) x.fo.length x.d) (cF hB) _ Try.underlying32 rfl (vF_yes (on_g hc he) _).symm) (fun hn => vF_no hn _)) ?_
                refine Steps.cons (fun a' w' hG hB dep => gs_guard (c := true) (b' := p) rfl rfl (dep 4 rfl 70 rfl) (fun hc he hw => gs_move hw _ rfl (Eq.trans (hG.other 7 rfl) (vF_yes (on_g hc he) _).symm)) (fun hn => vF_no hn _)) ?_
                refine Steps.cons (fun a' w' hG hB dep => gs_guard (c := true) (b' := p) rfl rfl (dep 4 rfl 70 rfl) (fun hc he hw => gs_index hw _ _ _ rfl under_rules 1 size_ruleE bF oF x.fo.length x.d (s) (Eq.trans (dep 6 rfl 72 rfl) (vF_yes (on_g hc he) _)) (Eq.trans (dep 7 rfl 73 rfl) (vF_yes (on_g hc he) _)) hsF (vF_yes (on_g hc he) _).symm) (fun hn => vF_no hn _)) ?_
                refine Steps.cons (fun a' w' hG hB dep => gs_guard (c := true) (b' := p) rfl rfl (dep 4 rfl 70 rfl) (fun hc he hw => gs_load1 hw _ _ rfl bF (oF + s * 1) (Eq.trans (dep 8 rfl 74 rfl) (vF_yes (on_g hc he) _)) (.int .u32 (((y : Nat) : Int))) (cy hB) _ Try.underlying55 rfl (vF_yes (on_g hc he) _).symm) (fun hn => vF_no hn _)) ?_
                refine Steps.cons (fun a' w' hG hB dep => gs_guard (c := true) (b' := p) rfl rfl (dep 4 rfl 70 rfl) (fun hc he hw => gs_field hw _ _ _ rfl w.heap.size (0) (258) (hG.other 1 rfl) (fun wz => field_dfa_3 w.heap.size (0) wz) (vF_yes (on_g hc he) _).symm) (fun hn => vF_no hn _)) ?_
                refine Steps.cons (fun a' w' hG hB dep => gs_guard (c := true) (b' := p) rfl rfl (dep 4 rfl 70 rfl) (fun hc he hw => gs_load1 hw _ _ rfl w.heap.size (258) (Eq.trans (dep 10 rfl 76 rfl) (vF_yes (on_g hc he) _)) (.slice (some ⟨bE, oE, none⟩) x.en.length x.e) (cE hB) _ Try.underlying32 rfl (vF_yes (on_g hc he) _).symm) (fun hn => vF_no hn _)) ?_
                refine Steps.cons (fun a' w' hG hB dep => gs_guard (c := true) (b' := p) rfl rfl (dep 4 rfl 70 rfl) (fun hc he hw => gs_move hw _ rfl (Eq.trans (hG.other 7 rfl) (vF_yes (on_g hc he) _).symm)) (fun hn => vF_no hn _)) ?_
                refine Steps.cons (fun a' w' hG hB dep => gs_guard (c := true) (b' := p) rfl rfl (dep 4 rfl 70 rfl) (fun hc he hw => gs_index hw _ _ _ rfl under_rules 1 size_ruleE bE oE x.en.length x.e (s) (Eq.trans (dep 11 rfl 77 rfl) (vF_yes (on_g hc he) _)) (Eq.trans (dep 12 rfl 78 rfl) (vF_yes (on_g hc he) _)) hsE (vF_yes (on_g hc he) _).symm) (fun hn => vF_no hn _)) ?_
                refine Steps.cons (fun a' w' hG hB dep => gs_guard (c := true) (b' := p) rfl rfl (dep 4 rfl 70 rfl) (fun hc he hw => gs_load1 hw _ _ rfl bE (oE + s * 1) (Eq.trans (dep 13 rfl 79 rfl) (vF_yes (on_g hc he) _)) (.int .u32 (((e : Nat) : Int))) (ce hB) _ Try.underlying55 rfl (vF_yes (on_g hc he) _).symm) (fun hn => vF_no hn _)) ?_
                refine Steps.cons (fun a' w' hG hB dep => gs_guard (c := true) (b' := p) rfl rfl (dep 4 rfl 70 rfl) (fun hc he hw => gs_andnot_u32 hw _ _ _ _ rfl (y) (e) (Eq.trans (dep 9 rfl 75 rfl) (vF_yes (on_g hc he) _)) (Eq.trans (dep 14 rfl 80 rfl) (vF_yes (on_g hc he) _)) hy32 he32 (vF_yes (on_g hc he) _).symm) (fun hn => vF_no hn _)) ?_
                refine Steps.cons (fun a' w' hG hB dep => gs_guard (c := true) (b' := p) rfl rfl (dep 4 rfl 70 rfl) (fun hc he hw => gs_neq_int hw _ _ _ _ rfl _ _ _ (Eq.trans (dep 15 rfl 81 rfl) (vF_yes (on_g hc he) _)) rfl (Eq.trans (congrArg Value.bool hq) (vF_yes (on_g hc he) _).symm)) (fun hn => vF_no hn _)) ?_
                refine Steps.cons (fun a' w' hG hB dep => gs_pick (want_none rfl) _ _ _ rfl p (dep 4 rfl 70 rfl) (id (pick_or2 (c := true) rfl (dep 16 rfl 82 rfl)))) ?_
                exact Steps.nil
              intro u w6 hw6 ans
              have hus83 : u 83 = (.bool (p || q)) := ans 17 83 (by decide) rfl
              clear ans
              simp only [putAll, List.foldl_cons, List.foldl_nil, Act.put, List.setIfInBounds_toArray, List.set_cons_zero, List.set_cons_succ, hus83]
              clear hus83
              simp only [List.drop]
              refine wpList_nil ?_
              have hB6 := below_then hB3 hw6
              replace h1 := blk_then h1 hw6
              obtain ⟨rr, hrr⟩ : ∃ r, (p || q) = r := ⟨_, rfl⟩
              rw [hrr]
              cases rr with
              | true =>
                have hno : ¬ Fits x.T := fun hF => by
                  have e1 := hF.row s (by rw [fits_n]; exact hsl)
                  have e2 := hF.fe s (by rw [fits_n]; exact hsl)
                  rw [rT.out, Hmany.out] at e1
                  rw [yT.out, eT.out] at e2
                  have q1 : p = false := by rw [← hp, e1]; exact bne_self_eq_false _
                  have q2 : q = false := by rw [← hq, (andnot_zero y e hy32 he32).2 e2]; rfl
                  rw [q1, q2] at hrr
                  cases hrr
                have hv := Lib.hid (fitsB_no hno)
                clear hrr hp hq cF cE cy ce
                go_wp2_with (fail)
                go_ret
                exact ⟨by rw [hv.out]; rfl, hB6⟩
              | false =>
                simp only [Bool.or_eq_false_iff] at hrr
                obtain ⟨rfl, rfl⟩ := hrr
                have hrm : r.l.length = m := by rw [bne_nat] at hp; exact Decidable.not_not.1 (of_decide_eq_false hp)
                have hye : y &&& e = y := (andnot_zero y e hy32 he32).1 (by have := bne_eq_false_iff_eq.1 hq; omega)
                have hRow : RowOk x.T s := ⟨by rw [rT.out, Hmany.out]; exact hrm, by rw [yT.out, eT.out]; exact hye⟩
                replace hrm := Lib.hid hrm
                replace hRow := Lib.hid hRow
                clear hp hq hye cF cE cy ce
                obtain ⟨bR, oR, hRa, hbR, hrR⟩ := hrow.at_ (by have := hrm.out; omega)
                rw [hRa]
                replace hRa := Lib.hid hRa
                clear hw6 hB3
                obtain ⟨wo, hwo⟩ : ∃ y, y = w6 := ⟨_, rfl⟩
                rw [← hwo] at h1 hB6 ⊢
                clear hwo
                go_upto_region 19 with (fail)
                go_loopw [86] (fun iv wr => ∃ c : Nat, c ≤ m ∧ iv = .int .i64 c ∧ Below w.heap.size w wr ∧ Blk wr w.heap.size 47 (dfaC x.f x.A x.rs.length x.c x.B x.fo.length x.d x.C x.en.length x.e) ∧ (∀ j, j < c → ToOk x.T s (x.T.nxt s (j : Nat)))) (fun iv _ => m - (intOf iv).toNat)
                case atStart => exact ⟨0, by omega, rfl, hB6, h1, fun j hj => by omega⟩
                case round =>
                  clear h1 hB6
                  obtain ⟨c, hc, rfl, hBw, h1, hall2⟩ := hrel
                  replace hall2 := Lib.hid hall2
                  by_cases hcl : c < r.l.length
                  · have hcI : (c : Int) < r.l.length := by omega
                    have hcm : c < m := by rw [← hrm.out]; exact hcl
                    obtain ⟨z, hz⟩ : ∃ z, z = r.l[c] := ⟨_, rfl⟩
                    have hzT : x.T.nxt s (c : Nat) = z := by
                      have hcr2 : c < x.rs[s].l.length := by rw [← hr.out]; exact hcl
                      rw [nxt_at hsl hcr2, hz]
                      simp only [hr.out]
                    replace hzT := Lib.hid hzT
                    have c3 : wr.cell? ⟨bR, oR + c, none⟩ = some (.int .i64 z) := by
                      rw [hz]
                      have := cell_keep (hrR c hcl 0 _ rfl) hbR hBw
                      rw [show oR + c * 1 + 0 = oR + c by omega] at this
                      exact this
                    clear hz
                    go_upto_region 21 with (fail)
                    clear c3
                    have cF : ∀ {X : World}, Below wr.heap.size wr X → X.cell? ⟨w.heap.size, 257, none⟩ = some (.slice (some ⟨bF, oF, none⟩) x.fo.length x.d) := fun hB => by rw [← hFo.out]; exact blk_d2 (blk_then h1 hB)
                    have cy : ∀ {X : World}, Below wr.heap.size wr X → X.cell? ⟨bF, oF + s * 1, none⟩ = some (.int .u32 ((y : Nat) : Int)) := fun hB => by
                      have e1 : y = x.fo[s] := by rw [← yT.out]; exact getD_at x.fo 0 hsF
                      rw [e1]
                      exact cell_keep (hrF s hsF 0 _ rfl) hbF (below_then hBw hB)
                    have hTX : ∀ {X : World}, Below wr.heap.size wr X → TabIn X X.heap.size x := fun hB => hT.then_ (below_then hBw hB)
                    obtain ⟨bq, hbq⟩ : ∃ b, withinB x y z = b := ⟨_, rfl⟩
                    refine wp_region_steps 9 [eqS (.agg (dfaC x.f x.A x.rs.length x.c x.B x.fo.length x.d x.C x.en.length x.e)), eqS (.pointer (some ⟨w.heap.size, 257, none⟩)), eqS (.slice (some ⟨bF, oF, none⟩) x.fo.length x.d), eqS (.int .i64 (((s : Nat) : Int))), eqS (.pointer (some ⟨bF, oF + s * 1, none⟩)), eqS (.int .u32 (((y : Nat) : Int))), eqS (.int .i64 (z)), eqS (.bool bq), eqS (.bool (!bq))] [90, 91, 92, 93, 94, 95, 96, 97, 98] rfl (by kernel_rfl) rfl ?_ ?_
                    · skip
                      refine Steps.cons (fun a' w' hG hB dep => gs_load_dfa (want_none rfl) _ rfl w.heap.size (hG.other 1 rfl) (blk_then h1 hB) rfl) ?_
                      refine Steps.cons (fun a' w' hG hB dep => gs_field (want_none rfl) _ _ _ rfl w.heap.size (0) (257) (hG.other 1 rfl) (fun wz => field_dfa_2 w.heap.size (0) wz) rfl) ?_
                      refine Steps.cons (fun a' w' hG hB dep => gs_load1 (want_none rfl) _ _ rfl w.heap.size (257) (dep 1 rfl 91 rfl) (.slice (some ⟨bF, oF, none⟩) x.fo.length x.d) (cF hB) _ Try.underlying32 rfl rfl) ?_
                      refine Steps.cons (fun a' w' hG hB dep => gs_move (want_none rfl) _ rfl (id (hG.other 7 rfl))) ?_
                      refine Steps.cons (fun a' w' hG hB dep => gs_index (want_none rfl) _ _ _ rfl under_rules 1 size_ruleE bF oF x.fo.length x.d (s) (dep 2 rfl 92 rfl) (dep 3 rfl 93 rfl) hsF rfl) ?_
                      refine Steps.cons (fun a' w' hG hB dep => gs_load1 (want_none rfl) _ _ rfl bF (oF + s * 1) (dep 4 rfl 94 rfl) (.int .u32 (((y : Nat) : Int))) (cy hB) _ Try.underlying55 rfl rfl) ?_
                      refine Steps.cons (fun a' w' hG hB dep => gs_move (want_none rfl) _ rfl (id (hG.other 10 rfl))) ?_
                      refine Steps.cons (fun a' w' hG hB dep => gs_call (want_none rfl) _ _ _ rfl enter_within _ (map3 (dep 0 rfl 90 rfl) (dep 5 rfl 95 rfl) (dep 6 rfl 96 rfl)) ((within_any2 x y z hy32 n3.out w' (hTX hB)).mono fun e w2 ⟨he, hb⟩ => ⟨_, he, hb, by rw [hbq]; rfl⟩)) ?_
                      refine Steps.cons (fun a' w' hG hB dep => gs_not_bool (want_none rfl) _ _ rfl _ (dep 7 rfl 97 rfl) rfl) ?_
                      exact Steps.nil
                    intro u w8 hw8 ans
                    have hus98 : u 98 = (.bool (!bq)) := ans 8 98 (by decide) rfl
                    clear ans
                    simp only [putAll, List.foldl_cons, List.foldl_nil, Act.put, List.setIfInBounds_toArray, List.set_cons_zero, List.set_cons_succ, hus98]
                    clear hus98
                    simp only [List.drop]
                    refine wpList_nil ?_
                    have hB8 := below_then hBw hw8
                    replace h1 := blk_then h1 hw8
                    clear hw8 cF cy hTX
                    cases bq with
                    | false =>
                      have hno : ¬ Fits x.T := fun hF => by
                        have e1 := hF.tr s c (by rw [fits_n]; exact hsl) (by rw [Hmany.out]; exact hcm)
                        rw [hzT.out, fits_n, yT.out] at e1
                        have : withinB x y z = true := decide_eq_true ⟨e1.1, e1.2.1, e1.2.2⟩
                        rw [hbq] at this
                        cases this
                      have hv := Lib.hid (fitsB_no hno)
                      clear hbq
                      go_wp2_with (fail)
                      go_ret
                      exact ⟨by rw [hv.out]; rfl, hB8⟩
                    | true =>
                      have hTo : ToOk x.T s (x.T.nxt s (c : Nat)) := by
                        have e1 := of_decide_eq_true hbq
                        rw [hzT.out]
                        refine ⟨e1.1, by rw [fits_n]; exact e1.2.1, ?_⟩
                        rw [yT.out]
                        exact e1.2.2
                      replace hTo := Lib.hid hTo
                      clear hbq
                      go_wp2_with (fail)
                      exact ⟨⟨c + 1, by omega, rfl, hB8, h1, fun j hj => by
                        rcases Nat.lt_or_ge j c with h | h
                        · exact hall2.out j h
                        · have : j = c := by omega
                          subst this
                          exact hTo.out⟩, by simp only [intOf]; omega⟩
                  · have hcI : ¬ (c : Int) < r.l.length := by omega
                    have hcm : ¬ c < m := by rw [← hrm.out]; exact hcl
                    have hRt : RowOk x.T s ∧ ∀ c, c < m → ToOk x.T s (x.T.nxt s (c : Nat)) := ⟨hRow.out, fun j hj => hall2.out j (by omega)⟩
                    replace hRt := Lib.hid hRt
                    clear hall2
                    go_wp2_with (fail)
                    exact ⟨⟨s + 1, by omega, rfl, hBw, h1, fun j hj => by
                      rcases Nat.lt_or_ge j s with h | h
                      · exact hall.out j h
                      · have : j = s := by omega
                        subst this
                        exact hRt.out⟩, by simp only [intOf]; omega⟩
            · have hsI : ¬ (s : Int) < x.rs.length := by omega
              have hyes : Fits x.T := fits_of (by rw [fits_n]; exact n1) (by rw [fits_n]; exact n2) (by rw [fits_n]; exact n3.out) (by rw [fits_n]; exact n4.out) (by rw [Hmany.out]; exact m1) (by rw [Hmany.out]; exact m2)
                (fun b hb => by rw [Hmany.out]; exact hcls.out b hb) (fun j hj => by rw [fits_n] at hj; rw [Hmany.out]; exact hall.out j (by omega))
              have hv := Lib.hid (fitsB_yes hyes)
              clear hyes hall
              go_wp2_with (fail)
              go_ret
              exact ⟨by rw [hv.out]; rfl, hB3⟩
theorem enter_right (args : Array Value) (w : World) : (callFunc 28 args).run Try.prog w = .ok (.enter 28 args) w := by kernel_rfl
theorem enter_rright (args : Array Value) (w : World) : (callFunc 32 args).run Try.prog w = .ok (.enter 32 args) w := by kernel_rfl
theorem enter_goes (args : Array Value) (w : World) : (callFunc 48 args).run Try.prog w = .ok (.enter 48 args) w := by kernel_rfl
end Go.Proofs.Ytgahdookojbbiaa
