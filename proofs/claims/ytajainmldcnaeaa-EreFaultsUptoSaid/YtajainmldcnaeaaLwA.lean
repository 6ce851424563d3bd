/- heronlaw04.same: two trees are compared. No condition beyond those named in each lemma. -/
import Derived.Test.YtajainmldcnaeaaEreZ
namespace Go.Proofs.Ytajainmldcnaeaa
open Go.RowKit Go.Maps
set_option linter.unusedVariables false
set_option linter.unusedSimpArgs false
attribute [local go_sem] Oper.semAt_some

open Classical in
/-- are two trees one? -/
noncomputable def sameB (a b : Nd) : Bool := decide (a = b)
theorem sameB_iff (a b : Nd) : sameB a b = true ↔ a = b := by unfold sameB; simp
theorem sameB_self (a : Nd) : sameB a a = true := (sameB_iff a a).2 rfl
theorem sameB_ne {a b : Nd} (h : a ≠ b) : sameB a b = false := by
  rw [Bool.eq_false_iff]
  exact fun e => h ((sameB_iff a b).1 e)
theorem gs_load_nd {ops : Array Oper} {S : Nat → GSpec} {Q : Exit → Act → World → Prop} {i : Nat} {o : Oper} {a : Act} {w : World} (hw : Region.wanted o (yielded ops a.tmps) = true) (x : Operand) (ho : o.op = .load 27 x) (b off : Nat) (hx : a.eval x = .pointer (some ⟨b, off, none⟩)) (cs : Array Value)
    (hr : RowAt w b off cs ∧ cs.size = 8) (hp : (S i).p (.agg cs) w) : GStep Try.prog ops S Q i o a w :=
  gs_run hw (v := .agg cs) (by unfold execOp; simp only [ho, hx, Instr.loadAt, Instr.sureAddr, Sem.run_bind, Sem.run_pure, Result.andThen_ok, run_loadVar_at w b off _ _ _ hr.1 Try.underlying27 rfl (info_node.trans (by rw [hr.2]))]) (Below.refl _ _) hp
theorem enter_same4 (args : Array Value) (w : World) : (callFunc 14 args).run Try.prog w = .ok (.enter 14 args) w := by kernel_rfl
theorem NdIn.size8 {w : World} {B : Nat} {nd : Nd} {cs : Array Value} (h : NdIn w B nd cs) : cs.size = 8 := by
  cases h
  rfl
set_option maxRecDepth 100000 in
set_option maxHeartbeats 8000000 in
theorem same4_any (a : Nd) : ∀ (b : Nd) (B : Nat) (w : World) (cs cs' : Array Value), NdIn w B a cs → NdIn w B b cs' → B ≤ w.heap.size →
    Calls Try.prog 14 #[.agg cs, .agg cs'] w fun e w' => e = .returned (.bool (sameB a b)) ∧ Below w.heap.size w w' := by
  induction a using Nd.ind with
  | h kd st l mi ma ih =>
  intro b B w cs cs' hin1 hin2 hB
  obtain ⟨kd', st', l', mi', ma'⟩ := b
  obtain ⟨A, n, c, cl, rfl, hn, hcl, hmax, hs, hr⟩ := hin1.inv
  obtain ⟨A', n', c', cl', rfl, hn', hcl', hmax', hs', hr'⟩ := hin2.inv
  obtain ⟨V, hV⟩ : ∃ V, sameB (Nd.mk kd st l mi ma) (Nd.mk kd' st' l' mi' ma') = V := ⟨_, rfl⟩
  rw [hV]
  obtain ⟨b0, k0⟩ : ∃ q, (kd != kd') = q := ⟨_, rfl⟩
  obtain ⟨b1, k1⟩ : ∃ q, (!decide (st = st')) = q := ⟨_, rfl⟩
  obtain ⟨b2, k2⟩ : ∃ q, (mi != mi') = q := ⟨_, rfl⟩
  obtain ⟨b3, k3⟩ : ∃ q, (ma != ma') = q := ⟨_, rfl⟩
  obtain ⟨b4, k4⟩ : ∃ q, (((n : Nat) : Int) != ((n' : Nat) : Int)) = q := ⟨_, rfl⟩
  replace k0 := Lib.hid k0
  replace k1 := Lib.hid k1
  replace k2 := Lib.hid k2
  replace k3 := Lib.hid k3
  replace k4 := Lib.hid k4
  replace hV := Lib.hid hV
  replace hn := Lib.hid hn
  replace hcl := Lib.hid hcl
  replace hn' := Lib.hid hn'
  replace hcl' := Lib.hid hcl'
  replace hr := Lib.hid hr
  replace hr' := Lib.hid hr'
  replace ih := Lib.hid ih
  clear hin1 hin2 hmax'
  go_enter Try.func14, Try.ntmps14
  have h1 := (Blk.new w 27 (nodeC kd st A n c mi ma)).alloc (.cells (nodeC kd' st' A' n' c' mi' ma') 27)
  have h2 : Blk ((w.alloc (.cells (nodeC kd st A n c mi ma) 27)).alloc (.cells (nodeC kd' st' A' n' c' mi' ma') 27)) (w.heap.size + 1) 27 (nodeC kd' st' A' n' c' mi' ma') := Blk.new' _ _ _ (by simp)
  have hB1 : Below w.heap.size w ((w.alloc (.cells (nodeC kd st A n c mi ma) 27)).alloc (.cells (nodeC kd' st' A' n' c' mi' ma') 27)) := below_alloc (below_alloc (Below.refl _ _) _) _
  go_upto_region 1 with (fail)
  obtain ⟨W1, hW1⟩ : ∃ y, y = (w.alloc (.cells (nodeC kd st A n c mi ma) 27)).alloc (.cells (nodeC kd' st' A' n' c' mi' ma') 27) := ⟨_, rfl⟩
  rw [← hW1] at h1 h2 hB1 ⊢
  clear hW1
  obtain ⟨g1, hg1⟩ : ∃ y, y = w.heap.size := ⟨_, rfl⟩
  obtain ⟨g2, hg2⟩ : ∃ y, y = w.heap.size + 1 := ⟨_, rfl⟩
  rw [← hg2] at h2 ⊢
  rw [← hg1] at h1 ⊢
  clear hg1 hg2
  obtain ⟨q, hq⟩ : ∃ q, (((((b0 || b1) || b2) || b3) || b4)) = q := ⟨_, rfl⟩
  refine wp_region_text 35 [eqS (.pointer (some ⟨g1, 0, none⟩)), eqS (.int .i64 (kd)), eqS (.pointer (some ⟨g2, 0, none⟩)), eqS (.int .i64 (kd')), eqS (.bool b0), eqS (.bool b0), eqS (vF (true && (b0 == false)) (.pointer (some ⟨g1, 1, none⟩))), eqS (vF (true && (b0 == false)) (.agg (setC st))), eqS (vF (true && (b0 == false)) (.pointer (some ⟨g2, 1, none⟩))), eqS (vF (true && (b0 == false)) (.agg (setC st'))), eqS (vF (true && (b0 == false)) (.bool b1)), eqS (.bool (b0 || b1)), eqS (.bool (b0 || b1)), eqS (vF (true && ((b0 || b1) == false)) (.pointer (some ⟨g1, 6, none⟩))), eqS (vF (true && ((b0 || b1) == false)) (.int .i64 (mi))), eqS (vF (true && ((b0 || b1) == false)) (.pointer (some ⟨g2, 6, none⟩))), eqS (vF (true && ((b0 || b1) == false)) (.int .i64 (mi'))), eqS (vF (true && ((b0 || b1) == false)) (.bool b2)), eqS (.bool ((b0 || b1) || b2)), eqS (.bool ((b0 || b1) || b2)), eqS (vF (true && (((b0 || b1) || b2) == false)) (.pointer (some ⟨g1, 7, none⟩))), eqS (vF (true && (((b0 || b1) || b2) == false)) (.int .i64 (ma))), eqS (vF (true && (((b0 || b1) || b2) == false)) (.pointer (some ⟨g2, 7, none⟩))), eqS (vF (true && (((b0 || b1) || b2) == false)) (.int .i64 (ma'))), eqS (vF (true && (((b0 || b1) || b2) == false)) (.bool b3)), eqS (.bool (((b0 || b1) || b2) || b3)), eqS (.bool (((b0 || b1) || b2) || b3)), eqS (vF (true && ((((b0 || b1) || b2) || b3) == false)) (.pointer (some ⟨g1, 5, none⟩))), eqS (vF (true && ((((b0 || b1) || b2) || b3) == false)) (.slice A n c)), eqS (vF (true && ((((b0 || b1) || b2) || b3) == false)) (.int .i64 (((n : Nat) : Int)))), eqS (vF (true && ((((b0 || b1) || b2) || b3) == false)) (.pointer (some ⟨g2, 5, none⟩))), eqS (vF (true && ((((b0 || b1) || b2) || b3) == false)) (.slice A' n' c')), eqS (vF (true && ((((b0 || b1) || b2) || b3) == false)) (.int .i64 (((n' : Nat) : Int)))), eqS (vF (true && ((((b0 || b1) || b2) || b3) == false)) (.bool b4)), eqS (.bool ((((b0 || b1) || b2) || b3) || b4))] [6, 7, 8, 9, 10, 11, 12, 13, 14, 15, 16, 17, 18, 19, 20, 21, 22, 23, 24, 25, 26, 27, 28, 29, 30, 31, 32, 33, 34, 35, 36, 37, 38, 39, 40] (by kernel_rfl) rfl ?_ ?_
  · skip
    refine Steps.cons (fun a' w' hG hB dep => gs_field (want_none rfl) _ _ _ rfl g1 (0) (0) (hG.other 2 rfl) (fun wz => field_node_0 g1 (0) wz) rfl) ?_
    refine Steps.cons (fun a' w' hG hB dep => gs_load1 (want_none rfl) _ _ rfl g1 (0) (dep 0 rfl 6 rfl) (.int .i64 (kd)) ((blk_then h1 hB).cellv (i := 0) rfl) _ Try.underlying3 rfl rfl) ?_
    refine Steps.cons (fun a' w' hG hB dep => gs_field (want_none rfl) _ _ _ rfl g2 (0) (0) (hG.other 3 rfl) (fun wz => field_node_0 g2 (0) wz) rfl) ?_
    refine Steps.cons (fun a' w' hG hB dep => gs_load1 (want_none rfl) _ _ rfl g2 (0) (dep 2 rfl 8 rfl) (.int .i64 (kd')) ((blk_then h2 hB).cellv (i := 0) rfl) _ Try.underlying3 rfl rfl) ?_
    refine Steps.cons (fun a' w' hG hB dep => gs_neq_int (want_none rfl) _ _ _ _ rfl _ _ _ (dep 1 rfl 7 rfl) (dep 3 rfl 9 rfl) (id (congrArg Value.bool k0.out))) ?_
    refine Steps.cons (fun a' w' hG hB dep => gs_move (want_none rfl) _ rfl (id (dep 4 rfl 10 rfl))) ?_
    refine Steps.cons (fun a' w' hG hB dep => gs_guard (c := true) (b' := b0) rfl rfl (dep 5 rfl 11 rfl) (fun hc he hw => gs_field hw _ _ _ rfl g1 (0) (1) (hG.other 2 rfl) (fun wz => field_node_1 g1 (0) wz) (vF_yes (on_g hc he) _).symm) (fun hn => vF_no hn _)) ?_
    refine Steps.cons (fun a' w' hG hB dep => gs_guard (c := true) (b' := b0) rfl rfl (dep 5 rfl 11 rfl) (fun hc he hw => gs_load_set_at hw _ rfl g1 (1) (Eq.trans (dep 6 rfl 12 rfl) (vF_yes (on_g hc he) _)) _ (node_st (blk_then h1 hB)) (vF_yes (on_g hc he) _).symm) (fun hn => vF_no hn _)) ?_
    refine Steps.cons (fun a' w' hG hB dep => gs_guard (c := true) (b' := b0) rfl rfl (dep 5 rfl 11 rfl) (fun hc he hw => gs_field hw _ _ _ rfl g2 (0) (1) (hG.other 3 rfl) (fun wz => field_node_1 g2 (0) wz) (vF_yes (on_g hc he) _).symm) (fun hn => vF_no hn _)) ?_
    refine Steps.cons (fun a' w' hG hB dep => gs_guard (c := true) (b' := b0) rfl rfl (dep 5 rfl 11 rfl) (fun hc he hw => gs_load_set_at hw _ rfl g2 (1) (Eq.trans (dep 8 rfl 14 rfl) (vF_yes (on_g hc he) _)) _ (node_st (blk_then h2 hB)) (vF_yes (on_g hc he) _).symm) (fun hn => vF_no hn _)) ?_
    refine Steps.cons (fun a' w' hG hB dep => gs_guard (c := true) (b' := b0) rfl rfl (dep 5 rfl 11 rfl) (fun hc he hw => gs_neq_set hw _ _ _ rfl _ _ (Eq.trans (dep 7 rfl 13 rfl) (vF_yes (on_g hc he) _)) (Eq.trans (dep 9 rfl 15 rfl) (vF_yes (on_g hc he) _)) (Eq.trans (congrArg Value.bool k1.out) (vF_yes (on_g hc he) _).symm)) (fun hn => vF_no hn _)) ?_
    refine Steps.cons (fun a' w' hG hB dep => gs_pick (want_none rfl) _ _ _ rfl b0 (dep 5 rfl 11 rfl) (id (pick_or2 (c := true) rfl (dep 10 rfl 16 rfl)))) ?_
    refine Steps.cons (fun a' w' hG hB dep => gs_move (want_none rfl) _ rfl (id (dep 11 rfl 17 rfl))) ?_
    refine Steps.cons (fun a' w' hG hB dep => gs_guard (c := true) (b' := (b0 || b1)) rfl rfl (dep 12 rfl 18 rfl) (fun hc he hw => gs_field hw _ _ _ rfl g1 (0) (6) (hG.other 2 rfl) (fun wz => field_node_3 g1 (0) wz) (vF_yes (on_g hc he) _).symm) (fun hn => vF_no hn _)) ?_
    refine Steps.cons (fun a' w' hG hB dep => gs_guard (c := true) (b' := (b0 || b1)) rfl rfl (dep 12 rfl 18 rfl) (fun hc he hw => gs_load1 hw _ _ rfl g1 (6) (Eq.trans (dep 13 rfl 19 rfl) (vF_yes (on_g hc he) _)) (.int .i64 (mi)) ((blk_then h1 hB).cellv (i := 6) rfl) _ Try.underlying3 rfl (vF_yes (on_g hc he) _).symm) (fun hn => vF_no hn _)) ?_
    refine Steps.cons (fun a' w' hG hB dep => gs_guard (c := true) (b' := (b0 || b1)) rfl rfl (dep 12 rfl 18 rfl) (fun hc he hw => gs_field hw _ _ _ rfl g2 (0) (6) (hG.other 3 rfl) (fun wz => field_node_3 g2 (0) wz) (vF_yes (on_g hc he) _).symm) (fun hn => vF_no hn _)) ?_
    refine Steps.cons (fun a' w' hG hB dep => gs_guard (c := true) (b' := (b0 || b1)) rfl rfl (dep 12 rfl 18 rfl) (fun hc he hw => gs_load1 hw _ _ rfl g2 (6) (Eq.trans (dep 15 rfl 21 rfl) (vF_yes (on_g hc he) _)) (.int .i64 (mi')) ((blk_then h2 hB).cellv (i := 6) rfl) _ Try.underlying3 rfl (vF_yes (on_g hc he) _).symm) (fun hn => vF_no hn _)) ?_
    refine Steps.cons (fun a' w' hG hB dep => gs_guard (c := true) (b' := (b0 || b1)) rfl rfl (dep 12 rfl 18 rfl) (fun hc he hw => gs_neq_int hw _ _ _ _ rfl _ _ _ (Eq.trans (dep 14 rfl 20 rfl) (vF_yes (on_g hc he) _)) (Eq.trans (dep 16 rfl 22 rfl) (vF_yes (on_g hc he) _)) (Eq.trans (congrArg Value.bool k2.out) (vF_yes (on_g hc he) _).symm)) (fun hn => vF_no hn _)) ?_
    refine Steps.cons (fun a' w' hG hB dep => gs_pick (want_none rfl) _ _ _ rfl (b0 || b1) (dep 12 rfl 18 rfl) (id (pick_or2 (c := true) rfl (dep 17 rfl 23 rfl)))) ?_
    refine Steps.cons (fun a' w' hG hB dep => gs_move (want_none rfl) _ rfl (id (dep 18 rfl 24 rfl))) ?_
    refine Steps.cons (fun a' w' hG hB dep => gs_guard (c := true) (b' := ((b0 || b1) || b2)) rfl rfl (dep 19 rfl 25 rfl) (fun hc he hw => gs_field hw _ _ _ rfl g1 (0) (7) (hG.other 2 rfl) (fun wz => field_node_4 g1 (0) wz) (vF_yes (on_g hc he) _).symm) (fun hn => vF_no hn _)) ?_
    refine Steps.cons (fun a' w' hG hB dep => gs_guard (c := true) (b' := ((b0 || b1) || b2)) rfl rfl (dep 19 rfl 25 rfl) (fun hc he hw => gs_load1 hw _ _ rfl g1 (7) (Eq.trans (dep 20 rfl 26 rfl) (vF_yes (on_g hc he) _)) (.int .i64 (ma)) ((blk_then h1 hB).cellv (i := 7) rfl) _ Try.underlying3 rfl (vF_yes (on_g hc he) _).symm) (fun hn => vF_no hn _)) ?_
    refine Steps.cons (fun a' w' hG hB dep => gs_guard (c := true) (b' := ((b0 || b1) || b2)) rfl rfl (dep 19 rfl 25 rfl) (fun hc he hw => gs_field hw _ _ _ rfl g2 (0) (7) (hG.other 3 rfl) (fun wz => field_node_4 g2 (0) wz) (vF_yes (on_g hc he) _).symm) (fun hn => vF_no hn _)) ?_
    refine Steps.cons (fun a' w' hG hB dep => gs_guard (c := true) (b' := ((b0 || b1) || b2)) rfl rfl (dep 19 rfl 25 rfl) (fun hc he hw => gs_load1 hw _ _ rfl g2 (7) (Eq.trans (dep 22 rfl 28 rfl) (vF_yes (on_g hc he) _)) (.int .i64 (ma')) ((blk_then h2 hB).cellv (i := 7) rfl) _ Try.underlying3 rfl (vF_yes (on_g hc he) _).symm) (fun hn => vF_no hn _)) ?_
    refine Steps.cons (fun a' w' hG hB dep => gs_guard (c := true) (b' := ((b0 || b1) || b2)) rfl rfl (dep 19 rfl 25 rfl) (fun hc he hw => gs_neq_int hw _ _ _ _ rfl _ _ _ (Eq.trans (dep 21 rfl 27 rfl) (vF_yes (on_g hc he) _)) (Eq.trans (dep 23 rfl 29 rfl) (vF_yes (on_g hc he) _)) (Eq.trans (congrArg Value.bool k3.out) (vF_yes (on_g hc he) _).symm)) (fun hn => vF_no hn _)) ?_
    refine Steps.cons (fun a' w' hG hB dep => gs_pick (want_none rfl) _ _ _ rfl ((b0 || b1) || b2) (dep 19 rfl 25 rfl) (id (pick_or2 (c := true) rfl (dep 24 rfl 30 rfl)))) ?_
    refine Steps.cons (fun a' w' hG hB dep => gs_move (want_none rfl) _ rfl (id (dep 25 rfl 31 rfl))) ?_
    refine Steps.cons (fun a' w' hG hB dep => gs_guard (c := true) (b' := (((b0 || b1) || b2) || b3)) rfl rfl (dep 26 rfl 32 rfl) (fun hc he hw => gs_field hw _ _ _ rfl g1 (0) (5) (hG.other 2 rfl) (fun wz => field_node_2 g1 (0) wz) (vF_yes (on_g hc he) _).symm) (fun hn => vF_no hn _)) ?_
    refine Steps.cons (fun a' w' hG hB dep => gs_guard (c := true) (b' := (((b0 || b1) || b2) || b3)) rfl rfl (dep 26 rfl 32 rfl) (fun hc he hw => gs_load1 hw _ _ rfl g1 (5) (Eq.trans (dep 27 rfl 33 rfl) (vF_yes (on_g hc he) _)) (.slice A n c) ((blk_then h1 hB).cellv (i := 5) rfl) _ Try.underlying25 rfl (vF_yes (on_g hc he) _).symm) (fun hn => vF_no hn _)) ?_
    refine Steps.cons (fun a' w' hG hB dep => gs_guard (c := true) (b' := (((b0 || b1) || b2) || b3)) rfl rfl (dep 26 rfl 32 rfl) (fun hc he hw => gs_len hw _ _ rfl under_nodes _ n c (Eq.trans (dep 28 rfl 34 rfl) (vF_yes (on_g hc he) _)) (vF_yes (on_g hc he) _).symm) (fun hn => vF_no hn _)) ?_
    refine Steps.cons (fun a' w' hG hB dep => gs_guard (c := true) (b' := (((b0 || b1) || b2) || b3)) rfl rfl (dep 26 rfl 32 rfl) (fun hc he hw => gs_field hw _ _ _ rfl g2 (0) (5) (hG.other 3 rfl) (fun wz => field_node_2 g2 (0) wz) (vF_yes (on_g hc he) _).symm) (fun hn => vF_no hn _)) ?_
    refine Steps.cons (fun a' w' hG hB dep => gs_guard (c := true) (b' := (((b0 || b1) || b2) || b3)) rfl rfl (dep 26 rfl 32 rfl) (fun hc he hw => gs_load1 hw _ _ rfl g2 (5) (Eq.trans (dep 30 rfl 36 rfl) (vF_yes (on_g hc he) _)) (.slice A' n' c') ((blk_then h2 hB).cellv (i := 5) rfl) _ Try.underlying25 rfl (vF_yes (on_g hc he) _).symm) (fun hn => vF_no hn _)) ?_
    refine Steps.cons (fun a' w' hG hB dep => gs_guard (c := true) (b' := (((b0 || b1) || b2) || b3)) rfl rfl (dep 26 rfl 32 rfl) (fun hc he hw => gs_len hw _ _ rfl under_nodes _ n' c' (Eq.trans (dep 31 rfl 37 rfl) (vF_yes (on_g hc he) _)) (vF_yes (on_g hc he) _).symm) (fun hn => vF_no hn _)) ?_
    refine Steps.cons (fun a' w' hG hB dep => gs_guard (c := true) (b' := (((b0 || b1) || b2) || b3)) rfl rfl (dep 26 rfl 32 rfl) (fun hc he hw => gs_neq_int hw _ _ _ _ rfl _ _ _ (Eq.trans (dep 29 rfl 35 rfl) (vF_yes (on_g hc he) _)) (Eq.trans (dep 32 rfl 38 rfl) (vF_yes (on_g hc he) _)) (Eq.trans (congrArg Value.bool k4.out) (vF_yes (on_g hc he) _).symm)) (fun hn => vF_no hn _)) ?_
    refine Steps.cons (fun a' w' hG hB dep => gs_pick (want_none rfl) _ _ _ rfl (((b0 || b1) || b2) || b3) (dep 26 rfl 32 rfl) (id (pick_or2 (c := true) rfl (dep 33 rfl 39 rfl)))) ?_
    exact Steps.nil
  intro u w2 hB2 ans
  have u40 : u 40 = .bool (((((b0 || b1) || b2) || b3) || b4)) := ans 34 40 (by decide) rfl
  rw [hq] at u40
  clear ans
  simp only [putAll, List.foldl_cons, List.foldl_nil, Act.put, List.setIfInBounds_toArray, List.set_cons_zero, List.set_cons_succ, u40]
  clear u40
  simp only [List.drop]
  refine wpList_nil ?_
  replace h1 := blk_then h1 hB2
  replace h2 := blk_then h2 hB2
  replace hB1 := below_then hB1 hB2
  clear hB2
  cases q with
  | true =>
    have hne : V = false := by
      rw [← hV.out]
      refine sameB_ne fun e => ?_
      injection e with e1 e2 e3 e4 e5
      have f0 := k0.out
      have f1 := k1.out
      have f2 := k2.out
      have f3 := k3.out
      have f4 := k4.out
      subst e1 e2 e3 e4 e5
      rw [hn.out, hn'.out] at f4
      simp only [bne_self_eq_false, decide_true, Bool.not_true] at f0 f1 f2 f3 f4
      rw [← f0, ← f1, ← f2, ← f3, ← f4] at hq
      cases hq
    subst hne
    replace hq := Lib.hid hq
    go_wp2_with (fail)
    go_ret
    exact ⟨rfl, hB1⟩
  | false =>
    simp only [Bool.or_eq_false_iff] at hq
    obtain ⟨⟨⟨⟨q0, q1⟩, q2⟩, q3⟩, q4⟩ := hq
    have e0 := Lib.hid (show kd = kd' by have := k0.out; rw [q0] at this; simpa using this)
    have e1 := Lib.hid (show st = st' by have := k1.out; rw [q1] at this; simpa using this)
    have e2 := Lib.hid (show mi = mi' by have := k2.out; rw [q2] at this; simpa using this)
    have e3 := Lib.hid (show ma = ma' by have := k3.out; rw [q3] at this; simpa using this)
    have e4 := Lib.hid (show n = n' by have := k4.out; rw [q4] at this; simp at this; omega)
    clear q0 q1 q2 q3 q4 k0 k1 k2 k3 k4 b0 b1 b2 b3 b4
    have c5 : w2.cell? ⟨g1, 5, none⟩ = some (.slice A n c) := h1.cellv (i := 5) rfl
    go_wp2_with (fail)
    go_loopw [44] (fun iv wr => ∃ i : Nat, i ≤ n ∧ iv = .int .i64 i ∧ Below w2.heap.size w2 wr ∧ ∀ k (h : k < l.length) (h' : k < l'.length), k < i → l[k] = l'[k]) (fun iv _ => n - (intOf iv).toNat)
    case atStart => exact ⟨0, by omega, rfl, Below.refl _ _, fun k h h' hk => by omega⟩
    case round =>
      obtain ⟨i, hi, rfl, hBw, hall⟩ := hrel
      replace hall := Lib.hid hall
      by_cases hin : i < n
      · have hinI : (i : Int) < n := by omega
        have hin' : i < n' := by rw [← e4.out]; exact hin
        have hic : i < cl.length := by rw [hcl.out, ← hn.out]; exact hin
        have hic' : i < cl'.length := by rw [hcl'.out, ← hn'.out]; exact hin'
        have hil : i < l.length := by rw [← hn.out]; exact hin
        have hil' : i < l'.length := by rw [← hn'.out]; exact hin'
        obtain ⟨b1, o1, hA1, hb1, hrow1⟩ := hs.at_ (by omega)
        obtain ⟨b2, o2, hA2, hb2, hrow2⟩ := hs'.at_ (by omega)
        subst hA1 hA2
        have hwB : Below w.heap.size w w2 := hB1
        have hnd1 := hr.out i hil hic
        have hnd2 := hr'.out i hil' hic'
        have hrw1 : ∀ X, Below w2.heap.size w2 X → RowAt X b1 (o1 + i * 8) (cl[i]'hic) ∧ (cl[i]'hic).size = 8 := fun X hX => ⟨(hrow1 i hic).keep ((hX.block b1 (by have := hB1.size; omega)).trans (hB1.block b1 (by omega))), hnd1.size8⟩
        have hrw2 : ∀ X, Below w2.heap.size w2 X → RowAt X b2 (o2 + i * 8) (cl'[i]'hic') ∧ (cl'[i]'hic').size = 8 := fun X hX => ⟨(hrow2 i hic').keep ((hX.block b2 (by have := hB1.size; omega)).trans (hB1.block b2 (by omega))), hnd2.size8⟩
        have hcall : ∀ X, Below w2.heap.size w2 X → Calls Try.prog 14 #[.agg (cl[i]'hic), .agg (cl'[i]'hic')] X fun e w' => e = .returned (.bool (sameB (l[i]'hil) (l'[i]'hil'))) ∧ Below X.heap.size X w' := fun X hX =>
          ih.out _ (List.getElem_mem hil) _ B X _ _ (hnd1.keep fun k hk => (hX.block k (by have := hB1.size; omega)).trans (hB1.block k (by omega))) (hnd2.keep fun k hk => (hX.block k (by have := hB1.size; omega)).trans (hB1.block k (by omega))) (by have := hX.size; have := hB1.size; omega)
        obtain ⟨b, hb_e⟩ : ∃ q, sameB (l[i]'hil) (l'[i]'hil') = q := ⟨_, rfl⟩
        rw [hb_e] at hcall
        replace hrow1 := Lib.hid hrw1
        replace hrow2 := Lib.hid hrw2
        replace hcall := Lib.hid hcall
        replace hb_e := Lib.hid hb_e
        clear hrw1 hrw2 hnd1 hnd2 c5
        go_upto_region 6 with (fail)
        have h1r := blk_then h1 hBw
        have h2r := blk_then h2 hBw
        refine wp_region_steps 12 [eqS (.pointer (some ⟨g1, 5, none⟩)), eqS (.slice (some ⟨b1, o1, none⟩) n c), eqS (.int .i64 (((i : Nat) : Int))), eqS (.pointer (some ⟨b1, o1 + i * 8, none⟩)), eqS (.agg (cl[i]'hic)), eqS (.pointer (some ⟨g2, 5, none⟩)), eqS (.slice (some ⟨b2, o2, none⟩) n' c'), eqS (.int .i64 (((i : Nat) : Int))), eqS (.pointer (some ⟨b2, o2 + i * 8, none⟩)), eqS (.agg (cl'[i]'hic')), eqS (.bool b), eqS (.bool (!b))] [47, 48, 49, 50, 51, 52, 53, 54, 55, 56, 57, 58] follows_mixed (by kernel_rfl) (by kernel_rfl) ?_ ?_
        · skip
          refine Steps.cons (fun a' w' hG hB dep => gs_field (want_none rfl) _ _ _ rfl g1 (0) (5) (hG.other 2 rfl) (fun wz => field_node_2 g1 (0) wz) rfl) ?_
          refine Steps.cons (fun a' w' hG hB dep => gs_load1 (want_none rfl) _ _ rfl g1 (5) (dep 0 rfl 47 rfl) (.slice (some ⟨b1, o1, none⟩) n c) ((blk_then h1r hB).cellv (i := 5) rfl) _ Try.underlying25 rfl rfl) ?_
          refine Steps.cons (fun a' w' hG hB dep => gs_move (want_none rfl) _ rfl (id (hG.other 5 rfl))) ?_
          refine Steps.cons (fun a' w' hG hB dep => gs_index (want_none rfl) _ _ _ rfl under_nodes 8 size_nodeE b1 o1 n c (i) (dep 1 rfl 48 rfl) (dep 2 rfl 49 rfl) hin rfl) ?_
          refine Steps.cons (fun a' w' hG hB dep => gs_load_nd (want_none rfl) _ rfl b1 (o1 + i * 8) (dep 3 rfl 50 rfl) _ (hrow1.out _ (below_then hBw hB)) rfl) ?_
          refine Steps.cons (fun a' w' hG hB dep => gs_field (want_none rfl) _ _ _ rfl g2 (0) (5) (hG.other 3 rfl) (fun wz => field_node_2 g2 (0) wz) rfl) ?_
          refine Steps.cons (fun a' w' hG hB dep => gs_load1 (want_none rfl) _ _ rfl g2 (5) (dep 5 rfl 52 rfl) (.slice (some ⟨b2, o2, none⟩) n' c') ((blk_then h2r hB).cellv (i := 5) rfl) _ Try.underlying25 rfl rfl) ?_
          refine Steps.cons (fun a' w' hG hB dep => gs_move (want_none rfl) _ rfl (id (hG.other 5 rfl))) ?_
          refine Steps.cons (fun a' w' hG hB dep => gs_index (want_none rfl) _ _ _ rfl under_nodes 8 size_nodeE b2 o2 n' c' (i) (dep 6 rfl 53 rfl) (dep 7 rfl 54 rfl) hin' rfl) ?_
          refine Steps.cons (fun a' w' hG hB dep => gs_load_nd (want_none rfl) _ rfl b2 (o2 + i * 8) (dep 8 rfl 55 rfl) _ (hrow2.out _ (below_then hBw hB)) rfl) ?_
          refine Steps.cons (fun a' w' hG hB dep => gs_call (want_none rfl) _ _ _ rfl enter_same4 _ (map2 (dep 4 rfl 51 rfl) (dep 9 rfl 56 rfl)) ((hcall.out w' (below_then hBw hB)).mono fun e w2 ⟨he, hb⟩ => ⟨_, he, hb, rfl⟩)) ?_
          refine Steps.cons (fun a' w' hG hB dep => gs_not_bool (want_none rfl) _ _ rfl _ (dep 10 rfl 57 rfl) rfl) ?_
          exact Steps.nil
        intro u w3 hB3 ans
        have u58 : u 58 = .bool (!b) := ans 11 58 (by decide) rfl
        clear ans
        simp only [putAll, List.foldl_cons, List.foldl_nil, Act.put, List.setIfInBounds_toArray, List.set_cons_zero, List.set_cons_succ, u58]
        clear u58
        simp only [List.drop]
        refine wpList_nil ?_
        clear h1r h2r
        cases b with
        | false =>
          have hne : V = false := by
            rw [← hV.out]
            refine sameB_ne fun e => ?_
            injection e with e1 e2 e3 e4 e5
            have := hb_e.out
            subst e3
            rw [sameB_self] at this
            cases this
          subst hne
          go_wp2_with (fail)
          go_ret
          exact ⟨rfl, below_then (below_then hB1 hBw) hB3⟩
        | true =>
          have heq := (sameB_iff _ _).1 hb_e.out
          replace heq := Lib.hid heq
          go_wp2_with (fail)
          exact ⟨⟨i + 1, by omega, rfl, below_then hBw hB3, fun k h h' hk => by
            by_cases e : k = i
            · subst e; exact heq.out
            · exact hall.out k h h' (by omega)⟩, by simp only [intOf]; omega⟩
      · have hinI : ¬ (i : Int) < n := by omega
        have heq : V = true := by
          rw [← hV.out]
          refine (sameB_iff _ _).2 ?_
          have hll : l = l' := List.ext_getElem (by rw [← hn.out, ← hn'.out, e4.out]) fun k h h' => hall.out k h h' (by have := hn.out; omega)
          rw [e0.out, e1.out, e2.out, e3.out, hll]
        subst heq
        go_wp2_with (fail)
        go_ret
        exact ⟨rfl, below_then hB1 hBw⟩
/-- the number of an errno -/
theorem num4_any (z : Int) (w : World) : Calls Try.prog 18 #[.int .i64 z] w fun e w' => e = .returned (.int .i64 z) ∧ w' = w := by
  go_enter Try.func18, Try.ntmps18
  go_wp2_with (fail)
  go_ret
  exact ⟨rfl, rfl⟩
end Go.Proofs.Ytajainmldcnaeaa
