/- ere: an item of a set. No condition beyond those named in each lemma. -/
import Derived.Test.YtajainmldcnaeaaEreQ
namespace Go.Proofs.Ytajainmldcnaeaa
open Go.RowKit Go.Maps
set_option linter.unusedVariables false
set_option linter.unusedSimpArgs false
attribute [local go_sem] Oper.semAt_some

set_option maxRecDepth 100000 in
set_option maxHeartbeats 4000000 in
theorem item_any (g : Nat) (p : ByteArray) (i s : Nat) (w : World) (hP : Blk w g 76 (rdC p i)) (hi : i < p.size) (hp : p.size ≤ 1024) (hM : Mx w) :
    Calls Try.prog 90 #[.pointer (some ⟨g, 0, none⟩), .int .i64 (s : Int)] w fun e w' => RdAns g p w (fun x : BSet => .agg (setC x)) (Ere.itemR p s i) e w' := by
  obtain ⟨r, hr0⟩ : ∃ r, Ere.itemR p s i = r := ⟨_, rfl⟩
  rw [hr0]
  have hR := hr0
  unfold Ere.itemR at hR
  obtain ⟨rc, hrc⟩ : ∃ r, Ere.classR p s i = r := ⟨_, rfl⟩
  obtain ⟨b91, b91_e⟩ : ∃ b, Ere.isAt p i 91 = b := ⟨_, rfl⟩
  obtain ⟨j, hj⟩ : ∃ j, j = i + 1 := ⟨_, rfl⟩
  have hj2 : i + 2 = j + 1 := by omega
  have hj3 : i + 3 = j + 2 := by omega
  rw [hj2, hj3, ← hj] at hR
  obtain ⟨b58, b58_e⟩ : ∃ b, Ere.isAt p j 58 = b := ⟨_, rfl⟩
  obtain ⟨bo, bo_e⟩ : ∃ b, Ere.oneOf p j [46, 61] = b := ⟨_, rfl⟩
  obtain ⟨b45, b45_e⟩ : ∃ b, Ere.isAt p j 45 = b := ⟨_, rfl⟩
  obtain ⟨b93, b93_e⟩ : ∃ b, Ere.isAt p (j + 1) 93 = b := ⟨_, rfl⟩
  obtain ⟨bge, bge_e⟩ : ∃ b, decide (p.size ≤ j + 1) = b := ⟨_, rfl⟩
  obtain ⟨bp, bp_e⟩ : ∃ b, Ere.oneOf p (j + 2) [58, 46, 61] = b := ⟨_, rfl⟩
  have hge := Lib.hid (show decide (((p.size : Nat) : Int) ≤ ((j + 1 : Nat) : Int)) = bge by rw [← bge_e]; congr 1; simp only [eq_iff_iff]; omega)
  rw [b91_e, b58_e, bo_e, b45_e, b93_e, bge_e, bp_e, hrc] at hR
  have hKc : b58 = true → ∀ W, Blk W g 76 (rdC p i) → Mx W → Calls Try.prog 101 #[.pointer (some ⟨g, 0, none⟩), .int .i64 (s : Int)] W fun e w' => RdAns g p W (fun x : BSet => .agg (setC x)) rc e w' := fun h W hW hMW => by
    rw [← hrc]
    exact clas_any g p i s W hW (by have := Ere.isAt_lt (b58_e.trans h); omega) hp hMW
  have hch : Ere.chr p i = p[i].toNat := by unfold Ere.chr; rw [dif_pos hi]
  clear hr0 hrc
  replace hKc := Lib.hid hKc
  replace hR := Lib.hid hR
  replace hch := Lib.hid hch
  replace b91_e := Lib.hid b91_e
  replace b58_e := Lib.hid b58_e
  replace bo_e := Lib.hid bo_e
  replace b45_e := Lib.hid b45_e
  replace b93_e := Lib.hid b93_e
  replace bge_e := Lib.hid bge_e
  replace bp_e := Lib.hid bp_e
  have hT := Turn.refl g (g + 1) w
  have hgl := Lib.hid hP.lt
  have hiI : (i : Int) < p.size := by omega
  have hi0 : ¬ (i : Int) < 0 := by omega
  have hpI : (p.size : Int) ≤ 1024 := by omega
  have hjI : (i : Int) + 1 = (j : Int) := by omega
  have hjb : j ≤ 1024 := by omega
  replace hjI := Lib.hid hjI
  replace hj := Lib.hid hj
  clear hj2 hj3
  go_enter Try.func90, Try.ntmps90
  have h4 : Blk (w.alloc (.cells #[.int .u64 0, .int .u64 0, .int .u64 0, .int .u64 0] 24)) w.heap.size 24 (setC 0) := by rw [set0_eq]; exact Blk.new' _ _ _ rfl
  have hB1 : Below w.heap.size w (w.alloc (.cells #[.int .u64 0, .int .u64 0, .int .u64 0, .int .u64 0] 24)) := below_alloc (Below.refl _ _) _
  go_upto_region 1 with (fail)
  obtain ⟨w1, hw1⟩ : ∃ y, y = w.alloc (.cells #[.int .u64 0, .int .u64 0, .int .u64 0, .int .u64 0] 24) := ⟨_, rfl⟩
  rw [← hw1] at h4 hB1 ⊢
  clear hw1
  replace hP := blk_then hP hB1
  replace hT := hT.then_ hB1
  replace hM := hM.then_ hB1
  clear hB1
  obtain ⟨g4, hg4e⟩ : ∃ y, y = w.heap.size := ⟨_, rfl⟩
  rw [← hg4e] at h4 ⊢
  have hwb := Lib.hid (show w.heap.size ≤ g4 ∧ g4 ≠ g by have := hgl.out; omega)
  clear hg4e
  have c1 : w1.cell? ⟨g, 1, none⟩ = some (.int .i64 (i : Int)) := hP.cellv rfl
  have k91 := is_at g p i i 91 91 w1 hP rfl b91_e.out
  go_upto_if 14 with (go_at_call 57; refine k91.mono ?_; rintro e w2 ⟨rfl, hB⟩)
  replace hP := blk_then hP hB
  replace hT := hT.then_ hB
  replace hM := hM.then_ hB
  replace h4 := blk_then h4 hB
  clear k91 hB c1
  go_cut [] from 15 to 27 (fun wx => (b91 && b58) = false ∧ (b91 && bo) = false ∧ Below w2.heap.size w2 wx)
  case first =>
    cases b91 with
    | false =>
      go_wp2_with (fail)
      go_meet
      exact ⟨rfl, rfl, Below.refl _ _⟩
    | true =>
      have hP2 := hP
      have hT2 := hT
      have hM2 := hM
      have h42 := h4
      have k58 := is_at g p i j 58 58 w2 hP2 rfl b58_e.out
      rw [← hjI.out] at k58
      cases b58 with
      | true =>
        have hr := Lib.hid (show r = rc by rw [← hR.out]; simp)
        go_upto_region 4 with (go_at_call 57; refine k58.mono ?_; rintro e w3 ⟨rfl, hB3⟩)
        have kC := hKc.out (by trivial) w3 (blk_then hP2 hB3) (hM2.then_ hB3)
        cases rc with
        | fault e0 i0 =>
          go_wp2_with (go_at_call 101; refine kC.mono ?_; rintro e w4 ⟨hT4, hfe⟩; unfold faultE at hfe; subst hfe)
          rw [hr.out]
          exact ⟨rfl, (hT2.then_ hB3).trans hT4, rfl⟩
        | got x jx =>
          go_wp2_with (first | (go_at_call 101; refine kC.mono ?_; rintro e w4 ⟨hT4, rfl, hP4⟩; have h44 := blk_turn (blk_then h42 hB3) hT4 (by have := hwb.out; have := hgl.out; omega)) | (refine wl_store_set rfl _ _ rfl g4 _ rfl rfl _ h44 ?_; intro w5 h5 hg5))
          refine ret_set rfl rfl h5 rfl ?_
          rw [hr.out]
          exact ⟨((hT2.then_ hB3).trans hT4).grown hg5 (fun q e => by injection e with e; have := hwb.out; right; omega), rfl, hP4.grown hg5 (fun e => by injection e with e; have := hwb.out; omega)⟩
      | false =>
        go_upto_region 5 with (go_at_call 57; refine k58.mono ?_; rintro e w3 ⟨rfl, hB3⟩)
        have kO := one_any g p ⟨#[46, 61]⟩ i j w3 (blk_then hP2 hB3)
        rw [show (List.map UInt8.toNat (⟨#[46, 61]⟩ : ByteArray).data.toList) = [46, 61] from rfl, bo_e.out, ← hjI.out] at kO
        cases bo with
        | true =>
          have hr := Lib.hid (show r = .fault 43 i by rw [← hR.out]; simp)
          go_wp2_with (first | (go_at_call 81; refine kO.mono ?_; rintro e w4 ⟨rfl, hB4⟩) | (go_at_call 40; refine (give_any 43 i _).mono ?_; rintro e w5 ⟨hfe, hB5⟩; unfold faultE at hfe; subst hfe))
          rw [hr.out]
          exact ⟨rfl, ((hT2.then_ hB3).then_ hB4).then_ hB5, rfl⟩
        | false =>
          go_wp2_with (go_at_call 81; refine kO.mono ?_; rintro e w4 ⟨rfl, hB4⟩)
          go_meet
          exact ⟨rfl, rfl, below_then hB3 hB4⟩
  case rest =>
    obtain ⟨hx1, hx2, hBc⟩ := hcut
    have hR2 := hR.out
    rw [hx1, hx2] at hR2
    simp only [Bool.false_eq_true, if_false] at hR2
    replace hR2 := Lib.hid hR2
    replace hP := blk_then hP hBc
    replace hT := hT.then_ hBc
    replace h4 := blk_then h4 hBc
    clear hx1 hx2 hBc hM hKc hR
    have c0 : wc.cell? ⟨g, 0, none⟩ = some (.string p) := hP.cellv rfl
    have c1 : wc.cell? ⟨g, 1, none⟩ = some (.int .i64 (i : Int)) := hP.cellv rfl
    have f1 := hP.frozen 1
    go_upto_region 9 with (fail)
    rw [hjI.out]
    have hP2 := setRd hP (v := .int .i64 (j : Int)) (j := j) rfl
    have hT2 := turnRd hT 1 (.int .i64 (j : Int))
    have h42 := h4.far (p := ⟨g, 1, none⟩) (by have := hwb.out; simp; omega) (.int .i64 (j : Int))
    obtain ⟨w6, hw6⟩ : ∃ y, y = wc.setCell ⟨g, 1, none⟩ (.int .i64 (j : Int)) := ⟨_, rfl⟩
    rw [← hw6] at hP2 hT2 h42 ⊢
    clear hw6 c0 c1 f1 hP hT h4
    have hP := hP2
    refine wp_region_steps 29 [eqS (.pointer (some ⟨g, 0, none⟩)), eqS (.pointer (some ⟨g, 0, none⟩)), eqS (.pointer (some ⟨g, 0, none⟩)), eqS (.pointer (some ⟨g, 1, none⟩)), eqS (.int .i64 (((j : Nat) : Int))), eqS (.bool b45), eqS (.bool (!b45)), eqS (.bool (!b45)), eqS (vF (true && ((!b45) == false)) (.pointer (some ⟨g, 0, none⟩))), eqS (vF (true && ((!b45) == false)) (.pointer (some ⟨g, 0, none⟩))), eqS (vF (true && ((!b45) == false)) (.pointer (some ⟨g, 1, none⟩))), eqS (vF (true && ((!b45) == false)) (.int .i64 (((j : Nat) : Int)))), eqS (vF (true && ((!b45) == false)) (.int .i64 (((j + 1 : Nat) : Int)))), eqS (vF (true && ((!b45) == false)) (.pointer (some ⟨g, 0, none⟩))), eqS (vF (true && ((!b45) == false)) (.pointer (some ⟨g, 0, none⟩))), eqS (vF (true && ((!b45) == false)) (.pointer (some ⟨g, 0, none⟩))), eqS (vF (true && ((!b45) == false)) (.string p)), eqS (vF (true && ((!b45) == false)) (.int .i64 (((p.size : Nat) : Int)))), eqS (vF (true && ((!b45) == false)) (.bool bge)), eqS (.bool ((!b45) || bge)), eqS (.bool ((!b45) || bge)), eqS (vF (true && (((!b45) || bge) == false)) (.pointer (some ⟨g, 0, none⟩))), eqS (vF (true && (((!b45) || bge) == false)) (.pointer (some ⟨g, 0, none⟩))), eqS (vF (true && (((!b45) || bge) == false)) (.pointer (some ⟨g, 0, none⟩))), eqS (vF (true && (((!b45) || bge) == false)) (.pointer (some ⟨g, 1, none⟩))), eqS (vF (true && (((!b45) || bge) == false)) (.int .i64 (((j : Nat) : Int)))), eqS (vF (true && (((!b45) || bge) == false)) (.int .i64 (((j + 1 : Nat) : Int)))), eqS (vF (true && (((!b45) || bge) == false)) (.bool b93)), eqS (.bool (((!b45) || bge) || b93))] [41, 42, 43, 44, 45, 46, 47, 48, 49, 50, 51, 52, 53, 54, 55, 56, 57, 58, 59, 60, 61, 62, 63, 64, 65, 66, 67, 68, 69] follows_mixed (by kernel_rfl) (by kernel_rfl) ?_ ?_
    · skip
      refine Steps.cons (fun a' w' hG hB dep => gs_move (want_none rfl) _ rfl (id (hG.other 0 rfl))) ?_
      refine Steps.cons (fun a' w' hG hB dep => gs_move (want_none rfl) _ rfl (id (hG.other 0 rfl))) ?_
      refine Steps.cons (fun a' w' hG hB dep => gs_nil (want_none rfl) _ rfl _ (dep 1 rfl 42 rfl) rfl) ?_
      refine Steps.cons (fun a' w' hG hB dep => gs_field (want_none rfl) _ _ _ rfl g (0) (1) (dep 2 rfl 43 rfl) (fun wz => field_reader_1 g (0) wz) rfl) ?_
      refine Steps.cons (fun a' w' hG hB dep => gs_load1 (want_none rfl) _ _ rfl g (1) (dep 3 rfl 44 rfl) (.int .i64 (((j : Nat) : Int))) (rd_cell hP hB).2 _ Try.underlying3 rfl rfl) ?_
      refine Steps.cons (fun a' w' hG hB dep => gs_call (want_none rfl) _ _ _ rfl enter_is #[.pointer (some ⟨g, 0, none⟩), .int .i64 ((j : Nat) : Int), .int .u8 45] (map3 (dep 0 rfl 41 rfl) (dep 4 rfl 45 rfl) rfl) (ret_step (is_at g p j j 45 45 _ (blk_then hP hB) rfl b45_e) (fun _ => rfl))) ?_
      refine Steps.cons (fun a' w' hG hB dep => gs_not_bool (want_none rfl) _ _ rfl _ (dep 5 rfl 46 rfl) rfl) ?_
      refine Steps.cons (fun a' w' hG hB dep => gs_move (want_none rfl) _ rfl (id (dep 6 rfl 47 rfl))) ?_
      refine Steps.cons (fun a' w' hG hB dep => gs_guard (c := true) (b' := (!b45)) rfl rfl (dep 7 rfl 48 rfl) (fun hc he hw => gs_move hw _ rfl (Eq.trans (hG.other 0 rfl) (vF_yes (on_g hc he) _).symm)) (fun hn => vF_no hn _)) ?_
      refine Steps.cons (fun a' w' hG hB dep => gs_guard (c := true) (b' := (!b45)) rfl rfl (dep 7 rfl 48 rfl) (fun hc he hw => gs_nil hw _ rfl _ (Eq.trans (dep 8 rfl 49 rfl) (vF_yes (on_g hc he) _)) (vF_yes (on_g hc he) _).symm) (fun hn => vF_no hn _)) ?_
      refine Steps.cons (fun a' w' hG hB dep => gs_guard (c := true) (b' := (!b45)) rfl rfl (dep 7 rfl 48 rfl) (fun hc he hw => gs_field hw _ _ _ rfl g (0) (1) (Eq.trans (dep 9 rfl 50 rfl) (vF_yes (on_g hc he) _)) (fun wz => field_reader_1 g (0) wz) (vF_yes (on_g hc he) _).symm) (fun hn => vF_no hn _)) ?_
      refine Steps.cons (fun a' w' hG hB dep => gs_guard (c := true) (b' := (!b45)) rfl rfl (dep 7 rfl 48 rfl) (fun hc he hw => gs_load1 hw _ _ rfl g (1) (Eq.trans (dep 10 rfl 51 rfl) (vF_yes (on_g hc he) _)) (.int .i64 (((j : Nat) : Int))) (rd_cell hP hB).2 _ Try.underlying3 rfl (vF_yes (on_g hc he) _).symm) (fun hn => vF_no hn _)) ?_
      refine Steps.cons (fun a' w' hG hB dep => gs_guard (c := true) (b' := (!b45)) rfl rfl (dep 7 rfl 48 rfl) (fun hc he hw => gs_add_nat hw _ _ _ _ rfl j 1 (j + 1) (Eq.trans (dep 11 rfl 52 rfl) (vF_yes (on_g hc he) _)) rfl rfl (by omega) (vF_yes (on_g hc he) _).symm) (fun hn => vF_no hn _)) ?_
      refine Steps.cons (fun a' w' hG hB dep => gs_guard (c := true) (b' := (!b45)) rfl rfl (dep 7 rfl 48 rfl) (fun hc he hw => gs_move hw _ rfl (Eq.trans (hG.other 0 rfl) (vF_yes (on_g hc he) _).symm)) (fun hn => vF_no hn _)) ?_
      refine Steps.cons (fun a' w' hG hB dep => gs_guard (c := true) (b' := (!b45)) rfl rfl (dep 7 rfl 48 rfl) (fun hc he hw => gs_nil hw _ rfl _ (Eq.trans (dep 13 rfl 54 rfl) (vF_yes (on_g hc he) _)) (vF_yes (on_g hc he) _).symm) (fun hn => vF_no hn _)) ?_
      refine Steps.cons (fun a' w' hG hB dep => gs_guard (c := true) (b' := (!b45)) rfl rfl (dep 7 rfl 48 rfl) (fun hc he hw => gs_field hw _ _ _ rfl g (0) (0) (Eq.trans (dep 14 rfl 55 rfl) (vF_yes (on_g hc he) _)) (fun wz => field_reader_0 g (0) wz) (vF_yes (on_g hc he) _).symm) (fun hn => vF_no hn _)) ?_
      refine Steps.cons (fun a' w' hG hB dep => gs_guard (c := true) (b' := (!b45)) rfl rfl (dep 7 rfl 48 rfl) (fun hc he hw => gs_load1 hw _ _ rfl g (0) (Eq.trans (dep 15 rfl 56 rfl) (vF_yes (on_g hc he) _)) (.string p) (rd_cell hP hB).1 _ Try.underlying9 rfl (vF_yes (on_g hc he) _).symm) (fun hn => vF_no hn _)) ?_
      refine Steps.cons (fun a' w' hG hB dep => gs_guard (c := true) (b' := (!b45)) rfl rfl (dep 7 rfl 48 rfl) (fun hc he hw => gs_len_str hw _ rfl p (Eq.trans (dep 16 rfl 57 rfl) (vF_yes (on_g hc he) _)) (vF_yes (on_g hc he) _).symm) (fun hn => vF_no hn _)) ?_
      refine Steps.cons (fun a' w' hG hB dep => gs_guard (c := true) (b' := (!b45)) rfl rfl (dep 7 rfl 48 rfl) (fun hc he hw => gs_geq_int hw _ _ _ _ rfl _ _ _ (Eq.trans (dep 12 rfl 53 rfl) (vF_yes (on_g hc he) _)) (Eq.trans (dep 17 rfl 58 rfl) (vF_yes (on_g hc he) _)) (Eq.trans (congrArg Value.bool hge.out) (vF_yes (on_g hc he) _).symm)) (fun hn => vF_no hn _)) ?_
      refine Steps.cons (fun a' w' hG hB dep => gs_pick (want_none rfl) _ _ _ rfl (!b45) (dep 7 rfl 48 rfl) (id (pick_or2 (c := true) rfl (dep 18 rfl 59 rfl)))) ?_
      refine Steps.cons (fun a' w' hG hB dep => gs_move (want_none rfl) _ rfl (id (dep 19 rfl 60 rfl))) ?_
      refine Steps.cons (fun a' w' hG hB dep => gs_guard (c := true) (b' := ((!b45) || bge)) rfl rfl (dep 20 rfl 61 rfl) (fun hc he hw => gs_move hw _ rfl (Eq.trans (hG.other 0 rfl) (vF_yes (on_g hc he) _).symm)) (fun hn => vF_no hn _)) ?_
      refine Steps.cons (fun a' w' hG hB dep => gs_guard (c := true) (b' := ((!b45) || bge)) rfl rfl (dep 20 rfl 61 rfl) (fun hc he hw => gs_move hw _ rfl (Eq.trans (hG.other 0 rfl) (vF_yes (on_g hc he) _).symm)) (fun hn => vF_no hn _)) ?_
      refine Steps.cons (fun a' w' hG hB dep => gs_guard (c := true) (b' := ((!b45) || bge)) rfl rfl (dep 20 rfl 61 rfl) (fun hc he hw => gs_nil hw _ rfl _ (Eq.trans (dep 22 rfl 63 rfl) (vF_yes (on_g hc he) _)) (vF_yes (on_g hc he) _).symm) (fun hn => vF_no hn _)) ?_
      refine Steps.cons (fun a' w' hG hB dep => gs_guard (c := true) (b' := ((!b45) || bge)) rfl rfl (dep 20 rfl 61 rfl) (fun hc he hw => gs_field hw _ _ _ rfl g (0) (1) (Eq.trans (dep 23 rfl 64 rfl) (vF_yes (on_g hc he) _)) (fun wz => field_reader_1 g (0) wz) (vF_yes (on_g hc he) _).symm) (fun hn => vF_no hn _)) ?_
      refine Steps.cons (fun a' w' hG hB dep => gs_guard (c := true) (b' := ((!b45) || bge)) rfl rfl (dep 20 rfl 61 rfl) (fun hc he hw => gs_load1 hw _ _ rfl g (1) (Eq.trans (dep 24 rfl 65 rfl) (vF_yes (on_g hc he) _)) (.int .i64 (((j : Nat) : Int))) (rd_cell hP hB).2 _ Try.underlying3 rfl (vF_yes (on_g hc he) _).symm) (fun hn => vF_no hn _)) ?_
      refine Steps.cons (fun a' w' hG hB dep => gs_guard (c := true) (b' := ((!b45) || bge)) rfl rfl (dep 20 rfl 61 rfl) (fun hc he hw => gs_add_nat hw _ _ _ _ rfl j 1 (j + 1) (Eq.trans (dep 25 rfl 66 rfl) (vF_yes (on_g hc he) _)) rfl rfl (by omega) (vF_yes (on_g hc he) _).symm) (fun hn => vF_no hn _)) ?_
      refine Steps.cons (fun a' w' hG hB dep => gs_guard (c := true) (b' := ((!b45) || bge)) rfl rfl (dep 20 rfl 61 rfl) (fun hc he hw => gs_call hw _ _ _ rfl enter_is #[.pointer (some ⟨g, 0, none⟩), .int .i64 (((j + 1) : Nat) : Int), .int .u8 93] (map3 (Eq.trans (dep 21 rfl 62 rfl) (vF_yes (on_g hc he) _)) (Eq.trans (dep 26 rfl 67 rfl) (vF_yes (on_g hc he) _)) rfl) (ret_step (is_at g p j (j + 1) 93 93 _ (blk_then hP hB) rfl b93_e) (fun _ => (vF_yes (on_g hc he) _).symm))) (fun hn => vF_no hn _)) ?_
      refine Steps.cons (fun a' w' hG hB dep => gs_pick (want_none rfl) _ _ _ rfl ((!b45) || bge) (dep 20 rfl 61 rfl) (id (pick_or2 (c := true) rfl (dep 27 rfl 68 rfl)))) ?_
      exact Steps.nil
    intro u w7 hB7 ans
    have u69 : u 69 = .bool ((((!b45) || bge) || b93)) := ans 28 69 (by decide) rfl
    clear ans
    simp only [putAll, List.foldl_cons, List.foldl_nil, Act.put, List.setIfInBounds_toArray, List.set_cons_zero, List.set_cons_succ, u69]
    clear u69
    simp only [List.drop]
    refine wpList_nil ?_
    obtain ⟨q, hq⟩ : ∃ q, ((((!b45) || bge) || b93)) = q := ⟨_, rfl⟩
    rw [hq]
    have hP7 := blk_then hP2 hB7
    have hT7 := hT2.then_ hB7
    have h47 := blk_then h42 hB7
    have hpl := hP7.lt
    clear hB7 hP2 hT2 h42 hP
    cases q with
    | true =>
      have hr := Lib.hid (show r = .got (bit (Ere.chr p i)) j by rw [← hR2.out, if_pos hq])
      have kO := of_any (some ⟨w7.heap.size, 0, none⟩) 1 1 [p[i]] (w7.alloc (.cells #[.int .u8 ((p[i].toNat : Nat) : Int)] 5)) rfl (by unfold maxLen; omega) (bytes_of_blk (l := [p[i]]) (Blk.new w7 5 #[.int .u8 ((p[i].toNat : Nat) : Int)]))
      have hB8 := Lib.hid (below_alloc (Below.refl w7.heap.size w7) (.cells #[.int .u8 ((p[i].toNat : Nat) : Int)] 5))
      have h48 := Lib.hid (blk_then h47 hB8.out)
      replace hq := Lib.hid hq
      go_wp2_with (first | (go_at_call 82; refine kO.mono ?_; rintro e w8 ⟨rfl, hB9⟩; have h49 := blk_then h48.out hB9) | (refine wl_store_set rfl _ _ rfl g4 _ rfl rfl _ h49 ?_; intro w9 h9 hg9))
      refine ret_set rfl rfl h9 rfl ?_
      rw [hr.out, hch.out, ← ofB_one]
      exact ⟨((hT7.then_ hB8.out).then_ hB9).grown hg9 (fun q e => by injection e with e; have := hwb.out; right; omega), rfl, (blk_then (blk_then hP7 hB8.out) hB9).grown hg9 (fun e => by injection e with e; have := hwb.out; omega)⟩
    | false =>
      simp only [Bool.or_eq_false_iff, Bool.not_eq_false'] at hq
      obtain ⟨⟨hq1, hq2⟩, hq3⟩ := hq
      have hR3 := hR2.out
      rw [hq1, hq2, hq3] at hR3
      simp only [Bool.not_true, Bool.or_self, Bool.false_eq_true, if_false] at hR3
      have hj1 : j + 1 < p.size := by
        have := bge_e.out
        rw [hq2] at this
        simpa using this
      have hch2 : Ere.chr p (j + 1) = p[j + 1].toNat := by unfold Ere.chr; rw [dif_pos hj1]
      rw [hch2, hch.out] at hR3
      have hj1I : (j : Int) + 1 < p.size := by omega
      have hj10 : ¬ (j : Int) + 1 < 0 := by omega
      obtain ⟨k, hk⟩ : ∃ k, k = j + 1 := ⟨_, rfl⟩
      clear hq1 hq2 hq3 hR2 hch2
      obtain ⟨vl, hvl⟩ : ∃ v, p[i] = v := ⟨_, rfl⟩
      obtain ⟨vh, hvh⟩ : ∃ v, p[j + 1] = v := ⟨_, rfl⟩
      rw [hvl, hvh] at hR3
      replace hR3 := Lib.hid hR3
      have c0 : w7.cell? ⟨g, 0, none⟩ = some (.string p) := hP7.cellv rfl
      have c1 : w7.cell? ⟨g, 1, none⟩ = some (.int .i64 (j : Int)) := hP7.cellv rfl
      go_upto_region 11 with (fail)
      go_big_region
      rw [hvl]
      clear hvl hvh c0 c1 hj1I hj10 hk
      have hPd := hP7.drew
      have hTd := hT7.then_ ((Below.refl w7.heap.size w7).drew)
      have h4d := h47.drew
      obtain ⟨w8, hw8⟩ : ∃ y, y = w7.drew := ⟨_, rfl⟩
      rw [← hw8] at hPd hTd h4d ⊢
      clear hw8 hP7 hT7 h47
      have hvl8 : vl.toNat < 256 := vl.toNat_lt
      have hvh8 : vh.toNat < 256 := vh.toNat_lt
      have c1 : w8.cell? ⟨g, 1, none⟩ = some (.int .i64 (j : Int)) := hPd.cellv rfl
      by_cases h1 : vh.toNat < vl.toNat
      · have h1I : ((vh.toNat : Nat) : Int) < ((vl.toNat : Nat) : Int) := by omega
        have hr := Lib.hid (show r = .fault 43 i by rw [← hR3.out, decide_eq_true h1]; simp)
        go_wp2_with (go_at_call 40; refine (give_any 43 i _).mono ?_; rintro e w9 ⟨hfe, hB9⟩; unfold faultE at hfe; subst hfe)
        rw [hr.out]
        exact ⟨rfl, hTd.then_ hB9, rfl⟩
      · have h1I : ¬ ((vh.toNat : Nat) : Int) < ((vl.toNat : Nat) : Int) := by omega
        by_cases h2 : vh.toNat = 91
        · have h2I : ((((vh.toNat : Nat) : Int)) == 91) = true := by rw [beq_iff_eq]; omega
          have kO := one_any g p ⟨#[58, 46, 61]⟩ j (j + 2) w8 hPd
          rw [show (List.map UInt8.toNat (⟨#[58, 46, 61]⟩ : ByteArray).data.toList) = [58, 46, 61] from rfl, bp_e.out, show (((j + 2 : Nat)) : Int) = (j : Int) + 2 by omega] at kO
          cases bp with
          | true =>
            have hr := Lib.hid (show r = .fault 43 i by rw [← hR3.out, decide_eq_true h2]; simp)
            replace h2 := Lib.hid h2
            go_wp2_with (first | (go_at_call 81; refine kO.mono ?_; rintro e w9 ⟨rfl, hB9⟩) | (go_at_call 40; refine (give_any 43 i _).mono ?_; rintro e w10 ⟨hfe, hB10⟩; unfold faultE at hfe; subst hfe))
            rw [hr.out]
            exact ⟨rfl, (hTd.then_ hB9).then_ hB10, rfl⟩
          | false =>
            have hr := Lib.hid (show r = .got (spanB vl.toNat vh.toNat) (j + 2) by rw [← hR3.out, decide_eq_false h1]; simp)
            replace h2 := Lib.hid h2
            go_upto_region 14 with (go_at_call 81; refine kO.mono ?_; rintro e w9 ⟨rfl, hB9⟩)
            have hP9 := blk_then hPd hB9
            have hT9 := hTd.then_ hB9
            have h49 := blk_then h4d hB9
            clear hPd hTd h4d c1 hB9
            have c1 : w9.cell? ⟨g, 1, none⟩ = some (.int .i64 (j : Int)) := hP9.cellv rfl
            have f1 := hP9.frozen 1
            go_upto_region 15 with (fail)
            have hP2 := setRd hP9 (v := .int .i64 ((j : Int) + 2)) (j := j + 2) (by congr 1)
            have hT2 := turnRd hT9 1 (.int .i64 ((j : Int) + 2))
            have h42 := h49.far (p := ⟨g, 1, none⟩) (by have := hwb.out; simp; omega) (.int .i64 ((j : Int) + 2))
            obtain ⟨w6, hw6⟩ : ∃ y, y = w9.setCell ⟨g, 1, none⟩ (.int .i64 ((j : Int) + 2)) := ⟨_, rfl⟩
            rw [← hw6] at hP2 hT2 h42 ⊢
            clear hw6 c1 f1 hP9 hT9 h49
            have kS := span_any vl.toNat vh.toNat w6 hvl8 hvh8
            go_wp2_with (first | (go_at_call 102; refine kS.mono ?_; rintro e w7 ⟨rfl, hB7⟩; have h47 := blk_then h42 hB7) | (refine wl_store_set rfl _ _ rfl g4 _ rfl rfl _ h47 ?_; intro wz hz hgz))
            refine ret_set rfl rfl hz rfl ?_
            rw [hr.out]
            exact ⟨(hT2.then_ hB7).grown hgz (fun q e => by injection e with e; have := hwb.out; right; omega), rfl, (blk_then hP2 hB7).grown hgz (fun e => by injection e with e; have := hwb.out; omega)⟩
        · have h2I : ((((vh.toNat : Nat) : Int)) == 91) = false := by rw [beq_eq_false_iff_ne]; omega
          have hr := Lib.hid (show r = .got (spanB vl.toNat vh.toNat) (j + 2) by rw [← hR3.out, decide_eq_false h1, decide_eq_false h2]; simp)
          replace h2 := Lib.hid h2
          obtain ⟨w9, hw9⟩ : ∃ y, y = w8 := ⟨_, rfl⟩
          have hB9 : Below w8.heap.size w8 w9 := by rw [hw9]; exact Below.refl _ _
          go_upto_region 14 with (fail)
          rw [← hw9]
          clear hw9
          have hP9 := blk_then hPd hB9
          have hT9 := hTd.then_ hB9
          have h49 := blk_then h4d hB9
          clear hPd hTd h4d c1 hB9
          have c1 : w9.cell? ⟨g, 1, none⟩ = some (.int .i64 (j : Int)) := hP9.cellv rfl
          have f1 := hP9.frozen 1
          go_upto_region 15 with (fail)
          have hP2 := setRd hP9 (v := .int .i64 ((j : Int) + 2)) (j := j + 2) (by congr 1)
          have hT2 := turnRd hT9 1 (.int .i64 ((j : Int) + 2))
          have h42 := h49.far (p := ⟨g, 1, none⟩) (by have := hwb.out; simp; omega) (.int .i64 ((j : Int) + 2))
          obtain ⟨w6, hw6⟩ : ∃ y, y = w9.setCell ⟨g, 1, none⟩ (.int .i64 ((j : Int) + 2)) := ⟨_, rfl⟩
          rw [← hw6] at hP2 hT2 h42 ⊢
          clear hw6 c1 f1 hP9 hT9 h49
          have kS := span_any vl.toNat vh.toNat w6 hvl8 hvh8
          go_wp2_with (first | (go_at_call 102; refine kS.mono ?_; rintro e w7 ⟨rfl, hB7⟩; have h47 := blk_then h42 hB7) | (refine wl_store_set rfl _ _ rfl g4 _ rfl rfl _ h47 ?_; intro wz hz hgz))
          refine ret_set rfl rfl hz rfl ?_
          rw [hr.out]
          exact ⟨(hT2.then_ hB7).grown hgz (fun q e => by injection e with e; have := hwb.out; right; omega), rfl, (blk_then hP2 hB7).grown hgz (fun e => by injection e with e; have := hwb.out; omega)⟩
end Go.Proofs.Ytajainmldcnaeaa
