/- Part 7 of a proof; packed: the texts that it was made of follow one another. No condition beyond those named in each lemma. -/
import Derived.Test.YtajainmldcnaeaaPn6
import Derived.Deep.RegionWith
namespace Go.Proofs.Ytajainmldcnaeaa
open Go.RowKit Go.Maps
set_option linter.unusedVariables false
set_option linter.unusedSimpArgs false
attribute [local go_sem] Oper.semAt_some

set_option maxRecDepth 100000 in
set_option maxHeartbeats 4000000 in
theorem item_any (g : Nat) (p : ByteArray) (i s : Nat) (w : World) (hP : Blk w g 76 (rdC p i)) (hi : i < p.size) (hp : p.size ≤ 1024) (hM : Mx w) :
    Calls Try.prog 90 #[.pointer (some ⟨g, 0, none⟩), .int .i64 (s : Int)] w fun e w' => RdAns g p w (fun x : BSet => .agg (setC x)) (Ere.itemR p s i) e w' := by
  obtain ⟨r, hr0⟩ : ∃ r, Ere.itemR p s i = r := ⟨_, rfl⟩
  rw [hr0]
  have hR := hr0
  unfold Ere.itemR at hR
  obtain ⟨rc, hrc⟩ : ∃ r, Ere.classR p s i = r := ⟨_, rfl⟩
  obtain ⟨b91, b91_e⟩ : ∃ b, Ere.isAt p i 91 = b := ⟨_, rfl⟩
  obtain ⟨j, hj⟩ : ∃ j, j = i + 1 := ⟨_, rfl⟩
  have hj2 : i + 2 = j + 1 := by omega
  have hj3 : i + 3 = j + 2 := by omega
  rw [hj2, hj3, ← hj] at hR
  obtain ⟨b58, b58_e⟩ : ∃ b, Ere.isAt p j 58 = b := ⟨_, rfl⟩
  obtain ⟨bo, bo_e⟩ : ∃ b, Ere.oneOf p j [46, 61] = b := ⟨_, rfl⟩
  obtain ⟨b45, b45_e⟩ : ∃ b, Ere.isAt p j 45 = b := ⟨_, rfl⟩
  obtain ⟨b93, b93_e⟩ : ∃ b, Ere.isAt p (j + 1) 93 = b := ⟨_, rfl⟩
  obtain ⟨bge, bge_e⟩ : ∃ b, decide (p.size ≤ j + 1) = b := ⟨_, rfl⟩
  obtain ⟨bp, bp_e⟩ : ∃ b, Ere.oneOf p (j + 2) [58, 46, 61] = b := ⟨_, rfl⟩
  have hge := Lib.hid (show decide (((p.size : Nat) : Int) ≤ ((j + 1 : Nat) : Int)) = bge by rw [← bge_e]; congr 1; simp only [eq_iff_iff]; omega)
  rw [b91_e, b58_e, bo_e, b45_e, b93_e, bge_e, bp_e, hrc] at hR
  have hKc : b58 = true → ∀ W, Blk W g 76 (rdC p i) → Mx W → Calls Try.prog 101 #[.pointer (some ⟨g, 0, none⟩), .int .i64 (s : Int)] W fun e w' => RdAns g p W (fun x : BSet => .agg (setC x)) rc e w' := fun h W hW hMW => by
    rw [← hrc]
    exact clas_any g p i s W hW (by have := Ere.isAt_lt (b58_e.trans h); omega) hp hMW
  have hch : Ere.chr p i = p[i].toNat := by unfold Ere.chr; rw [dif_pos hi]
  clear hr0 hrc
  replace hKc := Lib.hid hKc
  replace hR := Lib.hid hR
  replace hch := Lib.hid hch
  replace b91_e := Lib.hid b91_e
  replace b58_e := Lib.hid b58_e
  replace bo_e := Lib.hid bo_e
  replace b45_e := Lib.hid b45_e
  replace b93_e := Lib.hid b93_e
  replace bge_e := Lib.hid bge_e
  replace bp_e := Lib.hid bp_e
  have hT := Turn.refl g (g + 1) w
  have hgl := Lib.hid hP.lt
  have hiI : (i : Int) < p.size := by omega
  have hi0 : ¬ (i : Int) < 0 := by omega
  have hpI : (p.size : Int) ≤ 1024 := by omega
  have hjI : (i : Int) + 1 = (j : Int) := by omega
  have hjb : j ≤ 1024 := by omega
  replace hjI := Lib.hid hjI
  replace hj := Lib.hid hj
  clear hj2 hj3
  go_enter Try.func90, Try.ntmps90
  have h4 : Blk (w.alloc (.cells #[.int .u64 0, .int .u64 0, .int .u64 0, .int .u64 0] 24)) w.heap.size 24 (setC 0) := by rw [set0_eq]; exact Blk.new' _ _ _ rfl
  have hB1 : Below w.heap.size w (w.alloc (.cells #[.int .u64 0, .int .u64 0, .int .u64 0, .int .u64 0] 24)) := below_alloc (Below.refl _ _) _
  go_upto_region 1 with (fail)
  obtain ⟨w1, hw1⟩ : ∃ y, y = w.alloc (.cells #[.int .u64 0, .int .u64 0, .int .u64 0, .int .u64 0] 24) := ⟨_, rfl⟩
  rw [← hw1] at h4 hB1 ⊢
  clear hw1
  replace hP := blk_then hP hB1
  replace hT := hT.then_ hB1
  replace hM := hM.then_ hB1
  clear hB1
  obtain ⟨g4, hg4e⟩ : ∃ y, y = w.heap.size := ⟨_, rfl⟩
  rw [← hg4e] at h4 ⊢
  have hwb := Lib.hid (show w.heap.size ≤ g4 ∧ g4 ≠ g by have := hgl.out; omega)
  clear hg4e
  have c1 : w1.cell? ⟨g, 1, none⟩ = some (.int .i64 (i : Int)) := hP.cellv rfl
  have k91 := is_at g p i i 91 91 w1 hP rfl b91_e.out
  go_upto_if 14 with (go_at_call 57; refine k91.mono ?_; rintro e w2 ⟨rfl, hB⟩)
  replace hP := blk_then hP hB
  replace hT := hT.then_ hB
  replace hM := hM.then_ hB
  replace h4 := blk_then h4 hB
  clear k91 hB c1
  go_cut [] from 15 to 27 (fun wx => (b91 && b58) = false ∧ (b91 && bo) = false ∧ Below w2.heap.size w2 wx)
  case first =>
    cases b91 with
    | false =>
      go_wp2_with (fail)
      go_meet
      exact ⟨rfl, rfl, Below.refl _ _⟩
    | true =>
      have hP2 := hP
      have hT2 := hT
      have hM2 := hM
      have h42 := h4
      have k58 := is_at g p i j 58 58 w2 hP2 rfl b58_e.out
      rw [← hjI.out] at k58
      cases b58 with
      | true =>
        have hr := Lib.hid (show r = rc by rw [← hR.out]; simp)
        go_upto_region 4 with (go_at_call 57; refine k58.mono ?_; rintro e w3 ⟨rfl, hB3⟩)
        have kC := hKc.out (by trivial) w3 (blk_then hP2 hB3) (hM2.then_ hB3)
        cases rc with
        | fault e0 i0 =>
          go_wp2_with (go_at_call 101; refine kC.mono ?_; rintro e w4 ⟨hT4, hfe⟩; unfold faultE at hfe; subst hfe)
          rw [hr.out]
          exact ⟨rfl, (hT2.then_ hB3).trans hT4, rfl⟩
        | got x jx =>
          go_wp2_with (first | (go_at_call 101; refine kC.mono ?_; rintro e w4 ⟨hT4, rfl, hP4⟩; have h44 := blk_turn (blk_then h42 hB3) hT4 (by have := hwb.out; have := hgl.out; omega)) | (refine wl_store_set rfl _ _ rfl g4 _ rfl rfl _ h44 ?_; intro w5 h5 hg5))
          refine ret_set rfl rfl h5 rfl ?_
          rw [hr.out]
          exact ⟨((hT2.then_ hB3).trans hT4).grown hg5 (fun q e => by injection e with e; have := hwb.out; right; omega), rfl, hP4.grown hg5 (fun e => by injection e with e; have := hwb.out; omega)⟩
      | false =>
        go_upto_region 5 with (go_at_call 57; refine k58.mono ?_; rintro e w3 ⟨rfl, hB3⟩)
        have kO := one_any g p ⟨#[46, 61]⟩ i j w3 (blk_then hP2 hB3)
        rw [show (List.map UInt8.toNat (⟨#[46, 61]⟩ : ByteArray).data.toList) = [46, 61] from rfl, bo_e.out, ← hjI.out] at kO
        cases bo with
        | true =>
          have hr := Lib.hid (show r = .fault 43 i by rw [← hR.out]; simp)
          go_wp2_with (first | (go_at_call 81; refine kO.mono ?_; rintro e w4 ⟨rfl, hB4⟩) | (go_at_call 40; refine (give_any 43 i _).mono ?_; rintro e w5 ⟨hfe, hB5⟩; unfold faultE at hfe; subst hfe))
          rw [hr.out]
          exact ⟨rfl, ((hT2.then_ hB3).then_ hB4).then_ hB5, rfl⟩
        | false =>
          go_wp2_with (go_at_call 81; refine kO.mono ?_; rintro e w4 ⟨rfl, hB4⟩)
          go_meet
          exact ⟨rfl, rfl, below_then hB3 hB4⟩
  case rest =>
    obtain ⟨hx1, hx2, hBc⟩ := hcut
    have hR2 := hR.out
    rw [hx1, hx2] at hR2
    simp only [Bool.false_eq_true, if_false] at hR2
    replace hR2 := Lib.hid hR2
    replace hP := blk_then hP hBc
    replace hT := hT.then_ hBc
    replace h4 := blk_then h4 hBc
    clear hx1 hx2 hBc hM hKc hR
    have c0 : wc.cell? ⟨g, 0, none⟩ = some (.string p) := hP.cellv rfl
    have c1 : wc.cell? ⟨g, 1, none⟩ = some (.int .i64 (i : Int)) := hP.cellv rfl
    have f1 := hP.frozen 1
    go_upto_region 9 with (fail)
    rw [hjI.out]
    have hP2 := setRd hP (v := .int .i64 (j : Int)) (j := j) rfl
    have hT2 := turnRd hT 1 (.int .i64 (j : Int))
    have h42 := h4.far (p := ⟨g, 1, none⟩) (by have := hwb.out; simp; omega) (.int .i64 (j : Int))
    obtain ⟨w6, hw6⟩ : ∃ y, y = wc.setCell ⟨g, 1, none⟩ (.int .i64 (j : Int)) := ⟨_, rfl⟩
    rw [← hw6] at hP2 hT2 h42 ⊢
    clear hw6 c0 c1 f1 hP hT h4
    have hP := hP2
    refine wp_region_steps 29 [eqS (.pointer (some ⟨g, 0, none⟩)), eqS (.pointer (some ⟨g, 0, none⟩)), eqS (.pointer (some ⟨g, 0, none⟩)), eqS (.pointer (some ⟨g, 1, none⟩)), eqS (.int .i64 (((j : Nat) : Int))), eqS (.bool b45), eqS (.bool (!b45)), eqS (.bool (!b45)), eqS (vF (true && ((!b45) == false)) (.pointer (some ⟨g, 0, none⟩))), eqS (vF (true && ((!b45) == false)) (.pointer (some ⟨g, 0, none⟩))), eqS (vF (true && ((!b45) == false)) (.pointer (some ⟨g, 1, none⟩))), eqS (vF (true && ((!b45) == false)) (.int .i64 (((j : Nat) : Int)))), eqS (vF (true && ((!b45) == false)) (.int .i64 (((j + 1 : Nat) : Int)))), eqS (vF (true && ((!b45) == false)) (.pointer (some ⟨g, 0, none⟩))), eqS (vF (true && ((!b45) == false)) (.pointer (some ⟨g, 0, none⟩))), eqS (vF (true && ((!b45) == false)) (.pointer (some ⟨g, 0, none⟩))), eqS (vF (true && ((!b45) == false)) (.string p)), eqS (vF (true && ((!b45) == false)) (.int .i64 (((p.size : Nat) : Int)))), eqS (vF (true && ((!b45) == false)) (.bool bge)), eqS (.bool ((!b45) || bge)), eqS (.bool ((!b45) || bge)), eqS (vF (true && (((!b45) || bge) == false)) (.pointer (some ⟨g, 0, none⟩))), eqS (vF (true && (((!b45) || bge) == false)) (.pointer (some ⟨g, 0, none⟩))), eqS (vF (true && (((!b45) || bge) == false)) (.pointer (some ⟨g, 0, none⟩))), eqS (vF (true && (((!b45) || bge) == false)) (.pointer (some ⟨g, 1, none⟩))), eqS (vF (true && (((!b45) || bge) == false)) (.int .i64 (((j : Nat) : Int)))), eqS (vF (true && (((!b45) || bge) == false)) (.int .i64 (((j + 1 : Nat) : Int)))), eqS (vF (true && (((!b45) || bge) == false)) (.bool b93)), eqS (.bool (((!b45) || bge) || b93))] [41, 42, 43, 44, 45, 46, 47, 48, 49, 50, 51, 52, 53, 54, 55, 56, 57, 58, 59, 60, 61, 62, 63, 64, 65, 66, 67, 68, 69] follows_mixed (by kernel_rfl) (by kernel_rfl) ?_ ?_
    · skip
      refine Steps.cons (fun a' w' hG hB dep => gs_move (want_none rfl) _ rfl (id (hG.other 0 rfl))) ?_
      refine Steps.cons (fun a' w' hG hB dep => gs_move (want_none rfl) _ rfl (id (hG.other 0 rfl))) ?_
      refine Steps.cons (fun a' w' hG hB dep => gs_nil (want_none rfl) _ rfl _ (dep 1 rfl 42 rfl) rfl) ?_
      refine Steps.cons (fun a' w' hG hB dep => gs_field (want_none rfl) _ _ _ rfl g (0) (1) (dep 2 rfl 43 rfl) (fun wz => field_reader_1 g (0) wz) rfl) ?_
      refine Steps.cons (fun a' w' hG hB dep => gs_load1 (want_none rfl) _ _ rfl g (1) (dep 3 rfl 44 rfl) (.int .i64 (((j : Nat) : Int))) (rd_cell hP hB).2 _ Try.underlying3 rfl rfl) ?_
      refine Steps.cons (fun a' w' hG hB dep => gs_call (want_none rfl) _ _ _ rfl enter_is #[.pointer (some ⟨g, 0, none⟩), .int .i64 ((j : Nat) : Int), .int .u8 45] (map3 (dep 0 rfl 41 rfl) (dep 4 rfl 45 rfl) rfl) (ret_step (is_at g p j j 45 45 _ (blk_then hP hB) rfl b45_e) (fun _ => rfl))) ?_
      refine Steps.cons (fun a' w' hG hB dep => gs_not_bool (want_none rfl) _ _ rfl _ (dep 5 rfl 46 rfl) rfl) ?_
      refine Steps.cons (fun a' w' hG hB dep => gs_move (want_none rfl) _ rfl (id (dep 6 rfl 47 rfl))) ?_
      refine Steps.cons (fun a' w' hG hB dep => gs_guard (c := true) (b' := (!b45)) rfl rfl (dep 7 rfl 48 rfl) (fun hc he hw => gs_move hw _ rfl (Eq.trans (hG.other 0 rfl) (vF_yes (on_g hc he) _).symm)) (fun hn => vF_no hn _)) ?_
      refine Steps.cons (fun a' w' hG hB dep => gs_guard (c := true) (b' := (!b45)) rfl rfl (dep 7 rfl 48 rfl) (fun hc he hw => gs_nil hw _ rfl _ (Eq.trans (dep 8 rfl 49 rfl) (vF_yes (on_g hc he) _)) (vF_yes (on_g hc he) _).symm) (fun hn => vF_no hn _)) ?_
      refine Steps.cons (fun a' w' hG hB dep => gs_guard (c := true) (b' := (!b45)) rfl rfl (dep 7 rfl 48 rfl) (fun hc he hw => gs_field hw _ _ _ rfl g (0) (1) (Eq.trans (dep 9 rfl 50 rfl) (vF_yes (on_g hc he) _)) (fun wz => field_reader_1 g (0) wz) (vF_yes (on_g hc he) _).symm) (fun hn => vF_no hn _)) ?_
      refine Steps.cons (fun a' w' hG hB dep => gs_guard (c := true) (b' := (!b45)) rfl rfl (dep 7 rfl 48 rfl) (fun hc he hw => gs_load1 hw _ _ rfl g (1) (Eq.trans (dep 10 rfl 51 rfl) (vF_yes (on_g hc he) _)) (.int .i64 (((j : Nat) : Int))) (rd_cell hP hB).2 _ Try.underlying3 rfl (vF_yes (on_g hc he) _).symm) (fun hn => vF_no hn _)) ?_
      refine Steps.cons (fun a' w' hG hB dep => gs_guard (c := true) (b' := (!b45)) rfl rfl (dep 7 rfl 48 rfl) (fun hc he hw => gs_add_nat hw _ _ _ _ rfl j 1 (j + 1) (Eq.trans (dep 11 rfl 52 rfl) (vF_yes (on_g hc he) _)) rfl rfl (by omega) (vF_yes (on_g hc he) _).symm) (fun hn => vF_no hn _)) ?_
      refine Steps.cons (fun a' w' hG hB dep => gs_guard (c := true) (b' := (!b45)) rfl rfl (dep 7 rfl 48 rfl) (fun hc he hw => gs_move hw _ rfl (Eq.trans (hG.other 0 rfl) (vF_yes (on_g hc he) _).symm)) (fun hn => vF_no hn _)) ?_
      refine Steps.cons (fun a' w' hG hB dep => gs_guard (c := true) (b' := (!b45)) rfl rfl (dep 7 rfl 48 rfl) (fun hc he hw => gs_nil hw _ rfl _ (Eq.trans (dep 13 rfl 54 rfl) (vF_yes (on_g hc he) _)) (vF_yes (on_g hc he) _).symm) (fun hn => vF_no hn _)) ?_
      refine Steps.cons (fun a' w' hG hB dep => gs_guard (c := true) (b' := (!b45)) rfl rfl (dep 7 rfl 48 rfl) (fun hc he hw => gs_field hw _ _ _ rfl g (0) (0) (Eq.trans (dep 14 rfl 55 rfl) (vF_yes (on_g hc he) _)) (fun wz => field_reader_0 g (0) wz) (vF_yes (on_g hc he) _).symm) (fun hn => vF_no hn _)) ?_
      refine Steps.cons (fun a' w' hG hB dep => gs_guard (c := true) (b' := (!b45)) rfl rfl (dep 7 rfl 48 rfl) (fun hc he hw => gs_load1 hw _ _ rfl g (0) (Eq.trans (dep 15 rfl 56 rfl) (vF_yes (on_g hc he) _)) (.string p) (rd_cell hP hB).1 _ Try.underlying9 rfl (vF_yes (on_g hc he) _).symm) (fun hn => vF_no hn _)) ?_
      refine Steps.cons (fun a' w' hG hB dep => gs_guard (c := true) (b' := (!b45)) rfl rfl (dep 7 rfl 48 rfl) (fun hc he hw => gs_len_str hw _ rfl p (Eq.trans (dep 16 rfl 57 rfl) (vF_yes (on_g hc he) _)) (vF_yes (on_g hc he) _).symm) (fun hn => vF_no hn _)) ?_
      refine Steps.cons (fun a' w' hG hB dep => gs_guard (c := true) (b' := (!b45)) rfl rfl (dep 7 rfl 48 rfl) (fun hc he hw => gs_geq_int hw _ _ _ _ rfl _ _ _ (Eq.trans (dep 12 rfl 53 rfl) (vF_yes (on_g hc he) _)) (Eq.trans (dep 17 rfl 58 rfl) (vF_yes (on_g hc he) _)) (Eq.trans (congrArg Value.bool hge.out) (vF_yes (on_g hc he) _).symm)) (fun hn => vF_no hn _)) ?_
      refine Steps.cons (fun a' w' hG hB dep => gs_pick (want_none rfl) _ _ _ rfl (!b45) (dep 7 rfl 48 rfl) (id (pick_or2 (c := true) rfl (dep 18 rfl 59 rfl)))) ?_
      refine Steps.cons (fun a' w' hG hB dep => gs_move (want_none rfl) _ rfl (id (dep 19 rfl 60 rfl))) ?_
      refine Steps.cons (fun a' w' hG hB dep => gs_guard (c := true) (b' := ((!b45) || bge)) rfl rfl (dep 20 rfl 61 rfl) (fun hc he hw => gs_move hw _ rfl (Eq.trans (hG.other 0 rfl) (vF_yes (on_g hc he) _).symm)) (fun hn => vF_no hn _)) ?_
      refine Steps.cons (fun a' w' hG hB dep => gs_guard (c := true) (b' := ((!b45) || bge)) rfl rfl (dep 20 rfl 61 rfl) (fun hc he hw => gs_move hw _ rfl (Eq.trans (hG.other 0 rfl) (vF_yes (on_g hc he) _).symm)) (fun hn => vF_no hn _)) ?_
      refine Steps.cons (fun a' w' hG hB dep => gs_guard (c := true) (b' := ((!b45) || bge)) rfl rfl (dep 20 rfl 61 rfl) (fun hc he hw => gs_nil hw _ rfl _ (Eq.trans (dep 22 rfl 63 rfl) (vF_yes (on_g hc he) _)) (vF_yes (on_g hc he) _).symm) (fun hn => vF_no hn _)) ?_
      refine Steps.cons (fun a' w' hG hB dep => gs_guard (c := true) (b' := ((!b45) || bge)) rfl rfl (dep 20 rfl 61 rfl) (fun hc he hw => gs_field hw _ _ _ rfl g (0) (1) (Eq.trans (dep 23 rfl 64 rfl) (vF_yes (on_g hc he) _)) (fun wz => field_reader_1 g (0) wz) (vF_yes (on_g hc he) _).symm) (fun hn => vF_no hn _)) ?_
      refine Steps.cons (fun a' w' hG hB dep => gs_guard (c := true) (b' := ((!b45) || bge)) rfl rfl (dep 20 rfl 61 rfl) (fun hc he hw => gs_load1 hw _ _ rfl g (1) (Eq.trans (dep 24 rfl 65 rfl) (vF_yes (on_g hc he) _)) (.int .i64 (((j : Nat) : Int))) (rd_cell hP hB).2 _ Try.underlying3 rfl (vF_yes (on_g hc he) _).symm) (fun hn => vF_no hn _)) ?_
      refine Steps.cons (fun a' w' hG hB dep => gs_guard (c := true) (b' := ((!b45) || bge)) rfl rfl (dep 20 rfl 61 rfl) (fun hc he hw => gs_add_nat hw _ _ _ _ rfl j 1 (j + 1) (Eq.trans (dep 25 rfl 66 rfl) (vF_yes (on_g hc he) _)) rfl rfl (by omega) (vF_yes (on_g hc he) _).symm) (fun hn => vF_no hn _)) ?_
      refine Steps.cons (fun a' w' hG hB dep => gs_guard (c := true) (b' := ((!b45) || bge)) rfl rfl (dep 20 rfl 61 rfl) (fun hc he hw => gs_call hw _ _ _ rfl enter_is #[.pointer (some ⟨g, 0, none⟩), .int .i64 (((j + 1) : Nat) : Int), .int .u8 93] (map3 (Eq.trans (dep 21 rfl 62 rfl) (vF_yes (on_g hc he) _)) (Eq.trans (dep 26 rfl 67 rfl) (vF_yes (on_g hc he) _)) rfl) (ret_step (is_at g p j (j + 1) 93 93 _ (blk_then hP hB) rfl b93_e) (fun _ => (vF_yes (on_g hc he) _).symm))) (fun hn => vF_no hn _)) ?_
      refine Steps.cons (fun a' w' hG hB dep => gs_pick (want_none rfl) _ _ _ rfl ((!b45) || bge) (dep 20 rfl 61 rfl) (id (pick_or2 (c := true) rfl (dep 27 rfl 68 rfl)))) ?_
      exact Steps.nil
    intro u w7 hB7 ans
    have u69 : u 69 = .bool ((((!b45) || bge) || b93)) := ans 28 69 (by decide) rfl
    clear ans
    simp only [putAll, List.foldl_cons, List.foldl_nil, Act.put, List.setIfInBounds_toArray, List.set_cons_zero, List.set_cons_succ, u69]
    clear u69
    simp only [List.drop]
    refine wpList_nil ?_
    obtain ⟨q, hq⟩ : ∃ q, ((((!b45) || bge) || b93)) = q := ⟨_, rfl⟩
    rw [hq]
    have hP7 := blk_then hP2 hB7
    have hT7 := hT2.then_ hB7
    have h47 := blk_then h42 hB7
    have hpl := hP7.lt
    clear hB7 hP2 hT2 h42 hP
    cases q with
    | true =>
      have hr := Lib.hid (show r = .got (bit (Ere.chr p i)) j by rw [← hR2.out, if_pos hq])
      have kO := of_any (some ⟨w7.heap.size, 0, none⟩) 1 1 [p[i]] (w7.alloc (.cells #[.int .u8 ((p[i].toNat : Nat) : Int)] 5)) rfl (by unfold maxLen; omega) (bytes_of_blk (l := [p[i]]) (Blk.new w7 5 #[.int .u8 ((p[i].toNat : Nat) : Int)]))
      have hB8 := Lib.hid (below_alloc (Below.refl w7.heap.size w7) (.cells #[.int .u8 ((p[i].toNat : Nat) : Int)] 5))
      have h48 := Lib.hid (blk_then h47 hB8.out)
      replace hq := Lib.hid hq
      go_wp2_with (first | (go_at_call 82; refine kO.mono ?_; rintro e w8 ⟨rfl, hB9⟩; have h49 := blk_then h48.out hB9) | (refine wl_store_set rfl _ _ rfl g4 _ rfl rfl _ h49 ?_; intro w9 h9 hg9))
      refine ret_set rfl rfl h9 rfl ?_
      rw [hr.out, hch.out, ← ofB_one]
      exact ⟨((hT7.then_ hB8.out).then_ hB9).grown hg9 (fun q e => by injection e with e; have := hwb.out; right; omega), rfl, (blk_then (blk_then hP7 hB8.out) hB9).grown hg9 (fun e => by injection e with e; have := hwb.out; omega)⟩
    | false =>
      simp only [Bool.or_eq_false_iff, Bool.not_eq_false'] at hq
      obtain ⟨⟨hq1, hq2⟩, hq3⟩ := hq
      have hR3 := hR2.out
      rw [hq1, hq2, hq3] at hR3
      simp only [Bool.not_true, Bool.or_self, Bool.false_eq_true, if_false] at hR3
      have hj1 : j + 1 < p.size := by
        have := bge_e.out
        rw [hq2] at this
        simpa using this
      have hch2 : Ere.chr p (j + 1) = p[j + 1].toNat := by unfold Ere.chr; rw [dif_pos hj1]
      rw [hch2, hch.out] at hR3
      have hj1I : (j : Int) + 1 < p.size := by omega
      have hj10 : ¬ (j : Int) + 1 < 0 := by omega
      obtain ⟨k, hk⟩ : ∃ k, k = j + 1 := ⟨_, rfl⟩
      clear hq1 hq2 hq3 hR2 hch2
      obtain ⟨vl, hvl⟩ : ∃ v, p[i] = v := ⟨_, rfl⟩
      obtain ⟨vh, hvh⟩ : ∃ v, p[j + 1] = v := ⟨_, rfl⟩
      rw [hvl, hvh] at hR3
      replace hR3 := Lib.hid hR3
      have c0 : w7.cell? ⟨g, 0, none⟩ = some (.string p) := hP7.cellv rfl
      have c1 : w7.cell? ⟨g, 1, none⟩ = some (.int .i64 (j : Int)) := hP7.cellv rfl
      go_upto_region 11 with (fail)
      go_big_region
      rw [hvl]
      clear hvl hvh c0 c1 hj1I hj10 hk
      have hPd := hP7.drew
      have hTd := hT7.then_ ((Below.refl w7.heap.size w7).drew)
      have h4d := h47.drew
      obtain ⟨w8, hw8⟩ : ∃ y, y = w7.drew := ⟨_, rfl⟩
      rw [← hw8] at hPd hTd h4d ⊢
      clear hw8 hP7 hT7 h47
      have hvl8 : vl.toNat < 256 := vl.toNat_lt
      have hvh8 : vh.toNat < 256 := vh.toNat_lt
      have c1 : w8.cell? ⟨g, 1, none⟩ = some (.int .i64 (j : Int)) := hPd.cellv rfl
      by_cases h1 : vh.toNat < vl.toNat
      · have h1I : ((vh.toNat : Nat) : Int) < ((vl.toNat : Nat) : Int) := by omega
        have hr := Lib.hid (show r = .fault 43 i by rw [← hR3.out, decide_eq_true h1]; simp)
        go_wp2_with (go_at_call 40; refine (give_any 43 i _).mono ?_; rintro e w9 ⟨hfe, hB9⟩; unfold faultE at hfe; subst hfe)
        rw [hr.out]
        exact ⟨rfl, hTd.then_ hB9, rfl⟩
      · have h1I : ¬ ((vh.toNat : Nat) : Int) < ((vl.toNat : Nat) : Int) := by omega
        by_cases h2 : vh.toNat = 91
        · have h2I : ((((vh.toNat : Nat) : Int)) == 91) = true := by rw [beq_iff_eq]; omega
          have kO := one_any g p ⟨#[58, 46, 61]⟩ j (j + 2) w8 hPd
          rw [show (List.map UInt8.toNat (⟨#[58, 46, 61]⟩ : ByteArray).data.toList) = [58, 46, 61] from rfl, bp_e.out, show (((j + 2 : Nat)) : Int) = (j : Int) + 2 by omega] at kO
          cases bp with
          | true =>
            have hr := Lib.hid (show r = .fault 43 i by rw [← hR3.out, decide_eq_true h2]; simp)
            replace h2 := Lib.hid h2
            go_wp2_with (first | (go_at_call 81; refine kO.mono ?_; rintro e w9 ⟨rfl, hB9⟩) | (go_at_call 40; refine (give_any 43 i _).mono ?_; rintro e w10 ⟨hfe, hB10⟩; unfold faultE at hfe; subst hfe))
            rw [hr.out]
            exact ⟨rfl, (hTd.then_ hB9).then_ hB10, rfl⟩
          | false =>
            have hr := Lib.hid (show r = .got (spanB vl.toNat vh.toNat) (j + 2) by rw [← hR3.out, decide_eq_false h1]; simp)
            replace h2 := Lib.hid h2
            go_upto_region 14 with (go_at_call 81; refine kO.mono ?_; rintro e w9 ⟨rfl, hB9⟩)
            have hP9 := blk_then hPd hB9
            have hT9 := hTd.then_ hB9
            have h49 := blk_then h4d hB9
            clear hPd hTd h4d c1 hB9
            have c1 : w9.cell? ⟨g, 1, none⟩ = some (.int .i64 (j : Int)) := hP9.cellv rfl
            have f1 := hP9.frozen 1
            go_upto_region 15 with (fail)
            have hP2 := setRd hP9 (v := .int .i64 ((j : Int) + 2)) (j := j + 2) (by congr 1)
            have hT2 := turnRd hT9 1 (.int .i64 ((j : Int) + 2))
            have h42 := h49.far (p := ⟨g, 1, none⟩) (by have := hwb.out; simp; omega) (.int .i64 ((j : Int) + 2))
            obtain ⟨w6, hw6⟩ : ∃ y, y = w9.setCell ⟨g, 1, none⟩ (.int .i64 ((j : Int) + 2)) := ⟨_, rfl⟩
            rw [← hw6] at hP2 hT2 h42 ⊢
            clear hw6 c1 f1 hP9 hT9 h49
            have kS := span_any vl.toNat vh.toNat w6 hvl8 hvh8
            go_wp2_with (first | (go_at_call 102; refine kS.mono ?_; rintro e w7 ⟨rfl, hB7⟩; have h47 := blk_then h42 hB7) | (refine wl_store_set rfl _ _ rfl g4 _ rfl rfl _ h47 ?_; intro wz hz hgz))
            refine ret_set rfl rfl hz rfl ?_
            rw [hr.out]
            exact ⟨(hT2.then_ hB7).grown hgz (fun q e => by injection e with e; have := hwb.out; right; omega), rfl, (blk_then hP2 hB7).grown hgz (fun e => by injection e with e; have := hwb.out; omega)⟩
        · have h2I : ((((vh.toNat : Nat) : Int)) == 91) = false := by rw [beq_eq_false_iff_ne]; omega
          have hr := Lib.hid (show r = .got (spanB vl.toNat vh.toNat) (j + 2) by rw [← hR3.out, decide_eq_false h1, decide_eq_false h2]; simp)
          replace h2 := Lib.hid h2
          obtain ⟨w9, hw9⟩ : ∃ y, y = w8 := ⟨_, rfl⟩
          have hB9 : Below w8.heap.size w8 w9 := by rw [hw9]; exact Below.refl _ _
          go_upto_region 14 with (fail)
          rw [← hw9]
          clear hw9
          have hP9 := blk_then hPd hB9
          have hT9 := hTd.then_ hB9
          have h49 := blk_then h4d hB9
          clear hPd hTd h4d c1 hB9
          have c1 : w9.cell? ⟨g, 1, none⟩ = some (.int .i64 (j : Int)) := hP9.cellv rfl
          have f1 := hP9.frozen 1
          go_upto_region 15 with (fail)
          have hP2 := setRd hP9 (v := .int .i64 ((j : Int) + 2)) (j := j + 2) (by congr 1)
          have hT2 := turnRd hT9 1 (.int .i64 ((j : Int) + 2))
          have h42 := h49.far (p := ⟨g, 1, none⟩) (by have := hwb.out; simp; omega) (.int .i64 ((j : Int) + 2))
          obtain ⟨w6, hw6⟩ : ∃ y, y = w9.setCell ⟨g, 1, none⟩ (.int .i64 ((j : Int) + 2)) := ⟨_, rfl⟩
          rw [← hw6] at hP2 hT2 h42 ⊢
          clear hw6 c1 f1 hP9 hT9 h49
          have kS := span_any vl.toNat vh.toNat w6 hvl8 hvh8
          go_wp2_with (first | (go_at_call 102; refine kS.mono ?_; rintro e w7 ⟨rfl, hB7⟩; have h47 := blk_then h42 hB7) | (refine wl_store_set rfl _ _ rfl g4 _ rfl rfl _ h47 ?_; intro wz hz hgz))
          refine ret_set rfl rfl hz rfl ?_
          rw [hr.out]
          exact ⟨(hT2.then_ hB7).grown hgz (fun q e => by injection e with e; have := hwb.out; right; omega), rfl, (blk_then hP2 hB7).grown hgz (fun e => by injection e with e; have := hwb.out; omega)⟩
end Go.Proofs.Ytajainmldcnaeaa
namespace Go.Proofs.Ytajainmldcnaeaa
open Go.RowKit Go.Maps
set_option linter.unusedVariables false
set_option linter.unusedSimpArgs false
attribute [local go_sem] Oper.semAt_some

namespace Ere
theorem classR_fwd {p : ByteArray} {s i j : Nat} {x : BSet} (h : classR p s i = .got x j) : i < j ∧ j ≤ p.size := by
  unfold classR at h
  split at h
  · cases h
  · rename_i k hk
    obtain ⟨h1, h2, _⟩ := endAt_some p p.size (i + 2) k hk
    have := h2.1
    split at h
    · cases h
    · injection h with _ h
      omega
theorem itemR_fwd {p : ByteArray} {s i j : Nat} {x : BSet} (h : itemR p s i = .got x j) (hi : i < p.size) : i < j ∧ j ≤ p.size := by
  unfold itemR at h
  split at h
  · exact classR_fwd h
  · split at h
    · cases h
    · split at h
      · injection h with _ h; omega
      · rename_i h1 h2 h3
        split at h
        · cases h
        · injection h with _ h
          simp only [Bool.or_eq_true, Bool.not_eq_true', decide_eq_true_eq, not_or] at h3
          omega
theorem itemsR_fwd {p : ByteArray} {s : Nat} : ∀ n first i x y j, itemsR p s n first i x = .got y j → i ≤ j ∧ j < p.size
  | 0, _, _, _, _, _, h => by cases h
  | n + 1, first, i, x, y, j, h => by
    unfold itemsR at h
    split at h
    · rename_i h1
      injection h with _ h
      simp only [Bool.and_eq_true] at h1
      have := isAt_lt h1.2
      omega
    · split at h
      · cases h
      · cases ht : itemR p s i with
        | fault e k => rw [ht] at h; cases h
        | got t k =>
          rw [ht] at h
          have h1 := itemR_fwd ht (by omega)
          have h2 := itemsR_fwd n false k (x ||| t) y j h
          omega
end Ere
theorem joinL_two (x y : BSet) : joinL [x, y] = x ||| y := by simp [joinL]
set_option maxRecDepth 100000 in
set_option maxHeartbeats 4000000 in
theorem rset_any (g : Nat) (p : ByteArray) (i s : Nat) (w : World) (hP : Blk w g 76 (rdC p i)) (hi : i ≤ p.size) (hp : p.size ≤ 1024) (hM : Mx w) (h0 : 0 < g) :
    Calls Try.prog 78 #[.pointer (some ⟨g, 0, none⟩), .int .i64 (s : Int)] w fun e w' => NdAns g p w w.heap.size (Ere.setR p s i) e w' := by
  obtain ⟨r, hr0⟩ : ∃ r, Ere.setR p s i = r := ⟨_, rfl⟩
  rw [hr0]
  have hR := hr0
  unfold Ere.setR at hR
  obtain ⟨b94, b94_e⟩ : ∃ b, Ere.isAt p i 94 = b := ⟨_, rfl⟩
  rw [b94_e] at hR
  obtain ⟨i0, hi0e⟩ : ∃ k, (if b94 = true then i + 1 else i) = k := ⟨_, rfl⟩
  rw [hi0e] at hR
  have hi0 : i0 ≤ p.size := by
    rw [← hi0e]
    split
    · rename_i h
      have := Ere.isAt_lt (b94_e.trans h)
      omega
    · exact hi
  obtain ⟨rs, hrs⟩ : ∃ r, Ere.itemsR p s (p.size + 2) true i0 0 = r := ⟨_, rfl⟩
  rw [hrs] at hR
  clear hr0
  replace hR := Lib.hid hR
  replace b94_e := Lib.hid b94_e
  replace hi0e := Lib.hid hi0e
  replace hrs := Lib.hid hrs
  have hT := Turn.refl g (g + 1) w
  have hgl := Lib.hid hP.lt
  have hpI : (p.size : Int) ≤ 1024 := by omega
  have hiI : (i : Int) ≤ 1024 := by omega
  go_enter Try.func78, Try.ntmps78
  have h4 : Blk (w.alloc (.cells zeroC 27)) w.heap.size 27 zeroC := Blk.new' _ _ _ rfl
  have hB1 : Below w.heap.size w (w.alloc (.cells zeroC 27)) := below_alloc (Below.refl _ _) _
  unfold zeroC at h4 hB1
  go_upto_region 1 with (fail)
  obtain ⟨w1, hw1⟩ : ∃ y, y = w.alloc (.cells zeroC 27) := ⟨_, rfl⟩
  unfold zeroC at hw1
  rw [← hw1] at h4 hB1 ⊢
  clear hw1
  replace hP := blk_then hP hB1
  replace hT := hT.then_ hB1
  replace hM := hM.then_ hB1
  clear hB1
  obtain ⟨g4, hg4e⟩ : ∃ y, y = w.heap.size := ⟨_, rfl⟩
  have hwb := Lib.hid (show w.heap.size ≤ g4 ∧ g4 ≠ g ∧ 0 < g ∧ g < w.heap.size by have := hgl.out; omega)
  rw [← hg4e] at h4 ⊢
  clear hg4e h0
  have c1 : w1.cell? ⟨g, 1, none⟩ = some (.int .i64 (i : Int)) := hP.cellv rfl
  have k94 := is_at g p i i 94 94 w1 hP rfl b94_e.out
  go_upto_if 14 with (go_at_call 57; refine k94.mono ?_; rintro e w2 ⟨rfl, hB⟩)
  replace hP := blk_then hP hB
  replace hT := hT.then_ hB
  replace hM := hM.then_ hB
  replace h4 := blk_then h4 hB
  clear k94 hB c1
  go_cut [] from 15 to 21 (fun wx => Turn g (g + 1) w2 wx ∧ Blk wx g 76 (rdC p i0))
  case first =>
    cases b94 with
    | false =>
      go_wp2_with (fail)
      go_meet
      have e := hi0e.out
      simp only [Bool.false_eq_true, if_false] at e
      subst e
      exact ⟨Turn.refl _ _ _, hP⟩
    | true =>
      have e := hi0e.out
      simp only [if_true] at e
      replace e := Lib.hid e
      have c1 : w2.cell? ⟨g, 1, none⟩ = some (.int .i64 (i : Int)) := hP.cellv rfl
      have f1 := hP.frozen 1
      go_wp2_with (fail)
      go_meet
      rw [← e.out]
      exact ⟨turnRd (Turn.refl _ _ _) 1 _, setRd hP (by congr 1)⟩
  case rest =>
    obtain ⟨hTc, hPc⟩ := hcut
    replace hT := hT.trans hTc
    replace hM := hM.turn hTc hwb.out.2.2.1
    replace h4 := blk_turn h4 hTc (by have := hwb.out; omega)
    clear hTc hP
    have hP := hPc
    clear hPc
    go_upto_region 5 with (fail)
    have h6 : Blk (wc.alloc (.cells #[.int .u64 0, .int .u64 0, .int .u64 0, .int .u64 0] 24)) wc.heap.size 24 (setC 0) := by rw [set0_eq]; exact Blk.new' _ _ _ rfl
    have hB3 : Below wc.heap.size wc (wc.alloc (.cells #[.int .u64 0, .int .u64 0, .int .u64 0, .int .u64 0] 24)) := below_alloc (Below.refl _ _) _
    obtain ⟨w3, hw3⟩ : ∃ y, y = wc.alloc (.cells #[.int .u64 0, .int .u64 0, .int .u64 0, .int .u64 0] 24) := ⟨_, rfl⟩
    rw [← hw3] at h6 hB3 ⊢
    clear hw3
    replace hP := blk_then hP hB3
    have hgw3 := hT.size
    replace hT := hT.then_ hB3
    replace hM := hM.then_ hB3
    have h4l := h4.lt
    replace h4 := blk_then h4 hB3
    obtain ⟨g6, hg6e⟩ : ∃ y, y = wc.heap.size := ⟨_, rfl⟩
    rw [← hg6e] at h6 ⊢
    have hw6 := Lib.hid (show w.heap.size ≤ g6 ∧ g6 ≠ g ∧ g6 ≠ g4 by have := hwb.out; omega)
    clear hg6e hB3 hgw3 h4l
    go_wp2_with (fail)
    go_loopw [7] (fun mv wr => ∃ (m j : Nat) (x : BSet), mv = .int .i64 m ∧ m ≤ j ∧ j ≤ p.size ∧ Turn g (g + 1) w wr ∧ Mx wr ∧ Blk wr g 76 (rdC p j) ∧ Blk wr g4 27 #[.int .i64 0, .int .u64 0, .int .u64 0, .int .u64 0, .int .u64 0, .slice none 0 0, .int .i64 0, .int .i64 0] ∧ Blk wr g6 24 (setC x) ∧ rs = Ere.itemsR p s (p.size + 2 - m) (decide (m = 0)) j x) (fun mv _ => p.size + 2 - (intOf mv).toNat)
    case atStart => exact ⟨0, i0, 0, rfl, by omega, hi0, hT, hM, hP, h4, h6, hrs.out.symm⟩
    case round =>
      clear hT hM hP h4 h6
      obtain ⟨m, j, x, rfl, hmj, hjp, hT, hM, hP, h4, h6, hit⟩ := hrel
      have hfu : p.size + 2 - m = (p.size + 2 - (m + 1)) + 1 := by omega
      rw [hfu] at hit
      unfold Ere.itemsR at hit
      obtain ⟨b93, b93_e⟩ : ∃ b, Ere.isAt p j 93 = b := ⟨_, rfl⟩
      rw [b93_e] at hit
      replace hit := Lib.hid hit
      replace hfu := Lib.hid hfu
      have c1 : wr.cell? ⟨g, 1, none⟩ = some (.int .i64 (j : Int)) := hP.cellv rfl
      have k93 := is_at g p j j 93 93 wr hP rfl b93_e
      replace b93_e := Lib.hid b93_e
      have hjI : (j : Int) ≤ 1024 := by omega
      have hmI : (m : Int) ≤ 1024 := by omega
      by_cases hex : (!decide (m = 0) && b93) = true
      · simp only [Bool.and_eq_true, Bool.not_eq_true', decide_eq_false_iff_not] at hex
        obtain ⟨hm0, rfl⟩ := hex
        have hm0I : ((m : Int) == 0) = false := by simpa using hm0
        have hrs2 := hit.out
        rw [decide_eq_false hm0] at hrs2
        simp only [Bool.not_false, Bool.true_and, if_true] at hrs2
        have hr := hR.out
        rw [hrs2] at hr
        simp only [Ere.Res.bind] at hr
        replace hr := Lib.hid hr
        clear hrs2 hit
        have hjlt : j < p.size := Ere.isAt_lt b93_e.out
        go_upto_region 11 with (go_at_call 57; refine k93.mono ?_; rintro e w4 ⟨rfl, hB⟩)
        replace hT := hT.then_ hB
        replace hP := blk_then hP hB
        replace h4 := blk_then h4 hB
        replace h6 := blk_then h6 hB
        clear k93 c1 hB
        have c1 : w4.cell? ⟨g, 1, none⟩ = some (.int .i64 (j : Int)) := hP.cellv rfl
        have f1 := hP.frozen 1
        go_upto_if 53 with (fail)
        have hP2 := setRd hP (v := .int .i64 ((j : Int) + 1)) (j := j + 1) (by congr 1)
        have hT2 := turnRd hT 1 (.int .i64 ((j : Int) + 1))
        have h42 := h4.far (p := ⟨g, 1, none⟩) (by have := hwb.out; simp; omega) (.int .i64 ((j : Int) + 1))
        have h62 := h6.far (p := ⟨g, 1, none⟩) (by have := hw6.out; simp; omega) (.int .i64 ((j : Int) + 1))
        obtain ⟨w5, hw5⟩ : ∃ y, y = w4.setCell ⟨g, 1, none⟩ (.int .i64 ((j : Int) + 1)) := ⟨_, rfl⟩
        rw [← hw5] at hP2 hT2 h42 h62 ⊢
        clear hw5 c1 f1 hP hT h4 h6
        have fin : ∀ (x' : BSet) (W : World), Turn g (g + 1) w W → Blk W g 76 (rdC p (j + 1)) → Blk W g4 27 #[.int .i64 0, .int .u64 0, .int .u64 0, .int .u64 0, .int .u64 0, .slice none 0 0, .int .i64 0, .int .i64 0] → ∀ W', Below W.heap.size W W' → Turn g (g + 1) w W' ∧ Blk W' g 76 (rdC p (j + 1)) ∧ Blk W' g4 27 #[.int .i64 0, .int .u64 0, .int .u64 0, .int .u64 0, .int .u64 0, .slice none 0 0, .int .i64 0, .int .i64 0] := fun x' W a b c W' hB => ⟨a.then_ hB, blk_then b hB, blk_then c hB⟩
        replace fin := Lib.hid fin
        cases b94 with
        | false =>
          have kS := nset_any x w5
          go_wp2_with (first | (refine wl_load_set rfl _ rfl g6 rfl _ h62 ?_) | (go_at_call 79; refine kS.mono ?_; rintro e w6 ⟨rfl, hB6⟩; have h46 := blk_then h42 hB6) | (refine wl_store_nv rfl _ _ rfl g4 (NV.mk 2 (x &&& notB 0) none 0 0 0 0) rfl rfl _ rfl h46 ?_; intro w7 h7 hg7))
          refine ret_nv rfl rfl h7 rfl ?_
          rw [← hr.out]
          simp only [Bool.false_eq_true, if_false]
          exact ⟨(hT2.then_ hB6).grown hg7 (fun q e => by injection e with e; have := hwb.out; right; omega), (blk_then hP2 hB6).grown hg7 (fun e => by injection e with e; have := hwb.out; omega), _, [], rfl, NdO.leaf _ _ _ _ _ _⟩
        | true =>
          have kN := not_any x w5
          go_upto_region 14 with (first | (refine wl_load_set rfl _ rfl g6 rfl _ h62 ?_) | (go_at_call 80; refine kN.mono ?_; rintro e w6 ⟨rfl, hB6⟩; have h66 := blk_then h62 hB6) | (refine wl_store_set rfl _ _ rfl g6 _ rfl rfl _ h66 ?_; intro w7 h67 hg7))
          have hT7 := (hT2.then_ hB6).grown hg7 (fun q e => by injection e with e; have := hw6.out; right; omega)
          have hP7 := (blk_then hP2 hB6).grown hg7 (fun e => by injection e with e; have := hw6.out; omega)
          have h47 := (blk_then h42 hB6).grown hg7 (fun e => by injection e with e; have := hw6.out; omega)
          clear h66 hB6 hg7 kN h62 h42
          have kS := nset_any (notB x) w7
          go_wp2_with (first | (refine wl_load_set rfl _ rfl g6 rfl _ h67 ?_) | (go_at_call 79; refine kS.mono ?_; rintro e w8 ⟨rfl, hB8⟩; have h48 := blk_then h47 hB8) | (refine wl_store_nv rfl _ _ rfl g4 (NV.mk 2 (notB x &&& notB 0) none 0 0 0 0) rfl rfl _ rfl h48 ?_; intro w9 h9 hg9))
          refine ret_nv rfl rfl h9 rfl ?_
          rw [← hr.out]
          simp only [if_true]
          exact ⟨(hT7.then_ hB8).grown hg9 (fun q e => by injection e with e; have := hwb.out; right; omega), (blk_then hP7 hB8).grown hg9 (fun e => by injection e with e; have := hwb.out; omega), _, [], rfl, NdO.leaf _ _ _ _ _ _⟩
      · have hrs2 := hit.out
        rw [if_neg hex] at hrs2
        have hgo : (m = 0 ∧ True) ∨ (m ≠ 0 ∧ b93 = false) := by
          by_cases e : m = 0
          · exact .inl ⟨e, trivial⟩
          · right
            refine ⟨e, ?_⟩
            cases b93
            · rfl
            · exact absurd (by simp [e]) hex
        replace hrs2 := Lib.hid hrs2
        have hmj2 := Lib.hid hmj
        clear hit hex
        rcases hgo with ⟨hm0, -⟩ | ⟨hm0, rfl⟩
        · have hm0I : ((m : Int) == 0) = true := by simpa using hm0
          replace hm0 := Lib.hid hm0
          clear k93
          go_upto_region 8 with (fail)
          have hB : Below wr.heap.size wr wr := Below.refl _ _
          obtain ⟨wq, hwq⟩ : ∃ y, y = wr := ⟨_, rfl⟩
          have hBq : Below wr.heap.size wr wq := by rw [hwq]; exact hB
          rw [← hwq]
          clear hwq hB
          replace hT := hT.then_ hBq
          replace hM := hM.then_ hBq
          replace hP := blk_then hP hBq
          replace h4 := blk_then h4 hBq
          replace h6 := blk_then h6 hBq
          clear hBq c1
          have kM := more_any g p j wq hP
          by_cases hjs : j < p.size
          · rw [decide_eq_true hjs] at kM
            have hrs3 := hrs2.out
            rw [if_neg (by omega)] at hrs3
            go_upto_region 10 with (go_at_call 66; refine kM.mono ?_; rintro e w4 ⟨rfl, hB⟩)
            replace hT := hT.then_ hB
            replace hM := hM.then_ hB
            replace hP := blk_then hP hB
            replace h4 := blk_then h4 hB
            replace h6 := blk_then h6 hB
            clear hB kM
            obtain ⟨ri, hri⟩ : ∃ r, Ere.itemR p s j = r := ⟨_, rfl⟩
            have kI : ∀ W, Blk W g 76 (rdC p j) → Mx W → Calls Try.prog 90 #[.pointer (some ⟨g, 0, none⟩), .int .i64 (s : Int)] W fun e w' => RdAns g p W (fun x : BSet => .agg (setC x)) ri e w' := fun W hW hMW => by rw [← hri]; exact item_any g p j s W hW hjs hp hMW
            have hfw := fun (y : BSet) (k : Nat) (e : ri = .got y k) => Ere.itemR_fwd (hri.trans e) hjs
            rw [hri] at hrs3
            clear hri
            replace hrs3 := Lib.hid hrs3
            replace hfw := Lib.hid hfw
            replace hjs := Lib.hid hjs
            have hI := kI w4 hP hM
            have hId := kI w4.drew hP.drew (hM.then_ (Below.refl w4.heap.size w4).drew)
            replace kI := Lib.hid kI
            cases ri with
            | fault e0 k0 =>
              have hr := hR.out
              rw [hrs3.out] at hr
              simp only [Ere.Res.bind] at hr
              replace hr := Lib.hid hr
              refine wp_region_stepsR (rw := some g) (i0 := 3) 4 [eqS (.agg (setC x)), eqS (.pointer (some ⟨g, 0, none⟩)), eqS (.int .i64 (s : Int)), noS] [40, 41, 42, 43] follows_mixed ?_ (by kernel_rfl) rfl ?_ ?_
              · intro q hq v W W' hs _
                match q, hq with
                | 0, _ => exact hs
                | 1, _ => exact hs
                | 2, _ => exact hs
                | q + 4, _ => exact trivial
              · refine StepsR.cons (fun a' w' hG hB hp dep => GStepR.of (gs_load_set_at (want_none rfl) _ rfl g6 0 (hG.other 6 rfl) x (RowAt.of_blk (h6.grown hB (fun e => hw6.out.2.1 (by injection e)))) rfl)) ?_
                refine StepsR.cons (fun a' w' hG hB hp dep => GStepR.of (gs_move (want_none rfl) _ rfl (id (hG.other 0 rfl)))) ?_
                refine StepsR.cons (fun a' w' hG hB hp dep => GStepR.of (gs_move (want_none rfl) _ rfl (id (hG.other 1 rfl)))) ?_
                refine StepsR.cons (fun a' w' hG hB hp dep => GStepR.call_or (want_none rfl) _ _ _ rfl enter_item #[.pointer (some ⟨g, 0, none⟩), .int .i64 (s : Int)] (map2 (dep 1 rfl 41 rfl) (dep 2 rfl 42 rfl)) ((kI.out w' (blk_then hP (hp rfl)) (hM.then_ (hp rfl))).mono fun e w5 h => .inr ⟨_, h.2, ?_⟩)) ?_
                · refine And.intro (hG.defers : a'.defers = []) ?_
                  show NdAns g p w w.heap.size r _ w5
                  rw [← hr.out]
                  exact ⟨hT.trans ((Turn.of_one hB).trans h.1), rfl⟩
                exact StepsR.nil
              · intro u W hW ans
                exact absurd (ans 3 43 (by decide) rfl) (fun h => h)
            | got y k =>
              refine wp_region_stepsR (rw := some g) (i0 := 3) 4 [eqS (.agg (setC x)), eqS (.pointer (some ⟨g, 0, none⟩)), eqS (.int .i64 (s : Int)), rdS g p (.agg (setC y)) k True] [40, 41, 42, 43] follows_mixed ?_ (by kernel_rfl) rfl ?_ ?_
              · intro q hq v W W' hs _
                match q, hq with
                | 0, _ => exact hs
                | 1, _ => exact hs
                | 2, _ => exact hs
                | q + 4, _ => exact trivial
              · refine StepsR.cons (fun a' w' hG hB hp dep => GStepR.of (gs_load_set_at (want_none rfl) _ rfl g6 0 (hG.other 6 rfl) x (RowAt.of_blk (h6.grown hB (fun e => hw6.out.2.1 (by injection e)))) rfl)) ?_
                refine StepsR.cons (fun a' w' hG hB hp dep => GStepR.of (gs_move (want_none rfl) _ rfl (id (hG.other 0 rfl)))) ?_
                refine StepsR.cons (fun a' w' hG hB hp dep => GStepR.of (gs_move (want_none rfl) _ rfl (id (hG.other 1 rfl)))) ?_
                refine StepsR.cons (fun a' w' hG hB hp dep => GStepR.call_or (want_none rfl) _ _ _ rfl enter_item #[.pointer (some ⟨g, 0, none⟩), .int .i64 (s : Int)] (map2 (dep 1 rfl 41 rfl) (dep 2 rfl 42 rfl)) ((kI.out w' (blk_then hP (hp rfl)) (hM.then_ (hp rfl))).mono fun e w5 h => .inl ⟨_, h.2.1, h.1.one, fun _ => ⟨rfl, h.2.2⟩⟩)) ?_
                exact StepsR.nil
              intro u w5 hW ans
              have u40 : u 40 = .agg (setC x) := ans 0 40 (by decide) rfl
              have u43 := ans 3 43 (by decide) rfl trivial
              have hP5 := u43.2
              replace u43 : u 43 = .agg (setC y) := u43.1
              clear ans
              simp only [putAll, List.foldl_cons, List.foldl_nil, Act.put, List.setIfInBounds_toArray, List.set_cons_zero, List.set_cons_succ, u40, u43]
              clear u40 u43
              simp only [List.drop]
              have hTs := Turn.of_one hW
              have hT5 := hT.trans hTs
              have h45 := blk_turn h4 hTs (by have := hwb.out; omega)
              have h65 := blk_turn h6 hTs (by have := hw6.out; omega)
              have hM5 := hM.turn hTs hwb.out.2.2.1
              clear hT hM hP h4 h6 hW hTs hI hId
              have kJ := join_any (some ⟨w5.heap.size, 0, none⟩) 2 2 [x, y] (w5.alloc (.cells (setC x ++ setC y) 24)) rfl (by unfold maxLen; omega) (sets2_of x y w5)
              rw [joinL_two] at kJ
              have hB6 := below_alloc (Below.refl w5.heap.size w5) (.cells (setC x ++ setC y) 24)
              refine wl_sets2 rfl _ _ rfl x y rfl rfl ?_
              refine wl_call rfl _ _ _ rfl enter_join #[.slice (some ⟨w5.heap.size, 0, none⟩) 2 2] (map1 rfl) (kJ.mono ?_)
              rintro e w6 ⟨rfl, hB7⟩
              refine ⟨_, rfl, ?_⟩
              have hB8 := below_then hB6 hB7
              refine wl_store_set rfl _ _ rfl g6 _ rfl rfl _ (blk_then h65 hB8) ?_
              intro w7 h67 hg7
              refine wpList_nil ?_
              have hT7 := (hT5.then_ hB8).grown hg7 (fun q e => by injection e with e; have := hw6.out; right; omega)
              have hP7 := (blk_then hP5 hB8).grown hg7 (fun e => by injection e with e; have := hw6.out; omega)
              have h47 := (blk_then h45 hB8).grown hg7 (fun e => by injection e with e; have := hw6.out; omega)
              have hM7 : Mx w7 := by
                have h1 := hM5.then_ hB8
                obtain ⟨q, hq⟩ := h1
                have h0 : (0 : Nat) < w6.heap.size := by have := (blk_then hP5 hB8).lt; omega
                exact ⟨q, (World.cell?_of_block (w := w6) (hg7.block 0 h0 (fun e => by injection e with e; have := hw6.out; have := hwb.out; omega))).trans hq⟩
              have hk := hfw.out y k rfl
              have hfin : rs = Ere.itemsR p s (p.size + 2 - (m + 1)) (decide (m + 1 = 0)) k (x ||| y) := by
                rw [hrs3.out]
                simp only [Ere.Res.bind]
                rw [decide_eq_false (by omega)]
              replace hfin := Lib.hid hfin
              replace hk := Lib.hid hk
              clear hT5 hP5 h45 hM5 h65 hB6 hB7 hB8 hg7 kJ hrs3 hrs2 hfw hmj
              go_wp2_with (fail)
              have hk2 := hk.out
              exact ⟨⟨m + 1, k, x ||| y, by congr 1, by have := hmj2.out; omega, hk2.2, hT7, hM7, hP7, h47, h67, hfin.out⟩, by simp only [intOf]; have := hfu.out; omega⟩
          · rw [decide_eq_false hjs] at kM
            have hrs3 := hrs2.out
            rw [if_pos (by omega)] at hrs3
            have hr := hR.out
            rw [hrs3] at hr
            simp only [Ere.Res.bind] at hr
            replace hr := Lib.hid hr
            replace hrs3 := Lib.hid hrs3
            go_wp2_with (first | (go_at_call 66; refine kM.mono ?_; rintro e w4 ⟨rfl, hB⟩) | (go_at_call 40; refine (give_any 43 s _).mono ?_; rintro e w5 ⟨hfe, hB5⟩; unfold faultE at hfe; subst hfe))
            rw [← hr.out]
            exact ⟨rfl, (hT.then_ hB).then_ hB5, rfl⟩
        · have hm0I : ((m : Int) == 0) = false := by simpa using hm0
          replace hm0 := Lib.hid hm0
          go_upto_region 8 with (go_at_call 57; refine k93.mono ?_; rintro e wq ⟨rfl, hBq⟩)
          clear k93
          replace hT := hT.then_ hBq
          replace hM := hM.then_ hBq
          replace hP := blk_then hP hBq
          replace h4 := blk_then h4 hBq
          replace h6 := blk_then h6 hBq
          clear hBq c1
          have kM := more_any g p j wq hP
          by_cases hjs : j < p.size
          · rw [decide_eq_true hjs] at kM
            have hrs3 := hrs2.out
            rw [if_neg (by omega)] at hrs3
            go_upto_region 10 with (go_at_call 66; refine kM.mono ?_; rintro e w4 ⟨rfl, hB⟩)
            replace hT := hT.then_ hB
            replace hM := hM.then_ hB
            replace hP := blk_then hP hB
            replace h4 := blk_then h4 hB
            replace h6 := blk_then h6 hB
            clear hB kM
            obtain ⟨ri, hri⟩ : ∃ r, Ere.itemR p s j = r := ⟨_, rfl⟩
            have kI : ∀ W, Blk W g 76 (rdC p j) → Mx W → Calls Try.prog 90 #[.pointer (some ⟨g, 0, none⟩), .int .i64 (s : Int)] W fun e w' => RdAns g p W (fun x : BSet => .agg (setC x)) ri e w' := fun W hW hMW => by rw [← hri]; exact item_any g p j s W hW hjs hp hMW
            have hfw := fun (y : BSet) (k : Nat) (e : ri = .got y k) => Ere.itemR_fwd (hri.trans e) hjs
            rw [hri] at hrs3
            clear hri
            replace hrs3 := Lib.hid hrs3
            replace hfw := Lib.hid hfw
            replace hjs := Lib.hid hjs
            have hI := kI w4 hP hM
            have hId := kI w4.drew hP.drew (hM.then_ (Below.refl w4.heap.size w4).drew)
            replace kI := Lib.hid kI
            cases ri with
            | fault e0 k0 =>
              have hr := hR.out
              rw [hrs3.out] at hr
              simp only [Ere.Res.bind] at hr
              replace hr := Lib.hid hr
              refine wp_region_stepsR (rw := some g) (i0 := 3) 4 [eqS (.agg (setC x)), eqS (.pointer (some ⟨g, 0, none⟩)), eqS (.int .i64 (s : Int)), noS] [40, 41, 42, 43] follows_mixed ?_ (by kernel_rfl) rfl ?_ ?_
              · intro q hq v W W' hs _
                match q, hq with
                | 0, _ => exact hs
                | 1, _ => exact hs
                | 2, _ => exact hs
                | q + 4, _ => exact trivial
              · refine StepsR.cons (fun a' w' hG hB hp dep => GStepR.of (gs_load_set_at (want_none rfl) _ rfl g6 0 (hG.other 6 rfl) x (RowAt.of_blk (h6.grown hB (fun e => hw6.out.2.1 (by injection e)))) rfl)) ?_
                refine StepsR.cons (fun a' w' hG hB hp dep => GStepR.of (gs_move (want_none rfl) _ rfl (id (hG.other 0 rfl)))) ?_
                refine StepsR.cons (fun a' w' hG hB hp dep => GStepR.of (gs_move (want_none rfl) _ rfl (id (hG.other 1 rfl)))) ?_
                refine StepsR.cons (fun a' w' hG hB hp dep => GStepR.call_or (want_none rfl) _ _ _ rfl enter_item #[.pointer (some ⟨g, 0, none⟩), .int .i64 (s : Int)] (map2 (dep 1 rfl 41 rfl) (dep 2 rfl 42 rfl)) ((kI.out w' (blk_then hP (hp rfl)) (hM.then_ (hp rfl))).mono fun e w5 h => .inr ⟨_, h.2, ?_⟩)) ?_
                · refine And.intro (hG.defers : a'.defers = []) ?_
                  show NdAns g p w w.heap.size r _ w5
                  rw [← hr.out]
                  exact ⟨hT.trans ((Turn.of_one hB).trans h.1), rfl⟩
                exact StepsR.nil
              · intro u W hW ans
                exact absurd (ans 3 43 (by decide) rfl) (fun h => h)
            | got y k =>
              refine wp_region_stepsR (rw := some g) (i0 := 3) 4 [eqS (.agg (setC x)), eqS (.pointer (some ⟨g, 0, none⟩)), eqS (.int .i64 (s : Int)), rdS g p (.agg (setC y)) k True] [40, 41, 42, 43] follows_mixed ?_ (by kernel_rfl) rfl ?_ ?_
              · intro q hq v W W' hs _
                match q, hq with
                | 0, _ => exact hs
                | 1, _ => exact hs
                | 2, _ => exact hs
                | q + 4, _ => exact trivial
              · refine StepsR.cons (fun a' w' hG hB hp dep => GStepR.of (gs_load_set_at (want_none rfl) _ rfl g6 0 (hG.other 6 rfl) x (RowAt.of_blk (h6.grown hB (fun e => hw6.out.2.1 (by injection e)))) rfl)) ?_
                refine StepsR.cons (fun a' w' hG hB hp dep => GStepR.of (gs_move (want_none rfl) _ rfl (id (hG.other 0 rfl)))) ?_
                refine StepsR.cons (fun a' w' hG hB hp dep => GStepR.of (gs_move (want_none rfl) _ rfl (id (hG.other 1 rfl)))) ?_
                refine StepsR.cons (fun a' w' hG hB hp dep => GStepR.call_or (want_none rfl) _ _ _ rfl enter_item #[.pointer (some ⟨g, 0, none⟩), .int .i64 (s : Int)] (map2 (dep 1 rfl 41 rfl) (dep 2 rfl 42 rfl)) ((kI.out w' (blk_then hP (hp rfl)) (hM.then_ (hp rfl))).mono fun e w5 h => .inl ⟨_, h.2.1, h.1.one, fun _ => ⟨rfl, h.2.2⟩⟩)) ?_
                exact StepsR.nil
              intro u w5 hW ans
              have u40 : u 40 = .agg (setC x) := ans 0 40 (by decide) rfl
              have u43 := ans 3 43 (by decide) rfl trivial
              have hP5 := u43.2
              replace u43 : u 43 = .agg (setC y) := u43.1
              clear ans
              simp only [putAll, List.foldl_cons, List.foldl_nil, Act.put, List.setIfInBounds_toArray, List.set_cons_zero, List.set_cons_succ, u40, u43]
              clear u40 u43
              simp only [List.drop]
              have hTs := Turn.of_one hW
              have hT5 := hT.trans hTs
              have h45 := blk_turn h4 hTs (by have := hwb.out; omega)
              have h65 := blk_turn h6 hTs (by have := hw6.out; omega)
              have hM5 := hM.turn hTs hwb.out.2.2.1
              clear hT hM hP h4 h6 hW hTs hI hId
              have kJ := join_any (some ⟨w5.heap.size, 0, none⟩) 2 2 [x, y] (w5.alloc (.cells (setC x ++ setC y) 24)) rfl (by unfold maxLen; omega) (sets2_of x y w5)
              rw [joinL_two] at kJ
              have hB6 := below_alloc (Below.refl w5.heap.size w5) (.cells (setC x ++ setC y) 24)
              refine wl_sets2 rfl _ _ rfl x y rfl rfl ?_
              refine wl_call rfl _ _ _ rfl enter_join #[.slice (some ⟨w5.heap.size, 0, none⟩) 2 2] (map1 rfl) (kJ.mono ?_)
              rintro e w6 ⟨rfl, hB7⟩
              refine ⟨_, rfl, ?_⟩
              have hB8 := below_then hB6 hB7
              refine wl_store_set rfl _ _ rfl g6 _ rfl rfl _ (blk_then h65 hB8) ?_
              intro w7 h67 hg7
              refine wpList_nil ?_
              have hT7 := (hT5.then_ hB8).grown hg7 (fun q e => by injection e with e; have := hw6.out; right; omega)
              have hP7 := (blk_then hP5 hB8).grown hg7 (fun e => by injection e with e; have := hw6.out; omega)
              have h47 := (blk_then h45 hB8).grown hg7 (fun e => by injection e with e; have := hw6.out; omega)
              have hM7 : Mx w7 := by
                have h1 := hM5.then_ hB8
                obtain ⟨q, hq⟩ := h1
                have h0 : (0 : Nat) < w6.heap.size := by have := (blk_then hP5 hB8).lt; omega
                exact ⟨q, (World.cell?_of_block (w := w6) (hg7.block 0 h0 (fun e => by injection e with e; have := hw6.out; have := hwb.out; omega))).trans hq⟩
              have hk := hfw.out y k rfl
              have hfin : rs = Ere.itemsR p s (p.size + 2 - (m + 1)) (decide (m + 1 = 0)) k (x ||| y) := by
                rw [hrs3.out]
                simp only [Ere.Res.bind]
                rw [decide_eq_false (by omega)]
              replace hfin := Lib.hid hfin
              replace hk := Lib.hid hk
              clear hT5 hP5 h45 hM5 h65 hB6 hB7 hB8 hg7 kJ hrs3 hrs2 hfw hmj
              go_wp2_with (fail)
              have hk2 := hk.out
              exact ⟨⟨m + 1, k, x ||| y, by congr 1, by have := hmj2.out; omega, hk2.2, hT7, hM7, hP7, h47, h67, hfin.out⟩, by simp only [intOf]; have := hfu.out; omega⟩
          · rw [decide_eq_false hjs] at kM
            have hrs3 := hrs2.out
            rw [if_pos (by omega)] at hrs3
            have hr := hR.out
            rw [hrs3] at hr
            simp only [Ere.Res.bind] at hr
            replace hr := Lib.hid hr
            replace hrs3 := Lib.hid hrs3
            go_wp2_with (first | (go_at_call 66; refine kM.mono ?_; rintro e w4 ⟨rfl, hB⟩) | (go_at_call 40; refine (give_any 43 s _).mono ?_; rintro e w5 ⟨hfe, hB5⟩; unfold faultE at hfe; subst hfe))
            rw [← hr.out]
            exact ⟨rfl, (hT.then_ hB).then_ hB5, rfl⟩
end Go.Proofs.Ytajainmldcnaeaa
namespace Go.Proofs.Ytajainmldcnaeaa
open Go.RowKit Go.Maps
set_option linter.unusedVariables false
set_option linter.unusedSimpArgs false
attribute [local go_sem] Oper.semAt_some

namespace Ere
theorem countsR_fwd {p : ByteArray} {i j : Nat} {c : Nat × Int} (h : countsR p i = .got c j) : i < j ∧ j < p.size := by
  have h1 := digits_le p 4 (i + 1) 0 0
  have h2 := digits_le p 4 ((digits p 4 (i + 1) 0 0).2.1 + 1) 0 0
  unfold countsR at h
  simp only at h
  split at h
  · split at h
    · rename_i h3
      injection h with _ h
      have := isAt_lt h3
      omega
    · split at h
      · cases h
      · rename_i h3
        injection h with _ h
        simp only [Bool.or_eq_true, Bool.not_eq_true', not_or, Bool.not_eq_false] at h3
        have := isAt_lt h3.1.2
        omega
  · split at h
    · cases h
    · rename_i h3
      injection h with _ h
      simp only [Bool.or_eq_true, Bool.not_eq_true', not_or, Bool.not_eq_false] at h3
      have := isAt_lt h3.2
      omega
theorem repeatR_fwd {p : ByteArray} {t u : Nd} {i j : Nat} (h : repeatR p t i = .got u j) (hi : i ≤ p.size) : i ≤ j ∧ j ≤ p.size := by
  unfold repeatR at h
  split at h
  · rename_i h3
    injection h with _ h
    have := isAt_lt h3
    omega
  split at h
  · rename_i h3
    injection h with _ h
    have := isAt_lt h3
    omega
  split at h
  · rename_i h3
    injection h with _ h
    have := isAt_lt h3
    omega
  split at h
  · cases hc : countsR p i with
    | fault e k => rw [hc] at h; cases h
    | got c k =>
      rw [hc] at h
      injection h with _ h
      have := countsR_fwd hc
      omega
  · injection h with _ h
    omega
theorem setR_fwd {p : ByteArray} {s i j : Nat} {t : Nd} (h : setR p s i = .got t j) : i < j ∧ j ≤ p.size := by
  unfold setR at h
  cases hc : itemsR p s (p.size + 2) true (if isAt p i 94 then i + 1 else i) 0 with
  | fault e k => rw [hc] at h; cases h
  | got c k =>
    rw [hc] at h
    injection h with _ h
    have := itemsR_fwd _ _ _ _ _ _ hc
    split at this <;> omega
theorem pieceR_fwd {p : ByteArray} {inner : Option (Nat → Res Nd)} (hin : ∀ f, inner = some f → ∀ i t j, i ≤ p.size → f i = .got t j → i ≤ j ∧ j ≤ p.size) {i j : Nat} {t : Nd} (h : pieceR p inner i = .got t j) (hi : i < p.size) : i < j ∧ j ≤ p.size := by
  unfold pieceR at h
  simp only at h
  split at h
  · injection h with _ h; omega
  split at h
  · injection h with _ h; omega
  split at h
  · cases h
  split at h
  · cases inner with
    | none => cases h
    | some f =>
      simp only at h
      cases hf : f (i + 1) with
      | fault e k => rw [hf] at h; cases h
      | got u k =>
        rw [hf] at h
        simp only [Res.bind] at h
        have h1 := hin f rfl (i + 1) u k (by omega) hf
        split at h
        · cases h
        · have := repeatR_fwd h (by omega)
          omega
  split at h
  · cases hf : setR p i (i + 1) with
    | fault e k => rw [hf] at h; cases h
    | got u k =>
      rw [hf] at h
      simp only [Res.bind] at h
      have h1 := setR_fwd hf
      have := repeatR_fwd h (by omega)
      omega
  split at h
  · have := repeatR_fwd h (by omega)
    omega
  split at h
  · split at h
    · rename_i h3
      unfold oneOf at h3
      simp only [Bool.and_eq_true, decide_eq_true_eq] at h3
      have := repeatR_fwd h (by omega)
      omega
    · cases h
  · have := repeatR_fwd h (by omega)
    omega
end Ere
/-- what the pattern within so many groups reads -/
def PatOk (p : ByteArray) (n : Nat) : Prop := ∀ (gr : Nat), gr + n = 64 → ∀ (g i : Nat) (w : World), Blk w g 76 (rdC p i) → i ≤ p.size → p.size ≤ 1024 → Mx w → 0 < g →
  Calls Try.prog 39 #[.pointer (some ⟨g, 0, none⟩), .int .i64 (gr : Int)] w fun e w' => NdAns g p w w.heap.size (Ere.patR p n i) e w'
set_option maxRecDepth 100000 in
set_option maxHeartbeats 8000000 in
theorem piece_any (n gr : Nat) (hgr : gr + n = 64) (inner : Option (Nat → Ere.Res Nd)) (g : Nat) (p : ByteArray) (i : Nat) (hin : match n with
      | 0 => inner = none
      | n + 1 => PatOk p n ∧ inner = some (Ere.patR p n) ∧ ∀ i t j, i ≤ p.size → Ere.patR p n i = .got t j → i ≤ j ∧ j ≤ p.size) (w : World) (hP : Blk w g 76 (rdC p i)) (hi : i < p.size) (hp : p.size ≤ 1024) (hM : Mx w) (h0 : 0 < g) :
    Calls Try.prog 67 #[.pointer (some ⟨g, 0, none⟩), .int .i64 (gr : Int)] w fun e w' => NdAns g p w w.heap.size (Ere.pieceR p inner i) e w' := by
  obtain ⟨r, hr0⟩ : ∃ r, Ere.pieceR p inner i = r := ⟨_, rfl⟩
  rw [hr0]
  have hR := hr0
  unfold Ere.pieceR at hR
  have hch : Ere.chr p i = p[i].toNat := by unfold Ere.chr; rw [dif_pos hi]
  simp only [hch] at hR
  obtain ⟨v, hv⟩ : ∃ v, p[i] = v := ⟨_, rfl⟩
  rw [hv] at hR
  clear hr0 hch
  have hv8 : v.toNat < 256 := v.toNat_lt
  have hT := Turn.refl g (g + 1) w
  have hgl := Lib.hid hP.lt
  have hpI : (p.size : Int) ≤ 1024 := by omega
  have hiI : (i : Int) < p.size := by omega
  have hi00 : ¬ (i : Int) < 0 := by omega
  replace hR := Lib.hid hR
  replace hv := Lib.hid hv
  replace hgr := Lib.hid hgr
  replace hin := Lib.hid hin
  go_enter Try.func67, Try.ntmps67
  have h4 : Blk (w.alloc (.cells zeroC 27)) w.heap.size 27 zeroC := Blk.new' _ _ _ rfl
  have hB1 : Below w.heap.size w (w.alloc (.cells zeroC 27)) := below_alloc (Below.refl _ _) _
  unfold zeroC at h4 hB1
  go_upto_region 1 with (fail)
  obtain ⟨w1, hw1⟩ : ∃ y, y = w.alloc (.cells zeroC 27) := ⟨_, rfl⟩
  unfold zeroC at hw1
  rw [← hw1] at h4 hB1 ⊢
  clear hw1
  replace hP := blk_then hP hB1
  replace hT := hT.then_ hB1
  replace hM := hM.then_ hB1
  have h4l := h4.lt
  obtain ⟨g4, hg4e⟩ : ∃ y, y = w.heap.size := ⟨_, rfl⟩
  have hwb := Lib.hid (show w.heap.size ≤ g4 ∧ g4 ≠ g ∧ 0 < g ∧ g < w.heap.size ∧ g4 < w1.heap.size ∧ g < w1.heap.size ∧ w.heap.size ≤ w1.heap.size by have := hgl.out; have := hB1.size; omega)
  rw [← hg4e] at h4 ⊢
  clear hg4e h0 h4l hB1
  have c0 : w1.cell? ⟨g, 0, none⟩ = some (.string p) := hP.cellv rfl
  have c1 : w1.cell? ⟨g, 1, none⟩ = some (.int .i64 (i : Int)) := hP.cellv rfl
  have f1 := hP.frozen 1
  go_upto_region 4 with (fail)
  rw [hv.out]
  have hP2 := setRd hP (v := .int .i64 ((i : Int) + 1)) (j := i + 1) (by congr 1)
  have hT2 := turnRd hT 1 (.int .i64 ((i : Int) + 1))
  have hM2 := hM.turn (turnRd (Turn.refl g (g + 1) w1) 1 (.int .i64 ((i : Int) + 1))) hwb.out.2.2.1
  have h42 := h4.far (p := ⟨g, 1, none⟩) (by have := hwb.out; simp; omega) (.int .i64 ((i : Int) + 1))
  obtain ⟨w2, hw2⟩ : ∃ y, y = w1.setCell ⟨g, 1, none⟩ (.int .i64 ((i : Int) + 1)) := ⟨_, rfl⟩
  have hs2 : w2.heap.size = w1.heap.size := by rw [hw2]; simp [World.setCell]
  rw [← hw2] at hP2 hT2 hM2 h42 ⊢
  have hw3 := Lib.hid (show g4 < w2.heap.size ∧ g < w2.heap.size ∧ w.heap.size ≤ w2.heap.size by have := hwb.out; omega)
  clear hw2 hs2 c0 c1 f1 hP hT h4 hM
  by_cases h94 : v.toNat = 94
  · skip
    have e94 : ((((v.toNat : Nat) : Int)) == 94) = true := beq_iff_eq.2 (by omega)
    have hr := Lib.hid (show r = .got (.mk 6 0 [] 0 0) (i + 1) by rw [← hR.out]; simp [h94])
    go_wp2_with (first | (refine wl_build_node rfl _ rfl ⟨6, 0, none, 0, 0, 0, 0⟩ #[(0, .int .i64 6)] rfl (fun w => build_leaf 6 w) ?_) | (refine wl_store_nv rfl _ _ rfl g4 ⟨6, 0, none, 0, 0, 0, 0⟩ rfl rfl _ rfl h42 ?_; intro wz hz hgz))
    refine ret_nv rfl rfl hz rfl ?_
    rw [hr.out]
    exact ⟨hT2.grown hgz (fun q e => by injection e with e; have := hwb.out; right; omega), hP2.grown hgz (fun e => by injection e with e; have := hwb.out; omega), _, [], rfl, NdO.leaf _ _ _ _ _ _⟩
  by_cases h36 : v.toNat = 36
  · skip
    have e94 : ((((v.toNat : Nat) : Int)) == 94) = false := beq_eq_false_iff_ne.2 (by omega)
    have e36 : ((((v.toNat : Nat) : Int)) == 36) = true := beq_iff_eq.2 (by omega)
    have hr := Lib.hid (show r = .got (.mk 7 0 [] 0 0) (i + 1) by rw [← hR.out]; simp [h36])
    go_wp2_with (first | (refine wl_build_node rfl _ rfl ⟨7, 0, none, 0, 0, 0, 0⟩ #[(0, .int .i64 7)] rfl (fun w => build_leaf 7 w) ?_) | (refine wl_store_nv rfl _ _ rfl g4 ⟨7, 0, none, 0, 0, 0, 0⟩ rfl rfl _ rfl h42 ?_; intro wz hz hgz))
    refine ret_nv rfl rfl hz rfl ?_
    rw [hr.out]
    exact ⟨hT2.grown hgz (fun q e => by injection e with e; have := hwb.out; right; omega), hP2.grown hgz (fun e => by injection e with e; have := hwb.out; omega), _, [], rfl, NdO.leaf _ _ _ _ _ _⟩
  by_cases hrp : v.toNat = 42 ∨ v.toNat = 43 ∨ v.toNat = 63 ∨ v.toNat = 123
  · have hr := Lib.hid (show r = .fault 44 i by rw [← hR.out]; simp [h94, h36, hrp])
    rcases hrp with h | h | h | h
    · skip
      have e94 : ((((v.toNat : Nat) : Int)) == 94) = false := beq_eq_false_iff_ne.2 (by omega)
      have e36 : ((((v.toNat : Nat) : Int)) == 36) = false := beq_eq_false_iff_ne.2 (by omega)
      have e42 : ((((v.toNat : Nat) : Int)) == 42) = true := beq_iff_eq.2 (by omega)
      go_wp2_with (go_at_call 40; refine (give_any 44 i _).mono ?_; rintro e w9 ⟨hfe, hB9⟩; unfold faultE at hfe; subst hfe)
      rw [hr.out]
      exact ⟨rfl, hT2.then_ hB9, rfl⟩
    · skip
      have e94 : ((((v.toNat : Nat) : Int)) == 94) = false := beq_eq_false_iff_ne.2 (by omega)
      have e36 : ((((v.toNat : Nat) : Int)) == 36) = false := beq_eq_false_iff_ne.2 (by omega)
      have e42 : ((((v.toNat : Nat) : Int)) == 42) = false := beq_eq_false_iff_ne.2 (by omega)
      have e43 : ((((v.toNat : Nat) : Int)) == 43) = true := beq_iff_eq.2 (by omega)
      go_wp2_with (go_at_call 40; refine (give_any 44 i _).mono ?_; rintro e w9 ⟨hfe, hB9⟩; unfold faultE at hfe; subst hfe)
      rw [hr.out]
      exact ⟨rfl, hT2.then_ hB9, rfl⟩
    · skip
      have e94 : ((((v.toNat : Nat) : Int)) == 94) = false := beq_eq_false_iff_ne.2 (by omega)
      have e36 : ((((v.toNat : Nat) : Int)) == 36) = false := beq_eq_false_iff_ne.2 (by omega)
      have e42 : ((((v.toNat : Nat) : Int)) == 42) = false := beq_eq_false_iff_ne.2 (by omega)
      have e43 : ((((v.toNat : Nat) : Int)) == 43) = false := beq_eq_false_iff_ne.2 (by omega)
      have e63 : ((((v.toNat : Nat) : Int)) == 63) = true := beq_iff_eq.2 (by omega)
      go_wp2_with (go_at_call 40; refine (give_any 44 i _).mono ?_; rintro e w9 ⟨hfe, hB9⟩; unfold faultE at hfe; subst hfe)
      rw [hr.out]
      exact ⟨rfl, hT2.then_ hB9, rfl⟩
    · skip
      have e94 : ((((v.toNat : Nat) : Int)) == 94) = false := beq_eq_false_iff_ne.2 (by omega)
      have e36 : ((((v.toNat : Nat) : Int)) == 36) = false := beq_eq_false_iff_ne.2 (by omega)
      have e42 : ((((v.toNat : Nat) : Int)) == 42) = false := beq_eq_false_iff_ne.2 (by omega)
      have e43 : ((((v.toNat : Nat) : Int)) == 43) = false := beq_eq_false_iff_ne.2 (by omega)
      have e63 : ((((v.toNat : Nat) : Int)) == 63) = false := beq_eq_false_iff_ne.2 (by omega)
      have e123 : ((((v.toNat : Nat) : Int)) == 123) = true := beq_iff_eq.2 (by omega)
      go_wp2_with (go_at_call 40; refine (give_any 44 i _).mono ?_; rintro e w9 ⟨hfe, hB9⟩; unfold faultE at hfe; subst hfe)
      rw [hr.out]
      exact ⟨rfl, hT2.then_ hB9, rfl⟩
  have hR3 := hR.out
  rw [if_neg h94, if_neg h36, if_neg hrp] at hR3
  replace hR3 := Lib.hid hR3
  by_cases h40 : v.toNat = 40
  · skip
    have e94 : ((((v.toNat : Nat) : Int)) == 94) = false := beq_eq_false_iff_ne.2 (by omega)
    have e36 : ((((v.toNat : Nat) : Int)) == 36) = false := beq_eq_false_iff_ne.2 (by omega)
    have e42 : ((((v.toNat : Nat) : Int)) == 42) = false := beq_eq_false_iff_ne.2 (by omega)
    have e43 : ((((v.toNat : Nat) : Int)) == 43) = false := beq_eq_false_iff_ne.2 (by omega)
    have e63 : ((((v.toNat : Nat) : Int)) == 63) = false := beq_eq_false_iff_ne.2 (by omega)
    have e123 : ((((v.toNat : Nat) : Int)) == 123) = false := beq_eq_false_iff_ne.2 (by omega)
    have e40 : ((((v.toNat : Nat) : Int)) == 40) = true := beq_iff_eq.2 (by omega)
    have hR4 := hR3.out
    rw [if_pos h40] at hR4
    cases n with
    | zero =>
      have hi0 := hin.out
      simp only at hi0
      subst hi0
      have hr := Lib.hid (show r = .fault 47 i by rw [← hR4])
      have hgI : (((gr : Nat) : Int) == 64) = true := beq_iff_eq.2 (by have := hgr.out; omega)
      clear hR4
      go_wp2_with (go_at_call 40; refine (give_any 47 i _).mono ?_; rintro e w9 ⟨hfe, hB9⟩; unfold faultE at hfe; subst hfe)
      rw [hr.out]
      exact ⟨rfl, hT2.then_ hB9, rfl⟩
    | succ n =>
      obtain ⟨hPO, hi0, hfw⟩ := hin.out
      subst hi0
      simp only at hR4
      have hgI : (((gr : Nat) : Int) == 64) = false := beq_eq_false_iff_ne.2 (by have := hgr.out; omega)
      have hgI2 : (gr : Int) ≤ 64 := by have := hgr.out; omega
      have kP := hPO (gr + 1) (by have := hgr.out; omega) g (i + 1) w2 hP2 (by omega) hp hM2 hwb.out.2.2.1
      rw [show ((gr + 1 : Nat) : Int) = (gr : Int) + 1 from rfl] at kP
      have hfw2 := fun t j => hfw (i + 1) t j (by omega)
      obtain ⟨rp, hrp2⟩ : ∃ r, Ere.patR p n (i + 1) = r := ⟨_, rfl⟩
      rw [hrp2] at hR4 kP hfw2
      clear hrp2 hPO hfw hin
      cases rp with
      | fault e0 k0 =>
        have hr := Lib.hid (show r = .fault e0 k0 by rw [← hR4]; rfl)
        clear hR4 hfw2
        go_wp2_with (go_at_call 39; refine kP.mono ?_; rintro e w9 ⟨hT9, hfe⟩; unfold faultE at hfe; subst hfe)
        rw [hr.out]
        exact ⟨rfl, hT2.trans hT9, rfl⟩
      | got t j =>
        have hj := hfw2 t j rfl
        simp only [Ere.Res.bind] at hR4
        clear hfw2
        replace hR4 := Lib.hid hR4
        have hjI : (j : Int) ≤ 1024 := by omega
        replace hj := Lib.hid hj
        go_upto_region 21 with (first | (go_at_call 39; refine kP.mono ?_; rintro e w3 ⟨hT3, hP3, x, bs, rfl, hO3⟩) | (refine wl_store_nv rfl _ _ rfl _ x rfl rfl _ rfl (Blk.new _ _ zeroC) ?_; intro w4 h7 hg7))
        have hB4 : Below w3.heap.size w3 w4 := below_grown (below_alloc (Below.refl w3.heap.size w3) (.cells zeroC 27)) hg7 (Nat.le_refl _)
        have hT4 := (hT2.trans hT3).then_ hB4
        have hP4 := blk_then hP3 hB4
        have hO4 := hO3.then_ hB4
        have h44 := blk_then (blk_turn h42 hT3 (by have := hwb.out; omega)) hB4
        have hs3 := hT3.size
        obtain ⟨g7, hg7e⟩ : ∃ y, y = w3.heap.size := ⟨_, rfl⟩
        rw [← hg7e] at h7 ⊢
        have hw7 := Lib.hid (show g7 ≠ g ∧ g7 ≠ g4 ∧ w.heap.size ≤ g7 ∧ g4 < w2.heap.size ∧ g < w2.heap.size ∧ w2.heap.size ≤ g7 by have := hw3.out; have := hs3; omega)
        have hOb := fun b hb => (hO3.lt b hb).2
        rw [← hg7e] at hOb
        clear hg7e hg7 hB4 hT3 hP3 hO3 kP
        have kM := more_any g p j w4 hP4
        by_cases hjs : j < p.size
        · rw [decide_eq_true hjs] at kM
          have hR5 := hR4.out
          rw [if_neg (by omega)] at hR5
          obtain ⟨rr, hrr⟩ : ∃ q, Ere.repeatR p t (j + 1) = q := ⟨_, rfl⟩
          rw [hrr] at hR5
          have hr := Lib.hid hR5.symm
          go_upto_region 23 with (go_at_call 66; refine kM.mono ?_; rintro e w5 ⟨rfl, hB5⟩)
          clear kM hR5
          replace hT4 := hT4.then_ hB5
          replace hP4 := blk_then hP4 hB5
          replace hO4 := hO4.then_ hB5
          replace h44 := blk_then h44 hB5
          replace h7 := blk_then h7 hB5
          have hs5 : w2.heap.size ≤ w5.heap.size := by have := h7.lt; have := hw7.out; omega
          replace hs5 := Lib.hid hs5
          replace hrr := Lib.hid hrr
          replace hOb := Lib.hid hOb
          clear hs3 hB5
          have c1 : w5.cell? ⟨g, 1, none⟩ = some (.int .i64 (j : Int)) := hP4.cellv rfl
          have f1 := hP4.frozen 1
          go_upto_region 24 with (fail)
          have hP6 := setRd hP4 (v := .int .i64 ((j : Int) + 1)) (j := j + 1) (by congr 1)
          have hTq := turnRd hT4 1 (.int .i64 ((j : Int) + 1))
          have hO6 := hO4.turn (turnRd (Turn.refl g (g + 1) w5) 1 (.int .i64 ((j : Int) + 1))) hw7.out.2.2.2.2.1
          have h4q := h44.far (p := ⟨g, 1, none⟩) (by have := hwb.out; simp; omega) (.int .i64 ((j : Int) + 1))
          have h76 := h7.far (p := ⟨g, 1, none⟩) (by have := hw7.out; simp; omega) (.int .i64 ((j : Int) + 1))
          obtain ⟨w6, hw6⟩ : ∃ y, y = w5.setCell ⟨g, 1, none⟩ (.int .i64 ((j : Int) + 1)) := ⟨_, rfl⟩
          have hs6 : w6.heap.size = w5.heap.size := by rw [hw6]; simp [World.setCell]
          rw [← hw6] at hP6 hTq hO6 h4q h76 ⊢
          have hBq := Lib.hid (show g4 < w2.heap.size ∧ g < w2.heap.size ∧ w.heap.size ≤ w2.heap.size from hw3.out)
          have kR := repeat_any g p (j + 1) w2.heap.size t x bs w6 hP6 (by omega) hO6 hw3.out.2.1 (by have := hs5.out; omega)
          rw [hrr.out] at kR
          clear hw6 hs6 c1 f1 hP4 hT4 hO4 h44 h7
          cases rr with
          | fault e0 k0 =>
            go_wp2_with (first | (refine wl_load_nv rfl _ rfl g7 rfl x h76 ?_) | (go_at_call 77; refine (kR).mono ?_; rintro e wr ⟨hTr, hfe⟩; unfold faultE at hfe; subst hfe))
            rw [hr.out]
            exact ⟨rfl, hTq.trans hTr, rfl⟩
          | got u k =>
            go_wp2_with (first | (refine wl_load_nv rfl _ rfl g7 rfl x h76 ?_) | (go_at_call 77; refine (kR).mono ?_; rintro e wr ⟨hTr, hPr, x2, bs2, rfl, hO⟩; have h4r := blk_turn h4q hTr (by have := hwb.out; omega)) | (refine wl_store_nv rfl _ _ rfl g4 x2 rfl rfl _ rfl h4r ?_; intro wz hz hgz))
            refine ret_nv rfl rfl hz rfl ?_
            rw [hr.out]
            exact ⟨(hTq.trans hTr).grown hgz (fun q e => by injection e with e; have := hwb.out; right; omega), hPr.grown hgz (fun e => by injection e with e; have := hwb.out; omega), x2, bs2, rfl, (hO.mono hBq.out.2.2).keep (fun b hb => hgz.block b (hO.lt b hb).2 (fun e => by injection e with e; have := (hO.lt b hb).1; have := hBq.out; omega))⟩
        · rw [decide_eq_false hjs] at kM
          have hr := Lib.hid (show r = .fault 42 i by rw [← hR4.out, if_pos (by omega)])
          go_wp2_with (first | (go_at_call 66; refine kM.mono ?_; rintro e w5 ⟨rfl, hB5⟩) | (go_at_call 40; refine (give_any 42 i _).mono ?_; rintro e w9 ⟨hfe, hB9⟩; unfold faultE at hfe; subst hfe))
          rw [hr.out]
          exact ⟨rfl, (hT4.then_ hB5).then_ hB9, rfl⟩
  by_cases h91 : v.toNat = 91
  · skip
    have e94 : ((((v.toNat : Nat) : Int)) == 94) = false := beq_eq_false_iff_ne.2 (by omega)
    have e36 : ((((v.toNat : Nat) : Int)) == 36) = false := beq_eq_false_iff_ne.2 (by omega)
    have e42 : ((((v.toNat : Nat) : Int)) == 42) = false := beq_eq_false_iff_ne.2 (by omega)
    have e43 : ((((v.toNat : Nat) : Int)) == 43) = false := beq_eq_false_iff_ne.2 (by omega)
    have e63 : ((((v.toNat : Nat) : Int)) == 63) = false := beq_eq_false_iff_ne.2 (by omega)
    have e123 : ((((v.toNat : Nat) : Int)) == 123) = false := beq_eq_false_iff_ne.2 (by omega)
    have e40 : ((((v.toNat : Nat) : Int)) == 40) = false := beq_eq_false_iff_ne.2 (by omega)
    have e91 : ((((v.toNat : Nat) : Int)) == 91) = true := beq_iff_eq.2 (by omega)
    have hR4 := hR3.out
    rw [if_neg h40, if_pos h91] at hR4
    have kS := rset_any g p (i + 1) i w2 hP2 (by omega) hp hM2 hwb.out.2.2.1
    have hfw := fun t j => Ere.setR_fwd (p := p) (s := i) (i := i + 1) (t := t) (j := j)
    obtain ⟨rs, hrs⟩ : ∃ r, Ere.setR p i (i + 1) = r := ⟨_, rfl⟩
    rw [hrs] at hR4 kS hfw
    clear hrs
    cases rs with
    | fault e0 k0 =>
      have hr := Lib.hid (show r = .fault e0 k0 by rw [← hR4]; rfl)
      clear hR4 hfw
      go_wp2_with (go_at_call 78; refine kS.mono ?_; rintro e w9 ⟨hT9, hfe⟩; unfold faultE at hfe; subst hfe)
      rw [hr.out]
      exact ⟨rfl, hT2.trans hT9, rfl⟩
    | got t j =>
      have hj := hfw t j rfl
      simp only [Ere.Res.bind] at hR4
      obtain ⟨rr, hrr⟩ : ∃ q, Ere.repeatR p t j = q := ⟨_, rfl⟩
      rw [hrr] at hR4
      have hr := Lib.hid hR4.symm
      clear hR4 hfw
      replace hrr := Lib.hid hrr
      have hBq := Lib.hid (show g4 < w2.heap.size ∧ g < w2.heap.size ∧ w.heap.size ≤ w2.heap.size from hw3.out)
      have hj2 := Lib.hid (show j ≤ 2000 by omega)
      have kR : ∀ (x : NV) (bs : List Nat) (w3 : World), Turn g (g + 1) w2 w3 → Blk w3 g 76 (rdC p j) → NdO w3 w2.heap.size t x bs → Calls Try.prog 77 #[.pointer (some ⟨g, 0, none⟩), .agg x.C] w3 fun e w' => NdAns g p w3 w2.heap.size rr e w' := fun x bs w3 hT3 hP3 hO3 => by
        rw [← hrr.out]
        exact repeat_any g p j w2.heap.size t x bs w3 hP3 hj2.out hO3 hBq.out.2.1 hT3.size
      replace kR := Lib.hid kR
      clear hj
      cases rr with
      | fault e0 k0 =>
        go_wp2_with (first | (go_at_call 78; refine kS.mono ?_; rintro e w3 ⟨hT3, hP3, x, bs, rfl, hO3⟩; have hTq := hT2.trans hT3; have h4q := blk_turn h42 hT3 (by have := hwb.out; omega)) | (go_at_call 77; refine (kR.out x bs w3 hT3 hP3 hO3).mono ?_; rintro e wr ⟨hTr, hfe⟩; unfold faultE at hfe; subst hfe))
        rw [hr.out]
        exact ⟨rfl, hTq.trans hTr, rfl⟩
      | got u k =>
        go_wp2_with (first | (go_at_call 78; refine kS.mono ?_; rintro e w3 ⟨hT3, hP3, x, bs, rfl, hO3⟩; have hTq := hT2.trans hT3; have h4q := blk_turn h42 hT3 (by have := hwb.out; omega)) | (go_at_call 77; refine (kR.out x bs w3 hT3 hP3 hO3).mono ?_; rintro e wr ⟨hTr, hPr, x2, bs2, rfl, hO⟩; have h4r := blk_turn h4q hTr (by have := hwb.out; omega)) | (refine wl_store_nv rfl _ _ rfl g4 x2 rfl rfl _ rfl h4r ?_; intro wz hz hgz))
        refine ret_nv rfl rfl hz rfl ?_
        rw [hr.out]
        exact ⟨(hTq.trans hTr).grown hgz (fun q e => by injection e with e; have := hwb.out; right; omega), hPr.grown hgz (fun e => by injection e with e; have := hwb.out; omega), x2, bs2, rfl, (hO.mono hBq.out.2.2).keep (fun b hb => hgz.block b (hO.lt b hb).2 (fun e => by injection e with e; have := (hO.lt b hb).1; have := hBq.out; omega))⟩
  by_cases h46 : v.toNat = 46
  · skip
    have e94 : ((((v.toNat : Nat) : Int)) == 94) = false := beq_eq_false_iff_ne.2 (by omega)
    have e36 : ((((v.toNat : Nat) : Int)) == 36) = false := beq_eq_false_iff_ne.2 (by omega)
    have e42 : ((((v.toNat : Nat) : Int)) == 42) = false := beq_eq_false_iff_ne.2 (by omega)
    have e43 : ((((v.toNat : Nat) : Int)) == 43) = false := beq_eq_false_iff_ne.2 (by omega)
    have e63 : ((((v.toNat : Nat) : Int)) == 63) = false := beq_eq_false_iff_ne.2 (by omega)
    have e123 : ((((v.toNat : Nat) : Int)) == 123) = false := beq_eq_false_iff_ne.2 (by omega)
    have e40 : ((((v.toNat : Nat) : Int)) == 40) = false := beq_eq_false_iff_ne.2 (by omega)
    have e91 : ((((v.toNat : Nat) : Int)) == 91) = false := beq_eq_false_iff_ne.2 (by omega)
    have e46 : ((((v.toNat : Nat) : Int)) == 46) = true := beq_iff_eq.2 (by omega)
    have hR4 := hR3.out
    rw [if_neg h40, if_neg h91, if_pos h46] at hR4
    obtain ⟨rr, hrr⟩ : ∃ q, Ere.repeatR p (Ere.setN (notB 0)) (i + 1) = q := ⟨_, rfl⟩
    rw [hrr] at hR4
    have hr := Lib.hid hR4.symm
    clear hR4
    replace hrr := Lib.hid hrr
    have hBq := Lib.hid (show g4 < w2.heap.size ∧ g < w2.heap.size ∧ w.heap.size ≤ w2.heap.size from hw3.out)
    have kR : ∀ (w3 : World), Below w2.heap.size w2 w3 → Calls Try.prog 77 #[.pointer (some ⟨g, 0, none⟩), .agg (NV.mk 2 (notB 0 &&& notB 0) none 0 0 0 0).C] w3 fun e w' => NdAns g p w3 w2.heap.size rr e w' := fun w3 hB3 => by
      rw [← hrr.out]
      exact repeat_any g p (i + 1) w2.heap.size (Ere.setN (notB 0)) _ [] w3 (blk_then hP2 hB3) (by omega) (NdO.leaf _ _ _ _ _ _) hBq.out.2.1 hB3.size
    replace kR := Lib.hid kR
    have kN := not_any 0 w2
    cases rr with
    | fault e0 k0 =>
      go_wp2_with (first | (refine wl_build_set0 rfl rfl ?_) | (go_at_call 80; refine kN.mono ?_; rintro e w3 ⟨rfl, hB3⟩) | (go_at_call 79; refine (nset_any (notB 0) w3).mono ?_; rintro e w5 ⟨rfl, hB5⟩; have hB53 := below_then hB3 hB5; have hTq := hT2.then_ hB53; have h4q := blk_then h42 hB53) | (go_at_call 77; refine (kR.out w5 hB53).mono ?_; rintro e wr ⟨hTr, hfe⟩; unfold faultE at hfe; subst hfe))
      rw [hr.out]
      exact ⟨rfl, hTq.trans hTr, rfl⟩
    | got u k =>
      go_wp2_with (first | (refine wl_build_set0 rfl rfl ?_) | (go_at_call 80; refine kN.mono ?_; rintro e w3 ⟨rfl, hB3⟩) | (go_at_call 79; refine (nset_any (notB 0) w3).mono ?_; rintro e w5 ⟨rfl, hB5⟩; have hB53 := below_then hB3 hB5; have hTq := hT2.then_ hB53; have h4q := blk_then h42 hB53) | (go_at_call 77; refine (kR.out w5 hB53).mono ?_; rintro e wr ⟨hTr, hPr, x2, bs2, rfl, hO⟩; have h4r := blk_turn h4q hTr (by have := hwb.out; omega)) | (refine wl_store_nv rfl _ _ rfl g4 x2 rfl rfl _ rfl h4r ?_; intro wz hz hgz))
      refine ret_nv rfl rfl hz rfl ?_
      rw [hr.out]
      exact ⟨(hTq.trans hTr).grown hgz (fun q e => by injection e with e; have := hwb.out; right; omega), hPr.grown hgz (fun e => by injection e with e; have := hwb.out; omega), x2, bs2, rfl, (hO.mono hBq.out.2.2).keep (fun b hb => hgz.block b (hO.lt b hb).2 (fun e => by injection e with e; have := (hO.lt b hb).1; have := hBq.out; omega))⟩
  have hR4 := hR3.out
  rw [if_neg h40, if_neg h91, if_neg h46] at hR4
  by_cases h92 : v.toNat = 92
  · skip
    have e94 : ((((v.toNat : Nat) : Int)) == 94) = false := beq_eq_false_iff_ne.2 (by omega)
    have e36 : ((((v.toNat : Nat) : Int)) == 36) = false := beq_eq_false_iff_ne.2 (by omega)
    have e42 : ((((v.toNat : Nat) : Int)) == 42) = false := beq_eq_false_iff_ne.2 (by omega)
    have e43 : ((((v.toNat : Nat) : Int)) == 43) = false := beq_eq_false_iff_ne.2 (by omega)
    have e63 : ((((v.toNat : Nat) : Int)) == 63) = false := beq_eq_false_iff_ne.2 (by omega)
    have e123 : ((((v.toNat : Nat) : Int)) == 123) = false := beq_eq_false_iff_ne.2 (by omega)
    have e40 : ((((v.toNat : Nat) : Int)) == 40) = false := beq_eq_false_iff_ne.2 (by omega)
    have e91 : ((((v.toNat : Nat) : Int)) == 91) = false := beq_eq_false_iff_ne.2 (by omega)
    have e46 : ((((v.toNat : Nat) : Int)) == 46) = false := beq_eq_false_iff_ne.2 (by omega)
    have e92 : ((((v.toNat : Nat) : Int)) == 92) = true := beq_iff_eq.2 (by omega)
    rw [if_pos h92] at hR4
    have kO1 := one_any g p ⟨#[46, 91, 93, 40, 41, 42, 43, 63, 123, 125, 124, 94, 36, 92, 47, 45]⟩ (i + 1) (i + 1) w2 hP2
    rw [show (List.map UInt8.toNat (⟨#[46, 91, 93, 40, 41, 42, 43, 63, 123, 125, 124, 94, 36, 92, 47, 45]⟩ : ByteArray).data.toList) = Ere.marks from rfl, show ((i + 1 : Nat) : Int) = (i : Int) + 1 from rfl] at kO1
    obtain ⟨bo, hbo⟩ : ∃ b, Ere.oneOf p (i + 1) Ere.marks = b := ⟨_, rfl⟩
    rw [hbo] at kO1 hR4
    have c1 : w2.cell? ⟨g, 1, none⟩ = some (.int .i64 ((i : Int) + 1)) := hP2.cellv (by simp [rdC])
    cases bo with
    | false =>
      have hr := Lib.hid (show r = .fault 46 i by rw [← hR4]; simp)
      clear hR4 hbo
      go_wp2_with (first | (go_at_call 81; refine kO1.mono ?_; rintro e w5 ⟨rfl, hB5⟩) | (go_at_call 40; refine (give_any 46 i _).mono ?_; rintro e w9 ⟨hfe, hB9⟩; unfold faultE at hfe; subst hfe))
      rw [hr.out]
      exact ⟨rfl, (hT2.then_ hB5).then_ hB9, rfl⟩
    | true =>
      have hi1 : i + 1 < p.size := by
        unfold Ere.oneOf at hbo
        simp only [Bool.and_eq_true, decide_eq_true_eq] at hbo
        exact hbo.1
      rw [if_pos rfl] at hR4
      have hch2 : Ere.chr p (i + 1) = p[i + 1].toNat := by unfold Ere.chr; rw [dif_pos hi1]
      rw [hch2] at hR4
      obtain ⟨j, hj⟩ : ∃ j, j = i + 1 := ⟨_, rfl⟩
      have hij : (i : Int) + 1 = (j : Int) := by omega
      have hj2 : i + 2 = j + 1 := by omega
      have hjl : j < p.size := by omega
      have hpj : p[i + 1] = p[j]'hjl := by congr 1; exact hj.symm
      rw [hj2, hpj] at hR4
      rw [hij] at c1 kO1
      rw [← hj] at hP2
      have hjI : (j : Int) < p.size := by omega
      have hj0 : ¬ (j : Int) < 0 := by omega
      obtain ⟨v2, hv2⟩ : ∃ v, p[j] = v := ⟨_, rfl⟩
      rw [hv2] at hR4
      replace hv2 := Lib.hid hv2
      replace hij := Lib.hid hij
      clear hbo hch2 hj hj2 hpj
      obtain ⟨rr, hrr⟩ : ∃ q, Ere.repeatR p (Ere.setN (bit v2.toNat)) (j + 1) = q := ⟨_, rfl⟩
      rw [hrr] at hR4
      replace hR4 := Lib.hid hR4
      go_upto_region 27 with (fail)
      rw [hij.out]
      go_upto_region 29 with (go_at_call 81; refine kO1.mono ?_; rintro e w5 ⟨rfl, hB5⟩)
      have hT5 := hT2.then_ hB5
      have hP5 := blk_then hP2 hB5
      have h45 := blk_then h42 hB5
      have hs5 := Lib.hid hB5.size
      clear hT2 hP2 h42 hB5 kO1 c1 hM2
      have c1 : w5.cell? ⟨g, 1, none⟩ = some (.int .i64 (j : Int)) := hP5.cellv rfl
      have f1 := hP5.frozen 1
      go_upto_region 31 with (fail)
      have hP2 := setRd hP5 (v := .int .i64 ((j : Int) + 1)) (j := j + 1) (by congr 1)
      have hT2 := turnRd hT5 1 (.int .i64 ((j : Int) + 1))
      have h42 := h45.far (p := ⟨g, 1, none⟩) (by have := hwb.out; simp; omega) (.int .i64 ((j : Int) + 1))
      obtain ⟨w8, hw8⟩ : ∃ y, y = w5.setCell ⟨g, 1, none⟩ (.int .i64 ((j : Int) + 1)) := ⟨_, rfl⟩
      have hs8 : w8.heap.size = w5.heap.size := by rw [hw8]; simp [World.setCell]
      rw [← hw8] at hP2 hT2 h42 ⊢
      have hw3b := Lib.hid (show g4 < w8.heap.size ∧ g < w8.heap.size ∧ w.heap.size ≤ w8.heap.size by have := hw3.out; have := hs5.out; omega)
      clear hw8 hs8 hs5 c1 f1 hP5 hT5 h45 hw3 hR hR3
      replace hR4 := hR4.out
      have hr := Lib.hid hR4.symm
      clear hR4
      replace hrr := Lib.hid hrr
      have hBq := Lib.hid (show g4 < w8.heap.size ∧ g < w8.heap.size ∧ w.heap.size ≤ w8.heap.size from hw3b.out)
      have kR : ∀ (w3 : World), Below w8.heap.size w8 w3 → Calls Try.prog 77 #[.pointer (some ⟨g, 0, none⟩), .agg (NV.mk 2 (bit v2.toNat &&& notB 0) none 0 0 0 0).C] w3 fun e w' => NdAns g p w3 w8.heap.size rr e w' := fun w3 hB3 => by
        rw [← hrr.out]
        exact repeat_any g p (j + 1) w8.heap.size (Ere.setN (bit v2.toNat)) _ [] w3 (blk_then hP2 hB3) (by omega) (NdO.leaf _ _ _ _ _ _) hBq.out.2.1 hB3.size
      replace kR := Lib.hid kR
      have kO := of_any (some ⟨w8.heap.size, 0, none⟩) 1 1 [v2] (w8.alloc (.cells #[.int .u8 (((v2).toNat : Nat) : Int)] 5)) rfl (by unfold maxLen; omega) (bytes_of_blk (l := [v2]) (Blk.new w8 5 #[.int .u8 (((v2).toNat : Nat) : Int)]))
      rw [ofB_one] at kO
      have hBo := Lib.hid (below_alloc (Below.refl w8.heap.size w8) (.cells #[.int .u8 (((v2).toNat : Nat) : Int)] 5))
      have c0 : w8.cell? ⟨g, 0, none⟩ = some (.string p) := hP2.cellv rfl
      have hv2q := hv2.out
      cases rr with
      | fault e0 k0 =>
        go_wp2_with (first | (go_at_call 82; refine kO.mono ?_; rintro e w3 ⟨rfl, hB3⟩; have hB30 := below_then hBo.out hB3) | (go_at_call 79; refine (nset_any (bit (v2).toNat) w3).mono ?_; rintro e w5 ⟨rfl, hB5⟩; have hB53 := below_then hB30 hB5; have hTq := hT2.then_ hB53; have h4q := blk_then h42 hB53) | (go_at_call 77; refine (kR.out w5 hB53).mono ?_; rintro e wr ⟨hTr, hfe⟩; unfold faultE at hfe; subst hfe))
        rw [hr.out]
        exact ⟨rfl, hTq.trans hTr, rfl⟩
      | got u k =>
        go_wp2_with (first | (go_at_call 82; refine kO.mono ?_; rintro e w3 ⟨rfl, hB3⟩; have hB30 := below_then hBo.out hB3) | (go_at_call 79; refine (nset_any (bit (v2).toNat) w3).mono ?_; rintro e w5 ⟨rfl, hB5⟩; have hB53 := below_then hB30 hB5; have hTq := hT2.then_ hB53; have h4q := blk_then h42 hB53) | (go_at_call 77; refine (kR.out w5 hB53).mono ?_; rintro e wr ⟨hTr, hPr, x2, bs2, rfl, hO⟩; have h4r := blk_turn h4q hTr (by have := hwb.out; omega)) | (refine wl_store_nv rfl _ _ rfl g4 x2 rfl rfl _ rfl h4r ?_; intro wz hz hgz))
        refine ret_nv rfl rfl hz rfl ?_
        rw [hr.out]
        exact ⟨(hTq.trans hTr).grown hgz (fun q e => by injection e with e; have := hwb.out; right; omega), hPr.grown hgz (fun e => by injection e with e; have := hwb.out; omega), x2, bs2, rfl, (hO.mono hBq.out.2.2).keep (fun b hb => hgz.block b (hO.lt b hb).2 (fun e => by injection e with e; have := (hO.lt b hb).1; have := hBq.out; omega))⟩
  have e94 : ((((v.toNat : Nat) : Int)) == 94) = false := beq_eq_false_iff_ne.2 (by omega)
  have e36 : ((((v.toNat : Nat) : Int)) == 36) = false := beq_eq_false_iff_ne.2 (by omega)
  have e42 : ((((v.toNat : Nat) : Int)) == 42) = false := beq_eq_false_iff_ne.2 (by omega)
  have e43 : ((((v.toNat : Nat) : Int)) == 43) = false := beq_eq_false_iff_ne.2 (by omega)
  have e63 : ((((v.toNat : Nat) : Int)) == 63) = false := beq_eq_false_iff_ne.2 (by omega)
  have e123 : ((((v.toNat : Nat) : Int)) == 123) = false := beq_eq_false_iff_ne.2 (by omega)
  have e40 : ((((v.toNat : Nat) : Int)) == 40) = false := beq_eq_false_iff_ne.2 (by omega)
  have e91 : ((((v.toNat : Nat) : Int)) == 91) = false := beq_eq_false_iff_ne.2 (by omega)
  have e46 : ((((v.toNat : Nat) : Int)) == 46) = false := beq_eq_false_iff_ne.2 (by omega)
  have e92 : ((((v.toNat : Nat) : Int)) == 92) = false := beq_eq_false_iff_ne.2 (by omega)
  rw [if_neg h92] at hR4
  obtain ⟨rr, hrr⟩ : ∃ q, Ere.repeatR p (Ere.setN (bit v.toNat)) (i + 1) = q := ⟨_, rfl⟩
  rw [hrr] at hR4
  have hr := Lib.hid hR4.symm
  clear hR4
  replace hrr := Lib.hid hrr
  have hBq := Lib.hid (show g4 < w2.heap.size ∧ g < w2.heap.size ∧ w.heap.size ≤ w2.heap.size from hw3.out)
  have kR : ∀ (w3 : World), Below w2.heap.size w2 w3 → Calls Try.prog 77 #[.pointer (some ⟨g, 0, none⟩), .agg (NV.mk 2 (bit v.toNat &&& notB 0) none 0 0 0 0).C] w3 fun e w' => NdAns g p w3 w2.heap.size rr e w' := fun w3 hB3 => by
    rw [← hrr.out]
    exact repeat_any g p (i + 1) w2.heap.size (Ere.setN (bit v.toNat)) _ [] w3 (blk_then hP2 hB3) (by omega) (NdO.leaf _ _ _ _ _ _) hBq.out.2.1 hB3.size
  replace kR := Lib.hid kR
  have kO := of_any (some ⟨w2.heap.size, 0, none⟩) 1 1 [v] (w2.alloc (.cells #[.int .u8 (((v).toNat : Nat) : Int)] 5)) rfl (by unfold maxLen; omega) (bytes_of_blk (l := [v]) (Blk.new w2 5 #[.int .u8 (((v).toNat : Nat) : Int)]))
  rw [ofB_one] at kO
  have hBo := Lib.hid (below_alloc (Below.refl w2.heap.size w2) (.cells #[.int .u8 (((v).toNat : Nat) : Int)] 5))
  have c0 : w2.cell? ⟨g, 0, none⟩ = some (.string p) := hP2.cellv rfl
  have hvq := hv.out
  cases rr with
  | fault e0 k0 =>
    go_wp2_with (first | (go_at_call 82; refine kO.mono ?_; rintro e w3 ⟨rfl, hB3⟩; have hB30 := below_then hBo.out hB3) | (go_at_call 79; refine (nset_any (bit (v).toNat) w3).mono ?_; rintro e w5 ⟨rfl, hB5⟩; have hB53 := below_then hB30 hB5; have hTq := hT2.then_ hB53; have h4q := blk_then h42 hB53) | (go_at_call 77; refine (kR.out w5 hB53).mono ?_; rintro e wr ⟨hTr, hfe⟩; unfold faultE at hfe; subst hfe))
    rw [hr.out]
    exact ⟨rfl, hTq.trans hTr, rfl⟩
  | got u k =>
    go_wp2_with (first | (go_at_call 82; refine kO.mono ?_; rintro e w3 ⟨rfl, hB3⟩; have hB30 := below_then hBo.out hB3) | (go_at_call 79; refine (nset_any (bit (v).toNat) w3).mono ?_; rintro e w5 ⟨rfl, hB5⟩; have hB53 := below_then hB30 hB5; have hTq := hT2.then_ hB53; have h4q := blk_then h42 hB53) | (go_at_call 77; refine (kR.out w5 hB53).mono ?_; rintro e wr ⟨hTr, hPr, x2, bs2, rfl, hO⟩; have h4r := blk_turn h4q hTr (by have := hwb.out; omega)) | (refine wl_store_nv rfl _ _ rfl g4 x2 rfl rfl _ rfl h4r ?_; intro wz hz hgz))
    refine ret_nv rfl rfl hz rfl ?_
    rw [hr.out]
    exact ⟨(hTq.trans hTr).grown hgz (fun q e => by injection e with e; have := hwb.out; right; omega), hPr.grown hgz (fun e => by injection e with e; have := hwb.out; omega), x2, bs2, rfl, (hO.mono hBq.out.2.2).keep (fun b hb => hgz.block b (hO.lt b hb).2 (fun e => by injection e with e; have := (hO.lt b hb).1; have := hBq.out; omega))⟩
end Go.Proofs.Ytajainmldcnaeaa
namespace Go.Proofs.Ytajainmldcnaeaa
open Go.RowKit Go.Maps
set_option linter.unusedVariables false
set_option linter.unusedSimpArgs false
attribute [local go_sem] Oper.semAt_some

namespace Ere
theorem altR_fwd {p : ByteArray} {top : Bool} {pc : Nat → Res Nd} (hpc : ∀ i t j, i < p.size → pc i = .got t j → i < j ∧ j ≤ p.size) : ∀ n i l t j, i ≤ p.size → altR p top pc n i l = .got t j → i ≤ j ∧ j ≤ p.size
  | 0, _, _, _, _, _, h => by cases h
  | n + 1, i, l, t, j, hi, h => by
    unfold altR at h
    split at h
    · injection h with _ h; omega
    · rename_i h1
      simp only [Bool.or_eq_true, decide_eq_true_eq, not_or] at h1
      split at h
      · split at h
        · cases h
        · injection h with _ h; omega
      · cases hc : pc i with
        | fault e k => rw [hc] at h; cases h
        | got u k =>
          rw [hc] at h
          have h2 := hpc i u k (by omega) hc
          have h3 := altR_fwd hpc n k (l ++ [u]) t j h2.2 h
          omega
theorem patL_fwd {p : ByteArray} {al : Nat → Res Nd} (hal : ∀ i t j, i ≤ p.size → al i = .got t j → i ≤ j ∧ j ≤ p.size) : ∀ n i l t j, i ≤ p.size → patL p al n i l = .got t j → i ≤ j ∧ j ≤ p.size
  | 0, _, _, _, _, _, h => by cases h
  | n + 1, i, l, t, j, hi, h => by
    unfold patL at h
    cases hc : al i with
    | fault e k => rw [hc] at h; cases h
    | got u k =>
      rw [hc] at h
      simp only [Res.bind] at h
      have h2 := hal i u k hi hc
      split at h
      · rename_i h4
        have := isAt_lt h4
        have h3 := patL_fwd hal n (k + 1) (l ++ [u]) t j (by omega) h
        omega
      · injection h with _ h
        omega
theorem patR_fwd {p : ByteArray} : ∀ n i t j, i ≤ p.size → patR p n i = .got t j → i ≤ j ∧ j ≤ p.size
  | 0, i, t, j, hi, h => by
    unfold patR at h
    exact patL_fwd (fun i t j hi h => altR_fwd (fun i t j hi h => pieceR_fwd (fun f e => by cases e) h hi) _ _ _ _ _ hi h) _ _ _ _ _ hi h
  | n + 1, i, t, j, hi, h => by
    unfold patR at h
    exact patL_fwd (fun i t j hi h => altR_fwd (fun i t j hi h => pieceR_fwd (fun f e => by injection e with e; subst e; exact fun i t j hi h => patR_fwd n i t j hi h) h hi) _ _ _ _ _ hi h) _ _ _ _ _ hi h
end Ere
def slLen (v : Value) : Nat := match v with
  | .slice _ n _ => n
  | _ => 0
theorem Mx.grown {w w' : World} {row : Option Nat} (h : Mx w) (hg : w.grownBy w' row) (h0 : row ≠ some 0) : Mx w' := by
  obtain ⟨m, hm⟩ := h
  have h1 : 0 < w.heap.size := by
    rcases Nat.eq_zero_or_pos w.heap.size with e | e
    · unfold World.cell? at hm
      simp [Array.getElem?_eq_none (show w.heap.size ≤ 0 by omega)] at hm
    · exact e
  exact ⟨m, (World.cell?_of_block (w := w) (hg.block 0 h1 (fun e => h0 e.symm))).trans hm⟩
set_option maxRecDepth 100000 in
set_option maxHeartbeats 8000000 in
theorem alt_any (n gr : Nat) (hgr : gr + n = 64) (inner : Option (Nat → Ere.Res Nd)) (g : Nat) (p : ByteArray) (i : Nat) (hin : match n with
      | 0 => inner = none
      | n + 1 => PatOk p n ∧ inner = some (Ere.patR p n) ∧ ∀ i t j, i ≤ p.size → Ere.patR p n i = .got t j → i ≤ j ∧ j ≤ p.size) (w : World) (hP : Blk w g 76 (rdC p i)) (hi : i ≤ p.size) (hp : p.size ≤ 1024) (hM : Mx w) (h0 : 0 < g) :
    Calls Try.prog 56 #[.pointer (some ⟨g, 0, none⟩), .int .i64 (gr : Int)] w fun e w' => NdAns g p w w.heap.size (Ere.altR p (decide (gr = 0)) (Ere.pieceR p inner) (p.size + 2) i []) e w' := by
  obtain ⟨r, hr0⟩ : ∃ r, Ere.altR p (decide (gr = 0)) (Ere.pieceR p inner) (p.size + 2) i [] = r := ⟨_, rfl⟩
  rw [hr0]
  have hinf : ∀ f, inner = some f → ∀ i t j, i ≤ p.size → f i = .got t j → i ≤ j ∧ j ≤ p.size := by
    intro f hf
    cases n with
    | zero => rw [hin] at hf; cases hf
    | succ n => rw [hin.2.1] at hf; injection hf with hf; subst hf; exact hin.2.2
  have kPc := fun (i : Nat) (w : World) (hP : Blk w g 76 (rdC p i)) (hi : i < p.size) (hM : Mx w) => piece_any n gr hgr inner g p i hin w hP hi hp hM h0
  have hfwp := fun (i : Nat) (t : Nd) (j : Nat) (hi : i < p.size) (h : Ere.pieceR p inner i = .got t j) => Ere.pieceR_fwd hinf h hi
  obtain ⟨pc, hpc⟩ : ∃ f, Ere.pieceR p inner = f := ⟨_, rfl⟩
  rw [hpc] at hr0 kPc hfwp
  clear hpc hinf hin
  have hT := Turn.refl g (g + 1) w
  have hgl := Lib.hid hP.lt
  have hpI : (p.size : Int) ≤ 1024 := by omega
  have hgI : (gr : Int) ≤ 64 := by omega
  replace hr0 := Lib.hid hr0
  replace kPc := Lib.hid kPc
  replace hfwp := Lib.hid hfwp
  replace hgr := Lib.hid hgr
  go_enter Try.func56, Try.ntmps56
  have h4 : Blk (w.alloc (.cells zeroC 27)) w.heap.size 27 zeroC := Blk.new' _ _ _ rfl
  have hB1 : Below w.heap.size w (w.alloc (.cells zeroC 27)) := below_alloc (Below.refl _ _) _
  unfold zeroC at h4 hB1
  go_upto_region 1 with (fail)
  obtain ⟨w1, hw1⟩ : ∃ y, y = w.alloc (.cells zeroC 27) := ⟨_, rfl⟩
  unfold zeroC at hw1
  rw [← hw1] at h4 hB1 ⊢
  clear hw1
  replace hP := blk_then hP hB1
  replace hT := hT.then_ hB1
  replace hM := hM.then_ hB1
  have h4l := h4.lt
  obtain ⟨g4, hg4e⟩ : ∃ y, y = w.heap.size := ⟨_, rfl⟩
  obtain ⟨B, hBe⟩ : ∃ y, y = w1.heap.size := ⟨_, rfl⟩
  have hwb := Lib.hid (show w.heap.size ≤ g4 ∧ g4 ≠ g ∧ 0 < g ∧ g < w.heap.size ∧ g4 < B ∧ g < B ∧ w.heap.size ≤ B ∧ 0 < B by have := hgl.out; have := hB1.size; omega)
  have hBw : B ≤ w1.heap.size := by omega
  rw [← hg4e] at h4 ⊢
  clear hg4e h0 h4l hB1 hBe
  go_wp2_with (fail)
  go_loopw [5] (fun lv wr => ∃ (A : Option Addr) (n c : Nat) (l : List Nd) (cl : List NV) (bl : List (List Nat)) (j : Nat), lv = .slice A n c ∧ NdL wr B A n c l cl bl ∧ B ≤ wr.heap.size ∧ n ≤ j ∧ j ≤ p.size ∧ Turn g (g + 1) w wr ∧ Mx wr ∧ Blk wr g 76 (rdC p j) ∧ Blk wr g4 27 #[.int .i64 0, .int .u64 0, .int .u64 0, .int .u64 0, .int .u64 0, .slice none 0 0, .int .i64 0, .int .i64 0] ∧ r = Ere.altR p (decide (gr = 0)) pc (p.size + 2 - n) j l) (fun lv _ => p.size + 2 - slLen lv)
  case atStart => exact ⟨none, 0, 0, [], [], [], i, rfl, NdL.nil_ _ _, hBw, by omega, hi, hT, hM, hP, h4, hr0.out.symm⟩
  case round =>
    clear hT hM hP h4 hBw
    obtain ⟨A, n, c, l, cl, bl, j, rfl, hL, hBw, hnj, hjp, hT, hM, hP, h4, hit⟩ := hrel
    have hfu : p.size + 2 - n = (p.size + 2 - (n + 1)) + 1 := by omega
    rw [hfu] at hit
    unfold Ere.altR at hit
    obtain ⟨b124, b124_e⟩ : ∃ b, Ere.isAt p j 124 = b := ⟨_, rfl⟩
    obtain ⟨b41, b41_e⟩ : ∃ b, Ere.isAt p j 41 = b := ⟨_, rfl⟩
    rw [b124_e, b41_e] at hit
    replace hit := Lib.hid hit
    replace hfu := Lib.hid hfu
    replace b124_e := Lib.hid b124_e
    replace b41_e := Lib.hid b41_e
    have hnj2 := Lib.hid hnj
    have hnn := Lib.hid hL.hn
    clear hnj
    have kM := more_any g p j wr hP
    have hjI : (j : Int) ≤ 1024 := by omega
    by_cases hjs : p.size ≤ j
    · rw [decide_eq_false (by omega)] at kM
      have hr := Lib.hid (show r = .got (Ere.someN 3 l) j by rw [hit.out, decide_eq_true hjs]; simp)
      go_upto_region 7 with (go_at_call 66; refine kM.mono ?_; rintro e wx ⟨rfl, hBx⟩)
      replace hL := hL.then_ hBx
      have hTx := hT.then_ hBx
      have hPx := blk_then hP hBx
      have h4x := blk_then h4 hBx
      have kS := some_any 3 wx hL
      clear hL hT hP h4 hBx kM
      go_wp2_with (first | (go_at_call 58; refine kS.mono ?_; rintro e w8 ⟨hB8, x, bs, rfl, hO⟩; have h48 := blk_then h4x hB8) | (refine wl_store_nv rfl _ _ rfl g4 x rfl rfl _ rfl h48 ?_; intro wz hz hgz))
      refine ret_nv rfl rfl hz rfl ?_
      rw [hr.out]
      exact ⟨(hTx.then_ hB8).grown hgz (fun q e => by injection e with e; have := hwb.out; right; omega), (blk_then hPx hB8).grown hgz (fun e => by injection e with e; have := hwb.out; omega), x, bs, rfl, (hO.mono hwb.out.2.2.2.2.2.2.1).keep (fun b hb => hgz.block b (hO.lt b hb).2 (fun e => by injection e with e; have := (hO.lt b hb).1; have := hwb.out; omega))⟩
    · rw [decide_eq_true (by omega)] at kM
      have hjs2 := Lib.hid hjs
      have hit2 := hit.out
      rw [decide_eq_false hjs] at hit2
      simp only [Bool.false_or] at hit2
      clear hit hjs
      go_upto_region 2 with (fail)
      have k124 : ∀ w2, Below wr.heap.size wr w2 → Calls Try.prog 57 #[.pointer (some ⟨g, 0, none⟩), .int .i64 (j : Int), .int .u8 124] w2 fun e w' => e = .returned (.bool b124) ∧ Below w2.heap.size w2 w' := fun w2 hB => is_at g p j j 124 124 w2 (blk_then hP hB) rfl b124_e.out
      have hc1 : ∀ w2, Below wr.heap.size wr w2 → w2.cell? ⟨g, 1, none⟩ = some (.int .i64 (j : Int)) := fun w2 hB => (blk_then hP hB).cellv rfl
      replace k124 := Lib.hid k124
      replace hc1 := Lib.hid hc1
      cases b124 with
      | true =>
        have hr := Lib.hid (show r = .got (Ere.someN 3 l) j by rw [hit2]; simp)
        go_upto_region 7 with (first | (go_at_call 66; refine kM.mono ?_; rintro e w2 ⟨rfl, hB2⟩; have c1 := hc1.out w2 hB2) | (go_at_call 57; refine (k124.out w2 hB2).mono ?_; rintro e wx ⟨rfl, hBx0⟩; have hBx := below_then hB2 hBx0))
        clear c1
        replace hL := hL.then_ hBx
        have hTx := hT.then_ hBx
        have hPx := blk_then hP hBx
        have h4x := blk_then h4 hBx
        have kS := some_any 3 wx hL
        clear hL hT hP h4 hBx kM
        go_wp2_with (first | (go_at_call 58; refine kS.mono ?_; rintro e w8 ⟨hB8, x, bs, rfl, hO⟩; have h48 := blk_then h4x hB8) | (refine wl_store_nv rfl _ _ rfl g4 x rfl rfl _ rfl h48 ?_; intro wz hz hgz))
        refine ret_nv rfl rfl hz rfl ?_
        rw [hr.out]
        exact ⟨(hTx.then_ hB8).grown hgz (fun q e => by injection e with e; have := hwb.out; right; omega), (blk_then hPx hB8).grown hgz (fun e => by injection e with e; have := hwb.out; omega), x, bs, rfl, (hO.mono hwb.out.2.2.2.2.2.2.1).keep (fun b hb => hgz.block b (hO.lt b hb).2 (fun e => by injection e with e; have := (hO.lt b hb).1; have := hwb.out; omega))⟩
      | false =>
        simp only [Bool.false_eq_true, if_false] at hit2
        go_upto_region 3 with (first | (go_at_call 66; refine kM.mono ?_; rintro e w2 ⟨rfl, hB2⟩; have c1 := hc1.out w2 hB2) | (go_at_call 57; refine (k124.out w2 hB2).mono ?_; rintro e w3 ⟨rfl, hB30⟩; have hB3 := below_then hB2 hB30))
        clear c1 k124 kM
        have c1 := hc1.out w3 hB3
        have k41 := is_at g p j j 41 41 w3 (blk_then hP hB3) rfl b41_e.out
        cases b41 with
        | true =>
          rw [if_pos rfl] at hit2
          by_cases hg0 : gr = 0
          · subst hg0
            have hr := Lib.hid (show r = .fault 42 j by rw [hit2]; simp)
            go_wp2_with (first | (go_at_call 57; refine k41.mono ?_; rintro e w4 ⟨rfl, hB40⟩; have hB4 := below_then hB3 hB40; have c2 := hc1.out w4 hB4) | (go_at_call 40; refine (give_any 42 j _).mono ?_; rintro e w9 ⟨hfe, hB9⟩; unfold faultE at hfe; subst hfe))
            rw [hr.out]
            exact ⟨rfl, (hT.then_ hB4).then_ hB9, rfl⟩
          · have hg0I : ((gr : Int) == 0) = false := beq_eq_false_iff_ne.2 (by omega)
            have hr := Lib.hid (show r = .got (Ere.someN 3 l) j by rw [hit2, decide_eq_false hg0]; simp)
            go_upto_region 7 with (go_at_call 57; refine k41.mono ?_; rintro e wx ⟨rfl, hBx0⟩; have hBx := below_then hB3 hBx0)
            clear c1
            replace hL := hL.then_ hBx
            have hTx := hT.then_ hBx
            have hPx := blk_then hP hBx
            have h4x := blk_then h4 hBx
            have kS := some_any 3 wx hL
            clear hL hT hP h4 hBx
            go_wp2_with (first | (go_at_call 58; refine kS.mono ?_; rintro e w8 ⟨hB8, x, bs, rfl, hO⟩; have h48 := blk_then h4x hB8) | (refine wl_store_nv rfl _ _ rfl g4 x rfl rfl _ rfl h48 ?_; intro wz hz hgz))
            refine ret_nv rfl rfl hz rfl ?_
            rw [hr.out]
            exact ⟨(hTx.then_ hB8).grown hgz (fun q e => by injection e with e; have := hwb.out; right; omega), (blk_then hPx hB8).grown hgz (fun e => by injection e with e; have := hwb.out; omega), x, bs, rfl, (hO.mono hwb.out.2.2.2.2.2.2.1).keep (fun b hb => hgz.block b (hO.lt b hb).2 (fun e => by injection e with e; have := (hO.lt b hb).1; have := hwb.out; omega))⟩
        | false =>
          simp only [Bool.false_eq_true, if_false] at hit2
          go_upto_region 6 with (go_at_call 57; refine k41.mono ?_; rintro e w4 ⟨rfl, hB40⟩)
          have hB4 := below_then hB3 hB40
          clear c1 hB40 k41
          replace hT := hT.then_ hB4
          replace hM := hM.then_ hB4
          replace hP := blk_then hP hB4
          replace h4 := blk_then h4 hB4
          replace hL := hL.then_ hB4
          have hBw4 : B ≤ w4.heap.size := Nat.le_trans hBw hB4.size
          clear hB4 hB3 hB30 hB2 hBw hc1
          have kP := kPc.out j w4 hP (by have := hjs2.out; omega) hM
          have hfw := fun t k h => hfwp.out j t k (by have := hjs2.out; omega) h
          obtain ⟨rp, hrp⟩ : ∃ q, pc j = q := ⟨_, rfl⟩
          rw [hrp] at hit2 kP hfw
          replace hrp := Lib.hid hrp
          cases rp with
          | fault e0 k0 =>
            have hr := Lib.hid (show r = .fault e0 k0 by rw [hit2]; rfl)
            clear hit2 hfw
            go_wp2_with (go_at_call 67; refine kP.mono ?_; rintro e w9 ⟨hT9, hfe⟩; unfold faultE at hfe; subst hfe)
            rw [hr.out]
            exact ⟨rfl, hT.trans hT9, rfl⟩
          | got t k =>
            have hk := hfw t k rfl
            simp only [Ere.Res.bind] at hit2
            replace hit2 := Lib.hid hit2
            replace hk := Lib.hid hk
            clear hfw
            have hn9 := Lib.hid (show n ≤ 1000000 by have := hnj2.out; omega)
            have hLl := Lib.hid hL.lt
            replace hL := Lib.hid hL
            replace hBw4 := Lib.hid hBw4
            go_upto_region 6 with (fail)
            go_wp2_with (first
              | (go_at_call 67; refine kP.mono ?_; rintro e w5 ⟨hT5, hP5, x, bs, rfl, hO5⟩
                 have hs5 := Lib.hid hT5.size
                 have hL6 := Lib.hid ((hL.out.turn hT5 hwb.out.2.2.2.2.2.1).then_ (below_alloc (Below.refl w5.heap.size w5) (.cells x.C 27)))
                 have hO6 := Lib.hid ((hO5.mono hBw4.out).then_ (below_alloc (Below.refl w5.heap.size w5) (.cells x.C 27)))
                 have hdis := Lib.hid (show ∀ b ∈ bs, b ∉ ownL A ++ bl.flatten from fun b hb hb2 => by have := (hO5.lt b hb).1; have := (hLl.out b hb2).2; omega)
                 have hBa := Lib.hid (below_alloc (Below.refl w5.heap.size w5) (.cells x.C 27)))
              | (refine wl_build1n rfl _ rfl x rfl ?_)
              | (at_builtin; refine wl_pushN rfl _ _ rfl hL6.out hO6.out hdis.out rfl _ rfl (Blk.new w5 27 x.C) hn9.out (by have := hBw4.out; have := hs5.out; have := hBa.out.size; omega) ?_; intro A' c' w7 hL7 hg7))
            have hrow : ∀ q, (Value.slice A n c).ownBlock = some q → B ≤ q := fun q hq => (hLl.out q (List.mem_append_left _ (mem_ownL.2 hq))).1
            have hTz := ((hT.trans hT5).then_ hBa.out).grown hg7 (fun q e => by have := hrow q e; have := hwb.out; right; omega)
            have hMz := ((hM.turn hT5 hwb.out.2.2.1).then_ hBa.out).grown hg7 (fun e => by have := hrow 0 e; have := hwb.out; omega)
            have hPz := (blk_then hP5 hBa.out).grown hg7 (fun e => by have := hrow g e.symm; have := hwb.out; omega)
            have h4z := (blk_then (blk_turn h4 hT5 (by have := hwb.out; omega)) hBa.out).grown hg7 (fun e => by have := hrow g4 e.symm; have := hwb.out; omega)
            have hBz : B ≤ w7.heap.size := by have := hBw4.out; have := hs5.out; have := hBa.out.size; have := hg7.size; omega
            exact ⟨⟨A', n + 1, c', l ++ [t], cl ++ [x], bl ++ [bs], k, rfl, hL7, hBz, by have := hk.out; have := hnj2.out; omega, hk.out.2, hTz, hMz, hPz, h4z, hit2.out⟩, by simp only [slLen]; have := hfu.out; omega⟩
end Go.Proofs.Ytajainmldcnaeaa
