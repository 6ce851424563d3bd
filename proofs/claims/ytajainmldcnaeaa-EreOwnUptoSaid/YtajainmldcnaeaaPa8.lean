/- Part 8 of a proof; packed: the texts that it was made of follow one another. No condition beyond those named in each lemma. -/
import Derived.Test.YtajainmldcnaeaaPa7
namespace Go.Proofs.Ytajainmldcnaeaa
open Go.RowKit Go.Maps
set_option linter.unusedVariables false
set_option linter.unusedSimpArgs false
attribute [local go_sem] Oper.semAt_some

/-- what pattern answers where so many groups may be opened yet -/
def RPatOk (lo g : Nat) (p : ByteArray) (d : Nat) : Prop := ∀ (i n c : Nat) (A : Option Addr) (w : World), n + d = 64 → Blk w g 82 (rrC p i A n c 0 0) → OpenOk w lo A n c → lo ≤ w.heap.size → i ≤ p.size →
    Calls Try.prog 41 #[.pointer (some ⟨g, 0, none⟩)] w fun e w' => RtAns lo g p n w w.heap.size (Ere.patR p d i) e w'
theorem info_is1 : (Try.prog.info? 80).map (·.size) = some 1 := by kernel_rfl
theorem withB0 (a : Nat) : withB 0 a = bit a &&& notB 0 := by rw [withB_eq]; simp
theorem rrd_cell {g : Nat} {p : ByteArray} {i n c : Nat} {A : Option Addr} {w w' : World} (h : Blk w g 82 (rrC p i A n c 0 0)) (hB : Below w.heap.size w w') : w'.cell? ⟨g, 0, none⟩ = some (.string p) ∧ w'.cell? ⟨g, 0 + 1, none⟩ = some (.int .i64 (i : Int)) := ⟨(blk_then h hB).cellv rfl, (blk_then h hB).cellv rfl⟩
set_option maxRecDepth 100000 in
set_option maxHeartbeats 16000000 in
theorem ratom_any (lo g : Nat) (p : ByteArray) (i n c d b : Nat) (A : Option Addr) (inner : Option (Nat → Ere.Res Nd)) (hin : match d with
      | 0 => inner = none
      | d + 1 => RPatOk lo g p d ∧ inner = some (Ere.patR p d)) (hnd : n + d = 64) (w : World) (hP : Blk w g 82 (rrC p i A n c 0 0)) (hO : OpenOk w lo A n c) (hlo : lo ≤ w.heap.size) (hi : i < p.size) (hp : p.size ≤ 1024) (hb : Ere.chr p i = b) :
    Calls Try.prog 83 #[.pointer (some ⟨g, 0, none⟩), .int .u8 (b : Int)] w fun e w' => RtAns lo g p n w w.heap.size (Ere.atomR p inner i) e w' := by
  obtain ⟨r, hr0⟩ : ∃ r, Ere.atomR p inner i = r := ⟨_, rfl⟩
  rw [hr0]
  have hR := hr0
  unfold Ere.atomR at hR
  simp only [hb] at hR
  clear hr0
  have hb8 : b < 256 := by rw [← hb]; exact Ere.chr_lt p i
  replace hR := Lib.hid hR
  have hgl := Lib.hid hP.lt
  have hT := Turn.refl g (g + 1) w
  have hiI : (i : Int) < p.size := by omega
  have hpI : (p.size : Int) ≤ 1024 := by omega
  replace hin := Lib.hid hin
  replace hnd := Lib.hid hnd
  go_enter Try.func83, Try.ntmps83
  have h4 : Blk (w.alloc (.cells zeroC 27)) w.heap.size 27 zeroC := Blk.new' _ _ _ rfl
  have hB1 : Below w.heap.size w (w.alloc (.cells zeroC 27)) := below_alloc (Below.refl _ _) _
  unfold zeroC at h4 hB1
  go_upto_region 1 with (fail)
  obtain ⟨w1, hw1⟩ : ∃ y, y = w.alloc (.cells zeroC 27) := ⟨_, rfl⟩
  unfold zeroC at hw1
  rw [← hw1] at h4 hB1 ⊢
  clear hw1
  replace hP := blk_then hP hB1
  replace hO := hO.then_ hB1
  replace hT := hT.then_ hB1
  clear hB1
  obtain ⟨g4, hg4e⟩ : ∃ y, y = w.heap.size := ⟨_, rfl⟩
  have hwb := Lib.hid (show w.heap.size ≤ g4 ∧ g4 ≠ g ∧ g < w.heap.size ∧ g4 < w1.heap.size by have := hgl.out; have := h4.lt; omega)
  rw [← hg4e] at h4 ⊢
  clear hg4e
  have c1 : w1.cell? ⟨g, 1, none⟩ = some (.int .i64 (i : Int)) := hP.cellv rfl
  have f1 := hP.frozen 1
  go_upto_region 3 with (fail)
  have hP2 : Blk (w1.setCell ⟨g, 1, none⟩ (.int .i64 ((i : Int) + 1))) g 82 (rrC p (i + 1) A n c 0 0) := hP.set_ 1 (.int .i64 ((i : Int) + 1))
  have hT2 := turnRd hT 1 (.int .i64 ((i : Int) + 1))
  have hO2 := hO.turn hP (by decide) (turnRd (Turn.refl g (g + 1) w1) 1 (.int .i64 ((i : Int) + 1)))
  have h42 := h4.far (p := ⟨g, 1, none⟩) (by have := hwb.out; simp; omega) (.int .i64 ((i : Int) + 1))
  obtain ⟨w2, hw2⟩ : ∃ y, y = w1.setCell ⟨g, 1, none⟩ (.int .i64 ((i : Int) + 1)) := ⟨_, rfl⟩
  rw [← hw2] at hP2 hT2 hO2 h42 ⊢
  have hs2 := Lib.hid (show w.heap.size ≤ w2.heap.size ∧ g4 < w2.heap.size ∧ lo ≤ w2.heap.size by have := hT2.size; have := h42.lt; omega)
  clear hw2 c1 f1 hP hT hO h4
  have hlo2 := Lib.hid hlo
  by_cases h46 : b = 46
  · have e46 : ((b : Int) == 46) = true := beq_iff_eq.2 (by omega)
    have hr := Lib.hid (show r = .got (Ere.setN (notB 0)) (i + 1) by rw [← hR.out, if_neg (by omega), if_neg (by omega), if_pos h46])
    have kN := not4_any 0 w2
    have kS := fun W => rset4_any (notB 0) W
    go_wp2_with (first | (refine wl_build_set0 rfl rfl ?_) | (go_at_call 94; refine kN.mono ?_; rintro e w3 ⟨rfl, hB3⟩) | (go_at_call 93; refine (kS _).mono ?_; rintro e w5 ⟨rfl, hB5⟩; have h45 := blk_then (blk_then h42 hB3) hB5) | (refine wl_store_nv rfl _ _ rfl g4 (NV.mk 2 (notB 0) none 0 0 0 0) rfl rfl _ rfl h45 ?_; intro w7 h7 hg7))
    refine ret_nv rfl rfl h7 rfl ?_
    rw [hr.out]
    exact ⟨(TR.of_turn ((hT2.then_ hB3).then_ hB5)).grown hg7 (fun q e => by injection e with e; have := hwb.out; right; left; omega), ⟨A, c, (blk_then (blk_then hP2 hB3) hB5).grown hg7 (fun e => by injection e with e; have := hwb.out; omega), ((hO2.then_ hB3).then_ hB5).grown h45 (by decide) hg7⟩, _, [], rfl, by have := NdO.leaf w7 w.heap.size 2 (notB 0 &&& notB 0) 0 0; rw [BitVec.and_self] at this; unfold Ere.setN; rw [BitVec.and_self]; exact this⟩
  have e46 : ((b : Int) == 46) = false := beq_eq_false_iff_ne.2 (by omega)
  by_cases h92 : b = 92
  · have e92 : ((b : Int) == 92) = true := beq_iff_eq.2 (by omega)
    have hRp := hR.out
    rw [if_neg (by omega), if_neg (by omega), if_neg (by omega), if_pos h92] at hRp
    obtain ⟨bm, hbm0⟩ : ∃ v, decide (i + 1 < p.size) = v := ⟨_, rfl⟩
    obtain ⟨bc, hbc0⟩ : ∃ v, Ere.marks.contains (Ere.chr p (i + 1)) = v := ⟨_, rfl⟩
    have hone : Ere.oneOf p (i + 1) Ere.marks = (bm && bc) := by rw [← hbm0, ← hbc0]; rfl
    rw [hone] at hRp
    have hbm : (!bm) = false → i + 1 < p.size := fun h => by rw [← hbm0] at h; simpa using h
    have kM := fun W (hW : Blk W g 82 (rrC p (i + 1) A n c 0 0)) => rmore_at hW (i + 1) ((i + 1 : Nat) : Int) rfl hbm0
    have kC := marked_any (Ere.chr p (i + 1)) (Ere.chr_lt p (i + 1))
    rw [hbc0] at kC
    clear hbm0 hbc0 hone
    replace hbm := Lib.hid hbm
    replace hRp := Lib.hid hRp
    have hp1 := Lib.hid hp
    go_upto_region 7 with (fail)
    refine wp_region_steps 20 [eqS (.pointer (some ⟨g, 0, none⟩)), eqS (.pointer (some ⟨g, 0, none⟩)), eqS (.pointer (some ⟨g, 0, none⟩)), eqS (.pointer (some ⟨g, 1, none⟩)), eqS (.int .i64 (((i + 1 : Nat) : Int))), eqS (.bool bm), eqS (.bool (!bm)), eqS (.bool (!bm)), eqS (vF (true && ((!bm) == false)) (.pointer (some ⟨g, 0, none⟩))), eqS (vF (true && ((!bm) == false)) (.pointer (some ⟨g, 0, none⟩))), eqS (vF (true && ((!bm) == false)) (.pointer (some ⟨g, 0, none⟩))), eqS (vF (true && ((!bm) == false)) (.string p)), eqS (vF (true && ((!bm) == false)) (.pointer (some ⟨g, 0, none⟩))), eqS (vF (true && ((!bm) == false)) (.pointer (some ⟨g, 0, none⟩))), eqS (vF (true && ((!bm) == false)) (.pointer (some ⟨g, 1, none⟩))), eqS (vF (true && ((!bm) == false)) (.int .i64 (((i + 1 : Nat) : Int)))), eqS (vF (true && ((!bm) == false)) (.int .u8 (((Ere.chr p (i + 1) : Nat) : Int)))), eqS (vF (true && ((!bm) == false)) (.bool bc)), eqS (vF (true && ((!bm) == false)) (.bool (!bc))), eqS (.bool ((!bm) || (!bc)))] [26, 27, 28, 29, 30, 31, 32, 33, 34, 35, 36, 37, 38, 39, 40, 41, 42, 43, 44, 45] follows_mixed (by kernel_rfl) (by kernel_rfl) ?_ ?_
    · skip
      refine Steps.cons (fun a' w' hG hB dep => gs_move (want_none rfl) _ rfl (id (hG.other 0 rfl))) ?_
      refine Steps.cons (fun a' w' hG hB dep => gs_move (want_none rfl) _ rfl (id (hG.other 0 rfl))) ?_
      refine Steps.cons (fun a' w' hG hB dep => gs_nil (want_none rfl) _ rfl _ (dep 1 rfl 27 rfl) rfl) ?_
      refine Steps.cons (fun a' w' hG hB dep => gs_field (want_none rfl) _ _ _ rfl g (0) (1) (dep 2 rfl 28 rfl) (fun wz => field_rreader_1 g (0) wz) rfl) ?_
      refine Steps.cons (fun a' w' hG hB dep => gs_load1 (want_none rfl) _ _ rfl g (1) (dep 3 rfl 29 rfl) (.int .i64 (((i + 1 : Nat) : Int))) (rrd_cell hP2 hB).2 _ Try.underlying3 rfl rfl) ?_
      refine Steps.cons (fun a' w' hG hB dep => gs_call (want_none rfl) _ _ _ rfl enter_more4 #[.pointer (some ⟨g, 0, none⟩), .int .i64 (((i + 1 : Nat)) : Int)] (map2 (dep 0 rfl 26 rfl) (dep 4 rfl 30 rfl)) (same_step (kM _ (blk_then hP2 hB)) rfl)) ?_
      refine Steps.cons (fun a' w' hG hB dep => gs_not_bool (want_none rfl) _ _ rfl _ (dep 5 rfl 31 rfl) rfl) ?_
      refine Steps.cons (fun a' w' hG hB dep => gs_move (want_none rfl) _ rfl (id (dep 6 rfl 32 rfl))) ?_
      refine Steps.cons (fun a' w' hG hB dep => gs_guard (c := true) (b' := (!bm)) rfl rfl (dep 7 rfl 33 rfl) (fun hc he hw => gs_move hw _ rfl (Eq.trans (hG.other 0 rfl) (vF_yes (on_g hc he) _).symm)) (fun hn => vF_no hn _)) ?_
      refine Steps.cons (fun a' w' hG hB dep => gs_guard (c := true) (b' := (!bm)) rfl rfl (dep 7 rfl 33 rfl) (fun hc he hw => gs_nil hw _ rfl _ (Eq.trans (dep 8 rfl 34 rfl) (vF_yes (on_g hc he) _)) (vF_yes (on_g hc he) _).symm) (fun hn => vF_no hn _)) ?_
      refine Steps.cons (fun a' w' hG hB dep => gs_guard (c := true) (b' := (!bm)) rfl rfl (dep 7 rfl 33 rfl) (fun hc he hw => gs_field hw _ _ _ rfl g (0) (0) (Eq.trans (dep 9 rfl 35 rfl) (vF_yes (on_g hc he) _)) (fun wz => field_rreader_0 g (0) wz) (vF_yes (on_g hc he) _).symm) (fun hn => vF_no hn _)) ?_
      refine Steps.cons (fun a' w' hG hB dep => gs_guard (c := true) (b' := (!bm)) rfl rfl (dep 7 rfl 33 rfl) (fun hc he hw => gs_load1 hw _ _ rfl g (0) (Eq.trans (dep 10 rfl 36 rfl) (vF_yes (on_g hc he) _)) (.string p) (rrd_cell hP2 hB).1 _ Try.underlying9 rfl (vF_yes (on_g hc he) _).symm) (fun hn => vF_no hn _)) ?_
      refine Steps.cons (fun a' w' hG hB dep => gs_guard (c := true) (b' := (!bm)) rfl rfl (dep 7 rfl 33 rfl) (fun hc he hw => gs_move hw _ rfl (Eq.trans (hG.other 0 rfl) (vF_yes (on_g hc he) _).symm)) (fun hn => vF_no hn _)) ?_
      refine Steps.cons (fun a' w' hG hB dep => gs_guard (c := true) (b' := (!bm)) rfl rfl (dep 7 rfl 33 rfl) (fun hc he hw => gs_nil hw _ rfl _ (Eq.trans (dep 12 rfl 38 rfl) (vF_yes (on_g hc he) _)) (vF_yes (on_g hc he) _).symm) (fun hn => vF_no hn _)) ?_
      refine Steps.cons (fun a' w' hG hB dep => gs_guard (c := true) (b' := (!bm)) rfl rfl (dep 7 rfl 33 rfl) (fun hc he hw => gs_field hw _ _ _ rfl g (0) (1) (Eq.trans (dep 13 rfl 39 rfl) (vF_yes (on_g hc he) _)) (fun wz => field_rreader_1 g (0) wz) (vF_yes (on_g hc he) _).symm) (fun hn => vF_no hn _)) ?_
      refine Steps.cons (fun a' w' hG hB dep => gs_guard (c := true) (b' := (!bm)) rfl rfl (dep 7 rfl 33 rfl) (fun hc he hw => gs_load1 hw _ _ rfl g (1) (Eq.trans (dep 14 rfl 40 rfl) (vF_yes (on_g hc he) _)) (.int .i64 (((i + 1 : Nat) : Int))) (rrd_cell hP2 hB).2 _ Try.underlying3 rfl (vF_yes (on_g hc he) _).symm) (fun hn => vF_no hn _)) ?_
      refine Steps.cons (fun a' w' hG hB dep => gs_guard (c := true) (b' := (!bm)) rfl rfl (dep 7 rfl 33 rfl) (fun hc he hw => gs_index_str hw _ _ rfl p (i + 1) (Eq.trans (dep 11 rfl 37 rfl) (vF_yes (on_g hc he) _)) (Eq.trans (dep 15 rfl 41 rfl) (vF_yes (on_g hc he) _)) (hbm.out he) (vF_yes (on_g hc he) _).symm) (fun hn => vF_no hn _)) ?_
      refine Steps.cons (fun a' w' hG hB dep => gs_guard (c := true) (b' := (!bm)) rfl rfl (dep 7 rfl 33 rfl) (fun hc he hw => gs_call hw _ _ _ rfl enter_marked4 #[.int .u8 ((Ere.chr p (i + 1) : Nat) : Int)] (map1 (Eq.trans (dep 16 rfl 42 rfl) (vF_yes (on_g hc he) _))) (same_step (kC _) (vF_yes (on_g hc he) _).symm)) (fun hn => vF_no hn _)) ?_
      refine Steps.cons (fun a' w' hG hB dep => gs_guard (c := true) (b' := (!bm)) rfl rfl (dep 7 rfl 33 rfl) (fun hc he hw => gs_not_bool hw _ _ rfl _ (Eq.trans (dep 17 rfl 43 rfl) (vF_yes (on_g hc he) _)) (vF_yes (on_g hc he) _).symm) (fun hn => vF_no hn _)) ?_
      refine Steps.cons (fun a' w' hG hB dep => gs_pick (want_none rfl) _ _ _ rfl (!bm) (dep 7 rfl 33 rfl) (id (pick_or2 (c := true) rfl (dep 18 rfl 44 rfl)))) ?_
      exact Steps.nil
    intro u w3 hB3 ans
    have u45 : u 45 = .bool (((!bm) || (!bc))) := ans 19 45 (by decide) rfl
    clear ans
    simp only [putAll, List.foldl_cons, List.foldl_nil, Act.put, List.setIfInBounds_toArray, List.set_cons_zero, List.set_cons_succ, u45]
    clear u45
    simp only [List.drop]
    refine wpList_nil ?_
    clear kM kC
    replace hP2 := blk_then hP2 hB3
    replace hT2 := hT2.then_ hB3
    replace hO2 := hO2.then_ hB3
    replace h42 := blk_then h42 hB3
    replace hlo2 := Lib.hid (show w2.heap.size ≤ w3.heap.size from hB3.size)
    clear hB3
    obtain ⟨q, hq⟩ : ∃ q, (((!bm) || (!bc))) = q := ⟨_, rfl⟩
    rw [hq]
    have c1 : w3.cell? ⟨g, 1, none⟩ = some (.int .i64 ((i : Int) + 1)) := hP2.cellv rfl
    have f1 := hP2.frozen 1
    cases q with
    | true =>
      have hr := Lib.hid (show r = .fault 46 i by rw [← hRp.out, if_neg]; revert hq; cases bm <;> cases bc <;> decide)
      clear hq hbm
      have kF := rfault_any hP2 46 i 46 (i : Int) rfl rfl
      go_wp2_with (first | (go_at_call 42; refine kF.mono ?_; rintro e w4 ⟨rfl, hT3, hP3⟩; have h43 := blk_turn h42 hT3 (by have := hwb.out; omega)) | (refine wl_store_nv rfl _ _ rfl g4 zeroV rfl rfl _ rfl h43 ?_; intro w7 h7 hg7))
      refine ret_nv rfl rfl h7 rfl ?_
      rw [hr.out]
      exact ⟨(TR.of_turn (hT2.trans hT3)).grown hg7 (fun q e => by injection e with e; have := hwb.out; right; left; omega), by decide, ⟨zeroV, rfl⟩, i + 1, A, n, c, hP3.grown hg7 (fun e => by injection e with e; have := hwb.out; omega)⟩
    | false =>
      have hr := Lib.hid (show r = .got (Ere.setN (bit (Ere.chr p (i + 1)))) (i + 2) by rw [← hRp.out, if_pos]; revert hq; cases bm <;> cases bc <;> decide)
      have hlt0 : i + 1 < p.size := hbm.out (by revert hq; cases bm <;> cases bc <;> decide)
      replace hlt0 := Lib.hid hlt0
      clear hq hbm
      go_upto_region 10 with (fail)
      have hP3 : Blk (w3.setCell ⟨g, 1, none⟩ (.int .i64 ((i : Int) + 1 + 1))) g 82 (rrC p (i + 2) A n c 0 0) := hP2.set_ 1 (.int .i64 ((i : Int) + 1 + 1))
      have hTs := turnRd (Turn.refl g (g + 1) w3) 1 (.int .i64 ((i : Int) + 1 + 1))
      have hT3 := hT2.trans hTs
      have hO3 := hO2.turn hP2 (by decide) hTs
      have h43 := h42.far (p := ⟨g, 1, none⟩) (by have := hwb.out; simp; omega) (.int .i64 ((i : Int) + 1 + 1))
      obtain ⟨w4, hw4⟩ : ∃ y, y = w3.setCell ⟨g, 1, none⟩ (.int .i64 ((i : Int) + 1 + 1)) := ⟨_, rfl⟩
      rw [← hw4] at hP3 hT3 hO3 h43 ⊢
      clear hw4 hTs c1 f1 hP2 hT2 hO2 h42
      have hlt1 := hlt0.out
      have kW := fun W => with4_any 0 (Ere.chr p (i + 1)) (Ere.chr_lt p (i + 1)) W
      rw [withB0] at kW
      refine wp_region_steps 13 [eqS (.agg (setC 0)), eqS (.pointer (some ⟨g, 0, none⟩)), eqS (.pointer (some ⟨g, 0, none⟩)), eqS (.pointer (some ⟨g, 0, none⟩)), eqS (.string p), eqS (.pointer (some ⟨g, 0, none⟩)), eqS (.pointer (some ⟨g, 0, none⟩)), eqS (.pointer (some ⟨g, 1, none⟩)), eqS (.int .i64 (((i + 2 : Nat) : Int))), eqS (.int .i64 (((i + 1 : Nat) : Int))), eqS (.int .u8 (((Ere.chr p (i + 1) : Nat) : Int))), eqS (.agg (setC (bit (Ere.chr p (i + 1)) &&& notB 0))), eqS (.agg (NV.mk 2 (bit (Ere.chr p (i + 1)) &&& notB 0) none 0 0 0 0).C)] [56, 57, 58, 59, 60, 61, 62, 63, 64, 65, 66, 67, 68] follows_mixed (by kernel_rfl) (by kernel_rfl) ?_ ?_
      · skip
        refine Steps.cons (fun a' w' hG hB dep => gs_build_set0 (want_none rfl) rfl rfl) ?_
        refine Steps.cons (fun a' w' hG hB dep => gs_move (want_none rfl) _ rfl (id (hG.other 0 rfl))) ?_
        refine Steps.cons (fun a' w' hG hB dep => gs_nil (want_none rfl) _ rfl _ (dep 1 rfl 57 rfl) rfl) ?_
        refine Steps.cons (fun a' w' hG hB dep => gs_field (want_none rfl) _ _ _ rfl g (0) (0) (dep 2 rfl 58 rfl) (fun wz => field_rreader_0 g (0) wz) rfl) ?_
        refine Steps.cons (fun a' w' hG hB dep => gs_load1 (want_none rfl) _ _ rfl g (0) (dep 3 rfl 59 rfl) (.string p) (rrd_cell hP3 hB).1 _ Try.underlying9 rfl rfl) ?_
        refine Steps.cons (fun a' w' hG hB dep => gs_move (want_none rfl) _ rfl (id (hG.other 0 rfl))) ?_
        refine Steps.cons (fun a' w' hG hB dep => gs_nil (want_none rfl) _ rfl _ (dep 5 rfl 61 rfl) rfl) ?_
        refine Steps.cons (fun a' w' hG hB dep => gs_field (want_none rfl) _ _ _ rfl g (0) (1) (dep 6 rfl 62 rfl) (fun wz => field_rreader_1 g (0) wz) rfl) ?_
        refine Steps.cons (fun a' w' hG hB dep => gs_load1 (want_none rfl) _ _ rfl g (1) (dep 7 rfl 63 rfl) (.int .i64 (((i + 2 : Nat) : Int))) (rrd_cell hP3 hB).2 _ Try.underlying3 rfl rfl) ?_
        refine Steps.cons (fun a' w' hG hB dep => gs_sub_nat (want_none rfl) _ _ _ _ rfl _ _ (i + 1) (dep 8 rfl 64 rfl) rfl rfl (by omega) rfl) ?_
        refine Steps.cons (fun a' w' hG hB dep => gs_index_str (want_none rfl) _ _ rfl p (i + 1) (dep 4 rfl 60 rfl) (dep 9 rfl 65 rfl) hlt1 rfl) ?_
        refine Steps.cons (fun a' w' hG hB dep => gs_call (want_none rfl) _ _ _ rfl enter_with4 #[.agg (setC 0), .int .u8 ((Ere.chr p (i + 1) : Nat) : Int)] (map2 (dep 0 rfl 56 rfl) (dep 10 rfl 66 rfl)) (ret_step (kW _) (fun _ => rfl))) ?_
        refine Steps.cons (fun a' w' hG hB dep => gs_call (want_none rfl) _ _ _ rfl enter_rset4 #[.agg (setC (bit (Ere.chr p (i + 1)) &&& notB 0))] (map1 (dep 11 rfl 67 rfl)) (ret_step (rset4_any _ _) (fun _ => rfl))) ?_
        exact Steps.nil
      intro u w5 hB5 ans
      have u68 : u 68 = (.agg (NV.mk 2 (bit (Ere.chr p (i + 1)) &&& notB 0) none 0 0 0 0).C) := ans 12 68 (by decide) rfl
      clear ans
      simp only [putAll, List.foldl_cons, List.foldl_nil, Act.put, List.setIfInBounds_toArray, List.set_cons_zero, List.set_cons_succ, u68]
      clear u68
      simp only [List.drop]
      refine wl_store_nv rfl _ _ rfl g4 (NV.mk 2 (bit (Ere.chr p (i + 1)) &&& notB 0) none 0 0 0 0) rfl rfl _ rfl (blk_then h43 hB5) ?_
      intro w7 h7 hg7
      refine wpList_nil ?_
      go_wp2_with (fail)
      refine ret_nv rfl rfl h7 rfl ?_
      rw [hr.out]
      exact ⟨(TR.of_turn (hT3.then_ hB5)).grown hg7 (fun q e => by injection e with e; have := hwb.out; right; left; omega), ⟨A, c, (blk_then hP3 hB5).grown hg7 (fun e => by injection e with e; have := hwb.out; omega), (hO3.then_ hB5).grown (blk_then h43 hB5) (by decide) hg7⟩, _, [], rfl, NdO.leaf _ _ _ _ _ _⟩
  have e92 : ((b : Int) == 92) = false := beq_eq_false_iff_ne.2 (by omega)
  by_cases h91 : b = 91
  · have e91 : ((b : Int) == 91) = true := beq_iff_eq.2 (by omega)
    have hRs := Lib.hid (show r = Ere.setR p i (i + 1) by rw [← hR.out, if_neg (by omega), if_pos h91])
    have kI := ritems_any g p (i + 1) i A n c w2 hP2 hp (by omega)
    rw [← hRs.out] at kI
    cases r with
    | fault e0 k0 =>
      go_wp2_with (first | (go_at_call 97; refine kI.mono ?_; rintro e w3 ⟨hnz, hT3, ⟨x, rfl⟩, i', hP3⟩; have h43 := blk_turn h42 hT3 (by have := hwb.out; omega)) | (refine wl_store_nv rfl _ _ rfl g4 x rfl rfl _ rfl h43 ?_; intro w7 h7 hg7))
      refine ret_nv rfl rfl h7 rfl ?_
      exact ⟨(TR.of_turn (hT2.trans hT3)).grown hg7 (fun q e => by injection e with e; have := hwb.out; right; left; omega), hnz, ⟨x, rfl⟩, i', A, n, c, hP3.grown hg7 (fun e => by injection e with e; have := hwb.out; omega)⟩
    | got t j =>
      go_wp2_with (first | (go_at_call 97; refine kI.mono ?_; rintro e w3 ⟨hT3, hP3, x, bs, rfl, hN3⟩; have h43 := blk_turn h42 hT3 (by have := hwb.out; omega)) | (refine wl_store_nv rfl _ _ rfl g4 x rfl rfl _ rfl h43 ?_; intro w7 h7 hg7))
      refine ret_nv rfl rfl h7 rfl ?_
      exact ⟨(TR.of_turn (hT2.trans hT3)).grown hg7 (fun q e => by injection e with e; have := hwb.out; right; left; omega), ⟨A, c, hP3.grown hg7 (fun e => by injection e with e; have := hwb.out; omega), (hO2.turn hP2 (by decide) hT3).grown h43 (by decide) hg7⟩, x, bs, rfl, (hN3.mono hs2.out.1).keep (fun b hb => hg7.block b (hN3.lt b hb).2 (fun e => by injection e with e; have := (hN3.lt b hb).1; have := hs2.out; omega))⟩
  have e91 : ((b : Int) == 91) = false := beq_eq_false_iff_ne.2 (by omega)
  by_cases h40 : b = 40
  · have e40 : ((b : Int) == 40) = true := beq_iff_eq.2 (by omega)
    have hRp := hR.out
    rw [if_pos h40] at hRp
    have c2 : w2.cell? ⟨g, 2, none⟩ = some (.slice A n c) := hP2.cellv rfl
    cases d with
    | zero =>
      have hi0 : inner = none := hin.out
      rw [hi0] at hRp
      have hr := Lib.hid hRp.symm
      have hn64 : ((n : Int) == 64) = true := by have := hnd.out; rw [beq_iff_eq]; omega
      have kF := rfault_any hP2 47 i 47 (i : Int) rfl rfl
      go_wp2_with (first | (go_at_call 42; refine kF.mono ?_; rintro e w3 ⟨rfl, hT3, hP3⟩; have h43 := blk_turn h42 hT3 (by have := hwb.out; omega)) | (refine wl_store_nv rfl _ _ rfl g4 zeroV rfl rfl _ rfl h43 ?_; intro w7 h7 hg7))
      refine ret_nv rfl rfl h7 rfl ?_
      rw [hr.out]
      exact ⟨(TR.of_turn (hT2.trans hT3)).grown hg7 (fun q e => by injection e with e; have := hwb.out; right; left; omega), by decide, ⟨zeroV, rfl⟩, i + 1, A, n, c, hP3.grown hg7 (fun e => by injection e with e; have := hwb.out; omega)⟩
    | succ d =>
      obtain ⟨hpat, hinr⟩ := hin.out
      rw [hinr] at hRp
      replace hRp := Lib.hid hRp
      have hn64 : ((n : Int) == 64) = false := by have := hnd.out; rw [beq_eq_false_iff_ne]; omega
      have hn1 := Lib.hid (show n ≤ 1000 by have := hnd.out; omega)
      go_upto_region 16 with (fail)
      have hBa := Lib.hid (below_alloc (Below.refl w2.heap.size w2) (.cells #[.int .i64 (i : Int)] 3))
      have hbI : Blk (w2.alloc (.cells #[.int .i64 (i : Int)] 3)) w2.heap.size 3 (encO (i : Int)) := Blk.new w2 3 #[.int .i64 (i : Int)]
      have hlA : lo ≤ (w2.alloc (.cells #[.int .i64 (i : Int)] 3)).heap.size := by have := hs2.out; have := hBa.out.size; omega
      have hOa := hO2.then_ hBa.out
      have hPa := blk_then hP2 hBa.out
      go_upto_region 17 with (first | (refine wl_store_cell rfl _ _ _ rfl g 2 rfl _ _ (rrC p (i + 1) A' (n + 1) c' 0 0) hP3 (by show 2 < 5; omega) info_is1 rfl rfl rfl ?_; intro w4 hP4 hg4) | (at_builtin; refine wl_pushO rfl _ _ rfl hOa rfl w2.heap.size (i : Int) rfl hbI hn1.out hlA ?_; intro A' c' w3 hO3 hg3; have hP3 := hPa.grown hg3 (fun e => hO2.ne hP2 (by decide) g e.symm rfl); have f3 := Lib.hid (hP3.frozen 2)))
      have hT3 : TR lo g w w3 := ((TR.of_turn hT2).then_ hBa.out).grown hg3 (fun q e => .inr (.inr ⟨(hO2.lt q e).1, hOa.typed q e⟩))
      have h43 := (blk_then h42 hBa.out).grown hg3 (fun e => hOa.ne (blk_then h42 hBa.out) (by decide) g4 e.symm rfl)
      have hTs : Turn g (g + 1) w3 w4 := Turn.of_one hg4
      have hT4 := hT3.turn hTs
      have hO4 := hO3.turn hP3 (by decide) hTs
      have h44 := blk_turn h43 hTs (by have := hwb.out; omega)
      have hs4 := Lib.hid (show w2.heap.size ≤ w4.heap.size by have := hBa.out.size; have := hg3.size; have := hTs.size; omega)
      clear hg4 hTs hT3 h43 hO3 hP3 f3 hg3 hlA hbI hOa hPa hBa c2
      have kP := hpat (i + 1) (n + 1) c' A' w4 (by have := hnd.out; omega) hP4 hO4 (by have := hs4.out; have := hs2.out; omega) (by omega)
      have hend := fun t j (h : Ere.patR p d (i + 1) = .got t j) => And.intro (Ere.patR_end d (i + 1) t j h) (Ere.patR_fwd d (i + 1) t j (by omega) h)
      obtain ⟨rp, hrp⟩ : ∃ q, Ere.patR p d (i + 1) = q := ⟨_, rfl⟩
      have hRq := hRp.out
      simp only at hRq
      rw [hrp] at kP hend hRq
      clear hrp hRp
      replace hend := Lib.hid hend
      replace hRq := Lib.hid hRq
      cases rp with
      | fault e0 k0 =>
        have hr := Lib.hid (show r = .fault e0 k0 from hRq.out.symm)
        clear hRq hend
        go_upto_region 18 with (first | (go_at_call 41; refine kP.mono ?_; rintro e w5 ⟨hT5, hnz, ⟨x, rfl⟩, i', A2, n2, c2, hP5⟩) | (refine wl_store_nv rfl _ _ rfl _ x rfl rfl _ rfl (Blk.new _ _ _) ?_; intro w6 h6 hg6))
        have hBa := below_alloc (Below.refl w5.heap.size w5) (.cells zeroC 27)
        unfold zeroC at hBa
        have hg6s := Lib.hid (show w.heap.size ≤ w5.heap.size ∧ g4 < w5.heap.size ∧ g < w5.heap.size by have := hT5.size; have := hs4.out; have := hs2.out; have := hwb.out; omega)
        have hT6 : TR lo g w w6 := ((hT4.trans hT5).then_ hBa).grown hg6 (fun q e => by injection e with e; have := hg6s.out; right; left; omega)
        have hP6 := (blk_then hP5 hBa).grown hg6 (fun e => by injection e with e; have := hg6s.out; omega)
        have h46' := (blk_then (blk_tr h44 (by decide) hwb.out.2.1 hT5) hBa).grown hg6 (fun e => by injection e with e; have := hg6s.out; omega)
        obtain ⟨g6, hg6e⟩ : ∃ y, y = w5.heap.size := ⟨_, rfl⟩
        rw [← hg6e] at h6 ⊢
        clear hBa hg6 hT5 hP5 h44 hT4 hP4 hO4 kP hg6e
        have c3 : w6.cell? ⟨g, 3, none⟩ = some (.int .i64 (e0 : Int)) := hP6.cellv rfl
        have hE : ((e0 : Int) != 0) = true := by rw [bne_iff_ne]; omega
        go_wp2_with (first | (refine wl_load_nv rfl _ rfl g6 rfl x h6 ?_) | (refine wl_store_nv rfl _ _ rfl g4 x rfl rfl _ rfl h46' ?_; intro w7 h7 hg7))
        refine ret_nv rfl rfl h7 rfl ?_
        rw [hr.out]
        exact ⟨hT6.grown hg7 (fun q e => by injection e with e; have := hwb.out; right; left; omega), hnz, ⟨x, rfl⟩, i', A2, n2, c2, hP6.grown hg7 (fun e => by injection e with e; have := hwb.out; omega)⟩
      | got t j =>
        obtain ⟨hend1, hji, hjp⟩ := hend.out t j rfl
        have hRq2 := hRq.out
        simp only [Ere.Res.bind] at hRq2
        clear hRq hend
        replace hRq2 := Lib.hid hRq2
        replace hend1 := Lib.hid hend1
        go_upto_region 18 with (first | (go_at_call 41; refine kP.mono ?_; rintro e w5 ⟨hT5, ⟨A5, c5, hP5, hO5⟩, x, bs, rfl, hN5⟩) | (refine wl_store_nv rfl _ _ rfl _ x rfl rfl _ rfl (Blk.new _ _ _) ?_; intro w6 h6 hg6))
        have hBa := below_alloc (Below.refl w5.heap.size w5) (.cells zeroC 27)
        unfold zeroC at hBa
        have hg6s := Lib.hid (show w.heap.size ≤ w5.heap.size ∧ g4 < w5.heap.size ∧ g < w5.heap.size ∧ w4.heap.size ≤ w5.heap.size ∧ w.heap.size ≤ w4.heap.size by have := hT5.size; have := hs4.out; have := hs2.out; have := hwb.out; omega)
        have hbN := fun b hb => hN5.lt b hb
        have hT6 : TR lo g w w6 := ((hT4.trans hT5).then_ hBa).grown hg6 (fun q e => by injection e with e; have := hg6s.out; right; left; omega)
        have hP6 := (blk_then hP5 hBa).grown hg6 (fun e => by injection e with e; have := hg6s.out; omega)
        have hO6 := (hO5.then_ hBa).keep (w' := w6) (fun b hb => hg6.block b (by have := (hO5.lt b hb).2; have := hBa.size; omega) (fun e => by injection e with e; have := (hO5.lt b hb).2; omega))
        have hN6 := (hN5.then_ hBa).keep (w' := w6) (fun b hb => hg6.block b (by have := (hN5.lt b hb).2; have := hBa.size; omega) (fun e => by injection e with e; have := (hN5.lt b hb).2; omega))
        have h46' := (blk_then (blk_tr h44 (by decide) hwb.out.2.1 hT5) hBa).grown hg6 (fun e => by injection e with e; have := hg6s.out; omega)
        obtain ⟨g6, hg6e⟩ : ∃ y, y = w5.heap.size := ⟨_, rfl⟩
        have hw6 := Lib.hid (show w.heap.size ≤ g6 ∧ g6 ≠ g ∧ g6 ≠ g4 ∧ ∀ b ∈ bs, b ≠ g6 ∧ b ≠ g4 ∧ b ≠ g from ⟨by have := hg6s.out; omega, by have := hg6s.out; omega, by have := hg6s.out; omega, fun b hb => by have := hbN b hb; have := hg6s.out; have := hs4.out; have := hs2.out; have := hwb.out; omega⟩)
        rw [← hg6e] at h6 ⊢
        clear hBa hg6 hT5 hP5 h44 hT4 hP4 hO4 kP hg6e hO5 hN5 hbN
        have c3 : w6.cell? ⟨g, 3, none⟩ = some (.int .i64 0) := hP6.cellv rfl
        have c1 : w6.cell? ⟨g, 1, none⟩ = some (.int .i64 (j : Int)) := hP6.cellv rfl
        obtain ⟨b41, q41⟩ : ∃ v, Ere.isAt p j 41 = v := ⟨_, rfl⟩
        have k41 := ris_at hP6 j (j : Int) 41 41 rfl rfl q41
        cases b41 with
        | false =>
          have hjs : p.size ≤ j := by rcases hend1.out with h | h; exact h; rw [q41] at h; cases h
          have hr := Lib.hid (show r = .fault 42 i by rw [← hRq2.out, if_pos hjs])
          have kF := rfault_any hP6 42 i 42 (i : Int) rfl rfl
          clear hRq2 q41 hend1
          go_wp2_with (first | (go_at_call 60; refine k41.mono ?_; rintro e wy ⟨rfl, hwy⟩; rw [hwy]; clear hwy) | (go_at_call 42; refine kF.mono ?_; rintro e w8 ⟨rfl, hT8, hP8⟩; have h48 := blk_turn h46' hT8 (by have := hwb.out; omega)) | (refine wl_store_nv rfl _ _ rfl g4 zeroV rfl rfl _ rfl h48 ?_; intro w7 h7 hg7))
          refine ret_nv rfl rfl h7 rfl ?_
          rw [hr.out]
          exact ⟨(hT6.turn hT8).grown hg7 (fun q e => by injection e with e; have := hwb.out; right; left; omega), by decide, ⟨zeroV, rfl⟩, j, A5, n + 1, c5, hP8.grown hg7 (fun e => by injection e with e; have := hwb.out; omega)⟩
        | true =>
          have hjs := Ere.isAt_lt q41
          have hr := Lib.hid (show r = .got t (j + 1) by rw [← hRq2.out, if_neg (by omega)])
          clear hRq2 q41 hend1
          have f1 := hP6.frozen 1
          have hjI : (j : Int) < p.size := by omega
          go_upto_region 23 with (go_at_call 60; refine k41.mono ?_; rintro e wy ⟨rfl, hwy⟩; rw [hwy]; clear hwy)
          have hP7 : Blk (w6.setCell ⟨g, 1, none⟩ (.int .i64 ((j : Int) + 1))) g 82 (rrC p (j + 1) A5 (n + 1) c5 0 0) := hP6.set_ 1 (.int .i64 ((j : Int) + 1))
          have hTs := turnRd (Turn.refl g (g + 1) w6) 1 (.int .i64 ((j : Int) + 1))
          have hT7 := hT6.turn hTs
          have hO7 := hO6.turn hP6 (by decide) hTs
          have h47 := h46'.far (p := ⟨g, 1, none⟩) (by have := hwb.out; simp; omega) (.int .i64 ((j : Int) + 1))
          have h67 := h6.far (p := ⟨g, 1, none⟩) (by have := hw6.out.2.1; simp; omega) (.int .i64 ((j : Int) + 1))
          have hN7 := hN6.turn hTs (by have := hg6s.out; have := hwb.out; omega)
          obtain ⟨w7, hw7⟩ : ∃ y, y = w6.setCell ⟨g, 1, none⟩ (.int .i64 ((j : Int) + 1)) := ⟨_, rfl⟩
          rw [← hw7] at hP7 hT7 hO7 h47 h67 hN7 ⊢
          clear hw7 hTs f1 hP6 hT6 hO6 h46' h6 hN6 c1 c3 k41
          have c2 : w7.cell? ⟨g, 2, none⟩ = some (.slice A5 (n + 1) c5) := hP7.cellv rfl
          have f2 := hP7.frozen 2
          have hcap : n + 1 ≤ c5 := by
            obtain ⟨xs, hx1, hx2⟩ := hO7
            obtain ⟨A9, c9, hv, h9, _⟩ := hx2.shape
            injection hv with e1 e2 e3
            omega
          have hncI : (n : Int) ≤ c5 := by omega
          have hn0I : ¬ (n : Int) < 0 := by omega
          have hn64I : (n : Int) ≤ 64 := by have := hnd.out; omega
          have hwrI : wrap64 (n : Int) = n := by unfold wrap64; omega
          go_big_region
          have hP8 : Blk (w7.setCell ⟨g, 2, none⟩ (.slice A5 n c5)).drew g 82 (rrC p (j + 1) A5 n c5 0 0) := (hP7.set_ 2 (.slice A5 n c5)).drew
          have hTs : Turn g (g + 1) w7 (w7.setCell ⟨g, 2, none⟩ (.slice A5 n c5)).drew := (turnRd (Turn.refl g (g + 1) w7) 2 (.slice A5 n c5)).then_ ((Below.refl _ _).drew)
          have hT8 := hT7.turn hTs
          have hO8 := (hO7.turn hP7 (by decide) hTs).pop
          have h48 := blk_turn h47 hTs (by have := hwb.out; omega)
          have h68 := blk_turn h67 hTs (by have := hw6.out.2.1; omega)
          have hN8 := hN7.turn hTs (by have := hg6s.out; have := hwb.out; omega)
          obtain ⟨w8, hw8⟩ : ∃ y, y = (w7.setCell ⟨g, 2, none⟩ (.slice A5 n c5)).drew := ⟨_, rfl⟩
          rw [← hw8] at hP8 hT8 hO8 h48 h68 hN8 ⊢
          clear hw8 hTs f2 c2 hP7 hT7 hO7 h47 h67 hN7
          go_wp2_with (first | (refine wl_load_nv rfl _ rfl g6 rfl x h68 ?_) | (refine wl_store_nv rfl _ _ rfl g4 x rfl rfl _ rfl h48 ?_; intro w9 h9 hg9))
          refine ret_nv rfl rfl h9 rfl ?_
          rw [hr.out]
          exact ⟨hT8.grown hg9 (fun q e => by injection e with e; have := hwb.out; right; left; omega), ⟨A5, c5, hP8.grown hg9 (fun e => by injection e with e; have := hwb.out; omega), hO8.grown h48 (by decide) hg9⟩, x, bs, rfl, (hN8.mono (by have := hg6s.out; omega)).keep (fun b hb => hg9.block b (hN8.lt b hb).2 (fun e => by injection e with e; exact (hw6.out.2.2.2 b hb).2.1 e))⟩
  have e40 : ((b : Int) == 40) = false := beq_eq_false_iff_ne.2 (by omega)
  have hr := Lib.hid (show r = .got (Ere.setN (bit b)) (i + 1) by rw [← hR.out, if_neg h40, if_neg h91, if_neg h46, if_neg h92])
  have kW := with4_any 0 b hb8 w2
  rw [withB0] at kW
  have kS := fun W => rset4_any (bit b &&& notB 0) W
  go_wp2_with (first | (refine wl_build_set0 rfl rfl ?_) | (go_at_call 96; refine kW.mono ?_; rintro e w3 ⟨rfl, hB3⟩) | (go_at_call 93; refine (kS _).mono ?_; rintro e w5 ⟨rfl, hB5⟩; have h45 := blk_then (blk_then h42 hB3) hB5) | (refine wl_store_nv rfl _ _ rfl g4 (NV.mk 2 (bit b &&& notB 0) none 0 0 0 0) rfl rfl _ rfl h45 ?_; intro w7 h7 hg7))
  refine ret_nv rfl rfl h7 rfl ?_
  rw [hr.out]
  exact ⟨(TR.of_turn ((hT2.then_ hB3).then_ hB5)).grown hg7 (fun q e => by injection e with e; have := hwb.out; right; left; omega), ⟨A, c, (blk_then (blk_then hP2 hB3) hB5).grown hg7 (fun e => by injection e with e; have := hwb.out; omega), ((hO2.then_ hB3).then_ hB5).grown h45 (by decide) hg7⟩, _, [], rfl, NdO.leaf _ _ _ _ _ _⟩
end Go.Proofs.Ytajainmldcnaeaa
namespace Go.Proofs.Ytajainmldcnaeaa
open Go.RowKit Go.Maps
set_option linter.unusedVariables false
set_option linter.unusedSimpArgs false
attribute [local go_sem] Oper.semAt_some

namespace Ere
theorem atomR_fwd {p : ByteArray} {inner : Option (Nat → Res Nd)} (hin : ∀ f, inner = some f → ∀ i t j, i ≤ p.size → f i = .got t j → i ≤ j ∧ j ≤ p.size) {i j : Nat} {t : Nd} (h : atomR p inner i = .got t j) (hi : i < p.size) : i < j ∧ j ≤ p.size := by
  unfold atomR at h
  simp only at h
  split at h
  · cases inner with
    | none => cases h
    | some f =>
      simp only at h
      cases hf : f (i + 1) with
      | fault e k => rw [hf] at h; cases h
      | got u k =>
        rw [hf] at h
        simp only [Res.bind] at h
        have h1 := hin f rfl (i + 1) u k (by omega) hf
        split at h
        · cases h
        · injection h with _ h
          omega
  split at h
  · exact ⟨by have := setR_fwd h; omega, (setR_fwd h).2⟩
  split at h
  · injection h with _ h
    omega
  split at h
  · split at h
    · rename_i h3
      unfold oneOf at h3
      simp only [Bool.and_eq_true, decide_eq_true_eq] at h3
      injection h with _ h
      omega
    · cases h
  · injection h with _ h
    omega
end Ere
set_option maxRecDepth 100000 in
set_option maxHeartbeats 16000000 in
theorem rpiece_any (lo g : Nat) (p : ByteArray) (i n c d : Nat) (A : Option Addr) (inner : Option (Nat → Ere.Res Nd)) (hin : match d with
      | 0 => inner = none
      | d + 1 => RPatOk lo g p d ∧ inner = some (Ere.patR p d)) (hnd : n + d = 64) (w : World) (hP : Blk w g 82 (rrC p i A n c 0 0)) (hO : OpenOk w lo A n c) (hlo : lo ≤ w.heap.size) (hi : i < p.size) (hp : p.size ≤ 1024) :
    Calls Try.prog 69 #[.pointer (some ⟨g, 0, none⟩)] w fun e w' => RtAns lo g p n w w.heap.size (Ere.pieceR p inner i) e w' := by
  obtain ⟨r, hr0⟩ : ∃ r, Ere.pieceR p inner i = r := ⟨_, rfl⟩
  rw [hr0]
  have hch : Ere.chr p i = p[i].toNat := by unfold Ere.chr; rw [dif_pos hi]
  obtain ⟨b, hb⟩ : ∃ v, Ere.chr p i = v := ⟨_, rfl⟩
  have hR := hr0
  have hb8 : b < 256 := by rw [← hb]; exact Ere.chr_lt p i
  have hv : p[i].toNat = b := hch.symm.trans hb
  have hinf : ∀ f, inner = some f → ∀ i t j, i ≤ p.size → f i = .got t j → i ≤ j ∧ j ≤ p.size := by
    intro f hf
    cases d with
    | zero => rw [hin] at hf; cases hf
    | succ d => rw [hin.2] at hf; injection hf with hf; subst hf; exact fun i t j h1 h2 => Ere.patR_fwd d i t j h1 h2
  have hfwd := fun t j (h : Ere.atomR p inner i = .got t j) => Ere.atomR_fwd hinf h hi
  have kAt := fun (w : World) (hP : Blk w g 82 (rrC p i A n c 0 0)) (hO : OpenOk w lo A n c) (hlo : lo ≤ w.heap.size) => ratom_any lo g p i n c d b A inner hin hnd w hP hO hlo hi hp hb
  clear hr0 hch hinf
  replace hR := Lib.hid hR
  replace kAt := Lib.hid kAt
  replace hfwd := Lib.hid hfwd
  replace hb := Lib.hid hb
  replace hv := Lib.hid hv
  have hgl := Lib.hid hP.lt
  have hT := Turn.refl g (g + 1) w
  have hiI : (i : Int) < p.size := by omega
  have hi00 : ¬ (i : Int) < 0 := by omega
  have hpI : (p.size : Int) ≤ 1024 := by omega
  replace hin := Lib.hid hin
  replace hnd := Lib.hid hnd
  go_enter Try.func69, Try.ntmps69
  have h4 : Blk (w.alloc (.cells zeroC 27)) w.heap.size 27 zeroC := Blk.new' _ _ _ rfl
  have hB1 : Below w.heap.size w (w.alloc (.cells zeroC 27)) := below_alloc (Below.refl _ _) _
  unfold zeroC at h4 hB1
  go_upto_region 1 with (fail)
  obtain ⟨w1, hw1⟩ : ∃ y, y = w.alloc (.cells zeroC 27) := ⟨_, rfl⟩
  unfold zeroC at hw1
  rw [← hw1] at h4 hB1 ⊢
  clear hw1
  replace hP := blk_then hP hB1
  replace hO := hO.then_ hB1
  replace hT := hT.then_ hB1
  obtain ⟨g4, hg4e⟩ : ∃ y, y = w.heap.size := ⟨_, rfl⟩
  have hwb := Lib.hid (show w.heap.size ≤ g4 ∧ g4 ≠ g ∧ g < w.heap.size ∧ g4 < w1.heap.size ∧ w.heap.size ≤ w1.heap.size ∧ lo ≤ w.heap.size by have := hgl.out; have := h4.lt; have := hB1.size; omega)
  rw [← hg4e] at h4 ⊢
  clear hg4e hB1 hlo
  have c0 : w1.cell? ⟨g, 0, none⟩ = some (.string p) := hP.cellv rfl
  have c1 : w1.cell? ⟨g, 1, none⟩ = some (.int .i64 (i : Int)) := hP.cellv rfl
  go_big_region
  rw [hv.out]
  clear c0 c1
  have hPd := hP.drew
  have hTd := hT.then_ ((Below.refl w1.heap.size w1).drew)
  have hOd := hO.then_ ((Below.refl w1.heap.size w1).drew)
  have h4d := h4.drew
  have hsd := Lib.hid (show w1.drew.heap.size = w1.heap.size from rfl)
  obtain ⟨w2, hw2⟩ : ∃ y, y = w1.drew := ⟨_, rfl⟩
  rw [← hw2] at hPd hTd hOd h4d hsd ⊢
  replace hwb := Lib.hid (show w.heap.size ≤ g4 ∧ g4 ≠ g ∧ g < w.heap.size ∧ g4 < w2.heap.size ∧ w.heap.size ≤ w2.heap.size ∧ lo ≤ w.heap.size by have := hwb.out; have := hsd.out; omega)
  clear hw2 hP hT hO h4 hsd
  have c1 : w2.cell? ⟨g, 1, none⟩ = some (.int .i64 (i : Int)) := hPd.cellv rfl
  have f1 := hPd.frozen 1
  by_cases h94 : b = 94
  · skip
    have e94 : ((b : Int) == 94) = true := beq_iff_eq.2 (by omega)
    have hr := Lib.hid (show r = .got (.mk 6 0 [] 0 0) (i + 1) by rw [← hR.out]; unfold Ere.pieceR; simp only [hb.out]; simp [h94])
    go_upto_region 5 with (fail)
    have hP3 : Blk (w2.setCell ⟨g, 1, none⟩ (.int .i64 ((i : Int) + 1))) g 82 (rrC p (i + 1) A n c 0 0) := hPd.set_ 1 (.int .i64 ((i : Int) + 1))
    have hTs := turnRd (Turn.refl g (g + 1) w2) 1 (.int .i64 ((i : Int) + 1))
    have hT3 := hTd.trans hTs
    have hO3 := hOd.turn hPd (by decide) hTs
    have h43 := h4d.far (p := ⟨g, 1, none⟩) (by have := hwb.out; simp; omega) (.int .i64 ((i : Int) + 1))
    obtain ⟨w3, hw3⟩ : ∃ y, y = w2.setCell ⟨g, 1, none⟩ (.int .i64 ((i : Int) + 1)) := ⟨_, rfl⟩
    rw [← hw3] at hP3 hT3 hO3 h43 ⊢
    clear hw3 hTs c1 f1 hPd hTd hOd h4d
    go_wp2_with (first | (refine wl_build_node rfl _ rfl ⟨6, 0, none, 0, 0, 0, 0⟩ #[(0, .int .i64 6)] rfl (fun w => build_leaf 6 w) ?_) | (refine wl_store_nv rfl _ _ rfl g4 ⟨6, 0, none, 0, 0, 0, 0⟩ rfl rfl _ rfl h43 ?_; intro wz hz hgz))
    refine ret_nv rfl rfl hz rfl ?_
    rw [hr.out]
    exact ⟨(TR.of_turn hT3).grown hgz (fun q e => by injection e with e; have := hwb.out; right; left; omega), ⟨A, c, hP3.grown hgz (fun e => by injection e with e; have := hwb.out; omega), hO3.grown h43 (by decide) hgz⟩, _, [], rfl, NdO.leaf _ _ _ _ _ _⟩
  have e94 : ((b : Int) == 94) = false := beq_eq_false_iff_ne.2 (by omega)
  by_cases h36 : b = 36
  · skip
    have e36 : ((b : Int) == 36) = true := beq_iff_eq.2 (by omega)
    have hr := Lib.hid (show r = .got (.mk 7 0 [] 0 0) (i + 1) by rw [← hR.out]; unfold Ere.pieceR; simp only [hb.out]; simp [h36])
    go_upto_region 8 with (fail)
    have hP3 : Blk (w2.setCell ⟨g, 1, none⟩ (.int .i64 ((i : Int) + 1))) g 82 (rrC p (i + 1) A n c 0 0) := hPd.set_ 1 (.int .i64 ((i : Int) + 1))
    have hTs := turnRd (Turn.refl g (g + 1) w2) 1 (.int .i64 ((i : Int) + 1))
    have hT3 := hTd.trans hTs
    have hO3 := hOd.turn hPd (by decide) hTs
    have h43 := h4d.far (p := ⟨g, 1, none⟩) (by have := hwb.out; simp; omega) (.int .i64 ((i : Int) + 1))
    obtain ⟨w3, hw3⟩ : ∃ y, y = w2.setCell ⟨g, 1, none⟩ (.int .i64 ((i : Int) + 1)) := ⟨_, rfl⟩
    rw [← hw3] at hP3 hT3 hO3 h43 ⊢
    clear hw3 hTs c1 f1 hPd hTd hOd h4d
    go_wp2_with (first | (refine wl_build_node rfl _ rfl ⟨7, 0, none, 0, 0, 0, 0⟩ #[(0, .int .i64 7)] rfl (fun w => build_leaf 7 w) ?_) | (refine wl_store_nv rfl _ _ rfl g4 ⟨7, 0, none, 0, 0, 0, 0⟩ rfl rfl _ rfl h43 ?_; intro wz hz hgz))
    refine ret_nv rfl rfl hz rfl ?_
    rw [hr.out]
    exact ⟨(TR.of_turn hT3).grown hgz (fun q e => by injection e with e; have := hwb.out; right; left; omega), ⟨A, c, hP3.grown hgz (fun e => by injection e with e; have := hwb.out; omega), hO3.grown h43 (by decide) hgz⟩, _, [], rfl, NdO.leaf _ _ _ _ _ _⟩
  have e36 : ((b : Int) == 36) = false := beq_eq_false_iff_ne.2 (by omega)
  by_cases hrp : b = 42 ∨ b = 43 ∨ b = 63 ∨ b = 123
  · have hr := Lib.hid (show r = .fault 44 i by rw [← hR.out]; unfold Ere.pieceR; simp only [hb.out]; rw [if_neg h94, if_neg h36, if_pos hrp])
    have kF := rfault_any hPd 44 i 44 (i : Int) rfl rfl
    go_upto_if 35 with (fail)
    go_cut [35] from 35 to 40 (fun v wx => wx = w2 ∧ v = .bool true)
    case first =>
      rcases hrp with h | h | h | h
      · skip
        have e42 : ((b : Int) == 42) = true := beq_iff_eq.2 (by omega)
        replace h := Lib.hid h
        go_wp2_with (fail)
        go_meet
        exact ⟨by trivial, by trivial⟩
      · skip
        have e42 : ((b : Int) == 42) = false := beq_eq_false_iff_ne.2 (by omega)
        have e43 : ((b : Int) == 43) = true := beq_iff_eq.2 (by omega)
        replace h := Lib.hid h
        go_wp2_with (fail)
        go_meet
        exact ⟨by trivial, by trivial⟩
      · skip
        have e42 : ((b : Int) == 42) = false := beq_eq_false_iff_ne.2 (by omega)
        have e43 : ((b : Int) == 43) = false := beq_eq_false_iff_ne.2 (by omega)
        have e63 : ((b : Int) == 63) = true := beq_iff_eq.2 (by omega)
        replace h := Lib.hid h
        go_wp2_with (fail)
        go_meet
        exact ⟨by trivial, by trivial⟩
      · skip
        have e42 : ((b : Int) == 42) = false := beq_eq_false_iff_ne.2 (by omega)
        have e43 : ((b : Int) == 43) = false := beq_eq_false_iff_ne.2 (by omega)
        have e63 : ((b : Int) == 63) = false := beq_eq_false_iff_ne.2 (by omega)
        have e123 : ((b : Int) == 123) = true := beq_iff_eq.2 (by omega)
        replace h := Lib.hid h
        go_wp2_with (fail)
        go_meet
        exact ⟨by trivial, by trivial⟩
    case rest =>
      obtain ⟨rfl, rfl⟩ := hcut
      go_wp2_with (first | (go_at_call 42; refine kF.mono ?_; rintro e w3 ⟨rfl, hT3, hP3⟩; have h43 := blk_turn h4d hT3 (by have := hwb.out; omega)) | (refine wl_store_nv rfl _ _ rfl g4 zeroV rfl rfl _ rfl h43 ?_; intro w7 h7 hg7))
      refine ret_nv rfl rfl h7 rfl ?_
      rw [hr.out]
      exact ⟨(TR.of_turn (hTd.trans hT3)).grown hg7 (fun q e => by injection e with e; have := hwb.out; right; left; omega), by decide, ⟨zeroV, rfl⟩, i, A, n, c, hP3.grown hg7 (fun e => by injection e with e; have := hwb.out; omega)⟩
  have e42 : ((b : Int) == 42) = false := beq_eq_false_iff_ne.2 (by omega)
  have e43 : ((b : Int) == 43) = false := beq_eq_false_iff_ne.2 (by omega)
  have e63 : ((b : Int) == 63) = false := beq_eq_false_iff_ne.2 (by omega)
  have e123 : ((b : Int) == 123) = false := beq_eq_false_iff_ne.2 (by omega)
  have hR3 := hR.out
  rw [Ere.pieceR_atom p inner i (by rw [hb.out]; exact h94) (by rw [hb.out]; exact h36) (by rw [hb.out]; exact hrp)] at hR3
  have kA := kAt.out w2 hPd hOd (by have := hwb.out; omega)
  have hfw := hfwd.out
  obtain ⟨ra, hra⟩ : ∃ q, Ere.atomR p inner i = q := ⟨_, rfl⟩
  rw [hra] at hR3 kA hfw
  clear hra hR kAt hfwd c1 f1
  replace hR3 := Lib.hid hR3
  replace hfw := Lib.hid hfw
  cases ra with
  | fault e0 k0 =>
    have hr := Lib.hid (show r = .fault e0 k0 from hR3.out.symm)
    clear hR3 hfw
    go_upto_region 15 with (first | (go_at_call 83; refine kA.mono ?_; rintro e w5 ⟨hT5, hnz, ⟨x, rfl⟩, i', A2, n2, c2, hP5⟩) | (refine wl_store_nv rfl _ _ rfl _ x rfl rfl _ rfl (Blk.new _ _ _) ?_; intro w6 h6 hg6))
    have hBa := below_alloc (Below.refl w5.heap.size w5) (.cells zeroC 27)
    unfold zeroC at hBa
    have hg6s := Lib.hid (show w.heap.size ≤ w5.heap.size ∧ g4 < w5.heap.size ∧ g < w5.heap.size by have := hT5.size; have := hwb.out; omega)
    have hT6 : TR lo g w w6 := (((TR.of_turn hTd).trans hT5).then_ hBa).grown hg6 (fun q e => by injection e with e; have := hg6s.out; right; left; omega)
    have hP6 := (blk_then hP5 hBa).grown hg6 (fun e => by injection e with e; have := hg6s.out; omega)
    have h46 := (blk_then (blk_tr h4d (by decide) hwb.out.2.1 hT5) hBa).grown hg6 (fun e => by injection e with e; have := hg6s.out; omega)
    obtain ⟨g6, hg6e⟩ : ∃ y, y = w5.heap.size := ⟨_, rfl⟩
    rw [← hg6e] at h6 ⊢
    clear hBa hg6 hT5 hP5 h4d hTd hPd hOd kA hg6e
    have c3 : w6.cell? ⟨g, 3, none⟩ = some (.int .i64 (e0 : Int)) := hP6.cellv rfl
    have hE : ((e0 : Int) != 0) = true := by rw [bne_iff_ne]; omega
    go_wp2_with (first | (refine wl_load_nv rfl _ rfl g6 rfl x h6 ?_) | (refine wl_store_nv rfl _ _ rfl g4 x rfl rfl _ rfl h46 ?_; intro w7 h7 hg7))
    refine ret_nv rfl rfl h7 rfl ?_
    rw [hr.out]
    exact ⟨hT6.grown hg7 (fun q e => by injection e with e; have := hwb.out; right; left; omega), hnz, ⟨x, rfl⟩, i', A2, n2, c2, hP6.grown hg7 (fun e => by injection e with e; have := hwb.out; omega)⟩
  | got t j =>
    have hj := hfw.out t j rfl
    have hR4 := hR3.out
    simp only [Ere.Res.bind] at hR4
    clear hR3 hfw
    replace hR4 := Lib.hid hR4
    go_upto_region 15 with (first | (go_at_call 83; refine kA.mono ?_; rintro e w5 ⟨hT5, ⟨A5, c5, hP5, hO5⟩, x, bs, rfl, hN5⟩) | (refine wl_store_nv rfl _ _ rfl _ x rfl rfl _ rfl (Blk.new _ _ _) ?_; intro w6 h6 hg6))
    have hBa := below_alloc (Below.refl w5.heap.size w5) (.cells zeroC 27)
    unfold zeroC at hBa
    have hg6s := Lib.hid (show w.heap.size ≤ w5.heap.size ∧ g4 < w5.heap.size ∧ g < w5.heap.size by have := hT5.size; have := hwb.out; omega)
    have hbN := fun b hb => hN5.lt b hb
    have hT6 : TR lo g w w6 := (((TR.of_turn hTd).trans hT5).then_ hBa).grown hg6 (fun q e => by injection e with e; have := hg6s.out; right; left; omega)
    have hP6 := (blk_then hP5 hBa).grown hg6 (fun e => by injection e with e; have := hg6s.out; omega)
    have hO6 := (hO5.then_ hBa).keep (w' := w6) (fun b hb => hg6.block b (by have := (hO5.lt b hb).2; have := hBa.size; omega) (fun e => by injection e with e; have := (hO5.lt b hb).2; omega))
    have hN6 := (hN5.then_ hBa).keep (w' := w6) (fun b hb => hg6.block b (by have := (hN5.lt b hb).2; have := hBa.size; omega) (fun e => by injection e with e; have := (hN5.lt b hb).2; omega))
    have h46 := (blk_then (blk_tr h4d (by decide) hwb.out.2.1 hT5) hBa).grown hg6 (fun e => by injection e with e; have := hg6s.out; omega)
    have hs6 := Lib.hid (show w2.heap.size ≤ w6.heap.size by have := hT5.size; have := hBa.size; have := hg6.size; omega)
    obtain ⟨g6, hg6e⟩ : ∃ y, y = w5.heap.size := ⟨_, rfl⟩
    have hw6 := Lib.hid (show w.heap.size ≤ g6 ∧ g6 ≠ g ∧ g6 ≠ g4 ∧ ∀ b ∈ bs, b ≠ g6 ∧ b ≠ g4 ∧ b ≠ g from ⟨by have := hg6s.out; omega, by have := hg6s.out; omega, by have := hg6s.out; omega, fun b hb => by have := hbN b hb; have := hg6s.out; have := hwb.out; omega⟩)
    rw [← hg6e] at h6 ⊢
    clear hBa hg6 hT5 hP5 h4d hTd hPd hOd kA hg6e hO5 hN5 hbN
    have c3 : w6.cell? ⟨g, 3, none⟩ = some (.int .i64 0) := hP6.cellv rfl
    have c1 : w6.cell? ⟨g, 1, none⟩ = some (.int .i64 (j : Int)) := hP6.cellv rfl
    have kM := rmore_at hP6 j (j : Int) rfl rfl
    by_cases hjs : p.size ≤ j
    · rw [decide_eq_false (by omega)] at kM
      have hr := Lib.hid (show r = .got t j by rw [← hR4.out, Ere.repeatR_end hjs])
      clear hR4
      replace hjs := Lib.hid hjs
      go_wp2_with (first | (go_at_call 68; refine kM.mono ?_; rintro e wy ⟨rfl, hwy⟩; rw [hwy]; clear hwy) | (refine wl_load_nv rfl _ rfl g6 rfl x h6 ?_) | (refine wl_store_nv rfl _ _ rfl g4 x rfl rfl _ rfl h46 ?_; intro w9 h9 hg9))
      refine ret_nv rfl rfl h9 rfl ?_
      rw [hr.out]
      exact ⟨hT6.grown hg9 (fun q e => by injection e with e; have := hwb.out; right; left; omega), ⟨A5, c5, hP6.grown hg9 (fun e => by injection e with e; have := hwb.out; omega), hO6.grown h46 (by decide) hg9⟩, x, bs, rfl, (hN6.mono hwb.out.2.2.2.2.1).keep (fun b hb => hg9.block b (hN6.lt b hb).2 (fun e => by injection e with e; exact (hw6.out.2.2.2 b hb).2.1 e))⟩
    · rw [decide_eq_true (by omega)] at kM
      have kR := rrepeat_any g p j w2.heap.size t x bs A5 n c5 w6 hP6 (by omega) hp hN6 (by have := hwb.out; omega) hs6.out
      rw [hR4.out] at kR
      clear hR4
      replace hjs := Lib.hid hjs
      cases r with
      | fault e0 k0 =>
        go_wp2_with (first | (go_at_call 68; refine kM.mono ?_; rintro e wy ⟨rfl, hwy⟩; rw [hwy]; clear hwy) | (refine wl_load_nv rfl _ rfl g6 rfl x h6 ?_) | (go_at_call 84; refine kR.mono ?_; rintro e w8 ⟨hnz, hT8, ⟨x8, rfl⟩, i', hP8⟩; have h48 := blk_turn h46 hT8 (by have := hwb.out; omega)) | (refine wl_store_nv rfl _ _ rfl g4 x8 rfl rfl _ rfl h48 ?_; intro w9 h9 hg9))
        refine ret_nv rfl rfl h9 rfl ?_
        exact ⟨(hT6.turn hT8).grown hg9 (fun q e => by injection e with e; have := hwb.out; right; left; omega), hnz, ⟨x8, rfl⟩, i', A5, n, c5, hP8.grown hg9 (fun e => by injection e with e; have := hwb.out; omega)⟩
      | got u k =>
        go_wp2_with (first | (go_at_call 68; refine kM.mono ?_; rintro e wy ⟨rfl, hwy⟩; rw [hwy]; clear hwy) | (refine wl_load_nv rfl _ rfl g6 rfl x h6 ?_) | (go_at_call 84; refine kR.mono ?_; rintro e w8 ⟨hT8, hP8, x8, bs8, rfl, hN8⟩; have h48 := blk_turn h46 hT8 (by have := hwb.out; omega)) | (refine wl_store_nv rfl _ _ rfl g4 x8 rfl rfl _ rfl h48 ?_; intro w9 h9 hg9))
        refine ret_nv rfl rfl h9 rfl ?_
        have hO8 := hO6.turn hP6 (by decide) hT8
        exact ⟨(hT6.turn hT8).grown hg9 (fun q e => by injection e with e; have := hwb.out; right; left; omega), ⟨A5, c5, hP8.grown hg9 (fun e => by injection e with e; have := hwb.out; omega), hO8.grown h48 (by decide) hg9⟩, x8, bs8, rfl, (hN8.mono hwb.out.2.2.2.2.1).keep (fun b hb => hg9.block b (hN8.lt b hb).2 (fun e => by injection e with e; have := (hN8.lt b hb).1; have := hwb.out; omega))⟩
end Go.Proofs.Ytajainmldcnaeaa
namespace Go.Proofs.Ytajainmldcnaeaa
open Go.RowKit Go.Maps
set_option linter.unusedVariables false
set_option linter.unusedSimpArgs false
attribute [local go_sem] Oper.semAt_some

/-- a list's node, as cells -/
def someV (kd : Int) (A : Option Addr) (n c : Nat) (cl : List NV) : NV := match cl with
  | [] => ⟨1, 0, none, 0, 0, 0, 0⟩
  | [y] => y
  | _ => ⟨kd, 0, A, n, c, 0, 0⟩
theorem NdL.some_ {w : World} {B : Nat} {A : Option Addr} {n c : Nat} {l : List Nd} {cl : List NV} {bl : List (List Nat)} (h : NdL w B A n c l cl bl) (kd : Int) : ∃ bs, NdO w B (Ere.someN kd l) (someV kd A n c cl) bs := by
  rcases l with _ | ⟨t, _ | ⟨t2, l⟩⟩
  · have hcl := h.hcl
    obtain rfl : cl = [] := List.length_eq_zero_iff.1 (by simpa using hcl)
    exact ⟨_, NdO.leaf _ _ _ _ _ _⟩
  · have hcl := h.hcl
    obtain ⟨x, rfl⟩ : ∃ x, cl = [x] := List.length_eq_one_iff.1 (by simpa using hcl)
    have hbl := h.hbl
    obtain ⟨bs, rfl⟩ : ∃ x, bl = [x] := List.length_eq_one_iff.1 (by simpa using hbl)
    have ht := h.hr 0 (by simp) (by simp) (by simp)
    simp only [List.getElem_cons_zero] at ht
    exact ⟨bs, ht⟩
  · have hcl := h.hcl
    rcases cl with _ | ⟨y, _ | ⟨y2, cl⟩⟩
    · simp at hcl
    · simp at hcl
    · exact ⟨_, h.node kd 0 0 0⟩
/-- how a list's reader stands at its end: as it should, or with a fault -/
def LsEnd (lo g : Nat) (p : ByteArray) (n0 B : Nat) (kd : Int) (A : Option Addr) (n c : Nat) (cl : List NV) (r : Ere.Res Nd) (w : World) : Prop :=
  (∃ l bl j A5 c5, NdL w B A n c l cl bl ∧ Blk w g 82 (rrC p j A5 n0 c5 0 0) ∧ OpenOk w lo A5 n0 c5 ∧ r = .got (Ere.someN kd l) j) ∨
  (∃ en at_ i' A' n' c', en ≠ 0 ∧ r = .fault en at_ ∧ Blk w g 82 (rrC p i' A' n' c' en at_))
theorem LsEnd.ans {lo g : Nat} {p : ByteArray} {n0 B : Nat} {kd : Int} {A : Option Addr} {n c : Nat} {cl : List NV} {r : Ere.Res Nd} {w w1 w2 : World} {g4 : Nat} {t : TypeId} {old : Array Value} (h : LsEnd lo g p n0 B kd A n c cl r w1) (hT : TR lo g w w1) (h4 : Blk w1 g4 t old) (ht : t ≠ 3) (hg : w1.grownBy w2 (some g4)) (h1 : w.heap.size ≤ g4) (h2 : g4 ≠ g) (h3 : g4 < B) (h5 : w.heap.size ≤ B) {x : NV} (hx : x = someV kd A n c cl) : RtAns lo g p n0 w w.heap.size r (.returned (.agg x.C)) w2 := by
  subst hx
  have hT2 : TR lo g w w2 := hT.grown hg (fun q e => by injection e with e; right; left; omega)
  rcases h with ⟨l, bl, j, A5, c5, hL, hP, hO, rfl⟩ | ⟨en, at_, i', A', n', c', hnz, rfl, hP⟩
  · obtain ⟨bs, hN⟩ := hL.some_ kd
    exact ⟨hT2, ⟨A5, c5, hP.grown hg (fun e => by injection e with e; omega), hO.grown h4 ht hg⟩, _, bs, rfl, (hN.mono h5).keep (fun b hb => hg.block b (hN.lt b hb).2 (fun e => by injection e with e; have := (hN.lt b hb).1; omega))⟩
  · exact ⟨hT2, hnz, ⟨_, rfl⟩, i', A', n', c', hP.grown hg (fun e => by injection e with e; omega)⟩
theorem own_len {α : Type} {enc : α → Array Value} {size base : Nat} {e : TypeId} {w : World} {A : Option Addr} {n c : Nat} {ys : List α} (h : Own w base e size enc (.slice A n c) ys) : n = ys.length := by
  obtain ⟨A', c', hv, _, _⟩ := h.shape
  injection hv with _ hn _
theorem own_then {α : Type} {enc : α → Array Value} {size base : Nat} {e : TypeId} {w w' : World} {v : Value} {ys : List α} (h : Own w base e size enc v ys) (hB : Below w.heap.size w w') : Own w' base e size enc v ys := own_block h fun j hj => hB.block j (h.lt j hj).2
theorem own_tr {α : Type} {enc : α → Array Value} {size base lo g : Nat} {e : TypeId} {w w' : World} {v : Value} {ys : List α} (h : Own w base e size enc v ys) (ht : e ≠ 3) (hg : g < base) (k : TR lo g w w') : Own w' base e size enc v ys :=
  own_block h fun j hj => k.block j (h.lt j hj).2 (by have := (h.lt j hj).1; omega) (.inr fun ⟨cs', h'⟩ => by
    obtain ⟨cs, hc⟩ := own_typed h j hj
    have e1 := hc.symm.trans h'
    injection e1 with e1
    injection e1 with _ e1
    exact ht e1)
theorem wl_pushV {ops : Array Oper} {rest : List Oper} {o : Oper} {a : Act} {w : World} {Q : Exit → Act → World → Prop} (hgd : o.guard = none) (s x : Operand) (ho : o.op = .call { callee := .builtin .append, args := #[s, x], argTypes := #[25, 25] })
    {B : Nat} {A : Option Addr} {n c : Nat} {cl : List NV} (hL : Own w B 27 8 NV.C (.slice A n c) cl) {z : NV}
    (hs : a.eval s = .slice A n c) (g : Nat) (hx : a.eval x = .slice (some ⟨g, 0, none⟩) 1 1) (hb : Blk w g 27 z.C) (hmax : n ≤ 1000000) (hB : B ≤ w.heap.size)
    (h : ∀ A' c' w', Own w' B 27 8 NV.C (.slice A' (n + 1) c') (cl ++ [z]) → w.grownBy w' (Value.slice A n c).ownBlock → wpList Try.prog ops Q rest (a.put o.dst (.slice A' (n + 1) c')) w') : wpList Try.prog ops Q (o :: rest) a w := by
  have hi := info_node3
  cases hI : Try.prog.info? 27 with
  | none => rw [hI] at hi; cases hi
  | some ii =>
    rw [hI] at hi
    simp only [Option.map_some, Option.some.injEq, Prod.mk.injEq, Option.map_eq_some_iff] at hi
    obtain ⟨⟨z0, hz0, hz1⟩, hz2, hz3⟩ := hi
    have hcn : n = cl.length := own_len hL
    refine wl_append w hgd s x 25 ho B 27 ii z0 8 80 Try.underlying25 hI hz0 hz2 hz3 hz1 (by decide) NV.size NV.one _ cl hs hL w.heap.size (some ⟨g, 0, none⟩) 1 1 [z] hx rfl (slice_one hb) (by unfold maxLen; omega) (by omega) hB ?_
    intro v' w' ho' hg hv
    obtain ⟨A', c', rfl, _, _⟩ := ho'.shape
    have hl8 : (cl ++ [z]).length = n + 1 := by simp; omega
    rw [hl8] at ho' ⊢
    exact h _ _ _ ho' hg
set_option maxRecDepth 100000 in
set_option maxHeartbeats 16000000 in
theorem ralt_any (lo g : Nat) (p : ByteArray) (i n0 c0 d : Nat) (A0 : Option Addr) (inner : Option (Nat → Ere.Res Nd)) (hin : match d with
      | 0 => inner = none
      | d + 1 => RPatOk lo g p d ∧ inner = some (Ere.patR p d)) (hnd : n0 + d = 64) (w : World) (hP : Blk w g 82 (rrC p i A0 n0 c0 0 0)) (hO : OpenOk w lo A0 n0 c0) (hlo : lo ≤ w.heap.size) (hi : i ≤ p.size) (hp : p.size ≤ 1024) :
    Calls Try.prog 59 #[.pointer (some ⟨g, 0, none⟩)] w fun e w' => RtAns lo g p n0 w w.heap.size (Ere.altR p (decide (n0 = 0)) (Ere.pieceR p inner) (p.size + 2) i []) e w' := by
  obtain ⟨r, hr0⟩ : ∃ r, Ere.altR p (decide (n0 = 0)) (Ere.pieceR p inner) (p.size + 2) i [] = r := ⟨_, rfl⟩
  rw [hr0]
  have hinf : ∀ f, inner = some f → ∀ i t j, i ≤ p.size → f i = .got t j → i ≤ j ∧ j ≤ p.size := by
    intro f hf
    cases d with
    | zero => rw [hin] at hf; cases hf
    | succ d => rw [hin.2] at hf; injection hf with hf; subst hf; exact fun i t j h1 h2 => Ere.patR_fwd d i t j h1 h2
  have kPc := fun (i c : Nat) (A : Option Addr) (w : World) (hP : Blk w g 82 (rrC p i A n0 c 0 0)) (hO : OpenOk w lo A n0 c) (hlo : lo ≤ w.heap.size) (hi : i < p.size) => rpiece_any lo g p i n0 c d A inner hin hnd w hP hO hlo hi hp
  have hfwp := fun (i : Nat) (t : Nd) (j : Nat) (hi : i < p.size) (h : Ere.pieceR p inner i = .got t j) => Ere.pieceR_fwd hinf h hi
  obtain ⟨pc, hpc⟩ : ∃ f, Ere.pieceR p inner = f := ⟨_, rfl⟩
  rw [hpc] at hr0 kPc hfwp
  clear hpc hinf hin
  have hT := TR.refl lo g w
  have hgl := Lib.hid hP.lt
  have hpI : (p.size : Int) ≤ 1024 := by omega
  have hn0I : (n0 : Int) ≤ 64 := by omega
  replace hr0 := Lib.hid hr0
  replace kPc := Lib.hid kPc
  replace hfwp := Lib.hid hfwp
  replace hnd := Lib.hid hnd
  go_enter Try.func59, Try.ntmps59
  have h4 : Blk (w.alloc (.cells zeroC 27)) w.heap.size 27 zeroC := Blk.new' _ _ _ rfl
  have hB1 : Below w.heap.size w (w.alloc (.cells zeroC 27)) := below_alloc (Below.refl _ _) _
  unfold zeroC at h4 hB1
  go_upto_region 1 with (fail)
  obtain ⟨w1, hw1⟩ : ∃ y, y = w.alloc (.cells zeroC 27) := ⟨_, rfl⟩
  unfold zeroC at hw1
  rw [← hw1] at h4 hB1 ⊢
  clear hw1
  replace hP := blk_then hP hB1
  replace hO := hO.then_ hB1
  replace hT := hT.then_ hB1
  have h4l := h4.lt
  obtain ⟨g4, hg4e⟩ : ∃ y, y = w.heap.size := ⟨_, rfl⟩
  obtain ⟨B, hBe⟩ : ∃ y, y = w1.heap.size := ⟨_, rfl⟩
  have hwb := Lib.hid (show w.heap.size ≤ g4 ∧ g4 ≠ g ∧ g < w.heap.size ∧ g4 < B ∧ g < B ∧ w.heap.size ≤ B ∧ lo ≤ B by have := hgl.out; have := hB1.size; omega)
  have hBw : B ≤ w1.heap.size := by omega
  rw [← hg4e] at h4 ⊢
  clear hg4e h4l hB1 hBe hlo
  replace hBw := Lib.hid hBw
  replace hi := Lib.hid hi
  go_upto_block 0 with (fail)
  go_cut [3] from 4 to 49 (fun lv wx => ∃ (A : Option Addr) (n c : Nat) (cl : List NV), lv = .slice A n c ∧ n ≤ 2000 ∧ Own wx B 27 8 NV.C (.slice A n c) cl ∧ TR lo g w wx ∧ Blk wx g4 27 #[.int .i64 0, .int .u64 0, .int .u64 0, .int .u64 0, .int .u64 0, .slice none 0 0, .int .i64 0, .int .i64 0] ∧ LsEnd lo g p n0 B 3 A n c cl r wx)
  case first =>
    go_wp2_with (fail)
    go_loopw [3] (fun lv wr => ∃ (A : Option Addr) (n c : Nat) (cl : List NV), lv = .slice A n c ∧ n ≤ p.size + 1 ∧ Own wr B 27 8 NV.C (.slice A n c) cl ∧ B ≤ wr.heap.size ∧ TR lo g w wr ∧ Blk wr g4 27 #[.int .i64 0, .int .u64 0, .int .u64 0, .int .u64 0, .int .u64 0, .slice none 0 0, .int .i64 0, .int .i64 0] ∧
      ((∃ (l : List Nd) (bl : List (List Nat)) (j : Nat) (A5 : Option Addr) (c5 : Nat), NdL wr B A n c l cl bl ∧ n ≤ j ∧ j ≤ p.size ∧ Blk wr g 82 (rrC p j A5 n0 c5 0 0) ∧ OpenOk wr lo A5 n0 c5 ∧ r = Ere.altR p (decide (n0 = 0)) pc (p.size + 2 - n) j l) ∨
       (∃ en at_ i' A' n' c', en ≠ 0 ∧ r = .fault en at_ ∧ Blk wr g 82 (rrC p i' A' n' c' en at_)))) (fun lv _ => p.size + 2 - slLen lv)
    case atStart => exact ⟨none, 0, 0, [], rfl, by omega, Own.nil_ _ _ _ _ _, hBw.out, hT, h4, .inl ⟨[], [], i, A0, c0, NdL.nil_ _ _, by omega, hi.out, hP, hO, hr0.out.symm⟩⟩
    case round =>
      clear hT hP h4 hO hBw
      obtain ⟨A, n, c, cl, rfl, hnp, hOw, hBw, hT, h4, hst⟩ := hrel
      replace hnp := Lib.hid hnp
      replace hBw := Lib.hid hBw
      rcases hst with ⟨l, bl, j, A5, c5, hL, hnj, hjp, hP, hO, hit⟩ | ⟨en, at_, i', A', n', c', hnz, hr, hP⟩
      · have hfu : p.size + 2 - n = (p.size + 2 - (n + 1)) + 1 := by omega
        rw [hfu] at hit
        unfold Ere.altR at hit
        obtain ⟨b124, b124_e⟩ : ∃ b, Ere.isAt p j 124 = b := ⟨_, rfl⟩
        obtain ⟨b41, b41_e⟩ : ∃ b, Ere.isAt p j 41 = b := ⟨_, rfl⟩
        have k124 := ris_at hP j (j : Int) 124 124 rfl rfl b124_e
        have k41 := ris_at hP j (j : Int) 41 41 rfl rfl b41_e
        have kM := rmore_at hP j (j : Int) rfl rfl
        rw [b124_e, b41_e] at hit
        clear b124_e b41_e
        replace hit := Lib.hid hit
        replace hfu := Lib.hid hfu
        replace hL := Lib.hid hL
        have hnj2 := Lib.hid hnj
        have hjI : (j : Int) ≤ 1024 := by omega
        have c3 : wr.cell? ⟨g, 3, none⟩ = some (.int .i64 0) := hP.cellv rfl
        have c1 : wr.cell? ⟨g, 1, none⟩ = some (.int .i64 (j : Int)) := hP.cellv rfl
        clear hnj
        by_cases hjs : p.size ≤ j
        · rw [decide_eq_false (by omega)] at kM
          have hr := Lib.hid (show r = .got (Ere.someN 3 l) j by rw [hit.out, decide_eq_true hjs]; simp)
          clear hit
          go_wp2_with (go_at_call 68; refine kM.mono ?_; rintro e wy ⟨rfl, hwy⟩; rw [hwy]; clear hwy)
          go_meet
          exact ⟨A, n, c, cl, rfl, by have := hnp.out; omega, hOw, hT, h4, .inl ⟨l, bl, j, A5, c5, hL.out, hP, hO, hr.out⟩⟩
        · rw [decide_eq_true (by omega)] at kM
          have hjs2 := Lib.hid hjs
          have hit2 := hit.out
          rw [decide_eq_false hjs] at hit2
          simp only [Bool.false_or] at hit2
          clear hit hjs
          cases b124 with
          | true =>
            have hr := Lib.hid (show r = .got (Ere.someN 3 l) j by rw [hit2]; simp)
            clear hit2
            go_wp2_with (first | (go_at_call 68; refine kM.mono ?_; rintro e wy ⟨rfl, hwy⟩; rw [hwy]; clear hwy) | (go_at_call 60; refine k124.mono ?_; rintro e wy ⟨rfl, hwy⟩; rw [hwy]; clear hwy))
            go_meet
            exact ⟨A, n, c, cl, rfl, by have := hnp.out; omega, hOw, hT, h4, .inl ⟨l, bl, j, A5, c5, hL.out, hP, hO, hr.out⟩⟩
          | false =>
            simp only [Bool.false_eq_true, if_false] at hit2
            replace hit2 := Lib.hid hit2
            go_upto_region 3 with (first | (go_at_call 68; refine kM.mono ?_; rintro e wy ⟨rfl, hwy⟩; rw [hwy]; clear hwy) | (go_at_call 60; refine k124.mono ?_; rintro e wy ⟨rfl, hwy⟩; rw [hwy]; clear hwy))
            clear k124 kM
            cases b41 with
            | true =>
              have hit3 := hit2.out
              rw [if_pos rfl] at hit3
              have c2 : wr.cell? ⟨g, 2, none⟩ = some (.slice A5 n0 c5) := hP.cellv rfl
              by_cases hg0 : n0 = 0
              · have hr := Lib.hid (show r = .fault 42 j by rw [hit3, decide_eq_true hg0]; simp)
                have hg0I : ((n0 : Int) == 0) = true := beq_iff_eq.2 (by omega)
                have kF := rfault_any hP 42 j 42 (j : Int) rfl rfl
                clear hit3 hit2
                replace hg0 := Lib.hid hg0
                go_wp2_with (first | (go_at_call 60; refine k41.mono ?_; rintro e wy ⟨rfl, hwy⟩; rw [hwy]; clear hwy) | (go_at_call 42; refine kF.mono ?_; rintro e w8 ⟨rfl, hT8, hP8⟩))
                go_meet
                exact ⟨A, n, c, cl, rfl, by have := hnp.out; omega, own_tr hOw (by decide) hwb.out.2.2.2.2.1 (TR.of_turn (lo := lo) hT8), hT.turn hT8, blk_turn h4 hT8 (by have := hwb.out; omega), .inr ⟨42, j, j, A5, n0, c5, by decide, hr.out, hP8⟩⟩
              · have hg0I : ((n0 : Int) == 0) = false := beq_eq_false_iff_ne.2 (by omega)
                have hr := Lib.hid (show r = .got (Ere.someN 3 l) j by rw [hit3, decide_eq_false hg0]; simp)
                clear hit3 hit2
                replace hg0 := Lib.hid hg0
                go_wp2_with (go_at_call 60; refine k41.mono ?_; rintro e wy ⟨rfl, hwy⟩; rw [hwy]; clear hwy)
                go_meet
                exact ⟨A, n, c, cl, rfl, by have := hnp.out; omega, hOw, hT, h4, .inl ⟨l, bl, j, A5, c5, hL.out, hP, hO, hr.out⟩⟩
            | false =>
              have hit3 := hit2.out
              simp only [Bool.false_eq_true, if_false] at hit3
              clear hit2
              have kP := kPc.out j c5 A5 wr hP hO (by have := hBw.out; have := hwb.out; omega) (by have := hjs2.out; omega)
              have hfw := fun t k h => hfwp.out j t k (by have := hjs2.out; omega) h
              obtain ⟨rp, hrp⟩ : ∃ q, pc j = q := ⟨_, rfl⟩
              rw [hrp] at hit3 kP hfw
              replace hrp := Lib.hid hrp
              replace hit3 := Lib.hid hit3
              replace hfw := Lib.hid hfw
              have hn9 := Lib.hid (show n ≤ 1000000 by have := hnp.out; omega)
              have hLl := Lib.hid hL.out.lt
              cases rp with
              | fault e0 k0 =>
                have hr := Lib.hid (show r = .fault e0 k0 by rw [hit3.out]; rfl)
                clear hit3 hfw
                go_wp2_with (first
                  | (go_at_call 60; refine k41.mono ?_; rintro e wy ⟨rfl, hwy⟩; rw [hwy]; clear hwy)
                  | (go_at_call 69; refine kP.mono ?_; rintro e w5 ⟨hT5, hnz, ⟨x, rfl⟩, i', A2, n2, c2, hP5⟩
                     have hs5 := Lib.hid hT5.size
                     have hO6 := Lib.hid (own_then (own_tr hOw (by decide) hwb.out.2.2.2.2.1 hT5) (below_alloc (Below.refl w5.heap.size w5) (.cells x.C 27)))
                     have hBa := Lib.hid (below_alloc (Below.refl w5.heap.size w5) (.cells x.C 27)))
                  | (refine wl_build1n rfl _ rfl x rfl ?_)
                  | (at_builtin; refine wl_pushV rfl _ _ rfl hO6.out rfl _ rfl (Blk.new w5 27 x.C) hn9.out (by have := hBw.out; have := hs5.out; have := hBa.out.size; omega) ?_; intro A' c' w7 hO7 hg7))
                have hrow : ∀ q, (Value.slice A n c).ownBlock = some q → B ≤ q := fun q hq => (hLl.out q (List.mem_append_left _ (mem_ownL.2 hq))).1
                have hTz := ((hT.trans hT5).then_ hBa.out).grown hg7 (fun q e => by have := hrow q e; have := hwb.out; right; left; omega)
                have hPz := (blk_then hP5 hBa.out).grown hg7 (fun e => by have := hrow g e.symm; have := hwb.out; omega)
                have h4z := (blk_then (blk_tr h4 (by decide) hwb.out.2.1 hT5) hBa.out).grown hg7 (fun e => by have := hrow g4 e.symm; have := hwb.out; omega)
                have hBz : B ≤ w7.heap.size := by have := hBw.out; have := hs5.out; have := hBa.out.size; have := hg7.size; omega
                exact ⟨⟨A', n + 1, c', cl ++ [x], rfl, by have := hnj2.out; have := hjs2.out; omega, hO7, hBz, hTz, h4z, .inr ⟨e0, k0, i', A2, n2, c2, hnz, hr.out, hPz⟩⟩, by simp only [slLen]; have := hfu.out; omega⟩
              | got t k =>
                have hk := hfw.out t k rfl
                have hit4 := hit3.out
                simp only [Ere.Res.bind] at hit4
                clear hfw hit3
                replace hit4 := Lib.hid hit4
                replace hk := Lib.hid hk
                go_wp2_with (first
                  | (go_at_call 60; refine k41.mono ?_; rintro e wy ⟨rfl, hwy⟩; rw [hwy]; clear hwy)
                  | (go_at_call 69; refine kP.mono ?_; rintro e w5 ⟨hT5, ⟨A6, c6, hP5, hO5⟩, x, bs, rfl, hN5⟩
                     have hs5 := Lib.hid hT5.size
                     have hL6 := Lib.hid ((hL.out.tr hT5 hwb.out.2.2.2.2.1).then_ (below_alloc (Below.refl w5.heap.size w5) (.cells x.C 27)))
                     have hO6 := Lib.hid ((hN5.mono hBw.out).then_ (below_alloc (Below.refl w5.heap.size w5) (.cells x.C 27)))
                     have hdis := Lib.hid (show ∀ b ∈ bs, b ∉ ownL A ++ bl.flatten from fun b hb hb2 => by have := (hN5.lt b hb).1; have := (hLl.out b hb2).2; omega)
                     have hBa := Lib.hid (below_alloc (Below.refl w5.heap.size w5) (.cells x.C 27)))
                  | (refine wl_build1n rfl _ rfl x rfl ?_)
                  | (at_builtin; refine wl_pushN rfl _ _ rfl hL6.out hO6.out hdis.out rfl _ rfl (Blk.new w5 27 x.C) hn9.out (by have := hBw.out; have := hs5.out; have := hBa.out.size; omega) ?_; intro A' c' w7 hL7 hg7))
                have hrow : ∀ q, (Value.slice A n c).ownBlock = some q → B ≤ q := fun q hq => (hLl.out q (List.mem_append_left _ (mem_ownL.2 hq))).1
                have hTz := ((hT.trans hT5).then_ hBa.out).grown hg7 (fun q e => by have := hrow q e; have := hwb.out; right; left; omega)
                have hPz := (blk_then hP5 hBa.out).grown hg7 (fun e => by have := hrow g e.symm; have := hwb.out; omega)
                have h4z := (blk_then (blk_tr h4 (by decide) hwb.out.2.1 hT5) hBa.out).grown hg7 (fun e => by have := hrow g4 e.symm; have := hwb.out; omega)
                have hOz := (hO5.then_ hBa.out).keep (w' := w7) (fun b hb => hg7.block b (by have := (hO5.lt b hb).2; have := hBa.out.size; omega) (fun e => by
                  have q1 := own_typed hL6.out.ho b e.symm
                  obtain ⟨cs, q2⟩ := (hO5.then_ hBa.out).typed b hb
                  obtain ⟨cs', q1⟩ := q1
                  have e1 := q1.symm.trans q2
                  injection e1 with e1
                  injection e1 with _ e1
                  exact absurd e1 (by decide)))
                have hBz : B ≤ w7.heap.size := by have := hBw.out; have := hs5.out; have := hBa.out.size; have := hg7.size; omega
                exact ⟨⟨A', n + 1, c', cl ++ [x], rfl, by have := hnj2.out; have := hjs2.out; omega, hL7.ho, hBz, hTz, h4z, .inl ⟨l ++ [t], bl ++ [bs], k, A6, c6, hL7, by have := hk.out; have := hnj2.out; omega, hk.out.2, hPz, hOz, hit4.out⟩⟩, by simp only [slLen]; have := hfu.out; omega⟩
      · have c3 : wr.cell? ⟨g, 3, none⟩ = some (.int .i64 (en : Int)) := hP.cellv rfl
        have hE : ((en : Int) == 0) = false := beq_eq_false_iff_ne.2 (by omega)
        have hnz2 := Lib.hid hnz
        replace hr := Lib.hid hr
        clear hnz
        go_wp2_with (fail)
        go_meet
        exact ⟨A, n, c, cl, rfl, by have := hnp.out; omega, hOw, hT, h4, .inr ⟨en, at_, i', A', n', c', hnz2.out, hr.out, hP⟩⟩
  case rest =>
    clear hP hO hT h4 hBw hi
    obtain ⟨A, n, c, cl, rfl, hn, hOw, hT, h4, hE⟩ := hcut
    replace hE := Lib.hid hE
    have hlen := own_len hOw
    rcases cl with _ | ⟨y, _ | ⟨y2, cl⟩⟩
    · have hn0 : n = 0 := by simpa using hlen
      subst hn0
      clear hlen hn
      go_wp2_with (first | (refine wl_build_node rfl _ rfl ⟨1, 0, none, 0, 0, 0, 0⟩ #[(0, .int .i64 1)] rfl (fun w => build_leaf 1 w) ?_) | (refine wl_store_nv rfl _ _ rfl g4 ⟨1, 0, none, 0, 0, 0, 0⟩ rfl rfl _ rfl h4 ?_; intro w5 h5 hg5))
      exact ret_nv rfl rfl h5 rfl (hE.out.ans hT h4 (by decide) hg5 hwb.out.1 hwb.out.2.1 hwb.out.2.2.2.1 hwb.out.2.2.2.2.2.1 rfl)
    · have hn1 : n = 1 := by simpa using hlen
      subst hn1
      obtain ⟨gq, cap, hv, _, hgl2, _, _⟩ := hOw.form (by simp)
      injection hv with h1 h2 h3
      subst h1
      have hrow : RowAt wc gq (0 * 8) y.C := (hOw.row NV.size 0 (by simp))
      replace hrow := Lib.hid hrow
      clear hlen hn h2 h3 hgl2
      go_wp2_with (first | (refine wl_load_node_at rfl _ rfl gq _ rfl _ _ _ _ _ _ _ hrow.out ?_) | (refine wl_store_nv rfl _ _ rfl g4 y rfl rfl _ rfl h4 ?_; intro w5 h5 hg5))
      exact ret_nv rfl rfl h5 rfl (hE.out.ans hT h4 (by decide) hg5 hwb.out.1 hwb.out.2.1 hwb.out.2.2.2.1 hwb.out.2.2.2.2.2.1 rfl)
    · have hn2 : n = cl.length + 2 := by simpa using hlen
      have hz0 : ((n : Int) == 0) = false := beq_eq_false_iff_ne.2 (by omega)
      have hz1 : ((n : Int) == 1) = false := beq_eq_false_iff_ne.2 (by omega)
      clear hlen hn2 hn
      go_wp2_with (first | (refine wl_build_node rfl _ rfl ⟨3, 0, A, n, c, 0, 0⟩ #[(0, .int .i64 3), (2, .slice A n c)] rfl (fun w => build_nlist 3 A n c w) ?_) | (refine wl_store_nv rfl _ _ rfl g4 ⟨3, 0, A, n, c, 0, 0⟩ rfl rfl _ rfl h4 ?_; intro w5 h5 hg5))
      exact ret_nv rfl rfl h5 rfl (hE.out.ans hT h4 (by decide) hg5 hwb.out.1 hwb.out.2.1 hwb.out.2.2.2.1 hwb.out.2.2.2.2.2.1 rfl)
end Go.Proofs.Ytajainmldcnaeaa
namespace Go.Proofs.Ytajainmldcnaeaa
open Go.RowKit Go.Maps
set_option linter.unusedVariables false
set_option linter.unusedSimpArgs false
attribute [local go_sem] Oper.semAt_some

theorem own_one {w w' : World} {B g : Nat} {x : NV} (hw : Below w.heap.size w w') (hg : w.heap.size ≤ g) (hb : Blk w' g 27 x.C) (hB : B ≤ w.heap.size) : Own w' B 27 8 NV.C (.slice (some ⟨g, 0, none⟩) 1 1) [x] :=
  ⟨by simp [flat, NV.size], .inr ⟨g, 1, x.C, rfl, by omega, hb, Nat.le_refl _, by unfold maxLen; omega, by simp [NV.size], by rw [List.take_of_length_le (by simp [NV.size])]; simp [flat]⟩⟩
/-- how the alternatives' reader stands: as it should, or with a fault -/
def PatSt (lo g : Nat) (p : ByteArray) (n0 B : Nat) (al : Nat → Ere.Res Nd) (A : Option Addr) (n c : Nat) (cl : List NV) (r : Ere.Res Nd) (w : World) : Prop :=
  (∃ (l : List Nd) (bl : List (List Nat)) (j : Nat) (A5 : Option Addr) (c5 : Nat), NdL w B A n c l cl bl ∧ n ≤ j + 1 ∧ j ≤ p.size ∧ Blk w g 82 (rrC p j A5 n0 c5 0 0) ∧ OpenOk w lo A5 n0 c5 ∧ r = (if Ere.isAt p j 124 = true then Ere.patL p al (p.size + 2 - n) (j + 1) l else .got (Ere.someN 4 l) j)) ∨
  (∃ en at_ i' A' n' c', en ≠ 0 ∧ r = .fault en at_ ∧ Blk w g 82 (rrC p i' A' n' c' en at_))
set_option maxRecDepth 100000 in
set_option maxHeartbeats 16000000 in
theorem rpat_step (lo g : Nat) (p : ByteArray) (i n0 c0 : Nat) (A0 : Option Addr) (al : Nat → Ere.Res Nd) (hp : p.size ≤ 1024) (hn0 : n0 ≤ 64) (hfwa : ∀ i t j, i ≤ p.size → al i = .got t j → i ≤ j ∧ j ≤ p.size)
    (kAl : ∀ (i c : Nat) (A : Option Addr) (w : World), Blk w g 82 (rrC p i A n0 c 0 0) → OpenOk w lo A n0 c → lo ≤ w.heap.size → i ≤ p.size →
      Calls Try.prog 59 #[.pointer (some ⟨g, 0, none⟩)] w fun e w' => RtAns lo g p n0 w w.heap.size (al i) e w')
    (w : World) (hP : Blk w g 82 (rrC p i A0 n0 c0 0 0)) (hO : OpenOk w lo A0 n0 c0) (hlo : lo ≤ w.heap.size) (hi : i ≤ p.size) :
    Calls Try.prog 41 #[.pointer (some ⟨g, 0, none⟩)] w fun e w' => RtAns lo g p n0 w w.heap.size (Ere.patL p al (p.size + 2) i []) e w' := by
  obtain ⟨r, hr0⟩ : ∃ r, Ere.patL p al (p.size + 2) i [] = r := ⟨_, rfl⟩
  rw [hr0]
  have hT := TR.refl lo g w
  have hgl := Lib.hid hP.lt
  have hpI : (p.size : Int) ≤ 1024 := by omega
  have hn0I : (n0 : Int) ≤ 64 := by omega
  unfold Ere.patL at hr0
  replace hr0 := Lib.hid hr0
  replace kAl := Lib.hid kAl
  replace hfwa := Lib.hid hfwa
  replace hi := Lib.hid hi
  go_enter Try.func41, Try.ntmps41
  have h4 : Blk (w.alloc (.cells zeroC 27)) w.heap.size 27 zeroC := Blk.new' _ _ _ rfl
  have hB1 : Below w.heap.size w (w.alloc (.cells zeroC 27)) := below_alloc (Below.refl _ _) _
  unfold zeroC at h4 hB1
  go_upto_region 1 with (fail)
  obtain ⟨w1, hw1⟩ : ∃ y, y = w.alloc (.cells zeroC 27) := ⟨_, rfl⟩
  unfold zeroC at hw1
  rw [← hw1] at h4 hB1 ⊢
  clear hw1
  replace hP := blk_then hP hB1
  replace hO := hO.then_ hB1
  replace hT := hT.then_ hB1
  have h4l := h4.lt
  obtain ⟨g4, hg4e⟩ : ∃ y, y = w.heap.size := ⟨_, rfl⟩
  obtain ⟨B, hBe⟩ : ∃ y, y = w1.heap.size := ⟨_, rfl⟩
  have hwb := Lib.hid (show w.heap.size ≤ g4 ∧ g4 ≠ g ∧ g < w.heap.size ∧ g4 < B ∧ g < B ∧ w.heap.size ≤ B ∧ lo ≤ B by have := hgl.out; have := hB1.size; omega)
  have hBw := Lib.hid (show B ≤ w1.heap.size by omega)
  rw [← hg4e] at h4 ⊢
  clear hg4e h4l hB1 hBe hlo
  have kA := kAl.out i c0 A0 w1 hP hO (by have := hBw.out; have := hwb.out; omega) hi.out
  have hfw := fun t k h => hfwa.out i t k hi.out h
  obtain ⟨ra, hra⟩ : ∃ q, al i = q := ⟨_, rfl⟩
  have hr1 := hr0.out
  rw [hra] at hr1 kA hfw
  clear hr0
  replace hra := Lib.hid hra
  replace hr1 := Lib.hid hr1
  replace hfw := Lib.hid hfw
  go_cut [3] from 4 to 7 (fun lv wx => ∃ (A : Option Addr) (n c : Nat) (cl : List NV), lv = .slice A n c ∧ 1 ≤ n ∧ n ≤ p.size + 1 ∧ Own wx B 27 8 NV.C (.slice A n c) cl ∧ B ≤ wx.heap.size ∧ TR lo g w wx ∧ Blk wx g4 27 #[.int .i64 0, .int .u64 0, .int .u64 0, .int .u64 0, .int .u64 0, .slice none 0 0, .int .i64 0, .int .i64 0] ∧ PatSt lo g p n0 B al A n c cl r wx)
  case first =>
    cases ra with
    | fault e0 k0 =>
      have hr := Lib.hid (show r = .fault e0 k0 from hr1.out.symm)
      clear hr1 hfw
      go_wp2_with (first
        | (go_at_call 59; refine kA.mono ?_; rintro e w5 ⟨hT5, hnz, ⟨x, rfl⟩, i', A2, n2, c2, hP5⟩)
        | (refine wl_build1n rfl _ rfl x rfl ?_))
      go_meet
      have hBa := below_alloc (Below.refl w5.heap.size w5) (.cells x.C 27)
      have hBs : B ≤ w5.heap.size := by have := hBw.out; have := hT5.size; omega
      exact ⟨_, 1, 1, [x], rfl, by omega, by omega, own_one hBa (Nat.le_refl _) (Blk.new w5 27 x.C) hBs, by have := hBa.size; omega, (hT.trans hT5).then_ hBa, blk_then (blk_tr h4 (by decide) hwb.out.2.1 hT5) hBa, .inr ⟨e0, k0, i', A2, n2, c2, hnz, hr.out, blk_then hP5 hBa⟩⟩
    | got t k =>
      have hk := hfw.out t k rfl
      have hr2 := hr1.out
      simp only [Ere.Res.bind, List.nil_append] at hr2
      clear hr1 hfw
      replace hr2 := Lib.hid hr2
      replace hk := Lib.hid hk
      go_wp2_with (first
        | (go_at_call 59; refine kA.mono ?_; rintro e w5 ⟨hT5, ⟨A6, c6, hP5, hO5⟩, x, bs, rfl, hN5⟩)
        | (refine wl_build1n rfl _ rfl x rfl ?_))
      go_meet
      have hBa := below_alloc (Below.refl w5.heap.size w5) (.cells x.C 27)
      have hBs : B ≤ w5.heap.size := by have := hBw.out; have := hT5.size; omega
      have hL1 := NdL.one (hN5.mono hBw.out) hBa (Nat.le_refl _) (Blk.new w5 27 x.C) hBs
      exact ⟨_, 1, 1, [x], rfl, by omega, by omega, hL1.ho, by have := hBa.size; omega, (hT.trans hT5).then_ hBa, blk_then (blk_tr h4 (by decide) hwb.out.2.1 hT5) hBa, .inl ⟨[t], [bs], k, A6, c6, hL1, by omega, hk.out.2, blk_then hP5 hBa, hO5.then_ hBa, by rw [show p.size + 2 - 1 = p.size + 1 from rfl]; exact hr2.out.symm⟩⟩
  case rest =>
    clear hP hO hT h4 hBw hi kA hfw hr1 hra
    obtain ⟨A, n, c, cl, rfl, hn1, hnp, hOw, hBw, hT, h4, hst⟩ := hcut
    replace hn1 := Lib.hid hn1
    replace hnp := Lib.hid hnp
    replace hBw := Lib.hid hBw
    replace hst := Lib.hid hst
    go_upto_block 0 with (fail)
    go_cut [3] from 7 to 33 (fun lv wx => ∃ (A : Option Addr) (n c : Nat) (cl : List NV), lv = .slice A n c ∧ 1 ≤ n ∧ n ≤ 2000 ∧ Own wx B 27 8 NV.C (.slice A n c) cl ∧ TR lo g w wx ∧ Blk wx g4 27 #[.int .i64 0, .int .u64 0, .int .u64 0, .int .u64 0, .int .u64 0, .slice none 0 0, .int .i64 0, .int .i64 0] ∧ LsEnd lo g p n0 B 4 A n c cl r wx)
    case first =>
      go_wp2_with (fail)
      go_loopw [3] (fun lv wr => ∃ (A : Option Addr) (n c : Nat) (cl : List NV), lv = .slice A n c ∧ 1 ≤ n ∧ n ≤ p.size + 1 ∧ Own wr B 27 8 NV.C (.slice A n c) cl ∧ B ≤ wr.heap.size ∧ TR lo g w wr ∧ Blk wr g4 27 #[.int .i64 0, .int .u64 0, .int .u64 0, .int .u64 0, .int .u64 0, .slice none 0 0, .int .i64 0, .int .i64 0] ∧ PatSt lo g p n0 B al A n c cl r wr) (fun lv _ => p.size + 2 - slLen lv)
      case atStart => exact ⟨A, n, c, cl, rfl, hn1.out, hnp.out, hOw, hBw.out, hT, h4, hst.out⟩
      case round =>
        clear hT h4 hBw hst hOw hn1 hnp
        obtain ⟨A, n, c, cl, rfl, hn1, hnp, hOw, hBw, hT, h4, hst⟩ := hrel
        replace hn1 := Lib.hid hn1
        replace hnp := Lib.hid hnp
        replace hBw := Lib.hid hBw
        rcases hst with ⟨l, bl, j, A5, c5, hL, hnj, hjp, hP, hO, hit⟩ | ⟨en, at_, i', A', n', c', hnz, hr, hP⟩
        · obtain ⟨b124, b124_e⟩ : ∃ b, Ere.isAt p j 124 = b := ⟨_, rfl⟩
          have k124 := ris_at hP j (j : Int) 124 124 rfl rfl b124_e
          rw [b124_e] at hit
          have hjl : b124 = true → j < p.size := fun h => Ere.isAt_lt (b124_e.trans h)
          clear b124_e
          replace hit := Lib.hid hit
          replace hL := Lib.hid hL
          replace hjl := Lib.hid hjl
          replace hnj := Lib.hid hnj
          have hjI : (j : Int) ≤ 1024 := by omega
          have c3 : wr.cell? ⟨g, 3, none⟩ = some (.int .i64 0) := hP.cellv rfl
          have c1 : wr.cell? ⟨g, 1, none⟩ = some (.int .i64 (j : Int)) := hP.cellv rfl
          have f1 := hP.frozen 1
          cases b124 with
          | false =>
            have hr := Lib.hid (show r = .got (Ere.someN 4 l) j by rw [hit.out]; simp)
            clear hit
            go_wp2_with (go_at_call 60; refine k124.mono ?_; rintro e wy ⟨rfl, hwy⟩; rw [hwy]; clear hwy)
            go_meet
            exact ⟨A, n, c, cl, rfl, hn1.out, by have := hnp.out; omega, hOw, hT, h4, .inl ⟨l, bl, j, A5, c5, hL.out, hP, hO, hr.out⟩⟩
          | true =>
            have hjlt := hjl.out rfl
            have hit2 := hit.out
            rw [if_pos rfl] at hit2
            have hfu : p.size + 2 - n = (p.size + 2 - (n + 1)) + 1 := by have := hnj.out; omega
            rw [hfu] at hit2
            unfold Ere.patL at hit2
            clear hit hjl
            replace hfu := Lib.hid hfu
            replace hit2 := Lib.hid hit2
            replace hjlt := Lib.hid hjlt
            go_upto_region 4 with (go_at_call 60; refine k124.mono ?_; rintro e wy ⟨rfl, hwy⟩; rw [hwy]; clear hwy)
            have hP2 : Blk (wr.setCell ⟨g, 1, none⟩ (.int .i64 ((j : Int) + 1))) g 82 (rrC p (j + 1) A5 n0 c5 0 0) := hP.set_ 1 (.int .i64 ((j : Int) + 1))
            have hTs := turnRd (Turn.refl g (g + 1) wr) 1 (.int .i64 ((j : Int) + 1))
            have hT2 := hT.turn hTs
            have hO2 := hO.turn hP (by decide) hTs
            have h42 := h4.far (p := ⟨g, 1, none⟩) (by have := hwb.out; simp; omega) (.int .i64 ((j : Int) + 1))
            have hL2 := Lib.hid (hL.out.turn hTs hwb.out.2.2.2.2.1)
            have hOw2 := own_tr hOw (by decide) hwb.out.2.2.2.2.1 (TR.of_turn (lo := lo) hTs)
            obtain ⟨w2, hw2⟩ : ∃ y, y = wr.setCell ⟨g, 1, none⟩ (.int .i64 ((j : Int) + 1)) := ⟨_, rfl⟩
            rw [← hw2] at hP2 hTs hT2 hO2 h42 hL2 hOw2 ⊢
            have hBw2 := Lib.hid (show B ≤ w2.heap.size from Nat.le_trans hBw.out hTs.size)
            clear hw2 hTs c1 c3 f1 hP hT hO h4 hL hOw hBw k124
            have kA := kAl.out (j + 1) c5 A5 w2 hP2 hO2 (by have := hBw2.out; have := hwb.out; omega) (by have := hjlt.out; omega)
            have hfw := fun t k h => hfwa.out (j + 1) t k (by have := hjlt.out; omega) h
            obtain ⟨ra, hra⟩ : ∃ q, al (j + 1) = q := ⟨_, rfl⟩
            have hit3 := hit2.out
            rw [hra] at hit3 kA hfw
            replace hra := Lib.hid hra
            replace hit3 := Lib.hid hit3
            replace hfw := Lib.hid hfw
            clear hit2
            have hn9 := Lib.hid (show n ≤ 1000000 by have := hnp.out; omega)
            have hLl := Lib.hid hL2.out.lt
            cases ra with
            | fault e0 k0 =>
              have hr := Lib.hid (show r = .fault e0 k0 by rw [hit3.out]; rfl)
              clear hit3 hfw
              go_wp2_with (first
                | (go_at_call 59; refine kA.mono ?_; rintro e w5 ⟨hT5, hnz, ⟨x, rfl⟩, i', A2, n2, c2, hP5⟩
                   have hs5 := Lib.hid hT5.size
                   have hO6 := Lib.hid (own_then (own_tr hOw2 (by decide) hwb.out.2.2.2.2.1 hT5) (below_alloc (Below.refl w5.heap.size w5) (.cells x.C 27)))
                   have hBa := Lib.hid (below_alloc (Below.refl w5.heap.size w5) (.cells x.C 27)))
                | (refine wl_build1n rfl _ rfl x rfl ?_)
                | (at_builtin; refine wl_pushV rfl _ _ rfl hO6.out rfl _ rfl (Blk.new w5 27 x.C) hn9.out (by have := hBw2.out; have := hs5.out; have := hBa.out.size; omega) ?_; intro A' c' w7 hO7 hg7))
              have hrow : ∀ q, (Value.slice A n c).ownBlock = some q → B ≤ q := fun q hq => (hLl.out q (List.mem_append_left _ (mem_ownL.2 hq))).1
              have hTz := ((hT2.trans hT5).then_ hBa.out).grown hg7 (fun q e => by have := hrow q e; have := hwb.out; right; left; omega)
              have hPz := (blk_then hP5 hBa.out).grown hg7 (fun e => by have := hrow g e.symm; have := hwb.out; omega)
              have h4z := (blk_then (blk_tr h42 (by decide) hwb.out.2.1 hT5) hBa.out).grown hg7 (fun e => by have := hrow g4 e.symm; have := hwb.out; omega)
              have hBz : B ≤ w7.heap.size := by have := hBw2.out; have := hs5.out; have := hBa.out.size; have := hg7.size; omega
              exact ⟨⟨A', n + 1, c', cl ++ [x], rfl, by omega, by have := hnj.out; have := hjlt.out; omega, hO7, hBz, hTz, h4z, .inr ⟨e0, k0, i', A2, n2, c2, hnz, hr.out, hPz⟩⟩, by simp only [slLen]; have := hfu.out; omega⟩
            | got t k =>
              have hk := hfw.out t k rfl
              have hit4 := hit3.out
              simp only [Ere.Res.bind] at hit4
              clear hfw hit3
              replace hit4 := Lib.hid hit4
              replace hk := Lib.hid hk
              go_wp2_with (first
                | (go_at_call 59; refine kA.mono ?_; rintro e w5 ⟨hT5, ⟨A6, c6, hP5, hO5⟩, x, bs, rfl, hN5⟩
                   have hs5 := Lib.hid hT5.size
                   have hL6 := Lib.hid ((hL2.out.tr hT5 hwb.out.2.2.2.2.1).then_ (below_alloc (Below.refl w5.heap.size w5) (.cells x.C 27)))
                   have hO6 := Lib.hid ((hN5.mono hBw2.out).then_ (below_alloc (Below.refl w5.heap.size w5) (.cells x.C 27)))
                   have hdis := Lib.hid (show ∀ b ∈ bs, b ∉ ownL A ++ bl.flatten from fun b hb hb2 => by have := (hN5.lt b hb).1; have := (hLl.out b hb2).2; omega)
                   have hBa := Lib.hid (below_alloc (Below.refl w5.heap.size w5) (.cells x.C 27)))
                | (refine wl_build1n rfl _ rfl x rfl ?_)
                | (at_builtin; refine wl_pushN rfl _ _ rfl hL6.out hO6.out hdis.out rfl _ rfl (Blk.new w5 27 x.C) hn9.out (by have := hBw2.out; have := hs5.out; have := hBa.out.size; omega) ?_; intro A' c' w7 hL7 hg7))
              have hrow : ∀ q, (Value.slice A n c).ownBlock = some q → B ≤ q := fun q hq => (hLl.out q (List.mem_append_left _ (mem_ownL.2 hq))).1
              have hTz := ((hT2.trans hT5).then_ hBa.out).grown hg7 (fun q e => by have := hrow q e; have := hwb.out; right; left; omega)
              have hPz := (blk_then hP5 hBa.out).grown hg7 (fun e => by have := hrow g e.symm; have := hwb.out; omega)
              have h4z := (blk_then (blk_tr h42 (by decide) hwb.out.2.1 hT5) hBa.out).grown hg7 (fun e => by have := hrow g4 e.symm; have := hwb.out; omega)
              have hOz := (hO5.then_ hBa.out).keep (w' := w7) (fun b hb => hg7.block b (by have := (hO5.lt b hb).2; have := hBa.out.size; omega) (fun e => by
                obtain ⟨cs, q2⟩ := (hO5.then_ hBa.out).typed b hb
                obtain ⟨cs', q1⟩ := own_typed hL6.out.ho b e.symm
                have e1 := q1.symm.trans q2
                injection e1 with e1
                injection e1 with _ e1
                exact absurd e1 (by decide)))
              have hBz : B ≤ w7.heap.size := by have := hBw2.out; have := hs5.out; have := hBa.out.size; have := hg7.size; omega
              exact ⟨⟨A', n + 1, c', cl ++ [x], rfl, by omega, by have := hnj.out; have := hjlt.out; omega, hL7.ho, hBz, hTz, h4z, .inl ⟨l ++ [t], bl ++ [bs], k, A6, c6, hL7, by have := hk.out; have := hnj.out; omega, hk.out.2, hPz, hOz, hit4.out⟩⟩, by simp only [slLen]; have := hfu.out; omega⟩
        · have c3 : wr.cell? ⟨g, 3, none⟩ = some (.int .i64 (en : Int)) := hP.cellv rfl
          have hE : ((en : Int) == 0) = false := beq_eq_false_iff_ne.2 (by omega)
          have hnz2 := Lib.hid hnz
          replace hr := Lib.hid hr
          clear hnz
          go_wp2_with (fail)
          go_meet
          exact ⟨A, n, c, cl, rfl, hn1.out, by have := hnp.out; omega, hOw, hT, h4, .inr ⟨en, at_, i', A', n', c', hnz2.out, hr.out, hP⟩⟩
    case rest =>
      clear hT h4 hBw hst hOw hn1 hnp
      obtain ⟨A, n, c, cl, rfl, hn1, hn, hOw, hT, h4, hE⟩ := hcut
      replace hE := Lib.hid hE
      have hlen := own_len hOw
      rcases cl with _ | ⟨y, _ | ⟨y2, cl⟩⟩
      · have hn0 : n = 0 := by simpa using hlen
        omega
      · have hn1 : n = 1 := by simpa using hlen
        subst hn1
        obtain ⟨gq, cap, hv, _, hgl2, _, _⟩ := hOw.form (by simp)
        injection hv with h1 h2 h3
        subst h1
        have hrow : RowAt _ gq (0 * 8) y.C := (hOw.row NV.size 0 (by simp))
        replace hrow := Lib.hid hrow
        clear hlen hn h2 h3 hgl2
        go_wp2_with (first | (refine wl_load_node_at rfl _ rfl gq _ rfl _ _ _ _ _ _ _ hrow.out ?_) | (refine wl_store_nv rfl _ _ rfl g4 y rfl rfl _ rfl h4 ?_; intro w5 h5 hg5))
        exact ret_nv rfl rfl h5 rfl (hE.out.ans hT h4 (by decide) hg5 hwb.out.1 hwb.out.2.1 hwb.out.2.2.2.1 hwb.out.2.2.2.2.2.1 rfl)
      · have hn2 : n = cl.length + 2 := by simpa using hlen
        have hz1 : ((n : Int) == 1) = false := beq_eq_false_iff_ne.2 (by omega)
        clear hlen hn2 hn hn1
        go_wp2_with (first | (refine wl_build_node rfl _ rfl ⟨4, 0, A, n, c, 0, 0⟩ #[(0, .int .i64 4), (2, .slice A n c)] rfl (fun w => build_nlist 4 A n c w) ?_) | (refine wl_store_nv rfl _ _ rfl g4 ⟨4, 0, A, n, c, 0, 0⟩ rfl rfl _ rfl h4 ?_; intro w5 h5 hg5))
        exact ret_nv rfl rfl h5 rfl (hE.out.ans hT h4 (by decide) hg5 hwb.out.1 hwb.out.2.1 hwb.out.2.2.2.1 hwb.out.2.2.2.2.2.1 rfl)
theorem rpat_any (lo g : Nat) (p : ByteArray) (hp : p.size ≤ 1024) : ∀ d, RPatOk lo g p d
  | 0 => fun i n c A w hnd hP hO hlo hi => by
    have h64 : n = 64 := by omega
    have e := Ere.patR.eq_1 p i
    rw [e]
    refine rpat_step lo g p i n c A _ hp (by omega) (fun i t j h1 h2 => Ere.altR_fwd (fun i t j hi h => Ere.pieceR_fwd (fun f e => by cases e) h hi) _ _ _ _ _ h1 h2) (fun i c A w hP hO hlo hi => ?_) w hP hO hlo hi
    have := ralt_any lo g p i n c 0 A none rfl hnd w hP hO hlo hi hp
    rwa [decide_eq_false (by omega)] at this
  | d + 1 => fun i n c A w hnd hP hO hlo hi => by
    have e := Ere.patR.eq_2 p i d
    rw [e]
    refine rpat_step lo g p i n c A _ hp (by omega) (fun i t j h1 h2 => Ere.altR_fwd (fun i t j hi h => Ere.pieceR_fwd (fun f e => by injection e with e; subst e; exact fun i t j h1 h2 => Ere.patR_fwd d i t j h1 h2) h hi) _ _ _ _ _ h1 h2) (fun i c A w hP hO hlo hi => ?_) w hP hO hlo hi
    have := ralt_any lo g p i n c (d + 1) A (some (Ere.patR p d)) ⟨rpat_any lo g p hp d, rfl⟩ hnd w hP hO hlo hi hp
    rwa [show decide (n = 0) = decide (d + 1 = 64) by congr 1; simp only [eq_iff_iff]; omega] at this
end Go.Proofs.Ytajainmldcnaeaa
