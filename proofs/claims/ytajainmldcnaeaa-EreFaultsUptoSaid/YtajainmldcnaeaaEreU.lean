/- ere: a set behind its '['. No condition beyond those named in each lemma. -/
import Derived.Test.YtajainmldcnaeaaEreT
import Derived.Deep.RegionWith
namespace Go.Proofs.Ytajainmldcnaeaa
open Go.RowKit Go.Maps
set_option linter.unusedVariables false
set_option linter.unusedSimpArgs false
attribute [local go_sem] Oper.semAt_some

namespace Ere
theorem classR_fwd {p : ByteArray} {s i j : Nat} {x : BSet} (h : classR p s i = .got x j) : i < j ∧ j ≤ p.size := by
  unfold classR at h
  split at h
  · cases h
  · rename_i k hk
    obtain ⟨h1, h2, _⟩ := endAt_some p p.size (i + 2) k hk
    have := h2.1
    split at h
    · cases h
    · injection h with _ h
      omega
theorem itemR_fwd {p : ByteArray} {s i j : Nat} {x : BSet} (h : itemR p s i = .got x j) (hi : i < p.size) : i < j ∧ j ≤ p.size := by
  unfold itemR at h
  split at h
  · exact classR_fwd h
  · split at h
    · cases h
    · split at h
      · injection h with _ h; omega
      · rename_i h1 h2 h3
        split at h
        · cases h
        · injection h with _ h
          simp only [Bool.or_eq_true, Bool.not_eq_true', decide_eq_true_eq, not_or] at h3
          omega
theorem itemsR_fwd {p : ByteArray} {s : Nat} : ∀ n first i x y j, itemsR p s n first i x = .got y j → i ≤ j ∧ j < p.size
  | 0, _, _, _, _, _, h => by cases h
  | n + 1, first, i, x, y, j, h => by
    unfold itemsR at h
    split at h
    · rename_i h1
      injection h with _ h
      simp only [Bool.and_eq_true] at h1
      have := isAt_lt h1.2
      omega
    · split at h
      · cases h
      · cases ht : itemR p s i with
        | fault e k => rw [ht] at h; cases h
        | got t k =>
          rw [ht] at h
          have h1 := itemR_fwd ht (by omega)
          have h2 := itemsR_fwd n false k (x ||| t) y j h
          omega
end Ere
theorem joinL_two (x y : BSet) : joinL [x, y] = x ||| y := by simp [joinL]
set_option maxRecDepth 100000 in
set_option maxHeartbeats 4000000 in
theorem rset_any (g : Nat) (p : ByteArray) (i s : Nat) (w : World) (hP : Blk w g 76 (rdC p i)) (hi : i ≤ p.size) (hp : p.size ≤ 1024) (hM : Mx w) (h0 : 0 < g) :
    Calls Try.prog 78 #[.pointer (some ⟨g, 0, none⟩), .int .i64 (s : Int)] w fun e w' => NdAns g p w w.heap.size (Ere.setR p s i) e w' := by
  obtain ⟨r, hr0⟩ : ∃ r, Ere.setR p s i = r := ⟨_, rfl⟩
  rw [hr0]
  have hR := hr0
  unfold Ere.setR at hR
  obtain ⟨b94, b94_e⟩ : ∃ b, Ere.isAt p i 94 = b := ⟨_, rfl⟩
  rw [b94_e] at hR
  obtain ⟨i0, hi0e⟩ : ∃ k, (if b94 = true then i + 1 else i) = k := ⟨_, rfl⟩
  rw [hi0e] at hR
  have hi0 : i0 ≤ p.size := by
    rw [← hi0e]
    split
    · rename_i h
      have := Ere.isAt_lt (b94_e.trans h)
      omega
    · exact hi
  obtain ⟨rs, hrs⟩ : ∃ r, Ere.itemsR p s (p.size + 2) true i0 0 = r := ⟨_, rfl⟩
  rw [hrs] at hR
  clear hr0
  replace hR := Lib.hid hR
  replace b94_e := Lib.hid b94_e
  replace hi0e := Lib.hid hi0e
  replace hrs := Lib.hid hrs
  have hT := Turn.refl g (g + 1) w
  have hgl := Lib.hid hP.lt
  have hpI : (p.size : Int) ≤ 1024 := by omega
  have hiI : (i : Int) ≤ 1024 := by omega
  go_enter Try.func78, Try.ntmps78
  have h4 : Blk (w.alloc (.cells zeroC 27)) w.heap.size 27 zeroC := Blk.new' _ _ _ rfl
  have hB1 : Below w.heap.size w (w.alloc (.cells zeroC 27)) := below_alloc (Below.refl _ _) _
  unfold zeroC at h4 hB1
  go_upto_region 1 with (fail)
  obtain ⟨w1, hw1⟩ : ∃ y, y = w.alloc (.cells zeroC 27) := ⟨_, rfl⟩
  unfold zeroC at hw1
  rw [← hw1] at h4 hB1 ⊢
  clear hw1
  replace hP := blk_then hP hB1
  replace hT := hT.then_ hB1
  replace hM := hM.then_ hB1
  clear hB1
  obtain ⟨g4, hg4e⟩ : ∃ y, y = w.heap.size := ⟨_, rfl⟩
  have hwb := Lib.hid (show w.heap.size ≤ g4 ∧ g4 ≠ g ∧ 0 < g ∧ g < w.heap.size by have := hgl.out; omega)
  rw [← hg4e] at h4 ⊢
  clear hg4e h0
  have c1 : w1.cell? ⟨g, 1, none⟩ = some (.int .i64 (i : Int)) := hP.cellv rfl
  have k94 := is_at g p i i 94 94 w1 hP rfl b94_e.out
  go_upto_if 14 with (go_at_call 57; refine k94.mono ?_; rintro e w2 ⟨rfl, hB⟩)
  replace hP := blk_then hP hB
  replace hT := hT.then_ hB
  replace hM := hM.then_ hB
  replace h4 := blk_then h4 hB
  clear k94 hB c1
  go_cut [] from 15 to 21 (fun wx => Turn g (g + 1) w2 wx ∧ Blk wx g 76 (rdC p i0))
  case first =>
    cases b94 with
    | false =>
      go_wp2_with (fail)
      go_meet
      have e := hi0e.out
      simp only [Bool.false_eq_true, if_false] at e
      subst e
      exact ⟨Turn.refl _ _ _, hP⟩
    | true =>
      have e := hi0e.out
      simp only [if_true] at e
      replace e := Lib.hid e
      have c1 : w2.cell? ⟨g, 1, none⟩ = some (.int .i64 (i : Int)) := hP.cellv rfl
      have f1 := hP.frozen 1
      go_wp2_with (fail)
      go_meet
      rw [← e.out]
      exact ⟨turnRd (Turn.refl _ _ _) 1 _, setRd hP (by congr 1)⟩
  case rest =>
    obtain ⟨hTc, hPc⟩ := hcut
    replace hT := hT.trans hTc
    replace hM := hM.turn hTc hwb.out.2.2.1
    replace h4 := blk_turn h4 hTc (by have := hwb.out; omega)
    clear hTc hP
    have hP := hPc
    clear hPc
    go_upto_region 5 with (fail)
    have h6 : Blk (wc.alloc (.cells #[.int .u64 0, .int .u64 0, .int .u64 0, .int .u64 0] 24)) wc.heap.size 24 (setC 0) := by rw [set0_eq]; exact Blk.new' _ _ _ rfl
    have hB3 : Below wc.heap.size wc (wc.alloc (.cells #[.int .u64 0, .int .u64 0, .int .u64 0, .int .u64 0] 24)) := below_alloc (Below.refl _ _) _
    obtain ⟨w3, hw3⟩ : ∃ y, y = wc.alloc (.cells #[.int .u64 0, .int .u64 0, .int .u64 0, .int .u64 0] 24) := ⟨_, rfl⟩
    rw [← hw3] at h6 hB3 ⊢
    clear hw3
    replace hP := blk_then hP hB3
    have hgw3 := hT.size
    replace hT := hT.then_ hB3
    replace hM := hM.then_ hB3
    have h4l := h4.lt
    replace h4 := blk_then h4 hB3
    obtain ⟨g6, hg6e⟩ : ∃ y, y = wc.heap.size := ⟨_, rfl⟩
    rw [← hg6e] at h6 ⊢
    have hw6 := Lib.hid (show w.heap.size ≤ g6 ∧ g6 ≠ g ∧ g6 ≠ g4 by have := hwb.out; omega)
    clear hg6e hB3 hgw3 h4l
    go_wp2_with (fail)
    go_loopw [7] (fun mv wr => ∃ (m j : Nat) (x : BSet), mv = .int .i64 m ∧ m ≤ j ∧ j ≤ p.size ∧ Turn g (g + 1) w wr ∧ Mx wr ∧ Blk wr g 76 (rdC p j) ∧ Blk wr g4 27 #[.int .i64 0, .int .u64 0, .int .u64 0, .int .u64 0, .int .u64 0, .slice none 0 0, .int .i64 0, .int .i64 0] ∧ Blk wr g6 24 (setC x) ∧ rs = Ere.itemsR p s (p.size + 2 - m) (decide (m = 0)) j x) (fun mv _ => p.size + 2 - (intOf mv).toNat)
    case atStart => exact ⟨0, i0, 0, rfl, by omega, hi0, hT, hM, hP, h4, h6, hrs.out.symm⟩
    case round =>
      clear hT hM hP h4 h6
      obtain ⟨m, j, x, rfl, hmj, hjp, hT, hM, hP, h4, h6, hit⟩ := hrel
      have hfu : p.size + 2 - m = (p.size + 2 - (m + 1)) + 1 := by omega
      rw [hfu] at hit
      unfold Ere.itemsR at hit
      obtain ⟨b93, b93_e⟩ : ∃ b, Ere.isAt p j 93 = b := ⟨_, rfl⟩
      rw [b93_e] at hit
      replace hit := Lib.hid hit
      replace hfu := Lib.hid hfu
      have c1 : wr.cell? ⟨g, 1, none⟩ = some (.int .i64 (j : Int)) := hP.cellv rfl
      have k93 := is_at g p j j 93 93 wr hP rfl b93_e
      replace b93_e := Lib.hid b93_e
      have hjI : (j : Int) ≤ 1024 := by omega
      have hmI : (m : Int) ≤ 1024 := by omega
      by_cases hex : (!decide (m = 0) && b93) = true
      · simp only [Bool.and_eq_true, Bool.not_eq_true', decide_eq_false_iff_not] at hex
        obtain ⟨hm0, rfl⟩ := hex
        have hm0I : ((m : Int) == 0) = false := by simpa using hm0
        have hrs2 := hit.out
        rw [decide_eq_false hm0] at hrs2
        simp only [Bool.not_false, Bool.true_and, if_true] at hrs2
        have hr := hR.out
        rw [hrs2] at hr
        simp only [Ere.Res.bind] at hr
        replace hr := Lib.hid hr
        clear hrs2 hit
        have hjlt : j < p.size := Ere.isAt_lt b93_e.out
        go_upto_region 11 with (go_at_call 57; refine k93.mono ?_; rintro e w4 ⟨rfl, hB⟩)
        replace hT := hT.then_ hB
        replace hP := blk_then hP hB
        replace h4 := blk_then h4 hB
        replace h6 := blk_then h6 hB
        clear k93 c1 hB
        have c1 : w4.cell? ⟨g, 1, none⟩ = some (.int .i64 (j : Int)) := hP.cellv rfl
        have f1 := hP.frozen 1
        go_upto_if 53 with (fail)
        have hP2 := setRd hP (v := .int .i64 ((j : Int) + 1)) (j := j + 1) (by congr 1)
        have hT2 := turnRd hT 1 (.int .i64 ((j : Int) + 1))
        have h42 := h4.far (p := ⟨g, 1, none⟩) (by have := hwb.out; simp; omega) (.int .i64 ((j : Int) + 1))
        have h62 := h6.far (p := ⟨g, 1, none⟩) (by have := hw6.out; simp; omega) (.int .i64 ((j : Int) + 1))
        obtain ⟨w5, hw5⟩ : ∃ y, y = w4.setCell ⟨g, 1, none⟩ (.int .i64 ((j : Int) + 1)) := ⟨_, rfl⟩
        rw [← hw5] at hP2 hT2 h42 h62 ⊢
        clear hw5 c1 f1 hP hT h4 h6
        have fin : ∀ (x' : BSet) (W : World), Turn g (g + 1) w W → Blk W g 76 (rdC p (j + 1)) → Blk W g4 27 #[.int .i64 0, .int .u64 0, .int .u64 0, .int .u64 0, .int .u64 0, .slice none 0 0, .int .i64 0, .int .i64 0] → ∀ W', Below W.heap.size W W' → Turn g (g + 1) w W' ∧ Blk W' g 76 (rdC p (j + 1)) ∧ Blk W' g4 27 #[.int .i64 0, .int .u64 0, .int .u64 0, .int .u64 0, .int .u64 0, .slice none 0 0, .int .i64 0, .int .i64 0] := fun x' W a b c W' hB => ⟨a.then_ hB, blk_then b hB, blk_then c hB⟩
        replace fin := Lib.hid fin
        cases b94 with
        | false =>
          have kS := nset_any x w5
          go_wp2_with (first | (refine wl_load_set rfl _ rfl g6 rfl _ h62 ?_) | (go_at_call 79; refine kS.mono ?_; rintro e w6 ⟨rfl, hB6⟩; have h46 := blk_then h42 hB6) | (refine wl_store_nv rfl _ _ rfl g4 (NV.mk 2 (x &&& notB 0) none 0 0 0 0) rfl rfl _ rfl h46 ?_; intro w7 h7 hg7))
          refine ret_nv rfl rfl h7 rfl ?_
          rw [← hr.out]
          simp only [Bool.false_eq_true, if_false]
          exact ⟨(hT2.then_ hB6).grown hg7 (fun q e => by injection e with e; have := hwb.out; right; omega), (blk_then hP2 hB6).grown hg7 (fun e => by injection e with e; have := hwb.out; omega), _, [], rfl, NdO.leaf _ _ _ _ _ _⟩
        | true =>
          have kN := not_any x w5
          go_upto_region 14 with (first | (refine wl_load_set rfl _ rfl g6 rfl _ h62 ?_) | (go_at_call 80; refine kN.mono ?_; rintro e w6 ⟨rfl, hB6⟩; have h66 := blk_then h62 hB6) | (refine wl_store_set rfl _ _ rfl g6 _ rfl rfl _ h66 ?_; intro w7 h67 hg7))
          have hT7 := (hT2.then_ hB6).grown hg7 (fun q e => by injection e with e; have := hw6.out; right; omega)
          have hP7 := (blk_then hP2 hB6).grown hg7 (fun e => by injection e with e; have := hw6.out; omega)
          have h47 := (blk_then h42 hB6).grown hg7 (fun e => by injection e with e; have := hw6.out; omega)
          clear h66 hB6 hg7 kN h62 h42
          have kS := nset_any (notB x) w7
          go_wp2_with (first | (refine wl_load_set rfl _ rfl g6 rfl _ h67 ?_) | (go_at_call 79; refine kS.mono ?_; rintro e w8 ⟨rfl, hB8⟩; have h48 := blk_then h47 hB8) | (refine wl_store_nv rfl _ _ rfl g4 (NV.mk 2 (notB x &&& notB 0) none 0 0 0 0) rfl rfl _ rfl h48 ?_; intro w9 h9 hg9))
          refine ret_nv rfl rfl h9 rfl ?_
          rw [← hr.out]
          simp only [if_true]
          exact ⟨(hT7.then_ hB8).grown hg9 (fun q e => by injection e with e; have := hwb.out; right; omega), (blk_then hP7 hB8).grown hg9 (fun e => by injection e with e; have := hwb.out; omega), _, [], rfl, NdO.leaf _ _ _ _ _ _⟩
      · have hrs2 := hit.out
        rw [if_neg hex] at hrs2
        have hgo : (m = 0 ∧ True) ∨ (m ≠ 0 ∧ b93 = false) := by
          by_cases e : m = 0
          · exact .inl ⟨e, trivial⟩
          · right
            refine ⟨e, ?_⟩
            cases b93
            · rfl
            · exact absurd (by simp [e]) hex
        replace hrs2 := Lib.hid hrs2
        have hmj2 := Lib.hid hmj
        clear hit hex
        rcases hgo with ⟨hm0, -⟩ | ⟨hm0, rfl⟩
        · have hm0I : ((m : Int) == 0) = true := by simpa using hm0
          replace hm0 := Lib.hid hm0
          clear k93
          go_upto_region 8 with (fail)
          have hB : Below wr.heap.size wr wr := Below.refl _ _
          obtain ⟨wq, hwq⟩ : ∃ y, y = wr := ⟨_, rfl⟩
          have hBq : Below wr.heap.size wr wq := by rw [hwq]; exact hB
          rw [← hwq]
          clear hwq hB
          replace hT := hT.then_ hBq
          replace hM := hM.then_ hBq
          replace hP := blk_then hP hBq
          replace h4 := blk_then h4 hBq
          replace h6 := blk_then h6 hBq
          clear hBq c1
          have kM := more_any g p j wq hP
          by_cases hjs : j < p.size
          · rw [decide_eq_true hjs] at kM
            have hrs3 := hrs2.out
            rw [if_neg (by omega)] at hrs3
            go_upto_region 10 with (go_at_call 66; refine kM.mono ?_; rintro e w4 ⟨rfl, hB⟩)
            replace hT := hT.then_ hB
            replace hM := hM.then_ hB
            replace hP := blk_then hP hB
            replace h4 := blk_then h4 hB
            replace h6 := blk_then h6 hB
            clear hB kM
            obtain ⟨ri, hri⟩ : ∃ r, Ere.itemR p s j = r := ⟨_, rfl⟩
            have kI : ∀ W, Blk W g 76 (rdC p j) → Mx W → Calls Try.prog 90 #[.pointer (some ⟨g, 0, none⟩), .int .i64 (s : Int)] W fun e w' => RdAns g p W (fun x : BSet => .agg (setC x)) ri e w' := fun W hW hMW => by rw [← hri]; exact item_any g p j s W hW hjs hp hMW
            have hfw := fun (y : BSet) (k : Nat) (e : ri = .got y k) => Ere.itemR_fwd (hri.trans e) hjs
            rw [hri] at hrs3
            clear hri
            replace hrs3 := Lib.hid hrs3
            replace hfw := Lib.hid hfw
            replace hjs := Lib.hid hjs
            have hI := kI w4 hP hM
            have hId := kI w4.drew hP.drew (hM.then_ (Below.refl w4.heap.size w4).drew)
            replace kI := Lib.hid kI
            cases ri with
            | fault e0 k0 =>
              have hr := hR.out
              rw [hrs3.out] at hr
              simp only [Ere.Res.bind] at hr
              replace hr := Lib.hid hr
              refine wp_region_stepsR (rw := some g) (i0 := 3) 4 [eqS (.agg (setC x)), eqS (.pointer (some ⟨g, 0, none⟩)), eqS (.int .i64 (s : Int)), noS] [40, 41, 42, 43] follows_mixed ?_ (by kernel_rfl) rfl ?_ ?_
              · intro q hq v W W' hs _
                match q, hq with
                | 0, _ => exact hs
                | 1, _ => exact hs
                | 2, _ => exact hs
                | q + 4, _ => exact trivial
              · refine StepsR.cons (fun a' w' hG hB hp dep => GStepR.of (gs_load_set_at (want_none rfl) _ rfl g6 0 (hG.other 6 rfl) x (RowAt.of_blk (h6.grown hB (fun e => hw6.out.2.1 (by injection e)))) rfl)) ?_
                refine StepsR.cons (fun a' w' hG hB hp dep => GStepR.of (gs_move (want_none rfl) _ rfl (id (hG.other 0 rfl)))) ?_
                refine StepsR.cons (fun a' w' hG hB hp dep => GStepR.of (gs_move (want_none rfl) _ rfl (id (hG.other 1 rfl)))) ?_
                refine StepsR.cons (fun a' w' hG hB hp dep => GStepR.call_or (want_none rfl) _ _ _ rfl enter_item #[.pointer (some ⟨g, 0, none⟩), .int .i64 (s : Int)] (map2 (dep 1 rfl 41 rfl) (dep 2 rfl 42 rfl)) ((kI.out w' (blk_then hP (hp rfl)) (hM.then_ (hp rfl))).mono fun e w5 h => .inr ⟨_, h.2, ?_⟩)) ?_
                · refine And.intro (hG.defers : a'.defers = []) ?_
                  show NdAns g p w w.heap.size r _ w5
                  rw [← hr.out]
                  exact ⟨hT.trans ((Turn.of_one hB).trans h.1), rfl⟩
                exact StepsR.nil
              · intro u W hW ans
                exact absurd (ans 3 43 (by decide) rfl) (fun h => h)
            | got y k =>
              refine wp_region_stepsR (rw := some g) (i0 := 3) 4 [eqS (.agg (setC x)), eqS (.pointer (some ⟨g, 0, none⟩)), eqS (.int .i64 (s : Int)), rdS g p (.agg (setC y)) k True] [40, 41, 42, 43] follows_mixed ?_ (by kernel_rfl) rfl ?_ ?_
              · intro q hq v W W' hs _
                match q, hq with
                | 0, _ => exact hs
                | 1, _ => exact hs
                | 2, _ => exact hs
                | q + 4, _ => exact trivial
              · refine StepsR.cons (fun a' w' hG hB hp dep => GStepR.of (gs_load_set_at (want_none rfl) _ rfl g6 0 (hG.other 6 rfl) x (RowAt.of_blk (h6.grown hB (fun e => hw6.out.2.1 (by injection e)))) rfl)) ?_
                refine StepsR.cons (fun a' w' hG hB hp dep => GStepR.of (gs_move (want_none rfl) _ rfl (id (hG.other 0 rfl)))) ?_
                refine StepsR.cons (fun a' w' hG hB hp dep => GStepR.of (gs_move (want_none rfl) _ rfl (id (hG.other 1 rfl)))) ?_
                refine StepsR.cons (fun a' w' hG hB hp dep => GStepR.call_or (want_none rfl) _ _ _ rfl enter_item #[.pointer (some ⟨g, 0, none⟩), .int .i64 (s : Int)] (map2 (dep 1 rfl 41 rfl) (dep 2 rfl 42 rfl)) ((kI.out w' (blk_then hP (hp rfl)) (hM.then_ (hp rfl))).mono fun e w5 h => .inl ⟨_, h.2.1, h.1.one, fun _ => ⟨rfl, h.2.2⟩⟩)) ?_
                exact StepsR.nil
              intro u w5 hW ans
              have u40 : u 40 = .agg (setC x) := ans 0 40 (by decide) rfl
              have u43 := ans 3 43 (by decide) rfl trivial
              have hP5 := u43.2
              replace u43 : u 43 = .agg (setC y) := u43.1
              clear ans
              simp only [putAll, List.foldl_cons, List.foldl_nil, Act.put, List.setIfInBounds_toArray, List.set_cons_zero, List.set_cons_succ, u40, u43]
              clear u40 u43
              simp only [List.drop]
              have hTs := Turn.of_one hW
              have hT5 := hT.trans hTs
              have h45 := blk_turn h4 hTs (by have := hwb.out; omega)
              have h65 := blk_turn h6 hTs (by have := hw6.out; omega)
              have hM5 := hM.turn hTs hwb.out.2.2.1
              clear hT hM hP h4 h6 hW hTs hI hId
              have kJ := join_any (some ⟨w5.heap.size, 0, none⟩) 2 2 [x, y] (w5.alloc (.cells (setC x ++ setC y) 24)) rfl (by unfold maxLen; omega) (sets2_of x y w5)
              rw [joinL_two] at kJ
              have hB6 := below_alloc (Below.refl w5.heap.size w5) (.cells (setC x ++ setC y) 24)
              refine wl_sets2 rfl _ _ rfl x y rfl rfl ?_
              refine wl_call rfl _ _ _ rfl enter_join #[.slice (some ⟨w5.heap.size, 0, none⟩) 2 2] (map1 rfl) (kJ.mono ?_)
              rintro e w6 ⟨rfl, hB7⟩
              refine ⟨_, rfl, ?_⟩
              have hB8 := below_then hB6 hB7
              refine wl_store_set rfl _ _ rfl g6 _ rfl rfl _ (blk_then h65 hB8) ?_
              intro w7 h67 hg7
              refine wpList_nil ?_
              have hT7 := (hT5.then_ hB8).grown hg7 (fun q e => by injection e with e; have := hw6.out; right; omega)
              have hP7 := (blk_then hP5 hB8).grown hg7 (fun e => by injection e with e; have := hw6.out; omega)
              have h47 := (blk_then h45 hB8).grown hg7 (fun e => by injection e with e; have := hw6.out; omega)
              have hM7 : Mx w7 := by
                have h1 := hM5.then_ hB8
                obtain ⟨q, hq⟩ := h1
                have h0 : (0 : Nat) < w6.heap.size := by have := (blk_then hP5 hB8).lt; omega
                exact ⟨q, (World.cell?_of_block (w := w6) (hg7.block 0 h0 (fun e => by injection e with e; have := hw6.out; have := hwb.out; omega))).trans hq⟩
              have hk := hfw.out y k rfl
              have hfin : rs = Ere.itemsR p s (p.size + 2 - (m + 1)) (decide (m + 1 = 0)) k (x ||| y) := by
                rw [hrs3.out]
                simp only [Ere.Res.bind]
                rw [decide_eq_false (by omega)]
              replace hfin := Lib.hid hfin
              replace hk := Lib.hid hk
              clear hT5 hP5 h45 hM5 h65 hB6 hB7 hB8 hg7 kJ hrs3 hrs2 hfw hmj
              go_wp2_with (fail)
              have hk2 := hk.out
              exact ⟨⟨m + 1, k, x ||| y, by congr 1, by have := hmj2.out; omega, hk2.2, hT7, hM7, hP7, h47, h67, hfin.out⟩, by simp only [intOf]; have := hfu.out; omega⟩
          · rw [decide_eq_false hjs] at kM
            have hrs3 := hrs2.out
            rw [if_pos (by omega)] at hrs3
            have hr := hR.out
            rw [hrs3] at hr
            simp only [Ere.Res.bind] at hr
            replace hr := Lib.hid hr
            replace hrs3 := Lib.hid hrs3
            go_wp2_with (first | (go_at_call 66; refine kM.mono ?_; rintro e w4 ⟨rfl, hB⟩) | (go_at_call 40; refine (give_any 43 s _).mono ?_; rintro e w5 ⟨hfe, hB5⟩; unfold faultE at hfe; subst hfe))
            rw [← hr.out]
            exact ⟨rfl, (hT.then_ hB).then_ hB5, rfl⟩
        · have hm0I : ((m : Int) == 0) = false := by simpa using hm0
          replace hm0 := Lib.hid hm0
          go_upto_region 8 with (go_at_call 57; refine k93.mono ?_; rintro e wq ⟨rfl, hBq⟩)
          clear k93
          replace hT := hT.then_ hBq
          replace hM := hM.then_ hBq
          replace hP := blk_then hP hBq
          replace h4 := blk_then h4 hBq
          replace h6 := blk_then h6 hBq
          clear hBq c1
          have kM := more_any g p j wq hP
          by_cases hjs : j < p.size
          · rw [decide_eq_true hjs] at kM
            have hrs3 := hrs2.out
            rw [if_neg (by omega)] at hrs3
            go_upto_region 10 with (go_at_call 66; refine kM.mono ?_; rintro e w4 ⟨rfl, hB⟩)
            replace hT := hT.then_ hB
            replace hM := hM.then_ hB
            replace hP := blk_then hP hB
            replace h4 := blk_then h4 hB
            replace h6 := blk_then h6 hB
            clear hB kM
            obtain ⟨ri, hri⟩ : ∃ r, Ere.itemR p s j = r := ⟨_, rfl⟩
            have kI : ∀ W, Blk W g 76 (rdC p j) → Mx W → Calls Try.prog 90 #[.pointer (some ⟨g, 0, none⟩), .int .i64 (s : Int)] W fun e w' => RdAns g p W (fun x : BSet => .agg (setC x)) ri e w' := fun W hW hMW => by rw [← hri]; exact item_any g p j s W hW hjs hp hMW
            have hfw := fun (y : BSet) (k : Nat) (e : ri = .got y k) => Ere.itemR_fwd (hri.trans e) hjs
            rw [hri] at hrs3
            clear hri
            replace hrs3 := Lib.hid hrs3
            replace hfw := Lib.hid hfw
            replace hjs := Lib.hid hjs
            have hI := kI w4 hP hM
            have hId := kI w4.drew hP.drew (hM.then_ (Below.refl w4.heap.size w4).drew)
            replace kI := Lib.hid kI
            cases ri with
            | fault e0 k0 =>
              have hr := hR.out
              rw [hrs3.out] at hr
              simp only [Ere.Res.bind] at hr
              replace hr := Lib.hid hr
              refine wp_region_stepsR (rw := some g) (i0 := 3) 4 [eqS (.agg (setC x)), eqS (.pointer (some ⟨g, 0, none⟩)), eqS (.int .i64 (s : Int)), noS] [40, 41, 42, 43] follows_mixed ?_ (by kernel_rfl) rfl ?_ ?_
              · intro q hq v W W' hs _
                match q, hq with
                | 0, _ => exact hs
                | 1, _ => exact hs
                | 2, _ => exact hs
                | q + 4, _ => exact trivial
              · refine StepsR.cons (fun a' w' hG hB hp dep => GStepR.of (gs_load_set_at (want_none rfl) _ rfl g6 0 (hG.other 6 rfl) x (RowAt.of_blk (h6.grown hB (fun e => hw6.out.2.1 (by injection e)))) rfl)) ?_
                refine StepsR.cons (fun a' w' hG hB hp dep => GStepR.of (gs_move (want_none rfl) _ rfl (id (hG.other 0 rfl)))) ?_
                refine StepsR.cons (fun a' w' hG hB hp dep => GStepR.of (gs_move (want_none rfl) _ rfl (id (hG.other 1 rfl)))) ?_
                refine StepsR.cons (fun a' w' hG hB hp dep => GStepR.call_or (want_none rfl) _ _ _ rfl enter_item #[.pointer (some ⟨g, 0, none⟩), .int .i64 (s : Int)] (map2 (dep 1 rfl 41 rfl) (dep 2 rfl 42 rfl)) ((kI.out w' (blk_then hP (hp rfl)) (hM.then_ (hp rfl))).mono fun e w5 h => .inr ⟨_, h.2, ?_⟩)) ?_
                · refine And.intro (hG.defers : a'.defers = []) ?_
                  show NdAns g p w w.heap.size r _ w5
                  rw [← hr.out]
                  exact ⟨hT.trans ((Turn.of_one hB).trans h.1), rfl⟩
                exact StepsR.nil
              · intro u W hW ans
                exact absurd (ans 3 43 (by decide) rfl) (fun h => h)
            | got y k =>
              refine wp_region_stepsR (rw := some g) (i0 := 3) 4 [eqS (.agg (setC x)), eqS (.pointer (some ⟨g, 0, none⟩)), eqS (.int .i64 (s : Int)), rdS g p (.agg (setC y)) k True] [40, 41, 42, 43] follows_mixed ?_ (by kernel_rfl) rfl ?_ ?_
              · intro q hq v W W' hs _
                match q, hq with
                | 0, _ => exact hs
                | 1, _ => exact hs
                | 2, _ => exact hs
                | q + 4, _ => exact trivial
              · refine StepsR.cons (fun a' w' hG hB hp dep => GStepR.of (gs_load_set_at (want_none rfl) _ rfl g6 0 (hG.other 6 rfl) x (RowAt.of_blk (h6.grown hB (fun e => hw6.out.2.1 (by injection e)))) rfl)) ?_
                refine StepsR.cons (fun a' w' hG hB hp dep => GStepR.of (gs_move (want_none rfl) _ rfl (id (hG.other 0 rfl)))) ?_
                refine StepsR.cons (fun a' w' hG hB hp dep => GStepR.of (gs_move (want_none rfl) _ rfl (id (hG.other 1 rfl)))) ?_
                refine StepsR.cons (fun a' w' hG hB hp dep => GStepR.call_or (want_none rfl) _ _ _ rfl enter_item #[.pointer (some ⟨g, 0, none⟩), .int .i64 (s : Int)] (map2 (dep 1 rfl 41 rfl) (dep 2 rfl 42 rfl)) ((kI.out w' (blk_then hP (hp rfl)) (hM.then_ (hp rfl))).mono fun e w5 h => .inl ⟨_, h.2.1, h.1.one, fun _ => ⟨rfl, h.2.2⟩⟩)) ?_
                exact StepsR.nil
              intro u w5 hW ans
              have u40 : u 40 = .agg (setC x) := ans 0 40 (by decide) rfl
              have u43 := ans 3 43 (by decide) rfl trivial
              have hP5 := u43.2
              replace u43 : u 43 = .agg (setC y) := u43.1
              clear ans
              simp only [putAll, List.foldl_cons, List.foldl_nil, Act.put, List.setIfInBounds_toArray, List.set_cons_zero, List.set_cons_succ, u40, u43]
              clear u40 u43
              simp only [List.drop]
              have hTs := Turn.of_one hW
              have hT5 := hT.trans hTs
              have h45 := blk_turn h4 hTs (by have := hwb.out; omega)
              have h65 := blk_turn h6 hTs (by have := hw6.out; omega)
              have hM5 := hM.turn hTs hwb.out.2.2.1
              clear hT hM hP h4 h6 hW hTs hI hId
              have kJ := join_any (some ⟨w5.heap.size, 0, none⟩) 2 2 [x, y] (w5.alloc (.cells (setC x ++ setC y) 24)) rfl (by unfold maxLen; omega) (sets2_of x y w5)
              rw [joinL_two] at kJ
              have hB6 := below_alloc (Below.refl w5.heap.size w5) (.cells (setC x ++ setC y) 24)
              refine wl_sets2 rfl _ _ rfl x y rfl rfl ?_
              refine wl_call rfl _ _ _ rfl enter_join #[.slice (some ⟨w5.heap.size, 0, none⟩) 2 2] (map1 rfl) (kJ.mono ?_)
              rintro e w6 ⟨rfl, hB7⟩
              refine ⟨_, rfl, ?_⟩
              have hB8 := below_then hB6 hB7
              refine wl_store_set rfl _ _ rfl g6 _ rfl rfl _ (blk_then h65 hB8) ?_
              intro w7 h67 hg7
              refine wpList_nil ?_
              have hT7 := (hT5.then_ hB8).grown hg7 (fun q e => by injection e with e; have := hw6.out; right; omega)
              have hP7 := (blk_then hP5 hB8).grown hg7 (fun e => by injection e with e; have := hw6.out; omega)
              have h47 := (blk_then h45 hB8).grown hg7 (fun e => by injection e with e; have := hw6.out; omega)
              have hM7 : Mx w7 := by
                have h1 := hM5.then_ hB8
                obtain ⟨q, hq⟩ := h1
                have h0 : (0 : Nat) < w6.heap.size := by have := (blk_then hP5 hB8).lt; omega
                exact ⟨q, (World.cell?_of_block (w := w6) (hg7.block 0 h0 (fun e => by injection e with e; have := hw6.out; have := hwb.out; omega))).trans hq⟩
              have hk := hfw.out y k rfl
              have hfin : rs = Ere.itemsR p s (p.size + 2 - (m + 1)) (decide (m + 1 = 0)) k (x ||| y) := by
                rw [hrs3.out]
                simp only [Ere.Res.bind]
                rw [decide_eq_false (by omega)]
              replace hfin := Lib.hid hfin
              replace hk := Lib.hid hk
              clear hT5 hP5 h45 hM5 h65 hB6 hB7 hB8 hg7 kJ hrs3 hrs2 hfw hmj
              go_wp2_with (fail)
              have hk2 := hk.out
              exact ⟨⟨m + 1, k, x ||| y, by congr 1, by have := hmj2.out; omega, hk2.2, hT7, hM7, hP7, h47, h67, hfin.out⟩, by simp only [intOf]; have := hfu.out; omega⟩
          · rw [decide_eq_false hjs] at kM
            have hrs3 := hrs2.out
            rw [if_pos (by omega)] at hrs3
            have hr := hR.out
            rw [hrs3] at hr
            simp only [Ere.Res.bind] at hr
            replace hr := Lib.hid hr
            replace hrs3 := Lib.hid hrs3
            go_wp2_with (first | (go_at_call 66; refine kM.mono ?_; rintro e w4 ⟨rfl, hB⟩) | (go_at_call 40; refine (give_any 43 s _).mono ?_; rintro e w5 ⟨hfe, hB5⟩; unfold faultE at hfe; subst hfe))
            rw [← hr.out]
            exact ⟨rfl, (hT.then_ hB).then_ hB5, rfl⟩
end Go.Proofs.Ytajainmldcnaeaa
