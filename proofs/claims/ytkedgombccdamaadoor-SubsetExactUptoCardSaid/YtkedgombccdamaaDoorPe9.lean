/- Part 9 of a proof; packed: the texts that it was made of follow one another. No condition beyond those named in each lemma. -/
import Derived.Test.YtkedgombccdamaaDoorPe1
import Derived.Test.YtkedgombccdamaaDoorPe4
import Derived.Test.YtkedgombccdamaaDoorPe8
namespace Go.Proofs.YtkedgombccdamaaDoor
open Go.RowKit Go.Shelf Go.Maps
set_option linter.unusedVariables false
set_option linter.unusedSimpArgs false
attribute [local go_sem] Oper.semAt_some

theorem arr_falses (N : Nat) : (arr eB N fun _ => false).toList = flat encB (boolsN 0 N) := by
  rw [boolsN_zero]
  apply List.ext_getElem
  · simp [arr, flat, encB]
  · intro i h1 h2
    simp [arr, eB, flat, encB, List.flatMap_replicate]
theorem enter_rmoment (args : Array Value) (w : World) : (callFunc 71 args).run Tryd.prog w = .ok (.enter 71 args) w := by kernel_rfl
theorem gs_makeF {ops : Array Oper} {S : Nat → GSpec} {Q : Exit → Act → World → Prop} {i : Nat} {o : Oper} {a : Act} {w : World} (hw : Region.wanted o (yielded ops a.tmps) = true) (x y : Operand) (ho : o.op = .makeSlice 68 x y) (N base : Nat) (hN : N ≤ 1048576) (hb : base ≤ w.heap.size) (hx : a.eval x = .int .i64 N) (hy : a.eval y = .int .i64 N)
    (hp : ∀ v w', (∃ g, (flagsS base N 0 g).p v w') → (S i).p v w') : GStep Tryd.prog ops S Q i o a w :=
  gs_run hw (v := .slice (some ⟨w.heap.size, 0, none⟩) N N) (by unfold execOp; simp only [ho, hx, hy, Sem.run_bind, run_make1 eB false 4 68 1 N Tryd.underlying68 s_info_bool1 rfl (by omega) hN, Result.andThen_ok, Sem.run_pure]) (below_alloc (Below.refl _ _) _)
    (hp _ _ ⟨(w.heap.size, N), rfl, own_made encB_size (Blk.new _ _ _) (arr_falses N) (boolsN_length _ _).symm hb (by unfold maxLen; omega)⟩)
set_option maxRecDepth 100000 in
set_option maxHeartbeats 4000000 in
theorem rfirst_any (B0 N n c0 m d0 : Nat) (E : List Edg) (R : List Nat) (A B : Option Addr) (w : World) (hM : RMach B0 w N E R A n B m) (hNl : N ≤ 1048576) :
    Calls Tryd.prog 44 #[.agg (nfaC N A n c0 B m d0)] w fun e w' => ∃ g cap, e = .returned (.agg (momC (some ⟨g, 0, none⟩) N cap (mo0 E N R).met (mo0 E N R).end_)) ∧ w.heap.size ≤ g ∧ Own w' w.heap.size 4 1 encB (.slice (some ⟨g, 0, none⟩) N cap) (boolsN (mo0 E N R).at_ N) ∧ Below w.heap.size w w' := by
  have Hlow := Lib.hid hM.low
  have h1 : Blk (w.alloc (.cells (nfaC N A n c0 B m d0) 25)) w.heap.size 25 (nfaC N A n c0 B m d0) := Blk.new w _ _
  have hBa : Below w.heap.size w (w.alloc (.cells (nfaC N A n c0 B m d0) 25)) := below_alloc (Below.refl _ _) _
  have hs1 : (w.alloc (.cells (nfaC N A n c0 B m d0) 25)).heap.size = w.heap.size + 1 := Array.size_push ..
  go_enter Tryd.func44, Tryd.ntmps44
  go_upto_region 1 with (fail)
  obtain ⟨w1, hw1⟩ : ∃ y, y = w.alloc (.cells (nfaC N A n c0 B m d0) 25) := ⟨_, rfl⟩
  rw [← hw1] at h1 hBa hs1 ⊢
  have h2 : Blk (w1.alloc (.cells #[.slice none 0 0, .int .u32 0, .int .u32 0] 101)) w1.heap.size 101 (momC none 0 0 0 0) := Blk.new w1 101 (momC none 0 0 0 0)
  have hBb : Below w1.heap.size w1 (w1.alloc (.cells #[.slice none 0 0, .int .u32 0, .int .u32 0] 101)) := below_alloc (Below.refl _ _) _
  obtain ⟨w2, hw2⟩ : ∃ y, y = w1.alloc (.cells #[.slice none 0 0, .int .u32 0, .int .u32 0] 101) := ⟨_, rfl⟩
  rw [← hw2, hs1] at h2
  rw [← hw2] at hBb ⊢
  obtain ⟨g1, hg1⟩ : ∃ y, y = w.heap.size := ⟨_, rfl⟩
  rw [← hg1] at h1 h2 ⊢
  have Hg1 := Lib.hid hg1
  replace h1 := blk_then h1 hBb
  have hBw := below_then hBa hBb
  replace hM := hM.then_ hBw
  clear hw1 hw2 hBa hBb hs1 hg1
  refine wp_region_stepsE (i0 := 3) 4 [3] (fun gg : Nat × Nat => [eqS (.agg (nfaC N A n c0 B m d0)), eqS (.pointer (some ⟨g1, 0, none⟩)), eqS (.int .i64 (N : Int)), flagsS w2.heap.size N 0 gg]) (0, 0) [3, 4, 5, 6] follows_mixed (by kernel_rfl) (by kernel_rfl) ?_ (by kernel_rfl) ?_ ?_
  · intro g g' j hj
    rcases j with _ | _ | _ | _ | j <;> first | rfl | (exact absurd hj (by decide))
  · skip
    refine StepsE.cons (fun gg a' w' hG hB dep => gs_load_nfaB (want_none rfl) _ rfl g1 (hG.other 1 rfl) (blk_then h1 hB) rfl) ?_
    refine StepsE.cons (fun gg a' w' hG hB dep => gs_field (want_none rfl) _ _ _ rfl g1 0 0 (hG.other 1 rfl) (fun wz => field_nfa_0 g1 0 wz) rfl) ?_
    refine StepsE.cons (fun gg a' w' hG hB dep => gs_load1 (want_none rfl) _ _ rfl g1 0 (dep 1 rfl 4 rfl) (.int .i64 (N : Int)) ((blk_then h1 hB).cellv rfl) _ Tryd.underlying3 rfl rfl) ?_
    refine StepsE.cons (fun gg a' w' hG hB dep => gs_makeF (want_none rfl) _ _ rfl N w2.heap.size hNl hB.size (dep 2 rfl 5 rfl) (dep 2 rfl 5 rfl) (fun v w' h => h)) ?_
    exact StepsE.nil
  intro gg uu w3 hB3 ans
  have u3 : uu 3 = .agg (nfaC N A n c0 B m d0) := ans 0 3 (by decide) rfl
  obtain ⟨u6, hS3⟩ := ans 3 6 (by decide) rfl
  clear ans
  simp only [putAll, List.foldl_cons, List.foldl_nil, Act.put, List.setIfInBounds_toArray, List.set_cons_zero, List.set_cons_succ, u3, u6]
  clear u3 u6
  simp only [List.drop]
  replace hM := hM.then_ hB3
  have h2l := h2.lt
  replace h2 := blk_then h2 hB3
  have hB03 := below_then hBw hB3
  have hgl := hS3.lt gg.1 rfl
  have kM := rmoment_any B0 N n c0 m d0 w2.heap.size gg.1 gg.2 0 0 E R A B true (below_zero N) (by decide) w3 hM hS3 (by have := Hlow.out; have := hBw.size; omega)
  refine wl_call rfl _ _ _ rfl enter_rmoment #[(.agg (nfaC N A n c0 B m d0)), (.slice (some ⟨gg.1, 0, none⟩) N gg.2), .int .u32 0, .bool true] (map4 rfl rfl rfl rfl) (kM.mono ?_)
  rintro e w4 ⟨g2, cap, rfl, hg2, hS4, hT4⟩
  refine ⟨_, rfl, ?_⟩
  have h24 := blk_turn h2 hT4 (by omega)
  refine wl_store_momR rfl _ _ rfl (g1 + 1) (some ⟨g2, 0, none⟩) N cap (moN E N R 0 0 true).met (moN E N R 0 0 true).end_ rfl rfl (momC none 0 0 0 0) rfl h24 ?_
  intro w5 h25 hg5
  refine wpList_nil ?_
  have hw3 := hB03.size
  have h3l := h2.lt
  have hS5 := (own_grown' hS4 hg5 (by omega)).mono hw3
  have hgw := Hg1.out
  have hw2 := hBw.size
  have hB5 := below_grown (hB03.trans (Turn.below (N := w.heap.size) hT4 (by omega) hw3)) hg5 (by omega)
  have hg2w : w.heap.size ≤ g2 := by omega
  clear hS4 hT4 hg5 h24 kM h2 hM
  simp only [Act.put]
  go_wp2_with (fail)
  refine ret_cell rfl _ rfl h25 Tryd.underlying101 rfl (info_momR.trans rfl) rfl ?_
  exact ⟨g2, cap, rfl, hg2w, hS5, hB5⟩
/-- two moments, of the same states and rules -/
theorem mo_eq (a b : Mo) : (a = b) ↔ (a.met = b.met ∧ a.end_ = b.end_ ∧ a.at_ = b.at_) := by
  cases a; cases b
  simp only [Mo.mk.injEq]
  constructor
  · rintro ⟨h1, h2, h3⟩; exact ⟨h2, h3, h1⟩
  · rintro ⟨h1, h2, h3⟩; exact ⟨h3, h1, h2⟩
theorem bits_upto {x y N : Nat} (hx : below x N) (hy : below y N) (h : ∀ i, i < N → x.testBit i = y.testBit i) : x = y := by
  apply Nat.eq_of_testBit_eq
  intro i
  by_cases hi : i < N
  · exact h i hi
  · have h1 : x.testBit i = false := by
      cases e : x.testBit i with
      | false => rfl
      | true => exact absurd (hx i e) hi
    have h2 : y.testBit i = false := by
      cases e : y.testBit i with
      | false => rfl
      | true => exact absurd (hy i e) hi
    rw [h1, h2]
end Go.Proofs.YtkedgombccdamaaDoor
namespace Go.Proofs.YtkedgombccdamaaDoor
open Go.RowKit Go.Shelf Go.Maps
set_option linter.unusedVariables false
set_option linter.unusedSimpArgs false
attribute [local go_sem] Oper.semAt_some

set_option maxRecDepth 100000 in
set_option maxHeartbeats 4000000 in
theorem rsame_any (N c1 c2 B1 B2 : Nat) (A1 A2 : Option Addr) (a b : Mo) (hN1 : 1 ≤ N) (hN : N ≤ 1048576) (ha : below a.at_ N) (hb : below b.at_ N) (w : World) (h1 : SliceOf w B1 1 encB A1 (boolsN a.at_ N)) (h2 : SliceOf w B2 1 encB A2 (boolsN b.at_ N)) (hB1 : B1 ≤ w.heap.size) (hB2 : B2 ≤ w.heap.size) :
    Calls Tryd.prog 46 #[.agg (momC A1 N c1 a.met a.end_), .agg (momC A2 N c2 b.met b.end_)] w fun e w' => e = .returned (.bool (decide (a = b))) ∧ Below w.heap.size w w' := by
  have hdec : decide (a = b) = decide (a.met = b.met ∧ a.end_ = b.end_ ∧ a.at_ = b.at_) := by rw [decide_eq_decide]; exact mo_eq a b
  rw [hdec]
  obtain ⟨x1, m1, e1⟩ := a
  obtain ⟨x2, m2, e2⟩ := b
  simp only at ha hb h1 h2 ⊢
  have HS1 := Lib.hid (fun W (hW : Below w.heap.size w W) => h1.keep (w' := W) (fun k hk => hW.block k (by omega)))
  have HS2 := Lib.hid (fun W (hW : Below w.heap.size w W) => h2.keep (w' := W) (fun k hk => hW.block k (by omega)))
  have Hab := Lib.hid (And.intro ha hb)
  clear hdec h1 h2 ha hb
  have k2 : Blk (w.alloc (.cells (momC A1 N c1 m1 e1) 101)) w.heap.size 101 (momC A1 N c1 m1 e1) := Blk.new w _ _
  have hBa : Below w.heap.size w (w.alloc (.cells (momC A1 N c1 m1 e1) 101)) := below_alloc (Below.refl _ _) _
  have hs1 : (w.alloc (.cells (momC A1 N c1 m1 e1) 101)).heap.size = w.heap.size + 1 := Array.size_push ..
  go_enter Tryd.func46, Tryd.ntmps46
  go_upto_region 1 with (fail)
  obtain ⟨wa, hwa⟩ : ∃ y, y = w.alloc (.cells (momC A1 N c1 m1 e1) 101) := ⟨_, rfl⟩
  rw [← hwa] at k2 hBa hs1 ⊢
  have k3 : Blk (wa.alloc (.cells (momC A2 N c2 m2 e2) 101)) wa.heap.size 101 (momC A2 N c2 m2 e2) := Blk.new wa _ _
  have hBb : Below wa.heap.size wa (wa.alloc (.cells (momC A2 N c2 m2 e2) 101)) := below_alloc (Below.refl _ _) _
  obtain ⟨wb, hwb⟩ : ∃ y, y = wa.alloc (.cells (momC A2 N c2 m2 e2) 101) := ⟨_, rfl⟩
  rw [← hwb, hs1] at k3
  rw [← hwb] at hBb ⊢
  obtain ⟨g2, hg2⟩ : ∃ y, y = w.heap.size := ⟨_, rfl⟩
  rw [← hg2] at k2 k3 ⊢
  replace k2 := blk_then k2 hBb
  have hB := below_then hBa hBb
  have hS1 := HS1.out wb hB
  have hS2 := HS2.out wb hB
  obtain ⟨b1, off1, rfl, hb1, hr1⟩ := hS1.at_ (by rw [boolsN_length]; exact hN1)
  obtain ⟨b2, off2, rfl, hb2, hr2⟩ := hS2.at_ (by rw [boolsN_length]; exact hN1)
  have hc1 : ∀ j, j < N → wb.cell? ⟨b1, off1 + j, none⟩ = some (.bool (x1.testBit j)) := fun j hj => by
    have hl : j < (boolsN x1 N).length := by rw [boolsN_length]; exact hj
    have := hr1 j hl 0 _ rfl
    rw [boolsN_get, Nat.mul_one] at this
    exact this
  have hc2 : ∀ j, j < N → wb.cell? ⟨b2, off2 + j, none⟩ = some (.bool (x2.testBit j)) := fun j hj => by
    have hl : j < (boolsN x2 N).length := by rw [boolsN_length]; exact hj
    have := hr2 j hl 0 _ rfl
    rw [boolsN_get, Nat.mul_one] at this
    exact this
  have Hc1 := Lib.hid hc1
  have Hc2 := Lib.hid hc2
  have a1 : wb.cell? ⟨g2, 1, none⟩ = some (.int .u32 (m1 : Int)) := k2.cellv (i := 1) rfl
  have a2 : wb.cell? ⟨g2, 2, none⟩ = some (.int .u32 (e1 : Int)) := k2.cellv (i := 2) rfl
  have a3 : wb.cell? ⟨g2 + 1, 1, none⟩ = some (.int .u32 (m2 : Int)) := k3.cellv (i := 1) rfl
  have a4 : wb.cell? ⟨g2 + 1, 2, none⟩ = some (.int .u32 (e2 : Int)) := k3.cellv (i := 2) rfl
  have HB := Lib.hid hB
  clear hwa hwb hBa hBb hs1 hg2 hr1 hr2 hc1 hc2 hS1 hS2 HS1 HS2 hB
  by_cases hm : m1 = m2
  · subst hm
    by_cases he : e1 = e2
    · subst he
      have hbl := HB.out.size
      go_wp2_with (fail)
      clear a1 a2 a3 a4
      go_loopw [5] (fun iv wr => ∃ j : Nat, j ≤ N ∧ iv = .int .i64 j ∧ Hid (∀ i, i < j → x1.testBit i = x2.testBit i) ∧ Below wb.heap.size wb wr) (fun iv _ => N - (intOf iv).toNat)
      case atStart => exact ⟨0, by omega, rfl, Lib.hid (fun i hi => absurd hi (by omega)), Below.refl _ _⟩
      case round =>
        obtain ⟨j, hj, rfl, hsame, hBr⟩ := hrel
        have h2r := blk_then k2 hBr
        have h3r := blk_then k3 hBr
        have d1 : wr.cell? ⟨g2, 0, none⟩ = some (.slice (some ⟨b1, off1, none⟩) N c1) := h2r.cellv (i := 0) rfl
        by_cases hjl : j < N
        · have hjI : (j : Int) < N := by omega
          have f1 := (World.cell?_of_block (w := wb) (hBr.block b1 (by omega))).trans (Hc1.out j hjl)
          have f2 := (World.cell?_of_block (w := wb) (hBr.block b2 (by omega))).trans (Hc2.out j hjl)
          obtain ⟨p, hp⟩ : ∃ p, x1.testBit j = p := ⟨_, rfl⟩
          obtain ⟨q, hq⟩ : ∃ q, x2.testBit j = q := ⟨_, rfl⟩
          rw [hp] at f1
          rw [hq] at f2
          have Hpq := Lib.hid (And.intro hp hq)
          have F1 := Lib.hid f1
          have F2 := Lib.hid f2
          clear hp hq f1 f2
          go_upto_region 6 with (fail)
          refine wp_region_steps 11 [eqS (.pointer (some ⟨g2, 0, none⟩)), eqS (.slice (some ⟨b1, off1, none⟩) N c1), eqS (.int .i64 (j : Int)), eqS (.pointer (some ⟨b1, off1 + j * 1, none⟩)), eqS (.bool p), eqS (.pointer (some ⟨g2 + 1, 0, none⟩)), eqS (.slice (some ⟨b2, off2, none⟩) N c2), eqS (.int .i64 (j : Int)), eqS (.pointer (some ⟨b2, off2 + j * 1, none⟩)), eqS (.bool q), eqS (.bool (p != q))] [25, 26, 27, 28, 29, 30, 31, 32, 33, 34, 35] follows_mixed (by kernel_rfl) (by kernel_rfl) ?_ ?_
          · skip
            refine Steps.cons (fun a' w' hG hB dep => gs_field (want_none rfl) _ _ _ rfl g2 0 0 (hG.other 2 rfl) (fun wz => field_momR_0 g2 0 wz) rfl) ?_
            refine Steps.cons (fun a' w' hG hB dep => gs_load1 (want_none rfl) _ _ rfl g2 0 (dep 0 rfl 25 rfl) (.slice (some ⟨b1, off1, none⟩) N c1) ((blk_then h2r hB).cellv (i := 0) rfl) _ Tryd.underlying68 rfl rfl) ?_
            refine Steps.cons (fun a' w' hG hB dep => gs_move (want_none rfl) _ rfl (hG.other 5 rfl)) ?_
            refine Steps.cons (fun a' w' hG hB dep => gs_index (want_none rfl) _ _ _ rfl under_bools 1 size_boolE b1 off1 N c1 j (dep 1 rfl 26 rfl) (dep 2 rfl 27 rfl) hjl rfl) ?_
            refine Steps.cons (fun a' w' hG hB dep => gs_load1 (want_none rfl) _ _ rfl b1 (off1 + j * 1) (dep 3 rfl 28 rfl) (.bool p) (by rw [Nat.mul_one]; exact (World.cell?_of_block (w := wr) (hB.block b1 (by have := hBr.size; omega))).trans F1.out) _ Tryd.underlying4 rfl rfl) ?_
            refine Steps.cons (fun a' w' hG hB dep => gs_field (want_none rfl) _ _ _ rfl (g2 + 1) 0 0 (hG.other 3 rfl) (fun wz => field_momR_0 (g2 + 1) 0 wz) rfl) ?_
            refine Steps.cons (fun a' w' hG hB dep => gs_load1 (want_none rfl) _ _ rfl (g2 + 1) 0 (dep 5 rfl 30 rfl) (.slice (some ⟨b2, off2, none⟩) N c2) ((blk_then h3r hB).cellv (i := 0) rfl) _ Tryd.underlying68 rfl rfl) ?_
            refine Steps.cons (fun a' w' hG hB dep => gs_move (want_none rfl) _ rfl (hG.other 5 rfl)) ?_
            refine Steps.cons (fun a' w' hG hB dep => gs_index (want_none rfl) _ _ _ rfl under_bools 1 size_boolE b2 off2 N c2 j (dep 6 rfl 31 rfl) (dep 7 rfl 32 rfl) hjl rfl) ?_
            refine Steps.cons (fun a' w' hG hB dep => gs_load1 (want_none rfl) _ _ rfl b2 (off2 + j * 1) (dep 8 rfl 33 rfl) (.bool q) (by rw [Nat.mul_one]; exact (World.cell?_of_block (w := wr) (hB.block b2 (by have := hBr.size; omega))).trans F2.out) _ Tryd.underlying4 rfl rfl) ?_
            refine Steps.cons (fun a' w' hG hB dep => gs_neq_bool (want_none rfl) _ _ _ rfl p q (dep 4 rfl 29 rfl) (dep 9 rfl 34 rfl) rfl) ?_
            exact Steps.nil
          intro uu w8 hB8 ans
          have u35 : uu 35 = .bool (p != q) := ans 10 35 (by decide) rfl
          clear ans
          simp only [putAll, List.foldl_cons, List.foldl_nil, Act.put, List.setIfInBounds_toArray, List.set_cons_zero, List.set_cons_succ, u35]
          clear u35
          simp only [List.drop]
          refine wpList_nil ?_
          have hB9 := below_then hBr hB8
          clear hB8 h2r h3r d1 F1 F2
          by_cases hpq : p = q
          · subst hpq
            have hs1 : Hid (∀ i, i < j + 1 → x1.testBit i = x2.testBit i) := Lib.hid (fun i hi => by
              by_cases e : i = j
              · subst e; rw [Hpq.out.1, Hpq.out.2]
              · exact hsame.out i (by omega))
            have hbn : (p != p) = false := by simp
            rw [hbn]
            clear hbn
            go_wp2_with (fail)
            exact ⟨⟨j + 1, by omega, rfl, hs1, hB9⟩, by simp only [intOf]; omega⟩
          · have hbn : (p != q) = true := by simp [hpq]
            rw [hbn]
            have hne : ¬ x1 = x2 := fun e => hpq (by rw [← Hpq.out.1, ← Hpq.out.2, e])
            have Hne := Lib.hid hne
            clear hbn hne
            go_wp2_with (fail)
            go_ret
            exact ⟨by simp [Hne.out], below_then HB.out hB9⟩
        · have hjI : ¬ (j : Int) < N := by omega
          have hx : x1 = x2 := bits_upto Hab.out.1 Hab.out.2 (fun i hi => hsame.out i (by omega))
          have Hx := Lib.hid hx
          clear hx h2r h3r
          go_wp2_with (fail)
          go_ret
          exact ⟨by simp [Hx.out], below_then HB.out hBr⟩
    · have hI : ¬ (e1 : Int) = e2 := by omega
      clear k2 k3
      go_wp2_with (fail)
      go_ret
      exact ⟨by simp [he], HB.out⟩
  · have hI : ¬ (m1 : Int) = m2 := by omega
    clear k2 k3
    go_wp2_with (fail)
    go_ret
    exact ⟨by simp [hm], HB.out⟩
end Go.Proofs.YtkedgombccdamaaDoor
namespace Go.Proofs.YtkedgombccdamaaDoor
open Go.RowKit
set_option linter.unusedVariables false
set_option linter.unusedSimpArgs false

theorem rhas_end {x : BSet} {b m : Nat} (hb : b < 256) (hm : m = word x (b / 64) / 2 ^ (b % 64)) : ((m : Int) % 2 == 1) = x.getLsbD b := by
  subst hm
  rw [word_bit hb, Nat.testBit_eq_decide_div_mod_eq, Bool.eq_iff_iff]
  simp only [beq_iff_eq, decide_eq_true_eq]
  omega
theorem rhas_step {n m k : Nat} (h : m = n / 2 ^ k) : m / 2 = n / 2 ^ (k + 1) := by
  rw [h, Nat.div_div_eq_div_mul, Nat.pow_succ]
theorem le_div_pow {n m k : Nat} (h : m = n / 2 ^ k) (hn : n < 18446744073709551616) : (m : Int) ≤ 18446744073709551615 := by
  have := Nat.div_le_self n (2 ^ k)
  omega

set_option maxHeartbeats 400000 in
theorem rhas_nat (x : BSet) (b : Nat) (h0 : b < 256) (w : World) :
    Calls Tryd.prog 87 #[.agg (setC x), .int .i64 b] w fun e w' => e = .returned (.bool (x.getLsbD b)) ∧ Below w.heap.size w w' := by
  have hc := (Blk.new w 52 (setC x)).cellv (setC_at x (b / 64) (by omega))
  go_enter Tryd.func87, Tryd.ntmps87
  go_wp2
  go_loop [5, 6] (fun v i => ∃ k m : Nat, k ≤ b % 64 ∧ i = .int .i64 k ∧ v = .int .u64 m ∧ Hid (m = word x (b / 64) / 2 ^ k)) (fun _ i => b % 64 - (intOf i).toNat)
  case atStart => exact ⟨0, _, by omega, rfl, rfl, (Nat.div_one _).symm⟩
  case round =>
    obtain ⟨k, m, hk, rfl, rfl, Hm⟩ := hrel
    have hm1 := le_div_pow Hm.out (word_lt' _ _)
    by_cases hlt : k < b % 64
    · have hlt2 : (k : Int) < (b : Int) % 64 := by omega
      go_wp2
      go_round
      case rel => exact ⟨k + 1, m / 2, by omega, by go_num, by go_num, rhas_step Hm.out⟩
      case measure => simp [intOf]; omega
    · have hlt2 : ¬ (k : Int) < (b : Int) % 64 := by omega
      have e := Lib.hid (show k = b % 64 by omega)
      go_wp2
      go_ret
      refine ⟨?_, (Below.refl _ _).alloc (Nat.le_refl _) _⟩
      exact congrArg (fun v => Ending.returned (.bool v)) (rhas_end h0 (by rw [← e.out]; exact Hm.out))
end Go.Proofs.YtkedgombccdamaaDoor
namespace Go.Proofs.YtkedgombccdamaaDoor
open Go.RowKit Go.Shelf Go.Maps
set_option linter.unusedVariables false
set_option linter.unusedSimpArgs false
attribute [local go_sem] Oper.semAt_some

theorem bad_ref7 (s : Int) (d : Edg) : badE s d = ((((((decide (d.kd < 1) || decide (4 < d.kd)) || decide (d.fr < 0)) || decide (s ≤ d.fr)) || decide (d.tt < 0)) || decide (s ≤ d.tt)) || ((d.kd != 2) && !decide (d.st = 0))) := by
  have h1 : ∀ v : Int, (!inS s v) = (decide (v < 0) || decide (s ≤ v)) := fun v => by
    unfold inS
    rw [Bool.eq_iff_iff]
    simp only [Bool.not_and, Bool.or_eq_true, Bool.not_eq_true', decide_eq_false_iff_not, decide_eq_true_eq]
    omega
  unfold badE
  rw [h1, h1, Bool.or_assoc (_ || _) (decide (d.fr < 0)), Bool.or_assoc _ (decide (d.tt < 0))]
set_option maxRecDepth 100000 in
set_option maxHeartbeats 4000000 in
theorem rright7_any (s : Int) (A : Option Addr) (n c0 : Nat) (B : Option Addr) (m d0 : Nat) (E : List Edg) (hn : n = E.length) (hE : E.length ≤ 1099511627776) (w : World) (hs : SliceOf w w.heap.size 7 edgC A E) :
    Calls Tryd.prog 41 #[.agg (nfaC s A n c0 B m d0)] w fun e w' => e = .returned (.bool (rightB s E m)) ∧ Below w.heap.size w w' := by
  obtain ⟨l, hl⟩ : ∃ l, l = E := ⟨_, rfl⟩
  rw [← hl] at hn hE hs ⊢
  clear hl
  have Hn := Lib.hid hn
  have hn2 : n ≤ 1099511627776 := by omega
  clear hn
  go_enter Tryd.func41, Tryd.ntmps41
  have h1 := Blk.new w 25 (nfaC s A n c0 B m d0)
  have hB1 : Below w.heap.size w (w.alloc (.cells (nfaC s A n c0 B m d0) 25)) := below_alloc (Below.refl _ _) _
  go_upto_region 1 with (fail)
  obtain ⟨W1, hW1⟩ : ∃ y, y = w.alloc (.cells (nfaC s A n c0 B m d0) 25) := ⟨_, rfl⟩
  rw [← hW1] at h1 hB1 ⊢
  clear hW1
  have c1 : W1.cell? ⟨w.heap.size, 0, none⟩ = some (.int .i64 s) := h1.cellv (i := 0) rfl
  have c3 : W1.cell? ⟨w.heap.size, 2, none⟩ = some (.slice B m d0) := h1.cellv (i := 2) rfl
  by_cases hs1 : s < 1
  · have hs1b : decide (s < 1) = true := by simpa using hs1
    go_wp2_with (fail)
    go_ret
    refine ⟨?_, hB1⟩
    unfold rightB
    rw [decide_eq_false (show ¬ 1 ≤ s by omega)]
    rfl
  by_cases hsm : ¬ (m : Int) = s
  · have hsb : ((m : Int) == s) = false := by simpa using hsm
    go_wp2_with (fail)
    go_ret
    refine ⟨?_, hB1⟩
    unfold rightB
    rw [decide_eq_false hsm, Bool.and_false]
    rfl
  have hsm := Classical.not_not.1 hsm
  have hr0 : ∀ b, l.all (fun d => !badE s d) = b → rightB s l m = b := fun b hb => by
    unfold rightB
    rw [decide_eq_true (show 1 ≤ s by omega), decide_eq_true hsm, hb]
    rfl
  have Hr0 := Lib.hid hr0
  have hms : ((m : Int) != s) = false := by simpa using hsm
  have hlw := h1.lt
  clear hr0
  go_wp2_with (fail)
  clear c1 c3
  go_loopw [3] (fun i wr => ∃ k : Nat, k ≤ n ∧ i = .int .i64 k ∧ Blk wr w.heap.size 25 (nfaC s A n c0 B m d0) ∧ Hid ((l.take k).all (fun d => !badE s d) = true) ∧ Below w.heap.size w wr ∧ w.heap.size < wr.heap.size) (fun i _ => n - (intOf i).toNat)
  case atStart => exact ⟨0, by omega, rfl, h1, Lib.hid rfl, hB1, hlw⟩
  case round =>
    clear h1 hB1 hlw
    obtain ⟨k, hk, rfl, h1, hall, hB1, hlw⟩ := hrel
    have c2 : wr.cell? ⟨w.heap.size, 1, none⟩ = some (.slice A n c0) := h1.cellv (i := 1) rfl
    by_cases hkl : k < n
    · have hkI : (k : Int) < n := by omega
      have hkl2 : k < l.length := by rw [← Hn.out]; exact hkl
      obtain ⟨b, off, rfl, hb, hrows⟩ := hs.at_ (by omega)
      have hr0 := (hrows k hkl2).keep (hB1.block b hb)
      obtain ⟨dd, hd⟩ : ∃ d, d = l[k] := ⟨_, rfl⟩
      rw [← hd] at hr0
      have hst : (l.take (k + 1)).all (fun d => !badE s d) = !badE s dd := by
        rw [List.take_succ_eq_append_getElem hkl2, List.all_append, hall.out, ← hd]
        simp
      have hbad : badE s dd = true → l.all (fun d => !badE s d) = false := fun h => by
        rw [List.all_eq_false]
        exact ⟨dd, by rw [hd]; exact List.getElem_mem hkl2, by rw [h]; simp⟩
      have Hst := Lib.hid hst
      have Hbad := Lib.hid hbad
      clear hst hbad hd
      have hkb : k < 1099511628000 := by omega
      go_upto_region 7 with (first | (refine wl_load_edge_at rfl _ rfl _ _ rfl _ hr0 ?_) | (refine wl_store_edge rfl _ _ rfl _ _ rfl rfl edge0 (Blk.new _ _ _) ?_; intro w3 h5 hg3))
      have hB3 := below_grown (below_alloc (Below.refl _ wr) (.cells #[.int .i64 0, .int .i64 0, .int .i64 0, .int .u64 0, .int .u64 0, .int .u64 0, .int .u64 0] 76)) hg3 (Nat.le_refl _)
      replace h1 := blk_then h1 hB3
      replace hB1 := below_then hB1 hB3
      replace hlw := Nat.lt_of_lt_of_le hlw hB3.size
      clear hr0 hg3 c2
      obtain ⟨k1, hk1⟩ : ∃ q, decide (dd.kd < 1) = q := ⟨_, rfl⟩
      obtain ⟨k4, hk4⟩ : ∃ q, decide (4 < dd.kd) = q := ⟨_, rfl⟩
      obtain ⟨k2, hk2⟩ : ∃ q, (dd.kd != 2) = q := ⟨_, rfl⟩
      obtain ⟨f0, hf0⟩ : ∃ q, decide (dd.fr < 0) = q := ⟨_, rfl⟩
      obtain ⟨f1, hf1⟩ : ∃ q, decide (s ≤ dd.fr) = q := ⟨_, rfl⟩
      obtain ⟨t0, ht0⟩ : ∃ q, decide (dd.tt < 0) = q := ⟨_, rfl⟩
      obtain ⟨t1, ht1⟩ : ∃ q, decide (s ≤ dd.tt) = q := ⟨_, rfl⟩
      obtain ⟨z, hz⟩ : ∃ q, (!decide (dd.st = 0)) = q := ⟨_, rfl⟩
      have hbd : badE s dd = ((((((k1 || k4) || f0) || f1) || t0) || t1) || (k2 && z)) := by rw [bad_ref7, hk1, hk4, hk2, hf0, hf1, ht0, ht1, hz]
      refine wp_region_text 43 [eqS (.pointer (some ⟨wr.heap.size, 0, none⟩)), eqS (.int .i64 (dd.kd)), eqS (.bool k1), eqS (.bool k1), eqS (vF (true && (k1 == false)) (.pointer (some ⟨wr.heap.size, 0, none⟩))), eqS (vF (true && (k1 == false)) (.int .i64 (dd.kd))), eqS (vF (true && (k1 == false)) (.bool k4)), eqS (.bool (k1 || k4)), eqS (.bool (k1 || k4)), eqS (vF (true && ((k1 || k4) == false)) (.pointer (some ⟨wr.heap.size, 1, none⟩))), eqS (vF (true && ((k1 || k4) == false)) (.int .i64 (dd.fr))), eqS (vF (true && ((k1 || k4) == false)) (.bool f0)), eqS (.bool ((k1 || k4) || f0)), eqS (.bool ((k1 || k4) || f0)), eqS (vF (true && (((k1 || k4) || f0) == false)) (.pointer (some ⟨wr.heap.size, 1, none⟩))), eqS (vF (true && (((k1 || k4) || f0) == false)) (.int .i64 (dd.fr))), eqS (vF (true && (((k1 || k4) || f0) == false)) (.pointer (some ⟨w.heap.size, 0, none⟩))), eqS (vF (true && (((k1 || k4) || f0) == false)) (.int .i64 (s))), eqS (vF (true && (((k1 || k4) || f0) == false)) (.bool f1)), eqS (.bool (((k1 || k4) || f0) || f1)), eqS (.bool (((k1 || k4) || f0) || f1)), eqS (vF (true && ((((k1 || k4) || f0) || f1) == false)) (.pointer (some ⟨wr.heap.size, 2, none⟩))), eqS (vF (true && ((((k1 || k4) || f0) || f1) == false)) (.int .i64 (dd.tt))), eqS (vF (true && ((((k1 || k4) || f0) || f1) == false)) (.bool t0)), eqS (.bool ((((k1 || k4) || f0) || f1) || t0)), eqS (.bool ((((k1 || k4) || f0) || f1) || t0)), eqS (vF (true && (((((k1 || k4) || f0) || f1) || t0) == false)) (.pointer (some ⟨wr.heap.size, 2, none⟩))), eqS (vF (true && (((((k1 || k4) || f0) || f1) || t0) == false)) (.int .i64 (dd.tt))), eqS (vF (true && (((((k1 || k4) || f0) || f1) || t0) == false)) (.pointer (some ⟨w.heap.size, 0, none⟩))), eqS (vF (true && (((((k1 || k4) || f0) || f1) || t0) == false)) (.int .i64 (s))), eqS (vF (true && (((((k1 || k4) || f0) || f1) || t0) == false)) (.bool t1)), eqS (.bool (((((k1 || k4) || f0) || f1) || t0) || t1)), eqS (.bool (((((k1 || k4) || f0) || f1) || t0) || t1)), eqS (vF (true && ((((((k1 || k4) || f0) || f1) || t0) || t1) == false)) (.pointer (some ⟨wr.heap.size, 0, none⟩))), eqS (vF (true && ((((((k1 || k4) || f0) || f1) || t0) || t1) == false)) (.int .i64 (dd.kd))), eqS (vF (true && ((((((k1 || k4) || f0) || f1) || t0) || t1) == false)) (.bool k2)), eqS (vF (true && ((((((k1 || k4) || f0) || f1) || t0) || t1) == false)) (.bool k2)), eqS (vF ((true && ((((((k1 || k4) || f0) || f1) || t0) || t1) == false)) && (k2 == true)) (.pointer (some ⟨wr.heap.size, 3, none⟩))), eqS (vF ((true && ((((((k1 || k4) || f0) || f1) || t0) || t1) == false)) && (k2 == true)) (.agg (setC dd.st))), eqS (vF ((true && ((((((k1 || k4) || f0) || f1) || t0) || t1) == false)) && (k2 == true)) (.agg (setC 0))), eqS (vF ((true && ((((((k1 || k4) || f0) || f1) || t0) || t1) == false)) && (k2 == true)) (.bool z)), eqS (vF (true && ((((((k1 || k4) || f0) || f1) || t0) || t1) == false)) (.bool (k2 && z))), eqS (.bool ((((((k1 || k4) || f0) || f1) || t0) || t1) || (k2 && z)))] [28, 29, 30, 31, 32, 33, 34, 35, 36, 37, 38, 39, 40, 41, 42, 43, 44, 45, 46, 47, 48, 49, 50, 51, 52, 53, 54, 55, 56, 57, 58, 59, 60, 61, 62, 63, 64, 65, 66, 67, 68, 69, 70] (by kernel_rfl) rfl ?_ ?_
      · skip
        refine Steps.cons (fun a' w' hG hB dep => gs_field (want_none rfl) _ _ _ rfl wr.heap.size 0 0 (hG.other 4 rfl) (fun wz => field_edge_0 wr.heap.size 0 wz) rfl) ?_
        refine Steps.cons (fun a' w' hG hB dep => gs_load1 (want_none rfl) _ _ rfl wr.heap.size (0) (dep 0 rfl 28 rfl) (.int .i64 (dd.kd)) ((blk_then h5 hB).cellv (i := 0) rfl) _ Tryd.underlying3 rfl rfl) ?_
        refine Steps.cons (fun a' w' hG hB dep => gs_lss_int (want_none rfl) _ _ _ _ rfl _ _ _ (dep 1 rfl 29 rfl) rfl (id (congrArg Value.bool hk1))) ?_
        refine Steps.cons (fun a' w' hG hB dep => gs_move (want_none rfl) _ rfl (id (dep 2 rfl 30 rfl))) ?_
        refine Steps.cons (fun a' w' hG hB dep => gs_guard (c := true) (b' := k1) rfl rfl (dep 3 rfl 31 rfl) (fun hc he hw => gs_field hw _ _ _ rfl wr.heap.size 0 0 (hG.other 4 rfl) (fun wz => field_edge_0 wr.heap.size 0 wz) (vF_yes (on_g hc he) _).symm) (fun hn => vF_no hn _)) ?_
        refine Steps.cons (fun a' w' hG hB dep => gs_guard (c := true) (b' := k1) rfl rfl (dep 3 rfl 31 rfl) (fun hc he hw => gs_load1 hw _ _ rfl wr.heap.size (0) (Eq.trans (dep 4 rfl 32 rfl) (vF_yes (on_g hc he) _)) (.int .i64 (dd.kd)) ((blk_then h5 hB).cellv (i := 0) rfl) _ Tryd.underlying3 rfl (vF_yes (on_g hc he) _).symm) (fun hn => vF_no hn _)) ?_
        refine Steps.cons (fun a' w' hG hB dep => gs_guard (c := true) (b' := k1) rfl rfl (dep 3 rfl 31 rfl) (fun hc he hw => gs_gtr_int hw _ _ _ _ rfl _ _ _ (Eq.trans (dep 5 rfl 33 rfl) (vF_yes (on_g hc he) _)) rfl (Eq.trans (congrArg Value.bool hk4) (vF_yes (on_g hc he) _).symm)) (fun hn => vF_no hn _)) ?_
        refine Steps.cons (fun a' w' hG hB dep => gs_pick (want_none rfl) _ _ _ rfl k1 (dep 3 rfl 31 rfl) (id (pick_or2 (c := true) rfl (dep 6 rfl 34 rfl)))) ?_
        refine Steps.cons (fun a' w' hG hB dep => gs_move (want_none rfl) _ rfl (id (dep 7 rfl 35 rfl))) ?_
        refine Steps.cons (fun a' w' hG hB dep => gs_guard (c := true) (b' := (k1 || k4)) rfl rfl (dep 8 rfl 36 rfl) (fun hc he hw => gs_field hw _ _ _ rfl wr.heap.size 0 1 (hG.other 4 rfl) (fun wz => field_edge_1 wr.heap.size 0 wz) (vF_yes (on_g hc he) _).symm) (fun hn => vF_no hn _)) ?_
        refine Steps.cons (fun a' w' hG hB dep => gs_guard (c := true) (b' := (k1 || k4)) rfl rfl (dep 8 rfl 36 rfl) (fun hc he hw => gs_load1 hw _ _ rfl wr.heap.size (1) (Eq.trans (dep 9 rfl 37 rfl) (vF_yes (on_g hc he) _)) (.int .i64 (dd.fr)) ((blk_then h5 hB).cellv (i := 1) rfl) _ Tryd.underlying3 rfl (vF_yes (on_g hc he) _).symm) (fun hn => vF_no hn _)) ?_
        refine Steps.cons (fun a' w' hG hB dep => gs_guard (c := true) (b' := (k1 || k4)) rfl rfl (dep 8 rfl 36 rfl) (fun hc he hw => gs_lss_int hw _ _ _ _ rfl _ _ _ (Eq.trans (dep 10 rfl 38 rfl) (vF_yes (on_g hc he) _)) rfl (Eq.trans (congrArg Value.bool hf0) (vF_yes (on_g hc he) _).symm)) (fun hn => vF_no hn _)) ?_
        refine Steps.cons (fun a' w' hG hB dep => gs_pick (want_none rfl) _ _ _ rfl (k1 || k4) (dep 8 rfl 36 rfl) (id (pick_or2 (c := true) rfl (dep 11 rfl 39 rfl)))) ?_
        refine Steps.cons (fun a' w' hG hB dep => gs_move (want_none rfl) _ rfl (id (dep 12 rfl 40 rfl))) ?_
        refine Steps.cons (fun a' w' hG hB dep => gs_guard (c := true) (b' := ((k1 || k4) || f0)) rfl rfl (dep 13 rfl 41 rfl) (fun hc he hw => gs_field hw _ _ _ rfl wr.heap.size 0 1 (hG.other 4 rfl) (fun wz => field_edge_1 wr.heap.size 0 wz) (vF_yes (on_g hc he) _).symm) (fun hn => vF_no hn _)) ?_
        refine Steps.cons (fun a' w' hG hB dep => gs_guard (c := true) (b' := ((k1 || k4) || f0)) rfl rfl (dep 13 rfl 41 rfl) (fun hc he hw => gs_load1 hw _ _ rfl wr.heap.size (1) (Eq.trans (dep 14 rfl 42 rfl) (vF_yes (on_g hc he) _)) (.int .i64 (dd.fr)) ((blk_then h5 hB).cellv (i := 1) rfl) _ Tryd.underlying3 rfl (vF_yes (on_g hc he) _).symm) (fun hn => vF_no hn _)) ?_
        refine Steps.cons (fun a' w' hG hB dep => gs_guard (c := true) (b' := ((k1 || k4) || f0)) rfl rfl (dep 13 rfl 41 rfl) (fun hc he hw => gs_field hw _ _ _ rfl w.heap.size 0 0 (hG.other 1 rfl) (fun wz => field_nfa_0 w.heap.size 0 wz) (vF_yes (on_g hc he) _).symm) (fun hn => vF_no hn _)) ?_
        refine Steps.cons (fun a' w' hG hB dep => gs_guard (c := true) (b' := ((k1 || k4) || f0)) rfl rfl (dep 13 rfl 41 rfl) (fun hc he hw => gs_load1 hw _ _ rfl w.heap.size (0) (Eq.trans (dep 16 rfl 44 rfl) (vF_yes (on_g hc he) _)) (.int .i64 (s)) ((blk_then h1 hB).cellv (i := 0) rfl) _ Tryd.underlying3 rfl (vF_yes (on_g hc he) _).symm) (fun hn => vF_no hn _)) ?_
        refine Steps.cons (fun a' w' hG hB dep => gs_guard (c := true) (b' := ((k1 || k4) || f0)) rfl rfl (dep 13 rfl 41 rfl) (fun hc he hw => gs_geq_int hw _ _ _ _ rfl _ _ _ (Eq.trans (dep 15 rfl 43 rfl) (vF_yes (on_g hc he) _)) (Eq.trans (dep 17 rfl 45 rfl) (vF_yes (on_g hc he) _)) (Eq.trans (congrArg Value.bool hf1) (vF_yes (on_g hc he) _).symm)) (fun hn => vF_no hn _)) ?_
        refine Steps.cons (fun a' w' hG hB dep => gs_pick (want_none rfl) _ _ _ rfl ((k1 || k4) || f0) (dep 13 rfl 41 rfl) (id (pick_or2 (c := true) rfl (dep 18 rfl 46 rfl)))) ?_
        refine Steps.cons (fun a' w' hG hB dep => gs_move (want_none rfl) _ rfl (id (dep 19 rfl 47 rfl))) ?_
        refine Steps.cons (fun a' w' hG hB dep => gs_guard (c := true) (b' := (((k1 || k4) || f0) || f1)) rfl rfl (dep 20 rfl 48 rfl) (fun hc he hw => gs_field hw _ _ _ rfl wr.heap.size 0 2 (hG.other 4 rfl) (fun wz => field_edge_2 wr.heap.size 0 wz) (vF_yes (on_g hc he) _).symm) (fun hn => vF_no hn _)) ?_
        refine Steps.cons (fun a' w' hG hB dep => gs_guard (c := true) (b' := (((k1 || k4) || f0) || f1)) rfl rfl (dep 20 rfl 48 rfl) (fun hc he hw => gs_load1 hw _ _ rfl wr.heap.size (2) (Eq.trans (dep 21 rfl 49 rfl) (vF_yes (on_g hc he) _)) (.int .i64 (dd.tt)) ((blk_then h5 hB).cellv (i := 2) rfl) _ Tryd.underlying3 rfl (vF_yes (on_g hc he) _).symm) (fun hn => vF_no hn _)) ?_
        refine Steps.cons (fun a' w' hG hB dep => gs_guard (c := true) (b' := (((k1 || k4) || f0) || f1)) rfl rfl (dep 20 rfl 48 rfl) (fun hc he hw => gs_lss_int hw _ _ _ _ rfl _ _ _ (Eq.trans (dep 22 rfl 50 rfl) (vF_yes (on_g hc he) _)) rfl (Eq.trans (congrArg Value.bool ht0) (vF_yes (on_g hc he) _).symm)) (fun hn => vF_no hn _)) ?_
        refine Steps.cons (fun a' w' hG hB dep => gs_pick (want_none rfl) _ _ _ rfl (((k1 || k4) || f0) || f1) (dep 20 rfl 48 rfl) (id (pick_or2 (c := true) rfl (dep 23 rfl 51 rfl)))) ?_
        refine Steps.cons (fun a' w' hG hB dep => gs_move (want_none rfl) _ rfl (id (dep 24 rfl 52 rfl))) ?_
        refine Steps.cons (fun a' w' hG hB dep => gs_guard (c := true) (b' := ((((k1 || k4) || f0) || f1) || t0)) rfl rfl (dep 25 rfl 53 rfl) (fun hc he hw => gs_field hw _ _ _ rfl wr.heap.size 0 2 (hG.other 4 rfl) (fun wz => field_edge_2 wr.heap.size 0 wz) (vF_yes (on_g hc he) _).symm) (fun hn => vF_no hn _)) ?_
        refine Steps.cons (fun a' w' hG hB dep => gs_guard (c := true) (b' := ((((k1 || k4) || f0) || f1) || t0)) rfl rfl (dep 25 rfl 53 rfl) (fun hc he hw => gs_load1 hw _ _ rfl wr.heap.size (2) (Eq.trans (dep 26 rfl 54 rfl) (vF_yes (on_g hc he) _)) (.int .i64 (dd.tt)) ((blk_then h5 hB).cellv (i := 2) rfl) _ Tryd.underlying3 rfl (vF_yes (on_g hc he) _).symm) (fun hn => vF_no hn _)) ?_
        refine Steps.cons (fun a' w' hG hB dep => gs_guard (c := true) (b' := ((((k1 || k4) || f0) || f1) || t0)) rfl rfl (dep 25 rfl 53 rfl) (fun hc he hw => gs_field hw _ _ _ rfl w.heap.size 0 0 (hG.other 1 rfl) (fun wz => field_nfa_0 w.heap.size 0 wz) (vF_yes (on_g hc he) _).symm) (fun hn => vF_no hn _)) ?_
        refine Steps.cons (fun a' w' hG hB dep => gs_guard (c := true) (b' := ((((k1 || k4) || f0) || f1) || t0)) rfl rfl (dep 25 rfl 53 rfl) (fun hc he hw => gs_load1 hw _ _ rfl w.heap.size (0) (Eq.trans (dep 28 rfl 56 rfl) (vF_yes (on_g hc he) _)) (.int .i64 (s)) ((blk_then h1 hB).cellv (i := 0) rfl) _ Tryd.underlying3 rfl (vF_yes (on_g hc he) _).symm) (fun hn => vF_no hn _)) ?_
        refine Steps.cons (fun a' w' hG hB dep => gs_guard (c := true) (b' := ((((k1 || k4) || f0) || f1) || t0)) rfl rfl (dep 25 rfl 53 rfl) (fun hc he hw => gs_geq_int hw _ _ _ _ rfl _ _ _ (Eq.trans (dep 27 rfl 55 rfl) (vF_yes (on_g hc he) _)) (Eq.trans (dep 29 rfl 57 rfl) (vF_yes (on_g hc he) _)) (Eq.trans (congrArg Value.bool ht1) (vF_yes (on_g hc he) _).symm)) (fun hn => vF_no hn _)) ?_
        refine Steps.cons (fun a' w' hG hB dep => gs_pick (want_none rfl) _ _ _ rfl ((((k1 || k4) || f0) || f1) || t0) (dep 25 rfl 53 rfl) (id (pick_or2 (c := true) rfl (dep 30 rfl 58 rfl)))) ?_
        refine Steps.cons (fun a' w' hG hB dep => gs_move (want_none rfl) _ rfl (id (dep 31 rfl 59 rfl))) ?_
        refine Steps.cons (fun a' w' hG hB dep => gs_guard (c := true) (b' := (((((k1 || k4) || f0) || f1) || t0) || t1)) rfl rfl (dep 32 rfl 60 rfl) (fun hc he hw => gs_field hw _ _ _ rfl wr.heap.size 0 0 (hG.other 4 rfl) (fun wz => field_edge_0 wr.heap.size 0 wz) (vF_yes (on_g hc he) _).symm) (fun hn => vF_no hn _)) ?_
        refine Steps.cons (fun a' w' hG hB dep => gs_guard (c := true) (b' := (((((k1 || k4) || f0) || f1) || t0) || t1)) rfl rfl (dep 32 rfl 60 rfl) (fun hc he hw => gs_load1 hw _ _ rfl wr.heap.size (0) (Eq.trans (dep 33 rfl 61 rfl) (vF_yes (on_g hc he) _)) (.int .i64 (dd.kd)) ((blk_then h5 hB).cellv (i := 0) rfl) _ Tryd.underlying3 rfl (vF_yes (on_g hc he) _).symm) (fun hn => vF_no hn _)) ?_
        refine Steps.cons (fun a' w' hG hB dep => gs_guard (c := true) (b' := (((((k1 || k4) || f0) || f1) || t0) || t1)) rfl rfl (dep 32 rfl 60 rfl) (fun hc he hw => gs_neq_int hw _ _ _ _ rfl _ _ _ (Eq.trans (dep 34 rfl 62 rfl) (vF_yes (on_g hc he) _)) rfl (Eq.trans (congrArg Value.bool hk2) (vF_yes (on_g hc he) _).symm)) (fun hn => vF_no hn _)) ?_
        refine Steps.cons (fun a' w' hG hB dep => gs_guard (c := true) (b' := (((((k1 || k4) || f0) || f1) || t0) || t1)) rfl rfl (dep 32 rfl 60 rfl) (fun hc he hw => gs_move hw _ rfl (Eq.trans (Eq.trans (dep 35 rfl 63 rfl) (vF_yes (on_g hc he) _)) (vF_yes (on_g hc he) _).symm)) (fun hn => vF_no hn _)) ?_
        refine Steps.cons (fun a' w' hG hB dep => gs_guard (c := (true && ((((((k1 || k4) || f0) || f1) || t0) || t1) == false))) (b' := k2) rfl rfl (dep 36 rfl 64 rfl) (fun hc he hw => gs_field hw _ _ _ rfl wr.heap.size 0 3 (hG.other 4 rfl) (fun wz => field_edge_3 wr.heap.size 0 wz) (vF_yes (on_g hc he) _).symm) (fun hn => vF_no hn _)) ?_
        refine Steps.cons (fun a' w' hG hB dep => gs_guard (c := (true && ((((((k1 || k4) || f0) || f1) || t0) || t1) == false))) (b' := k2) rfl rfl (dep 36 rfl 64 rfl) (fun hc he hw => gs_load_set_at hw _ rfl wr.heap.size 3 (Eq.trans (dep 37 rfl 65 rfl) (vF_yes (on_g hc he) _)) _ ((blk_then h5 hB).st) (vF_yes (on_g hc he) _).symm) (fun hn => vF_no hn _)) ?_
        refine Steps.cons (fun a' w' hG hB dep => gs_guard (c := (true && ((((((k1 || k4) || f0) || f1) || t0) || t1) == false))) (b' := k2) rfl rfl (dep 36 rfl 64 rfl) (fun hc he hw => gs_build_set0 hw rfl (vF_yes (on_g hc he) _).symm) (fun hn => vF_no hn _)) ?_
        refine Steps.cons (fun a' w' hG hB dep => gs_guard (c := (true && ((((((k1 || k4) || f0) || f1) || t0) || t1) == false))) (b' := k2) rfl rfl (dep 36 rfl 64 rfl) (fun hc he hw => gs_neq_set hw _ _ _ rfl _ _ (Eq.trans (dep 38 rfl 66 rfl) (vF_yes (on_g hc he) _)) (Eq.trans (dep 39 rfl 67 rfl) (vF_yes (on_g hc he) _)) (Eq.trans (congrArg Value.bool hz) (vF_yes (on_g hc he) _).symm)) (fun hn => vF_no hn _)) ?_
        refine Steps.cons (fun a' w' hG hB dep => gs_guard (c := true) (b' := (((((k1 || k4) || f0) || f1) || t0) || t1)) rfl rfl (dep 32 rfl 60 rfl) (fun hc he hw => gs_pick hw _ _ _ rfl k2 (Eq.trans (dep 36 rfl 64 rfl) (vF_yes (on_g hc he) _)) (Eq.trans (pick_and2 (c := (true && ((((((k1 || k4) || f0) || f1) || t0) || t1) == false))) (on_g hc he) (dep 40 rfl 68 rfl)) (vF_yes (on_g hc he) _).symm)) (fun hn => vF_no hn _)) ?_
        refine Steps.cons (fun a' w' hG hB dep => gs_pick (want_none rfl) _ _ _ rfl (((((k1 || k4) || f0) || f1) || t0) || t1) (dep 32 rfl 60 rfl) (id (pick_or2 (c := true) rfl (dep 41 rfl 69 rfl)))) ?_
        exact Steps.nil
      rw [← hbd]
      intro u W4 hB4 ans
      have u70 : u 70 = .bool (badE s dd) := ans 42 70 (by decide) rfl
      obtain ⟨q, hq⟩ : ∃ q, badE s dd = q := ⟨_, rfl⟩
      rw [hq] at u70
      clear ans hbd hk1 hk4 hk2 hf0 hf1 ht0 ht1 hz
      simp only [putAll, List.foldl_cons, List.foldl_nil, Act.put, List.setIfInBounds_toArray, List.set_cons_zero, List.set_cons_succ, u70]
      clear u70
      simp only [List.drop]
      refine wpList_nil ?_
      replace h1 := blk_then h1 hB4
      replace hB1 := below_then hB1 hB4
      replace hlw := Nat.lt_of_lt_of_le hlw hB4.size
      cases q
      · go_wp2_with (fail)
        exact ⟨⟨k + 1, by omega, rfl, h1, Lib.hid (Hst.out.trans (by rw [hq]; rfl)), hB1, hlw⟩, by simp only [intOf]; omega⟩
      · go_wp2_with (fail)
        go_ret
        exact ⟨by rw [Hr0.out _ (Hbad.out hq)]; rfl, hB1⟩
    · have hkI : ¬ (k : Int) < n := by omega
      go_wp2_with (fail)
      go_ret
      have hall2 := hall.out
      rw [List.take_of_length_le (by rw [← Hn.out]; omega)] at hall2
      exact ⟨by rw [Hr0.out _ hall2]; rfl, hB1⟩
end Go.Proofs.YtkedgombccdamaaDoor
namespace Go.Proofs.YtkedgombccdamaaDoor
open Go.RowKit
set_option linter.unusedVariables false
set_option linter.unusedSimpArgs false

section
variable {P : Program} {ops : Array Oper} {S : Nat → GSpec} {Q : Exit → Act → World → Prop} {i : Nat} {o : Oper} {a : Act} {w : World}
end
theorem under_sets : Tryd.prog.underlying 83 = some (.slice (Tryd.prog.elem 83)) := by kernel_rfl
theorem size_setE (w : World) : (sizeOf (Tryd.prog.elem 83)).run Tryd.prog w = .ok 4 w := by kernel_rfl
section
variable {ops : Array Oper} {S : Nat → GSpec} {Q : Exit → Act → World → Prop} {i : Nat} {o : Oper} {a : Act} {w : World}
end
end Go.Proofs.YtkedgombccdamaaDoor
namespace Go.Proofs.YtkedgombccdamaaDoor
open Go.RowKit Go.Maps Go.WideMaps
set_option linter.unusedVariables false
set_option linter.unusedSimpArgs false

theorem sig_take (l : List BSet) (k : Nat) (h : k < l.length) (a b : Nat) : sig (l.take (k + 1)) a = sig (l.take (k + 1)) b ↔ sig (l.take k) a = sig (l.take k) b ∧ l[k].getLsbD a = l[k].getLsbD b := by
  rw [take_snoc' l k h, sig_snoc]
theorem sig_split (l : List BSet) (k : Nat) (h : k < l.length) (a b : Nat) (hne : ¬ l[k].getLsbD a = l[k].getLsbD b) : ¬ sig l a = sig l b := by
  intro e
  apply hne
  unfold sig at e
  have := congrArg (fun x => x[k]?) e
  simpa [h] using this

set_option maxHeartbeats 1000000 in
theorem apart_any (A : Option Addr) (n c : Nat) (l : List BSet) (a b : Nat) (ha : a < 256) (hb : b < 256) (w : World) (hn : n = l.length) (hm : n ≤ maxLen) (hs : SliceOf w w.heap.size 4 setC A l) :
    Calls Tryd.prog 70 #[.slice A n c, .int .i64 a, .int .i64 b] w fun e w' => e = .returned (.bool (!decide (sig l a = sig l b))) ∧ Below w.heap.size w w' := by
  have Hn := Lib.hid hn
  clear hn
  unfold maxLen at hm
  go_enter Tryd.func70, Tryd.ntmps70
  go_wp2
  go_loopw [7] (fun i wr => ∃ k : Nat, k ≤ n ∧ i = .int .i64 k ∧ Hid (sig (l.take k) a = sig (l.take k) b) ∧ Below w.heap.size w wr) (fun i _ => n - (intOf i).toNat)
  case atStart => exact ⟨0, by omega, rfl, rfl, Below.refl _ _⟩
  case round =>
    obtain ⟨k, hk, rfl, hsig, hB⟩ := hrel
    by_cases hlt : k < n
    · have hlt' : k < l.length := by have := Hn.out; omega
      obtain ⟨b0, off, rfl, hbl, hrow⟩ := (hs.below hB).at_ (by omega)
      have hr := hrow k hlt'
      clear hrow
      have hC := Below.refl wr.heap.size wr
      have hbw : b0 < wr.heap.size := by have := hB.size; omega
      obtain ⟨p, hp⟩ : ∃ p, p = l[k].getLsbD a := ⟨_, rfl⟩
      obtain ⟨q, hq⟩ : ∃ q, q = l[k].getLsbD b := ⟨_, rfl⟩
      have hp' := Lib.hid hp.symm
      have hq' := Lib.hid hq.symm
      clear hp hq
      cases p <;> cases q
      all_goals (go_wp2_with (first
        | (refine wl_load_set_at rfl _ rfl _ _ rfl _ (hr.keep (hC.block b0 hbw)) ?_)
        | (go_at_call 87; refine (rhas_nat _ _ (by first | exact ha | exact hb) _).mono ?_; (first | rw [hp'.out] | rw [hq'.out]); rintro e w1 ⟨rfl, hB1⟩; replace hC := below_then hC hB1)))
      all_goals first
        | (go_roundw
           case rel => exact ⟨k + 1, by omega, by go_num, (sig_take l k hlt' a b).2 ⟨hsig, by rw [hp'.out, hq'.out]⟩, below_then hB hC⟩
           case measure => simp [intOf]; omega)
        | (go_ret
           refine ⟨?_, below_then hB hC⟩
           rw [decide_eq_false (sig_split l k hlt' a b (by rw [hp'.out, hq'.out]; decide))]
           rfl)
    · have hkk : l.take k = l := List.take_of_length_le (by have := Hn.out; omega)
      go_wp2
      go_ret
      refine ⟨?_, hB⟩
      rw [hkk] at hsig
      rw [decide_eq_true hsig.out]
      rfl

section
variable {ops : Array Oper} {rest : List Oper} {o : Oper} {a : Act} {w : World} {Q : Exit → Act → World → Prop}
theorem wl_set_cls (hgd : o.guard = none) (x y : Operand) (ho : o.op = .store 3 x y)
    (g i : Nat) (hx : a.eval x = .pointer (some ⟨g, i, none⟩)) (v : Int) (hy : a.eval y = .int .i64 v) (old : Nat → Int) (hb : Blk w g 30 (clsC old)) (hi : i < 256)
    (h : ∀ w', Blk w' g 30 (clsC (putN old i v)) → w.grownBy w' (some g) → wpList Tryd.prog ops Q rest (a.put o.dst undef) w') : wpList Tryd.prog ops Q (o :: rest) a w :=
  wl_store_cell hgd _ x y ho g i hx _ _ _ hb (by rw [clsC_size]; exact hi) info_int (by rw [hy]; rfl) (by rw [hy]; rfl) (by rw [hy]; exact clsC_set old i v) h
end
/-- one int -/
def s_encN (x : Nat) : Array Value := #[.int .i64 (x : Int)]
theorem s_encN_size (x : Nat) : (s_encN x).size = 1 := rfl
theorem s_encN_one (x : Nat) : (s_encN x).all (·.oneCell') = true := by simp [s_encN, Value.oneCell']
set_option maxRecDepth 100000 in
set_option maxHeartbeats 2000000 in
theorem rclasses_any (A : Option Addr) (n c : Nat) (l : List BSet) (w : World) (hn : n = l.length) (hm : n ≤ maxLen) (hs : SliceOf w w.heap.size 4 setC A l) :
    Calls Tryd.prog 42 #[.slice A n c] w fun e w' => e = .returned (.tuple #[.agg (clsC (cls l)), .int .i64 (many l)]) ∧ Below w.heap.size w w' := by
  have Hn := Lib.hid hn
  clear hn
  have hz := zero_cls
  have hs2 : w.heap.size ≤ w.heap.size + 1 := by omega
  obtain ⟨i0, hi0, hz0, hz1, hz2⟩ := info_parts info_int3
  go_enter Tryd.func42, Tryd.ntmps42
  go_wp2
  go_loopw [6, 5] (fun i v wr => ∃ b : Nat, b ≤ 256 ∧ i = .int .i64 b ∧ Own wr (w.heap.size + 1 + 1) 3 1 s_encN v (fb (sig l) b) ∧ Blk wr (w.heap.size + 1) 30 (clsC (upto b (cls l) (fun _ => 0))) ∧ Blk wr w.heap.size 30 (clsC fun _ => 0) ∧ Below w.heap.size w wr) (fun i _ _ => 256 - (intOf i).toNat)
  case atStart =>
    refine ⟨0, by omega, rfl, Own.nil_ _ _ _ _ _, ?_, ?_, ?_⟩
    · rw [upto_zero]
      exact Blk.new' _ _ _ (World.size_alloc _ _).symm
    · exact (Blk.new _ _ _).alloc _
    · exact ((Below.refl _ _).alloc (Nat.le_refl _) _).alloc (by simp) _
  case round =>
    obtain ⟨b, hb, rfl, hown, hb1, hb2, hB⟩ := hrel
    obtain ⟨A2, c2, rfl, hc2, hc3⟩ := hown.shape
    have hle : (fb (sig l) b).length ≤ b := by rw [fb_length]; exact firsts_length_le (sig l) b
    obtain ⟨ys, hys⟩ : ∃ ys, ys = fb (sig l) b := ⟨_, rfl⟩
    rw [← hys] at hle hc2 hown ⊢
    obtain ⟨m, hm'⟩ : ∃ m, m = ys.length := ⟨_, rfl⟩
    rw [← hm'] at hle hc2 hown ⊢
    replace hys := Lib.hid hys
    replace hm' := Lib.hid hm'
    have hlt0 : w.heap.size + 1 < wr.heap.size := hb1.lt
    by_cases hlt : b < 256
    · go_wp2_with (first | (refine wl_set_cls rfl _ _ rfl _ _ rfl _ rfl _ hb1 hlt ?_; intro w1 hb3 hg3))
      have hownlt := hown.lt
      replace hown := hown.grown hg3 (fun e => by have := hownlt _ e; omega)
      replace hb2 := blk_grown hb2 hg3 (by omega)
      replace hB := below_grown hB hg3 hs2
      rw [show (-1 : Int) = seek (sig l) b 0 from (seek_zero _ _).symm] at hb3
      clear hb1 hg3 hownlt hlt0
      obtain ⟨wo, rfl⟩ : ∃ wo : World, wo = wr := ⟨_, rfl⟩
      go_loopw [7] (fun i wr => ∃ k : Nat, k ≤ m ∧ i = .int .i64 k ∧ Own wr (w.heap.size + 1 + 1) 3 1 s_encN (.slice A2 m c2) ys ∧ Blk wr (w.heap.size + 1) 30 (clsC (putN (upto b (cls l) (fun _ => 0)) b (seek (sig l) b k))) ∧ Blk wr w.heap.size 30 (clsC fun _ => 0) ∧ Below w.heap.size w wr) (fun i _ => m - (intOf i).toNat)
      case atStart => exact ⟨0, by omega, rfl, hown, hb3, hb2, hB⟩
      case round =>
        obtain ⟨k, hk, rfl, hown, hb1, hb2, hB⟩ := hrel
        by_cases hkt : k < m
        · have hkl : k < ys.length := by rw [← hm'.out]; exact hkt
          obtain ⟨g, cap, hv, hg1, hg2, _, _⟩ := hown.form (by omega)
          injection hv with hA h1 h2
          subst hA
          clear h1 h2
          have hcell : wr.cell? ⟨g, k, none⟩ = some (.int .i64 ys[k]) := by
            have := hown.row s_encN_size k hkl 0 _ rfl
            rw [Nat.mul_one] at this
            exact this
          have hyb : ys[k] < 256 := by
            have := fb_lt (sig l) b ys[k] (by rw [← hys.out]; exact List.getElem_mem hkl)
            omega
          have hC := Below.refl wr.heap.size wr
          have hb0 : w.heap.size + 1 < wr.heap.size := hb1.lt
          have hstep : (sig l ys[k] = sig l b → seek (sig l) b (k + 1) = k) ∧ (¬ sig l ys[k] = sig l b → seek (sig l) b (k + 1) = seek (sig l) b k) := by
            have h1 := seek_hit (sig l) b k
            have h2 := seek_miss (sig l) b k
            rw [← hys.out] at h1 h2
            exact ⟨h1 hkl, h2 hkl⟩
          obtain ⟨y, hy⟩ : ∃ y, y = ys[k] := ⟨_, rfl⟩
          rw [← hy] at hcell hyb hstep
          have hs3 := (hs.below hB).more hB.size
          clear hy
          cases he : decide (sig l y = sig l b) with
          | true =>
            have hx := Lib.hid he
            have hst := Lib.hid (hstep.1 (of_decide_eq_true he))
            clear hstep he
            go_wp2_with (first
              | (go_at_call 70; refine (apart_any A n c l y b hyb hlt _ Hn.out hm hs3).mono ?_; rw [hx.out]; rintro e w1 ⟨rfl, hB1⟩; replace hC := below_then hC hB1)
              | (refine wl_set_cls rfl _ _ rfl _ _ rfl _ rfl _ (blk_then hb1 hC) hlt ?_; intro w2 hb3 hg3))
            go_roundw
            case rel =>
              have hownlt := (hown.then_ hC).lt
              refine ⟨k + 1, by omega, by go_num, (hown.then_ hC).grown hg3 (fun e => by have := hownlt _ e; omega), ?_, blk_grown (blk_then hb2 hC) hg3 (by omega), below_grown (below_then hB hC) hg3 hs2⟩
              rw [hst.out, ← putN_put]
              exact hb3
            case measure => simp [intOf]; omega
          | false =>
            have hx := Lib.hid he
            have hst := Lib.hid (hstep.2 (of_decide_eq_false he))
            clear hstep he
            go_wp2_with (first
              | (go_at_call 70; refine (apart_any A n c l y b hyb hlt _ Hn.out hm hs3).mono ?_; rw [hx.out]; rintro e w1 ⟨rfl, hB1⟩; replace hC := below_then hC hB1))
            go_roundw
            case rel =>
              refine ⟨k + 1, by omega, by go_num, hown.then_ hC, ?_, blk_then hb2 hC, below_then hB hC⟩
              rw [hst.out]
              exact blk_then hb1 hC
            case measure => simp [intOf]; omega
        · obtain rfl : k = m := by omega
          have hB0 : w.heap.size + 1 < wr.heap.size := hb1.lt
          have hownlt := hown.lt
          have hmap : sig l b ∈ firsts (sig l) b ∨ ¬ sig l b ∈ firsts (sig l) b := Classical.em _
          rcases hmap with hmap | hmap
          · have hsk : seek (sig l) b k = cls l b := by rw [hm'.out, hys.out]; exact seek_old (sig l) b hmap
            rw [hsk, upto_put (cls l) _ b _ rfl] at hb1
            have hc := hb1.cellv (clsC_at _ b hlt)
            rw [show upto (b + 1) (cls l) (fun _ => 0) b = cls l b by simp [upto]] at hc
            have h0 := cls_ge l b
            have hfb : ys = fb (sig l) (b + 1) := by rw [fb_old (sig l) b hmap]; exact hys.out
            obtain ⟨v, hv⟩ : ∃ v, v = cls l b := ⟨_, rfl⟩
            rw [← hv] at hc h0
            clear hsk hv
            go_wp2
            go_roundw
            case rel => exact ⟨b + 1, by omega, by go_num, hfb ▸ hown, hb1, hb2, hB⟩
            case measure => simp [intOf]; omega
          · have hsk : seek (sig l) b k = -1 := by rw [hm'.out, hys.out]; exact seek_new (sig l) b hmap
            rw [hsk] at hb1
            have hc := hb1.cellv (clsC_at _ b hlt)
            rw [putN_self] at hc
            have hnum : Hid ((k : Int) = cls l b) := Lib.hid (by unfold cls; rw [num_new (sig l) b hmap, hm'.out, hys.out, fb_length])
            have hfb : ys ++ [b] = fb (sig l) (b + 1) := by rw [fb_new (sig l) b hmap, ← hys.out]
            clear hsk
            go_wp2_with (first
              | (refine wl_set_cls rfl _ _ rfl _ _ rfl _ rfl _ hb1 hlt ?_; intro w1 hb3 hg3)
              | (at_builtin; refine wl_append _ rfl _ _ 67 rfl (w.heap.size + 1 + 1) 3 i0 _ 1 8 Tryd.underlying67 hi0 hz0 hz1 hz2 rfl (by decide) s_encN_size s_encN_one _ ys rfl ((hown.grown hg3 (fun e => by have := hownlt _ e; omega)).alloc (.cells (s_encN b) 3)) _ _ 1 1 [b] rfl rfl (slice_one (Blk.new _ 3 (s_encN b))) (by rw [← hm'.out]; unfold maxLen; omega) (by rw [← hm'.out]; omega) (by simp; have := hg3.size; omega) ?_; intro v2 w2 hown2 hg2 hat2))
            go_roundw
            case rel =>
              have hne : ∀ j, (Value.slice A2 k c2).ownBlock = some j → w.heap.size + 1 + 1 ≤ j := fun j e => (hownlt j e).1
              have hg3s := hg3.size
              refine ⟨b + 1, by omega, by go_num, hfb ▸ hown2, ?_, ?_, ?_⟩
              · rw [putN_put, hnum.out, upto_put (cls l) _ b _ rfl] at hb3
                exact (hb3.alloc _).grown hg2 (fun e => by have := hne _ e.symm; omega)
              · exact ((blk_grown hb2 hg3 (by omega)).alloc _).grown hg2 (fun e => by have := hne _ e.symm; omega)
              · exact below_own (below_alloc (below_grown hB hg3 hs2) _) hg2 (fun j e => by have := hne j e; omega)
            case measure => simp [intOf]; omega
    · obtain rfl : b = 256 := by omega
      rw [upto_all] at hb1
      have hmany : Hid (m = many l) := Lib.hid (by rw [hm'.out, hys.out, fb_length]; rfl)
      rw [hmany.out] at hown ⊢
      go_wp2_with (first | (refine wl_load_cls rfl _ rfl _ rfl _ hb1 ?_) | (refine wl_store_cls rfl _ _ rfl _ _ rfl rfl _ hb2 ?_; intro w1 hb4 hg4))
      exact ret_cls rfl rfl hb4 rfl ⟨rfl, hB.grown hg4 hB.size (by rintro k ⟨⟩; exact Nat.le_refl _)⟩

end Go.Proofs.YtkedgombccdamaaDoor
namespace Go.Proofs.YtkedgombccdamaaDoor
open Go.RowKit Go.Maps Go.WideMaps
set_option linter.unusedVariables false
set_option linter.unusedSimpArgs false

theorem neT {p q : BSet} (h : ¬ p = q) : Value.bool (!decide (p = q)) = .bool true := by rw [decide_eq_false h]; rfl

def newB (x : BSet) (l : List BSet) : Bool := !decide (x ∈ l)
theorem newB_snoc (x y : BSet) (l : List BSet) : newB x (l ++ [y]) = (newB x l && !decide (y = x)) := by
  unfold newB
  by_cases h : x ∈ l <;> by_cases h2 : y = x <;> simp [h, h2]
  intro h3; exact absurd h3.symm h2
theorem newB_nil (x : BSet) : newB x [] = true := by simp [newB]
theorem newB_true {x : BSet} {l : List BSet} (h : newB x l = true) : x ∉ l := by simpa [newB] using h
theorem newB_false {x : BSet} {l : List BSet} (h : newB x l = false) : x ∈ l := by simpa [newB] using h
/-- the sets, in memory of their own -/
def SetsR1 (es : List Edg) (w : World) (e : Ending) (w' : World) : Prop :=
  ∃ A c, e = .returned (.slice A (setsL es).length c) ∧ Own w' (w.heap.size + 1) 52 4 setC (.slice A (setsL es).length c) (setsL es) ∧ Below w.heap.size w w'

set_option maxRecDepth 100000 in
set_option maxHeartbeats 4000000 in
theorem rsets_any (s : Int) (A : Option Addr) (n c : Nat) (B : Option Addr) (m d : Nat) (es : List Edg) (w : World) (hn : n = es.length) (hm : n ≤ 100000) (hs : SliceOf w w.heap.size 7 edgC A es) :
    Calls Tryd.prog 43 #[.agg (nfaC s A n c B m d)] w (SetsR1 es w) := by
  have Hn := Lib.hid hn
  clear hn
  have hsE := size_edgeE
  have hsS := size_setE
  obtain ⟨i0, hi0, hz0, hz1, hz2⟩ := info_parts info_set3
  have hb0 := Blk.new w 25 (nfaC s A n c B m d)
  have hBa := below_alloc (Below.refl w.heap.size w) (.cells (nfaC s A n c B m d) 25)
  have hba : w.heap.size + 1 ≤ (w.alloc (.cells (nfaC s A n c B m d) 25)).heap.size := by simp
  go_enter Tryd.func43, Tryd.ntmps43
  go_wp2
  go_loopw [4, 3] (fun i v wr => ∃ k : Nat, k ≤ n ∧ i = .int .i64 k ∧ Own wr (w.heap.size + 1) 52 4 setC v (setsL (es.take k)) ∧ w.heap.size + 1 ≤ wr.heap.size ∧ Blk wr w.heap.size 25 (nfaC s A n c B m d) ∧ Below w.heap.size w wr) (fun i _ _ => n - (intOf i).toNat)
  case atStart => exact ⟨0, by omega, rfl, Own.nil_ _ _ _ _ _, hba, hb0, hBa⟩
  case round =>
    clear hb0 hBa hba
    obtain ⟨k, hk, rfl, hown, hb1, hb, hB⟩ := hrel
    have c1 : wr.cell? ⟨w.heap.size, 1, none⟩ = some (.slice A n c) := hb.cellv rfl
    obtain ⟨A2, c2, rfl, hc2, hc3⟩ := hown.shape
    have hle := setsL_length (es.take k)
    rw [List.length_take] at hle
    obtain ⟨xs, hxs⟩ : ∃ xs, xs = setsL (es.take k) := ⟨_, rfl⟩
    rw [← hxs] at hle hc2 hown ⊢
    obtain ⟨q, hq⟩ : ∃ q, q = xs.length := ⟨_, rfl⟩
    rw [← hq] at hle hc2 hown ⊢
    have Hq := Lib.hid hq
    have hqk : q ≤ k := by omega
    clear hq hle
    by_cases hlt : k < n
    · have hkl : k < es.length := by have := Hn.out; omega
      have hkI : (k : Int) < n := by omega
      obtain ⟨b0, off, rfl, hbl, hrow⟩ := (hs.below hB).at_ (by omega)
      have hr := hrow k hkl
      have Hsn : Hid (setsL (es.take (k + 1)) = stepS xs es[k]) := Lib.hid (by rw [take_snoc' es k hkl, setsL_snoc, ← hxs])
      obtain ⟨e, he⟩ : ∃ e, e = es[k] := ⟨_, rfl⟩
      rw [← he] at hr Hsn
      have hkd := hr.kd
      have hr2 := hr.st
      clear hrow hxs he
      by_cases h2 : e.kd = 2
      · rw [h2] at hkd
        have H2 := Lib.hid h2
        clear h2
        go_wp2
        obtain ⟨wo, rfl⟩ : ∃ wo : World, wo = wr := ⟨_, rfl⟩
        go_loopw [6, 5] (fun i v wr => ∃ j : Nat, j ≤ q ∧ i = .int .i64 j ∧ v = .bool (newB e.st (xs.take j)) ∧ Below wo.heap.size wo wr) (fun i _ _ => q - (intOf i).toNat)
        case atStart => exact ⟨0, by omega, rfl, by rw [List.take_zero, newB_nil], Below.refl _ _⟩
        case round =>
          obtain ⟨j, hj, rfl, rfl, hC⟩ := hrel
          have hcw := (blk_then hb hC).cellv (i := 1) (v := .slice (some ⟨b0, off, none⟩) n c) rfl
          have hb2 : b0 < wr.heap.size := by have := hB.size; have := hC.size; omega
          have hr0 := hr
          replace hr2 := hr2.keep (hC.block b0 (by have := hB.size; omega))
          clear c1
          by_cases hjt : j < q
          · have hjx : j < xs.length := by rw [← Hq.out]; exact hjt
            have hjI : (j : Int) < q := by omega
            obtain ⟨g, cap, hv, hg1, hg2, _, _⟩ := hown.form (by rw [← Hq.out]; omega)
            injection hv with hA h1 h2
            subst hA
            clear h1 h2
            have Hsn2 := Lib.hid (newB_snoc e.st xs[j] (xs.take j))
            rw [← take_snoc' xs j hjx] at Hsn2
            cases hnb : newB e.st (xs.take j)
            all_goals
              have Hnb := Lib.hid hnb
              go_upto_region 9 with (fail)
            · have hxe := Lib.hid hnb
              refine wp_region_steps 14 [eqS (.bool false), eqS (.bool false), eqS undef, eqS undef, eqS undef, eqS undef, eqS undef, eqS undef, eqS undef, eqS undef, eqS undef, eqS undef, eqS undef, eqS (.bool false)] [27, 28, 29, 30, 31, 32, 33, 34, 35, 36, 37, 38, 39, 40] follows_mixed (by kernel_rfl) rfl ?_ ?_
              · refine Steps.cons (fun a' w' hG hB dep => gs_move (want_none rfl) _ rfl (hG.other 5 rfl)) ?_
                refine Steps.cons (fun a' w' hG hB dep => gs_move (want_none rfl) _ rfl (dep 0 rfl 27 rfl)) ?_
                refine Steps.cons (fun a' w' hG hB dep => gs_skip (want_no rfl rfl (dep 1 rfl 28 rfl)) rfl) ?_
                refine Steps.cons (fun a' w' hG hB dep => gs_skip (want_no rfl rfl (dep 1 rfl 28 rfl)) rfl) ?_
                refine Steps.cons (fun a' w' hG hB dep => gs_skip (want_no rfl rfl (dep 1 rfl 28 rfl)) rfl) ?_
                refine Steps.cons (fun a' w' hG hB dep => gs_skip (want_no rfl rfl (dep 1 rfl 28 rfl)) rfl) ?_
                refine Steps.cons (fun a' w' hG hB dep => gs_skip (want_no rfl rfl (dep 1 rfl 28 rfl)) rfl) ?_
                refine Steps.cons (fun a' w' hG hB dep => gs_skip (want_no rfl rfl (dep 1 rfl 28 rfl)) rfl) ?_
                refine Steps.cons (fun a' w' hG hB dep => gs_skip (want_no rfl rfl (dep 1 rfl 28 rfl)) rfl) ?_
                refine Steps.cons (fun a' w' hG hB dep => gs_skip (want_no rfl rfl (dep 1 rfl 28 rfl)) rfl) ?_
                refine Steps.cons (fun a' w' hG hB dep => gs_skip (want_no rfl rfl (dep 1 rfl 28 rfl)) rfl) ?_
                refine Steps.cons (fun a' w' hG hB dep => gs_skip (want_no rfl rfl (dep 1 rfl 28 rfl)) rfl) ?_
                refine Steps.cons (fun a' w' hG hB dep => gs_skip (want_no rfl rfl (dep 1 rfl 28 rfl)) rfl) ?_
                refine Steps.cons (fun a' w' hG hB dep => gs_pick (want_none rfl) _ _ _ rfl false (dep 1 rfl 28 rfl) rfl) ?_
                exact Steps.nil
              intro u w3 hB3 ans
              have ux : u 40 = .bool false := ans 13 40 (by decide) rfl
              clear ans
              simp only [putAll, List.foldl_cons, List.foldl_nil, Act.put, List.setIfInBounds_toArray, List.set_cons_zero, List.set_cons_succ, ux]
              clear ux
              go_wp2
              go_roundw
              case rel => exact ⟨j + 1, by omega, by go_num, by rw [Hsn2.out, Hnb.out]; rfl, below_then hC hB3⟩
              case measure => simp [intOf]; omega
            · by_cases hx : xs[j] = e.st
              · have hxe := Lib.hid hx
                clear hx
                refine wp_region_steps 14 [eqS (.bool true), eqS (.bool true), eqS (.slice (some ⟨g, 0, none⟩) q c2), eqS (.int .i64 ((j : Int))), eqS (.pointer (some ⟨g, 0 + j * 4, none⟩)), eqS (.agg (setC xs[j])), eqS (.pointer (some ⟨w.heap.size, 0 + 1, none⟩)), eqS (.slice (some ⟨b0, off, none⟩) n c), eqS (.int .i64 ((k : Int))), eqS (.pointer (some ⟨b0, off + k * 7, none⟩)), eqS (.pointer (some ⟨b0, off + k * 7 + 3, none⟩)), eqS (.agg (setC e.st)), eqS (.bool false), eqS (.bool false)] [27, 28, 29, 30, 31, 32, 33, 34, 35, 36, 37, 38, 39, 40] follows_mixed (by kernel_rfl) rfl ?_ ?_
                · refine Steps.cons (fun a' w' hG hB dep => gs_move (want_none rfl) _ rfl (hG.other 5 rfl)) ?_
                  refine Steps.cons (fun a' w' hG hB dep => gs_move (want_none rfl) _ rfl (dep 0 rfl 27 rfl)) ?_
                  refine Steps.cons (fun a' w' hG hB dep => gs_move (want_yes rfl rfl (dep 1 rfl 28 rfl)) _ rfl (hG.other 3 rfl)) ?_
                  refine Steps.cons (fun a' w' hG hB dep => gs_move (want_yes rfl rfl (dep 1 rfl 28 rfl)) _ rfl (hG.other 6 rfl)) ?_
                  refine Steps.cons (fun a' w' hG hB dep => gs_index (want_yes rfl rfl (dep 1 rfl 28 rfl)) _ _ _ rfl under_sets _ size_setE _ _ _ _ _ (dep 2 rfl 29 rfl) (dep 3 rfl 30 rfl) hjt rfl) ?_
                  refine Steps.cons (fun a' w' hG hB dep => gs_load_set_at (want_yes rfl rfl (dep 1 rfl 28 rfl)) _ rfl _ _ (dep 4 rfl 31 rfl) _ (by rw [Nat.zero_add]; exact ((hown.then_ hC).then_ hB).row setC_size j hjx) rfl) ?_
                  refine Steps.cons (fun a' w' hG hB dep => gs_field (want_yes rfl rfl (dep 1 rfl 28 rfl)) _ _ _ rfl _ _ _ (hG.other 1 rfl) (field_nfa_1 _ _) rfl) ?_
                  refine Steps.cons (fun a' w' hG hB dep => gs_load1 (want_yes rfl rfl (dep 1 rfl 28 rfl)) _ _ rfl _ _ (dep 6 rfl 33 rfl) _ ((blk_then (blk_then hb hC) hB).cellv rfl) _ Tryd.underlying22 rfl rfl) ?_
                  refine Steps.cons (fun a' w' hG hB dep => gs_move (want_yes rfl rfl (dep 1 rfl 28 rfl)) _ rfl (hG.other 4 rfl)) ?_
                  refine Steps.cons (fun a' w' hG hB dep => gs_index (want_yes rfl rfl (dep 1 rfl 28 rfl)) _ _ _ rfl under_edges _ size_edgeE _ _ _ _ _ (dep 7 rfl 34 rfl) (dep 8 rfl 35 rfl) hlt rfl) ?_
                  refine Steps.cons (fun a' w' hG hB dep => gs_field (want_yes rfl rfl (dep 1 rfl 28 rfl)) _ _ _ rfl _ _ _ (dep 9 rfl 36 rfl) (field_edge_3 _ _) rfl) ?_
                  refine Steps.cons (fun a' w' hG hB dep => gs_load_set_at (want_yes rfl rfl (dep 1 rfl 28 rfl)) _ rfl _ _ (dep 10 rfl 37 rfl) _ (hr2.keep (hB.block b0 hb2)) rfl) ?_
                  refine Steps.cons (fun a' w' hG hB dep => gs_neq_set (want_yes rfl rfl (dep 1 rfl 28 rfl)) _ _ _ rfl _ _ (dep 5 rfl 32 rfl) (dep 11 rfl 38 rfl) (eqF hxe.out)) ?_
                  refine Steps.cons (fun a' w' hG hB dep => gs_pick (want_none rfl) _ _ _ rfl true (dep 1 rfl 28 rfl) (dep 12 rfl 39 rfl)) ?_
                  exact Steps.nil
                intro u w3 hB3 ans
                have ux : u 40 = .bool false := ans 13 40 (by decide) rfl
                clear ans
                simp only [putAll, List.foldl_cons, List.foldl_nil, Act.put, List.setIfInBounds_toArray, List.set_cons_zero, List.set_cons_succ, ux]
                clear ux
                go_wp2
                go_roundw
                case rel => exact ⟨j + 1, by omega, by go_num, by rw [Hsn2.out, Hnb.out]; rw [decide_eq_true hxe.out]; rfl, below_then hC hB3⟩
                case measure => simp [intOf]; omega
              · have hxe := Lib.hid hx
                clear hx
                refine wp_region_steps 14 [eqS (.bool true), eqS (.bool true), eqS (.slice (some ⟨g, 0, none⟩) q c2), eqS (.int .i64 ((j : Int))), eqS (.pointer (some ⟨g, 0 + j * 4, none⟩)), eqS (.agg (setC xs[j])), eqS (.pointer (some ⟨w.heap.size, 0 + 1, none⟩)), eqS (.slice (some ⟨b0, off, none⟩) n c), eqS (.int .i64 ((k : Int))), eqS (.pointer (some ⟨b0, off + k * 7, none⟩)), eqS (.pointer (some ⟨b0, off + k * 7 + 3, none⟩)), eqS (.agg (setC e.st)), eqS (.bool true), eqS (.bool true)] [27, 28, 29, 30, 31, 32, 33, 34, 35, 36, 37, 38, 39, 40] follows_mixed (by kernel_rfl) rfl ?_ ?_
                · refine Steps.cons (fun a' w' hG hB dep => gs_move (want_none rfl) _ rfl (hG.other 5 rfl)) ?_
                  refine Steps.cons (fun a' w' hG hB dep => gs_move (want_none rfl) _ rfl (dep 0 rfl 27 rfl)) ?_
                  refine Steps.cons (fun a' w' hG hB dep => gs_move (want_yes rfl rfl (dep 1 rfl 28 rfl)) _ rfl (hG.other 3 rfl)) ?_
                  refine Steps.cons (fun a' w' hG hB dep => gs_move (want_yes rfl rfl (dep 1 rfl 28 rfl)) _ rfl (hG.other 6 rfl)) ?_
                  refine Steps.cons (fun a' w' hG hB dep => gs_index (want_yes rfl rfl (dep 1 rfl 28 rfl)) _ _ _ rfl under_sets _ size_setE _ _ _ _ _ (dep 2 rfl 29 rfl) (dep 3 rfl 30 rfl) hjt rfl) ?_
                  refine Steps.cons (fun a' w' hG hB dep => gs_load_set_at (want_yes rfl rfl (dep 1 rfl 28 rfl)) _ rfl _ _ (dep 4 rfl 31 rfl) _ (by rw [Nat.zero_add]; exact ((hown.then_ hC).then_ hB).row setC_size j hjx) rfl) ?_
                  refine Steps.cons (fun a' w' hG hB dep => gs_field (want_yes rfl rfl (dep 1 rfl 28 rfl)) _ _ _ rfl _ _ _ (hG.other 1 rfl) (field_nfa_1 _ _) rfl) ?_
                  refine Steps.cons (fun a' w' hG hB dep => gs_load1 (want_yes rfl rfl (dep 1 rfl 28 rfl)) _ _ rfl _ _ (dep 6 rfl 33 rfl) _ ((blk_then (blk_then hb hC) hB).cellv rfl) _ Tryd.underlying22 rfl rfl) ?_
                  refine Steps.cons (fun a' w' hG hB dep => gs_move (want_yes rfl rfl (dep 1 rfl 28 rfl)) _ rfl (hG.other 4 rfl)) ?_
                  refine Steps.cons (fun a' w' hG hB dep => gs_index (want_yes rfl rfl (dep 1 rfl 28 rfl)) _ _ _ rfl under_edges _ size_edgeE _ _ _ _ _ (dep 7 rfl 34 rfl) (dep 8 rfl 35 rfl) hlt rfl) ?_
                  refine Steps.cons (fun a' w' hG hB dep => gs_field (want_yes rfl rfl (dep 1 rfl 28 rfl)) _ _ _ rfl _ _ _ (dep 9 rfl 36 rfl) (field_edge_3 _ _) rfl) ?_
                  refine Steps.cons (fun a' w' hG hB dep => gs_load_set_at (want_yes rfl rfl (dep 1 rfl 28 rfl)) _ rfl _ _ (dep 10 rfl 37 rfl) _ (hr2.keep (hB.block b0 hb2)) rfl) ?_
                  refine Steps.cons (fun a' w' hG hB dep => gs_neq_set (want_yes rfl rfl (dep 1 rfl 28 rfl)) _ _ _ rfl _ _ (dep 5 rfl 32 rfl) (dep 11 rfl 38 rfl) (neT hxe.out)) ?_
                  refine Steps.cons (fun a' w' hG hB dep => gs_pick (want_none rfl) _ _ _ rfl true (dep 1 rfl 28 rfl) (dep 12 rfl 39 rfl)) ?_
                  exact Steps.nil
                intro u w3 hB3 ans
                have ux : u 40 = .bool true := ans 13 40 (by decide) rfl
                clear ans
                simp only [putAll, List.foldl_cons, List.foldl_nil, Act.put, List.setIfInBounds_toArray, List.set_cons_zero, List.set_cons_succ, ux]
                clear ux
                go_wp2
                go_roundw
                case rel => exact ⟨j + 1, by omega, by go_num, by rw [Hsn2.out, Hnb.out]; rw [decide_eq_false hxe.out]; rfl, below_then hC hB3⟩
                case measure => simp [intOf]; omega

          · have hqI : ¬ (j : Int) < q := by omega
            have hxt : xs.take j = xs := List.take_of_length_le (by rw [← Hq.out]; omega)
            rw [hxt]
            replace hown := hown.then_ hC
            replace hb := blk_then hb hC
            replace hB := below_then hB hC
            replace hb1 := Nat.le_trans hb1 hC.size
            clear hxt hC
            cases hnb : newB e.st xs
            · have hst := Lib.hid (stepS_old (l := xs) (e := e) (newB_false hnb))
              clear hnb
              go_wp2
              go_roundw
              case rel => exact ⟨k + 1, by omega, by go_num, by rw [Hsn.out, hst.out]; exact hown, hb1, hb, hB⟩
              case measure => simp [intOf]; omega
            · have hst := Lib.hid (stepS_yes (l := xs) (e := e) H2.out (newB_true hnb))
              clear hnb
              have hown1 := hown.alloc (.cells (setC e.st) 52)
              have hone := slice_one (enc := setC) (size := 4) (Blk.new wr 52 (setC e.st))
              have hownlt : ∀ j, (Value.slice A2 q c2).ownBlock = some j → w.heap.size + 1 ≤ j := fun j e => (hown.lt j e).1
              go_wp2_with (first | (refine wl_load_set_at rfl _ rfl _ _ rfl _ hr2 ?_) | (refine wl_build1 rfl _ rfl _ rfl ?_) | (at_builtin; refine wl_append _ rfl _ _ 83 rfl (w.heap.size + 1) 52 i0 _ 4 32 Tryd.underlying83 hi0 hz0 hz1 hz2 rfl (by decide) setC_size setC_one _ xs rfl hown1 _ _ 1 1 [e.st] rfl rfl hone (by rw [← Hq.out]; unfold maxLen; omega) (by rw [← Hq.out]; omega) (by simp; omega) ?_; intro v2 w7 hown2 hg2 hat2))
              go_roundw
              case rel => exact ⟨k + 1, by omega, by go_num, by rw [Hsn.out, hst.out]; exact hown2, by have := hg2.size; simp at this; omega, (hb.alloc _).grown hg2 (fun e => by have := hownlt _ e.symm; omega), below_own (below_alloc hB _) hg2 (fun j e => by have := hownlt j e; omega)⟩
              case measure => simp [intOf]; omega
      · have hst := Lib.hid (stepS_kind (l := xs) h2)
        obtain ⟨z, hz⟩ : ∃ z, z = e.kd := ⟨_, rfl⟩
        rw [← hz] at hkd h2
        have hz2 : (z == 2) = false := by simpa using h2
        clear hz h2
        go_wp2
        obtain ⟨wo, rfl⟩ : ∃ wo : World, wo = wr := ⟨_, rfl⟩
        go_loopw [6, 5] (fun i v wr => ∃ j : Nat, j ≤ q ∧ i = .int .i64 j ∧ v = .bool false ∧ Below wo.heap.size wo wr) (fun i _ _ => q - (intOf i).toNat)
        case atStart => exact ⟨0, by omega, rfl, rfl, Below.refl _ _⟩
        case round =>
          obtain ⟨j, hj, rfl, rfl, hC⟩ := hrel
          have hcw := (blk_then hb hC).cellv (i := 1) (v := .slice (some ⟨b0, off, none⟩) n c) rfl
          clear c1
          by_cases hjt : j < q
          · have hjI : (j : Int) < q := by omega
            go_upto_region 9 with (fail)
            refine wp_region_steps 14 [eqS (.bool false), eqS (.bool false), eqS undef, eqS undef, eqS undef, eqS undef, eqS undef, eqS undef, eqS undef, eqS undef, eqS undef, eqS undef, eqS undef, eqS (.bool false)] [27, 28, 29, 30, 31, 32, 33, 34, 35, 36, 37, 38, 39, 40] follows_mixed (by kernel_rfl) rfl ?_ ?_
            · refine Steps.cons (fun a' w' hG hB dep => gs_move (want_none rfl) _ rfl (hG.other 5 rfl)) ?_
              refine Steps.cons (fun a' w' hG hB dep => gs_move (want_none rfl) _ rfl (dep 0 rfl 27 rfl)) ?_
              refine Steps.cons (fun a' w' hG hB dep => gs_skip (want_no rfl rfl (dep 1 rfl 28 rfl)) rfl) ?_
              refine Steps.cons (fun a' w' hG hB dep => gs_skip (want_no rfl rfl (dep 1 rfl 28 rfl)) rfl) ?_
              refine Steps.cons (fun a' w' hG hB dep => gs_skip (want_no rfl rfl (dep 1 rfl 28 rfl)) rfl) ?_
              refine Steps.cons (fun a' w' hG hB dep => gs_skip (want_no rfl rfl (dep 1 rfl 28 rfl)) rfl) ?_
              refine Steps.cons (fun a' w' hG hB dep => gs_skip (want_no rfl rfl (dep 1 rfl 28 rfl)) rfl) ?_
              refine Steps.cons (fun a' w' hG hB dep => gs_skip (want_no rfl rfl (dep 1 rfl 28 rfl)) rfl) ?_
              refine Steps.cons (fun a' w' hG hB dep => gs_skip (want_no rfl rfl (dep 1 rfl 28 rfl)) rfl) ?_
              refine Steps.cons (fun a' w' hG hB dep => gs_skip (want_no rfl rfl (dep 1 rfl 28 rfl)) rfl) ?_
              refine Steps.cons (fun a' w' hG hB dep => gs_skip (want_no rfl rfl (dep 1 rfl 28 rfl)) rfl) ?_
              refine Steps.cons (fun a' w' hG hB dep => gs_skip (want_no rfl rfl (dep 1 rfl 28 rfl)) rfl) ?_
              refine Steps.cons (fun a' w' hG hB dep => gs_skip (want_no rfl rfl (dep 1 rfl 28 rfl)) rfl) ?_
              refine Steps.cons (fun a' w' hG hB dep => gs_pick (want_none rfl) _ _ _ rfl false (dep 1 rfl 28 rfl) rfl) ?_
              exact Steps.nil
            intro u w3 hB3 ans
            have ux : u 40 = .bool false := ans 13 40 (by decide) rfl
            clear ans
            simp only [putAll, List.foldl_cons, List.foldl_nil, Act.put, List.setIfInBounds_toArray, List.set_cons_zero, List.set_cons_succ, ux]
            clear ux

            go_wp2
            go_roundw
            case rel => exact ⟨j + 1, by omega, by go_num, rfl, below_then hC hB3⟩
            case measure => simp [intOf]; omega
          · have hqI : ¬ (j : Int) < q := by omega
            go_wp2
            go_roundw
            case rel => exact ⟨k + 1, by omega, by go_num, by rw [Hsn.out, hst.out]; exact hown.then_ hC, Nat.le_trans hb1 hC.size, blk_then hb hC, below_then hB hC⟩
            case measure => simp [intOf]; omega
    · have hkI : ¬ (k : Int) < n := by omega
      have hkn : es.take k = es := List.take_of_length_le (by have := Hn.out; omega)
      rw [hkn] at hxs
      have Hxs := Lib.hid hxs
      clear hkn hxs
      go_wp2
      go_ret
      exact ⟨A2, c2, by rw [← Hxs.out, ← Hq.out]; rfl, by rw [← Hxs.out, ← Hq.out]; exact hown, hB⟩

end Go.Proofs.YtkedgombccdamaaDoor
namespace Go.Proofs.YtkedgombccdamaaDoor
open Go.RowKit Go.Shelf Go.Maps
set_option linter.unusedVariables false
set_option linter.unusedSimpArgs false
attribute [local go_sem] Oper.semAt_some

/-- what stands while the document's moments are gone through; L the queue (in the list AQ), x the table so far -/
structure BRx (w0 : World) (b0 gd gz g2 N M : Nat) (f : Nat → Int) (E : List Edg) (R : List Nat) (A : Option Addr) (n c : Nat) (B : Option Addr) (m d : Nat) (x : TV) (L : List MQ) (AQ : Option Addr) (cQ : Nat) (W : World) : Prop where
  ord : w0.heap.size = g2 ∧ g2 + 1 < gd ∧ gd < gz ∧ gz < b0 ∧ b0 ≤ W.heap.size
  mach : RMach w0.heap.size W N E R A n B m
  nfa : Blk W g2 25 (nfaC N A n c B m d)
  res : Blk W (g2 + 1) 33 (dfaC (fun _ => 0) none 0 0 none 0 0 none 0 0)
  bytes : Blk W gz 3 (arr eZ M fun c => ((repAt f 0 c : Nat) : Int))
  tab : Blk W gd 33 x.C'
  own : TOwn W b0 x [] [] []
  q : Own W b0 101 3 (encM N) (.slice AQ L.length cQ) L
  ins : ∀ y ∈ L, Own W b0 4 1 encB (.slice (some ⟨y.g, 0, none⟩) N y.c) (boolsN y.mo.at_ N)
  ok : ∀ y ∈ L, MoOk N (wordsFor N) y.mo
  bel : Below w0.heap.size w0 W
section
variable {w0 : World} {b0 gd gz g2 N M : Nat} {f : Nat → Int} {E : List Edg} {R : List Nat} {A : Option Addr} {n c : Nat} {B : Option Addr} {m d : Nat} {x : TV} {L : List MQ} {AQ : Option Addr} {cQ : Nat} {W W' : World}
theorem BRx.then_ (h : BRx w0 b0 gd gz g2 N M f E R A n c B m d x L AQ cQ W) (hb : Below W.heap.size W W') : BRx w0 b0 gd gz g2 N M f E R A n c B m d x L AQ cQ W' :=
  ⟨⟨h.ord.1, h.ord.2.1, h.ord.2.2.1, h.ord.2.2.2.1, Nat.le_trans h.ord.2.2.2.2 hb.size⟩, h.mach.then_ hb, blk_then h.nfa hb, blk_then h.res hb, blk_then h.bytes hb, blk_then h.tab hb, h.own.then_ hb, h.q.then_ hb, fun y hy => (h.ins y hy).then_ hb, h.ok, below_then h.bel hb⟩
/-- a block made behind the boxes turns, none of the lists -/
theorem BRx.box {g : Nat} {t : TypeId} {cs : Array Value} (h : BRx w0 b0 gd gz g2 N M f E R A n c B m d x L AQ cQ W) (hb : Blk W g t cs) (hg : W.grownBy W' (some g)) (hgb : b0 ≤ g) (h1 : t ≠ 67) (h2 : t ≠ 43) (h3 : t ≠ 4) (hi : ∀ i (hi : i < x.rs.length) a, x.rs[i].a = some a → a.block ≠ g) (hq : ∀ a, AQ = some a → a.block ≠ g) : BRx w0 b0 gd gz g2 N M f E R A n c B m d x L AQ cQ W' := by
  have o := h.ord
  refine ⟨⟨o.1, o.2.1, o.2.2.1, o.2.2.2.1, Nat.le_trans o.2.2.2.2 hg.size⟩, h.mach.grown hg (by omega), blk_grown h.nfa hg (by omega), blk_grown h.res hg (by omega), blk_grown h.bytes hg (by omega), blk_grown h.tab hg (by omega), ?_, ?_, fun y hy => own_box (h.ins y hy) hb hg h3.symm, h.ok, below_grown h.bel hg (by omega)⟩
  · refine ⟨own_box h.own.rows hb hg h1.symm, own_box h.own.fo hb hg h2.symm, own_box h.own.en hb hg h2.symm, fun i hi' => (h.own.row i hi').kept_ hg (fun j e1 e2 => ?_), h.own.ap, h.own.fe⟩
    rw [ownBlock_slice] at e1
    injection e2 with e2
    rcases ha : x.rs[i].a with _ | a
    · rw [ha] at e1; cases e1
    · rw [ha] at e1
      have e3 : a.block = j := by simpa using e1
      exact hi i hi' a ha (by omega)
  · refine h.q.kept_ hg (fun j e1 e2 => ?_)
    rw [ownBlock_slice] at e1
    injection e2 with e2
    rcases ha : AQ with _ | a
    · rw [ha] at e1; cases e1
    · rw [ha] at e1
      have e3 : a.block = j := by simpa using e1
      exact hq a ha (by omega)
end
/-- a moment of the document's queue -/
theorem BRx.at_ {w0 : World} {b0 gd gz g2 N M : Nat} {f : Nat → Int} {E : List Edg} {R : List Nat} {A : Option Addr} {n c : Nat} {B : Option Addr} {m d : Nat} {x : TV} {L : List MQ} {AQ : Option Addr} {cQ : Nat} {W : World} (h : BRx w0 b0 gd gz g2 N M f E R A n c B m d x L AQ cQ W) {i : Nat} {q : Mo} (hi : (L.map MQ.mo)[i]? = some q) : ∃ (y : MQ) (gA : Nat), y ∈ L ∧ y.mo = q ∧ i < L.length ∧ AQ = some ⟨gA, 0, none⟩ ∧ RowAt W gA (i * 3) (encM N y) ∧ gA < W.heap.size := by
  rw [List.getElem?_map] at hi
  obtain ⟨y, hy, hm⟩ := Option.map_eq_some_iff.1 hi
  obtain ⟨hl, hye⟩ := List.getElem?_eq_some_iff.1 hy
  have hq := h.q
  obtain ⟨gA, cap, hv, hg1, hg2, _⟩ := hq.form (by omega)
  injection hv with hA hn hc
  subst hA
  refine ⟨y, gA, hye ▸ List.getElem_mem hl, hm, hl, rfl, ?_, hg2⟩
  have := hq.row (encM_size N) i hl
  rw [hye] at this
  exact this
/-- the answer of Behind in a drawn region -/
def behS (base N : Nat) (mo : Mo) (g : Nat × Nat) : GSpec := ⟨fun v w => v = .agg (momC (some ⟨g.1, 0, none⟩) N g.2 mo.met mo.end_) ∧ base ≤ g.1 ∧ Own w base 4 1 encB (.slice (some ⟨g.1, 0, none⟩) N g.2) (boolsN mo.at_ N), fun v w w' ⟨h1, h2, h3⟩ hb => ⟨h1, h2, h3.then_ hb⟩⟩
theorem behind_step {P : Program} {f : FuncId} {vs : Array Value} {w : World} {base N : Nat} {mo : Mo} {T : GSpec} (hb : base ≤ w.heap.size) (hc : Calls P f vs w fun e w' => ∃ g cap, e = .returned (.agg (momC (some ⟨g, 0, none⟩) N cap mo.met mo.end_)) ∧ w.heap.size ≤ g ∧ Own w' w.heap.size 4 1 encB (.slice (some ⟨g, 0, none⟩) N cap) (boolsN mo.at_ N) ∧ Below w.heap.size w w')
    (hp : ∀ v w', (∃ g, (behS base N mo g).p v w') → T.p v w') : Calls P f vs w fun e w' => ∃ v, e = .returned v ∧ Below w.heap.size w w' ∧ T.p v w' :=
  hc.mono fun e w' ⟨g, cap, h1, h2, h3, h4⟩ => ⟨_, h1, h4, hp _ _ ⟨(g, cap), rfl, Nat.le_trans hb h2, h3.mono hb⟩⟩
theorem enter_rbehind (args : Array Value) (w : World) : (callFunc 45 args).run Tryd.prog w = .ok (.enter 45 args) w := by kernel_rfl
theorem enter_rsame (args : Array Value) (w : World) : (callFunc 46 args).run Tryd.prog w = .ok (.enter 46 args) w := by kernel_rfl
section
variable {ops : Array Oper} {S : Nat → GSpec} {Q : Exit → Act → World → Prop} {i : Nat} {o : Oper} {a : Act} {w : World}
theorem gs_load_momR_at (hw : Region.wanted o (yielded ops a.tmps) = true) (x : Operand) (ho : o.op = .load 101 x) (b off : Nat) (hx : a.eval x = .pointer (some ⟨b, off, none⟩)) {A : Option Addr} {k c r e : Nat} (hr : RowAt w b off (momC A k c r e))
    (hp : (S i).p (.agg (momC A k c r e)) w) : GStep Tryd.prog ops S Q i o a w :=
  gs_run hw (v := .agg (momC A k c r e)) (by unfold execOp; simp only [ho, hx, Instr.loadAt, Instr.sureAddr, Sem.run_bind, Sem.run_pure, Result.andThen_ok, run_loadVar_at w b off _ _ _ hr Tryd.underlying101 rfl (info_momR.trans rfl)]) (Below.refl _ _) hp
theorem alloc_momR (w : World) : (Instr.alloc 101 true (.tuple #[])).run Tryd.prog w = .ok (.pointer (some ⟨w.heap.size, 0, none⟩)) (w.alloc (.cells (momC none 0 0 0 0) 101)) := by kernel_rfl
theorem gs_alloc_momR (hw : Region.wanted o (yielded ops a.tmps) = true) (ho : o.op = .alloc 101) (b0 : Nat) (hb : b0 ≤ w.heap.size) (hp : ∀ v w', (newS b0 101 (momC none 0 0 0 0)).p v w' → (S i).p v w') : GStep Tryd.prog ops S Q i o a w :=
  gs_run hw (v := .pointer (some ⟨w.heap.size, 0, none⟩)) (w' := w.alloc (.cells (momC none 0 0 0 0) 101)) (by unfold execOp; simp only [ho, Sem.run_bind, alloc_momR, Result.andThen_ok, Sem.run_pure]) (below_alloc (Below.refl _ _) _) (hp _ _ ⟨_, rfl, hb, Blk.new _ _ _⟩)
end
end Go.Proofs.YtkedgombccdamaaDoor
namespace Go.Proofs.YtkedgombccdamaaDoor
open Go.RowKit Go.Shelf Go.Maps
set_option linter.unusedVariables false
set_option linter.unusedSimpArgs false
attribute [local go_sem] Oper.semAt_some

theorem run_bsMR (A : Option Addr) (k c r e : Nat) (w : World) : (Instr.buildSlice 103 1 #[(0, .agg (momC A k c r e))]).run Tryd.prog w = .ok (.slice (some ⟨w.heap.size, 0, none⟩) 1 1) (w.alloc (.cells (momC A k c r e) 101)) := by kernel_rfl
theorem info_momR3 : (Tryd.prog.info? 101).map (fun i => (i.zero, i.size, i.bytes)) = some (some (.agg #[.slice none 0 0, .int .u32 0, .int .u32 0]), 3, 32) := by kernel_rfl
theorem under_momR : Tryd.prog.underlying 103 = some (.slice (Tryd.prog.elem 103)) := by kernel_rfl
theorem size_momRE (w : World) : (sizeOf (Tryd.prog.elem 103)).run Tryd.prog w = .ok 3 w := by kernel_rfl
section
variable {ops : Array Oper} {rest : List Oper} {o : Oper} {a : Act} {w : World} {Q : Exit → Act → World → Prop}
theorem wl_bsMR (hgd : o.guard = none) (x : Operand) (ho : o.op = .buildSlice 103 1 #[(0, x)]) (A : Option Addr) (k c r e : Nat) (hx : a.eval x = .agg (momC A k c r e))
    (h : wpList Tryd.prog ops Q rest (a.put o.dst (.slice (some ⟨w.heap.size, 0, none⟩) 1 1)) (w.alloc (.cells (momC A k c r e) 101))) : wpList Tryd.prog ops Q (o :: rest) a w :=
  wpList_plain hgd fun _ hK => by
    unfold Oper.wp execOp
    simp only [ho, List.map_toArray, List.map_cons, List.map_nil, hx, Sem.run_bind, run_bsMR, Result.andThen_ok, Sem.run_pure]
    exact hK _ _ h
/-- a moment appended to a queue of the call's own -/
theorem wl_pushMR (hgd : o.guard = none) (s x : Operand) (ho : o.op = .call { callee := .builtin .append, args := #[s, x], argTypes := #[103, 103] })
    (base K : Nat) (l : List MQ) (z : MQ) {A : Option Addr} {n c g : Nat} (hs : a.eval s = .slice A n c) (hx : a.eval x = .slice (some ⟨g, 0, none⟩) 1 1) (hb1 : Blk w g 101 (encM K z)) (hown : Own w base 101 3 (encM K) (.slice A n c) l) (hn : n = l.length) (hl : l.length ≤ 1099511627) (hbase : base ≤ w.heap.size)
    (h : ∀ A' c' w', Own w' base 101 3 (encM K) (.slice A' (n + 1) c') (l ++ [z]) → w.grownBy w' (Value.slice A n c).ownBlock → wpList Tryd.prog ops Q rest (a.put o.dst (.slice A' (n + 1) c')) w') : wpList Tryd.prog ops Q (o :: rest) a w := by
  obtain ⟨ii, hii, hz0, hz1, hz2⟩ := info_parts info_momR3
  subst hn
  refine wl_append _ hgd _ _ 103 ho base 101 ii _ 3 32 Tryd.underlying103 hii hz0 hz1 hz2 rfl (by decide) (encM_size K) (encM_one K) (.slice A l.length c) l hs hown _ _ 1 1 [z] hx rfl (slice_one (enc := encM K) hb1) (by unfold maxLen; omega) (by omega) hbase ?_
  intro v' w' ho' hg hv
  obtain ⟨A', c', rfl, _, _⟩ := ho'.shape
  have hl8 : (l ++ [z]).length = l.length + 1 := by simp
  rw [hl8] at ho' hv ⊢
  exact h _ _ _ ho' hg
end
theorem own_some {α : Type} {enc : α → Array Value} {base size : Nat} {e : TypeId} {v : Value} {ys : List α} {W W' : World} (ho : Own W base e size enc v ys) (hg : W.grownBy W' v.ownBlock) : ∃ g, base ≤ g ∧ W.grownBy W' (some g) := by
  cases h : v.ownBlock with
  | none =>
    rw [h] at hg
    exact ⟨base, Nat.le_refl _, hg.os, hg.tape, hg.output, hg.size, fun i hi _ => hg.block i hi (by simp)⟩
  | some g =>
    rw [h] at hg
    exact ⟨g, (ho.lt g h).1, hg⟩
section
variable {w0 : World} {b0 gd gz g2 N M : Nat} {f : Nat → Int} {E : List Edg} {R : List Nat} {A : Option Addr} {n c : Nat} {B : Option Addr} {m d : Nat} {x : TV} {L : List MQ} {AQ : Option Addr} {cQ : Nat} {W W1 W2 : World} {A' : Option Addr} {c' : Nat}
theorem BRx.push {z : MQ} (h : BRx w0 b0 gd gz g2 N M f E R A n c B m d x L AQ cQ W) (hg : W.grownBy W1 (Value.slice AQ L.length cQ).ownBlock) (hq : Own W1 b0 101 3 (encM N) (.slice A' (L.length + 1) c') (L ++ [z])) (hz : Own W b0 4 1 encB (.slice (some ⟨z.g, 0, none⟩) N z.c) (boolsN z.mo.at_ N)) (hzo : MoOk N (wordsFor N) z.mo) :
    BRx w0 b0 gd gz g2 N M f E R A n c B m d x (L ++ [z]) A' c' W1 := by
  have o := h.ord
  obtain ⟨g, hgb, hgg⟩ := own_some h.q hg
  refine ⟨⟨o.1, o.2.1, o.2.2.1, o.2.2.2.1, Nat.le_trans o.2.2.2.2 hg.size⟩, h.mach.grown hgg (by omega), blk_grown h.nfa hgg (by omega), blk_grown h.res hgg (by omega), blk_grown h.bytes hgg (by omega), blk_grown h.tab hgg (by omega), h.own.own h.q hg (by decide) (by decide) (by decide), ?_, fun y hy => ?_, fun y hy => ?_, below_grown h.bel hgg (by omega)⟩
  · rw [List.length_append, List.length_singleton]
    exact hq
  · rcases List.mem_append.1 hy with hy | hy
    · exact own_own (h.ins y hy) h.q hg (by decide)
    · rw [List.mem_singleton] at hy
      subst hy
      exact own_own hz h.q hg (by decide)
  · rcases List.mem_append.1 hy with hy | hy
    · exact h.ok y hy
    · rw [List.mem_singleton] at hy
      subst hy
      exact hzo
theorem TOwn.rows0 {xr : List Int} {xf : List Nat} {base : Nat} (h : TOwn W base x xr xf []) : Own W base 67 1 rowC (.slice x.A x.rs.length x.c) x.rs := by
  have h0 := h.rows
  simp only [List.length_nil, Nat.add_zero, List.append_nil] at h0
  exact h0
theorem TOwn.fo0 {xr : List Int} {xn : List RV} {base : Nat} (h : TOwn W base x xr [] xn) : Own W base 43 1 encR (.slice x.B x.fo.length x.d) x.fo := by
  have h0 := h.fo
  simp only [List.length_nil, Nat.add_zero, List.append_nil] at h0
  exact h0
theorem TOwn.en0 {xr : List Int} {xn : List RV} {base : Nat} (h : TOwn W base x xr [] xn) : Own W base 43 1 encR (.slice x.C x.en.length x.e) x.en := by
  have h0 := h.en
  simp only [List.length_nil, Nat.add_zero, List.append_nil] at h0
  exact h0
/-- a list of another type turns, and then the table's box -/
theorem BRx.frame {α : Type} {enc : α → Array Value} {size : Nat} {e : TypeId} {v : Value} {ys : List α} {x' : TV} (h : BRx w0 b0 gd gz g2 N M f E R A n c B m d x L AQ cQ W) (ho : Own W b0 e size enc v ys) (hg : W.grownBy W1 v.ownBlock) (h1 : e ≠ 101) (h2 : e ≠ 4) (hg2 : W1.grownBy W2 (some gd)) (hd : Blk W2 gd 33 x'.C') (hT : TOwn W1 b0 x' [] [] []) :
    BRx w0 b0 gd gz g2 N M f E R A n c B m d x' L AQ cQ W2 := by
  have o := h.ord
  obtain ⟨g, hgb, hgg⟩ := own_some ho hg
  have hm1 : RMach w0.heap.size W1 N E R A n B m := h.mach.grown hgg (by omega)
  refine ⟨⟨o.1, o.2.1, o.2.2.1, o.2.2.2.1, Nat.le_trans o.2.2.2.2 (Nat.le_trans hg.size hg2.size)⟩, hm1.grown hg2 (by omega), blk_grown (blk_grown h.nfa hgg (by omega)) hg2 (by omega), blk_grown (blk_grown h.res hgg (by omega)) hg2 (by omega), blk_grown (blk_grown h.bytes hgg (by omega)) hg2 (by omega), hd, hT.low hg2 (by omega), own_low (own_own h.q ho hg h1) hg2 (by omega), fun y hy => own_low (own_own (h.ins y hy) ho hg h2) hg2 (by omega), h.ok, below_grown (below_grown h.bel hgg (by omega)) hg2 (by omega)⟩
theorem BRx.addRow {r : RV} {bw : Nat} (h : BRx w0 b0 gd gz g2 N M f E R A n c B m d x L AQ cQ W) (hr : Own W bw 3 1 encZ (.slice r.a r.l.length r.c) r.l) (hbw : b0 ≤ bw) (hap : ∀ i (hi : i < x.rs.length) a, x.rs[i].a = some a → a.block < bw) (hg : W.grownBy W1 (Value.slice x.A x.rs.length x.c).ownBlock) (ho : Own W1 b0 67 1 rowC (.slice A' (x.rs.length + 1) c') (x.rs ++ [r])) (hg2 : W1.grownBy W2 (some gd)) (hd : Blk W2 gd 33 ({ x with rs := x.rs ++ [r], A := A', c := c' } : TV).C') :
    BRx w0 b0 gd gz g2 N M f E R A n c B m d { x with rs := x.rs ++ [r], A := A', c := c' } L AQ cQ W2 := by
  refine h.frame h.own.rows0 hg (by decide) (by decide) hg2 hd (h.own.addRow hg ho ?_ (fun i hi a b ha hb => ?_))
  · simp only [List.length_nil, Nat.add_zero, List.append_nil]
    exact (own_own hr h.own.rows0 hg (by decide)).mono hbw
  · have h1 := hap i hi a ha
    have h2 := (hr.lt b.block (by rw [ownBlock_slice, hb]; rfl)).1
    omega
theorem BRx.addFo {y : Nat} (h : BRx w0 b0 gd gz g2 N M f E R A n c B m d x L AQ cQ W) (hg : W.grownBy W1 (Value.slice x.B x.fo.length x.d).ownBlock) (ho : Own W1 b0 43 1 encR (.slice A' (x.fo.length + 1) c') (x.fo ++ [y])) (hv : (Value.slice A' (x.fo.length + 1) c').ownBlock = (Value.slice x.B x.fo.length x.d).ownBlock ∨ (Value.slice A' (x.fo.length + 1) c').ownBlock = some W.heap.size) (hg2 : W1.grownBy W2 (some gd)) (hd : Blk W2 gd 33 ({ x with fo := x.fo ++ [y], B := A', d := c' } : TV).C') :
    BRx w0 b0 gd gz g2 N M f E R A n c B m d { x with fo := x.fo ++ [y], B := A', d := c' } L AQ cQ W2 :=
  h.frame h.own.fo0 hg (by decide) (by decide) hg2 hd (h.own.addFo hg ho hv)
theorem BRx.addEn {y : Nat} (h : BRx w0 b0 gd gz g2 N M f E R A n c B m d x L AQ cQ W) (hg : W.grownBy W1 (Value.slice x.C x.en.length x.e).ownBlock) (ho : Own W1 b0 43 1 encR (.slice A' (x.en.length + 1) c') (x.en ++ [y])) (hv : (Value.slice A' (x.en.length + 1) c').ownBlock = (Value.slice x.C x.en.length x.e).ownBlock ∨ (Value.slice A' (x.en.length + 1) c').ownBlock = some W.heap.size) (hg2 : W1.grownBy W2 (some gd)) (hd : Blk W2 gd 33 ({ x with en := x.en ++ [y], C := A', e := c' } : TV).C') :
    BRx w0 b0 gd gz g2 N M f E R A n c B m d { x with en := x.en ++ [y], C := A', e := c' } L AQ cQ W2 :=
  h.frame h.own.en0 hg (by decide) (by decide) hg2 hd (h.own.addEn hg ho hv)
end
section
variable {α : Type} [BEq α] [LawfulBEq α] {l : List α} {z : α} {k : Nat}
theorem seek_here (h : ∀ j, j < k → l[j]? ≠ some z) (hk : l[k]? = some z) : l.idxOf z = k := by
  induction l generalizing k with
  | nil => simp at hk
  | cons a l ih =>
    rw [List.idxOf_cons]
    rcases k with _ | k
    · simp at hk
      simp [hk]
    · have h0 : ¬ a = z := fun e => h 0 (by omega) (by simp [e])
      have := ih (k := k) (fun j hj e => h (j + 1) (by omega) (by simpa using e)) (by simpa using hk)
      rw [beq_false_of_ne h0, this]
      rfl
end
theorem seek_not {α : Type} {l : List α} {z : α} (h : ∀ j, j < l.length → l[j]? ≠ some z) : z ∉ l := fun hz => by
  obtain ⟨j, hj, e⟩ := List.mem_iff_getElem.1 hz
  exact h j hj (by rw [List.getElem?_eq_getElem hj, e])
theorem nextArr_same {st : Mo → Nat → Mo} {q : Mo} {bs : List Nat} {Lm : List Mo} {j M b k : Nat} (hb : bs.getD j 0 = b) (hk : Lm.idxOf (st q b) = k) : arr eZ M (upd (fun c => if c < j then ((Lm.idxOf (st q (bs.getD c 0)) : Nat) : Int) else 0) j (k : Int)) = arr eZ M fun c => if c < j + 1 then ((Lm.idxOf (st q (bs.getD c 0)) : Nat) : Int) else 0 :=
  arr_ext eZ M _ fun c hc => by
    unfold upd
    by_cases e : c = j
    · rw [if_pos e, e, hb, hk, if_pos (Nat.lt_succ_self j)]
    · rw [if_neg e]
      show (if c < j then ((Lm.idxOf (st q (bs.getD c 0)) : Nat) : Int) else 0) = _
      by_cases h : c < j
      · rw [if_pos h, if_pos (by omega)]
      · rw [if_neg h, if_neg (by omega)]
theorem nextArr_more {st : Mo → Nat → Mo} {q : Mo} {bs : List Nat} {Lm : List Mo} {z : Mo} {j M : Nat} (hin : ∀ c, c < j → st q (bs.getD c 0) ∈ Lm) : (arr eZ M fun c => if c < j then ((Lm.idxOf (st q (bs.getD c 0)) : Nat) : Int) else 0) = arr eZ M fun c => if c < j then (((Lm ++ [z]).idxOf (st q (bs.getD c 0)) : Nat) : Int) else 0 :=
  arr_ext eZ M _ fun c hc => by
    by_cases h : c < j
    · simp only [if_pos h]
      rw [List.idxOf_append, if_pos (hin c h)]
    · simp only [if_neg h]
theorem nextArr_done {st : Mo → Nat → Mo} {q : Mo} {bs : List Nat} {Lm : List Mo} {M : Nat} (hl : bs.length = M) : ((List.range M).map fun c => if c < M then ((Lm.idxOf (st q (bs.getD c 0)) : Nat) : Int) else 0) = intsL (entsQ st bs Lm q) := by
  unfold intsL entsQ
  apply List.ext_getElem
  · simp [hl]
  · intro i h1 h2
    simp at h1
    simp [h1, hl]
theorem row_in {st : Mo → Nat → Mo} {q : Mo} {bs : List Nat} {Q : List Mo} {j : Nat} (hj : j ≤ bs.length) : ∀ c, c < j → st q (bs.getD c 0) ∈ rowQ st q (bs.take j) Q := fun c hc => by
  refine rowQ_mem q _ _ _ ?_
  rw [List.getD_eq_getElem?_getD, List.getElem?_eq_getElem (by omega), Option.getD_some]
  have h : c < (bs.take j).length := by rw [List.length_take]; omega
  have := List.getElem_mem h
  rwa [List.getElem_take] at this
theorem addQ_old {Q : List Mo} {z : Mo} (h : z ∈ Q) : addQ Q z = Q := by simp [addQ, h]
theorem addQ_new {Q : List Mo} {z : Mo} (h : z ∉ Q) : addQ Q z = Q ++ [z] := by simp [addQ, h]
theorem bfs_take {st : Mo → Nat → Mo} {bs : List Nat} {a0 q : Mo} {i : Nat} (hq : (bfsN st bs a0 i)[i]? = some q) : (bfsN st bs a0 (i + 1)).take (i + 1) = (bfsN st bs a0 i).take i ++ [q] := by
  obtain ⟨hl, hq0⟩ := List.getElem?_eq_some_iff.1 hq
  obtain ⟨r, hr⟩ := bfs_prefix1 (step := st) (bs := bs) a0 i
  rw [hr, List.take_append_of_le_length (by omega), List.take_succ_eq_append_getElem hl, hq0]
end Go.Proofs.YtkedgombccdamaaDoor
