/- ere: repeat reads what stands behind an atom. No condition beyond those named in each lemma. -/
import Derived.Test.YtajainmldcnaeaaEreS
namespace Go.Proofs.Ytajainmldcnaeaa
open Go.RowKit Go.Maps
set_option linter.unusedVariables false
set_option linter.unusedSimpArgs false
attribute [local go_sem] Oper.semAt_some

set_option maxRecDepth 100000 in
set_option maxHeartbeats 4000000 in
theorem repeat_any (g : Nat) (p : ByteArray) (i B : Nat) (t : Nd) (x : NV) (bs : List Nat) (w : World) (hP : Blk w g 76 (rdC p i)) (hi : i ≤ 2000) (ht : NdO w B t x bs) (hg : g < B) (hBw : B ≤ w.heap.size) :
    Calls Try.prog 77 #[.pointer (some ⟨g, 0, none⟩), .agg x.C] w fun e w' => NdAns g p w B (Ere.repeatR p t i) e w' := by
  obtain ⟨r, hr0⟩ : ∃ r, Ere.repeatR p t i = r := ⟨_, rfl⟩
  rw [hr0]
  obtain ⟨rc, hrc⟩ : ∃ r, Ere.countsR p i = r := ⟨_, rfl⟩
  have hR := hr0
  unfold Ere.repeatR at hR
  obtain ⟨b42, h42⟩ : ∃ b, Ere.isAt p i 42 = b := ⟨_, rfl⟩
  obtain ⟨b43, h43⟩ : ∃ b, Ere.isAt p i 43 = b := ⟨_, rfl⟩
  obtain ⟨b63, h63⟩ : ∃ b, Ere.isAt p i 63 = b := ⟨_, rfl⟩
  obtain ⟨b123, h123⟩ : ∃ b, Ere.isAt p i 123 = b := ⟨_, rfl⟩
  rw [h42, h43, h63, h123, hrc] at hR
  clear hr0
  have hN : ∀ c b W, b = Ere.isAt p i c → Blk W g 76 (rdC p i) → ∀ ci : Int, ci = c → Calls Try.prog 57 #[.pointer (some ⟨g, 0, none⟩), .int .i64 (i : Int), .int .u8 ci] W fun e w' => e = .returned (.bool b) ∧ Below W.heap.size W w' := fun c b W hb hW ci hc => is_at g p i i c ci W hW hc hb.symm
  have hNC : ∀ W, Blk W g 76 (rdC p i) → Calls Try.prog 88 #[.pointer (some ⟨g, 0, none⟩)] W fun e w' => RdAns g p W (fun c : Nat × Int => .tuple #[.int .i64 (c.1 : Int), .int .i64 c.2]) rc e w' := fun W hW => by rw [← hrc]; exact counts_any g p i W hW hi
  have hci : ∀ c j, rc = .got c j → j ≤ 3000 := fun c j e => by rw [← hrc] at e; exact counts_le p i hi c j e
  clear hrc
  replace h42 := Lib.hid h42
  replace h43 := Lib.hid h43
  replace h63 := Lib.hid h63
  replace h123 := Lib.hid h123
  replace hR := Lib.hid hR
  replace hN := Lib.hid hN
  replace hNC := Lib.hid hNC
  replace hci := Lib.hid hci
  have hT := Turn.refl g (g + 1) w
  go_enter Try.func77, Try.ntmps77
  have hB1 : Below w.heap.size w ((w.alloc (.cells x.C 27)).alloc (.cells zeroC 27)) := below_alloc (below_alloc (Below.refl _ _) _) _
  have h1 : Blk ((w.alloc (.cells x.C 27)).alloc (.cells zeroC 27)) w.heap.size 27 x.C := (Blk.new _ _ _).alloc _
  have h4 : Blk ((w.alloc (.cells x.C 27)).alloc (.cells zeroC 27)) (w.heap.size + 1) 27 zeroC := Blk.new' _ _ _ (by simp)
  unfold zeroC at h1 h4 hB1
  go_upto_region 1 with (fail)
  obtain ⟨w1, hw1⟩ : ∃ y, y = (w.alloc (.cells x.C 27)).alloc (.cells zeroC 27) := ⟨_, rfl⟩
  unfold zeroC at hw1
  rw [← hw1] at h1 h4 hB1 ⊢
  clear hw1
  obtain ⟨g1, hg1⟩ : ∃ y, y = w.heap.size := ⟨_, rfl⟩
  obtain ⟨g4, hg4⟩ : ∃ y, y = w.heap.size + 1 := ⟨_, rfl⟩
  have hne := Lib.hid (show g1 ≠ g4 ∧ g < g1 ∧ g < g4 ∧ w.heap.size ≤ g4 ∧ w.heap.size ≤ g1 ∧ B ≤ w.heap.size ∧ g < B ∧ w.heap.size ≤ w1.heap.size ∧ ∀ b ∈ bs, b ≠ g1 ∧ b ≠ g4 ∧ b ≠ g from ⟨by omega, by omega, by omega, by omega, by omega, hBw, hg, hB1.size, fun b hb => by have := ht.lt b hb; omega⟩)
  rw [← hg4] at h4 ⊢
  rw [← hg1] at h1 ⊢
  clear hg1 hg4 hg hBw
  replace ht := ht.then_ hB1
  replace hP := blk_then hP hB1
  replace hT := hT.then_ hB1
  clear hB1
  replace ht := Lib.hid ht
  have hT0 := Lib.hid hT
  go_upto_block 0 with (fail)
  go_cut [5, 6] from 7 to 40 (fun lo hi wX => ∃ (j : Nat) (a b : Int), j ≤ 3000 ∧ lo = .int .i64 a ∧ hi = .int .i64 b ∧ r = .got (Ere.timesN t a b) (j + 1) ∧ Turn g (g + 1) w1 wX ∧ Blk wX g 76 (rdC p j))
  case first =>
    clear hT
    have hT := Turn.refl g (g + 1) w1
    have c1 : w1.cell? ⟨g, 1, none⟩ = some (.int .i64 (i : Int)) := hP.cellv rfl
    have kA := hN.out 42 b42 w1 h42.out.symm hP 42 rfl
    cases b42 with
    | true =>
      have hr := Lib.hid (show r = .got (Ere.timesN t (0) (-1)) (i + 1) by rw [← hR.out]; simp)
      go_wp2_with (go_at_call 57; refine kA.mono ?_; rintro e wc42 ⟨rfl, hBq⟩)
      go_meet
      exact ⟨i, 0, -1, by omega, rfl, rfl, hr.out, hT.then_ hBq, blk_then hP hBq⟩
    | false =>
      go_upto_region 4 with (go_at_call 57; refine kA.mono ?_; rintro e wc42 ⟨rfl, hBq⟩)
      replace hP := blk_then hP hBq
      replace hT := hT.then_ hBq
      replace h1 := blk_then h1 hBq
      replace h4 := blk_then h4 hBq
      clear c1 kA hBq
      have c1 : wc42.cell? ⟨g, 1, none⟩ = some (.int .i64 (i : Int)) := hP.cellv rfl
      have kA := hN.out 43 b43 wc42 h43.out.symm hP 43 rfl
      cases b43 with
      | true =>
        have hr := Lib.hid (show r = .got (Ere.timesN t (1) (-1)) (i + 1) by rw [← hR.out]; simp)
        go_wp2_with (go_at_call 57; refine kA.mono ?_; rintro e wc43 ⟨rfl, hBq⟩)
        go_meet
        exact ⟨i, 1, -1, by omega, rfl, rfl, hr.out, hT.then_ hBq, blk_then hP hBq⟩
      | false =>
        go_upto_region 6 with (go_at_call 57; refine kA.mono ?_; rintro e wc43 ⟨rfl, hBq⟩)
        replace hP := blk_then hP hBq
        replace hT := hT.then_ hBq
        replace h1 := blk_then h1 hBq
        replace h4 := blk_then h4 hBq
        clear c1 kA hBq
        have c1 : wc43.cell? ⟨g, 1, none⟩ = some (.int .i64 (i : Int)) := hP.cellv rfl
        have kA := hN.out 63 b63 wc43 h63.out.symm hP 63 rfl
        cases b63 with
        | true =>
          have hr := Lib.hid (show r = .got (Ere.timesN t (0) (1)) (i + 1) by rw [← hR.out]; simp)
          go_wp2_with (go_at_call 57; refine kA.mono ?_; rintro e wc63 ⟨rfl, hBq⟩)
          go_meet
          exact ⟨i, 0, 1, by omega, rfl, rfl, hr.out, hT.then_ hBq, blk_then hP hBq⟩
        | false =>
          go_upto_region 8 with (go_at_call 57; refine kA.mono ?_; rintro e wc63 ⟨rfl, hBq⟩)
          replace hP := blk_then hP hBq
          replace hT := hT.then_ hBq
          replace h1 := blk_then h1 hBq
          replace h4 := blk_then h4 hBq
          clear c1 kA hBq
          have c1 : wc63.cell? ⟨g, 1, none⟩ = some (.int .i64 (i : Int)) := hP.cellv rfl
          have kA := hN.out 123 b123 wc63 h123.out.symm hP 123 rfl
          cases b123 with
          | true =>
            go_upto_region 9 with (go_at_call 57; refine kA.mono ?_; rintro e wc123 ⟨rfl, hBq⟩)
            replace hP := blk_then hP hBq
            replace hT := hT.then_ hBq
            clear c1 kA hBq
            have kC := hNC.out wc123 hP
            cases rc with
            | fault e0 i0 =>
              have hr := Lib.hid (show r = .fault e0 i0 by rw [← hR.out]; simp [Ere.Res.bind])
              go_wp2_with (go_at_call 88; refine kC.mono ?_; rintro e wd ⟨hT2, hfe⟩; unfold faultE at hfe; subst hfe)
              rw [hr.out]
              exact ⟨rfl, (hT0.out.trans hT).trans hT2, rfl⟩
            | got cc j =>
              obtain ⟨a, b⟩ := cc
              have hr := Lib.hid (show r = .got (Ere.timesN t (a : Int) b) (j + 1) by rw [← hR.out]; simp [Ere.Res.bind])
              have hj := hci.out _ _ rfl
              go_wp2_with (go_at_call 88; refine kC.mono ?_; rintro e wd ⟨hT2, rfl, hP2⟩)
              go_meet
              exact ⟨j, (a : Int), b, hj, rfl, rfl, hr.out, hT.trans hT2, hP2⟩
          | false =>
            have hr := Lib.hid (show r = .got t i by rw [← hR.out]; simp)
            go_wp2_with (first | (go_at_call 57; refine kA.mono ?_; rintro e wc123 ⟨rfl, hBq⟩; replace h1 := blk_then h1 hBq; replace h4 := blk_then h4 hBq) | (refine wl_load_nv rfl _ rfl g1 rfl _ h1 ?_) | (refine wl_store_nv rfl _ _ rfl g4 x rfl rfl _ rfl h4 ?_; intro w7 h7 hg7))
            refine ret_nv rfl rfl h7 rfl ?_
            rw [hr.out]
            have ht8 := ((ht.out.turn hT hne.out.2.2.2.2.2.2.1).then_ hBq).keep (w' := w7) (fun b hb => hg7.block b (by have := ((ht.out.turn hT hne.out.2.2.2.2.2.2.1).then_ hBq).lt b hb; omega) (fun e => by injection e with e; exact (hne.out.2.2.2.2.2.2.2.2 b hb).2.1 e))
            exact ⟨(hT0.out.trans (hT.then_ hBq)).grown hg7 (fun q e => by injection e with e; have := hne.out; right; omega), (blk_then hP hBq).grown hg7 (fun e => by injection e with e; have := hne.out; omega), x, bs, rfl, ht8⟩
  case rest =>
    obtain ⟨j, a, b, hj, rfl, rfl, hr, hT2, hP2⟩ := hcut
    have f1 := hP2.frozen 1
    have c1 : wc.cell? ⟨g, 1, none⟩ = some (.int .i64 (j : Int)) := hP2.cellv rfl
    have hjI : (j : Int) ≤ 3000 := by omega
    replace hr := Lib.hid hr
    have k1 := blk_turn h1 hT2 (by have := hne.out; omega)
    have k4 := blk_turn h4 hT2 (by have := hne.out; omega)
    have kt := ht.out.turn hT2 hne.out.2.2.2.2.2.2.1
    clear h1 h4 hP
    go_upto_region 11 with (fail)
    have h5 := setRd hP2 (v := .int .i64 ((j : Int) + 1)) (j := j + 1) (by simp)
    have hT5 := turnRd (hT0.out.trans hT2) 1 (.int .i64 ((j : Int) + 1))
    have ht5 := kt.keep (w' := wc.setCell ⟨g, 1, none⟩ (.int .i64 ((j : Int) + 1))) (fun b hb => Below.heap_setCell _ _ _ _ ((hne.out.2.2.2.2.2.2.2.2 b hb).2.2))
    have h15 := k1.far (p := ⟨g, 1, none⟩) (by have := hne.out; simp; omega) (.int .i64 ((j : Int) + 1))
    have h45 := k4.far (p := ⟨g, 1, none⟩) (by have := hne.out; simp; omega) (.int .i64 ((j : Int) + 1))
    obtain ⟨w5, hw5⟩ : ∃ y, y = wc.setCell ⟨g, 1, none⟩ (.int .i64 ((j : Int) + 1)) := ⟨_, rfl⟩
    rw [← hw5] at h5 hT5 ht5 h15 h45 ⊢
    clear hw5 hT2 hP2 k1 k4 kt c1 f1 hT hT0
    replace ht5 := Lib.hid ht5
    have hne5 := Lib.hid (show B ≤ w5.heap.size by have := hT5.size; have := hne.out; omega)
    have hnn := Lib.hid (show g4 < w5.heap.size ∧ g < w5.heap.size by have := h45.lt; have := h5.lt; omega)
    have hB6 : Below w5.heap.size w5 (w5.alloc (.cells x.C 27)) := below_alloc (Below.refl _ _) _
    have h46 := Lib.hid (blk_then h45 hB6)
    replace hB6 := Lib.hid hB6
    go_wp2_with (first | (refine wl_load_nv rfl _ rfl g1 rfl x h15 ?_) | (refine wl_build1n rfl _ rfl x rfl ?_) | (refine wl_build_node rfl _ rfl (NV.mk 5 0 (some ⟨w5.heap.size, 0, none⟩) 1 1 a b) #[(0, .int .i64 5), (2, .slice (some ⟨w5.heap.size, 0, none⟩) 1 1), (3, .int .i64 a), (4, .int .i64 b)] rfl (fun w => build_ntimes 5 _ 1 1 a b w) ?_) | (refine wl_store_nv rfl _ _ rfl g4 (NV.mk 5 0 (some ⟨w5.heap.size, 0, none⟩) 1 1 a b) rfl rfl _ rfl h46.out ?_; intro w7 h7 hg7))
    refine ret_nv rfl rfl h7 rfl ?_
    rw [hr.out]
    have hL := NdL.one ht5.out hB6.out (Nat.le_refl _) (Blk.new _ _ _) hne5.out
    have hL7 := hL.keep (w' := w7) (fun q hq => hg7.block q (hL.lt q hq).2 (fun e => by
      have h9 := hnn.out
      injection e with e
      simp only [ownL, List.flatten_cons, List.flatten_nil, List.append_nil, List.cons_append, List.nil_append, List.mem_cons] at hq
      rcases hq with hq | hq
      · omega
      · exact (hne.out.2.2.2.2.2.2.2.2 q hq).2.1 e))
    exact ⟨(hT5.then_ hB6.out).grown hg7 (fun q e => by injection e with e; have := hne.out; right; omega), (blk_then h5 hB6.out).grown hg7 (fun e => by injection e with e; have := hne.out; omega), _, _, rfl, hL7.node 5 0 a b⟩
end Go.Proofs.Ytajainmldcnaeaa
