/- ere: a pattern: alternatives. No condition beyond those named in each lemma. -/
import Derived.Test.YtajainmldcnaeaaEreW
namespace Go.Proofs.Ytajainmldcnaeaa
open Go.RowKit Go.Maps
set_option linter.unusedVariables false
set_option linter.unusedSimpArgs false
attribute [local go_sem] Oper.semAt_some

/-- what reads an alternative -/
def AltOk (p : ByteArray) (gr : Nat) (al : Nat → Ere.Res Nd) : Prop := ∀ (g i : Nat) (w : World), Blk w g 76 (rdC p i) → i ≤ p.size → p.size ≤ 1024 → Mx w → 0 < g →
  Calls Try.prog 56 #[.pointer (some ⟨g, 0, none⟩), .int .i64 (gr : Int)] w fun e w' => NdAns g p w w.heap.size (al i) e w'
set_option maxRecDepth 100000 in
set_option maxHeartbeats 8000000 in
theorem patL_any (gr : Nat) (hgr : gr ≤ 64) (al : Nat → Ere.Res Nd) (g : Nat) (p : ByteArray) (i : Nat) (hal : AltOk p gr al) (hfa : ∀ i t j, i ≤ p.size → al i = .got t j → i ≤ j ∧ j ≤ p.size) (w : World) (hP : Blk w g 76 (rdC p i)) (hi : i ≤ p.size) (hp : p.size ≤ 1024) (hM : Mx w) (h0 : 0 < g) :
    Calls Try.prog 39 #[.pointer (some ⟨g, 0, none⟩), .int .i64 (gr : Int)] w fun e w' => NdAns g p w w.heap.size (Ere.patL p al (p.size + 2) i []) e w' := by
  obtain ⟨r, hr0⟩ : ∃ r, Ere.patL p al (p.size + 2) i [] = r := ⟨_, rfl⟩
  rw [hr0]
  rw [show p.size + 2 = (p.size + 1) + 1 from rfl] at hr0
  unfold Ere.patL at hr0
  simp only [List.nil_append] at hr0
  have hT := Turn.refl g (g + 1) w
  have hgl := Lib.hid hP.lt
  have hpI : (p.size : Int) ≤ 1024 := by omega
  have hgI : (gr : Int) ≤ 64 := by omega
  replace hr0 := Lib.hid hr0
  replace hal := Lib.hid hal
  replace hfa := Lib.hid hfa
  go_enter Try.func39, Try.ntmps39
  have h4 : Blk (w.alloc (.cells zeroC 27)) w.heap.size 27 zeroC := Blk.new' _ _ _ rfl
  have hB1 : Below w.heap.size w (w.alloc (.cells zeroC 27)) := below_alloc (Below.refl _ _) _
  unfold zeroC at h4 hB1
  go_upto_region 1 with (fail)
  obtain ⟨w1, hw1⟩ : ∃ y, y = w.alloc (.cells zeroC 27) := ⟨_, rfl⟩
  unfold zeroC at hw1
  rw [← hw1] at h4 hB1 ⊢
  clear hw1
  replace hP := blk_then hP hB1
  replace hT := hT.then_ hB1
  replace hM := hM.then_ hB1
  have h4l := h4.lt
  obtain ⟨g4, hg4e⟩ : ∃ y, y = w.heap.size := ⟨_, rfl⟩
  obtain ⟨B, hBe⟩ : ∃ y, y = w1.heap.size := ⟨_, rfl⟩
  have hwb := Lib.hid (show w.heap.size ≤ g4 ∧ g4 ≠ g ∧ 0 < g ∧ g < w.heap.size ∧ g4 < B ∧ g < B ∧ w.heap.size ≤ B ∧ 0 < B by have := hgl.out; have := hB1.size; omega)
  rw [← hg4e] at h4 ⊢
  have kA := hal.out g i w1 hP hi hp hM h0
  have hfi := fun t j => hfa.out i t j hi
  obtain ⟨ra, hra⟩ : ∃ q, al i = q := ⟨_, rfl⟩
  rw [hra] at kA hfi
  have hr1 := hr0.out
  rw [hra] at hr1
  rw [← hBe] at kA
  replace hBe := Lib.hid hBe
  clear hg4e h0 h4l hB1 hra hr0
  cases ra with
  | fault e0 k0 =>
    have hr := Lib.hid (show r = .fault e0 k0 from hr1.symm)
    clear hr1 hfi
    go_wp2_with (go_at_call 56; refine kA.mono ?_; rintro e w9 ⟨hT9, hfe⟩; unfold faultE at hfe; subst hfe)
    rw [hr.out]
    exact ⟨rfl, hT.trans hT9, rfl⟩
  | got t0 j0 =>
    have hj0 := hfi t0 j0 rfl
    simp only [Ere.Res.bind, List.nil_append] at hr1
    replace hr1 := Lib.hid hr1
    replace hj0 := Lib.hid hj0
    clear hfi
    go_wp2_with (first
      | (go_at_call 56; refine kA.mono ?_; rintro e w5 ⟨hT5, hP5, x, bs, rfl, hO5⟩)
      | (refine wl_build1n rfl _ rfl x rfl ?_))
    have hBa := below_alloc (Below.refl w5.heap.size w5) (.cells x.C 27)
    have hs5 := hT5.size
    have hBw5 : B ≤ w5.heap.size := by have := hBe.out; omega
    have hL6 := NdL.one hO5 hBa (Nat.le_refl _) (Blk.new w5 27 x.C) hBw5
    have hT6 := (hT.trans hT5).then_ hBa
    have hM6 := (hM.turn hT5 hwb.out.2.2.1).then_ hBa
    have hP6 := blk_then hP5 hBa
    have h46 := blk_then (blk_turn h4 hT5 (by have := hwb.out; omega)) hBa
    have hB6 : B ≤ (w5.alloc (.cells x.C 27)).heap.size := Nat.le_trans hBw5 hBa.size
    obtain ⟨g6, hg6⟩ : ∃ y, y = w5.heap.size := ⟨_, rfl⟩
    obtain ⟨w6, hw6⟩ : ∃ y, y = w5.alloc (.cells x.C 27) := ⟨_, rfl⟩
    rw [← hw6] at hL6 hT6 hM6 hP6 h46 hB6 ⊢
    rw [← hg6] at hL6 ⊢
    clear hw6 hg6 hBa hs5 hBw5 hP hT hM h4 kA hT5 hP5 hO5
    go_loopw [5] (fun lv wr => ∃ (A : Option Addr) (n c : Nat) (l : List Nd) (cl : List NV) (bl : List (List Nat)) (j : Nat), lv = .slice A n c ∧ NdL wr B A n c l cl bl ∧ B ≤ wr.heap.size ∧ 1 ≤ n ∧ n ≤ j + 1 ∧ j ≤ p.size ∧ Turn g (g + 1) w wr ∧ Mx wr ∧ Blk wr g 76 (rdC p j) ∧ Blk wr g4 27 #[.int .i64 0, .int .u64 0, .int .u64 0, .int .u64 0, .int .u64 0, .slice none 0 0, .int .i64 0, .int .i64 0] ∧ r = if Ere.isAt p j 124 then Ere.patL p al (p.size + 2 - n) (j + 1) l else .got (Ere.someN 4 l) j) (fun lv _ => p.size + 2 - slLen lv)
    case atStart => exact ⟨_, 1, 1, [t0], [x], [bs], j0, rfl, hL6, hB6, Nat.le_refl _, by omega, hj0.out.2, hT6, hM6, hP6, h46, hr1.out.symm⟩
    case round =>
      clear hL6 hT6 hM6 hP6 h46 hB6 hr1
      obtain ⟨A, n, c, l, cl, bl, j, rfl, hL, hBw, hn1, hnj, hjp, hT, hM, hP, h4, hit⟩ := hrel
      obtain ⟨b124, b124_e⟩ : ∃ b, Ere.isAt p j 124 = b := ⟨_, rfl⟩
      rw [b124_e] at hit
      have k124 := is_at g p j j 124 124 wr hP rfl b124_e
      have c1 : wr.cell? ⟨g, 1, none⟩ = some (.int .i64 (j : Int)) := hP.cellv rfl
      have hjI : (j : Int) ≤ 1024 := by omega
      have hjlt := Lib.hid (fun h : b124 = true => Ere.isAt_lt (b124_e.trans h))
      clear b124_e
      have hnj2 := Lib.hid hnj
      clear hnj
      cases b124 with
      | false =>
        have hr := Lib.hid (show r = .got (Ere.someN 4 l) j by rw [hit]; simp)
        clear hit
        go_upto_region 5 with (go_at_call 57; refine k124.mono ?_; rintro e wx ⟨rfl, hBx⟩)
        clear k124 c1
        replace hL := hL.then_ hBx
        have hTx := hT.then_ hBx
        have hPx := blk_then hP hBx
        have h4x := blk_then h4 hBx
        have kS := some_any 4 wx hL
        clear hL hT hP h4 hBx
        go_wp2_with (first | (go_at_call 58; refine kS.mono ?_; rintro e w8 ⟨hB8, x, bs, rfl, hO⟩; have h48 := blk_then h4x hB8) | (refine wl_store_nv rfl _ _ rfl g4 x rfl rfl _ rfl h48 ?_; intro wz hz hgz))
        refine ret_nv rfl rfl hz rfl ?_
        rw [hr.out]
        exact ⟨(hTx.then_ hB8).grown hgz (fun q e => by injection e with e; have := hwb.out; right; omega), (blk_then hPx hB8).grown hgz (fun e => by injection e with e; have := hwb.out; omega), x, bs, rfl, (hO.mono hwb.out.2.2.2.2.2.2.1).keep (fun b hb => hgz.block b (hO.lt b hb).2 (fun e => by injection e with e; have := (hO.lt b hb).1; have := hwb.out; omega))⟩
      | true =>
        rw [if_pos rfl] at hit
        have hj1 := hjlt.out (by trivial)
        have hfu : p.size + 2 - n = (p.size + 2 - (n + 1)) + 1 := by have := hnj2.out; omega
        rw [hfu] at hit
        unfold Ere.patL at hit
        replace hit := Lib.hid hit
        replace hfu := Lib.hid hfu
        go_upto_region 3 with (go_at_call 57; refine k124.mono ?_; rintro e w2 ⟨rfl, hB2⟩)
        clear k124 c1
        replace hT := hT.then_ hB2
        replace hM := hM.then_ hB2
        replace hP := blk_then hP hB2
        replace h4 := blk_then h4 hB2
        replace hL := hL.then_ hB2
        replace hBw := Nat.le_trans hBw hB2.size
        clear hB2
        have c1 : w2.cell? ⟨g, 1, none⟩ = some (.int .i64 (j : Int)) := hP.cellv rfl
        have f1 := hP.frozen 1
        go_upto_region 4 with (fail)
        have hP3 := setRd hP (v := .int .i64 ((j : Int) + 1)) (j := j + 1) (by congr 1)
        have hTo := turnRd (Turn.refl g (g + 1) w2) 1 (.int .i64 ((j : Int) + 1))
        have hT3 := hT.trans hTo
        have hM3 := hM.turn hTo hwb.out.2.2.1
        have h43 := blk_turn h4 hTo (by have := hwb.out; omega)
        have hL3 := hL.turn hTo hwb.out.2.2.2.2.2.1
        have hBw3 := Nat.le_trans hBw hTo.size
        obtain ⟨w3, hw3⟩ : ∃ y, y = w2.setCell ⟨g, 1, none⟩ (.int .i64 ((j : Int) + 1)) := ⟨_, rfl⟩
        rw [← hw3] at hP3 hT3 hM3 h43 hL3 hBw3 ⊢
        clear hw3 hTo hT hM hP h4 hL hBw c1 f1
        have kA := hal.out g (j + 1) w3 hP3 (by omega) hp hM3 hwb.out.2.2.1
        have hfw := fun t k => hfa.out (j + 1) t k (by omega)
        obtain ⟨ra, hra⟩ : ∃ q, al (j + 1) = q := ⟨_, rfl⟩
        rw [hra] at kA hfw
        have hit2 := hit.out
        rw [hra] at hit2
        clear hra hit
        cases ra with
        | fault e0 k0 =>
          have hr := Lib.hid (show r = .fault e0 k0 by rw [hit2]; rfl)
          clear hit2 hfw
          go_wp2_with (go_at_call 56; refine kA.mono ?_; rintro e w9 ⟨hT9, hfe⟩; unfold faultE at hfe; subst hfe)
          rw [hr.out]
          exact ⟨rfl, hT3.trans hT9, rfl⟩
        | got t k =>
          have hk := hfw t k rfl
          simp only [Ere.Res.bind] at hit2
          replace hit2 := Lib.hid hit2
          replace hk := Lib.hid hk
          clear hfw
          have hn9 := Lib.hid (show n ≤ 1000000 by have := hnj2.out; omega)
          have hLl := Lib.hid hL3.lt
          replace hL3 := Lib.hid hL3
          replace hBw3 := Lib.hid hBw3
          go_wp2_with (first
            | (go_at_call 56; refine kA.mono ?_; rintro e w5 ⟨hT5, hP5, x, bs, rfl, hO5⟩
               have hs5 := Lib.hid hT5.size
               have hL6 := Lib.hid ((hL3.out.turn hT5 hwb.out.2.2.2.2.2.1).then_ (below_alloc (Below.refl w5.heap.size w5) (.cells x.C 27)))
               have hO6 := Lib.hid ((hO5.mono hBw3.out).then_ (below_alloc (Below.refl w5.heap.size w5) (.cells x.C 27)))
               have hdis := Lib.hid (show ∀ b ∈ bs, b ∉ ownL A ++ bl.flatten from fun b hb hb2 => by have := (hO5.lt b hb).1; have := (hLl.out b hb2).2; omega)
               have hBa := Lib.hid (below_alloc (Below.refl w5.heap.size w5) (.cells x.C 27)))
            | (refine wl_build1n rfl _ rfl x rfl ?_)
            | (at_builtin; refine wl_pushN rfl _ _ rfl hL6.out hO6.out hdis.out rfl _ rfl (Blk.new w5 27 x.C) hn9.out (by have := hBw3.out; have := hs5.out; have := hBa.out.size; omega) ?_; intro A' c' w7 hL7 hg7))
          have hrow : ∀ q, (Value.slice A n c).ownBlock = some q → B ≤ q := fun q hq => (hLl.out q (List.mem_append_left _ (mem_ownL.2 hq))).1
          have hTz := ((hT3.trans hT5).then_ hBa.out).grown hg7 (fun q e => by have := hrow q e; have := hwb.out; right; omega)
          have hMz := ((hM3.turn hT5 hwb.out.2.2.1).then_ hBa.out).grown hg7 (fun e => by have := hrow 0 e; have := hwb.out; omega)
          have hPz := (blk_then hP5 hBa.out).grown hg7 (fun e => by have := hrow g e.symm; have := hwb.out; omega)
          have h4z := (blk_then (blk_turn h43 hT5 (by have := hwb.out; omega)) hBa.out).grown hg7 (fun e => by have := hrow g4 e.symm; have := hwb.out; omega)
          have hBz : B ≤ w7.heap.size := by have := hBw3.out; have := hs5.out; have := hBa.out.size; have := hg7.size; omega
          exact ⟨⟨A', n + 1, c', l ++ [t], cl ++ [x], bl ++ [bs], k, rfl, hL7, hBz, by omega, by have := hk.out; have := hnj2.out; omega, hk.out.2, hTz, hMz, hPz, h4z, hit2.out⟩, by simp only [slLen]; have := hfu.out; omega⟩
/-- the reader of patterns, within so many groups -/
theorem pat_any (p : ByteArray) : ∀ n, PatOk p n
  | 0 => fun gr hgr g i w hP hi hp hM h0 => by
    unfold Ere.patR
    refine patL_any gr (by omega) _ g p i (fun g i w hP hi hp hM h0 => ?_) (fun i t j hi h => Ere.altR_fwd (fun i t j hi h => Ere.pieceR_fwd (fun f e => by cases e) h hi) _ _ _ _ _ hi h) w hP hi hp hM h0
    have := alt_any 0 gr hgr none g p i rfl w hP hi hp hM h0
    rw [decide_eq_false (show ¬ gr = 0 by omega)] at this
    exact this
  | n + 1 => fun gr hgr g i w hP hi hp hM h0 => by
    have ih := pat_any p n
    unfold Ere.patR
    refine patL_any gr (by omega) _ g p i (fun g i w hP hi hp hM h0 => ?_) (fun i t j hi h => Ere.altR_fwd (fun i t j hi h => Ere.pieceR_fwd (fun f e => by injection e with e; subst e; exact fun i t j hi h => Ere.patR_fwd n i t j hi h) h hi) _ _ _ _ _ hi h) w hP hi hp hM h0
    have := alt_any (n + 1) gr hgr (some (Ere.patR p n)) g p i ⟨ih, rfl, Ere.patR_fwd n⟩ w hP hi hp hM h0
    rw [show decide (gr = 0) = decide (n + 1 = 64) by congr 1; simp only [eq_iff_iff]; omega] at this
    exact this
end Go.Proofs.Ytajainmldcnaeaa
