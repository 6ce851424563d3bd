/- ere.Parse, of any pattern. No condition beyond those named in each lemma. -/
import Derived.Test.YtajainmldcnaeaaEreY
namespace Go.Proofs.Ytajainmldcnaeaa
open Go.RowKit Go.Maps
set_option linter.unusedVariables false
set_option linter.unusedSimpArgs false
attribute [local go_sem] Oper.semAt_some

theorem placesN_eq (t : Nd) : placesN t = Ere.placesN t := by
  unfold placesN Ere.placesN
  split
  · omega
  · rfl
/-- three results that lie in variables -/
theorem res3 {fn : Func} {g : Nat} {x : NV} (hres : fn.results = #[.cell 2 27, .cell 3 3, .cell 4 29]) {tmps : Array Value} {w : World} {a b : Int}
    (h2 : tmps.getD 2 undef = .pointer (some ⟨g, 0, none⟩)) (h3 : tmps.getD 3 undef = .pointer (some ⟨g + 1, 0, none⟩)) (h4 : tmps.getD 4 undef = .pointer (some ⟨g + 1 + 1, 0, none⟩))
    (k2 : Blk w g 27 x.C) (k3 : Blk w (g + 1) 3 #[.int .i64 a]) (k4 : Blk w (g + 1 + 1) 29 #[.int .i64 b]) : (results fn tmps).run Try.prog w = .ok (.tuple #[.agg x.C, .int .i64 a, .int .i64 b]) w := by
  have l2 := run_loadVar_row (P := Try.prog) w g 27 27 x.C (0, 0) _ k2 Try.underlying27 rfl (info_node.trans rfl)
  have l3 := run_load1 (P := Try.prog) w ⟨g + 1, 0, none⟩ 3 _ (.int .i64 a) (k3.cellv rfl) Try.underlying3 rfl
  have l4 := run_load1 (P := Try.prog) w ⟨g + 1 + 1, 0, none⟩ 29 _ (.int .i64 b) (k4.cellv rfl) Try.underlying29 rfl
  have h2' : tmps[2]?.getD undef = .pointer (some ⟨g, 0, none⟩) := by simpa using h2
  have h3' : tmps[3]?.getD undef = .pointer (some ⟨g + 1, 0, none⟩) := by simpa using h3
  have h4' : tmps[4]?.getD undef = .pointer (some ⟨g + 1 + 1, 0, none⟩) := by simpa using h4
  simp [results, hres, h2', h3', h4', asAddr, l2, l3, l4]
set_option maxRecDepth 100000 in
set_option maxHeartbeats 8000000 in
theorem parse_any (p : ByteArray) (w : World) (hM : Mx w) :
    Calls Try.prog 12 #[.string p] w fun e w' => Below w.heap.size w w' ∧ ∃ x bs, e = .returned (.tuple #[.agg (NV.C x), .int .i64 ((Ere.parseR p).2.1 : Int), .int .i64 ((Ere.parseR p).2.2 : Int)]) ∧ NdO w' w.heap.size (Ere.parseR p).1 x bs := by
  obtain ⟨r, hr0⟩ : ∃ r, Ere.parseR p = r := ⟨_, rfl⟩
  rw [hr0]
  unfold Ere.parseR at hr0
  have hmf : ∀ (fn : Fn) (first cap : Array Value) (w : World), (Instr.makeFunc fn first cap).run Try.prog w = .ok (.func fn first cap) w := fun _ _ _ _ => rfl
  have hw0 : 0 < w.heap.size := by
    obtain ⟨m, hm⟩ := hM
    rcases Nat.eq_zero_or_pos w.heap.size with e | e
    · unfold World.cell? at hm
      simp [Array.getElem?_eq_none (show w.heap.size ≤ 0 by omega)] at hm
    · exact e
  go_enter_defers Try.func12, Try.ntmps12
  have k2 : Blk (((w.alloc (.cells zeroC 27)).alloc (.cells #[.int .i64 0] 3)).alloc (.cells #[.int .i64 0] 29)) w.heap.size 27 zeroC := ((Blk.new _ _ _).alloc _).alloc _
  have k3 : Blk (((w.alloc (.cells zeroC 27)).alloc (.cells #[.int .i64 0] 3)).alloc (.cells #[.int .i64 0] 29)) (w.heap.size + 1) 3 #[.int .i64 0] := (Blk.new' _ _ _ (by simp)).alloc _
  have k4 : Blk (((w.alloc (.cells zeroC 27)).alloc (.cells #[.int .i64 0] 3)).alloc (.cells #[.int .i64 0] 29)) (w.heap.size + 1 + 1) 29 #[.int .i64 0] := Blk.new' _ _ _ (by simp)
  have hB : Below w.heap.size w (((w.alloc (.cells zeroC 27)).alloc (.cells #[.int .i64 0] 3)).alloc (.cells #[.int .i64 0] 29)) := below_alloc (below_alloc (below_alloc (Below.refl _ _) _) _) _
  unfold zeroC at k2 k3 k4 hB
  go_upto_region 1 with (fail)
  obtain ⟨w1, hw1⟩ : ∃ y, y = ((w.alloc (.cells zeroC 27)).alloc (.cells #[.int .i64 0] 3)).alloc (.cells #[.int .i64 0] 29) := ⟨_, rfl⟩
  unfold zeroC at hw1
  rw [← hw1] at k2 k3 k4 hB
  first | rw [← hw1] | (simp only [World.size_alloc]; rw [← hw1])
  clear hw1
  obtain ⟨g, hg⟩ : ∃ y, y = w.heap.size := ⟨_, rfl⟩
  rw [← hg] at k2 k3 k4 hw0 ⊢
  have hgw := Lib.hid hg
  have hgl := Lib.hid k4.lt
  clear hg
  replace hM := hM.then_ hB
  by_cases hbig : 1024 < p.size
  · rw [if_pos hbig] at hr0
    have hbigI : (1024 : Int) < p.size := by omega
    subst hr0
    go_wp2_with (first
      | (refine wl_build_node rfl _ rfl zeroV #[] rfl (fun w => build_nzero w) ?_)
      | (refine wl_store_nv rfl _ _ rfl g zeroV rfl rfl _ rfl k2 ?_; intro w2 m2 hg2; have m3 := k3.grown hg2 (fun e => by injection e with e; omega); have m4 := k4.grown hg2 (fun e => by injection e with e; omega); have c3 := m3.cellv (i := 0) (v := .int .i64 0) rfl; have f3 := m3.frozen 0; have c4 := m4.cellv (i := 0) (v := .int .i64 0) rfl; have f4 := m4.frozen 0))
    have q3 := (m3.set_ 0 (.int .i64 1024)).far (p := ⟨g + 1 + 1, 0, none⟩) (by simp) (.int .i64 40)
    have q4 := (m4.far (p := ⟨g + 1, 0, none⟩) (by simp) (.int .i64 1024)).set_ 0 (.int .i64 40)
    have q2 := (m2.far (p := ⟨g + 1, 0, none⟩) (by simp) (.int .i64 1024)).far (p := ⟨g + 1 + 1, 0, none⟩) (by simp; omega) (.int .i64 40)
    have hT := ((Turn.refl g (g + 3) w1).grown hg2 (fun q e => by injection e with e; left; omega)).set (b := g + 1) (i := 0) (v := .int .i64 1024) (by omega) (by omega) |>.set (b := g + 1 + 1) (i := 0) (v := .int .i64 40) (by omega) (by omega)
    refine ⟨_, res3 rfl rfl rfl rfl q2 q3 q4, ?_⟩
    have hBB := hB.trans (hT.below (by have := hgw.out; omega) (by have := hgl.out; have := hgw.out; omega))
    exact ⟨hBB, zeroV, rfl, [], NdO.leaf _ _ _ _ _ _⟩
  · rw [if_neg hbig] at hr0
    have hbigI : ¬ (1024 : Int) < p.size := by omega
    have kI := sib_any p 10 w1
    rw [show (10 : Int).toNat.toUInt8 = 10 from rfl, Ere.index_nl] at kI
    obtain ⟨onl, honl⟩ : ∃ o, Ere.nlAt p (p.size + 1) 0 = o := ⟨_, rfl⟩
    rw [honl] at hr0 kI
    replace honl := Lib.hid honl
    cases onl with
    | some j =>
      simp only at hr0 kI
      have hj0 : (0 : Int) ≤ j := by omega
      subst hr0
      go_wp2_with (first
        | (go_at_call 37; refine kI.mono ?_; rintro e w9 ⟨rfl, hw9⟩; rw [hw9]; clear hw9)
        | (refine wl_build_node rfl _ rfl zeroV #[] rfl (fun w => build_nzero w) ?_)
        | (refine wl_store_nv rfl _ _ rfl g zeroV rfl rfl _ rfl k2 ?_; intro w2 m2 hg2; have m3 := k3.grown hg2 (fun e => by injection e with e; omega); have m4 := k4.grown hg2 (fun e => by injection e with e; omega); have c3 := m3.cellv (i := 0) (v := .int .i64 0) rfl; have f3 := m3.frozen 0; have c4 := m4.cellv (i := 0) (v := .int .i64 0) rfl; have f4 := m4.frozen 0))
      have q3 := (m3.set_ 0 (.int .i64 (j : Int))).far (p := ⟨g + 1 + 1, 0, none⟩) (by simp) (.int .i64 41)
      have q4 := (m4.far (p := ⟨g + 1, 0, none⟩) (by simp) (.int .i64 (j : Int))).set_ 0 (.int .i64 41)
      have q2 := (m2.far (p := ⟨g + 1, 0, none⟩) (by simp) (.int .i64 (j : Int))).far (p := ⟨g + 1 + 1, 0, none⟩) (by simp; omega) (.int .i64 41)
      have hT := ((Turn.refl g (g + 3) w1).grown hg2 (fun q e => by injection e with e; left; omega)).set (b := g + 1) (i := 0) (v := .int .i64 (j : Int)) (by omega) (by omega) |>.set (b := g + 1 + 1) (i := 0) (v := .int .i64 41) (by omega) (by omega)
      refine ⟨_, res3 rfl rfl rfl rfl q2 q3 q4, ?_⟩
      have hBB := hB.trans (hT.below (by have := hgw.out; omega) (by have := hgl.out; have := hgw.out; omega))
      exact ⟨hBB, zeroV, rfl, [], NdO.leaf _ _ _ _ _ _⟩
    | none =>
      simp only at hr0 kI
      go_upto_region 7 with (go_at_call 37; refine kI.mono ?_; rintro e w9 ⟨rfl, hw9⟩; rw [hw9]; clear hw9)
      clear kI
      go_upto_region 8 with (fail)
      have hP : Blk (w1.alloc (.cells (rdC p 0) 76)) w1.heap.size 76 (rdC p 0) := Blk.new' _ _ _ rfl
      have hB2 : Below w1.heap.size w1 (w1.alloc (.cells (rdC p 0) 76)) := below_alloc (Below.refl _ _) _
      obtain ⟨w2, hw2⟩ : ∃ y, y = w1.alloc (.cells (rdC p 0) 76) := ⟨_, rfl⟩
      rw [← hw2] at hP hB2
      unfold rdC at hw2
      rw [show ((0 : Nat) : Int) = 0 from rfl] at hw2
      rw [← hw2]
      clear hw2
      have m2 := blk_then k2 hB2
      have m3 := blk_then k3 hB2
      have m4 := blk_then k4 hB2
      have hM2 := hM.then_ hB2
      have hT := Turn.of_below (lo := g) (hi := g + 3) hB2
      obtain ⟨gr, hgr⟩ : ∃ y, y = w1.heap.size := ⟨_, rfl⟩
      rw [← hgr] at hP ⊢
      have hgr2 := Lib.hid (show g + 1 + 1 < gr ∧ 0 < gr by have := hgl.out; omega)
      have kP := pat_any p 64 0 rfl gr 0 w2 hP (by omega) (by omega) hM2 hgr2.out.2
      rw [show ((0 : Nat) : Int) = 0 from rfl] at kP
      obtain ⟨rp, hrp⟩ : ∃ q, Ere.patR p 64 0 = q := ⟨_, rfl⟩
      rw [hrp] at hr0 kP
      replace hrp := Lib.hid hrp
      have hs2 := Lib.hid hB2.size
      have hgw2 := Lib.hid (show gr = w1.heap.size from hgr)
      clear hgr k2 k3 k4 hM hB2
      cases rp with
      | fault e0 a0 =>
        simp only at hr0
        subst hr0
        go_wp2_with (go_at_call 39; refine kP.mono ?_; rintro e w9 ⟨hT9, hfe⟩; unfold faultE at hfe; subst hfe)
        refine leaves_cons (f := 38) (args := #[.pointer (some ⟨g, 0, none⟩), .pointer (some ⟨g + 1, 0, none⟩), .pointer (some ⟨g + 1 + 1, 0, none⟩)]) (by simp) (by simp [go_sem]) ?_
        refine (closure_fault g e0 a0 zeroV (.int .i64 0) (.int .i64 0) _ (blk_turn m2 hT9 (by have := hgr2.out; omega)) (blk_turn m3 hT9 (by have := hgr2.out; omega)) (blk_turn m4 hT9 (by have := hgr2.out; omega))).mono ?_
        rintro e u' w10 ⟨rfl, rfl, hT10, q2, q3, q4⟩
        refine Exists.intro _ (And.intro (res3 rfl rfl rfl rfl q2 q3 q4) ?_)
        have hBB := ((hB.trans (hT.below (N := w.heap.size) (by have := hgw.out; omega) (by have := hB.size; omega))).trans (hT9.below (N := w.heap.size) (by have := hgw.out; have := hgr2.out; omega) (by have := hB.size; have := hs2.out; omega))).trans (hT10.below (N := w.heap.size) (by have := hgw.out; omega) (by have := hB.size; have := hs2.out; have := hT9.size; omega))
        exact ⟨hBB, zeroV, rfl, [], NdO.leaf _ _ _ _ _ _⟩
      | got t j =>
        simp only at hr0
        have kPl := fun (x : NV) (bs : List Nat) (W : World) (h : NdO W w2.heap.size t x bs) => placesE_any t W.heap.size W x.C h.toIn (Nat.le_refl _)
        rw [placesN_eq] at kPl
        have hplb : Ere.placesN t ≤ 2049 := by unfold Ere.placesN; split <;> omega
        obtain ⟨np, hnp⟩ : ∃ q, Ere.placesN t = q := ⟨_, rfl⟩
        rw [hnp] at hr0 kPl hplb
        replace kPl := Lib.hid kPl
        replace hnp := Lib.hid hnp
        go_upto_region 9 with (first
          | (go_at_call 39; refine kP.mono ?_; rintro e w3 ⟨hT3, hP3, x, bs, rfl, hO3⟩; have n2 := blk_turn m2 hT3 (by have := hgr2.out; omega))
          | (refine wl_store_nv rfl _ _ rfl g x rfl rfl _ rfl n2 ?_; intro w4 h2 hg4))
        have h3 := (blk_turn m3 hT3 (by have := hgr2.out; omega)).grown hg4 (fun e => by injection e with e; omega)
        have h4 := (blk_turn m4 hT3 (by have := hgr2.out; omega)).grown hg4 (fun e => by injection e with e; omega)
        have hO4 := hO3.keep (w' := w4) (fun b hb => hg4.block b (hO3.lt b hb).2 (fun e => by injection e with e; have := (hO3.lt b hb).1; have := hgr2.out; have := hs2.out; have := hgw2.out; omega))
        have hT4 : Turn g (g + 3) w3 w4 := (Turn.refl g (g + 3) w3).grown hg4 (fun q e => by injection e with e; left; omega)
        have hs3 := Lib.hid hT3.size
        clear hg4 hO3 n2 m2 m3 m4 hP3 kP hP
        have kQ := kPl.out x bs w4 hO4
        have hBB4 := Lib.hid (((hB.trans (hT.below (N := w.heap.size) (by have := hgw.out; omega) (by have := hB.size; omega))).trans (hT3.below (N := w.heap.size) (by have := hgw.out; have := hgr2.out; omega) (by have := hB.size; have := hs2.out; omega))).trans (hT4.below (N := w.heap.size) (by have := hgw.out; omega) (by have := hB.size; have := hs2.out; have := hs3.out; omega)))
        have hsz4 := Lib.hid (show w2.heap.size ≤ w4.heap.size by have := hs3.out; have := hT4.size; omega)
        replace hB := Lib.hid hB.size
        clear hT hT3 hT4 kPl
        go_upto_if 25 with (first
          | (refine wl_load_nv rfl _ rfl g rfl x h2 ?_)
          | (go_at_call 16; refine kQ.mono ?_; rintro e w5 ⟨rfl, hB5⟩))
        clear kQ
        replace h2 := blk_then h2 hB5
        replace h3 := blk_then h3 hB5
        replace h4 := blk_then h4 hB5
        replace hO4 := hO4.then_ hB5
        by_cases hbp : 2048 < np
        · rw [if_pos hbp] at hr0
          subst hr0
          have hbpI : (2048 : Int) < np := by omega
          go_wp2_with (go_at_call 40; refine (give_any 48 0 _).mono ?_; rintro e w6 ⟨hfe, hB6⟩; unfold faultE at hfe; subst hfe)
          refine leaves_cons (f := 38) (args := #[.pointer (some ⟨g, 0, none⟩), .pointer (some ⟨g + 1, 0, none⟩), .pointer (some ⟨g + 1 + 1, 0, none⟩)]) (by simp) (by simp [go_sem]) ?_
          refine (closure_fault g 48 0 x (.int .i64 0) (.int .i64 0) _ (blk_then h2 hB6) (blk_then h3 hB6) (blk_then h4 hB6)).mono ?_
          rintro e u' w10 ⟨rfl, rfl, hT10, q2, q3, q4⟩
          refine Exists.intro _ (And.intro (res3 rfl rfl rfl rfl q2 q3 q4) ?_)
          have hBB := ((hBB4.out.trans (hB5.mono (by have := hB.out; have := hs2.out; have := hsz4.out; omega))).trans (hB6.mono (by have := hB.out; have := hs2.out; have := hsz4.out; have := hB5.size; omega))).trans (hT10.below (N := w.heap.size) (by have := hgw.out; omega) (by have := hB.out; have := hs2.out; have := hsz4.out; have := hB5.size; have := hB6.size; omega))
          exact ⟨hBB, zeroV, rfl, [], NdO.leaf _ _ _ _ _ _⟩
        · rw [if_neg hbp] at hr0
          subst hr0
          have hbpI : (np : Int) ≤ 2048 := by omega
          go_wp2_with (first
            | (refine wl_load_nv rfl _ rfl g rfl x h2 ?_)
            | (refine wl_store_nv rfl _ _ rfl g x rfl rfl _ rfl h2 ?_; intro w6 n2 hg6; have n3 := h3.grown hg6 (fun e => by injection e with e; omega); have n4 := h4.grown hg6 (fun e => by injection e with e; omega); have c3 := n3.cellv (i := 0) (v := .int .i64 0) rfl; have f3 := n3.frozen 0; have c4 := n4.cellv (i := 0) (v := .int .i64 0) rfl; have f4 := n4.frozen 0))
          refine leaves_cons (f := 38) (args := #[.pointer (some ⟨g, 0, none⟩), .pointer (some ⟨g + 1, 0, none⟩), .pointer (some ⟨g + 1 + 1, 0, none⟩)]) (by simp) (by simp [go_sem]) ?_
          refine (closure_idle ⟨g, 0, none⟩ ⟨g + 1, 0, none⟩ ⟨g + 1 + 1, 0, none⟩ _).mono ?_
          rintro e u' w10 ⟨rfl, rfl, rfl⟩
          have q3 := (n3.set_ 0 (.int .i64 0)).far (p := ⟨g + 1 + 1, 0, none⟩) (by simp) (.int .i64 0)
          have q4 := (n4.far (p := ⟨g + 1, 0, none⟩) (by simp) (.int .i64 0)).set_ 0 (.int .i64 0)
          have q2 := (n2.far (p := ⟨g + 1, 0, none⟩) (by simp) (.int .i64 0)).far (p := ⟨g + 1 + 1, 0, none⟩) (by simp; omega) (.int .i64 0)
          have hT6 := ((Turn.refl g (g + 3) w5).grown hg6 (fun q e => by injection e with e; left; omega)).set (b := g + 1) (i := 0) (v := .int .i64 0) (by omega) (by omega) |>.set (b := g + 1 + 1) (i := 0) (v := .int .i64 0) (by omega) (by omega)
          refine Exists.intro _ (And.intro (res3 rfl rfl rfl rfl q2 q3 q4) ?_)
          have hBB := (hBB4.out.trans (hB5.mono (by have := hB.out; have := hs2.out; have := hsz4.out; omega))).trans (hT6.below (N := w.heap.size) (by have := hgw.out; omega) (by have := hB.out; have := hs2.out; have := hsz4.out; have := hB5.size; omega))
          have hO6 := (hO4.mono (show w.heap.size ≤ w2.heap.size by have := hB.out; have := hs2.out; omega)).keep (w' := (w6.setCell ⟨g + 1, 0, none⟩ (.int .i64 0)).setCell ⟨g + 1 + 1, 0, none⟩ (.int .i64 0)) (fun b hb => hT6.block b (hO4.lt b hb).2 (.inr (by have := (hO4.lt b hb).1; have := hgr2.out; have := hs2.out; have := hgw2.out; omega)))
          exact ⟨hBB, x, rfl, bs, hO6⟩
end Go.Proofs.Ytajainmldcnaeaa
