/- ere: a piece: an anchor, or an atom and its repeat. No condition beyond those named in each lemma. -/
import Derived.Test.YtajainmldcnaeaaEreU
namespace Go.Proofs.Ytajainmldcnaeaa
open Go.RowKit Go.Maps
set_option linter.unusedVariables false
set_option linter.unusedSimpArgs false
attribute [local go_sem] Oper.semAt_some

namespace Ere
theorem countsR_fwd {p : ByteArray} {i j : Nat} {c : Nat × Int} (h : countsR p i = .got c j) : i < j ∧ j < p.size := by
  have h1 := digits_le p 4 (i + 1) 0 0
  have h2 := digits_le p 4 ((digits p 4 (i + 1) 0 0).2.1 + 1) 0 0
  unfold countsR at h
  simp only at h
  split at h
  · split at h
    · rename_i h3
      injection h with _ h
      have := isAt_lt h3
      omega
    · split at h
      · cases h
      · rename_i h3
        injection h with _ h
        simp only [Bool.or_eq_true, Bool.not_eq_true', not_or, Bool.not_eq_false] at h3
        have := isAt_lt h3.1.2
        omega
  · split at h
    · cases h
    · rename_i h3
      injection h with _ h
      simp only [Bool.or_eq_true, Bool.not_eq_true', not_or, Bool.not_eq_false] at h3
      have := isAt_lt h3.2
      omega
theorem repeatR_fwd {p : ByteArray} {t u : Nd} {i j : Nat} (h : repeatR p t i = .got u j) (hi : i ≤ p.size) : i ≤ j ∧ j ≤ p.size := by
  unfold repeatR at h
  split at h
  · rename_i h3
    injection h with _ h
    have := isAt_lt h3
    omega
  split at h
  · rename_i h3
    injection h with _ h
    have := isAt_lt h3
    omega
  split at h
  · rename_i h3
    injection h with _ h
    have := isAt_lt h3
    omega
  split at h
  · cases hc : countsR p i with
    | fault e k => rw [hc] at h; cases h
    | got c k =>
      rw [hc] at h
      injection h with _ h
      have := countsR_fwd hc
      omega
  · injection h with _ h
    omega
theorem setR_fwd {p : ByteArray} {s i j : Nat} {t : Nd} (h : setR p s i = .got t j) : i < j ∧ j ≤ p.size := by
  unfold setR at h
  cases hc : itemsR p s (p.size + 2) true (if isAt p i 94 then i + 1 else i) 0 with
  | fault e k => rw [hc] at h; cases h
  | got c k =>
    rw [hc] at h
    injection h with _ h
    have := itemsR_fwd _ _ _ _ _ _ hc
    split at this <;> omega
theorem pieceR_fwd {p : ByteArray} {inner : Option (Nat → Res Nd)} (hin : ∀ f, inner = some f → ∀ i t j, i ≤ p.size → f i = .got t j → i ≤ j ∧ j ≤ p.size) {i j : Nat} {t : Nd} (h : pieceR p inner i = .got t j) (hi : i < p.size) : i < j ∧ j ≤ p.size := by
  unfold pieceR at h
  simp only at h
  split at h
  · injection h with _ h; omega
  split at h
  · injection h with _ h; omega
  split at h
  · cases h
  split at h
  · cases inner with
    | none => cases h
    | some f =>
      simp only at h
      cases hf : f (i + 1) with
      | fault e k => rw [hf] at h; cases h
      | got u k =>
        rw [hf] at h
        simp only [Res.bind] at h
        have h1 := hin f rfl (i + 1) u k (by omega) hf
        split at h
        · cases h
        · have := repeatR_fwd h (by omega)
          omega
  split at h
  · cases hf : setR p i (i + 1) with
    | fault e k => rw [hf] at h; cases h
    | got u k =>
      rw [hf] at h
      simp only [Res.bind] at h
      have h1 := setR_fwd hf
      have := repeatR_fwd h (by omega)
      omega
  split at h
  · have := repeatR_fwd h (by omega)
    omega
  split at h
  · split at h
    · rename_i h3
      unfold oneOf at h3
      simp only [Bool.and_eq_true, decide_eq_true_eq] at h3
      have := repeatR_fwd h (by omega)
      omega
    · cases h
  · have := repeatR_fwd h (by omega)
    omega
end Ere
/-- what the pattern within so many groups reads -/
def PatOk (p : ByteArray) (n : Nat) : Prop := ∀ (gr : Nat), gr + n = 64 → ∀ (g i : Nat) (w : World), Blk w g 76 (rdC p i) → i ≤ p.size → p.size ≤ 1024 → Mx w → 0 < g →
  Calls Try.prog 39 #[.pointer (some ⟨g, 0, none⟩), .int .i64 (gr : Int)] w fun e w' => NdAns g p w w.heap.size (Ere.patR p n i) e w'
theorem enter_repeat (args : Array Value) (w : World) : (callFunc 77 args).run Try.prog w = .ok (.enter 77 args) w := by kernel_rfl
set_option maxRecDepth 100000 in
set_option maxHeartbeats 8000000 in
theorem piece_any (n gr : Nat) (hgr : gr + n = 64) (inner : Option (Nat → Ere.Res Nd)) (g : Nat) (p : ByteArray) (i : Nat) (hin : match n with
      | 0 => inner = none
      | n + 1 => PatOk p n ∧ inner = some (Ere.patR p n) ∧ ∀ i t j, i ≤ p.size → Ere.patR p n i = .got t j → i ≤ j ∧ j ≤ p.size) (w : World) (hP : Blk w g 76 (rdC p i)) (hi : i < p.size) (hp : p.size ≤ 1024) (hM : Mx w) (h0 : 0 < g) :
    Calls Try.prog 67 #[.pointer (some ⟨g, 0, none⟩), .int .i64 (gr : Int)] w fun e w' => NdAns g p w w.heap.size (Ere.pieceR p inner i) e w' := by
  obtain ⟨r, hr0⟩ : ∃ r, Ere.pieceR p inner i = r := ⟨_, rfl⟩
  rw [hr0]
  have hR := hr0
  unfold Ere.pieceR at hR
  have hch : Ere.chr p i = p[i].toNat := by unfold Ere.chr; rw [dif_pos hi]
  simp only [hch] at hR
  obtain ⟨v, hv⟩ : ∃ v, p[i] = v := ⟨_, rfl⟩
  rw [hv] at hR
  clear hr0 hch
  have hv8 : v.toNat < 256 := v.toNat_lt
  have hT := Turn.refl g (g + 1) w
  have hgl := Lib.hid hP.lt
  have hpI : (p.size : Int) ≤ 1024 := by omega
  have hiI : (i : Int) < p.size := by omega
  have hi00 : ¬ (i : Int) < 0 := by omega
  replace hR := Lib.hid hR
  replace hv := Lib.hid hv
  replace hgr := Lib.hid hgr
  replace hin := Lib.hid hin
  go_enter Try.func67, Try.ntmps67
  have h4 : Blk (w.alloc (.cells zeroC 27)) w.heap.size 27 zeroC := Blk.new' _ _ _ rfl
  have hB1 : Below w.heap.size w (w.alloc (.cells zeroC 27)) := below_alloc (Below.refl _ _) _
  unfold zeroC at h4 hB1
  go_upto_region 1 with (fail)
  obtain ⟨w1, hw1⟩ : ∃ y, y = w.alloc (.cells zeroC 27) := ⟨_, rfl⟩
  unfold zeroC at hw1
  rw [← hw1] at h4 hB1 ⊢
  clear hw1
  replace hP := blk_then hP hB1
  replace hT := hT.then_ hB1
  replace hM := hM.then_ hB1
  have h4l := h4.lt
  obtain ⟨g4, hg4e⟩ : ∃ y, y = w.heap.size := ⟨_, rfl⟩
  have hwb := Lib.hid (show w.heap.size ≤ g4 ∧ g4 ≠ g ∧ 0 < g ∧ g < w.heap.size ∧ g4 < w1.heap.size ∧ g < w1.heap.size ∧ w.heap.size ≤ w1.heap.size by have := hgl.out; have := hB1.size; omega)
  rw [← hg4e] at h4 ⊢
  clear hg4e h0 h4l hB1
  have c0 : w1.cell? ⟨g, 0, none⟩ = some (.string p) := hP.cellv rfl
  have c1 : w1.cell? ⟨g, 1, none⟩ = some (.int .i64 (i : Int)) := hP.cellv rfl
  have f1 := hP.frozen 1
  go_upto_region 4 with (fail)
  rw [hv.out]
  have hP2 := setRd hP (v := .int .i64 ((i : Int) + 1)) (j := i + 1) (by congr 1)
  have hT2 := turnRd hT 1 (.int .i64 ((i : Int) + 1))
  have hM2 := hM.turn (turnRd (Turn.refl g (g + 1) w1) 1 (.int .i64 ((i : Int) + 1))) hwb.out.2.2.1
  have h42 := h4.far (p := ⟨g, 1, none⟩) (by have := hwb.out; simp; omega) (.int .i64 ((i : Int) + 1))
  obtain ⟨w2, hw2⟩ : ∃ y, y = w1.setCell ⟨g, 1, none⟩ (.int .i64 ((i : Int) + 1)) := ⟨_, rfl⟩
  have hs2 : w2.heap.size = w1.heap.size := by rw [hw2]; simp [World.setCell]
  rw [← hw2] at hP2 hT2 hM2 h42 ⊢
  have hw3 := Lib.hid (show g4 < w2.heap.size ∧ g < w2.heap.size ∧ w.heap.size ≤ w2.heap.size by have := hwb.out; omega)
  clear hw2 hs2 c0 c1 f1 hP hT h4 hM
  by_cases h94 : v.toNat = 94
  · skip
    have e94 : ((((v.toNat : Nat) : Int)) == 94) = true := beq_iff_eq.2 (by omega)
    have hr := Lib.hid (show r = .got (.mk 6 0 [] 0 0) (i + 1) by rw [← hR.out]; simp [h94])
    go_wp2_with (first | (refine wl_build_node rfl _ rfl ⟨6, 0, none, 0, 0, 0, 0⟩ #[(0, .int .i64 6)] rfl (fun w => build_leaf 6 w) ?_) | (refine wl_store_nv rfl _ _ rfl g4 ⟨6, 0, none, 0, 0, 0, 0⟩ rfl rfl _ rfl h42 ?_; intro wz hz hgz))
    refine ret_nv rfl rfl hz rfl ?_
    rw [hr.out]
    exact ⟨hT2.grown hgz (fun q e => by injection e with e; have := hwb.out; right; omega), hP2.grown hgz (fun e => by injection e with e; have := hwb.out; omega), _, [], rfl, NdO.leaf _ _ _ _ _ _⟩
  by_cases h36 : v.toNat = 36
  · skip
    have e94 : ((((v.toNat : Nat) : Int)) == 94) = false := beq_eq_false_iff_ne.2 (by omega)
    have e36 : ((((v.toNat : Nat) : Int)) == 36) = true := beq_iff_eq.2 (by omega)
    have hr := Lib.hid (show r = .got (.mk 7 0 [] 0 0) (i + 1) by rw [← hR.out]; simp [h36])
    go_wp2_with (first | (refine wl_build_node rfl _ rfl ⟨7, 0, none, 0, 0, 0, 0⟩ #[(0, .int .i64 7)] rfl (fun w => build_leaf 7 w) ?_) | (refine wl_store_nv rfl _ _ rfl g4 ⟨7, 0, none, 0, 0, 0, 0⟩ rfl rfl _ rfl h42 ?_; intro wz hz hgz))
    refine ret_nv rfl rfl hz rfl ?_
    rw [hr.out]
    exact ⟨hT2.grown hgz (fun q e => by injection e with e; have := hwb.out; right; omega), hP2.grown hgz (fun e => by injection e with e; have := hwb.out; omega), _, [], rfl, NdO.leaf _ _ _ _ _ _⟩
  by_cases hrp : v.toNat = 42 ∨ v.toNat = 43 ∨ v.toNat = 63 ∨ v.toNat = 123
  · have hr := Lib.hid (show r = .fault 44 i by rw [← hR.out]; simp [h94, h36, hrp])
    rcases hrp with h | h | h | h
    · skip
      have e94 : ((((v.toNat : Nat) : Int)) == 94) = false := beq_eq_false_iff_ne.2 (by omega)
      have e36 : ((((v.toNat : Nat) : Int)) == 36) = false := beq_eq_false_iff_ne.2 (by omega)
      have e42 : ((((v.toNat : Nat) : Int)) == 42) = true := beq_iff_eq.2 (by omega)
      go_wp2_with (go_at_call 40; refine (give_any 44 i _).mono ?_; rintro e w9 ⟨hfe, hB9⟩; unfold faultE at hfe; subst hfe)
      rw [hr.out]
      exact ⟨rfl, hT2.then_ hB9, rfl⟩
    · skip
      have e94 : ((((v.toNat : Nat) : Int)) == 94) = false := beq_eq_false_iff_ne.2 (by omega)
      have e36 : ((((v.toNat : Nat) : Int)) == 36) = false := beq_eq_false_iff_ne.2 (by omega)
      have e42 : ((((v.toNat : Nat) : Int)) == 42) = false := beq_eq_false_iff_ne.2 (by omega)
      have e43 : ((((v.toNat : Nat) : Int)) == 43) = true := beq_iff_eq.2 (by omega)
      go_wp2_with (go_at_call 40; refine (give_any 44 i _).mono ?_; rintro e w9 ⟨hfe, hB9⟩; unfold faultE at hfe; subst hfe)
      rw [hr.out]
      exact ⟨rfl, hT2.then_ hB9, rfl⟩
    · skip
      have e94 : ((((v.toNat : Nat) : Int)) == 94) = false := beq_eq_false_iff_ne.2 (by omega)
      have e36 : ((((v.toNat : Nat) : Int)) == 36) = false := beq_eq_false_iff_ne.2 (by omega)
      have e42 : ((((v.toNat : Nat) : Int)) == 42) = false := beq_eq_false_iff_ne.2 (by omega)
      have e43 : ((((v.toNat : Nat) : Int)) == 43) = false := beq_eq_false_iff_ne.2 (by omega)
      have e63 : ((((v.toNat : Nat) : Int)) == 63) = true := beq_iff_eq.2 (by omega)
      go_wp2_with (go_at_call 40; refine (give_any 44 i _).mono ?_; rintro e w9 ⟨hfe, hB9⟩; unfold faultE at hfe; subst hfe)
      rw [hr.out]
      exact ⟨rfl, hT2.then_ hB9, rfl⟩
    · skip
      have e94 : ((((v.toNat : Nat) : Int)) == 94) = false := beq_eq_false_iff_ne.2 (by omega)
      have e36 : ((((v.toNat : Nat) : Int)) == 36) = false := beq_eq_false_iff_ne.2 (by omega)
      have e42 : ((((v.toNat : Nat) : Int)) == 42) = false := beq_eq_false_iff_ne.2 (by omega)
      have e43 : ((((v.toNat : Nat) : Int)) == 43) = false := beq_eq_false_iff_ne.2 (by omega)
      have e63 : ((((v.toNat : Nat) : Int)) == 63) = false := beq_eq_false_iff_ne.2 (by omega)
      have e123 : ((((v.toNat : Nat) : Int)) == 123) = true := beq_iff_eq.2 (by omega)
      go_wp2_with (go_at_call 40; refine (give_any 44 i _).mono ?_; rintro e w9 ⟨hfe, hB9⟩; unfold faultE at hfe; subst hfe)
      rw [hr.out]
      exact ⟨rfl, hT2.then_ hB9, rfl⟩
  have hR3 := hR.out
  rw [if_neg h94, if_neg h36, if_neg hrp] at hR3
  replace hR3 := Lib.hid hR3
  by_cases h40 : v.toNat = 40
  · skip
    have e94 : ((((v.toNat : Nat) : Int)) == 94) = false := beq_eq_false_iff_ne.2 (by omega)
    have e36 : ((((v.toNat : Nat) : Int)) == 36) = false := beq_eq_false_iff_ne.2 (by omega)
    have e42 : ((((v.toNat : Nat) : Int)) == 42) = false := beq_eq_false_iff_ne.2 (by omega)
    have e43 : ((((v.toNat : Nat) : Int)) == 43) = false := beq_eq_false_iff_ne.2 (by omega)
    have e63 : ((((v.toNat : Nat) : Int)) == 63) = false := beq_eq_false_iff_ne.2 (by omega)
    have e123 : ((((v.toNat : Nat) : Int)) == 123) = false := beq_eq_false_iff_ne.2 (by omega)
    have e40 : ((((v.toNat : Nat) : Int)) == 40) = true := beq_iff_eq.2 (by omega)
    have hR4 := hR3.out
    rw [if_pos h40] at hR4
    cases n with
    | zero =>
      have hi0 := hin.out
      simp only at hi0
      subst hi0
      have hr := Lib.hid (show r = .fault 47 i by rw [← hR4])
      have hgI : (((gr : Nat) : Int) == 64) = true := beq_iff_eq.2 (by have := hgr.out; omega)
      clear hR4
      go_wp2_with (go_at_call 40; refine (give_any 47 i _).mono ?_; rintro e w9 ⟨hfe, hB9⟩; unfold faultE at hfe; subst hfe)
      rw [hr.out]
      exact ⟨rfl, hT2.then_ hB9, rfl⟩
    | succ n =>
      obtain ⟨hPO, hi0, hfw⟩ := hin.out
      subst hi0
      simp only at hR4
      have hgI : (((gr : Nat) : Int) == 64) = false := beq_eq_false_iff_ne.2 (by have := hgr.out; omega)
      have hgI2 : (gr : Int) ≤ 64 := by have := hgr.out; omega
      have kP := hPO (gr + 1) (by have := hgr.out; omega) g (i + 1) w2 hP2 (by omega) hp hM2 hwb.out.2.2.1
      rw [show ((gr + 1 : Nat) : Int) = (gr : Int) + 1 from rfl] at kP
      have hfw2 := fun t j => hfw (i + 1) t j (by omega)
      obtain ⟨rp, hrp2⟩ : ∃ r, Ere.patR p n (i + 1) = r := ⟨_, rfl⟩
      rw [hrp2] at hR4 kP hfw2
      clear hrp2 hPO hfw hin
      cases rp with
      | fault e0 k0 =>
        have hr := Lib.hid (show r = .fault e0 k0 by rw [← hR4]; rfl)
        clear hR4 hfw2
        go_wp2_with (go_at_call 39; refine kP.mono ?_; rintro e w9 ⟨hT9, hfe⟩; unfold faultE at hfe; subst hfe)
        rw [hr.out]
        exact ⟨rfl, hT2.trans hT9, rfl⟩
      | got t j =>
        have hj := hfw2 t j rfl
        simp only [Ere.Res.bind] at hR4
        clear hfw2
        replace hR4 := Lib.hid hR4
        have hjI : (j : Int) ≤ 1024 := by omega
        replace hj := Lib.hid hj
        go_upto_region 21 with (first | (go_at_call 39; refine kP.mono ?_; rintro e w3 ⟨hT3, hP3, x, bs, rfl, hO3⟩) | (refine wl_store_nv rfl _ _ rfl _ x rfl rfl _ rfl (Blk.new _ _ zeroC) ?_; intro w4 h7 hg7))
        have hB4 : Below w3.heap.size w3 w4 := below_grown (below_alloc (Below.refl w3.heap.size w3) (.cells zeroC 27)) hg7 (Nat.le_refl _)
        have hT4 := (hT2.trans hT3).then_ hB4
        have hP4 := blk_then hP3 hB4
        have hO4 := hO3.then_ hB4
        have h44 := blk_then (blk_turn h42 hT3 (by have := hwb.out; omega)) hB4
        have hs3 := hT3.size
        obtain ⟨g7, hg7e⟩ : ∃ y, y = w3.heap.size := ⟨_, rfl⟩
        rw [← hg7e] at h7 ⊢
        have hw7 := Lib.hid (show g7 ≠ g ∧ g7 ≠ g4 ∧ w.heap.size ≤ g7 ∧ g4 < w2.heap.size ∧ g < w2.heap.size ∧ w2.heap.size ≤ g7 by have := hw3.out; have := hs3; omega)
        have hOb := fun b hb => (hO3.lt b hb).2
        rw [← hg7e] at hOb
        clear hg7e hg7 hB4 hT3 hP3 hO3 kP
        have kM := more_any g p j w4 hP4
        by_cases hjs : j < p.size
        · rw [decide_eq_true hjs] at kM
          have hR5 := hR4.out
          rw [if_neg (by omega)] at hR5
          obtain ⟨rr, hrr⟩ : ∃ q, Ere.repeatR p t (j + 1) = q := ⟨_, rfl⟩
          rw [hrr] at hR5
          have hr := Lib.hid hR5.symm
          go_upto_region 23 with (go_at_call 66; refine kM.mono ?_; rintro e w5 ⟨rfl, hB5⟩)
          clear kM hR5
          replace hT4 := hT4.then_ hB5
          replace hP4 := blk_then hP4 hB5
          replace hO4 := hO4.then_ hB5
          replace h44 := blk_then h44 hB5
          replace h7 := blk_then h7 hB5
          have hs5 : w2.heap.size ≤ w5.heap.size := by have := h7.lt; have := hw7.out; omega
          replace hs5 := Lib.hid hs5
          replace hrr := Lib.hid hrr
          replace hOb := Lib.hid hOb
          clear hs3 hB5
          have c1 : w5.cell? ⟨g, 1, none⟩ = some (.int .i64 (j : Int)) := hP4.cellv rfl
          have f1 := hP4.frozen 1
          go_upto_region 24 with (fail)
          have hP6 := setRd hP4 (v := .int .i64 ((j : Int) + 1)) (j := j + 1) (by congr 1)
          have hTq := turnRd hT4 1 (.int .i64 ((j : Int) + 1))
          have hO6 := hO4.turn (turnRd (Turn.refl g (g + 1) w5) 1 (.int .i64 ((j : Int) + 1))) hw7.out.2.2.2.2.1
          have h4q := h44.far (p := ⟨g, 1, none⟩) (by have := hwb.out; simp; omega) (.int .i64 ((j : Int) + 1))
          have h76 := h7.far (p := ⟨g, 1, none⟩) (by have := hw7.out; simp; omega) (.int .i64 ((j : Int) + 1))
          obtain ⟨w6, hw6⟩ : ∃ y, y = w5.setCell ⟨g, 1, none⟩ (.int .i64 ((j : Int) + 1)) := ⟨_, rfl⟩
          have hs6 : w6.heap.size = w5.heap.size := by rw [hw6]; simp [World.setCell]
          rw [← hw6] at hP6 hTq hO6 h4q h76 ⊢
          have hBq := Lib.hid (show g4 < w2.heap.size ∧ g < w2.heap.size ∧ w.heap.size ≤ w2.heap.size from hw3.out)
          have kR := repeat_any g p (j + 1) w2.heap.size t x bs w6 hP6 (by omega) hO6 hw3.out.2.1 (by have := hs5.out; omega)
          rw [hrr.out] at kR
          clear hw6 hs6 c1 f1 hP4 hT4 hO4 h44 h7
          cases rr with
          | fault e0 k0 =>
            go_wp2_with (first | (refine wl_load_nv rfl _ rfl g7 rfl x h76 ?_) | (go_at_call 77; refine (kR).mono ?_; rintro e wr ⟨hTr, hfe⟩; unfold faultE at hfe; subst hfe))
            rw [hr.out]
            exact ⟨rfl, hTq.trans hTr, rfl⟩
          | got u k =>
            go_wp2_with (first | (refine wl_load_nv rfl _ rfl g7 rfl x h76 ?_) | (go_at_call 77; refine (kR).mono ?_; rintro e wr ⟨hTr, hPr, x2, bs2, rfl, hO⟩; have h4r := blk_turn h4q hTr (by have := hwb.out; omega)) | (refine wl_store_nv rfl _ _ rfl g4 x2 rfl rfl _ rfl h4r ?_; intro wz hz hgz))
            refine ret_nv rfl rfl hz rfl ?_
            rw [hr.out]
            exact ⟨(hTq.trans hTr).grown hgz (fun q e => by injection e with e; have := hwb.out; right; omega), hPr.grown hgz (fun e => by injection e with e; have := hwb.out; omega), x2, bs2, rfl, (hO.mono hBq.out.2.2).keep (fun b hb => hgz.block b (hO.lt b hb).2 (fun e => by injection e with e; have := (hO.lt b hb).1; have := hBq.out; omega))⟩
        · rw [decide_eq_false hjs] at kM
          have hr := Lib.hid (show r = .fault 42 i by rw [← hR4.out, if_pos (by omega)])
          go_wp2_with (first | (go_at_call 66; refine kM.mono ?_; rintro e w5 ⟨rfl, hB5⟩) | (go_at_call 40; refine (give_any 42 i _).mono ?_; rintro e w9 ⟨hfe, hB9⟩; unfold faultE at hfe; subst hfe))
          rw [hr.out]
          exact ⟨rfl, (hT4.then_ hB5).then_ hB9, rfl⟩
  by_cases h91 : v.toNat = 91
  · skip
    have e94 : ((((v.toNat : Nat) : Int)) == 94) = false := beq_eq_false_iff_ne.2 (by omega)
    have e36 : ((((v.toNat : Nat) : Int)) == 36) = false := beq_eq_false_iff_ne.2 (by omega)
    have e42 : ((((v.toNat : Nat) : Int)) == 42) = false := beq_eq_false_iff_ne.2 (by omega)
    have e43 : ((((v.toNat : Nat) : Int)) == 43) = false := beq_eq_false_iff_ne.2 (by omega)
    have e63 : ((((v.toNat : Nat) : Int)) == 63) = false := beq_eq_false_iff_ne.2 (by omega)
    have e123 : ((((v.toNat : Nat) : Int)) == 123) = false := beq_eq_false_iff_ne.2 (by omega)
    have e40 : ((((v.toNat : Nat) : Int)) == 40) = false := beq_eq_false_iff_ne.2 (by omega)
    have e91 : ((((v.toNat : Nat) : Int)) == 91) = true := beq_iff_eq.2 (by omega)
    have hR4 := hR3.out
    rw [if_neg h40, if_pos h91] at hR4
    have kS := rset_any g p (i + 1) i w2 hP2 (by omega) hp hM2 hwb.out.2.2.1
    have hfw := fun t j => Ere.setR_fwd (p := p) (s := i) (i := i + 1) (t := t) (j := j)
    obtain ⟨rs, hrs⟩ : ∃ r, Ere.setR p i (i + 1) = r := ⟨_, rfl⟩
    rw [hrs] at hR4 kS hfw
    clear hrs
    cases rs with
    | fault e0 k0 =>
      have hr := Lib.hid (show r = .fault e0 k0 by rw [← hR4]; rfl)
      clear hR4 hfw
      go_wp2_with (go_at_call 78; refine kS.mono ?_; rintro e w9 ⟨hT9, hfe⟩; unfold faultE at hfe; subst hfe)
      rw [hr.out]
      exact ⟨rfl, hT2.trans hT9, rfl⟩
    | got t j =>
      have hj := hfw t j rfl
      simp only [Ere.Res.bind] at hR4
      obtain ⟨rr, hrr⟩ : ∃ q, Ere.repeatR p t j = q := ⟨_, rfl⟩
      rw [hrr] at hR4
      have hr := Lib.hid hR4.symm
      clear hR4 hfw
      replace hrr := Lib.hid hrr
      have hBq := Lib.hid (show g4 < w2.heap.size ∧ g < w2.heap.size ∧ w.heap.size ≤ w2.heap.size from hw3.out)
      have hj2 := Lib.hid (show j ≤ 2000 by omega)
      have kR : ∀ (x : NV) (bs : List Nat) (w3 : World), Turn g (g + 1) w2 w3 → Blk w3 g 76 (rdC p j) → NdO w3 w2.heap.size t x bs → Calls Try.prog 77 #[.pointer (some ⟨g, 0, none⟩), .agg x.C] w3 fun e w' => NdAns g p w3 w2.heap.size rr e w' := fun x bs w3 hT3 hP3 hO3 => by
        rw [← hrr.out]
        exact repeat_any g p j w2.heap.size t x bs w3 hP3 hj2.out hO3 hBq.out.2.1 hT3.size
      replace kR := Lib.hid kR
      clear hj
      cases rr with
      | fault e0 k0 =>
        go_wp2_with (first | (go_at_call 78; refine kS.mono ?_; rintro e w3 ⟨hT3, hP3, x, bs, rfl, hO3⟩; have hTq := hT2.trans hT3; have h4q := blk_turn h42 hT3 (by have := hwb.out; omega)) | (go_at_call 77; refine (kR.out x bs w3 hT3 hP3 hO3).mono ?_; rintro e wr ⟨hTr, hfe⟩; unfold faultE at hfe; subst hfe))
        rw [hr.out]
        exact ⟨rfl, hTq.trans hTr, rfl⟩
      | got u k =>
        go_wp2_with (first | (go_at_call 78; refine kS.mono ?_; rintro e w3 ⟨hT3, hP3, x, bs, rfl, hO3⟩; have hTq := hT2.trans hT3; have h4q := blk_turn h42 hT3 (by have := hwb.out; omega)) | (go_at_call 77; refine (kR.out x bs w3 hT3 hP3 hO3).mono ?_; rintro e wr ⟨hTr, hPr, x2, bs2, rfl, hO⟩; have h4r := blk_turn h4q hTr (by have := hwb.out; omega)) | (refine wl_store_nv rfl _ _ rfl g4 x2 rfl rfl _ rfl h4r ?_; intro wz hz hgz))
        refine ret_nv rfl rfl hz rfl ?_
        rw [hr.out]
        exact ⟨(hTq.trans hTr).grown hgz (fun q e => by injection e with e; have := hwb.out; right; omega), hPr.grown hgz (fun e => by injection e with e; have := hwb.out; omega), x2, bs2, rfl, (hO.mono hBq.out.2.2).keep (fun b hb => hgz.block b (hO.lt b hb).2 (fun e => by injection e with e; have := (hO.lt b hb).1; have := hBq.out; omega))⟩
  by_cases h46 : v.toNat = 46
  · skip
    have e94 : ((((v.toNat : Nat) : Int)) == 94) = false := beq_eq_false_iff_ne.2 (by omega)
    have e36 : ((((v.toNat : Nat) : Int)) == 36) = false := beq_eq_false_iff_ne.2 (by omega)
    have e42 : ((((v.toNat : Nat) : Int)) == 42) = false := beq_eq_false_iff_ne.2 (by omega)
    have e43 : ((((v.toNat : Nat) : Int)) == 43) = false := beq_eq_false_iff_ne.2 (by omega)
    have e63 : ((((v.toNat : Nat) : Int)) == 63) = false := beq_eq_false_iff_ne.2 (by omega)
    have e123 : ((((v.toNat : Nat) : Int)) == 123) = false := beq_eq_false_iff_ne.2 (by omega)
    have e40 : ((((v.toNat : Nat) : Int)) == 40) = false := beq_eq_false_iff_ne.2 (by omega)
    have e91 : ((((v.toNat : Nat) : Int)) == 91) = false := beq_eq_false_iff_ne.2 (by omega)
    have e46 : ((((v.toNat : Nat) : Int)) == 46) = true := beq_iff_eq.2 (by omega)
    have hR4 := hR3.out
    rw [if_neg h40, if_neg h91, if_pos h46] at hR4
    obtain ⟨rr, hrr⟩ : ∃ q, Ere.repeatR p (Ere.setN (notB 0)) (i + 1) = q := ⟨_, rfl⟩
    rw [hrr] at hR4
    have hr := Lib.hid hR4.symm
    clear hR4
    replace hrr := Lib.hid hrr
    have hBq := Lib.hid (show g4 < w2.heap.size ∧ g < w2.heap.size ∧ w.heap.size ≤ w2.heap.size from hw3.out)
    have kR : ∀ (w3 : World), Below w2.heap.size w2 w3 → Calls Try.prog 77 #[.pointer (some ⟨g, 0, none⟩), .agg (NV.mk 2 (notB 0 &&& notB 0) none 0 0 0 0).C] w3 fun e w' => NdAns g p w3 w2.heap.size rr e w' := fun w3 hB3 => by
      rw [← hrr.out]
      exact repeat_any g p (i + 1) w2.heap.size (Ere.setN (notB 0)) _ [] w3 (blk_then hP2 hB3) (by omega) (NdO.leaf _ _ _ _ _ _) hBq.out.2.1 hB3.size
    replace kR := Lib.hid kR
    have kN := not_any 0 w2
    cases rr with
    | fault e0 k0 =>
      go_wp2_with (first | (refine wl_build_set0 rfl rfl ?_) | (go_at_call 80; refine kN.mono ?_; rintro e w3 ⟨rfl, hB3⟩) | (go_at_call 79; refine (nset_any (notB 0) w3).mono ?_; rintro e w5 ⟨rfl, hB5⟩; have hB53 := below_then hB3 hB5; have hTq := hT2.then_ hB53; have h4q := blk_then h42 hB53) | (go_at_call 77; refine (kR.out w5 hB53).mono ?_; rintro e wr ⟨hTr, hfe⟩; unfold faultE at hfe; subst hfe))
      rw [hr.out]
      exact ⟨rfl, hTq.trans hTr, rfl⟩
    | got u k =>
      go_wp2_with (first | (refine wl_build_set0 rfl rfl ?_) | (go_at_call 80; refine kN.mono ?_; rintro e w3 ⟨rfl, hB3⟩) | (go_at_call 79; refine (nset_any (notB 0) w3).mono ?_; rintro e w5 ⟨rfl, hB5⟩; have hB53 := below_then hB3 hB5; have hTq := hT2.then_ hB53; have h4q := blk_then h42 hB53) | (go_at_call 77; refine (kR.out w5 hB53).mono ?_; rintro e wr ⟨hTr, hPr, x2, bs2, rfl, hO⟩; have h4r := blk_turn h4q hTr (by have := hwb.out; omega)) | (refine wl_store_nv rfl _ _ rfl g4 x2 rfl rfl _ rfl h4r ?_; intro wz hz hgz))
      refine ret_nv rfl rfl hz rfl ?_
      rw [hr.out]
      exact ⟨(hTq.trans hTr).grown hgz (fun q e => by injection e with e; have := hwb.out; right; omega), hPr.grown hgz (fun e => by injection e with e; have := hwb.out; omega), x2, bs2, rfl, (hO.mono hBq.out.2.2).keep (fun b hb => hgz.block b (hO.lt b hb).2 (fun e => by injection e with e; have := (hO.lt b hb).1; have := hBq.out; omega))⟩
  have hR4 := hR3.out
  rw [if_neg h40, if_neg h91, if_neg h46] at hR4
  by_cases h92 : v.toNat = 92
  · skip
    have e94 : ((((v.toNat : Nat) : Int)) == 94) = false := beq_eq_false_iff_ne.2 (by omega)
    have e36 : ((((v.toNat : Nat) : Int)) == 36) = false := beq_eq_false_iff_ne.2 (by omega)
    have e42 : ((((v.toNat : Nat) : Int)) == 42) = false := beq_eq_false_iff_ne.2 (by omega)
    have e43 : ((((v.toNat : Nat) : Int)) == 43) = false := beq_eq_false_iff_ne.2 (by omega)
    have e63 : ((((v.toNat : Nat) : Int)) == 63) = false := beq_eq_false_iff_ne.2 (by omega)
    have e123 : ((((v.toNat : Nat) : Int)) == 123) = false := beq_eq_false_iff_ne.2 (by omega)
    have e40 : ((((v.toNat : Nat) : Int)) == 40) = false := beq_eq_false_iff_ne.2 (by omega)
    have e91 : ((((v.toNat : Nat) : Int)) == 91) = false := beq_eq_false_iff_ne.2 (by omega)
    have e46 : ((((v.toNat : Nat) : Int)) == 46) = false := beq_eq_false_iff_ne.2 (by omega)
    have e92 : ((((v.toNat : Nat) : Int)) == 92) = true := beq_iff_eq.2 (by omega)
    rw [if_pos h92] at hR4
    have kO1 := one_any g p ⟨#[46, 91, 93, 40, 41, 42, 43, 63, 123, 125, 124, 94, 36, 92, 47, 45]⟩ (i + 1) (i + 1) w2 hP2
    rw [show (List.map UInt8.toNat (⟨#[46, 91, 93, 40, 41, 42, 43, 63, 123, 125, 124, 94, 36, 92, 47, 45]⟩ : ByteArray).data.toList) = Ere.marks from rfl, show ((i + 1 : Nat) : Int) = (i : Int) + 1 from rfl] at kO1
    obtain ⟨bo, hbo⟩ : ∃ b, Ere.oneOf p (i + 1) Ere.marks = b := ⟨_, rfl⟩
    rw [hbo] at kO1 hR4
    have c1 : w2.cell? ⟨g, 1, none⟩ = some (.int .i64 ((i : Int) + 1)) := hP2.cellv (by simp [rdC])
    cases bo with
    | false =>
      have hr := Lib.hid (show r = .fault 46 i by rw [← hR4]; simp)
      clear hR4 hbo
      go_wp2_with (first | (go_at_call 81; refine kO1.mono ?_; rintro e w5 ⟨rfl, hB5⟩) | (go_at_call 40; refine (give_any 46 i _).mono ?_; rintro e w9 ⟨hfe, hB9⟩; unfold faultE at hfe; subst hfe))
      rw [hr.out]
      exact ⟨rfl, (hT2.then_ hB5).then_ hB9, rfl⟩
    | true =>
      have hi1 : i + 1 < p.size := by
        unfold Ere.oneOf at hbo
        simp only [Bool.and_eq_true, decide_eq_true_eq] at hbo
        exact hbo.1
      rw [if_pos rfl] at hR4
      have hch2 : Ere.chr p (i + 1) = p[i + 1].toNat := by unfold Ere.chr; rw [dif_pos hi1]
      rw [hch2] at hR4
      obtain ⟨j, hj⟩ : ∃ j, j = i + 1 := ⟨_, rfl⟩
      have hij : (i : Int) + 1 = (j : Int) := by omega
      have hj2 : i + 2 = j + 1 := by omega
      have hjl : j < p.size := by omega
      have hpj : p[i + 1] = p[j]'hjl := by congr 1; exact hj.symm
      rw [hj2, hpj] at hR4
      rw [hij] at c1 kO1
      rw [← hj] at hP2
      have hjI : (j : Int) < p.size := by omega
      have hj0 : ¬ (j : Int) < 0 := by omega
      obtain ⟨v2, hv2⟩ : ∃ v, p[j] = v := ⟨_, rfl⟩
      rw [hv2] at hR4
      replace hv2 := Lib.hid hv2
      replace hij := Lib.hid hij
      clear hbo hch2 hj hj2 hpj
      obtain ⟨rr, hrr⟩ : ∃ q, Ere.repeatR p (Ere.setN (bit v2.toNat)) (j + 1) = q := ⟨_, rfl⟩
      rw [hrr] at hR4
      replace hR4 := Lib.hid hR4
      go_upto_region 27 with (fail)
      rw [hij.out]
      go_upto_region 29 with (go_at_call 81; refine kO1.mono ?_; rintro e w5 ⟨rfl, hB5⟩)
      have hT5 := hT2.then_ hB5
      have hP5 := blk_then hP2 hB5
      have h45 := blk_then h42 hB5
      have hs5 := Lib.hid hB5.size
      clear hT2 hP2 h42 hB5 kO1 c1 hM2
      have c1 : w5.cell? ⟨g, 1, none⟩ = some (.int .i64 (j : Int)) := hP5.cellv rfl
      have f1 := hP5.frozen 1
      go_upto_region 31 with (fail)
      have hP2 := setRd hP5 (v := .int .i64 ((j : Int) + 1)) (j := j + 1) (by congr 1)
      have hT2 := turnRd hT5 1 (.int .i64 ((j : Int) + 1))
      have h42 := h45.far (p := ⟨g, 1, none⟩) (by have := hwb.out; simp; omega) (.int .i64 ((j : Int) + 1))
      obtain ⟨w8, hw8⟩ : ∃ y, y = w5.setCell ⟨g, 1, none⟩ (.int .i64 ((j : Int) + 1)) := ⟨_, rfl⟩
      have hs8 : w8.heap.size = w5.heap.size := by rw [hw8]; simp [World.setCell]
      rw [← hw8] at hP2 hT2 h42 ⊢
      have hw3b := Lib.hid (show g4 < w8.heap.size ∧ g < w8.heap.size ∧ w.heap.size ≤ w8.heap.size by have := hw3.out; have := hs5.out; omega)
      clear hw8 hs8 hs5 c1 f1 hP5 hT5 h45 hw3 hR hR3
      replace hR4 := hR4.out
      have hr := Lib.hid hR4.symm
      clear hR4
      replace hrr := Lib.hid hrr
      have hBq := Lib.hid (show g4 < w8.heap.size ∧ g < w8.heap.size ∧ w.heap.size ≤ w8.heap.size from hw3b.out)
      have kR : ∀ (w3 : World), Below w8.heap.size w8 w3 → Calls Try.prog 77 #[.pointer (some ⟨g, 0, none⟩), .agg (NV.mk 2 (bit v2.toNat &&& notB 0) none 0 0 0 0).C] w3 fun e w' => NdAns g p w3 w8.heap.size rr e w' := fun w3 hB3 => by
        rw [← hrr.out]
        exact repeat_any g p (j + 1) w8.heap.size (Ere.setN (bit v2.toNat)) _ [] w3 (blk_then hP2 hB3) (by omega) (NdO.leaf _ _ _ _ _ _) hBq.out.2.1 hB3.size
      replace kR := Lib.hid kR
      have kO := of_any (some ⟨w8.heap.size, 0, none⟩) 1 1 [v2] (w8.alloc (.cells #[.int .u8 (((v2).toNat : Nat) : Int)] 5)) rfl (by unfold maxLen; omega) (bytes_of_blk (l := [v2]) (Blk.new w8 5 #[.int .u8 (((v2).toNat : Nat) : Int)]))
      rw [ofB_one] at kO
      have hBo := Lib.hid (below_alloc (Below.refl w8.heap.size w8) (.cells #[.int .u8 (((v2).toNat : Nat) : Int)] 5))
      have c0 : w8.cell? ⟨g, 0, none⟩ = some (.string p) := hP2.cellv rfl
      have hv2q := hv2.out
      cases rr with
      | fault e0 k0 =>
        go_wp2_with (first | (go_at_call 82; refine kO.mono ?_; rintro e w3 ⟨rfl, hB3⟩; have hB30 := below_then hBo.out hB3) | (go_at_call 79; refine (nset_any (bit (v2).toNat) w3).mono ?_; rintro e w5 ⟨rfl, hB5⟩; have hB53 := below_then hB30 hB5; have hTq := hT2.then_ hB53; have h4q := blk_then h42 hB53) | (go_at_call 77; refine (kR.out w5 hB53).mono ?_; rintro e wr ⟨hTr, hfe⟩; unfold faultE at hfe; subst hfe))
        rw [hr.out]
        exact ⟨rfl, hTq.trans hTr, rfl⟩
      | got u k =>
        go_wp2_with (first | (go_at_call 82; refine kO.mono ?_; rintro e w3 ⟨rfl, hB3⟩; have hB30 := below_then hBo.out hB3) | (go_at_call 79; refine (nset_any (bit (v2).toNat) w3).mono ?_; rintro e w5 ⟨rfl, hB5⟩; have hB53 := below_then hB30 hB5; have hTq := hT2.then_ hB53; have h4q := blk_then h42 hB53) | (go_at_call 77; refine (kR.out w5 hB53).mono ?_; rintro e wr ⟨hTr, hPr, x2, bs2, rfl, hO⟩; have h4r := blk_turn h4q hTr (by have := hwb.out; omega)) | (refine wl_store_nv rfl _ _ rfl g4 x2 rfl rfl _ rfl h4r ?_; intro wz hz hgz))
        refine ret_nv rfl rfl hz rfl ?_
        rw [hr.out]
        exact ⟨(hTq.trans hTr).grown hgz (fun q e => by injection e with e; have := hwb.out; right; omega), hPr.grown hgz (fun e => by injection e with e; have := hwb.out; omega), x2, bs2, rfl, (hO.mono hBq.out.2.2).keep (fun b hb => hgz.block b (hO.lt b hb).2 (fun e => by injection e with e; have := (hO.lt b hb).1; have := hBq.out; omega))⟩
  have e94 : ((((v.toNat : Nat) : Int)) == 94) = false := beq_eq_false_iff_ne.2 (by omega)
  have e36 : ((((v.toNat : Nat) : Int)) == 36) = false := beq_eq_false_iff_ne.2 (by omega)
  have e42 : ((((v.toNat : Nat) : Int)) == 42) = false := beq_eq_false_iff_ne.2 (by omega)
  have e43 : ((((v.toNat : Nat) : Int)) == 43) = false := beq_eq_false_iff_ne.2 (by omega)
  have e63 : ((((v.toNat : Nat) : Int)) == 63) = false := beq_eq_false_iff_ne.2 (by omega)
  have e123 : ((((v.toNat : Nat) : Int)) == 123) = false := beq_eq_false_iff_ne.2 (by omega)
  have e40 : ((((v.toNat : Nat) : Int)) == 40) = false := beq_eq_false_iff_ne.2 (by omega)
  have e91 : ((((v.toNat : Nat) : Int)) == 91) = false := beq_eq_false_iff_ne.2 (by omega)
  have e46 : ((((v.toNat : Nat) : Int)) == 46) = false := beq_eq_false_iff_ne.2 (by omega)
  have e92 : ((((v.toNat : Nat) : Int)) == 92) = false := beq_eq_false_iff_ne.2 (by omega)
  rw [if_neg h92] at hR4
  obtain ⟨rr, hrr⟩ : ∃ q, Ere.repeatR p (Ere.setN (bit v.toNat)) (i + 1) = q := ⟨_, rfl⟩
  rw [hrr] at hR4
  have hr := Lib.hid hR4.symm
  clear hR4
  replace hrr := Lib.hid hrr
  have hBq := Lib.hid (show g4 < w2.heap.size ∧ g < w2.heap.size ∧ w.heap.size ≤ w2.heap.size from hw3.out)
  have kR : ∀ (w3 : World), Below w2.heap.size w2 w3 → Calls Try.prog 77 #[.pointer (some ⟨g, 0, none⟩), .agg (NV.mk 2 (bit v.toNat &&& notB 0) none 0 0 0 0).C] w3 fun e w' => NdAns g p w3 w2.heap.size rr e w' := fun w3 hB3 => by
    rw [← hrr.out]
    exact repeat_any g p (i + 1) w2.heap.size (Ere.setN (bit v.toNat)) _ [] w3 (blk_then hP2 hB3) (by omega) (NdO.leaf _ _ _ _ _ _) hBq.out.2.1 hB3.size
  replace kR := Lib.hid kR
  have kO := of_any (some ⟨w2.heap.size, 0, none⟩) 1 1 [v] (w2.alloc (.cells #[.int .u8 (((v).toNat : Nat) : Int)] 5)) rfl (by unfold maxLen; omega) (bytes_of_blk (l := [v]) (Blk.new w2 5 #[.int .u8 (((v).toNat : Nat) : Int)]))
  rw [ofB_one] at kO
  have hBo := Lib.hid (below_alloc (Below.refl w2.heap.size w2) (.cells #[.int .u8 (((v).toNat : Nat) : Int)] 5))
  have c0 : w2.cell? ⟨g, 0, none⟩ = some (.string p) := hP2.cellv rfl
  have hvq := hv.out
  cases rr with
  | fault e0 k0 =>
    go_wp2_with (first | (go_at_call 82; refine kO.mono ?_; rintro e w3 ⟨rfl, hB3⟩; have hB30 := below_then hBo.out hB3) | (go_at_call 79; refine (nset_any (bit (v).toNat) w3).mono ?_; rintro e w5 ⟨rfl, hB5⟩; have hB53 := below_then hB30 hB5; have hTq := hT2.then_ hB53; have h4q := blk_then h42 hB53) | (go_at_call 77; refine (kR.out w5 hB53).mono ?_; rintro e wr ⟨hTr, hfe⟩; unfold faultE at hfe; subst hfe))
    rw [hr.out]
    exact ⟨rfl, hTq.trans hTr, rfl⟩
  | got u k =>
    go_wp2_with (first | (go_at_call 82; refine kO.mono ?_; rintro e w3 ⟨rfl, hB3⟩; have hB30 := below_then hBo.out hB3) | (go_at_call 79; refine (nset_any (bit (v).toNat) w3).mono ?_; rintro e w5 ⟨rfl, hB5⟩; have hB53 := below_then hB30 hB5; have hTq := hT2.then_ hB53; have h4q := blk_then h42 hB53) | (go_at_call 77; refine (kR.out w5 hB53).mono ?_; rintro e wr ⟨hTr, hPr, x2, bs2, rfl, hO⟩; have h4r := blk_turn h4q hTr (by have := hwb.out; omega)) | (refine wl_store_nv rfl _ _ rfl g4 x2 rfl rfl _ rfl h4r ?_; intro wz hz hgz))
    refine ret_nv rfl rfl hz rfl ?_
    rw [hr.out]
    exact ⟨(hTq.trans hTr).grown hgz (fun q e => by injection e with e; have := hwb.out; right; omega), hPr.grown hgz (fun e => by injection e with e; have := hwb.out; omega), x2, bs2, rfl, (hO.mono hBq.out.2.2).keep (fun b hb => hgz.block b (hO.lt b hb).2 (fun e => by injection e with e; have := (hO.lt b hb).1; have := hBq.out; omega))⟩
end Go.Proofs.Ytajainmldcnaeaa
