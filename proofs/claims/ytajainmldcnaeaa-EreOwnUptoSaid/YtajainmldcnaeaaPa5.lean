/- Part 5 of a proof; packed: the texts that it was made of follow one another. No condition beyond those named in each lemma. -/
import Derived.Test.YtajainmldcnaeaaPa3
import Derived.Test.YtajainmldcnaeaaPa4
namespace Go.Proofs.Ytajainmldcnaeaa
open Go.RowKit Go.Maps
set_option linter.unusedVariables false
set_option linter.unusedSimpArgs false
attribute [local go_sem] Oper.semAt_some

namespace Ere
theorem countsR_fwd {p : ByteArray} {i j : Nat} {c : Nat × Int} (h : countsR p i = .got c j) : i < j ∧ j < p.size := by
  have h1 := digits_le p 4 (i + 1) 0 0
  have h2 := digits_le p 4 ((digits p 4 (i + 1) 0 0).2.1 + 1) 0 0
  unfold countsR at h
  simp only at h
  split at h
  · split at h
    · rename_i h3
      injection h with _ h
      have := isAt_lt h3
      omega
    · split at h
      · cases h
      · rename_i h3
        injection h with _ h
        simp only [Bool.or_eq_true, Bool.not_eq_true', not_or, Bool.not_eq_false] at h3
        have := isAt_lt h3.1.2
        omega
  · split at h
    · cases h
    · rename_i h3
      injection h with _ h
      simp only [Bool.or_eq_true, Bool.not_eq_true', not_or, Bool.not_eq_false] at h3
      have := isAt_lt h3.2
      omega
theorem repeatR_fwd {p : ByteArray} {t u : Nd} {i j : Nat} (h : repeatR p t i = .got u j) (hi : i ≤ p.size) : i ≤ j ∧ j ≤ p.size := by
  unfold repeatR at h
  split at h
  · rename_i h3
    injection h with _ h
    have := isAt_lt h3
    omega
  split at h
  · rename_i h3
    injection h with _ h
    have := isAt_lt h3
    omega
  split at h
  · rename_i h3
    injection h with _ h
    have := isAt_lt h3
    omega
  split at h
  · cases hc : countsR p i with
    | fault e k => rw [hc] at h; cases h
    | got c k =>
      rw [hc] at h
      injection h with _ h
      have := countsR_fwd hc
      omega
  · injection h with _ h
    omega
theorem setR_fwd {p : ByteArray} {s i j : Nat} {t : Nd} (h : setR p s i = .got t j) : i < j ∧ j ≤ p.size := by
  unfold setR at h
  cases hc : itemsR p s (p.size + 2) true (if isAt p i 94 then i + 1 else i) 0 with
  | fault e k => rw [hc] at h; cases h
  | got c k =>
    rw [hc] at h
    injection h with _ h
    have := itemsR_fwd _ _ _ _ _ _ hc
    split at this <;> omega
theorem pieceR_fwd {p : ByteArray} {inner : Option (Nat → Res Nd)} (hin : ∀ f, inner = some f → ∀ i t j, i ≤ p.size → f i = .got t j → i ≤ j ∧ j ≤ p.size) {i j : Nat} {t : Nd} (h : pieceR p inner i = .got t j) (hi : i < p.size) : i < j ∧ j ≤ p.size := by
  unfold pieceR at h
  simp only at h
  split at h
  · injection h with _ h; omega
  split at h
  · injection h with _ h; omega
  split at h
  · cases h
  split at h
  · cases inner with
    | none => cases h
    | some f =>
      simp only at h
      cases hf : f (i + 1) with
      | fault e k => rw [hf] at h; cases h
      | got u k =>
        rw [hf] at h
        simp only [Res.bind] at h
        have h1 := hin f rfl (i + 1) u k (by omega) hf
        split at h
        · cases h
        · have := repeatR_fwd h (by omega)
          omega
  split at h
  · cases hf : setR p i (i + 1) with
    | fault e k => rw [hf] at h; cases h
    | got u k =>
      rw [hf] at h
      simp only [Res.bind] at h
      have h1 := setR_fwd hf
      have := repeatR_fwd h (by omega)
      omega
  split at h
  · have := repeatR_fwd h (by omega)
    omega
  split at h
  · split at h
    · rename_i h3
      unfold oneOf at h3
      simp only [Bool.and_eq_true, decide_eq_true_eq] at h3
      have := repeatR_fwd h (by omega)
      omega
    · cases h
  · have := repeatR_fwd h (by omega)
    omega
end Ere
/-- what the pattern within so many groups reads -/
def PatOk (p : ByteArray) (n : Nat) : Prop := ∀ (gr : Nat), gr + n = 64 → ∀ (g i : Nat) (w : World), Blk w g 76 (rdC p i) → i ≤ p.size → p.size ≤ 1024 → Mx w → 0 < g →
  Calls Try.prog 39 #[.pointer (some ⟨g, 0, none⟩), .int .i64 (gr : Int)] w fun e w' => NdAns g p w w.heap.size (Ere.patR p n i) e w'
theorem enter_repeat (args : Array Value) (w : World) : (callFunc 77 args).run Try.prog w = .ok (.enter 77 args) w := by kernel_rfl
set_option maxRecDepth 100000 in
set_option maxHeartbeats 8000000 in
theorem piece_any (n gr : Nat) (hgr : gr + n = 64) (inner : Option (Nat → Ere.Res Nd)) (g : Nat) (p : ByteArray) (i : Nat) (hin : match n with
      | 0 => inner = none
      | n + 1 => PatOk p n ∧ inner = some (Ere.patR p n) ∧ ∀ i t j, i ≤ p.size → Ere.patR p n i = .got t j → i ≤ j ∧ j ≤ p.size) (w : World) (hP : Blk w g 76 (rdC p i)) (hi : i < p.size) (hp : p.size ≤ 1024) (hM : Mx w) (h0 : 0 < g) :
    Calls Try.prog 67 #[.pointer (some ⟨g, 0, none⟩), .int .i64 (gr : Int)] w fun e w' => NdAns g p w w.heap.size (Ere.pieceR p inner i) e w' := by
  obtain ⟨r, hr0⟩ : ∃ r, Ere.pieceR p inner i = r := ⟨_, rfl⟩
  rw [hr0]
  have hR := hr0
  unfold Ere.pieceR at hR
  have hch : Ere.chr p i = p[i].toNat := by unfold Ere.chr; rw [dif_pos hi]
  simp only [hch] at hR
  obtain ⟨v, hv⟩ : ∃ v, p[i] = v := ⟨_, rfl⟩
  rw [hv] at hR
  clear hr0 hch
  have hv8 : v.toNat < 256 := v.toNat_lt
  have hT := Turn.refl g (g + 1) w
  have hgl := Lib.hid hP.lt
  have hpI : (p.size : Int) ≤ 1024 := by omega
  have hiI : (i : Int) < p.size := by omega
  have hi00 : ¬ (i : Int) < 0 := by omega
  replace hR := Lib.hid hR
  replace hv := Lib.hid hv
  replace hgr := Lib.hid hgr
  replace hin := Lib.hid hin
  go_enter Try.func67, Try.ntmps67
  have h4 : Blk (w.alloc (.cells zeroC 27)) w.heap.size 27 zeroC := Blk.new' _ _ _ rfl
  have hB1 : Below w.heap.size w (w.alloc (.cells zeroC 27)) := below_alloc (Below.refl _ _) _
  unfold zeroC at h4 hB1
  go_upto_region 1 with (fail)
  obtain ⟨w1, hw1⟩ : ∃ y, y = w.alloc (.cells zeroC 27) := ⟨_, rfl⟩
  unfold zeroC at hw1
  rw [← hw1] at h4 hB1 ⊢
  clear hw1
  replace hP := blk_then hP hB1
  replace hT := hT.then_ hB1
  replace hM := hM.then_ hB1
  have h4l := h4.lt
  obtain ⟨g4, hg4e⟩ : ∃ y, y = w.heap.size := ⟨_, rfl⟩
  have hwb := Lib.hid (show w.heap.size ≤ g4 ∧ g4 ≠ g ∧ 0 < g ∧ g < w.heap.size ∧ g4 < w1.heap.size ∧ g < w1.heap.size ∧ w.heap.size ≤ w1.heap.size by have := hgl.out; have := hB1.size; omega)
  rw [← hg4e] at h4 ⊢
  clear hg4e h0 h4l hB1
  have c0 : w1.cell? ⟨g, 0, none⟩ = some (.string p) := hP.cellv rfl
  have c1 : w1.cell? ⟨g, 1, none⟩ = some (.int .i64 (i : Int)) := hP.cellv rfl
  have f1 := hP.frozen 1
  go_upto_region 4 with (fail)
  rw [hv.out]
  have hP2 := setRd hP (v := .int .i64 ((i : Int) + 1)) (j := i + 1) (by congr 1)
  have hT2 := turnRd hT 1 (.int .i64 ((i : Int) + 1))
  have hM2 := hM.turn (turnRd (Turn.refl g (g + 1) w1) 1 (.int .i64 ((i : Int) + 1))) hwb.out.2.2.1
  have h42 := h4.far (p := ⟨g, 1, none⟩) (by have := hwb.out; simp; omega) (.int .i64 ((i : Int) + 1))
  obtain ⟨w2, hw2⟩ : ∃ y, y = w1.setCell ⟨g, 1, none⟩ (.int .i64 ((i : Int) + 1)) := ⟨_, rfl⟩
  have hs2 : w2.heap.size = w1.heap.size := by rw [hw2]; simp [World.setCell]
  rw [← hw2] at hP2 hT2 hM2 h42 ⊢
  have hw3 := Lib.hid (show g4 < w2.heap.size ∧ g < w2.heap.size ∧ w.heap.size ≤ w2.heap.size by have := hwb.out; omega)
  clear hw2 hs2 c0 c1 f1 hP hT h4 hM
  by_cases h94 : v.toNat = 94
  · skip
    have e94 : ((((v.toNat : Nat) : Int)) == 94) = true := beq_iff_eq.2 (by omega)
    have hr := Lib.hid (show r = .got (.mk 6 0 [] 0 0) (i + 1) by rw [← hR.out]; simp [h94])
    go_wp2_with (first | (refine wl_build_node rfl _ rfl ⟨6, 0, none, 0, 0, 0, 0⟩ #[(0, .int .i64 6)] rfl (fun w => build_leaf 6 w) ?_) | (refine wl_store_nv rfl _ _ rfl g4 ⟨6, 0, none, 0, 0, 0, 0⟩ rfl rfl _ rfl h42 ?_; intro wz hz hgz))
    refine ret_nv rfl rfl hz rfl ?_
    rw [hr.out]
    exact ⟨hT2.grown hgz (fun q e => by injection e with e; have := hwb.out; right; omega), hP2.grown hgz (fun e => by injection e with e; have := hwb.out; omega), _, [], rfl, NdO.leaf _ _ _ _ _ _⟩
  by_cases h36 : v.toNat = 36
  · skip
    have e94 : ((((v.toNat : Nat) : Int)) == 94) = false := beq_eq_false_iff_ne.2 (by omega)
    have e36 : ((((v.toNat : Nat) : Int)) == 36) = true := beq_iff_eq.2 (by omega)
    have hr := Lib.hid (show r = .got (.mk 7 0 [] 0 0) (i + 1) by rw [← hR.out]; simp [h36])
    go_wp2_with (first | (refine wl_build_node rfl _ rfl ⟨7, 0, none, 0, 0, 0, 0⟩ #[(0, .int .i64 7)] rfl (fun w => build_leaf 7 w) ?_) | (refine wl_store_nv rfl _ _ rfl g4 ⟨7, 0, none, 0, 0, 0, 0⟩ rfl rfl _ rfl h42 ?_; intro wz hz hgz))
    refine ret_nv rfl rfl hz rfl ?_
    rw [hr.out]
    exact ⟨hT2.grown hgz (fun q e => by injection e with e; have := hwb.out; right; omega), hP2.grown hgz (fun e => by injection e with e; have := hwb.out; omega), _, [], rfl, NdO.leaf _ _ _ _ _ _⟩
  by_cases hrp : v.toNat = 42 ∨ v.toNat = 43 ∨ v.toNat = 63 ∨ v.toNat = 123
  · have hr := Lib.hid (show r = .fault 44 i by rw [← hR.out]; simp [h94, h36, hrp])
    rcases hrp with h | h | h | h
    · skip
      have e94 : ((((v.toNat : Nat) : Int)) == 94) = false := beq_eq_false_iff_ne.2 (by omega)
      have e36 : ((((v.toNat : Nat) : Int)) == 36) = false := beq_eq_false_iff_ne.2 (by omega)
      have e42 : ((((v.toNat : Nat) : Int)) == 42) = true := beq_iff_eq.2 (by omega)
      go_wp2_with (go_at_call 40; refine (give_any 44 i _).mono ?_; rintro e w9 ⟨hfe, hB9⟩; unfold faultE at hfe; subst hfe)
      rw [hr.out]
      exact ⟨rfl, hT2.then_ hB9, rfl⟩
    · skip
      have e94 : ((((v.toNat : Nat) : Int)) == 94) = false := beq_eq_false_iff_ne.2 (by omega)
      have e36 : ((((v.toNat : Nat) : Int)) == 36) = false := beq_eq_false_iff_ne.2 (by omega)
      have e42 : ((((v.toNat : Nat) : Int)) == 42) = false := beq_eq_false_iff_ne.2 (by omega)
      have e43 : ((((v.toNat : Nat) : Int)) == 43) = true := beq_iff_eq.2 (by omega)
      go_wp2_with (go_at_call 40; refine (give_any 44 i _).mono ?_; rintro e w9 ⟨hfe, hB9⟩; unfold faultE at hfe; subst hfe)
      rw [hr.out]
      exact ⟨rfl, hT2.then_ hB9, rfl⟩
    · skip
      have e94 : ((((v.toNat : Nat) : Int)) == 94) = false := beq_eq_false_iff_ne.2 (by omega)
      have e36 : ((((v.toNat : Nat) : Int)) == 36) = false := beq_eq_false_iff_ne.2 (by omega)
      have e42 : ((((v.toNat : Nat) : Int)) == 42) = false := beq_eq_false_iff_ne.2 (by omega)
      have e43 : ((((v.toNat : Nat) : Int)) == 43) = false := beq_eq_false_iff_ne.2 (by omega)
      have e63 : ((((v.toNat : Nat) : Int)) == 63) = true := beq_iff_eq.2 (by omega)
      go_wp2_with (go_at_call 40; refine (give_any 44 i _).mono ?_; rintro e w9 ⟨hfe, hB9⟩; unfold faultE at hfe; subst hfe)
      rw [hr.out]
      exact ⟨rfl, hT2.then_ hB9, rfl⟩
    · skip
      have e94 : ((((v.toNat : Nat) : Int)) == 94) = false := beq_eq_false_iff_ne.2 (by omega)
      have e36 : ((((v.toNat : Nat) : Int)) == 36) = false := beq_eq_false_iff_ne.2 (by omega)
      have e42 : ((((v.toNat : Nat) : Int)) == 42) = false := beq_eq_false_iff_ne.2 (by omega)
      have e43 : ((((v.toNat : Nat) : Int)) == 43) = false := beq_eq_false_iff_ne.2 (by omega)
      have e63 : ((((v.toNat : Nat) : Int)) == 63) = false := beq_eq_false_iff_ne.2 (by omega)
      have e123 : ((((v.toNat : Nat) : Int)) == 123) = true := beq_iff_eq.2 (by omega)
      go_wp2_with (go_at_call 40; refine (give_any 44 i _).mono ?_; rintro e w9 ⟨hfe, hB9⟩; unfold faultE at hfe; subst hfe)
      rw [hr.out]
      exact ⟨rfl, hT2.then_ hB9, rfl⟩
  have hR3 := hR.out
  rw [if_neg h94, if_neg h36, if_neg hrp] at hR3
  replace hR3 := Lib.hid hR3
  by_cases h40 : v.toNat = 40
  · skip
    have e94 : ((((v.toNat : Nat) : Int)) == 94) = false := beq_eq_false_iff_ne.2 (by omega)
    have e36 : ((((v.toNat : Nat) : Int)) == 36) = false := beq_eq_false_iff_ne.2 (by omega)
    have e42 : ((((v.toNat : Nat) : Int)) == 42) = false := beq_eq_false_iff_ne.2 (by omega)
    have e43 : ((((v.toNat : Nat) : Int)) == 43) = false := beq_eq_false_iff_ne.2 (by omega)
    have e63 : ((((v.toNat : Nat) : Int)) == 63) = false := beq_eq_false_iff_ne.2 (by omega)
    have e123 : ((((v.toNat : Nat) : Int)) == 123) = false := beq_eq_false_iff_ne.2 (by omega)
    have e40 : ((((v.toNat : Nat) : Int)) == 40) = true := beq_iff_eq.2 (by omega)
    have hR4 := hR3.out
    rw [if_pos h40] at hR4
    cases n with
    | zero =>
      have hi0 := hin.out
      simp only at hi0
      subst hi0
      have hr := Lib.hid (show r = .fault 47 i by rw [← hR4])
      have hgI : (((gr : Nat) : Int) == 64) = true := beq_iff_eq.2 (by have := hgr.out; omega)
      clear hR4
      go_wp2_with (go_at_call 40; refine (give_any 47 i _).mono ?_; rintro e w9 ⟨hfe, hB9⟩; unfold faultE at hfe; subst hfe)
      rw [hr.out]
      exact ⟨rfl, hT2.then_ hB9, rfl⟩
    | succ n =>
      obtain ⟨hPO, hi0, hfw⟩ := hin.out
      subst hi0
      simp only at hR4
      have hgI : (((gr : Nat) : Int) == 64) = false := beq_eq_false_iff_ne.2 (by have := hgr.out; omega)
      have hgI2 : (gr : Int) ≤ 64 := by have := hgr.out; omega
      have kP := hPO (gr + 1) (by have := hgr.out; omega) g (i + 1) w2 hP2 (by omega) hp hM2 hwb.out.2.2.1
      rw [show ((gr + 1 : Nat) : Int) = (gr : Int) + 1 from rfl] at kP
      have hfw2 := fun t j => hfw (i + 1) t j (by omega)
      obtain ⟨rp, hrp2⟩ : ∃ r, Ere.patR p n (i + 1) = r := ⟨_, rfl⟩
      rw [hrp2] at hR4 kP hfw2
      clear hrp2 hPO hfw hin
      cases rp with
      | fault e0 k0 =>
        have hr := Lib.hid (show r = .fault e0 k0 by rw [← hR4]; rfl)
        clear hR4 hfw2
        go_wp2_with (go_at_call 39; refine kP.mono ?_; rintro e w9 ⟨hT9, hfe⟩; unfold faultE at hfe; subst hfe)
        rw [hr.out]
        exact ⟨rfl, hT2.trans hT9, rfl⟩
      | got t j =>
        have hj := hfw2 t j rfl
        simp only [Ere.Res.bind] at hR4
        clear hfw2
        replace hR4 := Lib.hid hR4
        have hjI : (j : Int) ≤ 1024 := by omega
        replace hj := Lib.hid hj
        go_upto_region 21 with (first | (go_at_call 39; refine kP.mono ?_; rintro e w3 ⟨hT3, hP3, x, bs, rfl, hO3⟩) | (refine wl_store_nv rfl _ _ rfl _ x rfl rfl _ rfl (Blk.new _ _ zeroC) ?_; intro w4 h7 hg7))
        have hB4 : Below w3.heap.size w3 w4 := below_grown (below_alloc (Below.refl w3.heap.size w3) (.cells zeroC 27)) hg7 (Nat.le_refl _)
        have hT4 := (hT2.trans hT3).then_ hB4
        have hP4 := blk_then hP3 hB4
        have hO4 := hO3.then_ hB4
        have h44 := blk_then (blk_turn h42 hT3 (by have := hwb.out; omega)) hB4
        have hs3 := hT3.size
        obtain ⟨g7, hg7e⟩ : ∃ y, y = w3.heap.size := ⟨_, rfl⟩
        rw [← hg7e] at h7 ⊢
        have hw7 := Lib.hid (show g7 ≠ g ∧ g7 ≠ g4 ∧ w.heap.size ≤ g7 ∧ g4 < w2.heap.size ∧ g < w2.heap.size ∧ w2.heap.size ≤ g7 by have := hw3.out; have := hs3; omega)
        have hOb := fun b hb => (hO3.lt b hb).2
        rw [← hg7e] at hOb
        clear hg7e hg7 hB4 hT3 hP3 hO3 kP
        have kM := more_any g p j w4 hP4
        by_cases hjs : j < p.size
        · rw [decide_eq_true hjs] at kM
          have hR5 := hR4.out
          rw [if_neg (by omega)] at hR5
          obtain ⟨rr, hrr⟩ : ∃ q, Ere.repeatR p t (j + 1) = q := ⟨_, rfl⟩
          rw [hrr] at hR5
          have hr := Lib.hid hR5.symm
          go_upto_region 23 with (go_at_call 66; refine kM.mono ?_; rintro e w5 ⟨rfl, hB5⟩)
          clear kM hR5
          replace hT4 := hT4.then_ hB5
          replace hP4 := blk_then hP4 hB5
          replace hO4 := hO4.then_ hB5
          replace h44 := blk_then h44 hB5
          replace h7 := blk_then h7 hB5
          have hs5 : w2.heap.size ≤ w5.heap.size := by have := h7.lt; have := hw7.out; omega
          replace hs5 := Lib.hid hs5
          replace hrr := Lib.hid hrr
          replace hOb := Lib.hid hOb
          clear hs3 hB5
          have c1 : w5.cell? ⟨g, 1, none⟩ = some (.int .i64 (j : Int)) := hP4.cellv rfl
          have f1 := hP4.frozen 1
          go_upto_region 24 with (fail)
          have hP6 := setRd hP4 (v := .int .i64 ((j : Int) + 1)) (j := j + 1) (by congr 1)
          have hTq := turnRd hT4 1 (.int .i64 ((j : Int) + 1))
          have hO6 := hO4.turn (turnRd (Turn.refl g (g + 1) w5) 1 (.int .i64 ((j : Int) + 1))) hw7.out.2.2.2.2.1
          have h4q := h44.far (p := ⟨g, 1, none⟩) (by have := hwb.out; simp; omega) (.int .i64 ((j : Int) + 1))
          have h76 := h7.far (p := ⟨g, 1, none⟩) (by have := hw7.out; simp; omega) (.int .i64 ((j : Int) + 1))
          obtain ⟨w6, hw6⟩ : ∃ y, y = w5.setCell ⟨g, 1, none⟩ (.int .i64 ((j : Int) + 1)) := ⟨_, rfl⟩
          have hs6 : w6.heap.size = w5.heap.size := by rw [hw6]; simp [World.setCell]
          rw [← hw6] at hP6 hTq hO6 h4q h76 ⊢
          have hBq := Lib.hid (show g4 < w2.heap.size ∧ g < w2.heap.size ∧ w.heap.size ≤ w2.heap.size from hw3.out)
          have kR := repeat_any g p (j + 1) w2.heap.size t x bs w6 hP6 (by omega) hO6 hw3.out.2.1 (by have := hs5.out; omega)
          rw [hrr.out] at kR
          clear hw6 hs6 c1 f1 hP4 hT4 hO4 h44 h7
          cases rr with
          | fault e0 k0 =>
            go_wp2_with (first | (refine wl_load_nv rfl _ rfl g7 rfl x h76 ?_) | (go_at_call 77; refine (kR).mono ?_; rintro e wr ⟨hTr, hfe⟩; unfold faultE at hfe; subst hfe))
            rw [hr.out]
            exact ⟨rfl, hTq.trans hTr, rfl⟩
          | got u k =>
            go_wp2_with (first | (refine wl_load_nv rfl _ rfl g7 rfl x h76 ?_) | (go_at_call 77; refine (kR).mono ?_; rintro e wr ⟨hTr, hPr, x2, bs2, rfl, hO⟩; have h4r := blk_turn h4q hTr (by have := hwb.out; omega)) | (refine wl_store_nv rfl _ _ rfl g4 x2 rfl rfl _ rfl h4r ?_; intro wz hz hgz))
            refine ret_nv rfl rfl hz rfl ?_
            rw [hr.out]
            exact ⟨(hTq.trans hTr).grown hgz (fun q e => by injection e with e; have := hwb.out; right; omega), hPr.grown hgz (fun e => by injection e with e; have := hwb.out; omega), x2, bs2, rfl, (hO.mono hBq.out.2.2).keep (fun b hb => hgz.block b (hO.lt b hb).2 (fun e => by injection e with e; have := (hO.lt b hb).1; have := hBq.out; omega))⟩
        · rw [decide_eq_false hjs] at kM
          have hr := Lib.hid (show r = .fault 42 i by rw [← hR4.out, if_pos (by omega)])
          go_wp2_with (first | (go_at_call 66; refine kM.mono ?_; rintro e w5 ⟨rfl, hB5⟩) | (go_at_call 40; refine (give_any 42 i _).mono ?_; rintro e w9 ⟨hfe, hB9⟩; unfold faultE at hfe; subst hfe))
          rw [hr.out]
          exact ⟨rfl, (hT4.then_ hB5).then_ hB9, rfl⟩
  by_cases h91 : v.toNat = 91
  · skip
    have e94 : ((((v.toNat : Nat) : Int)) == 94) = false := beq_eq_false_iff_ne.2 (by omega)
    have e36 : ((((v.toNat : Nat) : Int)) == 36) = false := beq_eq_false_iff_ne.2 (by omega)
    have e42 : ((((v.toNat : Nat) : Int)) == 42) = false := beq_eq_false_iff_ne.2 (by omega)
    have e43 : ((((v.toNat : Nat) : Int)) == 43) = false := beq_eq_false_iff_ne.2 (by omega)
    have e63 : ((((v.toNat : Nat) : Int)) == 63) = false := beq_eq_false_iff_ne.2 (by omega)
    have e123 : ((((v.toNat : Nat) : Int)) == 123) = false := beq_eq_false_iff_ne.2 (by omega)
    have e40 : ((((v.toNat : Nat) : Int)) == 40) = false := beq_eq_false_iff_ne.2 (by omega)
    have e91 : ((((v.toNat : Nat) : Int)) == 91) = true := beq_iff_eq.2 (by omega)
    have hR4 := hR3.out
    rw [if_neg h40, if_pos h91] at hR4
    have kS := rset_any g p (i + 1) i w2 hP2 (by omega) hp hM2 hwb.out.2.2.1
    have hfw := fun t j => Ere.setR_fwd (p := p) (s := i) (i := i + 1) (t := t) (j := j)
    obtain ⟨rs, hrs⟩ : ∃ r, Ere.setR p i (i + 1) = r := ⟨_, rfl⟩
    rw [hrs] at hR4 kS hfw
    clear hrs
    cases rs with
    | fault e0 k0 =>
      have hr := Lib.hid (show r = .fault e0 k0 by rw [← hR4]; rfl)
      clear hR4 hfw
      go_wp2_with (go_at_call 78; refine kS.mono ?_; rintro e w9 ⟨hT9, hfe⟩; unfold faultE at hfe; subst hfe)
      rw [hr.out]
      exact ⟨rfl, hT2.trans hT9, rfl⟩
    | got t j =>
      have hj := hfw t j rfl
      simp only [Ere.Res.bind] at hR4
      obtain ⟨rr, hrr⟩ : ∃ q, Ere.repeatR p t j = q := ⟨_, rfl⟩
      rw [hrr] at hR4
      have hr := Lib.hid hR4.symm
      clear hR4 hfw
      replace hrr := Lib.hid hrr
      have hBq := Lib.hid (show g4 < w2.heap.size ∧ g < w2.heap.size ∧ w.heap.size ≤ w2.heap.size from hw3.out)
      have hj2 := Lib.hid (show j ≤ 2000 by omega)
      have kR : ∀ (x : NV) (bs : List Nat) (w3 : World), Turn g (g + 1) w2 w3 → Blk w3 g 76 (rdC p j) → NdO w3 w2.heap.size t x bs → Calls Try.prog 77 #[.pointer (some ⟨g, 0, none⟩), .agg x.C] w3 fun e w' => NdAns g p w3 w2.heap.size rr e w' := fun x bs w3 hT3 hP3 hO3 => by
        rw [← hrr.out]
        exact repeat_any g p j w2.heap.size t x bs w3 hP3 hj2.out hO3 hBq.out.2.1 hT3.size
      replace kR := Lib.hid kR
      clear hj
      cases rr with
      | fault e0 k0 =>
        go_wp2_with (first | (go_at_call 78; refine kS.mono ?_; rintro e w3 ⟨hT3, hP3, x, bs, rfl, hO3⟩; have hTq := hT2.trans hT3; have h4q := blk_turn h42 hT3 (by have := hwb.out; omega)) | (go_at_call 77; refine (kR.out x bs w3 hT3 hP3 hO3).mono ?_; rintro e wr ⟨hTr, hfe⟩; unfold faultE at hfe; subst hfe))
        rw [hr.out]
        exact ⟨rfl, hTq.trans hTr, rfl⟩
      | got u k =>
        go_wp2_with (first | (go_at_call 78; refine kS.mono ?_; rintro e w3 ⟨hT3, hP3, x, bs, rfl, hO3⟩; have hTq := hT2.trans hT3; have h4q := blk_turn h42 hT3 (by have := hwb.out; omega)) | (go_at_call 77; refine (kR.out x bs w3 hT3 hP3 hO3).mono ?_; rintro e wr ⟨hTr, hPr, x2, bs2, rfl, hO⟩; have h4r := blk_turn h4q hTr (by have := hwb.out; omega)) | (refine wl_store_nv rfl _ _ rfl g4 x2 rfl rfl _ rfl h4r ?_; intro wz hz hgz))
        refine ret_nv rfl rfl hz rfl ?_
        rw [hr.out]
        exact ⟨(hTq.trans hTr).grown hgz (fun q e => by injection e with e; have := hwb.out; right; omega), hPr.grown hgz (fun e => by injection e with e; have := hwb.out; omega), x2, bs2, rfl, (hO.mono hBq.out.2.2).keep (fun b hb => hgz.block b (hO.lt b hb).2 (fun e => by injection e with e; have := (hO.lt b hb).1; have := hBq.out; omega))⟩
  by_cases h46 : v.toNat = 46
  · skip
    have e94 : ((((v.toNat : Nat) : Int)) == 94) = false := beq_eq_false_iff_ne.2 (by omega)
    have e36 : ((((v.toNat : Nat) : Int)) == 36) = false := beq_eq_false_iff_ne.2 (by omega)
    have e42 : ((((v.toNat : Nat) : Int)) == 42) = false := beq_eq_false_iff_ne.2 (by omega)
    have e43 : ((((v.toNat : Nat) : Int)) == 43) = false := beq_eq_false_iff_ne.2 (by omega)
    have e63 : ((((v.toNat : Nat) : Int)) == 63) = false := beq_eq_false_iff_ne.2 (by omega)
    have e123 : ((((v.toNat : Nat) : Int)) == 123) = false := beq_eq_false_iff_ne.2 (by omega)
    have e40 : ((((v.toNat : Nat) : Int)) == 40) = false := beq_eq_false_iff_ne.2 (by omega)
    have e91 : ((((v.toNat : Nat) : Int)) == 91) = false := beq_eq_false_iff_ne.2 (by omega)
    have e46 : ((((v.toNat : Nat) : Int)) == 46) = true := beq_iff_eq.2 (by omega)
    have hR4 := hR3.out
    rw [if_neg h40, if_neg h91, if_pos h46] at hR4
    obtain ⟨rr, hrr⟩ : ∃ q, Ere.repeatR p (Ere.setN (notB 0)) (i + 1) = q := ⟨_, rfl⟩
    rw [hrr] at hR4
    have hr := Lib.hid hR4.symm
    clear hR4
    replace hrr := Lib.hid hrr
    have hBq := Lib.hid (show g4 < w2.heap.size ∧ g < w2.heap.size ∧ w.heap.size ≤ w2.heap.size from hw3.out)
    have kR : ∀ (w3 : World), Below w2.heap.size w2 w3 → Calls Try.prog 77 #[.pointer (some ⟨g, 0, none⟩), .agg (NV.mk 2 (notB 0 &&& notB 0) none 0 0 0 0).C] w3 fun e w' => NdAns g p w3 w2.heap.size rr e w' := fun w3 hB3 => by
      rw [← hrr.out]
      exact repeat_any g p (i + 1) w2.heap.size (Ere.setN (notB 0)) _ [] w3 (blk_then hP2 hB3) (by omega) (NdO.leaf _ _ _ _ _ _) hBq.out.2.1 hB3.size
    replace kR := Lib.hid kR
    have kN := not_any 0 w2
    cases rr with
    | fault e0 k0 =>
      go_wp2_with (first | (refine wl_build_set0 rfl rfl ?_) | (go_at_call 80; refine kN.mono ?_; rintro e w3 ⟨rfl, hB3⟩) | (go_at_call 79; refine (nset_any (notB 0) w3).mono ?_; rintro e w5 ⟨rfl, hB5⟩; have hB53 := below_then hB3 hB5; have hTq := hT2.then_ hB53; have h4q := blk_then h42 hB53) | (go_at_call 77; refine (kR.out w5 hB53).mono ?_; rintro e wr ⟨hTr, hfe⟩; unfold faultE at hfe; subst hfe))
      rw [hr.out]
      exact ⟨rfl, hTq.trans hTr, rfl⟩
    | got u k =>
      go_wp2_with (first | (refine wl_build_set0 rfl rfl ?_) | (go_at_call 80; refine kN.mono ?_; rintro e w3 ⟨rfl, hB3⟩) | (go_at_call 79; refine (nset_any (notB 0) w3).mono ?_; rintro e w5 ⟨rfl, hB5⟩; have hB53 := below_then hB3 hB5; have hTq := hT2.then_ hB53; have h4q := blk_then h42 hB53) | (go_at_call 77; refine (kR.out w5 hB53).mono ?_; rintro e wr ⟨hTr, hPr, x2, bs2, rfl, hO⟩; have h4r := blk_turn h4q hTr (by have := hwb.out; omega)) | (refine wl_store_nv rfl _ _ rfl g4 x2 rfl rfl _ rfl h4r ?_; intro wz hz hgz))
      refine ret_nv rfl rfl hz rfl ?_
      rw [hr.out]
      exact ⟨(hTq.trans hTr).grown hgz (fun q e => by injection e with e; have := hwb.out; right; omega), hPr.grown hgz (fun e => by injection e with e; have := hwb.out; omega), x2, bs2, rfl, (hO.mono hBq.out.2.2).keep (fun b hb => hgz.block b (hO.lt b hb).2 (fun e => by injection e with e; have := (hO.lt b hb).1; have := hBq.out; omega))⟩
  have hR4 := hR3.out
  rw [if_neg h40, if_neg h91, if_neg h46] at hR4
  by_cases h92 : v.toNat = 92
  · skip
    have e94 : ((((v.toNat : Nat) : Int)) == 94) = false := beq_eq_false_iff_ne.2 (by omega)
    have e36 : ((((v.toNat : Nat) : Int)) == 36) = false := beq_eq_false_iff_ne.2 (by omega)
    have e42 : ((((v.toNat : Nat) : Int)) == 42) = false := beq_eq_false_iff_ne.2 (by omega)
    have e43 : ((((v.toNat : Nat) : Int)) == 43) = false := beq_eq_false_iff_ne.2 (by omega)
    have e63 : ((((v.toNat : Nat) : Int)) == 63) = false := beq_eq_false_iff_ne.2 (by omega)
    have e123 : ((((v.toNat : Nat) : Int)) == 123) = false := beq_eq_false_iff_ne.2 (by omega)
    have e40 : ((((v.toNat : Nat) : Int)) == 40) = false := beq_eq_false_iff_ne.2 (by omega)
    have e91 : ((((v.toNat : Nat) : Int)) == 91) = false := beq_eq_false_iff_ne.2 (by omega)
    have e46 : ((((v.toNat : Nat) : Int)) == 46) = false := beq_eq_false_iff_ne.2 (by omega)
    have e92 : ((((v.toNat : Nat) : Int)) == 92) = true := beq_iff_eq.2 (by omega)
    rw [if_pos h92] at hR4
    have kO1 := one_any g p ⟨#[46, 91, 93, 40, 41, 42, 43, 63, 123, 125, 124, 94, 36, 92, 47, 45]⟩ (i + 1) (i + 1) w2 hP2
    rw [show (List.map UInt8.toNat (⟨#[46, 91, 93, 40, 41, 42, 43, 63, 123, 125, 124, 94, 36, 92, 47, 45]⟩ : ByteArray).data.toList) = Ere.marks from rfl, show ((i + 1 : Nat) : Int) = (i : Int) + 1 from rfl] at kO1
    obtain ⟨bo, hbo⟩ : ∃ b, Ere.oneOf p (i + 1) Ere.marks = b := ⟨_, rfl⟩
    rw [hbo] at kO1 hR4
    have c1 : w2.cell? ⟨g, 1, none⟩ = some (.int .i64 ((i : Int) + 1)) := hP2.cellv (by simp [rdC])
    cases bo with
    | false =>
      have hr := Lib.hid (show r = .fault 46 i by rw [← hR4]; simp)
      clear hR4 hbo
      go_wp2_with (first | (go_at_call 81; refine kO1.mono ?_; rintro e w5 ⟨rfl, hB5⟩) | (go_at_call 40; refine (give_any 46 i _).mono ?_; rintro e w9 ⟨hfe, hB9⟩; unfold faultE at hfe; subst hfe))
      rw [hr.out]
      exact ⟨rfl, (hT2.then_ hB5).then_ hB9, rfl⟩
    | true =>
      have hi1 : i + 1 < p.size := by
        unfold Ere.oneOf at hbo
        simp only [Bool.and_eq_true, decide_eq_true_eq] at hbo
        exact hbo.1
      rw [if_pos rfl] at hR4
      have hch2 : Ere.chr p (i + 1) = p[i + 1].toNat := by unfold Ere.chr; rw [dif_pos hi1]
      rw [hch2] at hR4
      obtain ⟨j, hj⟩ : ∃ j, j = i + 1 := ⟨_, rfl⟩
      have hij : (i : Int) + 1 = (j : Int) := by omega
      have hj2 : i + 2 = j + 1 := by omega
      have hjl : j < p.size := by omega
      have hpj : p[i + 1] = p[j]'hjl := by congr 1; exact hj.symm
      rw [hj2, hpj] at hR4
      rw [hij] at c1 kO1
      rw [← hj] at hP2
      have hjI : (j : Int) < p.size := by omega
      have hj0 : ¬ (j : Int) < 0 := by omega
      obtain ⟨v2, hv2⟩ : ∃ v, p[j] = v := ⟨_, rfl⟩
      rw [hv2] at hR4
      replace hv2 := Lib.hid hv2
      replace hij := Lib.hid hij
      clear hbo hch2 hj hj2 hpj
      obtain ⟨rr, hrr⟩ : ∃ q, Ere.repeatR p (Ere.setN (bit v2.toNat)) (j + 1) = q := ⟨_, rfl⟩
      rw [hrr] at hR4
      replace hR4 := Lib.hid hR4
      go_upto_region 27 with (fail)
      rw [hij.out]
      go_upto_region 29 with (go_at_call 81; refine kO1.mono ?_; rintro e w5 ⟨rfl, hB5⟩)
      have hT5 := hT2.then_ hB5
      have hP5 := blk_then hP2 hB5
      have h45 := blk_then h42 hB5
      have hs5 := Lib.hid hB5.size
      clear hT2 hP2 h42 hB5 kO1 c1 hM2
      have c1 : w5.cell? ⟨g, 1, none⟩ = some (.int .i64 (j : Int)) := hP5.cellv rfl
      have f1 := hP5.frozen 1
      go_upto_region 31 with (fail)
      have hP2 := setRd hP5 (v := .int .i64 ((j : Int) + 1)) (j := j + 1) (by congr 1)
      have hT2 := turnRd hT5 1 (.int .i64 ((j : Int) + 1))
      have h42 := h45.far (p := ⟨g, 1, none⟩) (by have := hwb.out; simp; omega) (.int .i64 ((j : Int) + 1))
      obtain ⟨w8, hw8⟩ : ∃ y, y = w5.setCell ⟨g, 1, none⟩ (.int .i64 ((j : Int) + 1)) := ⟨_, rfl⟩
      have hs8 : w8.heap.size = w5.heap.size := by rw [hw8]; simp [World.setCell]
      rw [← hw8] at hP2 hT2 h42 ⊢
      have hw3b := Lib.hid (show g4 < w8.heap.size ∧ g < w8.heap.size ∧ w.heap.size ≤ w8.heap.size by have := hw3.out; have := hs5.out; omega)
      clear hw8 hs8 hs5 c1 f1 hP5 hT5 h45 hw3 hR hR3
      replace hR4 := hR4.out
      have hr := Lib.hid hR4.symm
      clear hR4
      replace hrr := Lib.hid hrr
      have hBq := Lib.hid (show g4 < w8.heap.size ∧ g < w8.heap.size ∧ w.heap.size ≤ w8.heap.size from hw3b.out)
      have kR : ∀ (w3 : World), Below w8.heap.size w8 w3 → Calls Try.prog 77 #[.pointer (some ⟨g, 0, none⟩), .agg (NV.mk 2 (bit v2.toNat &&& notB 0) none 0 0 0 0).C] w3 fun e w' => NdAns g p w3 w8.heap.size rr e w' := fun w3 hB3 => by
        rw [← hrr.out]
        exact repeat_any g p (j + 1) w8.heap.size (Ere.setN (bit v2.toNat)) _ [] w3 (blk_then hP2 hB3) (by omega) (NdO.leaf _ _ _ _ _ _) hBq.out.2.1 hB3.size
      replace kR := Lib.hid kR
      have kO := of_any (some ⟨w8.heap.size, 0, none⟩) 1 1 [v2] (w8.alloc (.cells #[.int .u8 (((v2).toNat : Nat) : Int)] 5)) rfl (by unfold maxLen; omega) (bytes_of_blk (l := [v2]) (Blk.new w8 5 #[.int .u8 (((v2).toNat : Nat) : Int)]))
      rw [ofB_one] at kO
      have hBo := Lib.hid (below_alloc (Below.refl w8.heap.size w8) (.cells #[.int .u8 (((v2).toNat : Nat) : Int)] 5))
      have c0 : w8.cell? ⟨g, 0, none⟩ = some (.string p) := hP2.cellv rfl
      have hv2q := hv2.out
      cases rr with
      | fault e0 k0 =>
        go_wp2_with (first | (go_at_call 82; refine kO.mono ?_; rintro e w3 ⟨rfl, hB3⟩; have hB30 := below_then hBo.out hB3) | (go_at_call 79; refine (nset_any (bit (v2).toNat) w3).mono ?_; rintro e w5 ⟨rfl, hB5⟩; have hB53 := below_then hB30 hB5; have hTq := hT2.then_ hB53; have h4q := blk_then h42 hB53) | (go_at_call 77; refine (kR.out w5 hB53).mono ?_; rintro e wr ⟨hTr, hfe⟩; unfold faultE at hfe; subst hfe))
        rw [hr.out]
        exact ⟨rfl, hTq.trans hTr, rfl⟩
      | got u k =>
        go_wp2_with (first | (go_at_call 82; refine kO.mono ?_; rintro e w3 ⟨rfl, hB3⟩; have hB30 := below_then hBo.out hB3) | (go_at_call 79; refine (nset_any (bit (v2).toNat) w3).mono ?_; rintro e w5 ⟨rfl, hB5⟩; have hB53 := below_then hB30 hB5; have hTq := hT2.then_ hB53; have h4q := blk_then h42 hB53) | (go_at_call 77; refine (kR.out w5 hB53).mono ?_; rintro e wr ⟨hTr, hPr, x2, bs2, rfl, hO⟩; have h4r := blk_turn h4q hTr (by have := hwb.out; omega)) | (refine wl_store_nv rfl _ _ rfl g4 x2 rfl rfl _ rfl h4r ?_; intro wz hz hgz))
        refine ret_nv rfl rfl hz rfl ?_
        rw [hr.out]
        exact ⟨(hTq.trans hTr).grown hgz (fun q e => by injection e with e; have := hwb.out; right; omega), hPr.grown hgz (fun e => by injection e with e; have := hwb.out; omega), x2, bs2, rfl, (hO.mono hBq.out.2.2).keep (fun b hb => hgz.block b (hO.lt b hb).2 (fun e => by injection e with e; have := (hO.lt b hb).1; have := hBq.out; omega))⟩
  have e94 : ((((v.toNat : Nat) : Int)) == 94) = false := beq_eq_false_iff_ne.2 (by omega)
  have e36 : ((((v.toNat : Nat) : Int)) == 36) = false := beq_eq_false_iff_ne.2 (by omega)
  have e42 : ((((v.toNat : Nat) : Int)) == 42) = false := beq_eq_false_iff_ne.2 (by omega)
  have e43 : ((((v.toNat : Nat) : Int)) == 43) = false := beq_eq_false_iff_ne.2 (by omega)
  have e63 : ((((v.toNat : Nat) : Int)) == 63) = false := beq_eq_false_iff_ne.2 (by omega)
  have e123 : ((((v.toNat : Nat) : Int)) == 123) = false := beq_eq_false_iff_ne.2 (by omega)
  have e40 : ((((v.toNat : Nat) : Int)) == 40) = false := beq_eq_false_iff_ne.2 (by omega)
  have e91 : ((((v.toNat : Nat) : Int)) == 91) = false := beq_eq_false_iff_ne.2 (by omega)
  have e46 : ((((v.toNat : Nat) : Int)) == 46) = false := beq_eq_false_iff_ne.2 (by omega)
  have e92 : ((((v.toNat : Nat) : Int)) == 92) = false := beq_eq_false_iff_ne.2 (by omega)
  rw [if_neg h92] at hR4
  obtain ⟨rr, hrr⟩ : ∃ q, Ere.repeatR p (Ere.setN (bit v.toNat)) (i + 1) = q := ⟨_, rfl⟩
  rw [hrr] at hR4
  have hr := Lib.hid hR4.symm
  clear hR4
  replace hrr := Lib.hid hrr
  have hBq := Lib.hid (show g4 < w2.heap.size ∧ g < w2.heap.size ∧ w.heap.size ≤ w2.heap.size from hw3.out)
  have kR : ∀ (w3 : World), Below w2.heap.size w2 w3 → Calls Try.prog 77 #[.pointer (some ⟨g, 0, none⟩), .agg (NV.mk 2 (bit v.toNat &&& notB 0) none 0 0 0 0).C] w3 fun e w' => NdAns g p w3 w2.heap.size rr e w' := fun w3 hB3 => by
    rw [← hrr.out]
    exact repeat_any g p (i + 1) w2.heap.size (Ere.setN (bit v.toNat)) _ [] w3 (blk_then hP2 hB3) (by omega) (NdO.leaf _ _ _ _ _ _) hBq.out.2.1 hB3.size
  replace kR := Lib.hid kR
  have kO := of_any (some ⟨w2.heap.size, 0, none⟩) 1 1 [v] (w2.alloc (.cells #[.int .u8 (((v).toNat : Nat) : Int)] 5)) rfl (by unfold maxLen; omega) (bytes_of_blk (l := [v]) (Blk.new w2 5 #[.int .u8 (((v).toNat : Nat) : Int)]))
  rw [ofB_one] at kO
  have hBo := Lib.hid (below_alloc (Below.refl w2.heap.size w2) (.cells #[.int .u8 (((v).toNat : Nat) : Int)] 5))
  have c0 : w2.cell? ⟨g, 0, none⟩ = some (.string p) := hP2.cellv rfl
  have hvq := hv.out
  cases rr with
  | fault e0 k0 =>
    go_wp2_with (first | (go_at_call 82; refine kO.mono ?_; rintro e w3 ⟨rfl, hB3⟩; have hB30 := below_then hBo.out hB3) | (go_at_call 79; refine (nset_any (bit (v).toNat) w3).mono ?_; rintro e w5 ⟨rfl, hB5⟩; have hB53 := below_then hB30 hB5; have hTq := hT2.then_ hB53; have h4q := blk_then h42 hB53) | (go_at_call 77; refine (kR.out w5 hB53).mono ?_; rintro e wr ⟨hTr, hfe⟩; unfold faultE at hfe; subst hfe))
    rw [hr.out]
    exact ⟨rfl, hTq.trans hTr, rfl⟩
  | got u k =>
    go_wp2_with (first | (go_at_call 82; refine kO.mono ?_; rintro e w3 ⟨rfl, hB3⟩; have hB30 := below_then hBo.out hB3) | (go_at_call 79; refine (nset_any (bit (v).toNat) w3).mono ?_; rintro e w5 ⟨rfl, hB5⟩; have hB53 := below_then hB30 hB5; have hTq := hT2.then_ hB53; have h4q := blk_then h42 hB53) | (go_at_call 77; refine (kR.out w5 hB53).mono ?_; rintro e wr ⟨hTr, hPr, x2, bs2, rfl, hO⟩; have h4r := blk_turn h4q hTr (by have := hwb.out; omega)) | (refine wl_store_nv rfl _ _ rfl g4 x2 rfl rfl _ rfl h4r ?_; intro wz hz hgz))
    refine ret_nv rfl rfl hz rfl ?_
    rw [hr.out]
    exact ⟨(hTq.trans hTr).grown hgz (fun q e => by injection e with e; have := hwb.out; right; omega), hPr.grown hgz (fun e => by injection e with e; have := hwb.out; omega), x2, bs2, rfl, (hO.mono hBq.out.2.2).keep (fun b hb => hgz.block b (hO.lt b hb).2 (fun e => by injection e with e; have := (hO.lt b hb).1; have := hBq.out; omega))⟩
end Go.Proofs.Ytajainmldcnaeaa
namespace Go.Proofs.Ytajainmldcnaeaa
open Go.RowKit Go.Maps
set_option linter.unusedVariables false
set_option linter.unusedSimpArgs false
attribute [local go_sem] Oper.semAt_some

namespace Ere
theorem altR_fwd {p : ByteArray} {top : Bool} {pc : Nat → Res Nd} (hpc : ∀ i t j, i < p.size → pc i = .got t j → i < j ∧ j ≤ p.size) : ∀ n i l t j, i ≤ p.size → altR p top pc n i l = .got t j → i ≤ j ∧ j ≤ p.size
  | 0, _, _, _, _, _, h => by cases h
  | n + 1, i, l, t, j, hi, h => by
    unfold altR at h
    split at h
    · injection h with _ h; omega
    · rename_i h1
      simp only [Bool.or_eq_true, decide_eq_true_eq, not_or] at h1
      split at h
      · split at h
        · cases h
        · injection h with _ h; omega
      · cases hc : pc i with
        | fault e k => rw [hc] at h; cases h
        | got u k =>
          rw [hc] at h
          have h2 := hpc i u k (by omega) hc
          have h3 := altR_fwd hpc n k (l ++ [u]) t j h2.2 h
          omega
theorem patL_fwd {p : ByteArray} {al : Nat → Res Nd} (hal : ∀ i t j, i ≤ p.size → al i = .got t j → i ≤ j ∧ j ≤ p.size) : ∀ n i l t j, i ≤ p.size → patL p al n i l = .got t j → i ≤ j ∧ j ≤ p.size
  | 0, _, _, _, _, _, h => by cases h
  | n + 1, i, l, t, j, hi, h => by
    unfold patL at h
    cases hc : al i with
    | fault e k => rw [hc] at h; cases h
    | got u k =>
      rw [hc] at h
      simp only [Res.bind] at h
      have h2 := hal i u k hi hc
      split at h
      · rename_i h4
        have := isAt_lt h4
        have h3 := patL_fwd hal n (k + 1) (l ++ [u]) t j (by omega) h
        omega
      · injection h with _ h
        omega
theorem patR_fwd {p : ByteArray} : ∀ n i t j, i ≤ p.size → patR p n i = .got t j → i ≤ j ∧ j ≤ p.size
  | 0, i, t, j, hi, h => by
    unfold patR at h
    exact patL_fwd (fun i t j hi h => altR_fwd (fun i t j hi h => pieceR_fwd (fun f e => by cases e) h hi) _ _ _ _ _ hi h) _ _ _ _ _ hi h
  | n + 1, i, t, j, hi, h => by
    unfold patR at h
    exact patL_fwd (fun i t j hi h => altR_fwd (fun i t j hi h => pieceR_fwd (fun f e => by injection e with e; subst e; exact fun i t j hi h => patR_fwd n i t j hi h) h hi) _ _ _ _ _ hi h) _ _ _ _ _ hi h
end Ere
def slLen (v : Value) : Nat := match v with
  | .slice _ n _ => n
  | _ => 0
theorem Mx.grown {w w' : World} {row : Option Nat} (h : Mx w) (hg : w.grownBy w' row) (h0 : row ≠ some 0) : Mx w' := by
  obtain ⟨m, hm⟩ := h
  have h1 : 0 < w.heap.size := by
    rcases Nat.eq_zero_or_pos w.heap.size with e | e
    · unfold World.cell? at hm
      simp [Array.getElem?_eq_none (show w.heap.size ≤ 0 by omega)] at hm
    · exact e
  exact ⟨m, (World.cell?_of_block (w := w) (hg.block 0 h1 (fun e => h0 e.symm))).trans hm⟩
set_option maxRecDepth 100000 in
set_option maxHeartbeats 8000000 in
theorem alt_any (n gr : Nat) (hgr : gr + n = 64) (inner : Option (Nat → Ere.Res Nd)) (g : Nat) (p : ByteArray) (i : Nat) (hin : match n with
      | 0 => inner = none
      | n + 1 => PatOk p n ∧ inner = some (Ere.patR p n) ∧ ∀ i t j, i ≤ p.size → Ere.patR p n i = .got t j → i ≤ j ∧ j ≤ p.size) (w : World) (hP : Blk w g 76 (rdC p i)) (hi : i ≤ p.size) (hp : p.size ≤ 1024) (hM : Mx w) (h0 : 0 < g) :
    Calls Try.prog 56 #[.pointer (some ⟨g, 0, none⟩), .int .i64 (gr : Int)] w fun e w' => NdAns g p w w.heap.size (Ere.altR p (decide (gr = 0)) (Ere.pieceR p inner) (p.size + 2) i []) e w' := by
  obtain ⟨r, hr0⟩ : ∃ r, Ere.altR p (decide (gr = 0)) (Ere.pieceR p inner) (p.size + 2) i [] = r := ⟨_, rfl⟩
  rw [hr0]
  have hinf : ∀ f, inner = some f → ∀ i t j, i ≤ p.size → f i = .got t j → i ≤ j ∧ j ≤ p.size := by
    intro f hf
    cases n with
    | zero => rw [hin] at hf; cases hf
    | succ n => rw [hin.2.1] at hf; injection hf with hf; subst hf; exact hin.2.2
  have kPc := fun (i : Nat) (w : World) (hP : Blk w g 76 (rdC p i)) (hi : i < p.size) (hM : Mx w) => piece_any n gr hgr inner g p i hin w hP hi hp hM h0
  have hfwp := fun (i : Nat) (t : Nd) (j : Nat) (hi : i < p.size) (h : Ere.pieceR p inner i = .got t j) => Ere.pieceR_fwd hinf h hi
  obtain ⟨pc, hpc⟩ : ∃ f, Ere.pieceR p inner = f := ⟨_, rfl⟩
  rw [hpc] at hr0 kPc hfwp
  clear hpc hinf hin
  have hT := Turn.refl g (g + 1) w
  have hgl := Lib.hid hP.lt
  have hpI : (p.size : Int) ≤ 1024 := by omega
  have hgI : (gr : Int) ≤ 64 := by omega
  replace hr0 := Lib.hid hr0
  replace kPc := Lib.hid kPc
  replace hfwp := Lib.hid hfwp
  replace hgr := Lib.hid hgr
  go_enter Try.func56, Try.ntmps56
  have h4 : Blk (w.alloc (.cells zeroC 27)) w.heap.size 27 zeroC := Blk.new' _ _ _ rfl
  have hB1 : Below w.heap.size w (w.alloc (.cells zeroC 27)) := below_alloc (Below.refl _ _) _
  unfold zeroC at h4 hB1
  go_upto_region 1 with (fail)
  obtain ⟨w1, hw1⟩ : ∃ y, y = w.alloc (.cells zeroC 27) := ⟨_, rfl⟩
  unfold zeroC at hw1
  rw [← hw1] at h4 hB1 ⊢
  clear hw1
  replace hP := blk_then hP hB1
  replace hT := hT.then_ hB1
  replace hM := hM.then_ hB1
  have h4l := h4.lt
  obtain ⟨g4, hg4e⟩ : ∃ y, y = w.heap.size := ⟨_, rfl⟩
  obtain ⟨B, hBe⟩ : ∃ y, y = w1.heap.size := ⟨_, rfl⟩
  have hwb := Lib.hid (show w.heap.size ≤ g4 ∧ g4 ≠ g ∧ 0 < g ∧ g < w.heap.size ∧ g4 < B ∧ g < B ∧ w.heap.size ≤ B ∧ 0 < B by have := hgl.out; have := hB1.size; omega)
  have hBw : B ≤ w1.heap.size := by omega
  rw [← hg4e] at h4 ⊢
  clear hg4e h0 h4l hB1 hBe
  go_wp2_with (fail)
  go_loopw [5] (fun lv wr => ∃ (A : Option Addr) (n c : Nat) (l : List Nd) (cl : List NV) (bl : List (List Nat)) (j : Nat), lv = .slice A n c ∧ NdL wr B A n c l cl bl ∧ B ≤ wr.heap.size ∧ n ≤ j ∧ j ≤ p.size ∧ Turn g (g + 1) w wr ∧ Mx wr ∧ Blk wr g 76 (rdC p j) ∧ Blk wr g4 27 #[.int .i64 0, .int .u64 0, .int .u64 0, .int .u64 0, .int .u64 0, .slice none 0 0, .int .i64 0, .int .i64 0] ∧ r = Ere.altR p (decide (gr = 0)) pc (p.size + 2 - n) j l) (fun lv _ => p.size + 2 - slLen lv)
  case atStart => exact ⟨none, 0, 0, [], [], [], i, rfl, NdL.nil_ _ _, hBw, by omega, hi, hT, hM, hP, h4, hr0.out.symm⟩
  case round =>
    clear hT hM hP h4 hBw
    obtain ⟨A, n, c, l, cl, bl, j, rfl, hL, hBw, hnj, hjp, hT, hM, hP, h4, hit⟩ := hrel
    have hfu : p.size + 2 - n = (p.size + 2 - (n + 1)) + 1 := by omega
    rw [hfu] at hit
    unfold Ere.altR at hit
    obtain ⟨b124, b124_e⟩ : ∃ b, Ere.isAt p j 124 = b := ⟨_, rfl⟩
    obtain ⟨b41, b41_e⟩ : ∃ b, Ere.isAt p j 41 = b := ⟨_, rfl⟩
    rw [b124_e, b41_e] at hit
    replace hit := Lib.hid hit
    replace hfu := Lib.hid hfu
    replace b124_e := Lib.hid b124_e
    replace b41_e := Lib.hid b41_e
    have hnj2 := Lib.hid hnj
    have hnn := Lib.hid hL.hn
    clear hnj
    have kM := more_any g p j wr hP
    have hjI : (j : Int) ≤ 1024 := by omega
    by_cases hjs : p.size ≤ j
    · rw [decide_eq_false (by omega)] at kM
      have hr := Lib.hid (show r = .got (Ere.someN 3 l) j by rw [hit.out, decide_eq_true hjs]; simp)
      go_upto_region 7 with (go_at_call 66; refine kM.mono ?_; rintro e wx ⟨rfl, hBx⟩)
      replace hL := hL.then_ hBx
      have hTx := hT.then_ hBx
      have hPx := blk_then hP hBx
      have h4x := blk_then h4 hBx
      have kS := some_any 3 wx hL
      clear hL hT hP h4 hBx kM
      go_wp2_with (first | (go_at_call 58; refine kS.mono ?_; rintro e w8 ⟨hB8, x, bs, rfl, hO⟩; have h48 := blk_then h4x hB8) | (refine wl_store_nv rfl _ _ rfl g4 x rfl rfl _ rfl h48 ?_; intro wz hz hgz))
      refine ret_nv rfl rfl hz rfl ?_
      rw [hr.out]
      exact ⟨(hTx.then_ hB8).grown hgz (fun q e => by injection e with e; have := hwb.out; right; omega), (blk_then hPx hB8).grown hgz (fun e => by injection e with e; have := hwb.out; omega), x, bs, rfl, (hO.mono hwb.out.2.2.2.2.2.2.1).keep (fun b hb => hgz.block b (hO.lt b hb).2 (fun e => by injection e with e; have := (hO.lt b hb).1; have := hwb.out; omega))⟩
    · rw [decide_eq_true (by omega)] at kM
      have hjs2 := Lib.hid hjs
      have hit2 := hit.out
      rw [decide_eq_false hjs] at hit2
      simp only [Bool.false_or] at hit2
      clear hit hjs
      go_upto_region 2 with (fail)
      have k124 : ∀ w2, Below wr.heap.size wr w2 → Calls Try.prog 57 #[.pointer (some ⟨g, 0, none⟩), .int .i64 (j : Int), .int .u8 124] w2 fun e w' => e = .returned (.bool b124) ∧ Below w2.heap.size w2 w' := fun w2 hB => is_at g p j j 124 124 w2 (blk_then hP hB) rfl b124_e.out
      have hc1 : ∀ w2, Below wr.heap.size wr w2 → w2.cell? ⟨g, 1, none⟩ = some (.int .i64 (j : Int)) := fun w2 hB => (blk_then hP hB).cellv rfl
      replace k124 := Lib.hid k124
      replace hc1 := Lib.hid hc1
      cases b124 with
      | true =>
        have hr := Lib.hid (show r = .got (Ere.someN 3 l) j by rw [hit2]; simp)
        go_upto_region 7 with (first | (go_at_call 66; refine kM.mono ?_; rintro e w2 ⟨rfl, hB2⟩; have c1 := hc1.out w2 hB2) | (go_at_call 57; refine (k124.out w2 hB2).mono ?_; rintro e wx ⟨rfl, hBx0⟩; have hBx := below_then hB2 hBx0))
        clear c1
        replace hL := hL.then_ hBx
        have hTx := hT.then_ hBx
        have hPx := blk_then hP hBx
        have h4x := blk_then h4 hBx
        have kS := some_any 3 wx hL
        clear hL hT hP h4 hBx kM
        go_wp2_with (first | (go_at_call 58; refine kS.mono ?_; rintro e w8 ⟨hB8, x, bs, rfl, hO⟩; have h48 := blk_then h4x hB8) | (refine wl_store_nv rfl _ _ rfl g4 x rfl rfl _ rfl h48 ?_; intro wz hz hgz))
        refine ret_nv rfl rfl hz rfl ?_
        rw [hr.out]
        exact ⟨(hTx.then_ hB8).grown hgz (fun q e => by injection e with e; have := hwb.out; right; omega), (blk_then hPx hB8).grown hgz (fun e => by injection e with e; have := hwb.out; omega), x, bs, rfl, (hO.mono hwb.out.2.2.2.2.2.2.1).keep (fun b hb => hgz.block b (hO.lt b hb).2 (fun e => by injection e with e; have := (hO.lt b hb).1; have := hwb.out; omega))⟩
      | false =>
        simp only [Bool.false_eq_true, if_false] at hit2
        go_upto_region 3 with (first | (go_at_call 66; refine kM.mono ?_; rintro e w2 ⟨rfl, hB2⟩; have c1 := hc1.out w2 hB2) | (go_at_call 57; refine (k124.out w2 hB2).mono ?_; rintro e w3 ⟨rfl, hB30⟩; have hB3 := below_then hB2 hB30))
        clear c1 k124 kM
        have c1 := hc1.out w3 hB3
        have k41 := is_at g p j j 41 41 w3 (blk_then hP hB3) rfl b41_e.out
        cases b41 with
        | true =>
          rw [if_pos rfl] at hit2
          by_cases hg0 : gr = 0
          · subst hg0
            have hr := Lib.hid (show r = .fault 42 j by rw [hit2]; simp)
            go_wp2_with (first | (go_at_call 57; refine k41.mono ?_; rintro e w4 ⟨rfl, hB40⟩; have hB4 := below_then hB3 hB40; have c2 := hc1.out w4 hB4) | (go_at_call 40; refine (give_any 42 j _).mono ?_; rintro e w9 ⟨hfe, hB9⟩; unfold faultE at hfe; subst hfe))
            rw [hr.out]
            exact ⟨rfl, (hT.then_ hB4).then_ hB9, rfl⟩
          · have hg0I : ((gr : Int) == 0) = false := beq_eq_false_iff_ne.2 (by omega)
            have hr := Lib.hid (show r = .got (Ere.someN 3 l) j by rw [hit2, decide_eq_false hg0]; simp)
            go_upto_region 7 with (go_at_call 57; refine k41.mono ?_; rintro e wx ⟨rfl, hBx0⟩; have hBx := below_then hB3 hBx0)
            clear c1
            replace hL := hL.then_ hBx
            have hTx := hT.then_ hBx
            have hPx := blk_then hP hBx
            have h4x := blk_then h4 hBx
            have kS := some_any 3 wx hL
            clear hL hT hP h4 hBx
            go_wp2_with (first | (go_at_call 58; refine kS.mono ?_; rintro e w8 ⟨hB8, x, bs, rfl, hO⟩; have h48 := blk_then h4x hB8) | (refine wl_store_nv rfl _ _ rfl g4 x rfl rfl _ rfl h48 ?_; intro wz hz hgz))
            refine ret_nv rfl rfl hz rfl ?_
            rw [hr.out]
            exact ⟨(hTx.then_ hB8).grown hgz (fun q e => by injection e with e; have := hwb.out; right; omega), (blk_then hPx hB8).grown hgz (fun e => by injection e with e; have := hwb.out; omega), x, bs, rfl, (hO.mono hwb.out.2.2.2.2.2.2.1).keep (fun b hb => hgz.block b (hO.lt b hb).2 (fun e => by injection e with e; have := (hO.lt b hb).1; have := hwb.out; omega))⟩
        | false =>
          simp only [Bool.false_eq_true, if_false] at hit2
          go_upto_region 6 with (go_at_call 57; refine k41.mono ?_; rintro e w4 ⟨rfl, hB40⟩)
          have hB4 := below_then hB3 hB40
          clear c1 hB40 k41
          replace hT := hT.then_ hB4
          replace hM := hM.then_ hB4
          replace hP := blk_then hP hB4
          replace h4 := blk_then h4 hB4
          replace hL := hL.then_ hB4
          have hBw4 : B ≤ w4.heap.size := Nat.le_trans hBw hB4.size
          clear hB4 hB3 hB30 hB2 hBw hc1
          have kP := kPc.out j w4 hP (by have := hjs2.out; omega) hM
          have hfw := fun t k h => hfwp.out j t k (by have := hjs2.out; omega) h
          obtain ⟨rp, hrp⟩ : ∃ q, pc j = q := ⟨_, rfl⟩
          rw [hrp] at hit2 kP hfw
          replace hrp := Lib.hid hrp
          cases rp with
          | fault e0 k0 =>
            have hr := Lib.hid (show r = .fault e0 k0 by rw [hit2]; rfl)
            clear hit2 hfw
            go_wp2_with (go_at_call 67; refine kP.mono ?_; rintro e w9 ⟨hT9, hfe⟩; unfold faultE at hfe; subst hfe)
            rw [hr.out]
            exact ⟨rfl, hT.trans hT9, rfl⟩
          | got t k =>
            have hk := hfw t k rfl
            simp only [Ere.Res.bind] at hit2
            replace hit2 := Lib.hid hit2
            replace hk := Lib.hid hk
            clear hfw
            have hn9 := Lib.hid (show n ≤ 1000000 by have := hnj2.out; omega)
            have hLl := Lib.hid hL.lt
            replace hL := Lib.hid hL
            replace hBw4 := Lib.hid hBw4
            go_upto_region 6 with (fail)
            go_wp2_with (first
              | (go_at_call 67; refine kP.mono ?_; rintro e w5 ⟨hT5, hP5, x, bs, rfl, hO5⟩
                 have hs5 := Lib.hid hT5.size
                 have hL6 := Lib.hid ((hL.out.turn hT5 hwb.out.2.2.2.2.2.1).then_ (below_alloc (Below.refl w5.heap.size w5) (.cells x.C 27)))
                 have hO6 := Lib.hid ((hO5.mono hBw4.out).then_ (below_alloc (Below.refl w5.heap.size w5) (.cells x.C 27)))
                 have hdis := Lib.hid (show ∀ b ∈ bs, b ∉ ownL A ++ bl.flatten from fun b hb hb2 => by have := (hO5.lt b hb).1; have := (hLl.out b hb2).2; omega)
                 have hBa := Lib.hid (below_alloc (Below.refl w5.heap.size w5) (.cells x.C 27)))
              | (refine wl_build1n rfl _ rfl x rfl ?_)
              | (at_builtin; refine wl_pushN rfl _ _ rfl hL6.out hO6.out hdis.out rfl _ rfl (Blk.new w5 27 x.C) hn9.out (by have := hBw4.out; have := hs5.out; have := hBa.out.size; omega) ?_; intro A' c' w7 hL7 hg7))
            have hrow : ∀ q, (Value.slice A n c).ownBlock = some q → B ≤ q := fun q hq => (hLl.out q (List.mem_append_left _ (mem_ownL.2 hq))).1
            have hTz := ((hT.trans hT5).then_ hBa.out).grown hg7 (fun q e => by have := hrow q e; have := hwb.out; right; omega)
            have hMz := ((hM.turn hT5 hwb.out.2.2.1).then_ hBa.out).grown hg7 (fun e => by have := hrow 0 e; have := hwb.out; omega)
            have hPz := (blk_then hP5 hBa.out).grown hg7 (fun e => by have := hrow g e.symm; have := hwb.out; omega)
            have h4z := (blk_then (blk_turn h4 hT5 (by have := hwb.out; omega)) hBa.out).grown hg7 (fun e => by have := hrow g4 e.symm; have := hwb.out; omega)
            have hBz : B ≤ w7.heap.size := by have := hBw4.out; have := hs5.out; have := hBa.out.size; have := hg7.size; omega
            exact ⟨⟨A', n + 1, c', l ++ [t], cl ++ [x], bl ++ [bs], k, rfl, hL7, hBz, by have := hk.out; have := hnj2.out; omega, hk.out.2, hTz, hMz, hPz, h4z, hit2.out⟩, by simp only [slLen]; have := hfu.out; omega⟩
end Go.Proofs.Ytajainmldcnaeaa
namespace Go.Proofs.Ytajainmldcnaeaa
open Go.RowKit Go.Maps
set_option linter.unusedVariables false
set_option linter.unusedSimpArgs false
attribute [local go_sem] Oper.semAt_some

/-- what reads an alternative -/
def AltOk (p : ByteArray) (gr : Nat) (al : Nat → Ere.Res Nd) : Prop := ∀ (g i : Nat) (w : World), Blk w g 76 (rdC p i) → i ≤ p.size → p.size ≤ 1024 → Mx w → 0 < g →
  Calls Try.prog 56 #[.pointer (some ⟨g, 0, none⟩), .int .i64 (gr : Int)] w fun e w' => NdAns g p w w.heap.size (al i) e w'
set_option maxRecDepth 100000 in
set_option maxHeartbeats 8000000 in
theorem patL_any (gr : Nat) (hgr : gr ≤ 64) (al : Nat → Ere.Res Nd) (g : Nat) (p : ByteArray) (i : Nat) (hal : AltOk p gr al) (hfa : ∀ i t j, i ≤ p.size → al i = .got t j → i ≤ j ∧ j ≤ p.size) (w : World) (hP : Blk w g 76 (rdC p i)) (hi : i ≤ p.size) (hp : p.size ≤ 1024) (hM : Mx w) (h0 : 0 < g) :
    Calls Try.prog 39 #[.pointer (some ⟨g, 0, none⟩), .int .i64 (gr : Int)] w fun e w' => NdAns g p w w.heap.size (Ere.patL p al (p.size + 2) i []) e w' := by
  obtain ⟨r, hr0⟩ : ∃ r, Ere.patL p al (p.size + 2) i [] = r := ⟨_, rfl⟩
  rw [hr0]
  rw [show p.size + 2 = (p.size + 1) + 1 from rfl] at hr0
  unfold Ere.patL at hr0
  simp only [List.nil_append] at hr0
  have hT := Turn.refl g (g + 1) w
  have hgl := Lib.hid hP.lt
  have hpI : (p.size : Int) ≤ 1024 := by omega
  have hgI : (gr : Int) ≤ 64 := by omega
  replace hr0 := Lib.hid hr0
  replace hal := Lib.hid hal
  replace hfa := Lib.hid hfa
  go_enter Try.func39, Try.ntmps39
  have h4 : Blk (w.alloc (.cells zeroC 27)) w.heap.size 27 zeroC := Blk.new' _ _ _ rfl
  have hB1 : Below w.heap.size w (w.alloc (.cells zeroC 27)) := below_alloc (Below.refl _ _) _
  unfold zeroC at h4 hB1
  go_upto_region 1 with (fail)
  obtain ⟨w1, hw1⟩ : ∃ y, y = w.alloc (.cells zeroC 27) := ⟨_, rfl⟩
  unfold zeroC at hw1
  rw [← hw1] at h4 hB1 ⊢
  clear hw1
  replace hP := blk_then hP hB1
  replace hT := hT.then_ hB1
  replace hM := hM.then_ hB1
  have h4l := h4.lt
  obtain ⟨g4, hg4e⟩ : ∃ y, y = w.heap.size := ⟨_, rfl⟩
  obtain ⟨B, hBe⟩ : ∃ y, y = w1.heap.size := ⟨_, rfl⟩
  have hwb := Lib.hid (show w.heap.size ≤ g4 ∧ g4 ≠ g ∧ 0 < g ∧ g < w.heap.size ∧ g4 < B ∧ g < B ∧ w.heap.size ≤ B ∧ 0 < B by have := hgl.out; have := hB1.size; omega)
  rw [← hg4e] at h4 ⊢
  have kA := hal.out g i w1 hP hi hp hM h0
  have hfi := fun t j => hfa.out i t j hi
  obtain ⟨ra, hra⟩ : ∃ q, al i = q := ⟨_, rfl⟩
  rw [hra] at kA hfi
  have hr1 := hr0.out
  rw [hra] at hr1
  rw [← hBe] at kA
  replace hBe := Lib.hid hBe
  clear hg4e h0 h4l hB1 hra hr0
  cases ra with
  | fault e0 k0 =>
    have hr := Lib.hid (show r = .fault e0 k0 from hr1.symm)
    clear hr1 hfi
    go_wp2_with (go_at_call 56; refine kA.mono ?_; rintro e w9 ⟨hT9, hfe⟩; unfold faultE at hfe; subst hfe)
    rw [hr.out]
    exact ⟨rfl, hT.trans hT9, rfl⟩
  | got t0 j0 =>
    have hj0 := hfi t0 j0 rfl
    simp only [Ere.Res.bind, List.nil_append] at hr1
    replace hr1 := Lib.hid hr1
    replace hj0 := Lib.hid hj0
    clear hfi
    go_wp2_with (first
      | (go_at_call 56; refine kA.mono ?_; rintro e w5 ⟨hT5, hP5, x, bs, rfl, hO5⟩)
      | (refine wl_build1n rfl _ rfl x rfl ?_))
    have hBa := below_alloc (Below.refl w5.heap.size w5) (.cells x.C 27)
    have hs5 := hT5.size
    have hBw5 : B ≤ w5.heap.size := by have := hBe.out; omega
    have hL6 := NdL.one hO5 hBa (Nat.le_refl _) (Blk.new w5 27 x.C) hBw5
    have hT6 := (hT.trans hT5).then_ hBa
    have hM6 := (hM.turn hT5 hwb.out.2.2.1).then_ hBa
    have hP6 := blk_then hP5 hBa
    have h46 := blk_then (blk_turn h4 hT5 (by have := hwb.out; omega)) hBa
    have hB6 : B ≤ (w5.alloc (.cells x.C 27)).heap.size := Nat.le_trans hBw5 hBa.size
    obtain ⟨g6, hg6⟩ : ∃ y, y = w5.heap.size := ⟨_, rfl⟩
    obtain ⟨w6, hw6⟩ : ∃ y, y = w5.alloc (.cells x.C 27) := ⟨_, rfl⟩
    rw [← hw6] at hL6 hT6 hM6 hP6 h46 hB6 ⊢
    rw [← hg6] at hL6 ⊢
    clear hw6 hg6 hBa hs5 hBw5 hP hT hM h4 kA hT5 hP5 hO5
    go_loopw [5] (fun lv wr => ∃ (A : Option Addr) (n c : Nat) (l : List Nd) (cl : List NV) (bl : List (List Nat)) (j : Nat), lv = .slice A n c ∧ NdL wr B A n c l cl bl ∧ B ≤ wr.heap.size ∧ 1 ≤ n ∧ n ≤ j + 1 ∧ j ≤ p.size ∧ Turn g (g + 1) w wr ∧ Mx wr ∧ Blk wr g 76 (rdC p j) ∧ Blk wr g4 27 #[.int .i64 0, .int .u64 0, .int .u64 0, .int .u64 0, .int .u64 0, .slice none 0 0, .int .i64 0, .int .i64 0] ∧ r = if Ere.isAt p j 124 then Ere.patL p al (p.size + 2 - n) (j + 1) l else .got (Ere.someN 4 l) j) (fun lv _ => p.size + 2 - slLen lv)
    case atStart => exact ⟨_, 1, 1, [t0], [x], [bs], j0, rfl, hL6, hB6, Nat.le_refl _, by omega, hj0.out.2, hT6, hM6, hP6, h46, hr1.out.symm⟩
    case round =>
      clear hL6 hT6 hM6 hP6 h46 hB6 hr1
      obtain ⟨A, n, c, l, cl, bl, j, rfl, hL, hBw, hn1, hnj, hjp, hT, hM, hP, h4, hit⟩ := hrel
      obtain ⟨b124, b124_e⟩ : ∃ b, Ere.isAt p j 124 = b := ⟨_, rfl⟩
      rw [b124_e] at hit
      have k124 := is_at g p j j 124 124 wr hP rfl b124_e
      have c1 : wr.cell? ⟨g, 1, none⟩ = some (.int .i64 (j : Int)) := hP.cellv rfl
      have hjI : (j : Int) ≤ 1024 := by omega
      have hjlt := Lib.hid (fun h : b124 = true => Ere.isAt_lt (b124_e.trans h))
      clear b124_e
      have hnj2 := Lib.hid hnj
      clear hnj
      cases b124 with
      | false =>
        have hr := Lib.hid (show r = .got (Ere.someN 4 l) j by rw [hit]; simp)
        clear hit
        go_upto_region 5 with (go_at_call 57; refine k124.mono ?_; rintro e wx ⟨rfl, hBx⟩)
        clear k124 c1
        replace hL := hL.then_ hBx
        have hTx := hT.then_ hBx
        have hPx := blk_then hP hBx
        have h4x := blk_then h4 hBx
        have kS := some_any 4 wx hL
        clear hL hT hP h4 hBx
        go_wp2_with (first | (go_at_call 58; refine kS.mono ?_; rintro e w8 ⟨hB8, x, bs, rfl, hO⟩; have h48 := blk_then h4x hB8) | (refine wl_store_nv rfl _ _ rfl g4 x rfl rfl _ rfl h48 ?_; intro wz hz hgz))
        refine ret_nv rfl rfl hz rfl ?_
        rw [hr.out]
        exact ⟨(hTx.then_ hB8).grown hgz (fun q e => by injection e with e; have := hwb.out; right; omega), (blk_then hPx hB8).grown hgz (fun e => by injection e with e; have := hwb.out; omega), x, bs, rfl, (hO.mono hwb.out.2.2.2.2.2.2.1).keep (fun b hb => hgz.block b (hO.lt b hb).2 (fun e => by injection e with e; have := (hO.lt b hb).1; have := hwb.out; omega))⟩
      | true =>
        rw [if_pos rfl] at hit
        have hj1 := hjlt.out (by trivial)
        have hfu : p.size + 2 - n = (p.size + 2 - (n + 1)) + 1 := by have := hnj2.out; omega
        rw [hfu] at hit
        unfold Ere.patL at hit
        replace hit := Lib.hid hit
        replace hfu := Lib.hid hfu
        go_upto_region 3 with (go_at_call 57; refine k124.mono ?_; rintro e w2 ⟨rfl, hB2⟩)
        clear k124 c1
        replace hT := hT.then_ hB2
        replace hM := hM.then_ hB2
        replace hP := blk_then hP hB2
        replace h4 := blk_then h4 hB2
        replace hL := hL.then_ hB2
        replace hBw := Nat.le_trans hBw hB2.size
        clear hB2
        have c1 : w2.cell? ⟨g, 1, none⟩ = some (.int .i64 (j : Int)) := hP.cellv rfl
        have f1 := hP.frozen 1
        go_upto_region 4 with (fail)
        have hP3 := setRd hP (v := .int .i64 ((j : Int) + 1)) (j := j + 1) (by congr 1)
        have hTo := turnRd (Turn.refl g (g + 1) w2) 1 (.int .i64 ((j : Int) + 1))
        have hT3 := hT.trans hTo
        have hM3 := hM.turn hTo hwb.out.2.2.1
        have h43 := blk_turn h4 hTo (by have := hwb.out; omega)
        have hL3 := hL.turn hTo hwb.out.2.2.2.2.2.1
        have hBw3 := Nat.le_trans hBw hTo.size
        obtain ⟨w3, hw3⟩ : ∃ y, y = w2.setCell ⟨g, 1, none⟩ (.int .i64 ((j : Int) + 1)) := ⟨_, rfl⟩
        rw [← hw3] at hP3 hT3 hM3 h43 hL3 hBw3 ⊢
        clear hw3 hTo hT hM hP h4 hL hBw c1 f1
        have kA := hal.out g (j + 1) w3 hP3 (by omega) hp hM3 hwb.out.2.2.1
        have hfw := fun t k => hfa.out (j + 1) t k (by omega)
        obtain ⟨ra, hra⟩ : ∃ q, al (j + 1) = q := ⟨_, rfl⟩
        rw [hra] at kA hfw
        have hit2 := hit.out
        rw [hra] at hit2
        clear hra hit
        cases ra with
        | fault e0 k0 =>
          have hr := Lib.hid (show r = .fault e0 k0 by rw [hit2]; rfl)
          clear hit2 hfw
          go_wp2_with (go_at_call 56; refine kA.mono ?_; rintro e w9 ⟨hT9, hfe⟩; unfold faultE at hfe; subst hfe)
          rw [hr.out]
          exact ⟨rfl, hT3.trans hT9, rfl⟩
        | got t k =>
          have hk := hfw t k rfl
          simp only [Ere.Res.bind] at hit2
          replace hit2 := Lib.hid hit2
          replace hk := Lib.hid hk
          clear hfw
          have hn9 := Lib.hid (show n ≤ 1000000 by have := hnj2.out; omega)
          have hLl := Lib.hid hL3.lt
          replace hL3 := Lib.hid hL3
          replace hBw3 := Lib.hid hBw3
          go_wp2_with (first
            | (go_at_call 56; refine kA.mono ?_; rintro e w5 ⟨hT5, hP5, x, bs, rfl, hO5⟩
               have hs5 := Lib.hid hT5.size
               have hL6 := Lib.hid ((hL3.out.turn hT5 hwb.out.2.2.2.2.2.1).then_ (below_alloc (Below.refl w5.heap.size w5) (.cells x.C 27)))
               have hO6 := Lib.hid ((hO5.mono hBw3.out).then_ (below_alloc (Below.refl w5.heap.size w5) (.cells x.C 27)))
               have hdis := Lib.hid (show ∀ b ∈ bs, b ∉ ownL A ++ bl.flatten from fun b hb hb2 => by have := (hO5.lt b hb).1; have := (hLl.out b hb2).2; omega)
               have hBa := Lib.hid (below_alloc (Below.refl w5.heap.size w5) (.cells x.C 27)))
            | (refine wl_build1n rfl _ rfl x rfl ?_)
            | (at_builtin; refine wl_pushN rfl _ _ rfl hL6.out hO6.out hdis.out rfl _ rfl (Blk.new w5 27 x.C) hn9.out (by have := hBw3.out; have := hs5.out; have := hBa.out.size; omega) ?_; intro A' c' w7 hL7 hg7))
          have hrow : ∀ q, (Value.slice A n c).ownBlock = some q → B ≤ q := fun q hq => (hLl.out q (List.mem_append_left _ (mem_ownL.2 hq))).1
          have hTz := ((hT3.trans hT5).then_ hBa.out).grown hg7 (fun q e => by have := hrow q e; have := hwb.out; right; omega)
          have hMz := ((hM3.turn hT5 hwb.out.2.2.1).then_ hBa.out).grown hg7 (fun e => by have := hrow 0 e; have := hwb.out; omega)
          have hPz := (blk_then hP5 hBa.out).grown hg7 (fun e => by have := hrow g e.symm; have := hwb.out; omega)
          have h4z := (blk_then (blk_turn h43 hT5 (by have := hwb.out; omega)) hBa.out).grown hg7 (fun e => by have := hrow g4 e.symm; have := hwb.out; omega)
          have hBz : B ≤ w7.heap.size := by have := hBw3.out; have := hs5.out; have := hBa.out.size; have := hg7.size; omega
          exact ⟨⟨A', n + 1, c', l ++ [t], cl ++ [x], bl ++ [bs], k, rfl, hL7, hBz, by omega, by have := hk.out; have := hnj2.out; omega, hk.out.2, hTz, hMz, hPz, h4z, hit2.out⟩, by simp only [slLen]; have := hfu.out; omega⟩
/-- the reader of patterns, within so many groups -/
theorem pat_any (p : ByteArray) : ∀ n, PatOk p n
  | 0 => fun gr hgr g i w hP hi hp hM h0 => by
    unfold Ere.patR
    refine patL_any gr (by omega) _ g p i (fun g i w hP hi hp hM h0 => ?_) (fun i t j hi h => Ere.altR_fwd (fun i t j hi h => Ere.pieceR_fwd (fun f e => by cases e) h hi) _ _ _ _ _ hi h) w hP hi hp hM h0
    have := alt_any 0 gr hgr none g p i rfl w hP hi hp hM h0
    rw [decide_eq_false (show ¬ gr = 0 by omega)] at this
    exact this
  | n + 1 => fun gr hgr g i w hP hi hp hM h0 => by
    have ih := pat_any p n
    unfold Ere.patR
    refine patL_any gr (by omega) _ g p i (fun g i w hP hi hp hM h0 => ?_) (fun i t j hi h => Ere.altR_fwd (fun i t j hi h => Ere.pieceR_fwd (fun f e => by injection e with e; subst e; exact fun i t j hi h => Ere.patR_fwd n i t j hi h) h hi) _ _ _ _ _ hi h) w hP hi hp hM h0
    have := alt_any (n + 1) gr hgr (some (Ere.patR p n)) g p i ⟨ih, rfl, Ere.patR_fwd n⟩ w hP hi hp hM h0
    rw [show decide (gr = 0) = decide (n + 1 = 64) by congr 1; simp only [eq_iff_iff]; omega] at this
    exact this
end Go.Proofs.Ytajainmldcnaeaa
namespace Go.Proofs.Ytajainmldcnaeaa
open Go.RowKit Go.Maps
set_option linter.unusedVariables false
set_option linter.unusedSimpArgs false
attribute [local go_sem] Oper.semAt_some

theorem bare_any (kd : Int) (st : BSet) (A : Option Addr) (n c : Nat) (mi ma : Int) (w : World) :
    Calls Try.prog 61 #[.agg (nodeC kd st A n c mi ma)] w fun e w' => e = .returned (.bool (decide (mi = 0) && decide (ma = 0))) ∧ Below w.heap.size w w' := by
  go_enter Try.func61, Try.ntmps61
  have h1 := Blk.new w 27 (nodeC kd st A n c mi ma)
  have hB1 : Below w.heap.size w (w.alloc (.cells (nodeC kd st A n c mi ma) 27)) := below_alloc (Below.refl _ _) _
  go_upto_region 1 with (fail)
  obtain ⟨W1, hW1⟩ : ∃ y, y = w.alloc (.cells (nodeC kd st A n c mi ma) 27) := ⟨_, rfl⟩
  rw [← hW1] at h1 hB1 ⊢
  clear hW1
  have c6 : W1.cell? ⟨w.heap.size, 6, none⟩ = some (.int .i64 mi) := h1.cellv (i := 6) rfl
  have c7 : W1.cell? ⟨w.heap.size, 7, none⟩ = some (.int .i64 ma) := h1.cellv (i := 7) rfl
  by_cases e1 : mi = 0
  · subst e1
    by_cases e2 : ma = 0
    · subst e2
      go_wp2_with (fail)
      go_ret
      exact ⟨rfl, hB1⟩
    · have e3 : (ma == 0) = false := by simpa using e2
      go_wp2_with (fail)
      go_ret
      exact ⟨by simp [e2], hB1⟩
  · have e3 : (mi == 0) = false := by simpa using e1
    go_wp2_with (fail)
    go_ret
    exact ⟨by simp [e1], hB1⟩
theorem five_t {st : BSet} {n : Nat} {mi ma : Int} {z a1 a2 a3 a4 a5 a6 : Bool} (hz : decide (st = 0) = z) (g1 : (((n : Nat) : Int) == 1) = a1) (g2 : decide ((0 : Int) ≤ mi) = a2) (g3 : decide (mi ≤ (255 : Int)) = a3) (g4 : decide (ma ≤ (255 : Int)) = a4) (g5 : (ma == (-1 : Int)) = a5) (g6 : decide (mi ≤ ma) = a6) :
    (((((z && a1) && a2) && a3) && a4) && (a5 || a6)) = headOk 5 st n mi ma := by
  rw [headOk_5 hz, Bool.eq_iff_iff]
  subst g1 g2 g3 g4 g5 g6
  simp only [Bool.and_eq_true, Bool.or_eq_true, beq_iff_eq, decide_eq_true_eq]
  constructor
  · rintro ⟨⟨⟨⟨⟨h0, h1⟩, h2⟩, h3⟩, h4⟩, h5⟩
    exact ⟨⟨⟨⟨h0, by omega⟩, h2⟩, h3⟩, by omega⟩
  · rintro ⟨⟨⟨⟨h0, h1⟩, h2⟩, h3⟩, h4⟩
    exact ⟨⟨⟨⟨⟨h0, by omega⟩, h2⟩, h3⟩, by omega⟩, by omega⟩
set_option maxRecDepth 100000 in
set_option maxHeartbeats 40000000 in
theorem isTree_any (nd : Nd) : ∀ (B : Nat) (w : World) (cs : Array Value), NdIn w B nd cs → B ≤ w.heap.size →
    Calls Try.prog 43 #[.agg cs] w fun e w' => e = .returned (.bool nd.isT) ∧ Below w.heap.size w w' := by
  induction nd using Nd.ind with
  | h kd st l mi ma ih =>
  intro B w cs hin hB
  obtain ⟨A, n, c, cl, rfl, hn, hcl, hmax, hs, hr⟩ := hin.inv
  have hh : (Nd.mk kd st l mi ma).isT = (headOk kd st n mi ma && l.all Nd.isT) := by rw [hn]; simp only [Nd.isT, Nd.areT_all]
  rw [hh]
  have Hn := Lib.hid hn
  have Hcl := Lib.hid hcl
  have Hr := Lib.hid hr
  have Ih := Lib.hid ih
  clear hn hcl hr ih hh hin
  go_enter Try.func43, Try.ntmps43
  have h1 := Blk.new w 27 (nodeC kd st A n c mi ma)
  have hB1 : Below w.heap.size w (w.alloc (.cells (nodeC kd st A n c mi ma) 27)) := below_alloc (Below.refl _ _) _
  go_upto_region 1 with (fail)
  obtain ⟨W1, hW1⟩ : ∃ y, y = w.alloc (.cells (nodeC kd st A n c mi ma) 27) := ⟨_, rfl⟩
  rw [← hW1] at h1 hB1 ⊢
  clear hW1
  have hl1 := h1.lt
  have c0 : W1.cell? ⟨w.heap.size, 0, none⟩ = some (.int .i64 kd) := h1.cellv (i := 0) rfl
  obtain ⟨z, hz⟩ : ∃ z, decide (st = (0 : BSet)) = z := ⟨_, rfl⟩
  have Hz := Lib.hid hz
  clear hz
  go_upto_block 0 with (first | (refine wl_load_set_at rfl _ rfl _ _ rfl _ (node_st h1) ?_) | (refine wl_build_set0 rfl rfl ?_) | (refine wl_eql_setz rfl _ _ _ rfl _ _ rfl rfl z Hz.out ?_))
  go_cut [4] from 13 to 93 (fun v wx => v = .bool (headOk kd st n mi ma) ∧ Below W1.heap.size W1 wx)
  case first =>
    have c5 : W1.cell? ⟨w.heap.size, 5, none⟩ = some (.slice A n c) := h1.cellv (i := 5) rfl
    have c6 : W1.cell? ⟨w.heap.size, 6, none⟩ = some (.int .i64 mi) := h1.cellv (i := 6) rfl
    have c7 : W1.cell? ⟨w.heap.size, 7, none⟩ = some (.int .i64 ma) := h1.cellv (i := 7) rfl
    by_cases k167 : kd = 1 ∨ kd = 6 ∨ kd = 7
    · rcases k167 with rfl | rfl | rfl
      · go_upto_region 7 with (fail)
        cases z
        · go_wp2_with (first | (refine wl_load_node_g (want_yes rfl rfl rfl) _ rfl _ rfl _ _ _ _ _ _ _ h1 ?_) | (refine wl_load_set_at rfl _ rfl _ _ rfl _ (node_st h1) ?_) | (go_at_call 61; refine (bare_any _ _ _ _ _ _ _ _).mono ?_; rintro e w5 ⟨rfl, hB5⟩) | (go_at_call 62; refine (HH.out _).mono ?_; rintro e w5 ⟨rfl, hB5⟩))
          go_meet
          exact ⟨congrArg Value.bool (Eq.trans (by simp) (headOk_1 (by omega) Hz.out _ _ _).symm), Below.refl _ _⟩
        · by_cases hn0 : n = 0
          · subst hn0
            go_wp2_with (first | (refine wl_load_node_g (want_yes rfl rfl rfl) _ rfl _ rfl _ _ _ _ _ _ _ h1 ?_) | (refine wl_load_set_at rfl _ rfl _ _ rfl _ (node_st h1) ?_) | (go_at_call 61; refine (bare_any _ _ _ _ _ _ _ _).mono ?_; rintro e w5 ⟨rfl, hB5⟩) | (go_at_call 62; refine (HH.out _).mono ?_; rintro e w5 ⟨rfl, hB5⟩))
            go_meet
            exact ⟨congrArg Value.bool (Eq.trans (by simp) (headOk_1 (by omega) Hz.out _ _ _).symm), hB5⟩
          · have hnI : ((n : Int) == 0) = false := by simpa using hn0
            go_wp2_with (first | (refine wl_load_node_g (want_yes rfl rfl rfl) _ rfl _ rfl _ _ _ _ _ _ _ h1 ?_) | (refine wl_load_set_at rfl _ rfl _ _ rfl _ (node_st h1) ?_) | (go_at_call 61; refine (bare_any _ _ _ _ _ _ _ _).mono ?_; rintro e w5 ⟨rfl, hB5⟩) | (go_at_call 62; refine (HH.out _).mono ?_; rintro e w5 ⟨rfl, hB5⟩))
            go_meet
            exact ⟨congrArg Value.bool (Eq.trans (by simp [hn0]) (headOk_1 (by omega) Hz.out _ _ _).symm), Below.refl _ _⟩
      · go_upto_region 7 with (fail)
        cases z
        · go_wp2_with (first | (refine wl_load_node_g (want_yes rfl rfl rfl) _ rfl _ rfl _ _ _ _ _ _ _ h1 ?_) | (refine wl_load_set_at rfl _ rfl _ _ rfl _ (node_st h1) ?_) | (go_at_call 61; refine (bare_any _ _ _ _ _ _ _ _).mono ?_; rintro e w5 ⟨rfl, hB5⟩) | (go_at_call 62; refine (HH.out _).mono ?_; rintro e w5 ⟨rfl, hB5⟩))
          go_meet
          exact ⟨congrArg Value.bool (Eq.trans (by simp) (headOk_1 (by omega) Hz.out _ _ _).symm), Below.refl _ _⟩
        · by_cases hn0 : n = 0
          · subst hn0
            go_wp2_with (first | (refine wl_load_node_g (want_yes rfl rfl rfl) _ rfl _ rfl _ _ _ _ _ _ _ h1 ?_) | (refine wl_load_set_at rfl _ rfl _ _ rfl _ (node_st h1) ?_) | (go_at_call 61; refine (bare_any _ _ _ _ _ _ _ _).mono ?_; rintro e w5 ⟨rfl, hB5⟩) | (go_at_call 62; refine (HH.out _).mono ?_; rintro e w5 ⟨rfl, hB5⟩))
            go_meet
            exact ⟨congrArg Value.bool (Eq.trans (by simp) (headOk_1 (by omega) Hz.out _ _ _).symm), hB5⟩
          · have hnI : ((n : Int) == 0) = false := by simpa using hn0
            go_wp2_with (first | (refine wl_load_node_g (want_yes rfl rfl rfl) _ rfl _ rfl _ _ _ _ _ _ _ h1 ?_) | (refine wl_load_set_at rfl _ rfl _ _ rfl _ (node_st h1) ?_) | (go_at_call 61; refine (bare_any _ _ _ _ _ _ _ _).mono ?_; rintro e w5 ⟨rfl, hB5⟩) | (go_at_call 62; refine (HH.out _).mono ?_; rintro e w5 ⟨rfl, hB5⟩))
            go_meet
            exact ⟨congrArg Value.bool (Eq.trans (by simp [hn0]) (headOk_1 (by omega) Hz.out _ _ _).symm), Below.refl _ _⟩
      · go_upto_region 7 with (fail)
        cases z
        · go_wp2_with (first | (refine wl_load_node_g (want_yes rfl rfl rfl) _ rfl _ rfl _ _ _ _ _ _ _ h1 ?_) | (refine wl_load_set_at rfl _ rfl _ _ rfl _ (node_st h1) ?_) | (go_at_call 61; refine (bare_any _ _ _ _ _ _ _ _).mono ?_; rintro e w5 ⟨rfl, hB5⟩) | (go_at_call 62; refine (HH.out _).mono ?_; rintro e w5 ⟨rfl, hB5⟩))
          go_meet
          exact ⟨congrArg Value.bool (Eq.trans (by simp) (headOk_1 (by omega) Hz.out _ _ _).symm), Below.refl _ _⟩
        · by_cases hn0 : n = 0
          · subst hn0
            go_wp2_with (first | (refine wl_load_node_g (want_yes rfl rfl rfl) _ rfl _ rfl _ _ _ _ _ _ _ h1 ?_) | (refine wl_load_set_at rfl _ rfl _ _ rfl _ (node_st h1) ?_) | (go_at_call 61; refine (bare_any _ _ _ _ _ _ _ _).mono ?_; rintro e w5 ⟨rfl, hB5⟩) | (go_at_call 62; refine (HH.out _).mono ?_; rintro e w5 ⟨rfl, hB5⟩))
            go_meet
            exact ⟨congrArg Value.bool (Eq.trans (by simp) (headOk_1 (by omega) Hz.out _ _ _).symm), hB5⟩
          · have hnI : ((n : Int) == 0) = false := by simpa using hn0
            go_wp2_with (first | (refine wl_load_node_g (want_yes rfl rfl rfl) _ rfl _ rfl _ _ _ _ _ _ _ h1 ?_) | (refine wl_load_set_at rfl _ rfl _ _ rfl _ (node_st h1) ?_) | (go_at_call 61; refine (bare_any _ _ _ _ _ _ _ _).mono ?_; rintro e w5 ⟨rfl, hB5⟩) | (go_at_call 62; refine (HH.out _).mono ?_; rintro e w5 ⟨rfl, hB5⟩))
            go_meet
            exact ⟨congrArg Value.bool (Eq.trans (by simp [hn0]) (headOk_1 (by omega) Hz.out _ _ _).symm), Below.refl _ _⟩
    by_cases k2 : kd = 2
    · subst k2
      have hh := fun W => has_any st 10 (by omega) W
      obtain ⟨q, hq⟩ : ∃ q, st.getLsbD 10 = q := ⟨_, rfl⟩
      rw [hq] at hh
      have HH := Lib.hid hh
      have Hq := Lib.hid hq
      clear hh hq
      have hc5 := fun w' (hb : Below W1.heap.size W1 w') => (blk_then h1 hb).cellv (i := 5) (v := .slice A n c) rfl
      have Hc5 := Lib.hid hc5
      clear hc5 c5
      go_upto_region 9 with (fail)
      cases q
      · by_cases hn0 : n = 0
        · subst hn0
          go_wp2_with (first | (refine wl_load_set_at rfl _ rfl _ _ rfl _ (node_st h1) ?_) | (go_at_call 62; refine (HH.out _).mono ?_; rintro e w5 ⟨rfl, hB5⟩; have c5 := Hc5.out _ hB5; replace h1 := blk_then h1 hB5) | (refine wl_load_node_g (want_yes rfl rfl rfl) _ rfl _ rfl _ _ _ _ _ _ _ h1 ?_) | (go_at_call 61; refine (bare_any _ _ _ _ _ _ _ _).mono ?_; rintro e w6 ⟨rfl, hB6⟩))
          go_meet
          exact ⟨congrArg Value.bool (Eq.trans (by simp) (headOk_2 Hq.out _ _ _).symm), below_then hB5 hB6⟩
        · have hnI : ((n : Int) == 0) = false := by simpa using hn0
          go_wp2_with (first | (refine wl_load_set_at rfl _ rfl _ _ rfl _ (node_st h1) ?_) | (go_at_call 62; refine (HH.out _).mono ?_; rintro e w5 ⟨rfl, hB5⟩; have c5 := Hc5.out _ hB5; replace h1 := blk_then h1 hB5) | (refine wl_load_node_g (want_yes rfl rfl rfl) _ rfl _ rfl _ _ _ _ _ _ _ h1 ?_) | (go_at_call 61; refine (bare_any _ _ _ _ _ _ _ _).mono ?_; rintro e w6 ⟨rfl, hB6⟩))
          go_meet
          exact ⟨congrArg Value.bool (Eq.trans (by simp [hn0]) (headOk_2 Hq.out _ _ _).symm), hB5⟩
      · go_wp2_with (first | (refine wl_load_set_at rfl _ rfl _ _ rfl _ (node_st h1) ?_) | (go_at_call 62; refine (HH.out _).mono ?_; rintro e w5 ⟨rfl, hB5⟩; have c5 := Hc5.out _ hB5; replace h1 := blk_then h1 hB5) | (refine wl_load_node_g (want_yes rfl rfl rfl) _ rfl _ rfl _ _ _ _ _ _ _ h1 ?_) | (go_at_call 61; refine (bare_any _ _ _ _ _ _ _ _).mono ?_; rintro e w6 ⟨rfl, hB6⟩))
        go_meet
        exact ⟨congrArg Value.bool (Eq.trans (by simp) (headOk_2 Hq.out _ _ _).symm), hB5⟩
    by_cases k34 : kd = 3 ∨ kd = 4
    · rcases k34 with rfl | rfl
      · go_upto_region 12 with (fail)
        cases z
        · go_wp2_with (first | (refine wl_load_node_g (want_yes rfl rfl rfl) _ rfl _ rfl _ _ _ _ _ _ _ h1 ?_) | (refine wl_load_set_at rfl _ rfl _ _ rfl _ (node_st h1) ?_) | (go_at_call 61; refine (bare_any _ _ _ _ _ _ _ _).mono ?_; rintro e w5 ⟨rfl, hB5⟩) | (go_at_call 62; refine (HH.out _).mono ?_; rintro e w5 ⟨rfl, hB5⟩))
          go_meet
          exact ⟨congrArg Value.bool (Eq.trans (by simp) (headOk_3 (by omega) Hz.out _ _ _).symm), Below.refl _ _⟩
        · by_cases hn2 : 2 ≤ n
          · have hnI : decide (2 ≤ (n : Int)) = true := by simp; omega
            go_wp2_with (first | (refine wl_load_node_g (want_yes rfl rfl rfl) _ rfl _ rfl _ _ _ _ _ _ _ h1 ?_) | (refine wl_load_set_at rfl _ rfl _ _ rfl _ (node_st h1) ?_) | (go_at_call 61; refine (bare_any _ _ _ _ _ _ _ _).mono ?_; rintro e w5 ⟨rfl, hB5⟩) | (go_at_call 62; refine (HH.out _).mono ?_; rintro e w5 ⟨rfl, hB5⟩))
            go_meet
            exact ⟨congrArg Value.bool (Eq.trans (by simp [hn2]) (headOk_3 (by omega) Hz.out _ _ _).symm), hB5⟩
          · have hnI : decide (2 ≤ (n : Int)) = false := by simp; omega
            go_wp2_with (first | (refine wl_load_node_g (want_yes rfl rfl rfl) _ rfl _ rfl _ _ _ _ _ _ _ h1 ?_) | (refine wl_load_set_at rfl _ rfl _ _ rfl _ (node_st h1) ?_) | (go_at_call 61; refine (bare_any _ _ _ _ _ _ _ _).mono ?_; rintro e w5 ⟨rfl, hB5⟩) | (go_at_call 62; refine (HH.out _).mono ?_; rintro e w5 ⟨rfl, hB5⟩))
            go_meet
            exact ⟨congrArg Value.bool (Eq.trans (by simp [hn2]) (headOk_3 (by omega) Hz.out _ _ _).symm), Below.refl _ _⟩
      · go_upto_region 12 with (fail)
        cases z
        · go_wp2_with (first | (refine wl_load_node_g (want_yes rfl rfl rfl) _ rfl _ rfl _ _ _ _ _ _ _ h1 ?_) | (refine wl_load_set_at rfl _ rfl _ _ rfl _ (node_st h1) ?_) | (go_at_call 61; refine (bare_any _ _ _ _ _ _ _ _).mono ?_; rintro e w5 ⟨rfl, hB5⟩) | (go_at_call 62; refine (HH.out _).mono ?_; rintro e w5 ⟨rfl, hB5⟩))
          go_meet
          exact ⟨congrArg Value.bool (Eq.trans (by simp) (headOk_3 (by omega) Hz.out _ _ _).symm), Below.refl _ _⟩
        · by_cases hn2 : 2 ≤ n
          · have hnI : decide (2 ≤ (n : Int)) = true := by simp; omega
            go_wp2_with (first | (refine wl_load_node_g (want_yes rfl rfl rfl) _ rfl _ rfl _ _ _ _ _ _ _ h1 ?_) | (refine wl_load_set_at rfl _ rfl _ _ rfl _ (node_st h1) ?_) | (go_at_call 61; refine (bare_any _ _ _ _ _ _ _ _).mono ?_; rintro e w5 ⟨rfl, hB5⟩) | (go_at_call 62; refine (HH.out _).mono ?_; rintro e w5 ⟨rfl, hB5⟩))
            go_meet
            exact ⟨congrArg Value.bool (Eq.trans (by simp [hn2]) (headOk_3 (by omega) Hz.out _ _ _).symm), hB5⟩
          · have hnI : decide (2 ≤ (n : Int)) = false := by simp; omega
            go_wp2_with (first | (refine wl_load_node_g (want_yes rfl rfl rfl) _ rfl _ rfl _ _ _ _ _ _ _ h1 ?_) | (refine wl_load_set_at rfl _ rfl _ _ rfl _ (node_st h1) ?_) | (go_at_call 61; refine (bare_any _ _ _ _ _ _ _ _).mono ?_; rintro e w5 ⟨rfl, hB5⟩) | (go_at_call 62; refine (HH.out _).mono ?_; rintro e w5 ⟨rfl, hB5⟩))
            go_meet
            exact ⟨congrArg Value.bool (Eq.trans (by simp [hn2]) (headOk_3 (by omega) Hz.out _ _ _).symm), Below.refl _ _⟩
    by_cases k5 : kd = 5
    · subst k5
      go_upto_region 14 with (fail)
      obtain ⟨a1, g1⟩ : ∃ q, (((n : Nat) : Int) == 1) = q := ⟨_, rfl⟩
      obtain ⟨a2, g2⟩ : ∃ q, (decide ((0 : Int) ≤ mi)) = q := ⟨_, rfl⟩
      obtain ⟨a3, g3⟩ : ∃ q, (decide (mi ≤ (255 : Int))) = q := ⟨_, rfl⟩
      obtain ⟨a4, g4⟩ : ∃ q, (decide (ma ≤ (255 : Int))) = q := ⟨_, rfl⟩
      obtain ⟨a5, g5⟩ : ∃ q, (ma == (-1 : Int)) = q := ⟨_, rfl⟩
      obtain ⟨a6, g6⟩ : ∃ q, (decide (mi ≤ ma)) = q := ⟨_, rfl⟩
      have hfive : (((((z && a1) && a2) && a3) && a4) && (a5 || a6)) = headOk 5 st n mi ma := five_t Hz.out g1 g2 g3 g4 g5 g6
      refine wp_region_text 35 [eqS (.bool z), eqS (.bool z), eqS (vF (true && (z == true)) (.pointer (some ⟨w.heap.size, 5, none⟩))), eqS (vF (true && (z == true)) (.slice A n c)), eqS (vF (true && (z == true)) (.int .i64 (((n : Nat) : Int)))), eqS (vF (true && (z == true)) (.bool a1)), eqS (.bool (z && a1)), eqS (.bool (z && a1)), eqS (vF (true && ((z && a1) == true)) (.pointer (some ⟨w.heap.size, 6, none⟩))), eqS (vF (true && ((z && a1) == true)) (.int .i64 (mi))), eqS (vF (true && ((z && a1) == true)) (.bool a2)), eqS (.bool ((z && a1) && a2)), eqS (.bool ((z && a1) && a2)), eqS (vF (true && (((z && a1) && a2) == true)) (.pointer (some ⟨w.heap.size, 6, none⟩))), eqS (vF (true && (((z && a1) && a2) == true)) (.int .i64 (mi))), eqS (vF (true && (((z && a1) && a2) == true)) (.bool a3)), eqS (.bool (((z && a1) && a2) && a3)), eqS (.bool (((z && a1) && a2) && a3)), eqS (vF (true && ((((z && a1) && a2) && a3) == true)) (.pointer (some ⟨w.heap.size, 7, none⟩))), eqS (vF (true && ((((z && a1) && a2) && a3) == true)) (.int .i64 (ma))), eqS (vF (true && ((((z && a1) && a2) && a3) == true)) (.bool a4)), eqS (.bool ((((z && a1) && a2) && a3) && a4)), eqS (.bool ((((z && a1) && a2) && a3) && a4)), eqS (vF (true && (((((z && a1) && a2) && a3) && a4) == true)) (.pointer (some ⟨w.heap.size, 7, none⟩))), eqS (vF (true && (((((z && a1) && a2) && a3) && a4) == true)) (.int .i64 (ma))), eqS (vF (true && (((((z && a1) && a2) && a3) && a4) == true)) (.bool a5)), eqS (vF (true && (((((z && a1) && a2) && a3) && a4) == true)) (.bool a5)), eqS (vF ((true && (((((z && a1) && a2) && a3) && a4) == true)) && (a5 == false)) (.pointer (some ⟨w.heap.size, 7, none⟩))), eqS (vF ((true && (((((z && a1) && a2) && a3) && a4) == true)) && (a5 == false)) (.int .i64 (ma))), eqS (vF ((true && (((((z && a1) && a2) && a3) && a4) == true)) && (a5 == false)) (.pointer (some ⟨w.heap.size, 6, none⟩))), eqS (vF ((true && (((((z && a1) && a2) && a3) && a4) == true)) && (a5 == false)) (.int .i64 (mi))), eqS (vF ((true && (((((z && a1) && a2) && a3) && a4) == true)) && (a5 == false)) (.bool a6)), eqS (vF (true && (((((z && a1) && a2) && a3) && a4) == true)) (.bool (a5 || a6))), eqS (.bool (((((z && a1) && a2) && a3) && a4) && (a5 || a6))), eqS (.bool (((((z && a1) && a2) && a3) && a4) && (a5 || a6)))] [60, 61, 62, 63, 64, 65, 66, 67, 68, 69, 70, 71, 72, 73, 74, 75, 76, 77, 78, 79, 80, 81, 82, 83, 84, 85, 86, 87, 88, 89, 90, 91, 92, 93, 4] (by kernel_rfl) rfl ?_ ?_
      · skip
        refine Steps.cons (fun a' w' hG hB dep => gs_move (want_none rfl) _ rfl (id (hG.other 3 rfl))) ?_
        refine Steps.cons (fun a' w' hG hB dep => gs_move (want_none rfl) _ rfl (id (dep 0 rfl 60 rfl))) ?_
        refine Steps.cons (fun a' w' hG hB dep => gs_guard (c := true) (b' := z) rfl rfl (dep 1 rfl 61 rfl) (fun hc he hw => gs_field hw _ _ _ rfl w.heap.size (0) (5) (hG.other 1 rfl) (fun wz => field_node_2 w.heap.size (0) wz) (vF_yes (on_g hc he) _).symm) (fun hn => vF_no hn _)) ?_
        refine Steps.cons (fun a' w' hG hB dep => gs_guard (c := true) (b' := z) rfl rfl (dep 1 rfl 61 rfl) (fun hc he hw => gs_load1 hw _ _ rfl w.heap.size (5) (Eq.trans (dep 2 rfl 62 rfl) (vF_yes (on_g hc he) _)) (.slice A n c) ((blk_then h1 hB).cellv (i := 5) rfl) _ Try.underlying25 rfl (vF_yes (on_g hc he) _).symm) (fun hn => vF_no hn _)) ?_
        refine Steps.cons (fun a' w' hG hB dep => gs_guard (c := true) (b' := z) rfl rfl (dep 1 rfl 61 rfl) (fun hc he hw => gs_len hw _ _ rfl under_nodes _ n c (Eq.trans (dep 3 rfl 63 rfl) (vF_yes (on_g hc he) _)) (vF_yes (on_g hc he) _).symm) (fun hn => vF_no hn _)) ?_
        refine Steps.cons (fun a' w' hG hB dep => gs_guard (c := true) (b' := z) rfl rfl (dep 1 rfl 61 rfl) (fun hc he hw => gs_eql_int hw _ _ _ _ rfl _ _ _ (Eq.trans (dep 4 rfl 64 rfl) (vF_yes (on_g hc he) _)) rfl (Eq.trans (congrArg Value.bool g1) (vF_yes (on_g hc he) _).symm)) (fun hn => vF_no hn _)) ?_
        refine Steps.cons (fun a' w' hG hB dep => gs_pick (want_none rfl) _ _ _ rfl z (dep 1 rfl 61 rfl) (id (pick_and2 (c := true) rfl (dep 5 rfl 65 rfl)))) ?_
        refine Steps.cons (fun a' w' hG hB dep => gs_move (want_none rfl) _ rfl (id (dep 6 rfl 66 rfl))) ?_
        refine Steps.cons (fun a' w' hG hB dep => gs_guard (c := true) (b' := (z && a1)) rfl rfl (dep 7 rfl 67 rfl) (fun hc he hw => gs_field hw _ _ _ rfl w.heap.size (0) (6) (hG.other 1 rfl) (fun wz => field_node_3 w.heap.size (0) wz) (vF_yes (on_g hc he) _).symm) (fun hn => vF_no hn _)) ?_
        refine Steps.cons (fun a' w' hG hB dep => gs_guard (c := true) (b' := (z && a1)) rfl rfl (dep 7 rfl 67 rfl) (fun hc he hw => gs_load1 hw _ _ rfl w.heap.size (6) (Eq.trans (dep 8 rfl 68 rfl) (vF_yes (on_g hc he) _)) (.int .i64 (mi)) ((blk_then h1 hB).cellv (i := 6) rfl) _ Try.underlying3 rfl (vF_yes (on_g hc he) _).symm) (fun hn => vF_no hn _)) ?_
        refine Steps.cons (fun a' w' hG hB dep => gs_guard (c := true) (b' := (z && a1)) rfl rfl (dep 7 rfl 67 rfl) (fun hc he hw => gs_geq_int hw _ _ _ _ rfl _ _ _ (Eq.trans (dep 9 rfl 69 rfl) (vF_yes (on_g hc he) _)) rfl (Eq.trans (congrArg Value.bool g2) (vF_yes (on_g hc he) _).symm)) (fun hn => vF_no hn _)) ?_
        refine Steps.cons (fun a' w' hG hB dep => gs_pick (want_none rfl) _ _ _ rfl (z && a1) (dep 7 rfl 67 rfl) (id (pick_and2 (c := true) rfl (dep 10 rfl 70 rfl)))) ?_
        refine Steps.cons (fun a' w' hG hB dep => gs_move (want_none rfl) _ rfl (id (dep 11 rfl 71 rfl))) ?_
        refine Steps.cons (fun a' w' hG hB dep => gs_guard (c := true) (b' := ((z && a1) && a2)) rfl rfl (dep 12 rfl 72 rfl) (fun hc he hw => gs_field hw _ _ _ rfl w.heap.size (0) (6) (hG.other 1 rfl) (fun wz => field_node_3 w.heap.size (0) wz) (vF_yes (on_g hc he) _).symm) (fun hn => vF_no hn _)) ?_
        refine Steps.cons (fun a' w' hG hB dep => gs_guard (c := true) (b' := ((z && a1) && a2)) rfl rfl (dep 12 rfl 72 rfl) (fun hc he hw => gs_load1 hw _ _ rfl w.heap.size (6) (Eq.trans (dep 13 rfl 73 rfl) (vF_yes (on_g hc he) _)) (.int .i64 (mi)) ((blk_then h1 hB).cellv (i := 6) rfl) _ Try.underlying3 rfl (vF_yes (on_g hc he) _).symm) (fun hn => vF_no hn _)) ?_
        refine Steps.cons (fun a' w' hG hB dep => gs_guard (c := true) (b' := ((z && a1) && a2)) rfl rfl (dep 12 rfl 72 rfl) (fun hc he hw => gs_leq_int hw _ _ _ _ rfl _ _ _ (Eq.trans (dep 14 rfl 74 rfl) (vF_yes (on_g hc he) _)) rfl (Eq.trans (congrArg Value.bool g3) (vF_yes (on_g hc he) _).symm)) (fun hn => vF_no hn _)) ?_
        refine Steps.cons (fun a' w' hG hB dep => gs_pick (want_none rfl) _ _ _ rfl ((z && a1) && a2) (dep 12 rfl 72 rfl) (id (pick_and2 (c := true) rfl (dep 15 rfl 75 rfl)))) ?_
        refine Steps.cons (fun a' w' hG hB dep => gs_move (want_none rfl) _ rfl (id (dep 16 rfl 76 rfl))) ?_
        refine Steps.cons (fun a' w' hG hB dep => gs_guard (c := true) (b' := (((z && a1) && a2) && a3)) rfl rfl (dep 17 rfl 77 rfl) (fun hc he hw => gs_field hw _ _ _ rfl w.heap.size (0) (7) (hG.other 1 rfl) (fun wz => field_node_4 w.heap.size (0) wz) (vF_yes (on_g hc he) _).symm) (fun hn => vF_no hn _)) ?_
        refine Steps.cons (fun a' w' hG hB dep => gs_guard (c := true) (b' := (((z && a1) && a2) && a3)) rfl rfl (dep 17 rfl 77 rfl) (fun hc he hw => gs_load1 hw _ _ rfl w.heap.size (7) (Eq.trans (dep 18 rfl 78 rfl) (vF_yes (on_g hc he) _)) (.int .i64 (ma)) ((blk_then h1 hB).cellv (i := 7) rfl) _ Try.underlying3 rfl (vF_yes (on_g hc he) _).symm) (fun hn => vF_no hn _)) ?_
        refine Steps.cons (fun a' w' hG hB dep => gs_guard (c := true) (b' := (((z && a1) && a2) && a3)) rfl rfl (dep 17 rfl 77 rfl) (fun hc he hw => gs_leq_int hw _ _ _ _ rfl _ _ _ (Eq.trans (dep 19 rfl 79 rfl) (vF_yes (on_g hc he) _)) rfl (Eq.trans (congrArg Value.bool g4) (vF_yes (on_g hc he) _).symm)) (fun hn => vF_no hn _)) ?_
        refine Steps.cons (fun a' w' hG hB dep => gs_pick (want_none rfl) _ _ _ rfl (((z && a1) && a2) && a3) (dep 17 rfl 77 rfl) (id (pick_and2 (c := true) rfl (dep 20 rfl 80 rfl)))) ?_
        refine Steps.cons (fun a' w' hG hB dep => gs_move (want_none rfl) _ rfl (id (dep 21 rfl 81 rfl))) ?_
        refine Steps.cons (fun a' w' hG hB dep => gs_guard (c := true) (b' := ((((z && a1) && a2) && a3) && a4)) rfl rfl (dep 22 rfl 82 rfl) (fun hc he hw => gs_field hw _ _ _ rfl w.heap.size (0) (7) (hG.other 1 rfl) (fun wz => field_node_4 w.heap.size (0) wz) (vF_yes (on_g hc he) _).symm) (fun hn => vF_no hn _)) ?_
        refine Steps.cons (fun a' w' hG hB dep => gs_guard (c := true) (b' := ((((z && a1) && a2) && a3) && a4)) rfl rfl (dep 22 rfl 82 rfl) (fun hc he hw => gs_load1 hw _ _ rfl w.heap.size (7) (Eq.trans (dep 23 rfl 83 rfl) (vF_yes (on_g hc he) _)) (.int .i64 (ma)) ((blk_then h1 hB).cellv (i := 7) rfl) _ Try.underlying3 rfl (vF_yes (on_g hc he) _).symm) (fun hn => vF_no hn _)) ?_
        refine Steps.cons (fun a' w' hG hB dep => gs_guard (c := true) (b' := ((((z && a1) && a2) && a3) && a4)) rfl rfl (dep 22 rfl 82 rfl) (fun hc he hw => gs_eql_int hw _ _ _ _ rfl _ _ _ (Eq.trans (dep 24 rfl 84 rfl) (vF_yes (on_g hc he) _)) rfl (Eq.trans (congrArg Value.bool g5) (vF_yes (on_g hc he) _).symm)) (fun hn => vF_no hn _)) ?_
        refine Steps.cons (fun a' w' hG hB dep => gs_guard (c := true) (b' := ((((z && a1) && a2) && a3) && a4)) rfl rfl (dep 22 rfl 82 rfl) (fun hc he hw => gs_move hw _ rfl (Eq.trans (Eq.trans (dep 25 rfl 85 rfl) (vF_yes (on_g hc he) _)) (vF_yes (on_g hc he) _).symm)) (fun hn => vF_no hn _)) ?_
        refine Steps.cons (fun a' w' hG hB dep => gs_guard (c := (true && (((((z && a1) && a2) && a3) && a4) == true))) (b' := a5) rfl rfl (dep 26 rfl 86 rfl) (fun hc he hw => gs_field hw _ _ _ rfl w.heap.size (0) (7) (hG.other 1 rfl) (fun wz => field_node_4 w.heap.size (0) wz) (vF_yes (on_g hc he) _).symm) (fun hn => vF_no hn _)) ?_
        refine Steps.cons (fun a' w' hG hB dep => gs_guard (c := (true && (((((z && a1) && a2) && a3) && a4) == true))) (b' := a5) rfl rfl (dep 26 rfl 86 rfl) (fun hc he hw => gs_load1 hw _ _ rfl w.heap.size (7) (Eq.trans (dep 27 rfl 87 rfl) (vF_yes (on_g hc he) _)) (.int .i64 (ma)) ((blk_then h1 hB).cellv (i := 7) rfl) _ Try.underlying3 rfl (vF_yes (on_g hc he) _).symm) (fun hn => vF_no hn _)) ?_
        refine Steps.cons (fun a' w' hG hB dep => gs_guard (c := (true && (((((z && a1) && a2) && a3) && a4) == true))) (b' := a5) rfl rfl (dep 26 rfl 86 rfl) (fun hc he hw => gs_field hw _ _ _ rfl w.heap.size (0) (6) (hG.other 1 rfl) (fun wz => field_node_3 w.heap.size (0) wz) (vF_yes (on_g hc he) _).symm) (fun hn => vF_no hn _)) ?_
        refine Steps.cons (fun a' w' hG hB dep => gs_guard (c := (true && (((((z && a1) && a2) && a3) && a4) == true))) (b' := a5) rfl rfl (dep 26 rfl 86 rfl) (fun hc he hw => gs_load1 hw _ _ rfl w.heap.size (6) (Eq.trans (dep 29 rfl 89 rfl) (vF_yes (on_g hc he) _)) (.int .i64 (mi)) ((blk_then h1 hB).cellv (i := 6) rfl) _ Try.underlying3 rfl (vF_yes (on_g hc he) _).symm) (fun hn => vF_no hn _)) ?_
        refine Steps.cons (fun a' w' hG hB dep => gs_guard (c := (true && (((((z && a1) && a2) && a3) && a4) == true))) (b' := a5) rfl rfl (dep 26 rfl 86 rfl) (fun hc he hw => gs_geq_int hw _ _ _ _ rfl _ _ _ (Eq.trans (dep 28 rfl 88 rfl) (vF_yes (on_g hc he) _)) (Eq.trans (dep 30 rfl 90 rfl) (vF_yes (on_g hc he) _)) (Eq.trans (congrArg Value.bool g6) (vF_yes (on_g hc he) _).symm)) (fun hn => vF_no hn _)) ?_
        refine Steps.cons (fun a' w' hG hB dep => gs_guard (c := true) (b' := ((((z && a1) && a2) && a3) && a4)) rfl rfl (dep 22 rfl 82 rfl) (fun hc he hw => gs_pick hw _ _ _ rfl a5 (Eq.trans (dep 26 rfl 86 rfl) (vF_yes (on_g hc he) _)) (Eq.trans (pick_or2 (c := (true && (((((z && a1) && a2) && a3) && a4) == true))) (on_g hc he) (dep 31 rfl 91 rfl)) (vF_yes (on_g hc he) _).symm)) (fun hn => vF_no hn _)) ?_
        refine Steps.cons (fun a' w' hG hB dep => gs_pick (want_none rfl) _ _ _ rfl ((((z && a1) && a2) && a3) && a4) (dep 22 rfl 82 rfl) (id (pick_and2 (c := true) rfl (dep 32 rfl 92 rfl)))) ?_
        refine Steps.cons (fun a' w' hG hB dep => gs_assign (want_none rfl) _ rfl (id (dep 33 rfl 93 rfl))) ?_
        exact Steps.nil
      intro u w2 hB2 ans
      have hu4 : u 4 = .bool (headOk 5 st n mi ma) := (ans 34 4 (by decide) rfl).trans (congrArg Value.bool hfive)
      clear ans hfive g1 g2 g3 g4 g5 g6
      simp only [putAll, List.foldl_cons, List.foldl_nil, Act.put, List.setIfInBounds_toArray, List.set_cons_zero, List.set_cons_succ, hu4]
      clear hu4
      simp only [List.drop]
      refine wpList_nil ?_
      go_wp2_with (fail)
      go_meet
      exact ⟨rfl, hB2⟩
    have e1 : (kd == 1) = false := by simp; omega
    have e2 : (kd == 2) = false := by simp; omega
    have e3 : (kd == 3) = false := by simp; omega
    have e4 : (kd == 4) = false := by simp; omega
    have e5 : (kd == 5) = false := by simp; omega
    have e6 : (kd == 6) = false := by simp; omega
    have e7 : (kd == 7) = false := by simp; omega
    go_wp2_with (fail)
    go_meet
    exact ⟨congrArg Value.bool (by unfold headOk; rw [if_neg k167, if_neg k2, if_neg k34, if_neg k5]), Below.refl _ _⟩
  case rest =>
    obtain ⟨rfl, hBc⟩ := hcut
    obtain ⟨b, hb⟩ : ∃ b, headOk kd st n mi ma = b := ⟨_, rfl⟩
    rw [hb]
    have h2 := blk_then h1 hBc
    have hB2 := below_then hB1 hBc
    have c5 : wc.cell? ⟨w.heap.size, 5, none⟩ = some (.slice A n c) := h2.cellv (i := 5) rfl
    have Hb := Lib.hid hb
    clear hb h1 hB1 hl1 c0 hBc Hz
    go_wp2_with (fail)
    go_loopw [4, 97] (fun v i wr => ∃ k : Nat, k ≤ n ∧ i = .int .i64 k ∧ v = .bool (b && (l.take k).all Nd.isT) ∧ Below w.heap.size w wr) (fun _ i _ => n - (intOf i).toNat)
    case atStart => exact ⟨0, by omega, rfl, by simp, hB2⟩
    case round =>
      clear hB2 h2 c5
      obtain ⟨k, hk, rfl, rfl, hBw⟩ := hrel
      by_cases hkn : k < n
      · have hkI : (k : Int) < n := by omega
        have hkl : k < l.length := by rw [← Hn.out]; exact hkn
        have hkc : k < cl.length := by rw [Hcl.out]; exact hkl
        obtain ⟨ba, off, rfl, hba, hrows⟩ := hs.at_ (by omega)
        have hrow := (hrows k hkc).keep (hBw.block ba (by omega))
        have hsub := Hr.out k hkl hkc
        obtain ⟨⟨kd', st', l', mi', ma'⟩, hx⟩ : ∃ x, x = l[k] := ⟨_, rfl⟩
        rw [← hx] at hsub
        obtain ⟨A', n', c', cl', hce, -⟩ := hsub.inv
        rw [hce] at hrow hsub
        have hst : (l.take (k + 1)).all Nd.isT = ((l.take k).all Nd.isT && (Nd.mk kd' st' l' mi' ma').isT) := by
          rw [List.take_succ_eq_append_getElem hkl, List.all_append, ← hx]
          simp
        have hmem : Nd.mk kd' st' l' mi' ma' ∈ l := by rw [hx]; exact List.getElem_mem hkl
        obtain ⟨y, hy⟩ : ∃ y, (b && (l.take k).all Nd.isT) = y := ⟨_, rfl⟩
        obtain ⟨u, hu⟩ : ∃ u, (Nd.mk kd' st' l' mi' ma').isT = u := ⟨_, rfl⟩
        have hst2 : (b && (l.take (k + 1)).all Nd.isT) = (y && u) := by rw [hst, ← Bool.and_assoc, hy, hu]
        rw [hy]
        have hcall := fun W h => Ih.out _ hmem B W _ (hsub.keep (w' := W) h)
        rw [hu] at hcall
        have Hcall := Lib.hid hcall
        have Hst := Lib.hid hst2
        have hkb : k < 1099511628000 := by omega
        clear hcall hst2 hst hy hu hx hce hsub
        go_upto_region 18 with (first | (refine wl_load_node_at rfl _ rfl _ _ rfl _ _ _ _ _ _ _ hrow ?_) | (refine wl_store_node rfl _ _ rfl _ _ _ _ _ _ _ _ rfl rfl (nodeC 0 0 none 0 0 0 0) rfl (Blk.new _ _ _) ?_; intro w3 h5 hg3))
        have hB3 := below_grown (below_alloc (Below.refl _ wr) (.cells (nodeC 0 0 none 0 0 0 0) 27)) hg3 (Nat.le_refl _)
        replace hBw := below_then hBw hB3
        clear hrow hrows hB3 hg3
        cases y
        · go_wp2_with (fail)
          exact ⟨⟨k + 1, by omega, rfl, by rw [Hst.out]; rfl, hBw⟩, by simp only [intOf]; omega⟩
        · go_wp2_with (first | (refine wl_load_node_g (want_yes rfl rfl rfl) _ rfl _ rfl _ _ _ _ _ _ _ h5 ?_) | (go_at_call 43; refine (Hcall.out _ (fun j hj => hBw.block j (by omega)) (by have := hBw.size; omega)).mono ?_; rintro e w5 ⟨rfl, hB5⟩))
          exact ⟨⟨k + 1, by omega, rfl, by rw [Hst.out]; rfl, below_then hBw hB5⟩, by simp only [intOf]; omega⟩
      · have hkI : ¬ (k : Int) < n := by omega
        have hke : l.take k = l := List.take_of_length_le (by have := Hn.out; omega)
        rw [hke]
        go_wp2_with (fail)
        go_ret
        exact ⟨by rw [Hb.out]; rfl, hBw⟩
end Go.Proofs.Ytajainmldcnaeaa
namespace Go.Proofs.Ytajainmldcnaeaa
open Go.RowKit Go.Maps
set_option linter.unusedVariables false
set_option linter.unusedSimpArgs false
attribute [local go_sem] Oper.semAt_some

set_option maxRecDepth 100000 in
set_option maxHeartbeats 40000000 in
theorem places_any (nd : Nd) : nd.isT = true → ∀ (B : Nat) (w : World) (cs : Array Value), NdIn w B nd cs → B ≤ w.heap.size →
    Calls Try.prog 44 #[.agg cs] w fun e w' => e = .returned (.int .i64 ((min nd.U 2049 : Nat) : Int)) ∧ Below w.heap.size w w' := by
  induction nd using Nd.ind with
  | h kd st l mi ma ih =>
  intro hT B w cs hin hB
  obtain ⟨A, n, c, cl, rfl, hn, hcl, hmax, hs, hr⟩ := hin.inv
  simp only [Nd.isT, Bool.and_eq_true, Nd.areT_all, List.all_eq_true] at hT
  obtain ⟨hh, hl⟩ := hT
  obtain ⟨V, hV⟩ : ∃ V, min (Nd.mk kd st l mi ma).U 2049 = V := ⟨_, rfl⟩
  rw [hV]
  have Hn := Lib.hid hn
  have Hcl := Lib.hid hcl
  have Hr := Lib.hid hr
  have Ih := Lib.hid ih
  have Hl := Lib.hid hl
  have Hh := Lib.hid hh
  clear hn hcl hr ih hh hin hl
  go_enter Try.func44, Try.ntmps44
  have h1 := Blk.new w 27 (nodeC kd st A n c mi ma)
  have hB1 : Below w.heap.size w (w.alloc (.cells (nodeC kd st A n c mi ma) 27)) := below_alloc (Below.refl _ _) _
  go_upto_region 1 with (fail)
  obtain ⟨W1, hW1⟩ : ∃ y, y = w.alloc (.cells (nodeC kd st A n c mi ma) 27) := ⟨_, rfl⟩
  rw [← hW1] at h1 hB1 ⊢
  clear hW1
  have hl1 := h1.lt
  have c0 : W1.cell? ⟨w.heap.size, 0, none⟩ = some (.int .i64 kd) := h1.cellv (i := 0) rfl
  have c5 : W1.cell? ⟨w.heap.size, 5, none⟩ = some (.slice A n c) := h1.cellv (i := 5) rfl
  by_cases k267 : kd = 2 ∨ kd = 6 ∨ kd = 7
  · have hU : (Nd.mk kd st l mi ma).U = 1 := by simp only [Nd.U]; rw [if_pos k267]
    rw [hU] at hV
    have HV := Lib.hid hV
    clear hV hU
    rcases k267 with rfl | rfl | rfl
    · go_wp2_with (fail)
      go_ret
      exact ⟨congrArg (fun v => Ending.returned (.int .i64 v)) (by have := HV.out; omega), hB1⟩
    · go_wp2_with (fail)
      go_ret
      exact ⟨congrArg (fun v => Ending.returned (.int .i64 v)) (by have := HV.out; omega), hB1⟩
    · go_wp2_with (fail)
      go_ret
      exact ⟨congrArg (fun v => Ending.returned (.int .i64 v)) (by have := HV.out; omega), hB1⟩
  by_cases k1 : kd = 1
  · subst k1
    have hU : (Nd.mk 1 st l mi ma).U = 0 := by simp [Nd.U]
    rw [hU] at hV
    have HV := Lib.hid hV
    clear hV hU
    go_wp2_with (fail)
    go_ret
    exact ⟨congrArg (fun v => Ending.returned (.int .i64 v)) (by have := HV.out; omega), hB1⟩
  by_cases k34 : kd = 3 ∨ kd = 4
  · rcases k34 with rfl | rfl
    · skip
      obtain ⟨b0, hb0⟩ : ∃ b0 : Nat, b0 = 0 := ⟨_, rfl⟩
      have hb0m : b0 ≤ n + 1 := by omega
      have hU : (Nd.mk 3 st l mi ma).U = b0 + Nd.Us l := by rw [hb0]; simp [Nd.U]
      rw [hU] at hV
      have HV := Lib.hid hV
      clear hV hU
      have Hb0 := Lib.hid hb0
      clear hb0
      go_wp2_with (fail)
      go_loopw [3, 26] (fun v i wr => ∃ k m : Nat, k ≤ n ∧ i = .int .i64 k ∧ v = .int .i64 m ∧ min m 2049 = min (b0 + Nd.Us (l.take k)) 2049 ∧ m ≤ b0 + 2049 ∧ Below w.heap.size w wr) (fun _ i _ => n - (intOf i).toNat)
      case atStart => exact ⟨0, b0, by omega, rfl, by rw [Hb0.out]; rfl, by simp [Nd.Us], by omega, hB1⟩
      case round =>
        clear h1 hB1 hl1 c0 c5
        obtain ⟨k, m, hk, rfl, rfl, hm, hmb, hBw⟩ := hrel
        by_cases hkn : k < n
        · have hkI : (k : Int) < n := by omega
          have hkl : k < l.length := by rw [← Hn.out]; exact hkn
          have hkc : k < cl.length := by rw [Hcl.out]; exact hkl
          obtain ⟨ba, off, rfl, hba, hrows⟩ := hs.at_ (by omega)
          have hrow := (hrows k hkc).keep (hBw.block ba (by omega))
          have hsub := Hr.out k hkl hkc
          have hmem : l[k] ∈ l := List.getElem_mem hkl
          have hUs := Nd.Us_step l k hkl
          have hT := Hl.out _ hmem
          obtain ⟨⟨kd', st', l', mi', ma'⟩, hx⟩ : ∃ x, x = l[k] := ⟨_, rfl⟩
          rw [← hx] at hsub hUs hmem hT
          obtain ⟨A', n', c', cl', hce, -⟩ := hsub.inv
          rw [hce] at hrow hsub

          obtain ⟨q, hq⟩ : ∃ q, min (Nd.mk kd' st' l' mi' ma').U 2049 = q := ⟨_, rfl⟩
          have hm2 : min (min (m + q) 2049) 2049 = min (b0 + Nd.Us (l.take (k + 1))) 2049 := by rw [hUs]; omega
          have hqb : q ≤ 2049 := by omega
          have hcall := fun W h => Ih.out _ hmem hT B W _ (hsub.keep (w' := W) h)
          rw [hq] at hcall
          have Hcall := Lib.hid hcall
          have Hm2 := Lib.hid hm2
          clear hcall hm2 hq hx hce hsub hUs hm hT hmem
          have hkb : k < 1099511628000 := by omega
          go_upto_region 14 with (first | (refine wl_load_node_at rfl _ rfl _ _ rfl _ _ _ _ _ _ _ hrow ?_) | (refine wl_store_node rfl _ _ rfl _ _ _ _ _ _ _ _ rfl rfl (nodeC 0 0 none 0 0 0 0) rfl (Blk.new _ _ _) ?_; intro w3 h5 hg3))
          have hB3 := below_grown (below_alloc (Below.refl _ wr) (.cells (nodeC 0 0 none 0 0 0 0) 27)) hg3 (Nat.le_refl _)
          replace hBw := below_then hBw hB3
          clear hrow hrows hB3 hg3
          go_wp2_with (first | (refine wl_load_node rfl _ rfl _ rfl _ _ _ _ _ _ _ h5 ?_) | (go_at_call 44; refine (Hcall.out _ (fun j hj => hBw.block j (by omega)) (by have := hBw.size; omega)).mono ?_; rintro e w5 ⟨rfl, hB5⟩) | (go_at_call 44; refine park ?_))
          all_goals exact ⟨⟨k + 1, min (m + q) 2049, by omega, rfl, congrArg (Value.int .i64) (by omega), Hm2.out, by omega, below_then hBw hB5⟩, by simp only [intOf]; omega⟩
        · have hkI : ¬ (k : Int) < n := by omega
          have hke : l.take k = l := List.take_of_length_le (by have := Hn.out; omega)
          rw [hke] at hm
          have Hm := Lib.hid hm
          clear hm hke
          go_wp2_with (fail)
          all_goals
            go_ret
            exact ⟨congrArg (fun v => Ending.returned (.int .i64 v)) (by have := HV.out; have := Hm.out; omega), hBw⟩
    · skip
      obtain ⟨b0, hb0⟩ : ∃ b0 : Nat, b0 = n + 1 := ⟨_, rfl⟩
      have hb0m : b0 ≤ n + 1 := by omega
      have hU : (Nd.mk 4 st l mi ma).U = b0 + Nd.Us l := by rw [hb0]; simp [Nd.U, Hn.out]
      rw [hU] at hV
      have HV := Lib.hid hV
      clear hV hU
      have Hb0 := Lib.hid hb0
      clear hb0
      go_wp2_with (fail)
      go_loopw [3, 26] (fun v i wr => ∃ k m : Nat, k ≤ n ∧ i = .int .i64 k ∧ v = .int .i64 m ∧ min m 2049 = min (b0 + Nd.Us (l.take k)) 2049 ∧ m ≤ b0 + 2049 ∧ Below w.heap.size w wr) (fun _ i _ => n - (intOf i).toNat)
      case atStart => exact ⟨0, b0, by omega, rfl, by rw [Hb0.out]; simp, by simp [Nd.Us], by omega, hB1⟩
      case round =>
        clear h1 hB1 hl1 c0 c5
        obtain ⟨k, m, hk, rfl, rfl, hm, hmb, hBw⟩ := hrel
        by_cases hkn : k < n
        · have hkI : (k : Int) < n := by omega
          have hkl : k < l.length := by rw [← Hn.out]; exact hkn
          have hkc : k < cl.length := by rw [Hcl.out]; exact hkl
          obtain ⟨ba, off, rfl, hba, hrows⟩ := hs.at_ (by omega)
          have hrow := (hrows k hkc).keep (hBw.block ba (by omega))
          have hsub := Hr.out k hkl hkc
          have hmem : l[k] ∈ l := List.getElem_mem hkl
          have hUs := Nd.Us_step l k hkl
          have hT := Hl.out _ hmem
          obtain ⟨⟨kd', st', l', mi', ma'⟩, hx⟩ : ∃ x, x = l[k] := ⟨_, rfl⟩
          rw [← hx] at hsub hUs hmem hT
          obtain ⟨A', n', c', cl', hce, -⟩ := hsub.inv
          rw [hce] at hrow hsub

          obtain ⟨q, hq⟩ : ∃ q, min (Nd.mk kd' st' l' mi' ma').U 2049 = q := ⟨_, rfl⟩
          have hm2 : min (min (m + q) 2049) 2049 = min (b0 + Nd.Us (l.take (k + 1))) 2049 := by rw [hUs]; omega
          have hqb : q ≤ 2049 := by omega
          have hcall := fun W h => Ih.out _ hmem hT B W _ (hsub.keep (w' := W) h)
          rw [hq] at hcall
          have Hcall := Lib.hid hcall
          have Hm2 := Lib.hid hm2
          clear hcall hm2 hq hx hce hsub hUs hm hT hmem
          have hkb : k < 1099511628000 := by omega
          go_upto_region 14 with (first | (refine wl_load_node_at rfl _ rfl _ _ rfl _ _ _ _ _ _ _ hrow ?_) | (refine wl_store_node rfl _ _ rfl _ _ _ _ _ _ _ _ rfl rfl (nodeC 0 0 none 0 0 0 0) rfl (Blk.new _ _ _) ?_; intro w3 h5 hg3))
          have hB3 := below_grown (below_alloc (Below.refl _ wr) (.cells (nodeC 0 0 none 0 0 0 0) 27)) hg3 (Nat.le_refl _)
          replace hBw := below_then hBw hB3
          clear hrow hrows hB3 hg3
          go_wp2_with (first | (refine wl_load_node rfl _ rfl _ rfl _ _ _ _ _ _ _ h5 ?_) | (go_at_call 44; refine (Hcall.out _ (fun j hj => hBw.block j (by omega)) (by have := hBw.size; omega)).mono ?_; rintro e w5 ⟨rfl, hB5⟩) | (go_at_call 44; refine park ?_))
          all_goals exact ⟨⟨k + 1, min (m + q) 2049, by omega, rfl, congrArg (Value.int .i64) (by omega), Hm2.out, by omega, below_then hBw hB5⟩, by simp only [intOf]; omega⟩
        · have hkI : ¬ (k : Int) < n := by omega
          have hke : l.take k = l := List.take_of_length_le (by have := Hn.out; omega)
          rw [hke] at hm
          have Hm := Lib.hid hm
          clear hm hke
          go_wp2_with (fail)
          all_goals
            go_ret
            exact ⟨congrArg (fun v => Ending.returned (.int .i64 v)) (by have := HV.out; have := Hm.out; omega), hBw⟩
  by_cases k5 : kd = 5
  · subst k5
    obtain ⟨_, hn1, hmi0, hmi1, hma⟩ := headOk_times Hh.out
    obtain ⟨x, rfl⟩ := List.length_eq_one_iff.1 hn1
    have hkc : 0 < cl.length := by rw [Hcl.out]; exact Nat.zero_lt_one
    obtain ⟨ba, off, rfl, hba, hrows⟩ := hs.at_ hkc
    have hrow := (hrows 0 hkc).keep (hB1.block ba (by omega))
    have hsub := Hr.out 0 (by simp) hkc
    have hT := Hl.out x (by simp)
    have hih := fun W h1 h2 => Ih.out x (by simp) hT B W _ (NdIn.keep (w' := W) h1 hsub) h2
    obtain ⟨⟨kd', st', l', mi', ma'⟩, hx⟩ : ∃ y, y = x := ⟨_, rfl⟩
    simp only [List.getElem_cons_zero] at hsub
    rw [← hx] at hsub hih hV
    obtain ⟨A', n', c', cl', hce, -⟩ := hsub.inv
    rw [hce] at hrow hih
    have hU : (Nd.mk 5 st [Nd.mk kd' st' l' mi' ma'] mi ma).U = tU (Nd.mk kd' st' l' mi' ma').U mi ma := by simp [Nd.U, Nd.Us]
    rw [hU, ← tU_cap 2049 _ _ _ (by omega)] at hV
    obtain ⟨q, hq⟩ : ∃ q, min (Nd.mk kd' st' l' mi' ma').U 2049 = q := ⟨_, rfl⟩
    rw [hq] at hV hih
    have hqb : q ≤ 2049 := by omega
    have Hih := Lib.hid hih
    have hn1' : 0 < n := by have := Hn.out; simp at this; omega
    clear hih hx hce hq hsub hT
    go_upto_region 17 with (first | (refine wl_load_node_at rfl _ rfl _ _ rfl _ _ _ _ _ _ _ hrow ?_) | (go_at_call 44; refine (Hih.out _ (fun j hj => hB1.block j (by omega)) (by have := hB1.size; omega)).mono ?_; rintro e w5 ⟨rfl, hB5⟩) | (go_at_call 44; refine park ?_))
    replace hB1 := below_then hB1 hB5
    replace h1 := blk_then h1 hB5
    have c6 : w5.cell? ⟨w.heap.size, 6, none⟩ = some (.int .i64 mi) := h1.cellv (i := 6) rfl
    have c7 : w5.cell? ⟨w.heap.size, 7, none⟩ = some (.int .i64 ma) := h1.cellv (i := 7) rfl
    clear hB5 hrow hrows c5 c0 hs Ih Hl Hr
    by_cases hq0 : q = 0
    · subst hq0
      have hV0 : V = 0 := by rw [← hV]; simp [tU]
      have HV := Lib.hid hV0
      clear hV hV0
      go_wp2_with (fail)
      all_goals
        go_ret
        exact ⟨congrArg (fun v => Ending.returned (.int .i64 v)) (by have := HV.out; omega), hB1⟩
    · have hq0I : ((q : Int) == 0) = false := by simpa using hq0
      have hti := tU_int (ma := ma) hmi0 hq0
      obtain ⟨b1, b2⟩ := mul_bound (q := q) hmi0 (by omega) (by omega)
      have HV := Lib.hid hV
      clear hV
      by_cases hm1 : ma = -1
      · subst hm1
        rw [if_pos rfl] at hti
        have Hti := Lib.hid hti
        clear hti
        go_wp2_with (fail)
        all_goals
          go_ret
          exact ⟨congrArg (fun v => Ending.returned (.int .i64 v)) (by have := HV.out; have := Hti.out; omega), hB1⟩
      · have hm1b : (ma == -1) = false := by simpa using hm1
        rw [if_neg hm1] at hti
        by_cases hm2 : mi < ma
        · rw [if_pos hm2] at hti
          have Hti := Lib.hid hti
          clear hti
          have hm2b : decide (mi < ma) = true := by simpa using hm2
          obtain ⟨b3, b4⟩ := mul_bound (q := q) (a := ma - mi) (by omega) (by omega) (by omega)
          go_wp2_with (fail)
          all_goals
            go_ret
            exact ⟨congrArg (fun v => Ending.returned (.int .i64 v)) (by have := HV.out; have := Hti.out; omega), hB1⟩
        · rw [if_neg hm2] at hti
          have Hti := Lib.hid hti
          clear hti
          have hm2b : decide (mi < ma) = false := by simpa using hm2
          go_wp2_with (fail)
          all_goals
            go_ret
            exact ⟨congrArg (fun v => Ending.returned (.int .i64 v)) (by have := HV.out; have := Hti.out; omega), hB1⟩
  exfalso
  have := Hh.out
  unfold headOk at this
  rw [if_neg (by omega), if_neg (by omega), if_neg k34, if_neg k5] at this
  cases this
/-- what both programs tell of a tree's places -/
def placesN (nd : Nd) : Nat := if nd.isT then min (nd.U + 1) 2049 else 0
set_option maxRecDepth 100000 in
set_option maxHeartbeats 4000000 in
theorem placesE_any (nd : Nd) (B : Nat) (w : World) (cs : Array Value) (hin : NdIn w B nd cs) (hB : B ≤ w.heap.size) :
    Calls Try.prog 16 #[.agg cs] w fun e w' => e = .returned (.int .i64 (placesN nd : Int)) ∧ Below w.heap.size w w' := by
  obtain ⟨kd, st, l, mi, ma⟩ := nd
  obtain ⟨A, n, c, cl, rfl, -⟩ := hin.inv
  have hi := fun W h1 h2 => isTree_any (Nd.mk kd st l mi ma) B W _ (NdIn.keep (w' := W) h1 hin) h2
  have hp := fun hT W h1 h2 => places_any (Nd.mk kd st l mi ma) hT B W _ (NdIn.keep (w' := W) h1 hin) h2
  obtain ⟨t, ht⟩ : ∃ t, (Nd.mk kd st l mi ma).isT = t := ⟨_, rfl⟩
  obtain ⟨V, hV⟩ : ∃ V, placesN (Nd.mk kd st l mi ma) = V := ⟨_, rfl⟩
  obtain ⟨q, hq⟩ : ∃ q, min (Nd.mk kd st l mi ma).U 2049 = q := ⟨_, rfl⟩
  have hVq : V = if t = true then min (q + 1) 2049 else 0 := by
    rw [← hV, ← ht, ← hq]
    unfold placesN
    split <;> omega
  have hqb : q ≤ 2049 := by omega
  rw [hV]
  rw [ht] at hi hp
  rw [hq] at hp
  have Hi := Lib.hid hi
  have Hp := Lib.hid hp
  have HV := Lib.hid hVq
  clear hi hp hVq hV hq ht hin
  go_enter Try.func16, Try.ntmps16
  have h1 := Blk.new w 27 (nodeC kd st A n c mi ma)
  have hB1 : Below w.heap.size w (w.alloc (.cells (nodeC kd st A n c mi ma) 27)) := below_alloc (Below.refl _ _) _
  go_upto_region 1 with (fail)
  obtain ⟨W1, hW1⟩ : ∃ y, y = w.alloc (.cells (nodeC kd st A n c mi ma) 27) := ⟨_, rfl⟩
  rw [← hW1] at h1 hB1 ⊢
  clear hW1
  cases t
  · go_wp2_with (first | (refine wl_load_node rfl _ rfl _ rfl _ _ _ _ _ _ _ h1 ?_) | (go_at_call 43; refine (Hi.out _ (fun j hj => hB1.block j (by omega)) (by have := hB1.size; omega)).mono ?_; rintro e w5 ⟨rfl, hB5⟩) | (go_at_call 43; refine park ?_))
    go_ret
    exact ⟨congrArg (fun v => Ending.returned (.int .i64 v)) (by rw [HV.out]; rfl), below_then hB1 hB5⟩
  · go_wp2_with (first | (refine wl_load_node rfl _ rfl _ rfl _ _ _ _ _ _ _ h1 ?_) | (go_at_call 43; refine (Hi.out _ (fun j hj => hB1.block j (by omega)) (by have := hB1.size; omega)).mono ?_; rintro e w5 ⟨rfl, hB5⟩; replace h1 := blk_then h1 hB5; replace hB1 := below_then hB1 hB5) | (go_at_call 44; refine (Hp.out (by first | rfl | trivial) _ (fun j hj => hB1.block j (by omega)) (by have := hB1.size; omega)).mono ?_; rintro e w6 ⟨rfl, hB6⟩) | (go_at_call 43; refine park ?_) | (go_at_call 44; refine park ?_))
    all_goals
      go_ret
      exact ⟨congrArg (fun v => Ending.returned (.int .i64 v)) (by have h := HV.out; simp only [if_true] at h; omega), below_then hB1 hB6⟩
end Go.Proofs.Ytajainmldcnaeaa
