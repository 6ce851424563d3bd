/- Part 7 of a proof; packed: the texts that it was made of follow one another. No condition beyond those named in each lemma. -/
import Derived.Test.YtkedgombccdamaaGreatDoorPm2
import Derived.Test.YtkedgombccdamaaGreatDoorPm3
import Derived.Test.YtkedgombccdamaaGreatDoorPm4
import Derived.Test.YtkedgombccdamaaGreatDoorPm6
import Derived.Laws.Pointers
import Derived.Recover
namespace Go.Proofs.YtkedgombccdamaaGreatDoor
open Go.RowKit Go.Maps
set_option linter.unusedVariables false
set_option linter.unusedSimpArgs false
attribute [local go_sem] Oper.semAt_some
namespace Ere
theorem countsR_fwd {p : ByteArray} {i j : Nat} {c : Nat × Int} (h : countsR p i = .got c j) : i < j ∧ j < p.size := by
 have h1 := digits_le p 4 (i + 1) 0 0
 have h2 := digits_le p 4 ((digits p 4 (i + 1) 0 0).2.1 + 1) 0 0
 unfold countsR at h
 simp only at h
 split at h
 ·split at h
  ·rename_i h3
   injection h with _ h
   have := isAt_lt h3
   omega
  ·split at h
   ·cases h
   ·rename_i h3
    injection h with _ h
    simp only [Bool.or_eq_true, Bool.not_eq_true', not_or, Bool.not_eq_false] at h3
    have := isAt_lt h3.1.2
    omega
 ·split at h
  ·cases h
  ·rename_i h3
   injection h with _ h
   simp only [Bool.or_eq_true, Bool.not_eq_true', not_or, Bool.not_eq_false] at h3
   have := isAt_lt h3.2
   omega
theorem repeatR_fwd {p : ByteArray} {t u : Nd} {i j : Nat} (h : repeatR p t i = .got u j) (hi : i ≤ p.size) : i ≤ j ∧ j ≤ p.size := by
 unfold repeatR at h
 split at h
 ·rename_i h3
  injection h with _ h
  have := isAt_lt h3
  omega
 split at h
 ·rename_i h3
  injection h with _ h
  have := isAt_lt h3
  omega
 split at h
 ·rename_i h3
  injection h with _ h
  have := isAt_lt h3
  omega
 split at h
 ·cases hc : countsR p i with
  | fault e k => rw [hc] at h; cases h
  | got c k =>
    rw [hc] at h
    injection h with _ h
    have := countsR_fwd hc
    omega
 ·injection h with _ h
  omega
theorem setR_fwd {p : ByteArray} {s i j : Nat} {t : Nd} (h : setR p s i = .got t j) : i < j ∧ j ≤ p.size := by
 unfold setR at h
 cases hc : itemsR p s (p.size + 2) true (if isAt p i 94 then i + 1 else i) 0 with
 | fault e k => rw [hc] at h; cases h
 | got c k =>
   rw [hc] at h
   injection h with _ h
   have := itemsR_fwd _ _ _ _ _ _ hc
   split at this <;> omega
theorem pieceR_fwd {p : ByteArray} {inner : Option (Nat → Res Nd)} (hin : ∀ f, inner = some f → ∀ i t j, i ≤ p.size → f i = .got t j → i ≤ j ∧ j ≤ p.size) {i j : Nat} {t : Nd} (h : pieceR p inner i = .got t j) (hi : i < p.size) : i < j ∧ j ≤ p.size := by
 unfold pieceR at h
 simp only at h
 split at h
 ·injection h with _ h; omega
 split at h
 ·injection h with _ h; omega
 split at h
 ·cases h
 split at h
 ·cases inner with
  | none => cases h
  | some f =>
    simp only at h
    cases hf : f (i + 1) with
    | fault e k => rw [hf] at h; cases h
    | got u k =>
      rw [hf] at h
      simp only [Res.bind] at h
      have h1 := hin f rfl (i + 1) u k (by omega) hf
      split at h
      ·cases h
      ·have := repeatR_fwd h (by omega)
       omega
 split at h
 ·cases hf : setR p i (i + 1) with
  | fault e k => rw [hf] at h; cases h
  | got u k =>
    rw [hf] at h
    simp only [Res.bind] at h
    have h1 := setR_fwd hf
    have := repeatR_fwd h (by omega)
    omega
 split at h
 ·have := repeatR_fwd h (by omega)
  omega
 split at h
 ·split at h
  ·rename_i h3
   unfold oneOf at h3
   simp only [Bool.and_eq_true, decide_eq_true_eq] at h3
   have := repeatR_fwd h (by omega)
   omega
  ·cases h
 ·have := repeatR_fwd h (by omega)
  omega
end Ere
def PatOk (p : ByteArray) (n : Nat) : Prop := ∀ (gr : Nat), gr + n = 64 → ∀ (g i : Nat) (w : World), Blk w g 110 (rdC p i) → i ≤ p.size → p.size ≤ 1024 → Mx w → 1 < g →
 Calls Tryz.prog 38 #[.pointer (some ⟨g, 0, none⟩), .int .i64 (gr : Int)] w fun e w' => NdAns g p w w.heap.size (Ere.patR p n i) e w'
set_option maxRecDepth 100000 in
set_option maxHeartbeats 8000000 in
theorem piece_any (n gr : Nat) (hgr : gr + n = 64) (inner : Option (Nat → Ere.Res Nd)) (g : Nat) (p : ByteArray) (i : Nat) (hin : match n with
   | 0 => inner = none
   | n + 1 => PatOk p n ∧ inner = some (Ere.patR p n) ∧ ∀ i t j, i ≤ p.size → Ere.patR p n i = .got t j → i ≤ j ∧ j ≤ p.size) (w : World) (hP : Blk w g 110 (rdC p i)) (hi : i < p.size) (hp : p.size ≤ 1024) (hM : Mx w) (h0 : 1 < g) :
  Calls Tryz.prog 62 #[.pointer (some ⟨g, 0, none⟩), .int .i64 (gr : Int)] w fun e w' => NdAns g p w w.heap.size (Ere.pieceR p inner i) e w' := by
 obtain ⟨r, hr0⟩ : ∃ r, Ere.pieceR p inner i = r := ⟨_, rfl⟩
 rw [hr0]
 have hR := hr0
 unfold Ere.pieceR at hR
 have hch : Ere.chr p i = p[i].toNat := by unfold Ere.chr; rw [dif_pos hi]
 simp only [hch] at hR
 obtain ⟨v, hv⟩ : ∃ v, p[i] = v := ⟨_, rfl⟩
 rw [hv] at hR
 clear hr0 hch
 have hv8 : v.toNat < 256 := v.toNat_lt
 have hT := Turn.refl g (g + 1) w
 have hgl := Lib.hid hP.lt
 have hpI : (p.size : Int) ≤ 1024 := by omega
 have hiI : (i : Int) < p.size := by omega
 have hi00 : ¬ (i : Int) < 0 := by omega
 replace hR := Lib.hid hR
 replace hv := Lib.hid hv
 replace hgr := Lib.hid hgr
 replace hin := Lib.hid hin
 go_enter Tryz.func62, Tryz.ntmps62
 have h4 : Blk (w.alloc (.cells zeroC 56)) w.heap.size 56 zeroC := Blk.new' _ _ _ rfl
 have hB1 : Below w.heap.size w (w.alloc (.cells zeroC 56)) := zqc (Below.refl _ _) _
 unfold zeroC at h4 hB1
 go_upto_region 1 with (fail)
 obtain ⟨w1, hw1⟩ : ∃ y, y = w.alloc (.cells zeroC 56) := ⟨_, rfl⟩
 unfold zeroC at hw1
 rw [← hw1] at h4 hB1 ⊢
 clear hw1
 replace hP := zqb hP hB1
 replace hT := hT.then_ hB1
 replace hM := hM.then_ hB1
 have h4l := h4.lt
 obtain ⟨g4, hg4e⟩ : ∃ y, y = w.heap.size := ⟨_, rfl⟩
 have hwb := Lib.hid (show w.heap.size ≤ g4 ∧ g4 ≠ g ∧ 1 < g ∧ g < w.heap.size ∧ g4 < w1.heap.size ∧ g < w1.heap.size ∧ w.heap.size ≤ w1.heap.size by have := hgl.out; have := hB1.size; omega)
 rw [← hg4e] at h4 ⊢
 clear hg4e h0 h4l hB1
 have c0 : w1.cell? ⟨g, 0, none⟩ = some (.string p) := hP.cellv rfl
 have c1 : w1.cell? ⟨g, 1, none⟩ = some (.int .i64 (i : Int)) := hP.cellv rfl
 have f1 := hP.frozen 1
 go_upto_region 4 with (fail)
 rw [hv.out]
 have hP2 := setRd hP (v := .int .i64 ((i : Int) + 1)) (j := i + 1) (by congr 1)
 have hT2 := turnRd hT 1 (.int .i64 ((i : Int) + 1))
 have hM2 := hM.turn (turnRd (Turn.refl g (g + 1) w1) 1 (.int .i64 ((i : Int) + 1))) hwb.out.2.2.1
 have h42 := h4.far (p := ⟨g, 1, none⟩) (by have := hwb.out; simp; omega) (.int .i64 ((i : Int) + 1))
 obtain ⟨w2, hw2⟩ : ∃ y, y = w1.setCell ⟨g, 1, none⟩ (.int .i64 ((i : Int) + 1)) := ⟨_, rfl⟩
 have hs2 : w2.heap.size = w1.heap.size := by rw [hw2]; simp [World.setCell]
 rw [← hw2] at hP2 hT2 hM2 h42 ⊢
 have hw3 := Lib.hid (show g4 < w2.heap.size ∧ g < w2.heap.size ∧ w.heap.size ≤ w2.heap.size by have := hwb.out; omega)
 clear hw2 hs2 c0 c1 f1 hP hT h4 hM
 by_cases h94 : v.toNat = 94
 ·skip
  have e94 : ((((v.toNat : Nat) : Int)) == 94) = true := beq_iff_eq.2 (by omega)
  have hr := Lib.hid (show r = .got (.mk 6 0 [] 0 0) (i + 1) by rw [← hR.out]; simp [h94])
  go_wp2_with (first | (refine zxy rfl _ rfl ⟨6, 0, none, 0, 0, 0, 0⟩ #[(0, .int .i64 6)] rfl (fun w => build_leaf 6 w) ?_) | (refine zqx rfl _ _ rfl g4 ⟨6, 0, none, 0, 0, 0, 0⟩ rfl rfl _ rfl h42 ?_; intro wz hz hgz))
  refine ret_nv rfl rfl hz rfl ?_
  rw [hr.out]
  exact ⟨hT2.grown hgz (fun q e => by injection e with e; have := hwb.out; right; omega), hP2.grown hgz (fun e => by injection e with e; have := hwb.out; omega), _, [], rfl, NdO.leaf _ _ _ _ _ _⟩
 by_cases h36 : v.toNat = 36
 ·skip
  have e94 : ((((v.toNat : Nat) : Int)) == 94) = false := beq_eq_false_iff_ne.2 (by omega)
  have e36 : ((((v.toNat : Nat) : Int)) == 36) = true := beq_iff_eq.2 (by omega)
  have hr := Lib.hid (show r = .got (.mk 7 0 [] 0 0) (i + 1) by rw [← hR.out]; simp [h36])
  go_wp2_with (first | (refine zxy rfl _ rfl ⟨7, 0, none, 0, 0, 0, 0⟩ #[(0, .int .i64 7)] rfl (fun w => build_leaf 7 w) ?_) | (refine zqx rfl _ _ rfl g4 ⟨7, 0, none, 0, 0, 0, 0⟩ rfl rfl _ rfl h42 ?_; intro wz hz hgz))
  refine ret_nv rfl rfl hz rfl ?_
  rw [hr.out]
  exact ⟨hT2.grown hgz (fun q e => by injection e with e; have := hwb.out; right; omega), hP2.grown hgz (fun e => by injection e with e; have := hwb.out; omega), _, [], rfl, NdO.leaf _ _ _ _ _ _⟩
 by_cases hrp : v.toNat = 42 ∨ v.toNat = 43 ∨ v.toNat = 63 ∨ v.toNat = 123
 ·have hr := Lib.hid (show r = .fault 44 i by rw [← hR.out]; simp [h94, h36, hrp])
  rcases hrp with h | h | h | h
  ·skip
   have e94 : ((((v.toNat : Nat) : Int)) == 94) = false := beq_eq_false_iff_ne.2 (by omega)
   have e36 : ((((v.toNat : Nat) : Int)) == 36) = false := beq_eq_false_iff_ne.2 (by omega)
   have e42 : ((((v.toNat : Nat) : Int)) == 42) = true := beq_iff_eq.2 (by omega)
   go_wp2_with (go_at_call 40; refine (zxf 44 i _).mono ?_; rintro e w9 ⟨hfe, hB9⟩; unfold zxo at hfe; subst hfe)
   rw [hr.out]
   exact ⟨rfl, hT2.then_ hB9, rfl⟩
  ·skip
   have e94 : ((((v.toNat : Nat) : Int)) == 94) = false := beq_eq_false_iff_ne.2 (by omega)
   have e36 : ((((v.toNat : Nat) : Int)) == 36) = false := beq_eq_false_iff_ne.2 (by omega)
   have e42 : ((((v.toNat : Nat) : Int)) == 42) = false := beq_eq_false_iff_ne.2 (by omega)
   have e43 : ((((v.toNat : Nat) : Int)) == 43) = true := beq_iff_eq.2 (by omega)
   go_wp2_with (go_at_call 40; refine (zxf 44 i _).mono ?_; rintro e w9 ⟨hfe, hB9⟩; unfold zxo at hfe; subst hfe)
   rw [hr.out]
   exact ⟨rfl, hT2.then_ hB9, rfl⟩
  ·skip
   have e94 : ((((v.toNat : Nat) : Int)) == 94) = false := beq_eq_false_iff_ne.2 (by omega)
   have e36 : ((((v.toNat : Nat) : Int)) == 36) = false := beq_eq_false_iff_ne.2 (by omega)
   have e42 : ((((v.toNat : Nat) : Int)) == 42) = false := beq_eq_false_iff_ne.2 (by omega)
   have e43 : ((((v.toNat : Nat) : Int)) == 43) = false := beq_eq_false_iff_ne.2 (by omega)
   have e63 : ((((v.toNat : Nat) : Int)) == 63) = true := beq_iff_eq.2 (by omega)
   go_wp2_with (go_at_call 40; refine (zxf 44 i _).mono ?_; rintro e w9 ⟨hfe, hB9⟩; unfold zxo at hfe; subst hfe)
   rw [hr.out]
   exact ⟨rfl, hT2.then_ hB9, rfl⟩
  ·skip
   have e94 : ((((v.toNat : Nat) : Int)) == 94) = false := beq_eq_false_iff_ne.2 (by omega)
   have e36 : ((((v.toNat : Nat) : Int)) == 36) = false := beq_eq_false_iff_ne.2 (by omega)
   have e42 : ((((v.toNat : Nat) : Int)) == 42) = false := beq_eq_false_iff_ne.2 (by omega)
   have e43 : ((((v.toNat : Nat) : Int)) == 43) = false := beq_eq_false_iff_ne.2 (by omega)
   have e63 : ((((v.toNat : Nat) : Int)) == 63) = false := beq_eq_false_iff_ne.2 (by omega)
   have e123 : ((((v.toNat : Nat) : Int)) == 123) = true := beq_iff_eq.2 (by omega)
   go_wp2_with (go_at_call 40; refine (zxf 44 i _).mono ?_; rintro e w9 ⟨hfe, hB9⟩; unfold zxo at hfe; subst hfe)
   rw [hr.out]
   exact ⟨rfl, hT2.then_ hB9, rfl⟩
 have hR3 := hR.out
 rw [if_neg h94, if_neg h36, if_neg hrp] at hR3
 replace hR3 := Lib.hid hR3
 by_cases h40 : v.toNat = 40
 ·skip
  have e94 : ((((v.toNat : Nat) : Int)) == 94) = false := beq_eq_false_iff_ne.2 (by omega)
  have e36 : ((((v.toNat : Nat) : Int)) == 36) = false := beq_eq_false_iff_ne.2 (by omega)
  have e42 : ((((v.toNat : Nat) : Int)) == 42) = false := beq_eq_false_iff_ne.2 (by omega)
  have e43 : ((((v.toNat : Nat) : Int)) == 43) = false := beq_eq_false_iff_ne.2 (by omega)
  have e63 : ((((v.toNat : Nat) : Int)) == 63) = false := beq_eq_false_iff_ne.2 (by omega)
  have e123 : ((((v.toNat : Nat) : Int)) == 123) = false := beq_eq_false_iff_ne.2 (by omega)
  have e40 : ((((v.toNat : Nat) : Int)) == 40) = true := beq_iff_eq.2 (by omega)
  have hR4 := hR3.out
  rw [if_pos h40] at hR4
  cases n with
  | zero =>
    have hi0 := hin.out
    simp only at hi0
    subst hi0
    have hr := Lib.hid (show r = .fault 47 i by rw [← hR4])
    have hgI : (((gr : Nat) : Int) == 64) = true := beq_iff_eq.2 (by have := hgr.out; omega)
    clear hR4
    go_wp2_with (go_at_call 40; refine (zxf 47 i _).mono ?_; rintro e w9 ⟨hfe, hB9⟩; unfold zxo at hfe; subst hfe)
    rw [hr.out]
    exact ⟨rfl, hT2.then_ hB9, rfl⟩
  | succ n =>
    obtain ⟨hPO, hi0, hfw⟩ := hin.out
    subst hi0
    simp only at hR4
    have hgI : (((gr : Nat) : Int) == 64) = false := beq_eq_false_iff_ne.2 (by have := hgr.out; omega)
    have hgI2 : (gr : Int) ≤ 64 := by have := hgr.out; omega
    have kP := hPO (gr + 1) (by have := hgr.out; omega) g (i + 1) w2 hP2 (by omega) hp hM2 hwb.out.2.2.1
    rw [show ((gr + 1 : Nat) : Int) = (gr : Int) + 1 from rfl] at kP
    have hfw2 := fun t j => hfw (i + 1) t j (by omega)
    obtain ⟨rp, hrp2⟩ : ∃ r, Ere.patR p n (i + 1) = r := ⟨_, rfl⟩
    rw [hrp2] at hR4 kP hfw2
    clear hrp2 hPO hfw hin
    cases rp with
    | fault e0 k0 =>
      have hr := Lib.hid (show r = .fault e0 k0 by rw [← hR4]; rfl)
      clear hR4 hfw2
      go_wp2_with (go_at_call 38; refine kP.mono ?_; rintro e w9 ⟨hT9, hfe⟩; unfold zxo at hfe; subst hfe)
      rw [hr.out]
      exact ⟨rfl, hT2.trans hT9, rfl⟩
    | got t j =>
      have hj := hfw2 t j rfl
      simp only [Ere.Res.bind] at hR4
      clear hfw2
      replace hR4 := Lib.hid hR4
      have hjI : (j : Int) ≤ 1024 := by omega
      replace hj := Lib.hid hj
      go_upto_region 21 with (first | (go_at_call 38; refine kP.mono ?_; rintro e w3 ⟨hT3, hP3, x, bs, rfl, hO3⟩) | (refine zqx rfl _ _ rfl _ x rfl rfl _ rfl (Blk.new _ _ zeroC) ?_; intro w4 h7 hg7))
      have hB4 : Below w3.heap.size w3 w4 := zqh (zqc (Below.refl w3.heap.size w3) (.cells zeroC 56)) hg7 (Nat.le_refl _)
      have hT4 := (hT2.trans hT3).then_ hB4
      have hP4 := zqb hP3 hB4
      have hO4 := hO3.then_ hB4
      have h44 := zqb (zzg h42 hT3 (by have := hwb.out; omega)) hB4
      have hs3 := hT3.size
      obtain ⟨g7, hg7e⟩ : ∃ y, y = w3.heap.size := ⟨_, rfl⟩
      rw [← hg7e] at h7 ⊢
      have hw7 := Lib.hid (show g7 ≠ g ∧ g7 ≠ g4 ∧ w.heap.size ≤ g7 ∧ g4 < w2.heap.size ∧ g < w2.heap.size ∧ w2.heap.size ≤ g7 by have := hw3.out; have := hs3; omega)
      have hOb := fun b hb => (hO3.lt b hb).2
      rw [← hg7e] at hOb
      clear hg7e hg7 hB4 hT3 hP3 hO3 kP
      have kM := more_any g p j w4 hP4
      by_cases hjs : j < p.size
      ·rw [decide_eq_true hjs] at kM
       have hR5 := hR4.out
       rw [if_neg (by omega)] at hR5
       obtain ⟨rr, hrr⟩ : ∃ q, Ere.repeatR p t (j + 1) = q := ⟨_, rfl⟩
       rw [hrr] at hR5
       have hr := Lib.hid hR5.symm
       go_upto_region 23 with (go_at_call 61; refine kM.mono ?_; rintro e w5 ⟨rfl, hB5⟩)
       clear kM hR5
       replace hT4 := hT4.then_ hB5
       replace hP4 := zqb hP4 hB5
       replace hO4 := hO4.then_ hB5
       replace h44 := zqb h44 hB5
       replace h7 := zqb h7 hB5
       have hs5 : w2.heap.size ≤ w5.heap.size := by have := h7.lt; have := hw7.out; omega
       replace hs5 := Lib.hid hs5
       replace hrr := Lib.hid hrr
       replace hOb := Lib.hid hOb
       clear hs3 hB5
       have c1 : w5.cell? ⟨g, 1, none⟩ = some (.int .i64 (j : Int)) := hP4.cellv rfl
       have f1 := hP4.frozen 1
       go_upto_region 24 with (fail)
       have hP6 := setRd hP4 (v := .int .i64 ((j : Int) + 1)) (j := j + 1) (by congr 1)
       have hTq := turnRd hT4 1 (.int .i64 ((j : Int) + 1))
       have hO6 := hO4.turn (turnRd (Turn.refl g (g + 1) w5) 1 (.int .i64 ((j : Int) + 1))) hw7.out.2.2.2.2.1
       have h4q := h44.far (p := ⟨g, 1, none⟩) (by have := hwb.out; simp; omega) (.int .i64 ((j : Int) + 1))
       have h76 := h7.far (p := ⟨g, 1, none⟩) (by have := hw7.out; simp; omega) (.int .i64 ((j : Int) + 1))
       obtain ⟨w6, hw6⟩ : ∃ y, y = w5.setCell ⟨g, 1, none⟩ (.int .i64 ((j : Int) + 1)) := ⟨_, rfl⟩
       have hs6 : w6.heap.size = w5.heap.size := by rw [hw6]; simp [World.setCell]
       rw [← hw6] at hP6 hTq hO6 h4q h76 ⊢
       have hBq := Lib.hid (show g4 < w2.heap.size ∧ g < w2.heap.size ∧ w.heap.size ≤ w2.heap.size from hw3.out)
       have kR := repeat_any g p (j + 1) w2.heap.size t x bs w6 hP6 (by omega) hO6 hw3.out.2.1 (by have := hs5.out; omega)
       rw [hrr.out] at kR
       clear hw6 hs6 c1 f1 hP4 hT4 hO4 h44 h7
       cases rr with
       | fault e0 k0 =>
         go_wp2_with (first | (refine wl_load_nv rfl _ rfl g7 rfl x h76 ?_) | (go_at_call 75; refine (kR).mono ?_; rintro e wr ⟨hTr, hfe⟩; unfold zxo at hfe; subst hfe))
         rw [hr.out]
         exact ⟨rfl, hTq.trans hTr, rfl⟩
       | got u k =>
         go_wp2_with (first | (refine wl_load_nv rfl _ rfl g7 rfl x h76 ?_) | (go_at_call 75; refine (kR).mono ?_; rintro e wr ⟨hTr, hPr, x2, bs2, rfl, hO⟩; have h4r := zzg h4q hTr (by have := hwb.out; omega)) | (refine zqx rfl _ _ rfl g4 x2 rfl rfl _ rfl h4r ?_; intro wz hz hgz))
         refine ret_nv rfl rfl hz rfl ?_
         rw [hr.out]
         exact ⟨(hTq.trans hTr).grown hgz (fun q e => by injection e with e; have := hwb.out; right; omega), hPr.grown hgz (fun e => by injection e with e; have := hwb.out; omega), x2, bs2, rfl, (hO.mono hBq.out.2.2).keep (fun b hb => hgz.block b (hO.lt b hb).2 (fun e => by injection e with e; have := (hO.lt b hb).1; have := hBq.out; omega))⟩
      ·rw [decide_eq_false hjs] at kM
       have hr := Lib.hid (show r = .fault 42 i by rw [← hR4.out, if_pos (by omega)])
       go_wp2_with (first | (go_at_call 61; refine kM.mono ?_; rintro e w5 ⟨rfl, hB5⟩) | (go_at_call 40; refine (zxf 42 i _).mono ?_; rintro e w9 ⟨hfe, hB9⟩; unfold zxo at hfe; subst hfe))
       rw [hr.out]
       exact ⟨rfl, (hT4.then_ hB5).then_ hB9, rfl⟩
 by_cases h91 : v.toNat = 91
 ·skip
  have e94 : ((((v.toNat : Nat) : Int)) == 94) = false := beq_eq_false_iff_ne.2 (by omega)
  have e36 : ((((v.toNat : Nat) : Int)) == 36) = false := beq_eq_false_iff_ne.2 (by omega)
  have e42 : ((((v.toNat : Nat) : Int)) == 42) = false := beq_eq_false_iff_ne.2 (by omega)
  have e43 : ((((v.toNat : Nat) : Int)) == 43) = false := beq_eq_false_iff_ne.2 (by omega)
  have e63 : ((((v.toNat : Nat) : Int)) == 63) = false := beq_eq_false_iff_ne.2 (by omega)
  have e123 : ((((v.toNat : Nat) : Int)) == 123) = false := beq_eq_false_iff_ne.2 (by omega)
  have e40 : ((((v.toNat : Nat) : Int)) == 40) = false := beq_eq_false_iff_ne.2 (by omega)
  have e91 : ((((v.toNat : Nat) : Int)) == 91) = true := beq_iff_eq.2 (by omega)
  have hR4 := hR3.out
  rw [if_neg h40, if_pos h91] at hR4
  have kS := rset_any g p (i + 1) i w2 hP2 (by omega) hp hM2 hwb.out.2.2.1
  have hfw := fun t j => Ere.setR_fwd (p := p) (s := i) (i := i + 1) (t := t) (j := j)
  obtain ⟨rs, hrs⟩ : ∃ r, Ere.setR p i (i + 1) = r := ⟨_, rfl⟩
  rw [hrs] at hR4 kS hfw
  clear hrs
  cases rs with
  | fault e0 k0 =>
    have hr := Lib.hid (show r = .fault e0 k0 by rw [← hR4]; rfl)
    clear hR4 hfw
    go_wp2_with (go_at_call 76; refine kS.mono ?_; rintro e w9 ⟨hT9, hfe⟩; unfold zxo at hfe; subst hfe)
    rw [hr.out]
    exact ⟨rfl, hT2.trans hT9, rfl⟩
  | got t j =>
    have hj := hfw t j rfl
    simp only [Ere.Res.bind] at hR4
    obtain ⟨rr, hrr⟩ : ∃ q, Ere.repeatR p t j = q := ⟨_, rfl⟩
    rw [hrr] at hR4
    have hr := Lib.hid hR4.symm
    clear hR4 hfw
    replace hrr := Lib.hid hrr
    have hBq := Lib.hid (show g4 < w2.heap.size ∧ g < w2.heap.size ∧ w.heap.size ≤ w2.heap.size from hw3.out)
    have hj2 := Lib.hid (show j ≤ 2000 by omega)
    have kR : ∀ (x : NV) (bs : List Nat) (w3 : World), Turn g (g + 1) w2 w3 → Blk w3 g 110 (rdC p j) → NdO w3 w2.heap.size t x bs → Calls Tryz.prog 75 #[.pointer (some ⟨g, 0, none⟩), .agg x.C] w3 fun e w' => NdAns g p w3 w2.heap.size rr e w' := fun x bs w3 hT3 hP3 hO3 => by
     rw [← hrr.out]
     exact repeat_any g p j w2.heap.size t x bs w3 hP3 hj2.out hO3 hBq.out.2.1 hT3.size
    replace kR := Lib.hid kR
    clear hj
    cases rr with
    | fault e0 k0 =>
      go_wp2_with (first | (go_at_call 76; refine kS.mono ?_; rintro e w3 ⟨hT3, hP3, x, bs, rfl, hO3⟩; have hTq := hT2.trans hT3; have h4q := zzg h42 hT3 (by have := hwb.out; omega)) | (go_at_call 75; refine (kR.out x bs w3 hT3 hP3 hO3).mono ?_; rintro e wr ⟨hTr, hfe⟩; unfold zxo at hfe; subst hfe))
      rw [hr.out]
      exact ⟨rfl, hTq.trans hTr, rfl⟩
    | got u k =>
      go_wp2_with (first | (go_at_call 76; refine kS.mono ?_; rintro e w3 ⟨hT3, hP3, x, bs, rfl, hO3⟩; have hTq := hT2.trans hT3; have h4q := zzg h42 hT3 (by have := hwb.out; omega)) | (go_at_call 75; refine (kR.out x bs w3 hT3 hP3 hO3).mono ?_; rintro e wr ⟨hTr, hPr, x2, bs2, rfl, hO⟩; have h4r := zzg h4q hTr (by have := hwb.out; omega)) | (refine zqx rfl _ _ rfl g4 x2 rfl rfl _ rfl h4r ?_; intro wz hz hgz))
      refine ret_nv rfl rfl hz rfl ?_
      rw [hr.out]
      exact ⟨(hTq.trans hTr).grown hgz (fun q e => by injection e with e; have := hwb.out; right; omega), hPr.grown hgz (fun e => by injection e with e; have := hwb.out; omega), x2, bs2, rfl, (hO.mono hBq.out.2.2).keep (fun b hb => hgz.block b (hO.lt b hb).2 (fun e => by injection e with e; have := (hO.lt b hb).1; have := hBq.out; omega))⟩
 by_cases h46 : v.toNat = 46
 ·skip
  have e94 : ((((v.toNat : Nat) : Int)) == 94) = false := beq_eq_false_iff_ne.2 (by omega)
  have e36 : ((((v.toNat : Nat) : Int)) == 36) = false := beq_eq_false_iff_ne.2 (by omega)
  have e42 : ((((v.toNat : Nat) : Int)) == 42) = false := beq_eq_false_iff_ne.2 (by omega)
  have e43 : ((((v.toNat : Nat) : Int)) == 43) = false := beq_eq_false_iff_ne.2 (by omega)
  have e63 : ((((v.toNat : Nat) : Int)) == 63) = false := beq_eq_false_iff_ne.2 (by omega)
  have e123 : ((((v.toNat : Nat) : Int)) == 123) = false := beq_eq_false_iff_ne.2 (by omega)
  have e40 : ((((v.toNat : Nat) : Int)) == 40) = false := beq_eq_false_iff_ne.2 (by omega)
  have e91 : ((((v.toNat : Nat) : Int)) == 91) = false := beq_eq_false_iff_ne.2 (by omega)
  have e46 : ((((v.toNat : Nat) : Int)) == 46) = true := beq_iff_eq.2 (by omega)
  have hR4 := hR3.out
  rw [if_neg h40, if_neg h91, if_pos h46] at hR4
  obtain ⟨rr, hrr⟩ : ∃ q, Ere.repeatR p (Ere.setN (notB 0)) (i + 1) = q := ⟨_, rfl⟩
  rw [hrr] at hR4
  have hr := Lib.hid hR4.symm
  clear hR4
  replace hrr := Lib.hid hrr
  have hBq := Lib.hid (show g4 < w2.heap.size ∧ g < w2.heap.size ∧ w.heap.size ≤ w2.heap.size from hw3.out)
  have kR : ∀ (w3 : World), Below w2.heap.size w2 w3 → Calls Tryz.prog 75 #[.pointer (some ⟨g, 0, none⟩), .agg (NV.mk 2 (notB 0 &&& notB 0) none 0 0 0 0).C] w3 fun e w' => NdAns g p w3 w2.heap.size rr e w' := fun w3 hB3 => by
   rw [← hrr.out]
   exact repeat_any g p (i + 1) w2.heap.size (Ere.setN (notB 0)) _ [] w3 (zqb hP2 hB3) (by omega) (NdO.leaf _ _ _ _ _ _) hBq.out.2.1 hB3.size
  replace kR := Lib.hid kR
  have kN := not_any 0 w2
  cases rr with
  | fault e0 k0 =>
    go_wp2_with (first | (refine zyl rfl rfl ?_) | (go_at_call 78; refine kN.mono ?_; rintro e w3 ⟨rfl, hB3⟩) | (go_at_call 77; refine (nset_any (notB 0) w3).mono ?_; rintro e w5 ⟨rfl, hB5⟩; have hB53 := zqd hB3 hB5; have hTq := hT2.then_ hB53; have h4q := zqb h42 hB53) | (go_at_call 75; refine (kR.out w5 hB53).mono ?_; rintro e wr ⟨hTr, hfe⟩; unfold zxo at hfe; subst hfe))
    rw [hr.out]
    exact ⟨rfl, hTq.trans hTr, rfl⟩
  | got u k =>
    go_wp2_with (first | (refine zyl rfl rfl ?_) | (go_at_call 78; refine kN.mono ?_; rintro e w3 ⟨rfl, hB3⟩) | (go_at_call 77; refine (nset_any (notB 0) w3).mono ?_; rintro e w5 ⟨rfl, hB5⟩; have hB53 := zqd hB3 hB5; have hTq := hT2.then_ hB53; have h4q := zqb h42 hB53) | (go_at_call 75; refine (kR.out w5 hB53).mono ?_; rintro e wr ⟨hTr, hPr, x2, bs2, rfl, hO⟩; have h4r := zzg h4q hTr (by have := hwb.out; omega)) | (refine zqx rfl _ _ rfl g4 x2 rfl rfl _ rfl h4r ?_; intro wz hz hgz))
    refine ret_nv rfl rfl hz rfl ?_
    rw [hr.out]
    exact ⟨(hTq.trans hTr).grown hgz (fun q e => by injection e with e; have := hwb.out; right; omega), hPr.grown hgz (fun e => by injection e with e; have := hwb.out; omega), x2, bs2, rfl, (hO.mono hBq.out.2.2).keep (fun b hb => hgz.block b (hO.lt b hb).2 (fun e => by injection e with e; have := (hO.lt b hb).1; have := hBq.out; omega))⟩
 have hR4 := hR3.out
 rw [if_neg h40, if_neg h91, if_neg h46] at hR4
 by_cases h92 : v.toNat = 92
 ·skip
  have e94 : ((((v.toNat : Nat) : Int)) == 94) = false := beq_eq_false_iff_ne.2 (by omega)
  have e36 : ((((v.toNat : Nat) : Int)) == 36) = false := beq_eq_false_iff_ne.2 (by omega)
  have e42 : ((((v.toNat : Nat) : Int)) == 42) = false := beq_eq_false_iff_ne.2 (by omega)
  have e43 : ((((v.toNat : Nat) : Int)) == 43) = false := beq_eq_false_iff_ne.2 (by omega)
  have e63 : ((((v.toNat : Nat) : Int)) == 63) = false := beq_eq_false_iff_ne.2 (by omega)
  have e123 : ((((v.toNat : Nat) : Int)) == 123) = false := beq_eq_false_iff_ne.2 (by omega)
  have e40 : ((((v.toNat : Nat) : Int)) == 40) = false := beq_eq_false_iff_ne.2 (by omega)
  have e91 : ((((v.toNat : Nat) : Int)) == 91) = false := beq_eq_false_iff_ne.2 (by omega)
  have e46 : ((((v.toNat : Nat) : Int)) == 46) = false := beq_eq_false_iff_ne.2 (by omega)
  have e92 : ((((v.toNat : Nat) : Int)) == 92) = true := beq_iff_eq.2 (by omega)
  rw [if_pos h92] at hR4
  have kO1 := one_any g p ⟨#[46, 91, 93, 40, 41, 42, 43, 63, 123, 125, 124, 94, 36, 92, 47, 45]⟩ (i + 1) (i + 1) w2 hP2
  rw [show (List.map UInt8.toNat (⟨#[46, 91, 93, 40, 41, 42, 43, 63, 123, 125, 124, 94, 36, 92, 47, 45]⟩ : ByteArray).data.toList) = Ere.marks from rfl, show ((i + 1 : Nat) : Int) = (i : Int) + 1 from rfl] at kO1
  obtain ⟨bo, hbo⟩ : ∃ b, Ere.oneOf p (i + 1) Ere.marks = b := ⟨_, rfl⟩
  rw [hbo] at kO1 hR4
  have c1 : w2.cell? ⟨g, 1, none⟩ = some (.int .i64 ((i : Int) + 1)) := hP2.cellv (by simp [rdC])
  cases bo with
  | false =>
    have hr := Lib.hid (show r = .fault 46 i by rw [← hR4]; simp)
    clear hR4 hbo
    go_wp2_with (first | (go_at_call 79; refine kO1.mono ?_; rintro e w5 ⟨rfl, hB5⟩) | (go_at_call 40; refine (zxf 46 i _).mono ?_; rintro e w9 ⟨hfe, hB9⟩; unfold zxo at hfe; subst hfe))
    rw [hr.out]
    exact ⟨rfl, (hT2.then_ hB5).then_ hB9, rfl⟩
  | true =>
    have hi1 : i + 1 < p.size := by
     unfold Ere.oneOf at hbo
     simp only [Bool.and_eq_true, decide_eq_true_eq] at hbo
     exact hbo.1
    rw [if_pos rfl] at hR4
    have hch2 : Ere.chr p (i + 1) = p[i + 1].toNat := by unfold Ere.chr; rw [dif_pos hi1]
    rw [hch2] at hR4
    obtain ⟨j, hj⟩ : ∃ j, j = i + 1 := ⟨_, rfl⟩
    have hij : (i : Int) + 1 = (j : Int) := by omega
    have hj2 : i + 2 = j + 1 := by omega
    have hjl : j < p.size := by omega
    have hpj : p[i + 1] = p[j]'hjl := by congr 1; exact hj.symm
    rw [hj2, hpj] at hR4
    rw [hij] at c1 kO1
    rw [← hj] at hP2
    have hjI : (j : Int) < p.size := by omega
    have hj0 : ¬ (j : Int) < 0 := by omega
    obtain ⟨v2, hv2⟩ : ∃ v, p[j] = v := ⟨_, rfl⟩
    rw [hv2] at hR4
    replace hv2 := Lib.hid hv2
    replace hij := Lib.hid hij
    clear hbo hch2 hj hj2 hpj
    obtain ⟨rr, hrr⟩ : ∃ q, Ere.repeatR p (Ere.setN (bit v2.toNat)) (j + 1) = q := ⟨_, rfl⟩
    rw [hrr] at hR4
    replace hR4 := Lib.hid hR4
    go_upto_region 27 with (fail)
    rw [hij.out]
    go_upto_region 29 with (go_at_call 79; refine kO1.mono ?_; rintro e w5 ⟨rfl, hB5⟩)
    have hT5 := hT2.then_ hB5
    have hP5 := zqb hP2 hB5
    have h45 := zqb h42 hB5
    have hs5 := Lib.hid hB5.size
    clear hT2 hP2 h42 hB5 kO1 c1 hM2
    have c1 : w5.cell? ⟨g, 1, none⟩ = some (.int .i64 (j : Int)) := hP5.cellv rfl
    have f1 := hP5.frozen 1
    go_upto_region 31 with (fail)
    have hP2 := setRd hP5 (v := .int .i64 ((j : Int) + 1)) (j := j + 1) (by congr 1)
    have hT2 := turnRd hT5 1 (.int .i64 ((j : Int) + 1))
    have h42 := h45.far (p := ⟨g, 1, none⟩) (by have := hwb.out; simp; omega) (.int .i64 ((j : Int) + 1))
    obtain ⟨w8, hw8⟩ : ∃ y, y = w5.setCell ⟨g, 1, none⟩ (.int .i64 ((j : Int) + 1)) := ⟨_, rfl⟩
    have hs8 : w8.heap.size = w5.heap.size := by rw [hw8]; simp [World.setCell]
    rw [← hw8] at hP2 hT2 h42 ⊢
    have hw3b := Lib.hid (show g4 < w8.heap.size ∧ g < w8.heap.size ∧ w.heap.size ≤ w8.heap.size by have := hw3.out; have := hs5.out; omega)
    clear hw8 hs8 hs5 c1 f1 hP5 hT5 h45 hw3 hR hR3
    replace hR4 := hR4.out
    have hr := Lib.hid hR4.symm
    clear hR4
    replace hrr := Lib.hid hrr
    have hBq := Lib.hid (show g4 < w8.heap.size ∧ g < w8.heap.size ∧ w.heap.size ≤ w8.heap.size from hw3b.out)
    have kR : ∀ (w3 : World), Below w8.heap.size w8 w3 → Calls Tryz.prog 75 #[.pointer (some ⟨g, 0, none⟩), .agg (NV.mk 2 (bit v2.toNat &&& notB 0) none 0 0 0 0).C] w3 fun e w' => NdAns g p w3 w8.heap.size rr e w' := fun w3 hB3 => by
     rw [← hrr.out]
     exact repeat_any g p (j + 1) w8.heap.size (Ere.setN (bit v2.toNat)) _ [] w3 (zqb hP2 hB3) (by omega) (NdO.leaf _ _ _ _ _ _) hBq.out.2.1 hB3.size
    replace kR := Lib.hid kR
    have kO := of_any (some ⟨w8.heap.size, 0, none⟩) 1 1 [v2] (w8.alloc (.cells #[.int .u8 (((v2).toNat : Nat) : Int)] 5)) rfl (by unfold maxLen; omega) (bytes_of_blk (l := [v2]) (Blk.new w8 5 #[.int .u8 (((v2).toNat : Nat) : Int)]))
    rw [ofB_one] at kO
    have hBo := Lib.hid (zqc (Below.refl w8.heap.size w8) (.cells #[.int .u8 (((v2).toNat : Nat) : Int)] 5))
    have c0 : w8.cell? ⟨g, 0, none⟩ = some (.string p) := hP2.cellv rfl
    have hv2q := hv2.out
    cases rr with
    | fault e0 k0 =>
      go_wp2_with (first | (go_at_call 80; refine kO.mono ?_; rintro e w3 ⟨rfl, hB3⟩; have hB30 := zqd hBo.out hB3) | (go_at_call 77; refine (nset_any (bit (v2).toNat) w3).mono ?_; rintro e w5 ⟨rfl, hB5⟩; have hB53 := zqd hB30 hB5; have hTq := hT2.then_ hB53; have h4q := zqb h42 hB53) | (go_at_call 75; refine (kR.out w5 hB53).mono ?_; rintro e wr ⟨hTr, hfe⟩; unfold zxo at hfe; subst hfe))
      rw [hr.out]
      exact ⟨rfl, hTq.trans hTr, rfl⟩
    | got u k =>
      go_wp2_with (first | (go_at_call 80; refine kO.mono ?_; rintro e w3 ⟨rfl, hB3⟩; have hB30 := zqd hBo.out hB3) | (go_at_call 77; refine (nset_any (bit (v2).toNat) w3).mono ?_; rintro e w5 ⟨rfl, hB5⟩; have hB53 := zqd hB30 hB5; have hTq := hT2.then_ hB53; have h4q := zqb h42 hB53) | (go_at_call 75; refine (kR.out w5 hB53).mono ?_; rintro e wr ⟨hTr, hPr, x2, bs2, rfl, hO⟩; have h4r := zzg h4q hTr (by have := hwb.out; omega)) | (refine zqx rfl _ _ rfl g4 x2 rfl rfl _ rfl h4r ?_; intro wz hz hgz))
      refine ret_nv rfl rfl hz rfl ?_
      rw [hr.out]
      exact ⟨(hTq.trans hTr).grown hgz (fun q e => by injection e with e; have := hwb.out; right; omega), hPr.grown hgz (fun e => by injection e with e; have := hwb.out; omega), x2, bs2, rfl, (hO.mono hBq.out.2.2).keep (fun b hb => hgz.block b (hO.lt b hb).2 (fun e => by injection e with e; have := (hO.lt b hb).1; have := hBq.out; omega))⟩
 have e94 : ((((v.toNat : Nat) : Int)) == 94) = false := beq_eq_false_iff_ne.2 (by omega)
 have e36 : ((((v.toNat : Nat) : Int)) == 36) = false := beq_eq_false_iff_ne.2 (by omega)
 have e42 : ((((v.toNat : Nat) : Int)) == 42) = false := beq_eq_false_iff_ne.2 (by omega)
 have e43 : ((((v.toNat : Nat) : Int)) == 43) = false := beq_eq_false_iff_ne.2 (by omega)
 have e63 : ((((v.toNat : Nat) : Int)) == 63) = false := beq_eq_false_iff_ne.2 (by omega)
 have e123 : ((((v.toNat : Nat) : Int)) == 123) = false := beq_eq_false_iff_ne.2 (by omega)
 have e40 : ((((v.toNat : Nat) : Int)) == 40) = false := beq_eq_false_iff_ne.2 (by omega)
 have e91 : ((((v.toNat : Nat) : Int)) == 91) = false := beq_eq_false_iff_ne.2 (by omega)
 have e46 : ((((v.toNat : Nat) : Int)) == 46) = false := beq_eq_false_iff_ne.2 (by omega)
 have e92 : ((((v.toNat : Nat) : Int)) == 92) = false := beq_eq_false_iff_ne.2 (by omega)
 rw [if_neg h92] at hR4
 obtain ⟨rr, hrr⟩ : ∃ q, Ere.repeatR p (Ere.setN (bit v.toNat)) (i + 1) = q := ⟨_, rfl⟩
 rw [hrr] at hR4
 have hr := Lib.hid hR4.symm
 clear hR4
 replace hrr := Lib.hid hrr
 have hBq := Lib.hid (show g4 < w2.heap.size ∧ g < w2.heap.size ∧ w.heap.size ≤ w2.heap.size from hw3.out)
 have kR : ∀ (w3 : World), Below w2.heap.size w2 w3 → Calls Tryz.prog 75 #[.pointer (some ⟨g, 0, none⟩), .agg (NV.mk 2 (bit v.toNat &&& notB 0) none 0 0 0 0).C] w3 fun e w' => NdAns g p w3 w2.heap.size rr e w' := fun w3 hB3 => by
  rw [← hrr.out]
  exact repeat_any g p (i + 1) w2.heap.size (Ere.setN (bit v.toNat)) _ [] w3 (zqb hP2 hB3) (by omega) (NdO.leaf _ _ _ _ _ _) hBq.out.2.1 hB3.size
 replace kR := Lib.hid kR
 have kO := of_any (some ⟨w2.heap.size, 0, none⟩) 1 1 [v] (w2.alloc (.cells #[.int .u8 (((v).toNat : Nat) : Int)] 5)) rfl (by unfold maxLen; omega) (bytes_of_blk (l := [v]) (Blk.new w2 5 #[.int .u8 (((v).toNat : Nat) : Int)]))
 rw [ofB_one] at kO
 have hBo := Lib.hid (zqc (Below.refl w2.heap.size w2) (.cells #[.int .u8 (((v).toNat : Nat) : Int)] 5))
 have c0 : w2.cell? ⟨g, 0, none⟩ = some (.string p) := hP2.cellv rfl
 have hvq := hv.out
 cases rr with
 | fault e0 k0 =>
   go_wp2_with (first | (go_at_call 80; refine kO.mono ?_; rintro e w3 ⟨rfl, hB3⟩; have hB30 := zqd hBo.out hB3) | (go_at_call 77; refine (nset_any (bit (v).toNat) w3).mono ?_; rintro e w5 ⟨rfl, hB5⟩; have hB53 := zqd hB30 hB5; have hTq := hT2.then_ hB53; have h4q := zqb h42 hB53) | (go_at_call 75; refine (kR.out w5 hB53).mono ?_; rintro e wr ⟨hTr, hfe⟩; unfold zxo at hfe; subst hfe))
   rw [hr.out]
   exact ⟨rfl, hTq.trans hTr, rfl⟩
 | got u k =>
   go_wp2_with (first | (go_at_call 80; refine kO.mono ?_; rintro e w3 ⟨rfl, hB3⟩; have hB30 := zqd hBo.out hB3) | (go_at_call 77; refine (nset_any (bit (v).toNat) w3).mono ?_; rintro e w5 ⟨rfl, hB5⟩; have hB53 := zqd hB30 hB5; have hTq := hT2.then_ hB53; have h4q := zqb h42 hB53) | (go_at_call 75; refine (kR.out w5 hB53).mono ?_; rintro e wr ⟨hTr, hPr, x2, bs2, rfl, hO⟩; have h4r := zzg h4q hTr (by have := hwb.out; omega)) | (refine zqx rfl _ _ rfl g4 x2 rfl rfl _ rfl h4r ?_; intro wz hz hgz))
   refine ret_nv rfl rfl hz rfl ?_
   rw [hr.out]
   exact ⟨(hTq.trans hTr).grown hgz (fun q e => by injection e with e; have := hwb.out; right; omega), hPr.grown hgz (fun e => by injection e with e; have := hwb.out; omega), x2, bs2, rfl, (hO.mono hBq.out.2.2).keep (fun b hb => hgz.block b (hO.lt b hb).2 (fun e => by injection e with e; have := (hO.lt b hb).1; have := hBq.out; omega))⟩
namespace Ere
theorem altR_fwd {p : ByteArray} {top : Bool} {pc : Nat → Res Nd} (hpc : ∀ i t j, i < p.size → pc i = .got t j → i < j ∧ j ≤ p.size) : ∀ n i l t j, i ≤ p.size → altR p top pc n i l = .got t j → i ≤ j ∧ j ≤ p.size
 | 0, _, _, _, _, _, h => by cases h
 | n + 1, i, l, t, j, hi, h => by
   unfold altR at h
   split at h
   ·injection h with _ h; omega
   ·rename_i h1
    simp only [Bool.or_eq_true, decide_eq_true_eq, not_or] at h1
    split at h
    ·split at h
     ·cases h
     ·injection h with _ h; omega
    ·cases hc : pc i with
     | fault e k => rw [hc] at h; cases h
     | got u k =>
       rw [hc] at h
       have h2 := hpc i u k (by omega) hc
       have h3 := altR_fwd hpc n k (l ++ [u]) t j h2.2 h
       omega
theorem patL_fwd {p : ByteArray} {al : Nat → Res Nd} (hal : ∀ i t j, i ≤ p.size → al i = .got t j → i ≤ j ∧ j ≤ p.size) : ∀ n i l t j, i ≤ p.size → patL p al n i l = .got t j → i ≤ j ∧ j ≤ p.size
 | 0, _, _, _, _, _, h => by cases h
 | n + 1, i, l, t, j, hi, h => by
   unfold patL at h
   cases hc : al i with
   | fault e k => rw [hc] at h; cases h
   | got u k =>
     rw [hc] at h
     simp only [Res.bind] at h
     have h2 := hal i u k hi hc
     split at h
     ·rename_i h4
      have := isAt_lt h4
      have h3 := patL_fwd hal n (k + 1) (l ++ [u]) t j (by omega) h
      omega
     ·injection h with _ h
      omega
theorem patR_fwd {p : ByteArray} : ∀ n i t j, i ≤ p.size → patR p n i = .got t j → i ≤ j ∧ j ≤ p.size
 | 0, i, t, j, hi, h => by
   unfold patR at h
   exact patL_fwd (fun i t j hi h => altR_fwd (fun i t j hi h => pieceR_fwd (fun f e => by cases e) h hi) _ _ _ _ _ hi h) _ _ _ _ _ hi h
 | n + 1, i, t, j, hi, h => by
   unfold patR at h
   exact patL_fwd (fun i t j hi h => altR_fwd (fun i t j hi h => pieceR_fwd (fun f e => by injection e with e; subst e; exact fun i t j hi h => patR_fwd n i t j hi h) h hi) _ _ _ _ _ hi h) _ _ _ _ _ hi h
end Ere
def slLen (v : Value) : Nat := match v with
 | .slice _ n _ => n
 | _ => 0
theorem Mx.grown {w w' : World} {row : Option Nat} (h : Mx w) (hg : w.grownBy w' row) (h0 : row ≠ some 1) : Mx w' := by
 have h1 := h.size
 obtain ⟨m, hm⟩ := h
 exact ⟨m, (World.cell?_of_block (w := w) (hg.block 1 h1 (fun e => h0 e.symm))).trans hm⟩
set_option maxRecDepth 100000 in
set_option maxHeartbeats 8000000 in
theorem alt_any (n gr : Nat) (hgr : gr + n = 64) (inner : Option (Nat → Ere.Res Nd)) (g : Nat) (p : ByteArray) (i : Nat) (hin : match n with
   | 0 => inner = none
   | n + 1 => PatOk p n ∧ inner = some (Ere.patR p n) ∧ ∀ i t j, i ≤ p.size → Ere.patR p n i = .got t j → i ≤ j ∧ j ≤ p.size) (w : World) (hP : Blk w g 110 (rdC p i)) (hi : i ≤ p.size) (hp : p.size ≤ 1024) (hM : Mx w) (h0 : 1 < g) :
  Calls Tryz.prog 53 #[.pointer (some ⟨g, 0, none⟩), .int .i64 (gr : Int)] w fun e w' => NdAns g p w w.heap.size (Ere.altR p (decide (gr = 0)) (Ere.pieceR p inner) (p.size + 2) i []) e w' := by
 obtain ⟨r, hr0⟩ : ∃ r, Ere.altR p (decide (gr = 0)) (Ere.pieceR p inner) (p.size + 2) i [] = r := ⟨_, rfl⟩
 rw [hr0]
 have hinf : ∀ f, inner = some f → ∀ i t j, i ≤ p.size → f i = .got t j → i ≤ j ∧ j ≤ p.size := by
  intro f hf
  cases n with
  | zero => rw [hin] at hf; cases hf
  | succ n => rw [hin.2.1] at hf; injection hf with hf; subst hf; exact hin.2.2
 have kPc := fun (i : Nat) (w : World) (hP : Blk w g 110 (rdC p i)) (hi : i < p.size) (hM : Mx w) => piece_any n gr hgr inner g p i hin w hP hi hp hM h0
 have hfwp := fun (i : Nat) (t : Nd) (j : Nat) (hi : i < p.size) (h : Ere.pieceR p inner i = .got t j) => Ere.pieceR_fwd hinf h hi
 obtain ⟨pc, hpc⟩ : ∃ f, Ere.pieceR p inner = f := ⟨_, rfl⟩
 rw [hpc] at hr0 kPc hfwp
 clear hpc hinf hin
 have hT := Turn.refl g (g + 1) w
 have hgl := Lib.hid hP.lt
 have hpI : (p.size : Int) ≤ 1024 := by omega
 have hgI : (gr : Int) ≤ 64 := by omega
 replace hr0 := Lib.hid hr0
 replace kPc := Lib.hid kPc
 replace hfwp := Lib.hid hfwp
 replace hgr := Lib.hid hgr
 go_enter Tryz.func53, Tryz.ntmps53
 have h4 : Blk (w.alloc (.cells zeroC 56)) w.heap.size 56 zeroC := Blk.new' _ _ _ rfl
 have hB1 : Below w.heap.size w (w.alloc (.cells zeroC 56)) := zqc (Below.refl _ _) _
 unfold zeroC at h4 hB1
 go_upto_region 1 with (fail)
 obtain ⟨w1, hw1⟩ : ∃ y, y = w.alloc (.cells zeroC 56) := ⟨_, rfl⟩
 unfold zeroC at hw1
 rw [← hw1] at h4 hB1 ⊢
 clear hw1
 replace hP := zqb hP hB1
 replace hT := hT.then_ hB1
 replace hM := hM.then_ hB1
 have h4l := h4.lt
 obtain ⟨g4, hg4e⟩ : ∃ y, y = w.heap.size := ⟨_, rfl⟩
 obtain ⟨B, hBe⟩ : ∃ y, y = w1.heap.size := ⟨_, rfl⟩
 have hwb := Lib.hid (show w.heap.size ≤ g4 ∧ g4 ≠ g ∧ 1 < g ∧ g < w.heap.size ∧ g4 < B ∧ g < B ∧ w.heap.size ≤ B ∧ 1 < B by have := hgl.out; have := hB1.size; omega)
 have hBw : B ≤ w1.heap.size := by omega
 rw [← hg4e] at h4 ⊢
 clear hg4e h0 h4l hB1 hBe
 go_wp2_with (fail)
 go_loopw [5] (fun lv wr => ∃ (A : Option Addr) (n c : Nat) (l : List Nd) (cl : List NV) (bl : List (List Nat)) (j : Nat), lv = .slice A n c ∧ NdL wr B A n c l cl bl ∧ B ≤ wr.heap.size ∧ n ≤ j ∧ j ≤ p.size ∧ Turn g (g + 1) w wr ∧ Mx wr ∧ Blk wr g 110 (rdC p j) ∧ Blk wr g4 56 #[.int .i64 0, .int .u64 0, .int .u64 0, .int .u64 0, .int .u64 0, .slice none 0 0, .int .i64 0, .int .i64 0] ∧ r = Ere.altR p (decide (gr = 0)) pc (p.size + 2 - n) j l) (fun lv _ => p.size + 2 - slLen lv)
 case atStart => exact ⟨none, 0, 0, [], [], [], i, rfl, NdL.nil_ _ _, hBw, by omega, hi, hT, hM, hP, h4, hr0.out.symm⟩
 case round =>
  clear hT hM hP h4 hBw
  obtain ⟨A, n, c, l, cl, bl, j, rfl, hL, hBw, hnj, hjp, hT, hM, hP, h4, hit⟩ := hrel
  have hfu : p.size + 2 - n = (p.size + 2 - (n + 1)) + 1 := by omega
  rw [hfu] at hit
  unfold Ere.altR at hit
  obtain ⟨b124, b124_e⟩ : ∃ b, Ere.isAt p j 124 = b := ⟨_, rfl⟩
  obtain ⟨b41, b41_e⟩ : ∃ b, Ere.isAt p j 41 = b := ⟨_, rfl⟩
  rw [b124_e, b41_e] at hit
  replace hit := Lib.hid hit
  replace hfu := Lib.hid hfu
  replace b124_e := Lib.hid b124_e
  replace b41_e := Lib.hid b41_e
  have hnj2 := Lib.hid hnj
  have hnn := Lib.hid hL.hn
  clear hnj
  have kM := more_any g p j wr hP
  have hjI : (j : Int) ≤ 1024 := by omega
  by_cases hjs : p.size ≤ j
  ·rw [decide_eq_false (by omega)] at kM
   have hr := Lib.hid (show r = .got (Ere.someN 3 l) j by rw [hit.out, decide_eq_true hjs]; simp)
   go_upto_region 7 with (go_at_call 61; refine kM.mono ?_; rintro e wx ⟨rfl, hBx⟩)
   replace hL := hL.then_ hBx
   have hTx := hT.then_ hBx
   have hPx := zqb hP hBx
   have h4x := zqb h4 hBx
   have kS := some_any 3 wx hL
   clear hL hT hP h4 hBx kM
   go_wp2_with (first | (go_at_call 55; refine kS.mono ?_; rintro e w8 ⟨hB8, x, bs, rfl, hO⟩; have h48 := zqb h4x hB8) | (refine zqx rfl _ _ rfl g4 x rfl rfl _ rfl h48 ?_; intro wz hz hgz))
   refine ret_nv rfl rfl hz rfl ?_
   rw [hr.out]
   exact ⟨(hTx.then_ hB8).grown hgz (fun q e => by injection e with e; have := hwb.out; right; omega), (zqb hPx hB8).grown hgz (fun e => by injection e with e; have := hwb.out; omega), x, bs, rfl, (hO.mono hwb.out.2.2.2.2.2.2.1).keep (fun b hb => hgz.block b (hO.lt b hb).2 (fun e => by injection e with e; have := (hO.lt b hb).1; have := hwb.out; omega))⟩
  ·rw [decide_eq_true (by omega)] at kM
   have hjs2 := Lib.hid hjs
   have hit2 := hit.out
   rw [decide_eq_false hjs] at hit2
   simp only [Bool.false_or] at hit2
   clear hit hjs
   go_upto_region 2 with (fail)
   have k124 : ∀ w2, Below wr.heap.size wr w2 → Calls Tryz.prog 54 #[.pointer (some ⟨g, 0, none⟩), .int .i64 (j : Int), .int .u8 124] w2 fun e w' => e = .returned (.bool b124) ∧ Below w2.heap.size w2 w' := fun w2 hB => is_at g p j j 124 124 w2 (zqb hP hB) rfl b124_e.out
   have hc1 : ∀ w2, Below wr.heap.size wr w2 → w2.cell? ⟨g, 1, none⟩ = some (.int .i64 (j : Int)) := fun w2 hB => (zqb hP hB).cellv rfl
   replace k124 := Lib.hid k124
   replace hc1 := Lib.hid hc1
   cases b124 with
   | true =>
     have hr := Lib.hid (show r = .got (Ere.someN 3 l) j by rw [hit2]; simp)
     go_upto_region 7 with (first | (go_at_call 61; refine kM.mono ?_; rintro e w2 ⟨rfl, hB2⟩; have c1 := hc1.out w2 hB2) | (go_at_call 54; refine (k124.out w2 hB2).mono ?_; rintro e wx ⟨rfl, hBx0⟩; have hBx := zqd hB2 hBx0))
     clear c1
     replace hL := hL.then_ hBx
     have hTx := hT.then_ hBx
     have hPx := zqb hP hBx
     have h4x := zqb h4 hBx
     have kS := some_any 3 wx hL
     clear hL hT hP h4 hBx kM
     go_wp2_with (first | (go_at_call 55; refine kS.mono ?_; rintro e w8 ⟨hB8, x, bs, rfl, hO⟩; have h48 := zqb h4x hB8) | (refine zqx rfl _ _ rfl g4 x rfl rfl _ rfl h48 ?_; intro wz hz hgz))
     refine ret_nv rfl rfl hz rfl ?_
     rw [hr.out]
     exact ⟨(hTx.then_ hB8).grown hgz (fun q e => by injection e with e; have := hwb.out; right; omega), (zqb hPx hB8).grown hgz (fun e => by injection e with e; have := hwb.out; omega), x, bs, rfl, (hO.mono hwb.out.2.2.2.2.2.2.1).keep (fun b hb => hgz.block b (hO.lt b hb).2 (fun e => by injection e with e; have := (hO.lt b hb).1; have := hwb.out; omega))⟩
   | false =>
     simp only [Bool.false_eq_true, if_false] at hit2
     go_upto_region 3 with (first | (go_at_call 61; refine kM.mono ?_; rintro e w2 ⟨rfl, hB2⟩; have c1 := hc1.out w2 hB2) | (go_at_call 54; refine (k124.out w2 hB2).mono ?_; rintro e w3 ⟨rfl, hB30⟩; have hB3 := zqd hB2 hB30))
     clear c1 k124 kM
     have c1 := hc1.out w3 hB3
     have k41 := is_at g p j j 41 41 w3 (zqb hP hB3) rfl b41_e.out
     cases b41 with
     | true =>
       rw [if_pos rfl] at hit2
       by_cases hg0 : gr = 0
       ·subst hg0
        have hr := Lib.hid (show r = .fault 42 j by rw [hit2]; simp)
        go_wp2_with (first | (go_at_call 54; refine k41.mono ?_; rintro e w4 ⟨rfl, hB40⟩; have hB4 := zqd hB3 hB40; have c2 := hc1.out w4 hB4) | (go_at_call 40; refine (zxf 42 j _).mono ?_; rintro e w9 ⟨hfe, hB9⟩; unfold zxo at hfe; subst hfe))
        rw [hr.out]
        exact ⟨rfl, (hT.then_ hB4).then_ hB9, rfl⟩
       ·have hg0I : ((gr : Int) == 0) = false := beq_eq_false_iff_ne.2 (by omega)
        have hr := Lib.hid (show r = .got (Ere.someN 3 l) j by rw [hit2, decide_eq_false hg0]; simp)
        go_upto_region 7 with (go_at_call 54; refine k41.mono ?_; rintro e wx ⟨rfl, hBx0⟩; have hBx := zqd hB3 hBx0)
        clear c1
        replace hL := hL.then_ hBx
        have hTx := hT.then_ hBx
        have hPx := zqb hP hBx
        have h4x := zqb h4 hBx
        have kS := some_any 3 wx hL
        clear hL hT hP h4 hBx
        go_wp2_with (first | (go_at_call 55; refine kS.mono ?_; rintro e w8 ⟨hB8, x, bs, rfl, hO⟩; have h48 := zqb h4x hB8) | (refine zqx rfl _ _ rfl g4 x rfl rfl _ rfl h48 ?_; intro wz hz hgz))
        refine ret_nv rfl rfl hz rfl ?_
        rw [hr.out]
        exact ⟨(hTx.then_ hB8).grown hgz (fun q e => by injection e with e; have := hwb.out; right; omega), (zqb hPx hB8).grown hgz (fun e => by injection e with e; have := hwb.out; omega), x, bs, rfl, (hO.mono hwb.out.2.2.2.2.2.2.1).keep (fun b hb => hgz.block b (hO.lt b hb).2 (fun e => by injection e with e; have := (hO.lt b hb).1; have := hwb.out; omega))⟩
     | false =>
       simp only [Bool.false_eq_true, if_false] at hit2
       go_upto_region 6 with (go_at_call 54; refine k41.mono ?_; rintro e w4 ⟨rfl, hB40⟩)
       have hB4 := zqd hB3 hB40
       clear c1 hB40 k41
       replace hT := hT.then_ hB4
       replace hM := hM.then_ hB4
       replace hP := zqb hP hB4
       replace h4 := zqb h4 hB4
       replace hL := hL.then_ hB4
       have hBw4 : B ≤ w4.heap.size := Nat.le_trans hBw hB4.size
       clear hB4 hB3 hB30 hB2 hBw hc1
       have kP := kPc.out j w4 hP (by have := hjs2.out; omega) hM
       have hfw := fun t k h => hfwp.out j t k (by have := hjs2.out; omega) h
       obtain ⟨rp, hrp⟩ : ∃ q, pc j = q := ⟨_, rfl⟩
       rw [hrp] at hit2 kP hfw
       replace hrp := Lib.hid hrp
       cases rp with
       | fault e0 k0 =>
         have hr := Lib.hid (show r = .fault e0 k0 by rw [hit2]; rfl)
         clear hit2 hfw
         go_wp2_with (go_at_call 62; refine kP.mono ?_; rintro e w9 ⟨hT9, hfe⟩; unfold zxo at hfe; subst hfe)
         rw [hr.out]
         exact ⟨rfl, hT.trans hT9, rfl⟩
       | got t k =>
         have hk := hfw t k rfl
         simp only [Ere.Res.bind] at hit2
         replace hit2 := Lib.hid hit2
         replace hk := Lib.hid hk
         clear hfw
         have hn9 := Lib.hid (show n ≤ 1000000 by have := hnj2.out; omega)
         have hLl := Lib.hid hL.lt
         replace hL := Lib.hid hL
         replace hBw4 := Lib.hid hBw4
         go_upto_region 6 with (fail)
         go_wp2_with (first
          | (go_at_call 62; refine kP.mono ?_; rintro e w5 ⟨hT5, hP5, x, bs, rfl, hO5⟩
             have hs5 := Lib.hid hT5.size
             have hL6 := Lib.hid ((hL.out.turn hT5 hwb.out.2.2.2.2.2.1).then_ (zqc (Below.refl w5.heap.size w5) (.cells x.C 56)))
             have hO6 := Lib.hid ((hO5.mono hBw4.out).then_ (zqc (Below.refl w5.heap.size w5) (.cells x.C 56)))
             have hdis := Lib.hid (show ∀ b ∈ bs, b ∉ ownL A ++ bl.flatten from fun b hb hb2 => by have := (hO5.lt b hb).1; have := (hLl.out b hb2).2; omega)
             have hBa := Lib.hid (zqc (Below.refl w5.heap.size w5) (.cells x.C 56)))
          | (refine wl_build1n rfl _ rfl x rfl ?_)
          | (at_builtin; refine wl_pushN rfl _ _ rfl hL6.out hO6.out hdis.out rfl _ rfl (Blk.new w5 56 x.C) hn9.out (by have := hBw4.out; have := hs5.out; have := hBa.out.size; omega) ?_; intro A' c' w7 hL7 hg7))
         have hrow : ∀ q, (Value.slice A n c).ownBlock = some q → B ≤ q := fun q hq => (hLl.out q (List.mem_append_left _ (mem_ownL.2 hq))).1
         have hTz := ((hT.trans hT5).then_ hBa.out).grown hg7 (fun q e => by have := hrow q e; have := hwb.out; right; omega)
         have hMz := ((hM.turn hT5 hwb.out.2.2.1).then_ hBa.out).grown hg7 (fun e => by have := hrow 1 e; have := hwb.out; omega)
         have hPz := (zqb hP5 hBa.out).grown hg7 (fun e => by have := hrow g e.symm; have := hwb.out; omega)
         have h4z := (zqb (zzg h4 hT5 (by have := hwb.out; omega)) hBa.out).grown hg7 (fun e => by have := hrow g4 e.symm; have := hwb.out; omega)
         have hBz : B ≤ w7.heap.size := by have := hBw4.out; have := hs5.out; have := hBa.out.size; have := hg7.size; omega
         exact ⟨⟨A', n + 1, c', l ++ [t], cl ++ [x], bl ++ [bs], k, rfl, hL7, hBz, by have := hk.out; have := hnj2.out; omega, hk.out.2, hTz, hMz, hPz, h4z, hit2.out⟩, by simp only [slLen]; have := hfu.out; omega⟩
def AltOk (p : ByteArray) (gr : Nat) (al : Nat → Ere.Res Nd) : Prop := ∀ (g i : Nat) (w : World), Blk w g 110 (rdC p i) → i ≤ p.size → p.size ≤ 1024 → Mx w → 1 < g →
 Calls Tryz.prog 53 #[.pointer (some ⟨g, 0, none⟩), .int .i64 (gr : Int)] w fun e w' => NdAns g p w w.heap.size (al i) e w'
set_option maxRecDepth 100000 in
set_option maxHeartbeats 8000000 in
theorem patL_any (gr : Nat) (hgr : gr ≤ 64) (al : Nat → Ere.Res Nd) (g : Nat) (p : ByteArray) (i : Nat) (hal : AltOk p gr al) (hfa : ∀ i t j, i ≤ p.size → al i = .got t j → i ≤ j ∧ j ≤ p.size) (w : World) (hP : Blk w g 110 (rdC p i)) (hi : i ≤ p.size) (hp : p.size ≤ 1024) (hM : Mx w) (h0 : 1 < g) :
  Calls Tryz.prog 38 #[.pointer (some ⟨g, 0, none⟩), .int .i64 (gr : Int)] w fun e w' => NdAns g p w w.heap.size (Ere.patL p al (p.size + 2) i []) e w' := by
 obtain ⟨r, hr0⟩ : ∃ r, Ere.patL p al (p.size + 2) i [] = r := ⟨_, rfl⟩
 rw [hr0]
 rw [show p.size + 2 = (p.size + 1) + 1 from rfl] at hr0
 unfold Ere.patL at hr0
 simp only [List.nil_append] at hr0
 have hT := Turn.refl g (g + 1) w
 have hgl := Lib.hid hP.lt
 have hpI : (p.size : Int) ≤ 1024 := by omega
 have hgI : (gr : Int) ≤ 64 := by omega
 replace hr0 := Lib.hid hr0
 replace hal := Lib.hid hal
 replace hfa := Lib.hid hfa
 go_enter Tryz.func38, Tryz.ntmps38
 have h4 : Blk (w.alloc (.cells zeroC 56)) w.heap.size 56 zeroC := Blk.new' _ _ _ rfl
 have hB1 : Below w.heap.size w (w.alloc (.cells zeroC 56)) := zqc (Below.refl _ _) _
 unfold zeroC at h4 hB1
 go_upto_region 1 with (fail)
 obtain ⟨w1, hw1⟩ : ∃ y, y = w.alloc (.cells zeroC 56) := ⟨_, rfl⟩
 unfold zeroC at hw1
 rw [← hw1] at h4 hB1 ⊢
 clear hw1
 replace hP := zqb hP hB1
 replace hT := hT.then_ hB1
 replace hM := hM.then_ hB1
 have h4l := h4.lt
 obtain ⟨g4, hg4e⟩ : ∃ y, y = w.heap.size := ⟨_, rfl⟩
 obtain ⟨B, hBe⟩ : ∃ y, y = w1.heap.size := ⟨_, rfl⟩
 have hwb := Lib.hid (show w.heap.size ≤ g4 ∧ g4 ≠ g ∧ 1 < g ∧ g < w.heap.size ∧ g4 < B ∧ g < B ∧ w.heap.size ≤ B ∧ 1 < B by have := hgl.out; have := hB1.size; omega)
 rw [← hg4e] at h4 ⊢
 have kA := hal.out g i w1 hP hi hp hM h0
 have hfi := fun t j => hfa.out i t j hi
 obtain ⟨ra, hra⟩ : ∃ q, al i = q := ⟨_, rfl⟩
 rw [hra] at kA hfi
 have hr1 := hr0.out
 rw [hra] at hr1
 rw [← hBe] at kA
 replace hBe := Lib.hid hBe
 clear hg4e h0 h4l hB1 hra hr0
 cases ra with
 | fault e0 k0 =>
   have hr := Lib.hid (show r = .fault e0 k0 from hr1.symm)
   clear hr1 hfi
   go_wp2_with (go_at_call 53; refine kA.mono ?_; rintro e w9 ⟨hT9, hfe⟩; unfold zxo at hfe; subst hfe)
   rw [hr.out]
   exact ⟨rfl, hT.trans hT9, rfl⟩
 | got t0 j0 =>
   have hj0 := hfi t0 j0 rfl
   simp only [Ere.Res.bind, List.nil_append] at hr1
   replace hr1 := Lib.hid hr1
   replace hj0 := Lib.hid hj0
   clear hfi
   go_wp2_with (first
    | (go_at_call 53; refine kA.mono ?_; rintro e w5 ⟨hT5, hP5, x, bs, rfl, hO5⟩)
    | (refine wl_build1n rfl _ rfl x rfl ?_))
   have hBa := zqc (Below.refl w5.heap.size w5) (.cells x.C 56)
   have hs5 := hT5.size
   have hBw5 : B ≤ w5.heap.size := by have := hBe.out; omega
   have hL6 := NdL.one hO5 hBa (Nat.le_refl _) (Blk.new w5 56 x.C) hBw5
   have hT6 := (hT.trans hT5).then_ hBa
   have hM6 := (hM.turn hT5 hwb.out.2.2.1).then_ hBa
   have hP6 := zqb hP5 hBa
   have h46 := zqb (zzg h4 hT5 (by have := hwb.out; omega)) hBa
   have hB6 : B ≤ (w5.alloc (.cells x.C 56)).heap.size := Nat.le_trans hBw5 hBa.size
   obtain ⟨g6, hg6⟩ : ∃ y, y = w5.heap.size := ⟨_, rfl⟩
   obtain ⟨w6, hw6⟩ : ∃ y, y = w5.alloc (.cells x.C 56) := ⟨_, rfl⟩
   rw [← hw6] at hL6 hT6 hM6 hP6 h46 hB6 ⊢
   rw [← hg6] at hL6 ⊢
   clear hw6 hg6 hBa hs5 hBw5 hP hT hM h4 kA hT5 hP5 hO5
   go_loopw [5] (fun lv wr => ∃ (A : Option Addr) (n c : Nat) (l : List Nd) (cl : List NV) (bl : List (List Nat)) (j : Nat), lv = .slice A n c ∧ NdL wr B A n c l cl bl ∧ B ≤ wr.heap.size ∧ 1 ≤ n ∧ n ≤ j + 1 ∧ j ≤ p.size ∧ Turn g (g + 1) w wr ∧ Mx wr ∧ Blk wr g 110 (rdC p j) ∧ Blk wr g4 56 #[.int .i64 0, .int .u64 0, .int .u64 0, .int .u64 0, .int .u64 0, .slice none 0 0, .int .i64 0, .int .i64 0] ∧ r = if Ere.isAt p j 124 then Ere.patL p al (p.size + 2 - n) (j + 1) l else .got (Ere.someN 4 l) j) (fun lv _ => p.size + 2 - slLen lv)
   case atStart => exact ⟨_, 1, 1, [t0], [x], [bs], j0, rfl, hL6, hB6, Nat.le_refl _, by omega, hj0.out.2, hT6, hM6, hP6, h46, hr1.out.symm⟩
   case round =>
    clear hL6 hT6 hM6 hP6 h46 hB6 hr1
    obtain ⟨A, n, c, l, cl, bl, j, rfl, hL, hBw, hn1, hnj, hjp, hT, hM, hP, h4, hit⟩ := hrel
    obtain ⟨b124, b124_e⟩ : ∃ b, Ere.isAt p j 124 = b := ⟨_, rfl⟩
    rw [b124_e] at hit
    have k124 := is_at g p j j 124 124 wr hP rfl b124_e
    have c1 : wr.cell? ⟨g, 1, none⟩ = some (.int .i64 (j : Int)) := hP.cellv rfl
    have hjI : (j : Int) ≤ 1024 := by omega
    have hjlt := Lib.hid (fun h : b124 = true => Ere.isAt_lt (b124_e.trans h))
    clear b124_e
    have hnj2 := Lib.hid hnj
    clear hnj
    cases b124 with
    | false =>
      have hr := Lib.hid (show r = .got (Ere.someN 4 l) j by rw [hit]; simp)
      clear hit
      go_upto_region 5 with (go_at_call 54; refine k124.mono ?_; rintro e wx ⟨rfl, hBx⟩)
      clear k124 c1
      replace hL := hL.then_ hBx
      have hTx := hT.then_ hBx
      have hPx := zqb hP hBx
      have h4x := zqb h4 hBx
      have kS := some_any 4 wx hL
      clear hL hT hP h4 hBx
      go_wp2_with (first | (go_at_call 55; refine kS.mono ?_; rintro e w8 ⟨hB8, x, bs, rfl, hO⟩; have h48 := zqb h4x hB8) | (refine zqx rfl _ _ rfl g4 x rfl rfl _ rfl h48 ?_; intro wz hz hgz))
      refine ret_nv rfl rfl hz rfl ?_
      rw [hr.out]
      exact ⟨(hTx.then_ hB8).grown hgz (fun q e => by injection e with e; have := hwb.out; right; omega), (zqb hPx hB8).grown hgz (fun e => by injection e with e; have := hwb.out; omega), x, bs, rfl, (hO.mono hwb.out.2.2.2.2.2.2.1).keep (fun b hb => hgz.block b (hO.lt b hb).2 (fun e => by injection e with e; have := (hO.lt b hb).1; have := hwb.out; omega))⟩
    | true =>
      rw [if_pos rfl] at hit
      have hj1 := hjlt.out (by trivial)
      have hfu : p.size + 2 - n = (p.size + 2 - (n + 1)) + 1 := by have := hnj2.out; omega
      rw [hfu] at hit
      unfold Ere.patL at hit
      replace hit := Lib.hid hit
      replace hfu := Lib.hid hfu
      go_upto_region 3 with (go_at_call 54; refine k124.mono ?_; rintro e w2 ⟨rfl, hB2⟩)
      clear k124 c1
      replace hT := hT.then_ hB2
      replace hM := hM.then_ hB2
      replace hP := zqb hP hB2
      replace h4 := zqb h4 hB2
      replace hL := hL.then_ hB2
      replace hBw := Nat.le_trans hBw hB2.size
      clear hB2
      have c1 : w2.cell? ⟨g, 1, none⟩ = some (.int .i64 (j : Int)) := hP.cellv rfl
      have f1 := hP.frozen 1
      go_upto_region 4 with (fail)
      have hP3 := setRd hP (v := .int .i64 ((j : Int) + 1)) (j := j + 1) (by congr 1)
      have hTo := turnRd (Turn.refl g (g + 1) w2) 1 (.int .i64 ((j : Int) + 1))
      have hT3 := hT.trans hTo
      have hM3 := hM.turn hTo hwb.out.2.2.1
      have h43 := zzg h4 hTo (by have := hwb.out; omega)
      have hL3 := hL.turn hTo hwb.out.2.2.2.2.2.1
      have hBw3 := Nat.le_trans hBw hTo.size
      obtain ⟨w3, hw3⟩ : ∃ y, y = w2.setCell ⟨g, 1, none⟩ (.int .i64 ((j : Int) + 1)) := ⟨_, rfl⟩
      rw [← hw3] at hP3 hT3 hM3 h43 hL3 hBw3 ⊢
      clear hw3 hTo hT hM hP h4 hL hBw c1 f1
      have kA := hal.out g (j + 1) w3 hP3 (by omega) hp hM3 hwb.out.2.2.1
      have hfw := fun t k => hfa.out (j + 1) t k (by omega)
      obtain ⟨ra, hra⟩ : ∃ q, al (j + 1) = q := ⟨_, rfl⟩
      rw [hra] at kA hfw
      have hit2 := hit.out
      rw [hra] at hit2
      clear hra hit
      cases ra with
      | fault e0 k0 =>
        have hr := Lib.hid (show r = .fault e0 k0 by rw [hit2]; rfl)
        clear hit2 hfw
        go_wp2_with (go_at_call 53; refine kA.mono ?_; rintro e w9 ⟨hT9, hfe⟩; unfold zxo at hfe; subst hfe)
        rw [hr.out]
        exact ⟨rfl, hT3.trans hT9, rfl⟩
      | got t k =>
        have hk := hfw t k rfl
        simp only [Ere.Res.bind] at hit2
        replace hit2 := Lib.hid hit2
        replace hk := Lib.hid hk
        clear hfw
        have hn9 := Lib.hid (show n ≤ 1000000 by have := hnj2.out; omega)
        have hLl := Lib.hid hL3.lt
        replace hL3 := Lib.hid hL3
        replace hBw3 := Lib.hid hBw3
        go_wp2_with (first
         | (go_at_call 53; refine kA.mono ?_; rintro e w5 ⟨hT5, hP5, x, bs, rfl, hO5⟩
            have hs5 := Lib.hid hT5.size
            have hL6 := Lib.hid ((hL3.out.turn hT5 hwb.out.2.2.2.2.2.1).then_ (zqc (Below.refl w5.heap.size w5) (.cells x.C 56)))
            have hO6 := Lib.hid ((hO5.mono hBw3.out).then_ (zqc (Below.refl w5.heap.size w5) (.cells x.C 56)))
            have hdis := Lib.hid (show ∀ b ∈ bs, b ∉ ownL A ++ bl.flatten from fun b hb hb2 => by have := (hO5.lt b hb).1; have := (hLl.out b hb2).2; omega)
            have hBa := Lib.hid (zqc (Below.refl w5.heap.size w5) (.cells x.C 56)))
         | (refine wl_build1n rfl _ rfl x rfl ?_)
         | (at_builtin; refine wl_pushN rfl _ _ rfl hL6.out hO6.out hdis.out rfl _ rfl (Blk.new w5 56 x.C) hn9.out (by have := hBw3.out; have := hs5.out; have := hBa.out.size; omega) ?_; intro A' c' w7 hL7 hg7))
        have hrow : ∀ q, (Value.slice A n c).ownBlock = some q → B ≤ q := fun q hq => (hLl.out q (List.mem_append_left _ (mem_ownL.2 hq))).1
        have hTz := ((hT3.trans hT5).then_ hBa.out).grown hg7 (fun q e => by have := hrow q e; have := hwb.out; right; omega)
        have hMz := ((hM3.turn hT5 hwb.out.2.2.1).then_ hBa.out).grown hg7 (fun e => by have := hrow 1 e; have := hwb.out; omega)
        have hPz := (zqb hP5 hBa.out).grown hg7 (fun e => by have := hrow g e.symm; have := hwb.out; omega)
        have h4z := (zqb (zzg h43 hT5 (by have := hwb.out; omega)) hBa.out).grown hg7 (fun e => by have := hrow g4 e.symm; have := hwb.out; omega)
        have hBz : B ≤ w7.heap.size := by have := hBw3.out; have := hs5.out; have := hBa.out.size; have := hg7.size; omega
        exact ⟨⟨A', n + 1, c', l ++ [t], cl ++ [x], bl ++ [bs], k, rfl, hL7, hBz, by omega, by have := hk.out; have := hnj2.out; omega, hk.out.2, hTz, hMz, hPz, h4z, hit2.out⟩, by simp only [slLen]; have := hfu.out; omega⟩
theorem pat_any (p : ByteArray) : ∀ n, PatOk p n
 | 0 => fun gr hgr g i w hP hi hp hM h0 => by
   unfold Ere.patR
   refine patL_any gr (by omega) _ g p i (fun g i w hP hi hp hM h0 => ?_) (fun i t j hi h => Ere.altR_fwd (fun i t j hi h => Ere.pieceR_fwd (fun f e => by cases e) h hi) _ _ _ _ _ hi h) w hP hi hp hM h0
   have := alt_any 0 gr hgr none g p i rfl w hP hi hp hM h0
   rw [decide_eq_false (show ¬ gr = 0 by omega)] at this
   exact this
 | n + 1 => fun gr hgr g i w hP hi hp hM h0 => by
   have ih := pat_any p n
   unfold Ere.patR
   refine patL_any gr (by omega) _ g p i (fun g i w hP hi hp hM h0 => ?_) (fun i t j hi h => Ere.altR_fwd (fun i t j hi h => Ere.pieceR_fwd (fun f e => by injection e with e; subst e; exact fun i t j hi h => Ere.patR_fwd n i t j hi h) h hi) _ _ _ _ _ hi h) w hP hi hp hM h0
   have := alt_any (n + 1) gr hgr (some (Ere.patR p n)) g p i ⟨ih, rfl, Ere.patR_fwd n⟩ w hP hi hp hM h0
   rw [show decide (gr = 0) = decide (n + 1 = 64) by congr 1; simp only [eq_iff_iff]; omega] at this
   exact this
namespace Ere
theorem nlAt_none (p : ByteArray) : ∀ n i, p.size ≤ n + i → nlAt p n i = none → ∀ j, i ≤ j → j < p.size → chr p j ≠ 10
 | 0, i, hn, _, j, hj, hp => by omega
 | n + 1, i, hn, h, j, hj, hp => by
   unfold nlAt at h
   split at h
   ·omega
   ·split at h
    ·cases h
    ·rename_i h1 h2
     by_cases e : j = i
     ·subst e; exact h2
     ·exact nlAt_none p n (i + 1) (by omega) h j (by omega) hp
theorem nlAt_some (p : ByteArray) : ∀ n i j, nlAt p n i = some j → i ≤ j ∧ j < p.size ∧ chr p j = 10 ∧ ∀ k, i ≤ k → k < j → chr p k ≠ 10
 | 0, i, j, h => by cases h
 | n + 1, i, j, h => by
   unfold nlAt at h
   split at h
   ·cases h
   ·split at h
    ·rename_i h1 h2
     injection h with h
     subst h
     exact ⟨Nat.le_refl _, by omega, h2, fun k h3 h4 => by omega⟩
    ·rename_i h1 h2
     obtain ⟨a, b, c, d⟩ := nlAt_some p n (i + 1) j h
     refine ⟨by omega, b, c, fun k h3 h4 => ?_⟩
     by_cases e : k = i
     ·subst e; exact h2
     ·exact d k (by omega) h4
theorem index_nl (p : ByteArray) : Lib.indexByte p.data.toList 10 = match nlAt p (p.size + 1) 0 with
  | none => -1
  | some j => (j : Int) := by
 have key : ∀ o : Nat, Lib.indexByte p.data.toList 10 = o → (o < p.size ∧ chr p o = 10) ∧ ∀ k, k < o → ¬ (k < p.size ∧ chr p k = 10) := fun o ho => by
  obtain ⟨h1, h2⟩ := Lib.indexByte_some ho
  exact ⟨(chr_list p o 10).1 h1, fun k hk h => h2 k hk ((chr_list p k 10).2 h)⟩
 have hge := Lib.indexByte_ge p.data.toList 10
 cases he : nlAt p (p.size + 1) 0 with
 | none =>
   have hn := nlAt_none p (p.size + 1) 0 (by omega) he
   rcases Int.lt_or_le (Lib.indexByte p.data.toList 10) 0 with h0 | h0
   ·simp only; omega
   ·obtain ⟨o, ho⟩ := Int.eq_ofNat_of_zero_le h0
    have h1 := (key o ho).1
    exact absurd h1.2 (hn o (by omega) h1.1)
 | some j =>
   obtain ⟨-, h2, h3, h4⟩ := nlAt_some p (p.size + 1) 0 j he
   rcases Int.lt_or_le (Lib.indexByte p.data.toList 10) 0 with h0 | h0
   ·have h1 := Lib.indexByte_none (l := p.data.toList) (c := 10) (by omega)
    exact absurd ((chr_list p j 10).2 ⟨h2, h3⟩) (h1 j)
   ·obtain ⟨o, ho⟩ := Int.eq_ofNat_of_zero_le h0
    obtain ⟨h5, h6⟩ := key o ho
    have hoj : o = j := by
     rcases Nat.lt_trichotomy o j with h | h | h
     ·exact absurd h5.2 (h4 o (by omega) h)
     ·exact h
     ·exact absurd ⟨h2, h3⟩ (h6 j h)
    rw [ho, hoj]
end Ere
theorem assert_fault (e0 a0 : Int) (w : World) : (Instr.typeAssert (.iface 107 (.agg #[.int .i64 e0, .int .i64 a0])) 20 107 true).run Tryz.prog w = .ok (.tuple #[.agg #[.int .i64 e0, .int .i64 a0], .bool true]) w := by kernel_rfl
def zeroV : NV := ⟨0, 0, none, 0, 0, 0, 0⟩
theorem Turn.set {lo hi b i : Nat} {w w' : World} {v : Value} (h : Turn lo hi w w') (h1 : lo ≤ b) (h2 : b < hi) : Turn lo hi w (w'.setCell ⟨b, i, none⟩ v) :=
 h.grown (zzi (World.grownBy.refl w' (some b)) (.inl rfl) v) (fun q e => by injection e with e; left; omega)
set_option maxHeartbeats 1000000 in
set_option maxRecDepth 100000 in
theorem closure_fault (g : Nat) (e0 a0 : Nat) (x : NV) (x3 x4 : Value) (w : World) (h2 : Blk w g 56 x.C) (h3 : Blk w (g + 1) 3 #[x3]) (h4 : Blk w (g + 1 + 1) 34 #[x4]) :
  CallsD Tryz.prog 37 #[.pointer (some ⟨g, 0, none⟩), .pointer (some ⟨g + 1, 0, none⟩), .pointer (some ⟨g + 1 + 1, 0, none⟩)] (.panicking [{ v := .iface 107 (.agg #[.int .i64 (e0 : Int), .int .i64 (a0 : Int)]), recovered := false }]) w fun e u' w' =>
   e = .returned (.tuple #[]) ∧ u' = .panicking [{ v := .iface 107 (.agg #[.int .i64 (e0 : Int), .int .i64 (a0 : Int)]), recovered := true }] ∧ Turn g (g + 3) w w' ∧
    Blk w' g 56 zeroV.C ∧ Blk w' (g + 1) 3 #[.int .i64 (a0 : Int)] ∧ Blk w' (g + 1 + 1) 34 #[.int .i64 (e0 : Int)] := by
 have hta := assert_fault (e0 : Int) (a0 : Int)
 refine callsD_of_wpS Tryz.func37 rfl fun c₀ cs hu => ?_
 apply wpS_seq
 apply wpS_region
 simp [wpOpsS, go_sem, recoverD, hu, Tryz.ntmps37, Exit.thenS]
 refine wpS_of_wp ?_
 simp only [show (Array.replicate 14 undef : Array Value) = #[undef, undef, undef, undef, undef, undef, undef, undef, undef, undef, undef, undef, undef, undef] from rfl, List.setIfInBounds_toArray, List.set_cons_zero, List.set_cons_succ, List.append_toArray, List.cons_append, List.nil_append]
 go_upto_region 7 with (fail)
 have hf : Blk (w.alloc (.cells #[.int .i64 (e0 : Int), .int .i64 (a0 : Int)] 107)) w.heap.size 107 #[.int .i64 (e0 : Int), .int .i64 (a0 : Int)] := Blk.new' _ _ _ rfl
 have hB : Below w.heap.size w (w.alloc (.cells #[.int .i64 (e0 : Int), .int .i64 (a0 : Int)] 107)) := zqc (Below.refl _ _) _
 obtain ⟨w1, hw1⟩ : ∃ y, y = w.alloc (.cells #[.int .i64 (e0 : Int), .int .i64 (a0 : Int)] 107) := ⟨_, rfl⟩
 rw [← hw1] at hf hB ⊢
 clear hw1
 have hgl := h4.lt
 replace h2 := zqb h2 hB
 replace h3 := zqb h3 hB
 replace h4 := zqb h4 hB
 have hT : Turn g (g + 3) w w1 := Turn.of_below hB
 obtain ⟨gf, hgf⟩ : ∃ y, y = w.heap.size := ⟨_, rfl⟩
 have hn1 : gf ≠ g := by omega
 have hn2 : gf ≠ g + 1 := by omega
 have hn3 : gf ≠ g + 1 + 1 := by omega
 rw [← hgf] at hf ⊢
 clear hgf hB
 have r0 := h2.cellv (i := 0) rfl
 have z0 := h2.frozen 0
 have r1 := h2.cellv (i := 1) rfl
 have z1 := h2.frozen 1
 have r2 := h2.cellv (i := 2) rfl
 have z2 := h2.frozen 2
 have r3 := h2.cellv (i := 3) rfl
 have z3 := h2.frozen 3
 have r4 := h2.cellv (i := 4) rfl
 have z4 := h2.frozen 4
 have r5 := h2.cellv (i := 5) rfl
 have z5 := h2.frozen 5
 have r6 := h2.cellv (i := 6) rfl
 have z6 := h2.frozen 6
 have r7 := h2.cellv (i := 7) rfl
 have z7 := h2.frozen 7
 have q1 : w1.cell? ⟨gf, 1, none⟩ = some (.int .i64 (a0 : Int)) := hf.cellv rfl
 have q0 : w1.cell? ⟨gf, 0, none⟩ = some (.int .i64 (e0 : Int)) := hf.cellv rfl
 have c3 := h3.cellv (i := 0) (v := x3) rfl
 have f3 := h3.frozen 0
 have c4 := h4.cellv (i := 0) (v := x4) rfl
 have f4 := h4.frozen 0
 go_big_region
 clear q0 q1 c3 f3 c4 f4 hf hn1 hn2 hn3 r0 r1 r2 r3 r4 r5 r6 r7 z0 z1 z2 z3 z4 z5 z6 z7
 replace h2 := h2.set_ 0 (.int .i64 0)
 replace h2 := h2.set_ 1 (.int .u64 0)
 replace h2 := h2.set_ 2 (.int .u64 0)
 replace h2 := h2.set_ 3 (.int .u64 0)
 replace h2 := h2.set_ 4 (.int .u64 0)
 replace h2 := h2.set_ 5 (.slice none 0 0)
 replace h2 := h2.set_ 6 (.int .i64 0)
 replace h2 := h2.set_ 7 (.int .i64 0)
 replace h3 := h3.far (p := ⟨g, 0, none⟩) (by simp) (.int .i64 0)
 replace h4 := h4.far (p := ⟨g, 0, none⟩) (by simp; omega) (.int .i64 0)
 replace hT := hT.set (b := g) (i := 0) (v := (.int .i64 0)) (by omega) (by omega)
 replace h3 := h3.far (p := ⟨g, 1, none⟩) (by simp) (.int .u64 0)
 replace h4 := h4.far (p := ⟨g, 1, none⟩) (by simp; omega) (.int .u64 0)
 replace hT := hT.set (b := g) (i := 1) (v := (.int .u64 0)) (by omega) (by omega)
 replace h3 := h3.far (p := ⟨g, 2, none⟩) (by simp) (.int .u64 0)
 replace h4 := h4.far (p := ⟨g, 2, none⟩) (by simp; omega) (.int .u64 0)
 replace hT := hT.set (b := g) (i := 2) (v := (.int .u64 0)) (by omega) (by omega)
 replace h3 := h3.far (p := ⟨g, 3, none⟩) (by simp) (.int .u64 0)
 replace h4 := h4.far (p := ⟨g, 3, none⟩) (by simp; omega) (.int .u64 0)
 replace hT := hT.set (b := g) (i := 3) (v := (.int .u64 0)) (by omega) (by omega)
 replace h3 := h3.far (p := ⟨g, 4, none⟩) (by simp) (.int .u64 0)
 replace h4 := h4.far (p := ⟨g, 4, none⟩) (by simp; omega) (.int .u64 0)
 replace hT := hT.set (b := g) (i := 4) (v := (.int .u64 0)) (by omega) (by omega)
 replace h3 := h3.far (p := ⟨g, 5, none⟩) (by simp) (.slice none 0 0)
 replace h4 := h4.far (p := ⟨g, 5, none⟩) (by simp; omega) (.slice none 0 0)
 replace hT := hT.set (b := g) (i := 5) (v := (.slice none 0 0)) (by omega) (by omega)
 replace h3 := h3.far (p := ⟨g, 6, none⟩) (by simp) (.int .i64 0)
 replace h4 := h4.far (p := ⟨g, 6, none⟩) (by simp; omega) (.int .i64 0)
 replace hT := hT.set (b := g) (i := 6) (v := (.int .i64 0)) (by omega) (by omega)
 replace h3 := h3.far (p := ⟨g, 7, none⟩) (by simp) (.int .i64 0)
 replace h4 := h4.far (p := ⟨g, 7, none⟩) (by simp; omega) (.int .i64 0)
 replace hT := hT.set (b := g) (i := 7) (v := (.int .i64 0)) (by omega) (by omega)
 replace h2 := h2.far (p := ⟨g + 1, 0, none⟩) (by simp) (.int .i64 (a0 : Int))
 replace h4 := h4.far (p := ⟨g + 1, 0, none⟩) (by simp) (.int .i64 (a0 : Int))
 replace h3 := h3.set_ 0 (.int .i64 (a0 : Int))
 replace hT := hT.set (b := g + 1) (i := 0) (v := .int .i64 (a0 : Int)) (by omega) (by omega)
 replace h2 := h2.far (p := ⟨g + 1 + 1, 0, none⟩) (by simp; omega) (.int .i64 (e0 : Int))
 replace h3 := h3.far (p := ⟨g + 1 + 1, 0, none⟩) (by simp) (.int .i64 (e0 : Int))
 replace h4 := h4.set_ 0 (.int .i64 (e0 : Int))
 replace hT := hT.set (b := g + 1 + 1) (i := 0) (v := .int .i64 (e0 : Int)) (by omega) (by omega)
 replace h2 := h2.drew
 replace h3 := h3.drew
 replace h4 := h4.drew
 replace hT := hT.then_ ((Below.refl _ _).drew)
 generalize World.drew _ = w2 at h2 h3 h4 hT ⊢
 go_wp2_with (fail)
 refine ⟨rfl, _, rfl, _, results_none rfl _ _ _, rfl, rfl, hT, ?_, h3, h4⟩
 have e : ((((((((x.C.setIfInBounds 0 (.int .i64 0)).setIfInBounds 1 (.int .u64 0)).setIfInBounds 2 (.int .u64 0)).setIfInBounds 3 (.int .u64 0)).setIfInBounds 4 (.int .u64 0)).setIfInBounds 5 (.slice none 0 0)).setIfInBounds 6 (.int .i64 0)).setIfInBounds 7 (.int .i64 0)) = zeroV.C := by kernel_rfl
 rw [← e]
 exact h2
theorem closure_idle (p q r : Addr) (w : World) : CallsD Tryz.prog 37 #[.pointer (some p), .pointer (some q), .pointer (some r)] .returning w fun e u' w' => e = .returned (.tuple #[]) ∧ u' = .returning ∧ w' = w := by
 refine callsD_of_wpS Tryz.func37 rfl fun c₀ cs hu => ?_
 apply wpS_seq
 apply wpS_region
 simp [wpOpsS, go_sem, recoverD, hu, Tryz.ntmps37, Exit.thenS]
 refine wpS_of_wp ?_
 simp only [show (Array.replicate 14 undef : Array Value) = #[undef, undef, undef, undef, undef, undef, undef, undef, undef, undef, undef, undef, undef, undef] from rfl, List.setIfInBounds_toArray, List.set_cons_zero, List.set_cons_succ, List.append_toArray, List.cons_append, List.nil_append]
 go_wp2_with (fail)
 cases c₀
 simp_all [bodyPostS, results, Tryz.results37]
theorem placesN_eq (t : Nd) : placesN t = Ere.placesN t := by
 unfold placesN Ere.placesN
 split
 ·omega
 ·rfl
theorem res3 {fn : Func} {g : Nat} {x : NV} (hres : fn.results = #[.cell 2 56, .cell 3 3, .cell 4 34]) {tmps : Array Value} {w : World} {a b : Int}
  (h2 : tmps.getD 2 undef = .pointer (some ⟨g, 0, none⟩)) (h3 : tmps.getD 3 undef = .pointer (some ⟨g + 1, 0, none⟩)) (h4 : tmps.getD 4 undef = .pointer (some ⟨g + 1 + 1, 0, none⟩))
  (k2 : Blk w g 56 x.C) (k3 : Blk w (g + 1) 3 #[.int .i64 a]) (k4 : Blk w (g + 1 + 1) 34 #[.int .i64 b]) : (results fn tmps).run Tryz.prog w = .ok (.tuple #[.agg x.C, .int .i64 a, .int .i64 b]) w := by
 have l2 := run_loadVar_row (P := Tryz.prog) w g 56 56 x.C (0, 0) _ k2 Tryz.underlying56 rfl (info_node.trans rfl)
 have l3 := run_load1 (P := Tryz.prog) w ⟨g + 1, 0, none⟩ 3 _ (.int .i64 a) (k3.cellv rfl) Tryz.underlying3 rfl
 have l4 := run_load1 (P := Tryz.prog) w ⟨g + 1 + 1, 0, none⟩ 34 _ (.int .i64 b) (k4.cellv rfl) Tryz.underlying34 rfl
 have h2' : tmps[2]?.getD undef = .pointer (some ⟨g, 0, none⟩) := by simpa using h2
 have h3' : tmps[3]?.getD undef = .pointer (some ⟨g + 1, 0, none⟩) := by simpa using h3
 have h4' : tmps[4]?.getD undef = .pointer (some ⟨g + 1 + 1, 0, none⟩) := by simpa using h4
 simp [results, hres, h2', h3', h4', asAddr, l2, l3, l4]
set_option maxRecDepth 100000 in
set_option maxHeartbeats 8000000 in
theorem parse_any (p : ByteArray) (w : World) (hM : Mx w) :
  Calls Tryz.prog 15 #[.string p] w fun e w' => Below w.heap.size w w' ∧ ∃ x bs, e = .returned (.tuple #[.agg (NV.C x), .int .i64 ((Ere.parseR p).2.1 : Int), .int .i64 ((Ere.parseR p).2.2 : Int)]) ∧ NdO w' w.heap.size (Ere.parseR p).1 x bs := by
 obtain ⟨r, hr0⟩ : ∃ r, Ere.parseR p = r := ⟨_, rfl⟩
 rw [hr0]
 unfold Ere.parseR at hr0
 have hmf : ∀ (fn : Fn) (first cap : Array Value) (w : World), (Instr.makeFunc fn first cap).run Tryz.prog w = .ok (.func fn first cap) w := fun _ _ _ _ => rfl
 have hw0 : 1 < w.heap.size := hM.size
 go_enter_defers Tryz.func15, Tryz.ntmps15
 have k2 : Blk (((w.alloc (.cells zeroC 56)).alloc (.cells #[.int .i64 0] 3)).alloc (.cells #[.int .i64 0] 34)) w.heap.size 56 zeroC := ((Blk.new _ _ _).alloc _).alloc _
 have k3 : Blk (((w.alloc (.cells zeroC 56)).alloc (.cells #[.int .i64 0] 3)).alloc (.cells #[.int .i64 0] 34)) (w.heap.size + 1) 3 #[.int .i64 0] := (Blk.new' _ _ _ (by simp)).alloc _
 have k4 : Blk (((w.alloc (.cells zeroC 56)).alloc (.cells #[.int .i64 0] 3)).alloc (.cells #[.int .i64 0] 34)) (w.heap.size + 1 + 1) 34 #[.int .i64 0] := Blk.new' _ _ _ (by simp)
 have hB : Below w.heap.size w (((w.alloc (.cells zeroC 56)).alloc (.cells #[.int .i64 0] 3)).alloc (.cells #[.int .i64 0] 34)) := zqc (zqc (zqc (Below.refl _ _) _) _) _
 unfold zeroC at k2 k3 k4 hB
 go_upto_region 1 with (fail)
 obtain ⟨w1, hw1⟩ : ∃ y, y = ((w.alloc (.cells zeroC 56)).alloc (.cells #[.int .i64 0] 3)).alloc (.cells #[.int .i64 0] 34) := ⟨_, rfl⟩
 unfold zeroC at hw1
 rw [← hw1] at k2 k3 k4 hB
 first | rw [← hw1] | (simp only [World.size_alloc]; rw [← hw1])
 clear hw1
 obtain ⟨g, hg⟩ : ∃ y, y = w.heap.size := ⟨_, rfl⟩
 rw [← hg] at k2 k3 k4 hw0 ⊢
 have hgw := Lib.hid hg
 have hgl := Lib.hid k4.lt
 clear hg
 replace hM := hM.then_ hB
 by_cases hbig : 1024 < p.size
 ·rw [if_pos hbig] at hr0
  have hbigI : (1024 : Int) < p.size := by omega
  subst hr0
  go_wp2_with (first
   | (refine zxy rfl _ rfl zeroV #[] rfl (fun w => build_nzero w) ?_)
   | (refine zqx rfl _ _ rfl g zeroV rfl rfl _ rfl k2 ?_; intro w2 m2 hg2; have m3 := k3.grown hg2 (fun e => by injection e with e; omega); have m4 := k4.grown hg2 (fun e => by injection e with e; omega); have c3 := m3.cellv (i := 0) (v := .int .i64 0) rfl; have f3 := m3.frozen 0; have c4 := m4.cellv (i := 0) (v := .int .i64 0) rfl; have f4 := m4.frozen 0))
  have q3 := (m3.set_ 0 (.int .i64 1024)).far (p := ⟨g + 1 + 1, 0, none⟩) (by simp) (.int .i64 40)
  have q4 := (m4.far (p := ⟨g + 1, 0, none⟩) (by simp) (.int .i64 1024)).set_ 0 (.int .i64 40)
  have q2 := (m2.far (p := ⟨g + 1, 0, none⟩) (by simp) (.int .i64 1024)).far (p := ⟨g + 1 + 1, 0, none⟩) (by simp; omega) (.int .i64 40)
  have hT := ((Turn.refl g (g + 3) w1).grown hg2 (fun q e => by injection e with e; left; omega)).set (b := g + 1) (i := 0) (v := .int .i64 1024) (by omega) (by omega) |>.set (b := g + 1 + 1) (i := 0) (v := .int .i64 40) (by omega) (by omega)
  refine ⟨_, res3 rfl rfl rfl rfl q2 q3 q4, ?_⟩
  have hBB := hB.trans (hT.below (by have := hgw.out; omega) (by have := hgl.out; have := hgw.out; omega))
  exact ⟨hBB, zeroV, rfl, [], NdO.leaf _ _ _ _ _ _⟩
 ·rw [if_neg hbig] at hr0
  have hbigI : ¬ (1024 : Int) < p.size := by omega
  have kI := sib_any p 10 w1
  rw [show (10 : Int).toNat.toUInt8 = 10 from rfl, Ere.index_nl] at kI
  obtain ⟨onl, honl⟩ : ∃ o, Ere.nlAt p (p.size + 1) 0 = o := ⟨_, rfl⟩
  rw [honl] at hr0 kI
  replace honl := Lib.hid honl
  cases onl with
  | some j =>
    simp only at hr0 kI
    have hj0 : (0 : Int) ≤ j := by omega
    subst hr0
    go_wp2_with (first
     | (go_at_call 36; refine kI.mono ?_; rintro e w9 ⟨rfl, hw9⟩; rw [hw9]; clear hw9)
     | (refine zxy rfl _ rfl zeroV #[] rfl (fun w => build_nzero w) ?_)
     | (refine zqx rfl _ _ rfl g zeroV rfl rfl _ rfl k2 ?_; intro w2 m2 hg2; have m3 := k3.grown hg2 (fun e => by injection e with e; omega); have m4 := k4.grown hg2 (fun e => by injection e with e; omega); have c3 := m3.cellv (i := 0) (v := .int .i64 0) rfl; have f3 := m3.frozen 0; have c4 := m4.cellv (i := 0) (v := .int .i64 0) rfl; have f4 := m4.frozen 0))
    have q3 := (m3.set_ 0 (.int .i64 (j : Int))).far (p := ⟨g + 1 + 1, 0, none⟩) (by simp) (.int .i64 41)
    have q4 := (m4.far (p := ⟨g + 1, 0, none⟩) (by simp) (.int .i64 (j : Int))).set_ 0 (.int .i64 41)
    have q2 := (m2.far (p := ⟨g + 1, 0, none⟩) (by simp) (.int .i64 (j : Int))).far (p := ⟨g + 1 + 1, 0, none⟩) (by simp; omega) (.int .i64 41)
    have hT := ((Turn.refl g (g + 3) w1).grown hg2 (fun q e => by injection e with e; left; omega)).set (b := g + 1) (i := 0) (v := .int .i64 (j : Int)) (by omega) (by omega) |>.set (b := g + 1 + 1) (i := 0) (v := .int .i64 41) (by omega) (by omega)
    refine ⟨_, res3 rfl rfl rfl rfl q2 q3 q4, ?_⟩
    have hBB := hB.trans (hT.below (by have := hgw.out; omega) (by have := hgl.out; have := hgw.out; omega))
    exact ⟨hBB, zeroV, rfl, [], NdO.leaf _ _ _ _ _ _⟩
  | none =>
    simp only at hr0 kI
    go_upto_region 7 with (go_at_call 36; refine kI.mono ?_; rintro e w9 ⟨rfl, hw9⟩; rw [hw9]; clear hw9)
    clear kI
    go_upto_region 8 with (fail)
    have hP : Blk (w1.alloc (.cells (rdC p 0) 110)) w1.heap.size 110 (rdC p 0) := Blk.new' _ _ _ rfl
    have hB2 : Below w1.heap.size w1 (w1.alloc (.cells (rdC p 0) 110)) := zqc (Below.refl _ _) _
    obtain ⟨w2, hw2⟩ : ∃ y, y = w1.alloc (.cells (rdC p 0) 110) := ⟨_, rfl⟩
    rw [← hw2] at hP hB2
    unfold rdC at hw2
    rw [show ((0 : Nat) : Int) = 0 from rfl] at hw2
    rw [← hw2]
    clear hw2
    have m2 := zqb k2 hB2
    have m3 := zqb k3 hB2
    have m4 := zqb k4 hB2
    have hM2 := hM.then_ hB2
    have hT := Turn.of_below (lo := g) (hi := g + 3) hB2
    obtain ⟨gr, hgr⟩ : ∃ y, y = w1.heap.size := ⟨_, rfl⟩
    rw [← hgr] at hP ⊢
    have hgr2 := Lib.hid (show g + 1 + 1 < gr ∧ 1 < gr by have := hgl.out; omega)
    have kP := pat_any p 64 0 rfl gr 0 w2 hP (by omega) (by omega) hM2 hgr2.out.2
    rw [show ((0 : Nat) : Int) = 0 from rfl] at kP
    obtain ⟨rp, hrp⟩ : ∃ q, Ere.patR p 64 0 = q := ⟨_, rfl⟩
    rw [hrp] at hr0 kP
    replace hrp := Lib.hid hrp
    have hs2 := Lib.hid hB2.size
    have hgw2 := Lib.hid (show gr = w1.heap.size from hgr)
    clear hgr k2 k3 k4 hM hB2
    cases rp with
    | fault e0 a0 =>
      simp only at hr0
      subst hr0
      go_wp2_with (go_at_call 38; refine kP.mono ?_; rintro e w9 ⟨hT9, hfe⟩; unfold zxo at hfe; subst hfe)
      refine leaves_cons (f := 37) (args := #[.pointer (some ⟨g, 0, none⟩), .pointer (some ⟨g + 1, 0, none⟩), .pointer (some ⟨g + 1 + 1, 0, none⟩)]) (by simp) (by simp [go_sem]) ?_
      refine (closure_fault g e0 a0 zeroV (.int .i64 0) (.int .i64 0) _ (zzg m2 hT9 (by have := hgr2.out; omega)) (zzg m3 hT9 (by have := hgr2.out; omega)) (zzg m4 hT9 (by have := hgr2.out; omega))).mono ?_
      rintro e u' w10 ⟨rfl, rfl, hT10, q2, q3, q4⟩
      refine Exists.intro _ (And.intro (res3 rfl rfl rfl rfl q2 q3 q4) ?_)
      have hBB := ((hB.trans (hT.below (N := w.heap.size) (by have := hgw.out; omega) (by have := hB.size; omega))).trans (hT9.below (N := w.heap.size) (by have := hgw.out; have := hgr2.out; omega) (by have := hB.size; have := hs2.out; omega))).trans (hT10.below (N := w.heap.size) (by have := hgw.out; omega) (by have := hB.size; have := hs2.out; have := hT9.size; omega))
      exact ⟨hBB, zeroV, rfl, [], NdO.leaf _ _ _ _ _ _⟩
    | got t j =>
      simp only at hr0
      have kPl := fun (x : NV) (bs : List Nat) (W : World) (h : NdO W w2.heap.size t x bs) => placesE_any t W.heap.size W x.C h.toIn (Nat.le_refl _)
      rw [placesN_eq] at kPl
      have hplb : Ere.placesN t ≤ 2049 := by unfold Ere.placesN; split <;> omega
      obtain ⟨np, hnp⟩ : ∃ q, Ere.placesN t = q := ⟨_, rfl⟩
      rw [hnp] at hr0 kPl hplb
      replace kPl := Lib.hid kPl
      replace hnp := Lib.hid hnp
      go_upto_region 9 with (first
       | (go_at_call 38; refine kP.mono ?_; rintro e w3 ⟨hT3, hP3, x, bs, rfl, hO3⟩; have n2 := zzg m2 hT3 (by have := hgr2.out; omega))
       | (refine zqx rfl _ _ rfl g x rfl rfl _ rfl n2 ?_; intro w4 h2 hg4))
      have h3 := (zzg m3 hT3 (by have := hgr2.out; omega)).grown hg4 (fun e => by injection e with e; omega)
      have h4 := (zzg m4 hT3 (by have := hgr2.out; omega)).grown hg4 (fun e => by injection e with e; omega)
      have hO4 := hO3.keep (w' := w4) (fun b hb => hg4.block b (hO3.lt b hb).2 (fun e => by injection e with e; have := (hO3.lt b hb).1; have := hgr2.out; have := hs2.out; have := hgw2.out; omega))
      have hT4 : Turn g (g + 3) w3 w4 := (Turn.refl g (g + 3) w3).grown hg4 (fun q e => by injection e with e; left; omega)
      have hs3 := Lib.hid hT3.size
      clear hg4 hO3 n2 m2 m3 m4 hP3 kP hP
      have kQ := kPl.out x bs w4 hO4
      have hBB4 := Lib.hid (((hB.trans (hT.below (N := w.heap.size) (by have := hgw.out; omega) (by have := hB.size; omega))).trans (hT3.below (N := w.heap.size) (by have := hgw.out; have := hgr2.out; omega) (by have := hB.size; have := hs2.out; omega))).trans (hT4.below (N := w.heap.size) (by have := hgw.out; omega) (by have := hB.size; have := hs2.out; have := hs3.out; omega)))
      have hsz4 := Lib.hid (show w2.heap.size ≤ w4.heap.size by have := hs3.out; have := hT4.size; omega)
      replace hB := Lib.hid hB.size
      clear hT hT3 hT4 kPl
      go_upto_if 25 with (first
       | (refine wl_load_nv rfl _ rfl g rfl x h2 ?_)
       | (go_at_call 39; refine kQ.mono ?_; rintro e w5 ⟨rfl, hB5⟩))
      clear kQ
      replace h2 := zqb h2 hB5
      replace h3 := zqb h3 hB5
      replace h4 := zqb h4 hB5
      replace hO4 := hO4.then_ hB5
      by_cases hbp : 2048 < np
      ·rw [if_pos hbp] at hr0
       subst hr0
       have hbpI : (2048 : Int) < np := by omega
       go_wp2_with (go_at_call 40; refine (zxf 48 0 _).mono ?_; rintro e w6 ⟨hfe, hB6⟩; unfold zxo at hfe; subst hfe)
       refine leaves_cons (f := 37) (args := #[.pointer (some ⟨g, 0, none⟩), .pointer (some ⟨g + 1, 0, none⟩), .pointer (some ⟨g + 1 + 1, 0, none⟩)]) (by simp) (by simp [go_sem]) ?_
       refine (closure_fault g 48 0 x (.int .i64 0) (.int .i64 0) _ (zqb h2 hB6) (zqb h3 hB6) (zqb h4 hB6)).mono ?_
       rintro e u' w10 ⟨rfl, rfl, hT10, q2, q3, q4⟩
       refine Exists.intro _ (And.intro (res3 rfl rfl rfl rfl q2 q3 q4) ?_)
       have hBB := ((hBB4.out.trans (hB5.mono (by have := hB.out; have := hs2.out; have := hsz4.out; omega))).trans (hB6.mono (by have := hB.out; have := hs2.out; have := hsz4.out; have := hB5.size; omega))).trans (hT10.below (N := w.heap.size) (by have := hgw.out; omega) (by have := hB.out; have := hs2.out; have := hsz4.out; have := hB5.size; have := hB6.size; omega))
       exact ⟨hBB, zeroV, rfl, [], NdO.leaf _ _ _ _ _ _⟩
      ·rw [if_neg hbp] at hr0
       subst hr0
       have hbpI : (np : Int) ≤ 2048 := by omega
       go_wp2_with (first
        | (refine wl_load_nv rfl _ rfl g rfl x h2 ?_)
        | (refine zqx rfl _ _ rfl g x rfl rfl _ rfl h2 ?_; intro w6 n2 hg6; have n3 := h3.grown hg6 (fun e => by injection e with e; omega); have n4 := h4.grown hg6 (fun e => by injection e with e; omega); have c3 := n3.cellv (i := 0) (v := .int .i64 0) rfl; have f3 := n3.frozen 0; have c4 := n4.cellv (i := 0) (v := .int .i64 0) rfl; have f4 := n4.frozen 0))
       refine leaves_cons (f := 37) (args := #[.pointer (some ⟨g, 0, none⟩), .pointer (some ⟨g + 1, 0, none⟩), .pointer (some ⟨g + 1 + 1, 0, none⟩)]) (by simp) (by simp [go_sem]) ?_
       refine (closure_idle ⟨g, 0, none⟩ ⟨g + 1, 0, none⟩ ⟨g + 1 + 1, 0, none⟩ _).mono ?_
       rintro e u' w10 ⟨rfl, rfl, rfl⟩
       have q3 := (n3.set_ 0 (.int .i64 0)).far (p := ⟨g + 1 + 1, 0, none⟩) (by simp) (.int .i64 0)
       have q4 := (n4.far (p := ⟨g + 1, 0, none⟩) (by simp) (.int .i64 0)).set_ 0 (.int .i64 0)
       have q2 := (n2.far (p := ⟨g + 1, 0, none⟩) (by simp) (.int .i64 0)).far (p := ⟨g + 1 + 1, 0, none⟩) (by simp; omega) (.int .i64 0)
       have hT6 := ((Turn.refl g (g + 3) w5).grown hg6 (fun q e => by injection e with e; left; omega)).set (b := g + 1) (i := 0) (v := .int .i64 0) (by omega) (by omega) |>.set (b := g + 1 + 1) (i := 0) (v := .int .i64 0) (by omega) (by omega)
       refine Exists.intro _ (And.intro (res3 rfl rfl rfl rfl q2 q3 q4) ?_)
       have hBB := (hBB4.out.trans (hB5.mono (by have := hB.out; have := hs2.out; have := hsz4.out; omega))).trans (hT6.below (N := w.heap.size) (by have := hgw.out; omega) (by have := hB.out; have := hs2.out; have := hsz4.out; have := hB5.size; omega))
       have hO6 := (hO4.mono (show w.heap.size ≤ w2.heap.size by have := hB.out; have := hs2.out; omega)).keep (w' := (w6.setCell ⟨g + 1, 0, none⟩ (.int .i64 0)).setCell ⟨g + 1 + 1, 0, none⟩ (.int .i64 0)) (fun b hb => hT6.block b (hO4.lt b hb).2 (.inr (by have := (hO4.lt b hb).1; have := hgr2.out; have := hs2.out; have := hgw2.out; omega)))
       exact ⟨hBB, x, rfl, bs, hO6⟩
end Go.Proofs.YtkedgombccdamaaGreatDoor
namespace Go.Proofs.YtkedgombccdamaaGreatDoor
set_option linter.unusedVariables false
set_option linter.unusedSimpArgs false
namespace Ere
def okE (e : Nat) : Prop := e = 30 ∨ (42 ≤ e ∧ e ≤ 47)
theorem countsR_bad {p : ByteArray} {i e a : Nat} (h : countsR p i = .fault e a) : e = 45 ∧ a = i := by
 unfold countsR at h
 simp only at h
 split at h
 ·split at h
  ·cases h
  ·split at h
   ·injection h with h1 h2; exact ⟨h1.symm, h2.symm⟩
   ·cases h
 ·split at h
  ·injection h with h1 h2; exact ⟨h1.symm, h2.symm⟩
  ·cases h
theorem repeatR_bad {p : ByteArray} {t : Nd} {i e a : Nat} (h : repeatR p t i = .fault e a) : e = 45 ∧ a = i ∧ i < p.size := by
 unfold repeatR at h
 split at h
 ·cases h
 split at h
 ·cases h
 split at h
 ·cases h
 split at h
 ·rename_i h3
  cases hc : countsR p i with
  | fault e' a' =>
    rw [hc] at h
    injection h with h1 h2
    have := countsR_bad hc
    exact ⟨by omega, by omega, isAt_lt h3⟩
  | got c j => rw [hc] at h; cases h
 ·cases h
theorem classR_bad {p : ByteArray} {s i e a : Nat} (h : classR p s i = .fault e a) : (e = 43 ∧ a = s) ∨ (e = 30 ∧ a = i) := by
 unfold classR at h
 split at h
 ·injection h with h1 h2; exact .inl ⟨h1.symm, h2.symm⟩
 ·split at h
  ·injection h with h1 h2; exact .inr ⟨h1.symm, h2.symm⟩
  ·cases h
theorem itemR_bad {p : ByteArray} {s i e a : Nat} (h : itemR p s i = .fault e a) : (e = 43 ∨ e = 30) ∧ (a = s ∨ a = i) := by
 unfold itemR at h
 split at h
 ·rcases classR_bad h with h | h <;> omega
 ·split at h
  ·injection h with h1 h2; omega
  ·split at h
   ·cases h
   ·split at h
    ·injection h with h1 h2; omega
    ·cases h
theorem itemsR_bad {p : ByteArray} {s : Nat} : ∀ n first i x e a, p.size + 1 ≤ n + i → i ≤ p.size → itemsR p s n first i x = .fault e a → (e = 43 ∨ e = 30) ∧ (a = s ∨ (i ≤ a ∧ a < p.size))
 | 0, _, i, _, _, _, hn, hi, _ => by omega
 | n + 1, first, i, x, e, a, hn, hi, h => by
   unfold itemsR at h
   split at h
   ·cases h
   ·split at h
    ·injection h with h1 h2; omega
    ·rename_i h1 h2
     cases hc : itemR p s i with
     | fault e' a' =>
       rw [hc] at h
       injection h with h3 h4
       have := itemR_bad hc
       omega
     | got t j =>
       rw [hc] at h
       have hf := itemR_fwd hc (by omega)
       have := itemsR_bad n false j _ e a (by omega) hf.2 h
       omega
theorem setR_bad {p : ByteArray} {s i e a : Nat} (hi : i ≤ p.size) (h : setR p s i = .fault e a) : (e = 43 ∨ e = 30) ∧ (a = s ∨ (i ≤ a ∧ a < p.size)) := by
 unfold setR at h
 cases hc : itemsR p s (p.size + 2) true (if isAt p i 94 then i + 1 else i) 0 with
 | fault e' a' =>
   rw [hc] at h
   injection h with h3 h4
   have hb : (if isAt p i 94 then i + 1 else i) ≤ p.size ∧ i ≤ (if isAt p i 94 then i + 1 else i) := by
    split
    ·rename_i h5
     have := isAt_lt h5
     omega
    ·omega
   have := itemsR_bad (p.size + 2) true _ 0 e' a' (by omega) hb.1 hc
   omega
 | got t j => rw [hc] at h; cases h
def BadF (p : ByteArray) (i e a : Nat) : Prop := okE e ∧ i ≤ a ∧ a < p.size
theorem pieceR_bad {p : ByteArray} {inner : Option (Nat → Res Nd)} (hfw : ∀ f, inner = some f → ∀ i t j, i ≤ p.size → f i = .got t j → i ≤ j ∧ j ≤ p.size) (hin : ∀ f, inner = some f → ∀ i e a, i ≤ p.size → f i = .fault e a → BadF p i e a) {i e a : Nat} (hi : i < p.size) (h : pieceR p inner i = .fault e a) : BadF p i e a := by
 unfold pieceR at h
 simp only at h
 split at h
 ·cases h
 split at h
 ·cases h
 split at h
 ·injection h with h1 h2; unfold BadF okE; omega
 split at h
 ·cases inner with
  | none => injection h with h1 h2; unfold BadF okE; omega
  | some f =>
    simp only at h
    cases hf : f (i + 1) with
    | fault e' a' =>
      rw [hf] at h
      injection h with h1 h2
      have := hin f rfl (i + 1) e' a' (by omega) hf
      unfold BadF at this ⊢
      subst h1 h2
      exact ⟨this.1, by omega, this.2.2⟩
    | got u k =>
      rw [hf] at h
      simp only [Res.bind] at h
      have h1 := hfw f rfl (i + 1) u k (by omega) hf
      split at h
      ·injection h with h1 h2; unfold BadF okE; omega
      ·have := repeatR_bad h
       unfold BadF okE; omega
 split at h
 ·cases hf : setR p i (i + 1) with
  | fault e' a' =>
    rw [hf] at h
    injection h with h1 h2
    have := setR_bad (by omega) hf
    unfold BadF okE; omega
  | got u k =>
    rw [hf] at h
    simp only [Res.bind] at h
    have h1 := setR_fwd hf
    have := repeatR_bad h
    unfold BadF okE; omega
 split at h
 ·have := repeatR_bad h
  unfold BadF okE; omega
 split at h
 ·split at h
  ·have := repeatR_bad h
   unfold BadF okE; omega
  ·injection h with h1 h2; unfold BadF okE; omega
 ·have := repeatR_bad h
  unfold BadF okE; omega
theorem altR_bad {p : ByteArray} {top : Bool} {pc : Nat → Res Nd} (hpc : ∀ i t j, i < p.size → pc i = .got t j → i < j ∧ j ≤ p.size) (hbad : ∀ i e a, i < p.size → pc i = .fault e a → BadF p i e a) : ∀ n i l e a, p.size + 1 ≤ n + i → i ≤ p.size → altR p top pc n i l = .fault e a → BadF p i e a
 | 0, i, _, _, _, hn, hi, _ => by omega
 | n + 1, i, l, e, a, hn, hi, h => by
   unfold altR at h
   split at h
   ·cases h
   ·rename_i h1
    simp only [Bool.or_eq_true, decide_eq_true_eq, not_or] at h1
    split at h
    ·split at h
     ·injection h with h1 h2; unfold BadF okE; omega
     ·cases h
    ·cases hc : pc i with
     | fault e' a' =>
       rw [hc] at h
       injection h with h2 h3
       subst h2 h3
       exact hbad i _ _ (by omega) hc
     | got u k =>
       rw [hc] at h
       have h2 := hpc i u k (by omega) hc
       have h3 := altR_bad hpc hbad n k (l ++ [u]) e a (by omega) h2.2 h
       unfold BadF at h3 ⊢
       exact ⟨h3.1, by omega, h3.2.2⟩
theorem patL_bad {p : ByteArray} {al : Nat → Res Nd} (hal : ∀ i t j, i ≤ p.size → al i = .got t j → i ≤ j ∧ j ≤ p.size) (hbad : ∀ i e a, i ≤ p.size → al i = .fault e a → BadF p i e a) : ∀ n i l e a, p.size + 1 ≤ n + i → i ≤ p.size → patL p al n i l = .fault e a → BadF p i e a
 | 0, i, _, _, _, hn, hi, _ => by omega
 | n + 1, i, l, e, a, hn, hi, h => by
   unfold patL at h
   cases hc : al i with
   | fault e' a' =>
     rw [hc] at h
     injection h with h2 h3
     subst h2 h3
     exact hbad i _ _ hi hc
   | got u k =>
     rw [hc] at h
     simp only [Res.bind] at h
     have h2 := hal i u k hi hc
     split at h
     ·rename_i h4
      have := isAt_lt h4
      have h3 := patL_bad hal hbad n (k + 1) (l ++ [u]) e a (by omega) (by omega) h
      unfold BadF at h3 ⊢
      exact ⟨h3.1, by omega, h3.2.2⟩
     ·cases h
theorem patR_bad {p : ByteArray} : ∀ n i e a, i ≤ p.size → patR p n i = .fault e a → BadF p i e a
 | 0, i, e, a, hi, h => by
   unfold patR at h
   exact patL_bad (fun i t j hi h => altR_fwd (fun i t j hi h => pieceR_fwd (fun f e => by cases e) h hi) _ _ _ _ _ hi h)
    (fun i e a hi h => altR_bad (fun i t j hi h => pieceR_fwd (fun f e => by cases e) h hi) (fun i e a hi h => pieceR_bad (fun f e => by cases e) (fun f e => by cases e) hi h) _ _ _ _ _ (by omega) hi h) _ _ _ _ _ (by omega) hi h
 | n + 1, i, e, a, hi, h => by
   unfold patR at h
   have hf : ∀ f, some (patR p n) = some f → ∀ i t j, i ≤ p.size → f i = .got t j → i ≤ j ∧ j ≤ p.size := fun f e => by injection e with e; subst e; exact fun i t j hi h => patR_fwd n i t j hi h
   have hb : ∀ f, some (patR p n) = some f → ∀ i e a, i ≤ p.size → f i = .fault e a → BadF p i e a := fun f e => by injection e with e; subst e; exact fun i e a hi h => patR_bad n i e a hi h
   exact patL_bad (fun i t j hi h => altR_fwd (fun i t j hi h => pieceR_fwd hf h hi) _ _ _ _ _ hi h)
    (fun i e a hi h => altR_bad (fun i t j hi h => pieceR_fwd hf h hi) (fun i e a hi h => pieceR_bad hf hb hi h) _ _ _ _ _ (by omega) hi h) _ _ _ _ _ (by omega) hi h
end Ere
end Go.Proofs.YtkedgombccdamaaGreatDoor
namespace Go.Proofs.YtkedgombccdamaaGreatDoor
open Go.RowKit Go.Maps
set_option linter.unusedVariables false
set_option linter.unusedSimpArgs false
attribute [local go_sem] Oper.semAt_some
namespace Ere
end Ere
theorem notB0_get (i : Nat) (hi : i < 256) : (notB 0).getLsbD i = (i != 10) := by
 rw [← setTo_hasnt, setTo_get _ _ _ hi, decide_eq_true hi, Bool.true_and]
 unfold hasnt
 simp
namespace Ere
theorem repeatR_end {p : ByteArray} {t : Nd} {j : Nat} (h : p.size ≤ j) : repeatR p t j = .got t j := by
 have e : ∀ c, isAt p j c = false := fun c => by unfold isAt; rw [decide_eq_false (by omega), Bool.false_and]
 unfold repeatR
 rw [e, e, e, e]
 rfl
theorem altR_end {p : ByteArray} {top : Bool} {pc : Nat → Res Nd} : ∀ n i l t j, altR p top pc n i l = .got t j → p.size ≤ j ∨ isAt p j 124 = true ∨ isAt p j 41 = true
 | 0, _, _, _, _, h => by cases h
 | n + 1, i, l, t, j, h => by
   unfold altR at h
   split at h
   ·rename_i h1
    injection h with _ h
    subst h
    simp only [Bool.or_eq_true, decide_eq_true_eq] at h1
    rcases h1 with h1 | h1
    ·exact .inl h1
    ·exact .inr (.inl h1)
   ·split at h
    ·rename_i h2
     split at h
     ·cases h
     ·injection h with _ h
      subst h
      exact .inr (.inr h2)
    ·cases hc : pc i with
     | fault e k => rw [hc] at h; cases h
     | got u k =>
       rw [hc] at h
       exact altR_end n k _ t j h
theorem patL_end {p : ByteArray} {al : Nat → Res Nd} (hal : ∀ i t j, al i = .got t j → p.size ≤ j ∨ isAt p j 124 = true ∨ isAt p j 41 = true) : ∀ n i l t j, patL p al n i l = .got t j → p.size ≤ j ∨ isAt p j 41 = true
 | 0, _, _, _, _, h => by cases h
 | n + 1, i, l, t, j, h => by
   unfold patL at h
   cases hc : al i with
   | fault e k => rw [hc] at h; cases h
   | got u k =>
     rw [hc] at h
     simp only [Res.bind] at h
     split at h
     ·exact patL_end hal n _ _ t j h
     ·rename_i h1
      injection h with _ h
      subst h
      rcases hal i u k hc with h2 | h2 | h2
      ·exact .inl h2
      ·exact absurd h2 h1
      ·exact .inr h2
theorem patR_end {p : ByteArray} : ∀ n i t j, patR p n i = .got t j → p.size ≤ j ∨ isAt p j 41 = true
 | 0, i, t, j, h => by
   unfold patR at h
   exact patL_end (fun i t j h => altR_end _ _ _ _ _ h) _ _ _ _ _ h
 | n + 1, i, t, j, h => by
   unfold patR at h
   exact patL_end (fun i t j h => altR_end _ _ _ _ _ h) _ _ _ _ _ h
end Ere
theorem gs_index_str {ops : Array Oper} {S : Nat → GSpec} {Q : Exit → Act → World → Prop} {i : Nat} {o : Oper} {a : Act} {w : World} (hw : Region.wanted o (yielded ops a.tmps) = true) (x y : Operand) (ho : o.op = .index 9 x y)
  (p : ByteArray) (n : Nat) (hx : a.eval x = .string p) (hy : a.eval y = .int .i64 (n : Int)) (hn : n < p.size) (hp : (S i).p (.int .u8 ((Ere.chr p n : Nat) : Int)) w) : GStep Tryz.prog ops S Q i o a w :=
 zzx hw (v := .int .u8 ((Ere.chr p n : Nat) : Int)) (w' := w) (by
  unfold execOp Ere.chr
  simp only [ho, hx, hy, Sem.run_bind, run_index_string w 9 p .i64 (n : Int) Tryz.underlying9]
  rw [dif_pos ⟨by omega, by omega⟩, dif_pos hn]
  rfl) (Below.refl _ _) hp
section
variable {lo : Nat} {w w' w2 : World}
end
structure SL where
 blk : Nat
 n : Nat
 c : Nat
section
variable {w w' : World} {B lo : Nat} {L M : List SL} {bs cs : List Nat}
end
end Go.Proofs.YtkedgombccdamaaGreatDoor
namespace Go.Proofs.YtkedgombccdamaaGreatDoor
open Go.RowKit Go.Shelf Go.Maps
set_option linter.unusedVariables false
set_option linter.unusedSimpArgs false
def orL (R : List Nat) (l : List Nat) : Nat := l.foldl (fun r n => r ||| R.getD n 0) 0
theorem orL_snoc (R l : List Nat) (n : Nat) : orL R (l ++ [n]) = orL R l ||| R.getD n 0 := by simp [orL]
theorem ruleD_lt {R : List Nat} (hR : ∀ r ∈ R, r < 4294967296) (n : Nat) : R.getD n 0 < 4294967296 := by
 rw [List.getD_eq_getElem?_getD]
 by_cases h : n < R.length
 ·rw [List.getElem?_eq_getElem h]
  exact hR _ (List.getElem_mem h)
 ·rw [List.getElem?_eq_none (Nat.le_of_not_lt h)]
  decide
theorem or_lt32 {a b : Nat} (ha : a < 4294967296) (hb : b < 4294967296) : a ||| b < 4294967296 := Nat.or_lt_two_pow (n := 32) ha hb
theorem orL_lt {R : List Nat} (hR : ∀ r ∈ R, r < 4294967296) (l : List Nat) : orL R l < 4294967296 := by
 have key : ∀ (l : List Nat) (r : Nat), r < 4294967296 → l.foldl (fun r n => r ||| R.getD n 0) r < 4294967296 := by
  intro l
  induction l with
  | nil => intro r h; exact h
  | cons n l ih => intro r h; exact ih _ (or_lt32 h (ruleD_lt hR n))
 exact key l 0 (by decide)
theorem bits_low {x y n : Nat} (h : ∀ i, i < n → x.testBit i = y.testBit i) : zzj x n = zzj y n := by
 induction n with
 | zero => rfl
 | succ n ih => rw [zyd, zyd, ih fun i hi => h i (by omega), h n (by omega)]
theorem bits_add {y t N : Nat} (ht : t < N) (hy : y.testBit t = false) : (zzj (y ||| 2 ^ t) N).length = (zzj y N).length + 1 := by
 induction N with
 | zero => omega
 | succ N ih =>
   rw [zyd, zyd, zzc]
   by_cases e : t = N
   ·subst e
    rw [hy, bits_low (x := y ||| 2 ^ t) (y := y) (n := t) (fun i hi => by rw [zzc]; have : ¬ t = i := by omega
                                                                          simp [this])]
    simp
   ·have := ih (by omega)
    simp only [e, decide_false, Bool.or_false]
    split
    ·simp [this]
    ·exact this
theorem wl_store_one {α : Type} {enc : α → Array Value} {base : Nat} {e : TypeId} {w : World} {ys : List α} {ops : Array Oper} {rest : List Oper} {o : Oper} {a : Act} {Q : Exit → Act → World → Prop} (hsE : ∀ y, (enc y).size = 1) (hgd : o.guard = none) (t : TypeId) (hsz : (Tryz.prog.info? t).map (·.size) = some 1) (x y : Operand) (ho : o.op = .store t x y)
  (g k n cap : Nat) (hx : a.eval x = .pointer (some ⟨g, k, none⟩)) (z : α) (hy : (enc z).toList = [a.eval y]) (hyc : (a.eval y).cells = #[a.eval y]) (hy1 : (a.eval y).oneCell' = true) (hown : Own w base e 1 enc (.slice (some ⟨g, 0, none⟩) n cap) ys) (hk : k < ys.length)
  (h : ∀ w', Own w' base e 1 enc (.slice (some ⟨g, 0, none⟩) n cap) (ys.set k z) → w.grownBy w' (some g) → wpList Tryz.prog ops Q rest (a.put o.dst undef) w') : wpList Tryz.prog ops Q (o :: rest) a w := by
 have hcell : ∃ u, w.cell? ⟨g, k, none⟩ = some u ∧ (enc ys[k]).toList = [u] := by
  have h0 : 0 < (enc ys[k]).size := by rw [hsE]; decide
  have := hown.row hsE k hk 0 _ (Array.getElem?_eq_getElem h0)
  rw [Nat.mul_one] at this
  refine ⟨_, this, ?_⟩
  apply List.ext_getElem
  ·simp [hsE]
  ·intro i h1 h2
   have : i = 0 := by simpa using h2
   subst this
   simp
 obtain ⟨u, hcell, hu⟩ := hcell
 have hfr := hown.frozen k
 obtain ⟨v, hv⟩ : ∃ v, a.eval y = v := ⟨_, rfl⟩
 rw [hv] at hy hyc hy1
 have hrun : (storeVar t ⟨g, k, none⟩ v).run Tryz.prog w = .ok () (w.setCell ⟨g, k, none⟩ v) := by
  cases hq : Tryz.prog.info? t with
  | none => rw [hq] at hsz; cases hsz
  | some j =>
    have hs : j.size = 1 := by rw [hq] at hsz; simpa using hsz
    have e := run_store Tryz.prog w ⟨g, k, none⟩ v .plain hy1
    simp only [hcell, hfr, Bool.false_eq_true, if_false] at e
    have e0 : (⟨g, k, none⟩ : Addr).add 0 = ⟨g, k, none⟩ := rfl
    simp [storeVar, sizeOf, typeInfo, hq, hs, hyc, storeCells, e0, e]
 refine wpList_plain hgd fun _ hK => ?_
 unfold Oper.wp execOp
 simp only [ho, hx, hv, Instr.storeAt, Instr.sureAddr, Sem.run_bind, Sem.run_pure, Result.andThen_ok, hrun]
 have o1 := hown.setCell (i := k) (q := 0) (y' := z) (u := v) hsE hk (by decide) (by rw [hu, hy]; rfl)
 rw [Nat.mul_one, Nat.add_zero] at o1
 exact hK _ _ (h _ o1 (zzi (zzk _ _) (.inl rfl) _))
section
variable {w : World} {ops : Array Oper} {rest : List Oper} {o : Oper} {a : Act} {Q : Exit → Act → World → Prop}
end
theorem info_bool1 : (Tryz.prog.info? 4).map (·.size) = some 1 := by kernel_rfl
end Go.Proofs.YtkedgombccdamaaGreatDoor
namespace Go.Proofs.YtkedgombccdamaaGreatDoor
open Go.RowKit Go.Shelf Go.Maps
set_option linter.unusedVariables false
set_option linter.unusedSimpArgs false
attribute [local go_sem] Oper.semAt_some
theorem own_turn {α : Type} {enc : α → Array Value} {size base lo hi b n c : Nat} {e : TypeId} {w w' : World} {ys : List α} (h : Own w base e size enc (.slice (some ⟨b, 0, none⟩) n c) ys) (k : Turn lo hi w w') (hb : b < lo ∨ hi ≤ b) : Own w' base e size enc (.slice (some ⟨b, 0, none⟩) n c) ys :=
 own_block h fun g hg => by
  have : b = g := by simpa [Value.ownBlock] using hg
  subst this
  exact k.block b (h.lt b rfl).2 hb
end Go.Proofs.YtkedgombccdamaaGreatDoor
