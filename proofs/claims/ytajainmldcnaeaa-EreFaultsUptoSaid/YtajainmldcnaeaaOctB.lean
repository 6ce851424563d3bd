/- The walks of package octets' functions on sets, second part: Of, Span, Join, Not. -/
import Derived.Test.YtajainmldcnaeaaOctA
namespace Go.Proofs.Ytajainmldcnaeaa
open Go.RowKit
set_option linter.unusedVariables false
set_option linter.unusedSimpArgs false

set_option maxHeartbeats 400000 in
theorem of_any (A : Option Addr) (n c : Nat) (l : List UInt8) (w : World) (hn : n = l.length) (hm : n ≤ maxLen) (hs : SliceOf w w.heap.size 1 enc8 A l) :
    Calls Try.prog 82 #[.slice A n c] w fun e w' => e = .returned (.agg (setC (ofB l))) ∧ Below w.heap.size w w' := by
  have Hn := Lib.hid hn
  clear hn
  unfold maxLen at hm
  have hs2 : w.heap.size ≤ w.heap.size + 1 := by omega
  go_enter Try.func82, Try.ntmps82
  go_wp2
  go_loopw [8] (fun i wr => ∃ k : Nat, k ≤ n ∧ i = .int .i64 k ∧ Blk wr (w.heap.size + 1) 24 (setC (ofB (l.take k))) ∧ Blk wr w.heap.size 24 (setC 0) ∧ Below w.heap.size w wr) (fun i _ => n - (intOf i).toNat)
  case atStart =>
    refine ⟨0, by omega, rfl, ?_, ?_, ?_⟩
    · rw [show ofB (l.take 0) = 0 from rfl]
      exact Blk.new' _ _ _ (World.size_alloc _ _).symm
    · exact (Blk.new _ _ _).alloc _
    · exact ((Below.refl _ _).alloc (Nat.le_refl _) _).alloc (by simp) _
  case round =>
    obtain ⟨k, hk, rfl, hb1, hb2, hB⟩ := hrel
    by_cases hlt : k < n
    · have hlt' : k < l.length := by have := Hn.out; omega
      obtain ⟨b, off, rfl, hbl, hrow⟩ := (hs.below hB).at_ (by omega)
      have hc := hrow k hlt' 0 (.int .u8 (l[k].toNat)) rfl
      rw [Nat.mul_one, Nat.add_zero] at hc
      have hu : l[k].toNat < 256 := l[k].toNat_lt
      clear hrow
      go_wp2_with (go_at_call 92; refine (put_any _ _ hu _ _ hb1).mono ?_; rintro e w' ⟨rfl, hb1', hg1⟩)
      go_roundw
      case rel =>
        refine ⟨k + 1, by omega, by go_num, ?_, hb2.grown hg1 (by simp), hB.grown hg1 hB.size (by rintro k ⟨⟩; exact hs2)⟩
        rw [take_snoc' l k hlt', ofB_snoc]
        exact hb1'
      case measure => simp [intOf]; omega
    · have hkk : l.take k = l := List.take_of_length_le (by have := Hn.out; omega)
      rw [hkk] at hb1
      clear hkk
      go_wp2_with (first | (refine wl_load_set rfl _ rfl _ rfl _ hb1 ?_) | (refine wl_store_set rfl _ _ rfl _ _ rfl rfl _ hb2 ?_; intro w1 hb4 hg4))
      exact ret_set rfl rfl hb4 rfl ⟨rfl, hB.grown hg4 hB.size (by rintro k ⟨⟩; exact Nat.le_refl _)⟩

set_option maxHeartbeats 400000 in
theorem span_any (f t : Nat) (w : World) (hf : f < 256) (ht : t < 256) :
    Calls Try.prog 102 #[.int .u8 f, .int .u8 t] w fun e w' => e = .returned (.agg (setC (spanB f t))) ∧ Below w.heap.size w w' := by
  have hs2 : w.heap.size ≤ w.heap.size + 1 := by omega
  go_enter Try.func102, Try.ntmps102
  go_wp2
  go_loopw [13] (fun i wr => ∃ k : Nat, k ≤ t + 1 - f ∧ i = .int .i64 k ∧ Blk wr (w.heap.size + 1) 24 (setC (setTo (fun i => decide (f ≤ i ∧ i ≤ t)) (f + k))) ∧ Blk wr w.heap.size 24 (setC 0) ∧ Below w.heap.size w wr) (fun i _ => t + 1 - f - (intOf i).toNat)
  case atStart =>
    refine ⟨0, by omega, rfl, ?_, ?_, ?_⟩
    · rw [setTo_none (by intro i hi; simp; omega)]
      exact Blk.new' _ _ _ (World.size_alloc _ _).symm
    · exact (Blk.new _ _ _).alloc _
    · exact ((Below.refl _ _).alloc (Nat.le_refl _) _).alloc (by simp) _
  case round =>
    obtain ⟨k, hk, rfl, hb1, hb2, hB⟩ := hrel
    by_cases hlt : k < t + 1 - f
    · have hlt2 : (k : Int) < (t : Int) - (f : Int) + 1 := by omega
      go_wp2_with (go_at_call 92; refine (put_int _ _ (by omega) (by omega) _ _ hb1).mono ?_; rintro e w' ⟨rfl, hb1', hg1⟩)
      go_roundw
      case rel =>
        refine ⟨k + 1, by omega, by go_num, ?_, hb2.grown hg1 (by simp), hB.grown hg1 hB.size (by rintro k ⟨⟩; exact hs2)⟩
        rw [show ((f : Int) + (k : Int)).toNat = f + k by omega] at hb1'
        rw [show f + (k + 1) = f + k + 1 by omega, setTo_succ_pos (by simp; omega)]
        exact hb1'
      case measure => simp [intOf]; omega
    · have hlt2 : ¬ (k : Int) < (t : Int) - (f : Int) + 1 := by omega
      obtain rfl : k = t + 1 - f := by omega
      rw [spanB_eq f t ht] at hb1
      go_wp2_with (first | (refine wl_load_set rfl _ rfl _ rfl _ hb1 ?_) | (refine wl_store_set rfl _ _ rfl _ _ rfl rfl _ hb2 ?_; intro w1 hb4 hg4))
      exact ret_set rfl rfl hb4 rfl ⟨rfl, hB.grown hg4 hB.size (by rintro k ⟨⟩; exact Nat.le_refl _)⟩

set_option maxHeartbeats 400000 in
theorem not_any (x : BSet) (w : World) :
    Calls Try.prog 80 #[.agg (setC x)] w fun e w' => e = .returned (.agg (setC (notB x))) ∧ Below w.heap.size w w' := by
  have hs2 : w.heap.size ≤ w.heap.size + 1 := by omega
  have h0 := Blk.new w 24 (setC x)
  have h0' := h0.alloc (.cells (setC 0) 24)
  go_enter Try.func80, Try.ntmps80
  go_wp2_with (go_at_call 92; refine (put_int _ _ (by omega) (by omega) _ _ h0').mono ?_; rintro e w' ⟨rfl, hb1', hg1⟩)
  go_loopw [5] (fun i wr => ∃ k : Nat, k ≤ 4 ∧ i = .int .i64 k ∧ Blk wr w.heap.size 24 (setC (mix k (notB x) (x ||| bit 10))) ∧ Blk wr (w.heap.size + 1) 24 (setC 0) ∧ Below w.heap.size w wr) (fun i _ => 4 - (intOf i).toNat)
  case atStart =>
    refine ⟨0, by omega, rfl, ?_, ?_, ?_⟩
    · rw [mix_zero]; exact hb1'
    · exact (Blk.new' (w.alloc (.cells (setC x) 24)) 24 (setC 0) (World.size_alloc _ _).symm).grown hg1 (by simp)
    · exact (((Below.refl _ _).alloc (Nat.le_refl _) _).alloc (by simp) _).grown hg1 (by simp; omega) (by rintro k ⟨⟩; exact Nat.le_refl _)
  case round =>
    obtain ⟨k, hk, rfl, hb1, hb2, hB⟩ := hrel
    by_cases hlt : k < 4
    · have c1 := hb1.cellv (setC_at _ k hlt)
      have f1 := hb1.frozen k
      go_wp2
      go_roundw
      case rel =>
        refine ⟨k + 1, by omega, by go_num, ?_, (hb2.far (by simp) _), (hB.setCell (Nat.le_refl _) _)⟩
        rw [word_mix_ge _ _ (Nat.le_refl _) hlt, notW hlt]
        exact hb1.set_eq (mix_set hlt rfl)
      case measure => simp [intOf]; omega
    · obtain rfl : k = 4 := by omega
      rw [mix_four] at hb1
      go_wp2_with (first | (refine wl_load_set rfl _ rfl _ rfl _ hb1 ?_) | (refine wl_store_set rfl _ _ rfl _ _ rfl rfl _ hb2 ?_; intro w1 hb4 hg4))
      exact ret_set rfl rfl hb4 rfl ⟨rfl, hB.grown hg4 hB.size (by rintro k ⟨⟩; exact hs2)⟩

end Go.Proofs.Ytajainmldcnaeaa
