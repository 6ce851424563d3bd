/- The walks of the document's answer for sets (heronref03), second part: Of, Span, Join, Meet, Not, Count. -/
import Derived.Test.YtjpiebapemalfaaRefA
namespace Go.Proofs.Ytjpiebapemalfaa
open Go.RowKit
set_option linter.unusedVariables false
set_option linter.unusedSimpArgs false

set_option maxHeartbeats 400000 in
theorem rof_any (A : Option Addr) (n c : Nat) (l : List UInt8) (w : World) (hn : n = l.length) (hm : n ≤ maxLen) (hs : SliceOf w w.heap.size 1 enc8 A l) :
    Calls Try.prog 38 #[.slice A n c] w fun e w' => e = .returned (.agg (setC (ofB l))) ∧ Below w.heap.size w w' := by
  have Hn := Lib.hid hn
  clear hn
  unfold maxLen at hm
  have hs2 : w.heap.size ≤ w.heap.size + 1 := by omega
  go_enter Try.func38, Try.ntmps38
  go_wp2
  go_loopw [4] (fun i wr => ∃ k : Nat, k ≤ n ∧ i = .int .i64 k ∧ Blk wr (w.heap.size + 1) 31 (setC (ofB (l.take k))) ∧ Blk wr w.heap.size 31 (setC 0) ∧ Below w.heap.size w wr) (fun i _ => n - (intOf i).toNat)
  case atStart =>
    refine ⟨0, by omega, rfl, ?_, ?_, ?_⟩
    · rw [show ofB (l.take 0) = 0 from rfl]
      exact Blk.new' _ _ _ (World.size_alloc _ _).symm
    · exact (Blk.new _ _ _).alloc _
    · exact below_alloc (below_alloc (Below.refl _ _) _) _
  case round =>
    obtain ⟨k, hk, rfl, hb1, hb2, hB⟩ := hrel
    by_cases hlt : k < n
    · have hlt' : k < l.length := by have := Hn.out; omega
      obtain ⟨b, off, rfl, hbl, hrow⟩ := (hs.below hB).at_ (by omega)
      have hc := hrow k hlt' 0 (.int .u8 (l[k].toNat)) rfl
      rw [Nat.mul_one, Nat.add_zero] at hc
      have hu : l[k].toNat < 256 := l[k].toNat_lt
      clear hrow
      go_wp2
      refine wp_region_still_tail 6 follows_mixed (by kernel_rfl) ?_
      simp only [List.take_succ_cons, List.take_zero, List.drop_succ_cons, List.drop_zero]
      refine wst_load_set rfl _ rfl _ rfl _ hb1 ?_
      repeat still_step
      refine wpStill_nil ?_
      have hb1d := hb1.drew
      have hb2d := hb2.drew
      have hBd := hB.drew
      go_wp2_with (first | (go_at_call 46; refine (with_nat _ _ hu _).mono ?_; rintro e w' ⟨rfl, hB1⟩; have hb11 := blk_then hb1d hB1; have hb21 := blk_then hb2d hB1; have hB2 := below_then hBd hB1) | (refine wl_store_set rfl _ _ rfl _ _ rfl rfl _ hb11 ?_; intro w2 hb4 hg4))
      go_roundw
      case rel =>
        refine ⟨k + 1, by omega, by go_num, ?_, hb21.grown hg4 (by simp), below_grown hB2 hg4 hs2⟩
        rw [take_snoc' l k hlt', ofB_snoc]
        exact hb4
      case measure => simp [intOf]; omega
    · have hkk : l.take k = l := List.take_of_length_le (by have := Hn.out; omega)
      rw [hkk] at hb1
      clear hkk
      go_wp2_with (first | (refine wl_load_set rfl _ rfl _ rfl _ hb1 ?_) | (refine wl_store_set rfl _ _ rfl _ _ rfl rfl _ hb2 ?_; intro w1 hb4 hg4))
      exact ret_set rfl rfl hb4 rfl ⟨rfl, below_grown hB hg4 (Nat.le_refl _)⟩

set_option maxHeartbeats 400000 in
theorem rspan_any (f t : Int) (w : World) :
    Calls Try.prog 41 #[.int .i64 f, .int .i64 t] w fun e w' => e = .returned (.agg (setC (setTo (inB f t) 256))) ∧ Below w.heap.size w w' := by
  have hs2 : w.heap.size ≤ w.heap.size + 1 := by omega
  go_enter Try.func41, Try.ntmps41
  go_wp2
  go_loopw [6] (fun i wr => ∃ k : Nat, k ≤ 256 ∧ i = .int .i64 k ∧ Blk wr (w.heap.size + 1) 31 (setC (setTo (inB f t) k)) ∧ Blk wr w.heap.size 31 (setC 0) ∧ Below w.heap.size w wr) (fun i _ => 256 - (intOf i).toNat)
  case atStart =>
    refine ⟨0, by omega, rfl, ?_, ?_, ?_⟩
    · rw [show setTo (inB f t) 0 = 0 from rfl]
      exact Blk.new' _ _ _ (World.size_alloc _ _).symm
    · exact (Blk.new _ _ _).alloc _
    · exact below_alloc (below_alloc (Below.refl _ _) _) _
  case round =>
    obtain ⟨k, hk, rfl, hb1, hb2, hB⟩ := hrel
    by_cases hlt : k < 256
    · have hltI : (k : Int) < 256 := by omega
      by_cases h1 : f ≤ k
      · by_cases h2 : (k : Int) ≤ t
        · go_wp2_with (first | (refine wl_load_set rfl _ rfl _ rfl _ (by assumption) ?_) | (go_at_call 46; refine (with_nat _ _ hlt _).mono ?_; rintro e w' ⟨rfl, hB1⟩; have hb11 := blk_then hb1 hB1; have hb21 := blk_then hb2 hB1; have hB2 := below_then hB hB1) | (refine wl_store_set rfl _ _ rfl _ _ rfl rfl _ hb11 ?_; intro w2 hb4 hg4))
          go_roundw
          case rel => exact ⟨k + 1, by omega, by go_num, by rw [setTo_succ_pos (inB_pos h1 h2)]; exact hb4, hb21.grown hg4 (by simp), below_grown hB2 hg4 hs2⟩
          case measure => simp [intOf]; omega
        · have h2' : t < k := by omega
          go_wp2
          go_roundw
          case rel => exact ⟨k + 1, by omega, by go_num, by rw [setTo_succ_neg (inB_neg (by omega))]; exact hb1, hb2, hB⟩
          case measure => simp [intOf]; omega
      · have h1' : (k : Int) < f := by omega
        go_wp2
        go_roundw
        case rel => exact ⟨k + 1, by omega, by go_num, by rw [setTo_succ_neg (inB_neg (by omega))]; exact hb1, hb2, hB⟩
        case measure => simp [intOf]; omega
    · obtain rfl : k = 256 := by omega
      go_wp2_with (first | (refine wl_load_set rfl _ rfl _ rfl _ hb1 ?_) | (refine wl_store_set rfl _ _ rfl _ _ rfl rfl _ hb2 ?_; intro w1 hb4 hg4))
      exact ret_set rfl rfl hb4 rfl ⟨rfl, below_grown hB hg4 (Nat.le_refl _)⟩

set_option maxHeartbeats 400000 in
theorem rmeet_any (x y : BSet) (w : World) :
    Calls Try.prog 35 #[.agg (setC x), .agg (setC y)] w fun e w' => e = .returned (.agg (setC (x &&& y))) ∧ Below w.heap.size w w' := by
  have hs2 : w.heap.size ≤ w.heap.size + 1 + 1 + 1 := by omega
  have hs3 : w.heap.size ≤ w.heap.size + 1 + 1 := by omega
  go_enter Try.func35, Try.ntmps35
  go_wp2
  go_loopw [6] (fun i wr => ∃ k : Nat, k ≤ 256 ∧ i = .int .i64 k ∧ Blk wr w.heap.size 31 (setC x) ∧ Blk wr (w.heap.size + 1) 31 (setC y) ∧ Blk wr (w.heap.size + 1 + 1) 31 (setC 0) ∧ Blk wr (w.heap.size + 1 + 1 + 1) 31 (setC (setTo (bothB x y) k)) ∧ Below w.heap.size w wr) (fun i _ => 256 - (intOf i).toNat)
  case atStart =>
    refine ⟨0, by omega, rfl, ?_, ?_, ?_, ?_, ?_⟩
    · exact (((Blk.new _ _ _).alloc _).alloc _).alloc _
    · exact ((Blk.new' _ _ _ (by simp)).alloc _).alloc _
    · exact (Blk.new' _ _ (setC 0) (by simp)).alloc _
    · rw [show setTo (bothB x y) 0 = 0 from rfl]
      exact Blk.new' _ _ (setC 0) (by simp)
    · exact below_alloc (below_alloc (below_alloc (below_alloc (Below.refl _ _) _) _) _) _
  case round =>
    obtain ⟨k, hk, rfl, hb1, hb2, hb3, hb4, hB⟩ := hrel
    by_cases hlt : k < 256
    · have hltI : (k : Int) < 256 := by omega
      have hC := Below.refl wr.heap.size wr
      cases hv1 : x.getLsbD k <;> cases hv2 : y.getLsbD k
      all_goals
        have Hv1 := Lib.hid hv1
        have Hv2 := Lib.hid hv2
        clear hv1 hv2
        go_wp2_with (first | (refine wl_load_set rfl _ rfl _ rfl _ (blk_then hb1 hC) ?_) | (refine wl_load_set rfl _ rfl _ rfl _ (blk_then hb2 hC) ?_) | (refine wl_load_set rfl _ rfl _ rfl _ (blk_then hb4 hC) ?_) | (go_at_call 28; refine (rhas_nat _ _ hlt _).mono ?_; (first | rw [Hv1.out] | rw [Hv2.out]); rintro e w1 ⟨rfl, hB1⟩; replace hC := below_then hC hB1) | (go_at_call 46; refine (with_nat _ _ hlt _).mono ?_; rintro e w1 ⟨rfl, hB1⟩; replace hC := below_then hC hB1) | (refine wl_store_set rfl _ _ rfl _ _ rfl rfl _ (blk_then hb4 hC) ?_; intro w2 hb5 hg5))
        go_roundw
        case measure => simp [intOf]; omega
      all_goals first
        | exact ⟨k + 1, by omega, by go_num, blk_grown (blk_then hb1 hC) hg5 (by omega), blk_grown (blk_then hb2 hC) hg5 (by omega), blk_grown (blk_then hb3 hC) hg5 (by omega), by rw [setTo_succ_pos (by rw [bothB, Hv1.out, Hv2.out]; rfl)]; exact hb5, below_grown (below_then hB hC) hg5 hs2⟩
        | exact ⟨k + 1, by omega, by go_num, blk_then hb1 hC, blk_then hb2 hC, blk_then hb3 hC, by rw [setTo_succ_neg (by rw [bothB, Hv1.out, Hv2.out]; rfl)]; exact blk_then hb4 hC, below_then hB hC⟩
    · obtain rfl : k = 256 := by omega
      rw [setTo_bothB] at hb4
      go_wp2_with (first | (refine wl_load_set rfl _ rfl _ rfl _ hb4 ?_) | (refine wl_store_set rfl _ _ rfl _ _ rfl rfl _ hb3 ?_; intro w1 hb5 hg5))
      exact ret_set rfl rfl hb5 rfl ⟨rfl, below_grown hB hg5 hs3⟩

set_option maxHeartbeats 400000 in
theorem rnot_any (x : BSet) (w : World) :
    Calls Try.prog 37 #[.agg (setC x)] w fun e w' => e = .returned (.agg (setC (notB x))) ∧ Below w.heap.size w w' := by
  have hs2 : w.heap.size ≤ w.heap.size + 1 + 1 := by omega
  have hs3 : w.heap.size ≤ w.heap.size + 1 := by omega
  go_enter Try.func37, Try.ntmps37
  go_wp2
  go_loopw [4] (fun i wr => ∃ k : Nat, k ≤ 256 ∧ i = .int .i64 k ∧ Blk wr w.heap.size 31 (setC x) ∧ Blk wr (w.heap.size + 1) 31 (setC 0) ∧ Blk wr (w.heap.size + 1 + 1) 31 (setC (setTo (hasnt x) k)) ∧ Below w.heap.size w wr) (fun i _ => 256 - (intOf i).toNat)
  case atStart =>
    refine ⟨0, by omega, rfl, ?_, ?_, ?_, ?_⟩
    · exact ((Blk.new _ _ _).alloc _).alloc _
    · exact (Blk.new' _ _ (setC 0) (by simp)).alloc _
    · rw [show setTo (hasnt x) 0 = 0 from rfl]
      exact Blk.new' _ _ (setC 0) (by simp)
    · exact below_alloc (below_alloc (below_alloc (Below.refl _ _) _) _) _
  case round =>
    obtain ⟨k, hk, rfl, hb1, hb3, hb4, hB⟩ := hrel
    by_cases hlt : k < 256
    · have hltI : (k : Int) < 256 := by omega
      have hC := Below.refl wr.heap.size wr
      cases hv1 : x.getLsbD k <;> by_cases h10 : k = 10
      all_goals
        have Hv1 := Lib.hid hv1
        have H10 := Lib.hid h10
        first
          | (have h10b : ((k : Int) != 10) = true := by simp; omega
             clear hv1 h10)
          | (have h10b : ((k : Int) != 10) = false := by simp; omega
             clear hv1 h10)
        go_wp2_with (first | (refine wl_load_set rfl _ rfl _ rfl _ (blk_then hb1 hC) ?_) | (refine wl_load_set rfl _ rfl _ rfl _ (blk_then hb4 hC) ?_) | (go_at_call 28; refine (rhas_nat _ _ hlt _).mono ?_; rw [Hv1.out]; rintro e w1 ⟨rfl, hB1⟩; replace hC := below_then hC hB1) | (go_at_call 46; refine (with_nat _ _ hlt _).mono ?_; rintro e w1 ⟨rfl, hB1⟩; replace hC := below_then hC hB1) | (refine wl_store_set rfl _ _ rfl _ _ rfl rfl _ (blk_then hb4 hC) ?_; intro w2 hb5 hg5))
        go_roundw
        case measure => simp [intOf]; omega
      all_goals first
        | exact ⟨k + 1, by omega, by go_num, blk_grown (blk_then hb1 hC) hg5 (by omega), blk_grown (blk_then hb3 hC) hg5 (by omega), by rw [setTo_succ_pos (by have := H10.out; rw [hasnt, Hv1.out]; simp; omega)]; exact hb5, below_grown (below_then hB hC) hg5 hs2⟩
        | exact ⟨k + 1, by omega, by go_num, blk_then hb1 hC, blk_then hb3 hC, by rw [setTo_succ_neg (by have := H10.out; rw [hasnt, Hv1.out]; simp; try omega)]; exact blk_then hb4 hC, below_then hB hC⟩
    · obtain rfl : k = 256 := by omega
      rw [setTo_hasnt] at hb4
      go_wp2_with (first | (refine wl_load_set rfl _ rfl _ rfl _ hb4 ?_) | (refine wl_store_set rfl _ _ rfl _ _ rfl rfl _ hb3 ?_; intro w1 hb5 hg5))
      exact ret_set rfl rfl hb5 rfl ⟨rfl, below_grown hB hg5 hs3⟩

set_option maxHeartbeats 400000 in
theorem rcount_any (x : BSet) (w : World) :
    Calls Try.prog 27 #[.agg (setC x)] w fun e w' => e = .returned (.int .i64 (cnt x)) ∧ Below w.heap.size w w' := by
  go_enter Try.func27, Try.ntmps27
  go_wp2
  go_loopw [3, 4] (fun n i wr => ∃ k m : Nat, k ≤ 256 ∧ i = .int .i64 k ∧ n = .int .i64 m ∧ m ≤ k ∧ Hid (m = cntTo x k) ∧ Blk wr w.heap.size 31 (setC x) ∧ Below w.heap.size w wr) (fun _ i _ => 256 - (intOf i).toNat)
  case atStart => exact ⟨0, 0, by omega, rfl, rfl, by omega, rfl, Blk.new _ _ _, below_alloc (Below.refl _ _) _⟩
  case round =>
    obtain ⟨k, m, hk, rfl, rfl, hmk, Hm, hb1, hB⟩ := hrel
    by_cases hlt : k < 256
    · have hltI : (k : Int) < 256 := by omega
      have hC := Below.refl wr.heap.size wr
      cases hv1 : x.getLsbD k
      all_goals
        have Hv1 := Lib.hid hv1
        clear hv1
        go_wp2_with (first | (refine wl_load_set rfl _ rfl _ rfl _ (blk_then hb1 hC) ?_) | (go_at_call 28; refine (rhas_nat _ _ hlt _).mono ?_; rw [Hv1.out]; rintro e w1 ⟨rfl, hB1⟩; replace hC := below_then hC hB1))
        go_roundw
        case measure => simp [intOf]; omega
      · exact ⟨k + 1, m, by omega, by go_num, rfl, by omega, by rw [cntTo_succ, Hv1.out]; exact Hm.out, blk_then hb1 hC, below_then hB hC⟩
      · exact ⟨k + 1, m + 1, by omega, by go_num, by go_num, by omega, by rw [cntTo_succ, Hv1.out]; have := Hm.out; simp; omega, blk_then hb1 hC, below_then hB hC⟩
    · obtain rfl : k = 256 := by omega
      have E : Hid (m = cnt x) := Hm
      clear Hm
      go_wp2
      go_ret
      exact ⟨congrArg (fun n : Nat => Ending.returned (.int .i64 n)) E.out, hB⟩

end Go.Proofs.Ytjpiebapemalfaa
