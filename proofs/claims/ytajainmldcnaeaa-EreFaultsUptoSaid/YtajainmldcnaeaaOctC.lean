/- The walks of package octets' functions on sets, third part: Join, OnesCount64, Count. -/
import Derived.Test.YtajainmldcnaeaaOctB
namespace Go.Proofs.Ytajainmldcnaeaa
open Go.RowKit
set_option linter.unusedVariables false
set_option linter.unusedSimpArgs false

set_option maxHeartbeats 400000 in
theorem join_any (A : Option Addr) (n c : Nat) (l : List BSet) (w : World) (hn : n = l.length) (hm : n ≤ maxLen) (hs : SliceOf w w.heap.size 4 setC A l) :
    Calls Try.prog 89 #[.slice A n c] w fun e w' => e = .returned (.agg (setC (joinL l))) ∧ Below w.heap.size w w' := by
  have Hn := Lib.hid hn
  clear hn
  unfold maxLen at hm
  have hs2 : w.heap.size ≤ w.heap.size + 1 := by omega
  go_enter Try.func89, Try.ntmps89
  go_wp2
  go_loopw [9] (fun i wr => ∃ k : Nat, k ≤ n ∧ i = .int .i64 k ∧ Blk wr (w.heap.size + 1) 24 (setC (joinL (l.take k))) ∧ Blk wr w.heap.size 24 (setC 0) ∧ Below w.heap.size w wr) (fun i _ => n - (intOf i).toNat)
  case atStart =>
    refine ⟨0, by omega, rfl, ?_, ?_, ?_⟩
    · rw [show joinL (l.take 0) = 0 from rfl]
      exact Blk.new' _ _ _ (World.size_alloc _ _).symm
    · exact (Blk.new _ _ _).alloc _
    · exact ((Below.refl _ _).alloc (Nat.le_refl _) _).alloc (by simp) _
  case round =>
    obtain ⟨k, hk, rfl, hb1, hb2, hB⟩ := hrel
    by_cases hlt : k < n
    · have hlt' : k < l.length := by have := Hn.out; omega
      obtain ⟨b, off, rfl, hbl, hrow⟩ := (hs.below hB).at_ (by omega)
      have hr := hrow k hlt'
      clear hrow
      have hlt5 : w.heap.size + 1 < wr.heap.size := hb1.lt
      go_wp2_with (first | (refine wl_load_set_at rfl _ rfl _ _ rfl _ hr ?_) | (refine wl_store_set rfl _ _ rfl _ _ rfl rfl 0 (Blk.new _ _ _) ?_; intro w1 hb5 hg5))
      have hb1' := (hb1.alloc (.cells (setC 0) 24)).grown hg5 (by simp; omega)
      have hb2' := (hb2.alloc (.cells (setC 0) 24)).grown hg5 (by simp; omega)
      have hB' := (hB.alloc hB.size (.cells (setC 0) 24)).grown hg5 (by simp; omega) (by rintro k ⟨⟩; omega)
      obtain ⟨g, hg⟩ : ∃ g, g = wr.heap.size := ⟨_, rfl⟩
      rw [← hg] at hb5 ⊢
      have hgw : w.heap.size + 1 < g := by omega
      clear hg hg5 hb1 hb2 hB hr hlt5
      obtain ⟨wo, rfl⟩ : ∃ wo : World, wo = wr := ⟨_, rfl⟩
      go_loopw [13] (fun i wr => ∃ j : Nat, j ≤ 4 ∧ i = .int .i64 j ∧ Blk wr (w.heap.size + 1) 24 (setC (mix j (joinL (l.take k) ||| l[k]) (joinL (l.take k)))) ∧ Blk wr g 24 (setC l[k]) ∧ Blk wr w.heap.size 24 (setC 0) ∧ Below w.heap.size w wr) (fun i _ => 4 - (intOf i).toNat)
      case atStart => exact ⟨0, by omega, rfl, by rw [mix_zero]; exact hb1', hb5, hb2', hB'⟩
      case round =>
        obtain ⟨j, hj, rfl, hb1, hb5, hb2, hB⟩ := hrel
        by_cases hjt : j < 4
        · have c1 := hb1.cellv (setC_at _ j hjt)
          have c2 := hb5.cellv (setC_at _ j hjt)
          have f1 := hb1.frozen j
          go_wp2
          go_region
          go_wp2
          go_roundw
          case rel =>
            refine ⟨j + 1, by omega, by go_num, ?_, (hb5.far (by simp; omega) _).drew, (hb2.far (by simp) _).drew, (hB.setCell hs2 _).drew⟩
            rw [word_mix_ge _ _ (Nat.le_refl _) hjt, u64_or_nat _ _ (word_lt' _ _) (word_lt' _ _)]
            exact (hb1.set_eq (mix_set hjt (word_or _ _ _))).drew
          case measure => simp [intOf]; omega
        · obtain rfl : j = 4 := by omega
          rw [mix_four] at hb1
          go_wp2
          go_roundw
          case rel => exact ⟨k + 1, by omega, by go_num, by rw [take_snoc' l k hlt', joinL_snoc]; exact hb1, hb2, hB⟩
          case measure => simp [intOf]; omega
    · have hkk : l.take k = l := List.take_of_length_le (by have := Hn.out; omega)
      rw [hkk] at hb1
      clear hkk
      go_wp2_with (first | (refine wl_load_set rfl _ rfl _ rfl _ hb1 ?_) | (refine wl_store_set rfl _ _ rfl _ _ rfl rfl _ hb2 ?_; intro w1 hb4 hg4))
      exact ret_set rfl rfl hb4 rfl ⟨rfl, hB.grown hg4 hB.size (by rintro k ⟨⟩; exact Nat.le_refl _)⟩

end Go.Proofs.Ytajainmldcnaeaa
