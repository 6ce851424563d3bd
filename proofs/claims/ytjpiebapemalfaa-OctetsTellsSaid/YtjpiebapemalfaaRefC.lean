/- The walk of heronref03.Join: the joined sets. -/
import Derived.Test.YtjpiebapemalfaaRefB
namespace Go.Proofs.Ytjpiebapemalfaa
open Go.RowKit
set_option linter.unusedVariables false
set_option linter.unusedSimpArgs false

set_option maxHeartbeats 400000 in
theorem rjoin_any (A : Option Addr) (n c : Nat) (l : List BSet) (w : World) (hn : n = l.length) (hm : n ≤ maxLen) (hs : SliceOf w w.heap.size 4 setC A l) :
    Calls Try.prog 34 #[.slice A n c] w fun e w' => e = .returned (.agg (setC (joinL l))) ∧ Below w.heap.size w w' := by
  have Hn := Lib.hid hn
  clear hn
  unfold maxLen at hm
  have hs2 : w.heap.size ≤ w.heap.size + 1 := by omega
  go_enter Try.func34, Try.ntmps34
  go_wp2
  go_loopw [4] (fun i wr => ∃ k : Nat, k ≤ 256 ∧ i = .int .i64 k ∧ Blk wr (w.heap.size + 1) 31 (setC (setTo (anyB l) k)) ∧ Blk wr w.heap.size 31 (setC 0) ∧ Below w.heap.size w wr) (fun i _ => 256 - (intOf i).toNat)
  case atStart =>
    refine ⟨0, by omega, rfl, ?_, ?_, ?_⟩
    · rw [show setTo (anyB l) 0 = 0 from rfl]
      exact Blk.new' _ _ _ (World.size_alloc _ _).symm
    · exact (Blk.new _ _ _).alloc _
    · exact below_alloc (below_alloc (Below.refl _ _) _) _
  case round =>
    obtain ⟨k, hk, rfl, hb1, hb2, hB⟩ := hrel
    by_cases hlt : k < 256
    · have hltI : (k : Int) < 256 := by omega
      go_wp2
      obtain ⟨wo, rfl⟩ : ∃ wo : World, wo = wr := ⟨_, rfl⟩
      go_loopw [5, 6] (fun v i wr => ∃ j : Nat, j ≤ n ∧ i = .int .i64 j ∧ v = .bool (anyB (l.take j) k) ∧ Below wo.heap.size wo wr) (fun _ i _ => n - (intOf i).toNat)
      case atStart => exact ⟨0, by omega, rfl, rfl, Below.refl _ _⟩
      case round =>
        obtain ⟨j, hj, rfl, rfl, hC⟩ := hrel
        by_cases hjt : j < n
        · have hjl : j < l.length := by have := Hn.out; omega
          obtain ⟨b, off, rfl, hbl, hrow⟩ := (hs.below (hB.trans (hC.mono hB.size))).at_ (by omega)
          have hr := hrow j hjl
          clear hrow
          have hsn := anyB_snoc (l.take j) l[j] k
          rw [← take_snoc' l j hjl] at hsn
          have Hsn := Lib.hid hsn
          clear hsn
          cases hv1 : l[j].getLsbD k <;> cases hv2 : anyB (l.take j) k
          all_goals
            have Hv1 := Lib.hid hv1
            have Hv2 := Lib.hid hv2
            clear hv1 hv2
            go_wp2_with (first | (refine wl_load_set_at rfl _ rfl _ _ rfl _ hr ?_) | (go_at_call 28; refine (rhas_nat _ _ hlt _).mono ?_; rw [Hv1.out]; rintro e w1 ⟨rfl, hB1⟩; replace hC := below_then hC hB1))
            go_roundw
            case rel => exact ⟨j + 1, by omega, by go_num, by rw [Hsn.out, Hv1.out, Hv2.out]; rfl, hC⟩
            case measure => simp [intOf]; omega
        · have e : l.take j = l := List.take_of_length_le (by have := Hn.out; omega)
          rw [e]
          clear e
          have hb1' := blk_then hb1 hC
          have hb2' := blk_then hb2 hC
          have hB' := below_then hB hC
          cases hv1 : anyB l k
          all_goals
            have Hv1 := Lib.hid hv1
            clear hv1
            go_wp2_with (first | (refine wl_load_set rfl _ rfl _ rfl _ hb1' ?_) | (go_at_call 46; refine (with_nat _ _ hlt _).mono ?_; rintro e w1 ⟨rfl, hB1⟩; have hb11 := blk_then hb1' hB1; have hb21 := blk_then hb2' hB1; have hB2 := below_then hB' hB1) | (refine wl_store_set rfl _ _ rfl _ _ rfl rfl _ hb11 ?_; intro w2 hb4 hg4))
            go_roundw
            case measure => simp [intOf]; omega
          all_goals first
            | exact ⟨k + 1, by omega, by go_num, by rw [setTo_succ_pos Hv1.out]; exact hb4, blk_grown hb21 hg4 (by omega), below_grown hB2 hg4 hs2⟩
            | exact ⟨k + 1, by omega, by go_num, by rw [setTo_succ_neg Hv1.out]; exact hb1', hb2', hB'⟩
    · obtain rfl : k = 256 := by omega
      rw [setTo_anyB] at hb1
      go_wp2_with (first | (refine wl_load_set rfl _ rfl _ rfl _ hb1 ?_) | (refine wl_store_set rfl _ _ rfl _ _ rfl rfl _ hb2 ?_; intro w1 hb4 hg4))
      exact ret_set rfl rfl hb4 rfl ⟨rfl, below_grown hB hg4 (Nat.le_refl _)⟩

end Go.Proofs.Ytjpiebapemalfaa
