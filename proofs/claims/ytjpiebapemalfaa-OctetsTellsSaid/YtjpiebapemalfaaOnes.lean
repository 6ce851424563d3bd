/- OnesCount64. -/
import Derived.Test.YtjpiebapemalfaaOctC
import Derived.Test.YtjpiebapemalfaaPop
namespace Go.Proofs.Ytjpiebapemalfaa
open Go.RowKit
set_option linter.unusedVariables false
set_option linter.unusedSimpArgs false

set_option maxHeartbeats 400000 in
theorem ones_any (x : Nat) (hx : x < 18446744073709551616) (w : World) :
    Calls Try.prog 43 #[.int .u64 x] w fun e w' => e = .returned (.int .i64 (pc 64 x)) ∧ w = w' := by
  have hx' : (x : Int) ≤ 18446744073709551615 := by omega
  have HC := Lib.hid (fun Y1 Y2 A Y3 Y4 Y5 Y6 => ones_calc x hx Y1 Y2 A Y3 Y4 Y5 Y6)
  clear hx
  go_enter Try.func43, Try.ntmps43
  go_wp2
  go_ret
  exact ⟨congrArg (fun v => Ending.returned (Value.int .i64 v)) (HC.out _ _ _ _ _ _ _ rfl rfl rfl rfl rfl rfl rfl), rfl⟩

theorem run_index_set (w : World) (x : BSet) (k : Nat) (hk : k < 4) : (Instr.index 31 (.agg (setC x)) (.int .i64 (k : Int))).run Try.prog w = .ok (.int .u64 (word x k)) w := by
  have h : ∀ w, (Instr.index 31 (.agg (setC x)) (.int .i64 0)).run Try.prog w = .ok (.int .u64 (word x 0)) w := fun _ => by kernel_rfl
  have h1 : ∀ w, (Instr.index 31 (.agg (setC x)) (.int .i64 1)).run Try.prog w = .ok (.int .u64 (word x 1)) w := fun _ => by kernel_rfl
  have h2 : ∀ w, (Instr.index 31 (.agg (setC x)) (.int .i64 2)).run Try.prog w = .ok (.int .u64 (word x 2)) w := fun _ => by kernel_rfl
  have h3 : ∀ w, (Instr.index 31 (.agg (setC x)) (.int .i64 3)).run Try.prog w = .ok (.int .u64 (word x 3)) w := fun _ => by kernel_rfl
  match k, hk with
  | 0, _ => exact h w
  | 1, _ => exact h1 w
  | 2, _ => exact h2 w
  | 3, _ => exact h3 w

set_option maxHeartbeats 400000 in
theorem count_any (x : BSet) (w : World) :
    Calls Try.prog 26 #[.agg (setC x)] w fun e w' => e = .returned (.int .i64 (cnt x)) ∧ Below w.heap.size w w' := by
  have hb0 := Blk.new w 31 (setC x)
  have hB0 := below_alloc (Below.refl w.heap.size w) (.cells (setC x) 31)
  go_enter Try.func26, Try.ntmps26
  go_wp2_with (refine wl_load_set rfl _ rfl _ rfl _ hb0 ?_)
  go_loop [3, 7] (fun n i => ∃ k m : Nat, k ≤ 4 ∧ i = .int .i64 k ∧ n = .int .i64 m ∧ m ≤ 64 * k ∧ Hid (m = cntTo x (64 * k))) (fun _ i => 4 - (intOf i).toNat)
  case atStart => exact ⟨0, 0, by omega, rfl, rfl, by omega, rfl⟩
  case round =>
    obtain ⟨k, m, hk, rfl, rfl, hmk, Hm⟩ := hrel
    by_cases hlt : k < 4
    · have hltI : (k : Int) < 4 := by omega
      have hix := fun w => run_index_set w x k hlt
      have hpl := pc_le 64 (word x k)
      go_wp2_with (go_at_call 43; refine (ones_any _ (word_lt' _ _) _).mono ?_; rintro e w' ⟨rfl, rfl⟩)
      go_round
      case rel => exact ⟨k + 1, m + pc 64 (word x k), by omega, by go_num, by go_num, by omega, by have := Hm.out; have := cntTo_word x k; show m + pc 64 (word x k) = cntTo x (64 * (k + 1)); rw [show 64 * (k + 1) = 64 * k + 64 by omega]; omega⟩
      case measure => simp [intOf]; omega
    · obtain rfl : k = 4 := by omega
      have E : Hid (m = cnt x) := Hm
      clear Hm
      go_wp2
      go_ret
      exact ⟨congrArg (fun n : Nat => Ending.returned (.int .i64 n)) E.out, hB0⟩

end Go.Proofs.Ytjpiebapemalfaa
