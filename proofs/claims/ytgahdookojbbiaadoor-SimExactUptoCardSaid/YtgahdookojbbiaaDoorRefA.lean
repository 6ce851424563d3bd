/- The walks of the document's answer for sets (heronref03): Has, with, Of, Span, Join, Meet, Not, Count. -/
import Derived.Test.YtgahdookojbbiaaDoorOctA
namespace Go.Proofs.YtgahdookojbbiaaDoor
open Go.RowKit
set_option linter.unusedVariables false
set_option linter.unusedSimpArgs false

theorem rhas_end {x : BSet} {b m : Nat} (hb : b < 256) (hm : m = word x (b / 64) / 2 ^ (b % 64)) : ((m : Int) % 2 == 1) = x.getLsbD b := by
  subst hm
  rw [word_bit hb, Nat.testBit_eq_decide_div_mod_eq, Bool.eq_iff_iff]
  simp only [beq_iff_eq, decide_eq_true_eq]
  omega
theorem rhas_step {n m k : Nat} (h : m = n / 2 ^ k) : m / 2 = n / 2 ^ (k + 1) := by
  rw [h, Nat.div_div_eq_div_mul, Nat.pow_succ]
theorem le_div_pow {n m k : Nat} (h : m = n / 2 ^ k) (hn : n < 18446744073709551616) : (m : Int) ≤ 18446744073709551615 := by
  have := Nat.div_le_self n (2 ^ k)
  omega

set_option maxHeartbeats 400000 in
theorem rhas_nat (x : BSet) (b : Nat) (h0 : b < 256) (w : World) :
    Calls Tryd.prog 34 #[.agg (setC x), .int .i64 b] w fun e w' => e = .returned (.bool (x.getLsbD b)) ∧ Below w.heap.size w w' := by
  have hc := (Blk.new w 51 (setC x)).cellv (setC_at x (b / 64) (by omega))
  go_enter Tryd.func34, Tryd.ntmps34
  go_wp2
  go_loop [5, 6] (fun v i => ∃ k m : Nat, k ≤ b % 64 ∧ i = .int .i64 k ∧ v = .int .u64 m ∧ Hid (m = word x (b / 64) / 2 ^ k)) (fun _ i => b % 64 - (intOf i).toNat)
  case atStart => exact ⟨0, _, by omega, rfl, rfl, (Nat.div_one _).symm⟩
  case round =>
    obtain ⟨k, m, hk, rfl, rfl, Hm⟩ := hrel
    have hm1 := le_div_pow Hm.out (word_lt' _ _)
    by_cases hlt : k < b % 64
    · have hlt2 : (k : Int) < (b : Int) % 64 := by omega
      go_wp2
      go_round
      case rel => exact ⟨k + 1, m / 2, by omega, by go_num, by go_num, rhas_step Hm.out⟩
      case measure => simp [intOf]; omega
    · have hlt2 : ¬ (k : Int) < (b : Int) % 64 := by omega
      have e := Lib.hid (show k = b % 64 by omega)
      go_wp2
      go_ret
      refine ⟨?_, (Below.refl _ _).alloc (Nat.le_refl _) _⟩
      exact congrArg (fun v => Ending.returned (.bool v)) (rhas_end h0 (by rw [← e.out]; exact Hm.out))
end Go.Proofs.YtgahdookojbbiaaDoor
