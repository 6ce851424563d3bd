/- The walks of the document's answer for sets (heronref03): Has, with, Of, Span, Join, Meet, Not, Count. -/
import Derived.Test.YtjpiebapemalfaaOctA
namespace Go.Proofs.Ytjpiebapemalfaa
open Go.RowKit
set_option linter.unusedVariables false
set_option linter.unusedSimpArgs false

theorem rhas_end {x : BSet} {b m : Nat} (hb : b < 256) (hm : m = word x (b / 64) / 2 ^ (b % 64)) : ((m : Int) % 2 == 1) = x.getLsbD b := by
  subst hm
  rw [word_bit hb, Nat.testBit_eq_decide_div_mod_eq, Bool.eq_iff_iff]
  simp only [beq_iff_eq, decide_eq_true_eq]
  omega
theorem rhas_step {n m k : Nat} (h : m = n / 2 ^ k) : m / 2 = n / 2 ^ (k + 1) := by
  rw [h, Nat.div_div_eq_div_mul, Nat.pow_succ]
theorem le_div_pow {n m k : Nat} (h : m = n / 2 ^ k) (hn : n < 18446744073709551616) : (m : Int) ≤ 18446744073709551615 := by
  have := Nat.div_le_self n (2 ^ k)
  omega

set_option maxHeartbeats 400000 in
theorem rhas_nat (x : BSet) (b : Nat) (h0 : b < 256) (w : World) :
    Calls Try.prog 28 #[.agg (setC x), .int .i64 b] w fun e w' => e = .returned (.bool (x.getLsbD b)) ∧ Below w.heap.size w w' := by
  have hc := (Blk.new w 31 (setC x)).cellv (setC_at x (b / 64) (by omega))
  go_enter Try.func28, Try.ntmps28
  go_wp2
  go_loop [5, 6] (fun v i => ∃ k m : Nat, k ≤ b % 64 ∧ i = .int .i64 k ∧ v = .int .u64 m ∧ Hid (m = word x (b / 64) / 2 ^ k)) (fun _ i => b % 64 - (intOf i).toNat)
  case atStart => exact ⟨0, _, by omega, rfl, rfl, (Nat.div_one _).symm⟩
  case round =>
    obtain ⟨k, m, hk, rfl, rfl, Hm⟩ := hrel
    have hm1 := le_div_pow Hm.out (word_lt' _ _)
    by_cases hlt : k < b % 64
    · have hlt2 : (k : Int) < (b : Int) % 64 := by omega
      go_wp2
      go_round
      case rel => exact ⟨k + 1, m / 2, by omega, by go_num, by go_num, rhas_step Hm.out⟩
      case measure => simp [intOf]; omega
    · have hlt2 : ¬ (k : Int) < (b : Int) % 64 := by omega
      have e := Lib.hid (show k = b % 64 by omega)
      go_wp2
      go_ret
      refine ⟨?_, (Below.refl _ _).alloc (Nat.le_refl _) _⟩
      exact congrArg (fun v => Ending.returned (.bool v)) (rhas_end h0 (by rw [← e.out]; exact Hm.out))
theorem rhas_any (x : BSet) (b : Int) (h0 : 0 ≤ b) (h1 : b < 256) (w : World) :
    Calls Try.prog 28 #[.agg (setC x), .int .i64 b] w fun e w' => e = .returned (.bool (x.getLsbD b.toNat)) ∧ Below w.heap.size w w' := by
  obtain ⟨n, rfl⟩ := Int.eq_ofNat_of_zero_le h0
  exact rhas_nat x n (by omega) w

theorem or_pow {n k : Nat} (h : n.testBit k = false) : n ||| 2 ^ k = n + 2 ^ k := by
  have hq : n = 2 ^ (k + 1) * (n / 2 ^ (k + 1)) + n % 2 ^ (k + 1) := (Nat.div_add_mod _ _).symm
  have hpos : 0 < 2 ^ k := Nat.two_pow_pos k
  have e2 : 2 ^ (k + 1) = 2 ^ k * 2 := Nat.pow_succ ..
  have hr : n % 2 ^ (k + 1) < 2 ^ k := by
    have h1 : (n % 2 ^ (k + 1)).testBit k = false := by rw [Nat.testBit_mod_two_pow]; simp [h]
    have h2 : n % 2 ^ (k + 1) < 2 ^ (k + 1) := Nat.mod_lt _ (Nat.two_pow_pos _)
    rcases Nat.lt_or_ge (n % 2 ^ (k + 1)) (2 ^ k) with h3 | h3
    · exact h3
    · rw [Nat.testBit_eq_decide_div_mod_eq] at h1
      have h4 : n % 2 ^ (k + 1) / 2 ^ k = 1 := by
        apply Nat.div_eq_of_lt_le <;> omega
      rw [h4] at h1
      simp at h1
  have a1 := Nat.two_pow_add_eq_or_of_lt hr 1
  have a2 := Nat.two_pow_add_eq_or_of_lt (i := k + 1) (b := n % 2 ^ (k + 1)) (by omega) (n / 2 ^ (k + 1))
  have a3 := Nat.two_pow_add_eq_or_of_lt (i := k + 1) (b := 2 ^ k * 1 + n % 2 ^ (k + 1)) (by omega) (n / 2 ^ (k + 1))
  rw [a1] at a3
  rw [← hq] at a2
  have e3 : n ||| 2 ^ k = 2 ^ (k + 1) * (n / 2 ^ (k + 1)) ||| (2 ^ k * 1 ||| n % 2 ^ (k + 1)) := by
    conv => lhs; rw [a2]
    rw [Nat.mul_one, Nat.or_assoc, Nat.or_comm (n % 2 ^ (k + 1)) (2 ^ k)]
  rw [e3, ← a3]
  omega
theorem with_sum {x : BSet} {b m : Nat} (hb : b < 256) (hn : x.getLsbD b = false) (hm : m = 2 ^ (b % 64)) : word x (b / 64) + m = word (x ||| bit b) (b / 64) := by
  subst hm
  rw [word_or, word_bit_same hb, or_pow]
  rw [← word_bit hb]; exact hn
theorem with_same {x : BSet} {b : Nat} (hn : x.getLsbD b = true) : x ||| bit b = x := by
  apply set_ext
  intro i hi
  rw [BitVec.getLsbD_or, getLsbD_bit]
  by_cases e : b = i
  · subst e; simp [hn]
  · simp [e]
theorem pow_step {m k : Nat} (h : m = 2 ^ k) : m * 2 = 2 ^ (k + 1) := by rw [h, Nat.pow_succ]
theorem pow_le {m k : Nat} (h : m = 2 ^ k) (hk : k < 63) : (m : Int) * 2 ≤ 18446744073709551615 := by
  have : 2 ^ k ≤ 2 ^ 62 := Nat.pow_le_pow_right (by omega) (by omega)
  omega

set_option maxHeartbeats 400000 in
theorem with_nat (x : BSet) (b : Nat) (h0 : b < 256) (w : World) :
    Calls Try.prog 46 #[.agg (setC x), .int .i64 b] w fun e w' => e = .returned (.agg (setC (x ||| bit b))) ∧ Below w.heap.size w w' := by
  have hs2 : w.heap.size ≤ w.heap.size + 1 := by omega
  have hb0 := (Blk.new w 31 (setC x)).alloc (.cells (setC 0) 31)
  have hb00 := Blk.new' (w.alloc (.cells (setC x) 31)) 31 (setC 0) (World.size_alloc _ _).symm
  have hB0 := (((Below.refl w.heap.size w).alloc (Nat.le_refl _) (.cells (setC x) 31)).alloc (by simp) (.cells (setC 0) 31))
  cases hin : x.getLsbD b with
  | true =>
    have hx := Lib.hid hin
    clear hin
    go_enter Try.func46, Try.ntmps46
    go_wp2_with (first | (refine wl_load_set rfl _ rfl _ rfl _ (by assumption) ?_) | (go_at_call 28; refine (rhas_nat x b h0 _).mono ?_; rw [hx.out]; rintro e w1 ⟨rfl, hB1⟩; have hb1 := blk_then hb0 hB1; have hb11 := blk_then hb00 hB1; have hB2 := below_then hB0 hB1) | (refine wl_store_set rfl _ _ rfl _ _ rfl rfl _ hb11 ?_; intro w2 hb4 hg4))
    refine ret_set rfl rfl hb4 rfl ⟨?_, below_grown hB2 hg4 hs2⟩
    rw [with_same hx.out]
  | false =>
    have hx := Lib.hid hin
    clear hin
    go_enter Try.func46, Try.ntmps46
    go_wp2_with (first | (refine wl_load_set rfl _ rfl _ rfl _ hb0 ?_) | (go_at_call 28; refine (rhas_nat x b h0 _).mono ?_; rw [hx.out]; rintro e w1 ⟨rfl, hB1⟩; have hb1 := blk_then hb0 hB1; have hb11 := blk_then hb00 hB1; have hB2 := below_then hB0 hB1))
    clear hb0 hb00 hB0 hB1
    go_loop [6, 7] (fun v i => ∃ k m : Nat, k ≤ b % 64 ∧ i = .int .i64 k ∧ v = .int .u64 m ∧ Hid (m = 2 ^ k)) (fun _ i => b % 64 - (intOf i).toNat)
    case atStart => exact ⟨0, 1, by omega, rfl, rfl, rfl⟩
    case round =>
      obtain ⟨k, m, hk, rfl, rfl, Hm⟩ := hrel
      by_cases hlt : k < b % 64
      · have hlt2 : (k : Int) < (b : Int) % 64 := by omega
        have hm1 := pow_le Hm.out (by omega)
        go_wp2
        go_round
        case rel => exact ⟨k + 1, m * 2, by omega, by go_num, by go_num, pow_step Hm.out⟩
        case measure => simp [intOf]; omega
      · have hlt2 : ¬ (k : Int) < (b : Int) % 64 := by omega
        have e := Lib.hid (show k = b % 64 by omega)
        have Hsum := Lib.hid (with_sum h0 hx.out (by rw [← e.out]; exact Hm.out : m = 2 ^ (b % 64)))
        have hle : ((word x (b / 64) : Nat) : Int) + (m : Int) ≤ 18446744073709551615 := by have := Hsum.out; have := word_lt' (x ||| bit b) (b / 64); omega
        have c1 := hb1.cellv (setC_at x (b / 64) (by omega))
        have hk4 : b / 64 < (setC x).size := by rw [setC_size]; omega
        go_wp2_with (first | (refine wl_load_set rfl _ rfl _ rfl _ (by assumption) ?_) | (refine wl_store_cell rfl _ _ _ rfl _ _ rfl _ _ _ hb1 hk4 info_u64 rfl rfl (setC_setI (z := x ||| bit b) (by omega) (by rw [← Int.natCast_add, Hsum.out]) (fun j _ hj => by rw [word_or, word_bit_other hj, Nat.or_zero])) ?_; intro w2 hb2 hg2; have hb12 := hb11.grown hg2 (by simp); have hB3 := below_grown hB2 hg2 (Nat.le_refl _)) | (refine wl_store_set rfl _ _ rfl _ _ rfl rfl _ hb12 ?_; intro w3 hb4 hg4))
        exact ret_set rfl rfl hb4 rfl ⟨rfl, below_grown hB3 hg4 hs2⟩
theorem with_int (x : BSet) (b : Int) (h0 : 0 ≤ b) (h1 : b < 256) (w : World) :
    Calls Try.prog 46 #[.agg (setC x), .int .i64 b] w fun e w' => e = .returned (.agg (setC (x ||| bit b.toNat))) ∧ Below w.heap.size w w' := by
  obtain ⟨n, rfl⟩ := Int.eq_ofNat_of_zero_le h0
  exact with_nat x n (by omega) w

end Go.Proofs.Ytjpiebapemalfaa
