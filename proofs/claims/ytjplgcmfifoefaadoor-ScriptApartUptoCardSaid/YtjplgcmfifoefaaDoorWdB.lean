/- Integers as words: they are plain, and read back. Plain; no condition beyond those named in each lemma. -/
import Derived.Test.YtjplgcmfifoefaaDoorWdA
import Derived.Lib.ItoaNum
import Derived.Lib.AtoiAll
namespace Go.Proofs.YtjplgcmfifoefaaDoor
open Go.Lib
set_option linter.unusedVariables false
set_option linter.unusedSimpArgs false

theorem byte_dig {d : Nat} (h : d < 10) : (UInt8.ofNat (48 + d)).toNat = 48 + d := by
  have : ∀ d, d < 10 → (UInt8.ofNat (48 + d)).toNat = 48 + d := by decide
  exact this d h
theorem dec_digit (u : Nat) : decDigits u ≠ [] ∧ ∀ b ∈ decDigits u, 48 ≤ b.toNat ∧ b.toNat ≤ 57 := by
  induction u using Nat.strongRecOn with
  | _ u ih =>
    rw [decDigits]
    by_cases h : u < 10
    · rw [dif_pos h]
      refine ⟨by simp, fun b hb => ?_⟩
      obtain rfl : b = UInt8.ofNat (48 + u) := by simpa using hb
      rw [byte_dig h]
      omega
    · rw [dif_neg h]
      have hm : u % 10 < 10 := Nat.mod_lt _ (by decide)
      refine ⟨by simp, fun b hb => ?_⟩
      rcases List.mem_append.1 hb with hb | hb
      · exact (ih (u / 10) (by omega)).2 b hb
      · obtain rfl : b = UInt8.ofNat (48 + u % 10) := by simpa using hb
        rw [byte_dig hm]
        omega
theorem isPl_dec (u : Nat) : isPl (decDigits u) = true := by
  unfold isPl
  simp only [Bool.and_eq_true, decide_eq_true_eq, List.all_eq_true]
  refine ⟨(dec_digit u).1, fun b hb => ?_⟩
  have := (dec_digit u).2 b hb
  unfold plainB
  exact decide_eq_true (by omega)
theorem isPl_itoa (n : Int) : isPl (itoa n) = true := by
  unfold itoa
  split
  · have h := isPl_all (isPl_dec n.natAbs)
    unfold isPl
    simp only [Bool.and_eq_true, decide_eq_true_eq, List.all_eq_true]
    refine ⟨by simp, fun b hb => ?_⟩
    rcases List.mem_cons.1 hb with rfl | hb
    · decide
    · exact h.2 b hb
  · exact isPl_dec _
theorem quo_itoa (n : Int) : quo (itoa n) = itoa n := quo_pl (isPl_itoa n)
theorem parse_snoc (c : UInt8) : ∀ (l : Bs) (acc : Nat), parseUint10 acc (l ++ [c]) = match parseUint10 acc l with
    | .ok v => parseUint10 v [c]
    | NumEnd.syntax => NumEnd.syntax
    | .range => .range
  | [], acc => rfl
  | b :: l, acc => by
    rw [List.cons_append, parseUint10, parseUint10]
    split
    · split
      · rfl
      · split
        · rfl
        · exact parse_snoc c l _
    · rfl
theorem parse_dec (u : Nat) : u < 18446744073709551616 → parseUint10 0 (decDigits u) = .ok u := by
  induction u using Nat.strongRecOn with
  | _ u ih =>
    intro hu
    rw [decDigits]
    by_cases h : u < 10
    · rw [dif_pos h]
      have e := byte_dig h
      simp only [parseUint10, e]
      rw [if_pos (by omega), if_neg (by omega), if_neg (by omega)]
      congr 1
      omega
    · rw [dif_neg h, parse_snoc, ih (u / 10) (by omega) (by omega)]
      have hm : u % 10 < 10 := Nat.mod_lt _ (by decide)
      have e := byte_dig hm
      simp only [parseUint10, e]
      rw [if_pos (by omega), if_neg (by omega), if_neg (by omega)]
      congr 1
      omega
theorem atoi_itoa (n : Int) (h0 : -9223372036854775808 ≤ n) (h1 : n ≤ 9223372036854775807) : atoiAll (itoa n) = .ok n := by
  unfold itoa
  by_cases h : n < 0
  · rw [if_pos h]
    have hp := parse_dec n.natAbs (by omega)
    have hm : parseMag (decDigits n.natAbs) = .ok n.natAbs := by unfold parseMag; rw [if_neg (dec_digit _).1, hp]
    have e : (45 : UInt8).toNat = 45 := by decide
    simp only [atoiAll, e]
    simp only [or_true, if_true, hm, not_true, false_and, if_false, true_and]
    rw [if_neg (by omega)]
    congr 1
    omega
  · rw [if_neg h]
    have hp := parse_dec n.toNat (by omega)
    obtain ⟨c, r, e⟩ := List.exists_cons_of_ne_nil (dec_digit n.toNat).1
    have hc := (dec_digit n.toNat).2 c (by rw [e]; simp)
    rw [e] at hp ⊢
    have hm : parseMag (c :: r) = .ok n.toNat := by unfold parseMag; rw [if_neg (by simp), hp]
    simp only [atoiAll]
    rw [if_neg (by omega), hm]
    have hn : ¬ c.toNat = 45 := by omega
    simp only [hn, if_false, not_false_eq_true, true_and, false_and]
    rw [if_neg (by omega)]
    congr 1
    omega
theorem itoa_inj {a b : Int} (a0 : -9223372036854775808 ≤ a) (a1 : a ≤ 9223372036854775807) (b0 : -9223372036854775808 ≤ b) (b1 : b ≤ 9223372036854775807) (h : itoa a = itoa b) : a = b := by
  have h1 := atoi_itoa a a0 a1
  rw [h, atoi_itoa b b0 b1] at h1
  injection h1 with h1
  exact h1.symm
/-- an integer that is written just so -/
def intW (w : Bs) : Option Int := match atoiAll w with
  | .ok v => if itoa v = w then some v else none
  | _ => none
theorem intW_itoa (n : Int) (h0 : -9223372036854775808 ≤ n) (h1 : n ≤ 9223372036854775807) : intW (itoa n) = some n := by
  unfold intW
  rw [atoi_itoa n h0 h1]
  simp
theorem intW_some {w : Bs} {v : Int} (h : intW w = some v) : w = itoa v := by
  unfold intW at h
  split at h
  · split at h
    · next e => injection h with h; rw [← h]; exact e.symm
    · cases h
  · cases h
end Go.Proofs.YtjplgcmfifoefaaDoor
