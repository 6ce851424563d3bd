/- The walks of sim's small functions: bits.TrailingZeros64, the sets of states. No condition beyond those named in each lemma. -/
import Derived.Test.YtgahdookojbbiaaDoorSim
import Derived.Test.YtgahdookojbbiaaDoorKeep
import Derived.Test.YtgahdookojbbiaaDoorRound2
import Derived.Test.YtgahdookojbbiaaDoorOctA
namespace Go.Proofs.YtgahdookojbbiaaDoor
open Go.RowKit
set_option linter.unusedVariables false
set_option linter.unusedSimpArgs false

def deB : List Nat := [0, 1, 56, 2, 57, 49, 28, 3, 61, 58, 42, 50, 38, 29, 17, 4, 62, 47, 59, 36, 45, 43, 51, 22, 53, 39, 33, 30, 24, 18, 12, 5, 63, 55, 48, 27, 60, 41, 37, 16, 46, 35, 44, 21, 52, 32, 23, 11, 54, 26, 40, 15, 34, 20, 31, 10, 25, 14, 19, 9, 13, 8, 7, 6]
/-- the table of package math/bits lies where the program lays it -/
def TabOk (W : World) : Prop := ∀ i, i < 64 → W.cell? ⟨0, i, none⟩ = some (.int .u8 (deB.getD i 0 : Nat))
theorem TabOk.size {W : World} (h : TabOk W) : 0 < W.heap.size := by
  have h1 := h 0 (by decide)
  refine Classical.byContradiction fun hn => ?_
  have : W.heap[0]? = none := Array.getElem?_eq_none (by omega)
  simp [World.cell?, this] at h1
theorem TabOk.then_ {n : Nat} {W W' : World} (h : TabOk W) (hn : 0 < n) (hb : Below n W W') : TabOk W' := fun i hi => (hb.cell (p := ⟨0, i, none⟩) hn).trans (h i hi)
theorem deB_at : ∀ t, t < 64 → deB.getD (2 ^ t * 285870213051353865 % 2 ^ 64 / 2 ^ 58) 0 = t ∧ 2 ^ t * 285870213051353865 % 2 ^ 64 / 2 ^ 58 < 64 := by decide
theorem neg_u64 {w : Nat} (h0 : 0 < w) (h : w < 2 ^ 64) : IntKind.u64.wrap (-(w : Int)) = ((2 ^ 64 - w : Nat) : Int) := by
  rw [IntKind.wrap_u64]
  omega
set_option maxHeartbeats 400000 in
theorem tz_any (w t : Nat) (hw : w < 2 ^ 64) (h : LowBit w t) (W : World) (hT : TabOk W) : Calls Tryd.prog 39 #[.int .u64 w] W fun e W' => e = .returned (.int .i64 t) ∧ W' = W := by
  have h0 : 0 < w := by
    rcases Nat.eq_zero_or_pos w with h0 | h0
    · rw [h0] at h; have := h.1; simp at this
    · exact h0
  have hne : ((w : Int) == 0) = false := by rw [beq_eq_false_iff_ne]; omega
  go_enter Tryd.func39, Tryd.ntmps39
  have ht : t < 64 := by
    refine Classical.byContradiction fun hn => ?_
    have h2 := Nat.testBit_lt_two_pow (Nat.lt_of_lt_of_le hw (Nat.pow_le_pow_right (show 0 < 2 by decide) (show 64 ≤ t by omega)))
    rw [h.1] at h2
    cases h2
  have hix : ∃ ix : Nat, IntKind.u64.wrap (bits BinOp.and IntKind.u64 (w : Int) (IntKind.u64.wrap (-(w : Int))) * 285870213051353865) / 288230376151711744 = (ix : Int) ∧ (ix : Int) < 64 ∧ W.cell? ⟨0, ix, none⟩ = some (.int .u8 (t : Int)) := by
    obtain ⟨h3, h4⟩ := deB_at t ht
    refine ⟨2 ^ t * 285870213051353865 % 2 ^ 64 / 2 ^ 58, ?_, Int.ofNat_lt.2 h4, ?_⟩
    · rw [neg_u64 h0 hw, u64_and_nat _ _ hw (by omega), low_and_neg h hw, IntKind.wrap_u64]
      generalize 2 ^ t = y
      omega
    · rw [hT _ h4, h3]
  obtain ⟨ix, hix, hlt, hcell⟩ := hix
  go_wp2
  go_ret
  exact ⟨rfl, rfl⟩

def encU (v : Nat) : Array Value := #[.int .u64 (v : Int)]
theorem encU_size (v : Nat) : (encU v).size = 1 := rfl
theorem encU_one (v : Nat) : (encU v).all (·.oneCell') = true := by simp [encU, Value.oneCell']
theorem u64_bit {v n : Nat} (hv : v < 18446744073709551616) : (bits BinOp.and IntKind.u64 ((v : Int) / 2 ^ n) 1 == 1) = v.testBit n := by
  have e1 : ((v : Int) / 2 ^ n) = ((v / 2 ^ n : Nat) : Int) := by
    rw [Int.natCast_ediv, Int.natCast_pow]; rfl
  have hlt : v / 2 ^ n < 18446744073709551616 := Nat.lt_of_le_of_lt (Nat.div_le_self _ _) hv
  rw [e1]
  have e2 := u64_and_nat (v / 2 ^ n) 1 hlt (by omega)
  rw [show ((1 : Nat) : Int) = 1 from rfl] at e2
  rw [e2, Nat.and_one_is_mod, Nat.testBit_eq_decide_div_mod_eq]
  rw [Bool.eq_iff_iff]
  simp only [beq_iff_eq, decide_eq_true_eq]
  omega
set_option maxHeartbeats 400000 in
theorem shas_any (A : Option Addr) (k c x n : Nat) (hn : n < 64 * k) (hkb : k ≤ 1099511627776) (B : Nat) (w : World) (hs : SliceOf w B 1 encU A (wordsN x k)) :
    Calls Tryd.prog 40 #[.slice A k c, .int .i64 n] w fun e w' => e = .returned (.bool (x.testBit n)) ∧ w' = w := by
  have hj : n / 64 < (wordsN x k).length := by rw [wordsN_length]; omega
  obtain ⟨b, off, rfl, hb, hrow⟩ := hs.at_ (by omega)
  have hc := hrow (n / 64) hj 0 _ rfl
  rw [wordsN_get] at hc
  have hc' : w.cell? ⟨b, off + n / 64, none⟩ = some (.int .u64 (wordN x (n / 64) : Nat)) := by rw [Nat.mul_one] at hc; exact hc
  have hk : n / 64 < k := by omega
  have hbit := u64_bit (n := n % 64) (wordN_lt' x (n / 64))
  rw [has_word] at hbit
  clear hc hrow hs
  go_enter Tryd.func40, Tryd.ntmps40
  go_wp2
  go_ret
  exact ⟨rfl, rfl⟩
theorem u64_or_pow {v n : Nat} (hv : v < 18446744073709551616) (hn : n < 64) : bits BinOp.or IntKind.u64 (v : Int) (IntKind.u64.wrap (2 ^ n)) = ((v ||| 2 ^ n : Nat) : Int) := by
  have hlt : 2 ^ n < 18446744073709551616 := Nat.lt_of_lt_of_le (Nat.pow_lt_pow_right (by omega) hn) (Nat.le_refl _)
  have e1 : IntKind.u64.wrap (2 ^ n) = ((2 ^ n : Nat) : Int) := by
    rw [show (2 ^ n : Int) = ((2 ^ n : Nat) : Int) by rw [Int.natCast_pow]; rfl, IntKind.wrap_u64]
    exact Int.emod_eq_of_lt (Int.natCast_nonneg _) (Int.ofNat_lt.2 hlt)
  rw [e1]
  exact u64_or_nat _ _ hv hlt
set_option maxHeartbeats 400000 in
theorem sadd_any (g k c x n base : Nat) (hn : n < 64 * k) (hkb : k ≤ 1099511627776) (w : World) (hs : Own w base 49 1 encU (.slice (some ⟨g, 0, none⟩) k c) (wordsN x k)) :
    Calls Tryd.prog 33 #[.slice (some ⟨g, 0, none⟩) k c, .int .i64 n] w fun e w' => e = .returned (.tuple #[]) ∧ Own w' base 49 1 encU (.slice (some ⟨g, 0, none⟩) k c) (wordsN (x ||| 2 ^ n) k) ∧ w.grownBy w' (some g) := by
  have hj : n / 64 < (wordsN x k).length := by rw [wordsN_length]; omega
  have hc := hs.row encU_size (n / 64) hj 0 _ rfl
  rw [wordsN_get, Nat.mul_one] at hc
  have hc' : w.cell? ⟨g, n / 64, none⟩ = some (.int .u64 (wordN x (n / 64) : Nat)) := hc
  have f1 := hs.frozen (n / 64)
  have hk : n / 64 < k := by omega
  have hor := u64_or_pow (n := n % 64) (wordN_lt' x (n / 64)) (by omega)
  clear hc
  go_enter Tryd.func33, Tryd.ntmps33
  go_region
  go_end0
  refine ⟨rfl, ?_, only_drew (only_setCell (only_refl _ _) (.inl rfl) _)⟩
  have o1 := hs.setCell (i := n / 64) (q := 0) (y' := wordN x (n / 64) ||| 2 ^ (n % 64)) (u := .int .u64 ((wordN x (n / 64) ||| 2 ^ (n % 64) : Nat) : Int)) encU_size hj (by omega) rfl
  rw [words_add, Nat.mul_one, Nat.add_zero] at o1
  exact o1.drew
end Go.Proofs.YtgahdookojbbiaaDoor
