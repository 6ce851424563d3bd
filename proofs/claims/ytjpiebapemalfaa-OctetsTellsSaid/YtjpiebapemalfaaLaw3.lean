/- Plain laws on sets: joining, meeting and turning about. No condition. -/
import Derived.Test.YtjpiebapemalfaaPop
import Derived.KernelRfl
namespace Go.Proofs.Ytjpiebapemalfaa
open Go.RowKit
set_option linter.unusedVariables false
set_option linter.unusedSimpArgs false

theorem join2_get (x y : BSet) (i : Nat) : (joinL [x, y]).getLsbD i = (x.getLsbD i || y.getLsbD i) := by simp [joinL_get]
theorem join3_get (x y z : BSet) (i : Nat) : (joinL [x, y, z]).getLsbD i = (x.getLsbD i || (y.getLsbD i || z.getLsbD i)) := by simp [joinL_get]
theorem notB_get (x : BSet) (i : Nat) (hi : i < 256) : (notB x).getLsbD i = !(x.getLsbD i || decide (10 = i)) := by
  unfold notB line
  rw [BitVec.getLsbD_not, BitVec.getLsbD_or, getLsbD_bit]
  simp [hi]
theorem all_get (i : Nat) (hi : i < 256) : (spanB 0 255).getLsbD i = true := by
  rw [spanB_get _ _ _ hi]; simp; omega
theorem line_get (i : Nat) (hi : i < 256) : (ofB [10]).getLsbD i = decide (10 = i) := by
  have : ofB [10] = bit 10 := by decide +kernel
  rw [this, getLsbD_bit]; simp [hi]
theorem zero_get (i : Nat) : (ofB []).getLsbD i = false := by
  rw [show ofB [] = (0 : BSet) from rfl]; simp
theorem law_a (a b c : BSet) : joinL [a, b, c] = joinL [c, joinL [b, a]] := by
  apply set_ext; intro i hi
  rw [join3_get, join2_get, join2_get]
  cases a.getLsbD i <;> cases b.getLsbD i <;> cases c.getLsbD i <;> rfl
theorem law_b (a b : BSet) : a &&& b = b &&& a := BitVec.and_comm _ _
theorem law_c (a b c : BSet) : a &&& (b &&& c) = (a &&& b) &&& c := (BitVec.and_assoc _ _ _).symm
theorem law_d (a b c : BSet) : a &&& joinL [b, c] = joinL [a &&& b, a &&& c] := by
  apply set_ext; intro i hi
  rw [BitVec.getLsbD_and, join2_get, join2_get, BitVec.getLsbD_and, BitVec.getLsbD_and]
  cases a.getLsbD i <;> cases b.getLsbD i <;> cases c.getLsbD i <;> rfl
theorem law_e (a : BSet) : joinL [a, a] = a := by
  apply set_ext; intro i hi
  rw [join2_get]; simp
theorem law_f (a : BSet) : a &&& a = a := BitVec.and_self
theorem law_g (a : BSet) : joinL [a, ofB []] = a := by
  apply set_ext; intro i hi
  rw [join2_get, zero_get]; simp
theorem law_h (a : BSet) : a &&& spanB 0 255 = a := by
  apply set_ext; intro i hi
  rw [BitVec.getLsbD_and, all_get _ hi]; simp
theorem law_i : joinL [] = ofB [] := rfl
theorem law_j (a : BSet) : (notB a).getLsbD 10 = false := by rw [notB_get _ _ (by omega)]; simp
theorem law_k (a : BSet) : a &&& notB a = ofB [] := by
  apply set_ext; intro i hi
  rw [BitVec.getLsbD_and, notB_get _ _ hi, zero_get]
  cases a.getLsbD i <;> rfl
theorem law_l (a : BSet) : joinL [a, notB a, ofB [10]] = joinL [spanB 0 255, ofB [10]] := by
  apply set_ext; intro i hi
  rw [join3_get, join2_get, notB_get _ _ hi, all_get _ hi, line_get _ hi]
  cases a.getLsbD i <;> cases decide (10 = i) <;> rfl
theorem law_m (a : BSet) : notB (notB a) = a &&& notB (ofB [10]) := by
  apply set_ext; intro i hi
  rw [BitVec.getLsbD_and, notB_get _ _ hi, notB_get _ _ hi, notB_get _ _ hi, line_get _ hi]
  cases a.getLsbD i <;> cases decide (10 = i) <;> rfl
theorem law_n (a b : BSet) : notB (joinL [a, b]) = notB a &&& notB b := by
  apply set_ext; intro i hi
  rw [BitVec.getLsbD_and, notB_get _ _ hi, notB_get _ _ hi, notB_get _ _ hi, join2_get]
  cases a.getLsbD i <;> cases b.getLsbD i <;> cases decide (10 = i) <;> rfl
theorem cntTo_add (a b : BSet) (n : Nat) : cntTo (joinL [a, b]) n + cntTo (a &&& b) n = cntTo a n + cntTo b n := by
  induction n with
  | zero => rfl
  | succ n ih =>
    rw [cntTo_succ, cntTo_succ, cntTo_succ, cntTo_succ, join2_get, BitVec.getLsbD_and]
    cases a.getLsbD n <;> cases b.getLsbD n <;> simp <;> omega
theorem law_o (a b : BSet) : (cnt (joinL [a, b]) : Int) + (cnt (a &&& b) : Int) = (cnt a : Int) + (cnt b : Int) := by
  have := cntTo_add a b 256
  unfold cnt
  omega
theorem cnt_le (a : BSet) : cnt a ≤ 256 := cntTo_le a 256
theorem known_set : setC (ofB [97, 99, 97]) = #[.int .u64 0, .int .u64 42949672960, .int .u64 0, .int .u64 0] := by kernel_rfl
theorem known_cnt : cnt (ofB [97, 99, 97]) = 2 := by decide +kernel
theorem known_has1 : (ofB [97, 99, 97]).getLsbD 97 = true := by decide +kernel
theorem known_has2 : (ofB [97, 99, 97]).getLsbD 98 = false := by decide +kernel

end Go.Proofs.Ytjpiebapemalfaa
