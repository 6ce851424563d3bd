/- Plain lemmas on sets of bytes: a set is a bit vector of 256 bits, laid out as four words of 64 bits. No condition beyond those named in each lemma. -/
import Derived.Laws.BitsAllLaws
import Derived.Laws.BitsLemmas
import Derived.WalkKit
namespace Go.Proofs.YtjplgcmfifoefaaDoor
open Go.RowKit
set_option linter.unusedVariables false
set_option linter.unusedSimpArgs false

abbrev BSet := BitVec 256
def word (x : BSet) (k : Nat) : Nat := (x.extractLsb' (64 * k) 64).toNat
def setC (x : BSet) : Array Value := #[.int .u64 (word x 0), .int .u64 (word x 1), .int .u64 (word x 2), .int .u64 (word x 3)]
def bit (b : Nat) : BSet := BitVec.twoPow 256 b

theorem testBit_word (x : BSet) (k j : Nat) : (word x k).testBit j = (decide (j < 64) && x.getLsbD (64 * k + j)) := by
  unfold word
  rw [BitVec.testBit_toNat, BitVec.getLsbD_extractLsb']
theorem word_lt (x : BSet) (k : Nat) : word x k < 2 ^ 64 := (x.extractLsb' (64 * k) 64).isLt
theorem word_lt' (x : BSet) (k : Nat) : word x k < 18446744073709551616 := word_lt x k
theorem word_ext {x y : BSet} (h : ∀ k, k < 4 → word x k = word y k) : x = y := by
  apply BitVec.eq_of_getLsbD_eq
  intro i hi
  have h1 := testBit_word x (i / 64) (i % 64)
  have h2 := testBit_word y (i / 64) (i % 64)
  rw [h (i / 64) (by omega), h2] at h1
  have e : 64 * (i / 64) + i % 64 = i := by omega
  have e2 : decide (i % 64 < 64) = true := by simp; omega
  rw [e, e2] at h1
  simpa using h1.symm
theorem testBit_big {n j : Nat} (hn : n < 2 ^ 64) (hj : 64 ≤ j) : n.testBit j = false :=
  Nat.testBit_lt_two_pow (Nat.lt_of_lt_of_le hn (Nat.pow_le_pow_right (by omega) hj))
theorem word_eq_of {x : BSet} {k n : Nat} (hn : n < 2 ^ 64) (h : ∀ j, j < 64 → n.testBit j = x.getLsbD (64 * k + j)) : word x k = n := by
  apply Nat.eq_of_testBit_eq
  intro j
  rw [testBit_word]
  by_cases hj : j < 64
  · simp [hj, h j hj]
  · simp [hj, testBit_big hn (by omega : 64 ≤ j)]
theorem word_bit {x : BSet} {b : Nat} (hb : b < 256) : x.getLsbD b = (word x (b / 64)).testBit (b % 64) := by
  rw [testBit_word]
  have e : 64 * (b / 64) + b % 64 = b := by omega
  have e2 : decide (b % 64 < 64) = true := by simp; omega
  rw [e, e2]; simp
theorem setC_at (x : BSet) (k : Nat) (h : k < 4) : (setC x)[k]? = some (.int .u64 (word x k)) := by
  unfold setC
  match k, h with
  | 0, _ => rfl
  | 1, _ => rfl
  | 2, _ => rfl
  | 3, _ => rfl
theorem setC_size (x : BSet) : (setC x).size = 4 := rfl
theorem setC_sz2 (x y : BSet) : (setC x).size = (setC y).size := (setC_size x).trans (setC_size y).symm
theorem setC_one (x : BSet) : (setC x).all (·.oneCell') = true := by unfold setC; simp [Value.oneCell']
theorem setC_set {x z : BSet} {k v : Nat} (hk : k < 4) (hv : word z k = v) (ho : ∀ j, j < 4 → j ≠ k → word x j = word z j) :
    (setC x).setIfInBounds k (.int .u64 (v : Int)) = setC z := by
  subst hv
  unfold setC
  match k, hk with
  | 0, _ => simp [ho 1, ho 2, ho 3]
  | 1, _ => simp [ho 0, ho 2, ho 3]
  | 2, _ => simp [ho 0, ho 1, ho 3]
  | 3, _ => simp [ho 0, ho 1, ho 2]
theorem setC_setI {x z : BSet} {k : Nat} {v : Int} (hk : k < 4) (hv : (word z k : Int) = v) (ho : ∀ j, j < 4 → j ≠ k → word x j = word z j) :
    (setC x).setIfInBounds k (.int .u64 v) = setC z := by
  subst hv
  exact setC_set hk rfl ho
theorem setC_inj {x y : BSet} (h : setC x = setC y) : x = y := by
  apply word_ext
  intro k hk
  have h1 := setC_at x k hk
  rw [h, setC_at y k hk] at h1
  injection h1 with h1
  injection h1 with _ h1
  omega

theorem getLsbD_bit (b i : Nat) : (bit b).getLsbD i = (decide (i < 256) && decide (b = i)) := by
  unfold bit
  rw [BitVec.getLsbD_twoPow]
  by_cases h : b = i <;> by_cases h2 : i < 256 <;> simp [h, h2] <;> omega

/-! ### bit operations by words -/
theorem word_and (x y : BSet) (k : Nat) : word (x &&& y) k = word x k &&& word y k := by
  apply Nat.eq_of_testBit_eq; intro j
  simp only [testBit_word, Nat.testBit_and, BitVec.getLsbD_and]
  cases decide (j < 64) <;> simp
theorem word_or (x y : BSet) (k : Nat) : word (x ||| y) k = word x k ||| word y k := by
  apply Nat.eq_of_testBit_eq; intro j
  simp only [testBit_word, Nat.testBit_or, BitVec.getLsbD_or]
  cases decide (j < 64) <;> simp
theorem word_xor (x y : BSet) (k : Nat) : word (x ^^^ y) k = word x k ^^^ word y k := by
  apply Nat.eq_of_testBit_eq; intro j
  simp only [testBit_word, Nat.testBit_xor, BitVec.getLsbD_xor]
  cases decide (j < 64) <;> simp
theorem word_zero (k : Nat) : word 0 k = 0 := by
  apply Nat.eq_of_testBit_eq; intro j
  simp [testBit_word]
theorem word_bit_same {b : Nat} (hb : b < 256) : word (bit b) (b / 64) = 2 ^ (b % 64) := by
  apply word_eq_of (Nat.pow_lt_pow_right (by omega) (by omega))
  intro j hj
  rw [getLsbD_bit, Nat.testBit_two_pow]
  by_cases h : b % 64 = j
  · simp [h]; omega
  · simp [h]; omega
theorem word_bit_other {b k : Nat} (hk : k ≠ b / 64) : word (bit b) k = 0 := by
  apply Nat.eq_of_testBit_eq; intro j
  rw [testBit_word, getLsbD_bit]
  by_cases h : j < 64
  · have : ¬ b = 64 * k + j := by omega
    simp [this]
  · simp [h]

/-- the bytes below n of which p holds -/
def setTo (p : Nat → Bool) : Nat → BSet
  | 0 => 0
  | n + 1 => if p n then setTo p n ||| bit n else setTo p n
theorem setTo_get (p : Nat → Bool) (n i : Nat) (hi : i < 256) : (setTo p n).getLsbD i = (decide (i < n) && p i) := by
  induction n with
  | zero => simp [setTo]
  | succ n ih =>
    unfold setTo
    by_cases hp : p n
    · rw [if_pos hp, BitVec.getLsbD_or, ih, getLsbD_bit]
      by_cases e : n = i
      · subst e; simp [hi, hp]
      · by_cases h : i < n
        · simp [h, e, show i < n + 1 by omega]
        · simp [h, e, show ¬ i < n + 1 by omega]
    · rw [if_neg hp, ih]
      by_cases e : n = i
      · subst e; simp [hp]
      · by_cases h : i < n
        · simp [h, show i < n + 1 by omega]
        · simp [h, show ¬ i < n + 1 by omega]
theorem setTo_succ_pos {p : Nat → Bool} {n : Nat} (h : p n = true) : setTo p (n + 1) = setTo p n ||| bit n := by rw [setTo, if_pos h]
theorem setTo_succ_neg {p : Nat → Bool} {n : Nat} (h : p n = false) : setTo p (n + 1) = setTo p n := by rw [setTo, if_neg (by simp [h])]
/-- the low k words of x, the others of y -/
def low (k : Nat) : BSet := setTo (fun i => decide (i < 64 * k)) 256
theorem getLsbD_low (k i : Nat) (hi : i < 256) : (low k).getLsbD i = decide (i < 64 * k) := by
  unfold low
  rw [setTo_get _ _ _ hi]
  simp [hi]
def mix (k : Nat) (x y : BSet) : BSet := (x &&& low k) ||| (y &&& ~~~ low k)
theorem word_mix_lt {k j : Nat} (x y : BSet) (hj : j < k) (h4 : j < 4) : word (mix k x y) j = word x j := by
  apply Nat.eq_of_testBit_eq; intro i
  simp only [testBit_word, mix, BitVec.getLsbD_or, BitVec.getLsbD_and, BitVec.getLsbD_not]
  by_cases hi : i < 64
  · have h1 : 64 * j + i < 256 := by omega
    have h2 : 64 * j + i < 64 * k := by omega
    rw [getLsbD_low k _ h1]
    simp [h1, h2]
  · simp [hi]
theorem word_mix_ge {k j : Nat} (x y : BSet) (hj : k ≤ j) (h4 : j < 4) : word (mix k x y) j = word y j := by
  apply Nat.eq_of_testBit_eq; intro i
  simp only [testBit_word, mix, BitVec.getLsbD_or, BitVec.getLsbD_and, BitVec.getLsbD_not]
  by_cases hi : i < 64
  · have h1 : 64 * j + i < 256 := by omega
    have h2 : ¬ 64 * j + i < 64 * k := by omega
    rw [getLsbD_low k _ h1]
    simp [h1, h2]
  · simp [hi]
theorem mix_zero (x y : BSet) : mix 0 x y = y := word_ext fun k hk => word_mix_ge x y (by omega) hk
theorem mix_four (x y : BSet) : mix 4 x y = x := word_ext fun k hk => word_mix_lt x y hk hk
theorem mix_set {k v : Nat} {x y : BSet} (hk : k < 4) (hv : word x k = v) : (setC (mix k x y)).setIfInBounds k (.int .u64 (v : Int)) = setC (mix (k + 1) x y) := by
  apply setC_set hk
  · rw [word_mix_lt x y (by omega) hk, hv]
  · intro j hj hne
    by_cases h : j < k
    · rw [word_mix_lt x y h hj, word_mix_lt x y (by omega) hj]
    · rw [word_mix_ge x y (by omega) hj, word_mix_ge x y (by omega) hj]
theorem put_set {x : BSet} {b : Nat} (hb : b < 256) : (setC x).setIfInBounds (b / 64) (.int .u64 ((word x (b / 64) ||| 2 ^ (b % 64) : Nat) : Int)) = setC (x ||| bit b) := by
  apply setC_set (by omega)
  · rw [word_or, word_bit_same hb]
  · intro j _ hne
    rw [word_or, word_bit_other hne, Nat.or_zero]

/-! ### the document's sets -/
def ofL (l : List Nat) : BSet := l.foldl (fun x b => x ||| bit b) 0
def joinL (l : List BSet) : BSet := l.foldl (fun x y => x ||| y) 0
def spanB (f t : Nat) : BSet := setTo (fun i => decide (f ≤ i ∧ i ≤ t)) 256
def line : BSet := bit 10
def notB (x : BSet) : BSet := ~~~ (x ||| line)
def cntTo (x : BSet) (n : Nat) : Nat := ((List.range n).filter fun i => x.getLsbD i).length
def cnt (x : BSet) : Nat := cntTo x 256

theorem ofL_snoc (l : List Nat) (b : Nat) : ofL (l ++ [b]) = ofL l ||| bit b := by simp [ofL]
theorem joinL_snoc (l : List BSet) (b : BSet) : joinL (l ++ [b]) = joinL l ||| b := by simp [joinL]
theorem foldl_or_mem (l : List BSet) : ∀ (x : BSet) (i : Nat), (l.foldl (fun x y => x ||| y) x).getLsbD i = (x.getLsbD i || l.any fun y => y.getLsbD i) := by
  induction l with
  | nil => simp
  | cons y l ih => intro x i; rw [List.foldl_cons, ih]; simp [Bool.or_assoc]
theorem joinL_get (l : List BSet) (i : Nat) : (joinL l).getLsbD i = l.any fun y => y.getLsbD i := by
  unfold joinL
  rw [foldl_or_mem]
  simp
theorem ofL_eq (l : List Nat) : ofL l = joinL (l.map bit) := by
  unfold ofL joinL
  rw [List.foldl_map]
theorem ofL_get (l : List Nat) (i : Nat) (hi : i < 256) : (ofL l).getLsbD i = decide (i ∈ l) := by
  rw [ofL_eq, joinL_get, List.any_map, Bool.eq_iff_iff]
  simp only [List.any_eq_true, Function.comp, getLsbD_bit, hi, decide_true, Bool.true_and, decide_eq_true_eq]
  constructor
  · rintro ⟨b, hb, rfl⟩; exact hb
  · intro h; exact ⟨i, h, rfl⟩
theorem spanB_get (f t i : Nat) (hi : i < 256) : (spanB f t).getLsbD i = decide (f ≤ i ∧ i ≤ t) := by
  unfold spanB
  rw [setTo_get _ _ _ hi]
  simp [hi]
theorem spanB_eq (f t : Nat) (ht : t < 256) : setTo (fun i => decide (f ≤ i ∧ i ≤ t)) (f + (t + 1 - f)) = spanB f t := by
  apply BitVec.eq_of_getLsbD_eq
  intro i hi
  unfold spanB
  rw [setTo_get _ _ _ hi, setTo_get _ _ _ hi]
  by_cases h : f ≤ i ∧ i ≤ t
  · have h1 : i < f + (t + 1 - f) := by omega
    simp [h, h1, hi]
  · simp [h]
theorem setTo_none {p : Nat → Bool} {n : Nat} (h : ∀ i, i < n → p i = false) : setTo p n = 0 := by
  induction n with
  | zero => rfl
  | succ n ih => rw [setTo_succ_neg (h n (by omega)), ih fun i hi => h i (by omega)]
theorem set_ext {x y : BSet} (h : ∀ i, i < 256 → x.getLsbD i = y.getLsbD i) : x = y := BitVec.eq_of_getLsbD_eq h
theorem cntTo_succ (x : BSet) (n : Nat) : cntTo x (n + 1) = cntTo x n + if x.getLsbD n then 1 else 0 := by
  unfold cntTo
  rw [List.range_succ, List.filter_append, List.length_append]
  by_cases h : x.getLsbD n <;> simp [h]
theorem cntTo_le (x : BSet) (n : Nat) : cntTo x n ≤ n := by
  unfold cntTo
  have := List.length_filter_le (fun i => x.getLsbD i) (List.range n)
  simpa using this

def enc8 (b : UInt8) : Array Value := #[.int .u8 b.toNat]
def ofB (l : List UInt8) : BSet := l.foldl (fun x b => x ||| bit b.toNat) 0
theorem ofB_snoc (l : List UInt8) (b : UInt8) : ofB (l ++ [b]) = ofB l ||| bit b.toNat := by simp [ofB]
theorem take_snoc' {α : Type} (l : List α) (k : Nat) (h : k < l.length) : l.take (k + 1) = l.take k ++ [l[k]] := by
  rw [List.take_succ_eq_append_getElem h]

def inB (f t : Int) (i : Nat) : Bool := decide (f ≤ (i : Int)) && decide ((i : Int) ≤ t)
theorem inB_pos {f t : Int} {i : Nat} (h1 : f ≤ i) (h2 : (i : Int) ≤ t) : inB f t i = true := by simp [inB, h1, h2]
theorem inB_neg {f t : Int} {i : Nat} (h : ¬ (f ≤ i ∧ (i : Int) ≤ t)) : inB f t i = false := by
  unfold inB
  by_cases h1 : f ≤ (i : Int)
  · have : ¬ (i : Int) ≤ t := fun h2 => h ⟨h1, h2⟩
    simp [this]
  · simp [h1]
def anyB (l : List BSet) (i : Nat) : Bool := l.any fun y => y.getLsbD i
theorem anyB_snoc (l : List BSet) (y : BSet) (i : Nat) : anyB (l ++ [y]) i = (anyB l i || y.getLsbD i) := by simp [anyB]
def bothB (x y : BSet) (i : Nat) : Bool := x.getLsbD i && y.getLsbD i
def hasnt (x : BSet) (i : Nat) : Bool := !x.getLsbD i && (i != 10)
theorem setTo_inB (f t : Nat) : setTo (inB f t) 256 = spanB f t := by
  apply BitVec.eq_of_getLsbD_eq
  intro i hi
  unfold spanB
  rw [setTo_get _ _ _ hi, setTo_get _ _ _ hi]
  congr 1
  by_cases h : f ≤ i ∧ i ≤ t
  · rw [inB_pos (by omega) (by omega)]; simp [h]
  · rw [inB_neg (by omega)]; simp [h]
theorem setTo_anyB (l : List BSet) : setTo (anyB l) 256 = joinL l := by
  apply BitVec.eq_of_getLsbD_eq
  intro i hi
  rw [setTo_get _ _ _ hi, joinL_get]
  simp [hi, anyB]
theorem setTo_bothB (x y : BSet) : setTo (bothB x y) 256 = x &&& y := by
  apply BitVec.eq_of_getLsbD_eq
  intro i hi
  rw [setTo_get _ _ _ hi, BitVec.getLsbD_and]
  simp [hi, bothB]
theorem setTo_hasnt (x : BSet) : setTo (hasnt x) 256 = notB x := by
  apply BitVec.eq_of_getLsbD_eq
  intro i hi
  unfold notB line
  rw [setTo_get _ _ _ hi, BitVec.getLsbD_not, BitVec.getLsbD_or, getLsbD_bit]
  unfold hasnt
  by_cases e : i = 10
  · subst e; simp
  · have e2 : ¬ 10 = i := fun h => e h.symm
    simp [hi, e, e2]

/-- a set with one word replaced -/
def setWord (x : BSet) (k v : Nat) : BSet := setTo (fun i => if i / 64 = k then v.testBit (i % 64) else x.getLsbD i) 256
theorem word_setWord {x : BSet} {k v j : Nat} (hj : j < 4) (hv : v < 18446744073709551616) : word (setWord x k v) j = if j = k then v else word x j := by
  unfold setWord
  by_cases e : j = k
  · subst e
    rw [if_pos rfl]
    apply word_eq_of hv
    intro i hi
    rw [setTo_get _ _ _ (by omega), if_pos (by omega), show (64 * j + i) % 64 = i by omega]
    simp; omega
  · rw [if_neg e]
    apply word_eq_of (word_lt _ _)
    intro i hi
    rw [setTo_get _ _ _ (by omega), if_neg (by omega), testBit_word]
    simp [hi]; omega
theorem setWord_toList {x : BSet} {k v : Nat} (hk : k < 4) (hv : v < 18446744073709551616) : (setC (setWord x k v)).toList = (setC x).toList.set k (.int .u64 (v : Int)) := by
  have h := setC_set (x := x) (z := setWord x k v) hk (by rw [word_setWord hk hv, if_pos rfl]) (fun j hj hne => by rw [word_setWord hj hv, if_neg hne])
  rw [← h, Array.toList_setIfInBounds]
/-- whatever is stored as a word leaves a set -/
theorem setWord_any (x : BSet) (k : Nat) (hk : k < 4) (v : Int) (h0 : 0 ≤ v) (h1 : v < 18446744073709551616) : ∃ y : BSet, (setC y).toList = (setC x).toList.set k (.int .u64 v) := by
  obtain ⟨n, rfl⟩ := Int.eq_ofNat_of_zero_le h0
  exact ⟨setWord x k n, setWord_toList hk (by omega)⟩
theorem wrap_u64_bounds (v : Int) : 0 ≤ IntKind.u64.wrap v ∧ IntKind.u64.wrap v < 18446744073709551616 := by
  rw [IntKind.wrap_u64]; omega
theorem bits_u64_bounds (op : BinOp) (x y : Int) : 0 ≤ bits op .u64 x y ∧ bits op .u64 x y < 18446744073709551616 := by
  unfold bits
  split <;> exact wrap_u64_bounds _

/-! ### the walk's own forms -/
theorem hasB {x : BSet} {b : Nat} (hb : b < 256) : (bits BinOp.and IntKind.u64 ((word x (b / 64) : Int) / 2 ^ (b % 64)) 1 == 1) = x.getLsbD b := by
  have e1 : ((word x (b / 64) : Int) / 2 ^ (b % 64)) = ((word x (b / 64) / 2 ^ (b % 64) : Nat) : Int) := by
    rw [Int.natCast_ediv, Int.natCast_pow]; rfl
  have hlt : word x (b / 64) / 2 ^ (b % 64) < 18446744073709551616 := Nat.lt_of_le_of_lt (Nat.div_le_self _ _) (word_lt' _ _)
  rw [e1]
  have e2 := u64_and_nat (word x (b / 64) / 2 ^ (b % 64)) 1 hlt (by omega)
  rw [show ((1 : Nat) : Int) = 1 from rfl] at e2
  rw [e2, Nat.and_one_is_mod, word_bit hb, Nat.testBit_eq_decide_div_mod_eq]
  rw [Bool.eq_iff_iff]
  simp only [beq_iff_eq, decide_eq_true_eq]
  omega
theorem putB {x : BSet} {b : Nat} (hb : b < 256) : bits BinOp.or IntKind.u64 (word x (b / 64)) (IntKind.u64.wrap (2 ^ (b % 64))) = ((word x (b / 64) ||| 2 ^ (b % 64) : Nat) : Int) := by
  have hlt : 2 ^ (b % 64) < 18446744073709551616 := Nat.lt_of_lt_of_le (Nat.pow_lt_pow_right (by omega) (by omega : b % 64 < 64)) (Nat.le_refl _)
  have e1 : IntKind.u64.wrap (2 ^ (b % 64)) = ((2 ^ (b % 64) : Nat) : Int) := by
    rw [show (2 ^ (b % 64) : Int) = ((2 ^ (b % 64) : Nat) : Int) by rw [Int.natCast_pow]; rfl, IntKind.wrap_u64]
    exact Int.emod_eq_of_lt (Int.natCast_nonneg _) (Int.ofNat_lt.2 hlt)
  rw [e1]
  exact u64_or_nat _ _ (word_lt' _ _) hlt

theorem word_not {x : BSet} {k : Nat} (hk : k < 4) : word (~~~ x) k = (2 ^ 64 - 1) ^^^ word x k := by
  apply Nat.eq_of_testBit_eq; intro j
  rw [Nat.testBit_xor, testBit_word, testBit_word, Nat.testBit_two_pow_sub_one, BitVec.getLsbD_not]
  by_cases hj : j < 64
  · have : 64 * k + j < 256 := by omega
    simp [hj, this]
  · simp [hj]
theorem notW {x : BSet} {k : Nat} (hk : k < 4) : bits BinOp.xor IntKind.u64 (if IntKind.u64.signed = true then -1 else IntKind.u64.max) (word x k) = (word (~~~ x) k : Nat) := by
  have e : (if IntKind.u64.signed = true then (-1 : Int) else IntKind.u64.max) = ((18446744073709551615 : Nat) : Int) := by decide
  rw [e, word_not hk]
  exact u64_xor_nat 18446744073709551615 (word x k) (by decide) (word_lt' _ _)


end Go.Proofs.YtjplgcmfifoefaaDoor
