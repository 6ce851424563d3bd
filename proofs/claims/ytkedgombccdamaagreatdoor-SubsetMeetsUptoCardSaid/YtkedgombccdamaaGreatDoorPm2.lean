/- Part 2 of a proof; packed: the texts that it was made of follow one another. No condition beyond those named in each lemma. -/
import Derived.Test.YtkedgombccdamaaGreatDoorPm1
import Derived.Deep.CutBlock
namespace Go.Proofs.YtkedgombccdamaaGreatDoor
set_option linter.unusedVariables false
set_option linter.unusedSimpArgs false
def digs36 : List Nat := [48, 49, 50, 51, 52, 53, 54, 55, 56, 57, 97, 98, 99, 100, 101, 102, 103, 104, 105, 106, 107, 108, 109, 110, 111, 112, 113, 114, 115, 116, 117, 118, 119, 120, 121, 122]
def dg (n : Nat) : UInt8 := UInt8.ofNat (digs36.getD n 0)
theorem dg_inj : ∀ n, n < 36 → ∀ m, m < 36 → dg n = dg m → n = m := by decide
theorem dg_blank : ∀ n, n < 36 → dg n ≠ 32 := by decide
def rev36 : Nat → Nat → List UInt8
 | 0, _ => []
 | f + 1, u => if u < 36 then [dg u] else dg (u % 36) :: rev36 f (u / 36)
def dig36 (u : Nat) : List UInt8 := (rev36 14 u).reverse
theorem rev36_blank : ∀ f u, ∀ b ∈ rev36 f u, b ≠ 32
 | 0, u, b, h => by simp [rev36] at h
 | f + 1, u, b, h => by
  unfold rev36 at h
  split at h
  ·rename_i hu
   rw [List.mem_singleton] at h
   rw [h]; exact dg_blank u hu
  ·rcases List.mem_cons.1 h with rfl | h
   ·exact dg_blank _ (Nat.mod_lt _ (by omega))
   ·exact rev36_blank f _ b h
theorem rev36_ne (f u : Nat) : rev36 (f + 1) u ≠ [] := by
 unfold rev36
 split <;> simp
theorem rev36_inj : ∀ f u v, u < 36 ^ f → v < 36 ^ f → rev36 f u = rev36 f v → u = v
 | 0, u, v, hu, hv, _ => by simp at hu hv; omega
 | f + 1, u, v, hu, hv, h => by
  unfold rev36 at h
  by_cases h1 : u < 36
  ·by_cases h2 : v < 36
   ·rw [if_pos h1, if_pos h2] at h
    injection h with h
    exact dg_inj u h1 v h2 h
   ·rw [if_pos h1, if_neg h2] at h
    injection h with h h'
    exfalso
    cases f with
    | zero => simp at hv; omega
    | succ f => exact rev36_ne f _ h'.symm
  ·by_cases h2 : v < 36
   ·rw [if_neg h1, if_pos h2] at h
    injection h with h h'
    exfalso
    cases f with
    | zero => simp at hu; omega
    | succ f => exact rev36_ne f _ h'
   ·rw [if_neg h1, if_neg h2] at h
    injection h with h h'
    have e1 := dg_inj _ (Nat.mod_lt u (by omega)) _ (Nat.mod_lt v (by omega)) h
    have e2 := rev36_inj f (u / 36) (v / 36) (by rw [Nat.pow_succ] at hu; exact Nat.div_lt_of_lt_mul (by omega)) (by rw [Nat.pow_succ] at hv; exact Nat.div_lt_of_lt_mul (by omega)) h'
    omega
theorem dig36_inj {u v : Nat} (hu : u < 18446744073709551616) (hv : v < 18446744073709551616) (h : dig36 u = dig36 v) : u = v :=
 rev36_inj 14 u v (Nat.lt_of_lt_of_le hu (by decide)) (Nat.lt_of_lt_of_le hv (by decide)) (by have := congrArg List.reverse h; simpa [dig36] using this)
theorem dig36_blank (u : Nat) : ∀ b ∈ dig36 u, b ≠ 32 := fun b hb => rev36_blank 14 u b (by simpa [dig36] using hb)
def join36 : List Nat → List UInt8
 | [] => []
 | u :: l => 32 :: (dig36 u ++ join36 l)
theorem span_blank {a b : List UInt8} (ha : ∀ x ∈ a, x ≠ 32) (hb : ∀ x ∈ b, x ≠ 32) {r s : List UInt8} (hr : r = [] ∨ r.head? = some 32) (hs : s = [] ∨ s.head? = some 32) (h : a ++ r = b ++ s) : a = b ∧ r = s := by
 induction a generalizing b with
 | nil =>
  cases b with
  | nil => exact ⟨rfl, by simpa using h⟩
  | cons y b =>
   exfalso
   rw [List.nil_append] at h
   rcases hr with hr | hr
   ·rw [hr] at h; cases h
   ·rw [h] at hr
    simp at hr
    exact hb y (by simp) hr
 | cons x a ih =>
  cases b with
  | nil =>
   exfalso
   rw [List.nil_append] at h
   rcases hs with hs | hs
   ·rw [hs] at h; cases h
   ·rw [← h] at hs
    simp at hs
    exact ha x (by simp) hs
  | cons y b =>
   simp only [List.cons_append, List.cons.injEq] at h
   obtain ⟨h1, h2⟩ := ih (fun z hz => ha z (by simp [hz])) (fun z hz => hb z (by simp [hz])) h.2
   exact ⟨by rw [h.1, h1], h2⟩
theorem join36_head (l : List Nat) : join36 l = [] ∨ (join36 l).head? = some 32 := by
 cases l <;> simp [join36]
theorem join36_inj : ∀ l m : List Nat, (∀ u ∈ l, u < 18446744073709551616) → (∀ u ∈ m, u < 18446744073709551616) → join36 l = join36 m → l = m
 | [], [], _, _, _ => rfl
 | [], v :: m, _, _, h => by simp [join36] at h
 | u :: l, [], _, _, h => by simp [join36] at h
 | u :: l, v :: m, hl, hm, h => by
  simp only [join36, List.cons.injEq, true_and] at h
  obtain ⟨h1, h2⟩ := span_blank (dig36_blank u) (dig36_blank v) (join36_head l) (join36_head m) h
  rw [dig36_inj (hl u (by simp)) (hm v (by simp)) h1, join36_inj l m (fun z hz => hl z (by simp [hz])) (fun z hz => hm z (by simp [hz])) h2]
theorem join36_snoc (u : Nat) : ∀ l : List Nat, join36 (l ++ [u]) = join36 l ++ 32 :: dig36 u
 | [] => by simp [join36]
 | v :: l => by
  simp only [List.cons_append, join36, join36_snoc u l, List.append_assoc]
theorem rev36_len : ∀ f u, (rev36 f u).length ≤ f
 | 0, _ => by simp [rev36]
 | f + 1, u => by
  unfold rev36
  split
  ·simp
  ·have := rev36_len f (u / 36)
   simp; omega
theorem dig36_len (u : Nat) : (dig36 u).length ≤ 14 := by unfold dig36; rw [List.length_reverse]; exact rev36_len _ _
def keyL (r e : Nat) (ws : List Nat) : List UInt8 := dig36 r ++ join36 (e :: ws)
theorem keyL_inj {r e r' e' : Nat} {ws ws' : List Nat} (h1 : r < 18446744073709551616) (h2 : r' < 18446744073709551616) (h3 : ∀ u ∈ e :: ws, u < 18446744073709551616) (h4 : ∀ u ∈ e' :: ws', u < 18446744073709551616) (h : keyL r e ws = keyL r' e' ws') : r = r' ∧ e = e' ∧ ws = ws' := by
 obtain ⟨k1, k2⟩ := span_blank (dig36_blank r) (dig36_blank r') (join36_head _) (join36_head _) h
 have k3 := join36_inj _ _ h3 h4 k2
 injection k3 with k3 k4
 exact ⟨dig36_inj h1 h2 k1, k3, k4⟩
def wordN (x j : Nat) : Nat := x / 2 ^ (64 * j) % 2 ^ 64
theorem zym (x j i : Nat) : (wordN x j).testBit i = (decide (i < 64) && x.testBit (64 * j + i)) := by
 unfold wordN
 rw [Nat.testBit_mod_two_pow, ← Nat.shiftRight_eq_div_pow, Nat.testBit_shiftRight]
theorem wordN_lt (x j : Nat) : wordN x j < 2 ^ 64 := Nat.mod_lt _ (by decide)
theorem wordN_lt' (x j : Nat) : wordN x j < 18446744073709551616 := wordN_lt x j
def zqu (x k : Nat) : List Nat := (List.range k).map (wordN x)
theorem zqz (x k : Nat) : (zqu x k).length = k := by simp [zqu]
theorem wordsN_get (x k j : Nat) (h : j < (zqu x k).length) : (zqu x k)[j] = wordN x j := by simp [zqu]
theorem zzc (x n i : Nat) : (x ||| 2 ^ n).testBit i = (x.testBit i || decide (n = i)) := by rw [Nat.testBit_or, Nat.testBit_two_pow]
theorem wordN_add (x n j : Nat) : wordN (x ||| 2 ^ n) j = if j = n / 64 then wordN x j ||| 2 ^ (n % 64) else wordN x j := by
 apply Nat.eq_of_testBit_eq
 intro i
 rw [zym, zzc]
 split
 ·rename_i h
  rw [zzc, zym]
  by_cases hi : i < 64
  ·simp only [hi, decide_true, Bool.true_and]
   congr 1
   rw [decide_eq_decide]
   omega
  ·have : ¬ n % 64 = i := by omega
   simp [hi, this]
 ·rename_i h
  rw [zym]
  by_cases hi : i < 64
  ·have : ¬ n = 64 * j + i := by omega
   simp [hi, this]
  ·simp [hi]
theorem words_add (x k n : Nat) : (zqu x k).set (n / 64) (wordN x (n / 64) ||| 2 ^ (n % 64)) = zqu (x ||| 2 ^ n) k := by
 apply List.ext_getElem
 ·simp [zqu]
 ·intro i h1 h2
  rw [List.getElem_set, wordsN_get, wordsN_get, wordN_add]
  by_cases h : n / 64 = i
  ·subst h; simp
  ·have : ¬ i = n / 64 := fun e => h e.symm
   simp [h, this]
theorem has_word (x n : Nat) : (wordN x (n / 64)).testBit (n % 64) = x.testBit n := by
 rw [zym]
 have h1 : n % 64 < 64 := by omega
 have h2 : 64 * (n / 64) + n % 64 = n := by omega
 simp [h1, h2]
theorem wordsN_zero (k : Nat) : zqu 0 k = List.replicate k 0 := by
 apply List.ext_getElem
 ·simp [zqu]
 ·intro i h1 h2
  simp [zqu, wordN]
theorem wordsN_inj {x y k : Nat} (hx : x < 2 ^ (64 * k)) (hy : y < 2 ^ (64 * k)) (h : zqu x k = zqu y k) : x = y := by
 apply Nat.eq_of_testBit_eq
 intro i
 by_cases hi : i < 64 * k
 ·have hj : i / 64 < k := by omega
  have e : wordN x (i / 64) = wordN y (i / 64) := by
   have h1 := wordsN_get x k (i / 64) (by rw [zqz]; exact hj)
   have h2 := wordsN_get y k (i / 64) (by rw [zqz]; exact hj)
   rw [← h1, ← h2]
   congr 1
  rw [← has_word x i, ← has_word y i, e]
 ·rw [Nat.testBit_lt_two_pow (Nat.lt_of_lt_of_le hx (Nat.pow_le_pow_right (by decide) (by omega))), Nat.testBit_lt_two_pow (Nat.lt_of_lt_of_le hy (Nat.pow_le_pow_right (by decide) (by omega)))]
def zzj (x n : Nat) : List Nat := (List.range n).filter x.testBit
theorem zyd (x n : Nat) : zzj x (n + 1) = if x.testBit n then zzj x n ++ [n] else zzj x n := by
 unfold zzj
 rw [List.range_succ, List.filter_append]
 cases h : x.testBit n <;> simp [h]
theorem bitsTo_skip (x a d : Nat) (h : ∀ i, a ≤ i → i < a + d → x.testBit i = false) : zzj x (a + d) = zzj x a := by
 induction d with
 | zero => rfl
 | succ d ih =>
  rw [← Nat.add_assoc, zyd, h (a + d) (by omega) (by omega), if_neg (by simp)]
  exact ih fun i h1 h2 => h i h1 (by omega)
theorem bitsTo_prefix (x a d : Nat) : zzj x a <+: zzj x (a + d) := by
 induction d with
 | zero => exact List.prefix_refl _
 | succ d ih =>
  rw [← Nat.add_assoc, zyd]
  split
  ·exact ih.trans (List.prefix_append _ _)
  ·exact ih
theorem mem_bitsTo (x n i : Nat) : i ∈ zzj x n ↔ i < n ∧ x.testBit i = true := by simp [zzj]
theorem bitsTo_length (x n : Nat) : (zzj x n).length ≤ n := by
 have := List.length_filter_le x.testBit (List.range n)
 simpa [zzj] using this
def LowBit (w t : Nat) : Prop := w.testBit t = true ∧ ∀ i, i < t → w.testBit i = false
theorem low_exists (w : Nat) (h : w ≠ 0) : ∃ t, LowBit w t := by
 have key : ∀ n, (∃ i, i < n ∧ w.testBit i = true) → ∃ t, LowBit w t := by
  intro n
  induction n with
  | zero => rintro ⟨i, h, _⟩; omega
  | succ n ih =>
   rintro ⟨i, h1, h2⟩
   by_cases hn : ∃ i, i < n ∧ w.testBit i = true
   ·exact ih hn
   ·have : i = n := by
     by_cases e : i = n
     ·exact e
     ·exact (hn ⟨i, by omega, h2⟩).elim
    subst this
    refine ⟨i, h2, fun j hj => ?_⟩
    cases hb : w.testBit j with
    | false => rfl
    | true => exact (hn ⟨j, hj, hb⟩).elim
 obtain ⟨i, hi⟩ := Nat.exists_testBit_of_ne_zero h
 exact key (i + 1) ⟨i, by omega, hi⟩
theorem low_form {w t : Nat} (h : LowBit w t) : w = 2 ^ (t + 1) * (w / 2 ^ (t + 1)) + 2 ^ t := by
 have e : w % 2 ^ (t + 1) = 2 ^ t := by
  apply Nat.eq_of_testBit_eq
  intro i
  rw [Nat.testBit_mod_two_pow, Nat.testBit_two_pow]
  by_cases h1 : i < t
  ·have : ¬ t = i := by omega
   rw [h.2 i h1]
   simp [this]
  ·by_cases h2 : t = i
   ·subst h2
    rw [h.1]
    simp
   ·have : ¬ i < t + 1 := by omega
    simp [this, h2]
 have := Nat.div_add_mod w (2 ^ (t + 1))
 omega
theorem low_and_pred {w t : Nat} (h : LowBit w t) (i : Nat) : (w &&& (w - 1)).testBit i = (w.testBit i && !decide (i = t)) := by
 have hf := low_form h
 obtain ⟨m, hm⟩ : ∃ m, m = w / 2 ^ (t + 1) := ⟨_, rfl⟩
 rw [← hm] at hf
 have hp : 0 < 2 ^ t := Nat.two_pow_pos t
 have hlt : 2 ^ t < 2 ^ (t + 1) := Nat.pow_lt_pow_right (by decide) (by omega)
 have e1 : w - 1 = 2 ^ (t + 1) * m + (2 ^ t - 1) := by omega
 rw [Nat.testBit_and, e1]
 have h1 := Nat.testBit_two_pow_mul_add m hlt i
 have h2 := Nat.testBit_two_pow_mul_add m (show 2 ^ t - 1 < 2 ^ (t + 1) by omega) i
 rw [← hf] at h1
 rw [h1, h2, Nat.testBit_two_pow, Nat.testBit_two_pow_sub_one]
 by_cases hi : i < t + 1
 ·simp only [hi, if_true]
  by_cases hit : i = t
  ·subst hit; simp
  ·have : ¬ t = i := fun e => hit e.symm
   simp [this]
 ·have : ¬ i = t := by omega
  simp [hi, this]
theorem low_and_neg {w t : Nat} (h : LowBit w t) (hw : w < 2 ^ 64) : w &&& (2 ^ 64 - w) = 2 ^ t := by
 have hf := low_form h
 obtain ⟨m, hm⟩ : ∃ m, m = w / 2 ^ (t + 1) := ⟨_, rfl⟩
 rw [← hm] at hf
 have ht : t < 64 := by
  refine Classical.byContradiction fun hn => ?_
  have h2 := Nat.testBit_lt_two_pow (Nat.lt_of_lt_of_le hw (Nat.pow_le_pow_right (show 0 < 2 by decide) (show 64 ≤ t by omega)))
  rw [h.1] at h2
  cases h2
 have hlt : 2 ^ t < 2 ^ (t + 1) := Nat.pow_lt_pow_right (by decide) (by omega)
 have hsplit : (2 : Nat) ^ 64 = 2 ^ (t + 1) * 2 ^ (63 - t) := by rw [← Nat.pow_add]; congr 1; omega
 have hmm : m < 2 ^ (63 - t) := by
  refine Classical.byContradiction fun hn => ?_
  have := Nat.mul_le_mul_left (2 ^ (t + 1)) (Nat.le_of_not_lt hn)
  omega
 have hps : (2 : Nat) ^ (t + 1) = 2 ^ t + 2 ^ t := by rw [Nat.pow_succ]; omega
 have e2 : 2 ^ 64 - w = 2 ^ (t + 1) * (2 ^ (63 - t) - (m + 1)) + 2 ^ t := by
  rw [Nat.mul_sub, ← hsplit, Nat.mul_add, Nat.mul_one]
  have h5 : 2 ^ (t + 1) * (m + 1) ≤ 2 ^ (t + 1) * 2 ^ (63 - t) := Nat.mul_le_mul_left _ hmm
  rw [← hsplit, Nat.mul_add, Nat.mul_one] at h5
  omega
 apply Nat.eq_of_testBit_eq
 intro i
 rw [Nat.testBit_and, e2]
 have h1 := Nat.testBit_two_pow_mul_add m hlt i
 rw [← hf] at h1
 rw [h1, Nat.testBit_two_pow_mul_add _ hlt i, Nat.testBit_two_pow]
 by_cases hi : i < t + 1
 ·simp [hi]
 ·have : ¬ t = i := by omega
  simp only [hi, if_false, this, decide_false]
  rw [Nat.testBit_two_pow_sub_succ hmm]
  cases m.testBit (i - (t + 1)) <;> simp
open Classical in
noncomputable def ofPred (p : Nat → Prop) : Nat → Nat
 | 0 => 0
 | n + 1 => if p n then ofPred p n ||| 2 ^ n else ofPred p n
theorem ofPred_bit (p : Nat → Prop) (n i : Nat) : (ofPred p n).testBit i = true ↔ i < n ∧ p i := by
 induction n with
 | zero => simp [ofPred]
 | succ n ih =>
  unfold ofPred
  split
  ·rename_i h
   rw [zzc, Bool.or_eq_true, ih, decide_eq_true_eq]
   constructor
   ·rintro (h1 | rfl)
    ·exact ⟨by omega, h1.2⟩
    ·exact ⟨by omega, h⟩
   ·rintro ⟨h1, h2⟩
    by_cases e : n = i
    ·exact .inr e
    ·exact .inl ⟨by omega, h2⟩
  ·rename_i h
   rw [ih]
   constructor
   ·rintro ⟨h1, h2⟩; exact ⟨by omega, h2⟩
   ·rintro ⟨h1, h2⟩
    by_cases e : n = i
    ·subst e; exact (h h2).elim
    ·exact ⟨by omega, h2⟩
theorem bits_ext {x y : Nat} (h : ∀ i, x.testBit i = true ↔ y.testBit i = true) : x = y := by
 apply Nat.eq_of_testBit_eq
 intro i
 rw [Bool.eq_iff_iff]
 exact h i
def may (b e : Bool) (d : Edg) : Bool := d.kd == 1 || (b && d.kd == 3) || (e && d.kd == 4)
inductive Reach (E : List Edg) (b e : Bool) (x : Nat) : Nat → Prop
 | base {n : Nat} : x.testBit n = true → Reach E b e x n
 | step {d : Edg} : d ∈ E → may b e d = true → Reach E b e x d.fr.toNat → Reach E b e x d.tt.toNat
noncomputable def zzf (E : List Edg) (N : Nat) (b e : Bool) (x : Nat) : Nat := ofPred (Reach E b e x) N
structure Fits (N : Nat) (E : List Edg) (R : List Nat) : Prop where
 one : 1 ≤ N
 rules : R.length = N
 kinds : ∀ d ∈ E, 1 ≤ d.kd ∧ d.kd ≤ 4
 fr : ∀ d ∈ E, 0 ≤ d.fr ∧ d.fr < N
 tt : ∀ d ∈ E, 0 ≤ d.tt ∧ d.tt < N
 sets : ∀ d ∈ E, d.kd ≠ 2 → d.st = 0
def below (x N : Nat) : Prop := ∀ i, x.testBit i = true → i < N
theorem reach_lt {E : List Edg} {N x : Nat} {b e : Bool} (hE : ∀ d ∈ E, 0 ≤ d.tt ∧ d.tt < N) (hx : below x N) {n : Nat} (h : Reach E b e x n) : n < N := by
 induction h with
 | base h => exact hx _ h
 | step hd _ _ _ => have := hE _ hd; omega
theorem spread_bit {E : List Edg} {N x : Nat} {b e : Bool} (hE : ∀ d ∈ E, 0 ≤ d.tt ∧ d.tt < N) (hx : below x N) (i : Nat) : (zzf E N b e x).testBit i = true ↔ Reach E b e x i := by
 unfold zzf
 rw [ofPred_bit]
 exact ⟨fun h => h.2, fun h => ⟨reach_lt hE hx h, h⟩⟩
theorem spread_below (E : List Edg) (N x : Nat) (b e : Bool) : below (zzf E N b e x) N := fun i hi => ((ofPred_bit _ N i).1 hi).1
theorem below_or {x y N : Nat} (hx : below x N) (hy : below y N) : below (x ||| y) N := fun i hi => by
 rw [Nat.testBit_or, Bool.or_eq_true] at hi
 exact hi.elim (hx i) (hy i)
theorem below_pow {n N : Nat} (h : n < N) : below (2 ^ n) N := fun i hi => by
 rw [Nat.testBit_two_pow, decide_eq_true_eq] at hi
 omega
theorem below_zero (N : Nat) : below 0 N := fun i hi => by simp at hi
theorem below_lt {x N : Nat} (h : below x N) : x < 2 ^ N := by
 refine Classical.byContradiction fun hn => ?_
 obtain ⟨i, hi1, hi2⟩ := Nat.exists_ge_and_testBit_of_ge_two_pow (Nat.le_of_not_lt hn)
 have := h i hi2
 omega
theorem spread_is {E : List Edg} {N x y : Nat} {b e : Bool} (hE : ∀ d ∈ E, 0 ≤ d.tt ∧ d.tt < N) (hx : below x N) (h1 : ∀ i, x.testBit i = true → y.testBit i = true)
  (h2 : ∀ d ∈ E, may b e d = true → y.testBit d.fr.toNat = true → y.testBit d.tt.toNat = true) (h3 : ∀ i, y.testBit i = true → Reach E b e x i) : y = zzf E N b e x := by
 apply bits_ext
 intro i
 rw [spread_bit hE hx]
 refine ⟨h3 i, fun h => ?_⟩
 induction h with
 | base h => exact h1 _ h
 | step hd hm _ ih => exact h2 _ hd hm ih
def metN (R : List Nat) (x N : Nat) : Nat := (zzj x N).foldl (fun r n => r ||| R.getD n 0) 0
theorem foldl_or_bit (R : List Nat) (j : Nat) : ∀ (l : List Nat) (r : Nat), (l.foldl (fun r n => r ||| R.getD n 0) r).testBit j = (r.testBit j || l.any fun n => (R.getD n 0).testBit j)
 | [], r => by simp
 | n :: l, r => by rw [List.foldl_cons, foldl_or_bit R j l, Nat.testBit_or, List.any_cons, Bool.or_assoc]
theorem met_bit (R : List Nat) (x N j : Nat) : (metN R x N).testBit j = true ↔ ∃ n, n < N ∧ x.testBit n = true ∧ (R.getD n 0).testBit j = true := by
 unfold metN
 rw [foldl_or_bit]
 simp only [Nat.zero_testBit, Bool.false_or, List.any_eq_true]
 constructor
 ·rintro ⟨n, hn, h⟩
  rw [mem_bitsTo] at hn
  exact ⟨n, hn.1, hn.2, h⟩
 ·rintro ⟨n, h1, h2, h3⟩
  exact ⟨n, (mem_bitsTo _ _ _).2 ⟨h1, h2⟩, h3⟩
theorem met_lt {R : List Nat} (hR : ∀ r ∈ R, r < 2 ^ 32) (x N : Nat) : metN R x N < 2 ^ 32 := by
 refine below_lt fun j hj => ?_
 obtain ⟨n, _, _, h⟩ := (met_bit R x N j).1 hj
 refine Classical.byContradiction fun hn => ?_
 by_cases hl : n < R.length
 ·rw [List.getD_eq_getElem?_getD, List.getElem?_eq_getElem hl, Option.getD_some] at h
  have h2 := Nat.testBit_lt_two_pow (Nat.lt_of_lt_of_le (hR _ (List.getElem_mem hl)) (Nat.pow_le_pow_right (by decide) (show 32 ≤ j by omega)))
  rw [h] at h2
  cases h2
 ·simp [List.getD, List.getElem?_eq_none (Nat.le_of_not_lt hl)] at h
noncomputable def byteN (E : List Edg) (N x c : Nat) : Nat := ofPred (fun t => t = 0 ∨ ∃ d ∈ E, d.kd = 2 ∧ x.testBit d.fr.toNat = true ∧ d.st.getLsbD c = true ∧ d.tt.toNat = t) N
theorem byte_bit (E : List Edg) (N x c i : Nat) : (byteN E N x c).testBit i = true ↔ i < N ∧ (i = 0 ∨ ∃ d ∈ E, d.kd = 2 ∧ x.testBit d.fr.toNat = true ∧ d.st.getLsbD c = true ∧ d.tt.toNat = i) := ofPred_bit _ N i
theorem byte_below (E : List Edg) (N x c : Nat) : below (byteN E N x c) N := fun i hi => ((byte_bit E N x c i).1 hi).1
structure Wk where
 at_ : Nat
 met : Nat
 first : Bool
noncomputable def begW (E : List Edg) (N : Nat) (R : List Nat) : Wk := ⟨zzf E N true false 1, metN R (zzf E N true false 1) N, true⟩
noncomputable def byteW (E : List Edg) (N : Nat) (R : List Nat) (k : Wk) (c : Nat) : Wk :=
 ⟨zzf E N false false (byteN E N k.at_ c), k.met ||| metN R (zzf E N false false (byteN E N k.at_ c)) N, false⟩
noncomputable def endW (E : List Edg) (N : Nat) (R : List Nat) (k : Wk) : Nat := k.met ||| metN R (zzf E N k.first true k.at_) N
inductive Nd where
 | mk (kd : Int) (st : BSet) (subs : List Nd) (mi ma : Int)
theorem Nd.ind {p : Nd → Prop} (h : ∀ k s l a b, (∀ x ∈ l, p x) → p (.mk k s l a b)) : ∀ n, p n
 | .mk k s l a b => h k s l a b (fun x hx => Nd.ind h x)
termination_by n => SizeOf.sizeOf n
decreasing_by
 have := List.sizeOf_lt_of_mem hx
 simp only [Nd.mk.sizeOf_spec]
 omega
def headOk (k : Int) (st : BSet) (n : Nat) (a b : Int) : Bool :=
 if k = 1 ∨ k = 6 ∨ k = 7 then decide (st = 0) && decide (a = 0) && decide (b = 0) && decide (n = 0)
 else if k = 2 then !st.getLsbD 10 && decide (a = 0) && decide (b = 0) && decide (n = 0)
 else if k = 3 ∨ k = 4 then decide (st = 0) && decide (a = 0) && decide (b = 0) && decide (2 ≤ n)
 else if k = 5 then decide (st = 0) && decide (n = 1) && decide (0 ≤ a) && decide (a ≤ 255) && (decide (b = -1) || (decide (a ≤ b) && decide (b ≤ 255)))
 else false
theorem headOk_1 {k : Int} (h : k = 1 ∨ k = 6 ∨ k = 7) {st : BSet} {z : Bool} (hz : decide (st = 0) = z) (n : Nat) (a b : Int) : headOk k st n a b = (z && decide (a = 0) && decide (b = 0) && decide (n = 0)) := by
 unfold headOk; rw [if_pos h, hz]
theorem headOk_2 {st : BSet} {q : Bool} (hq : st.getLsbD 10 = q) (n : Nat) (a b : Int) : headOk 2 st n a b = (!q && decide (a = 0) && decide (b = 0) && decide (n = 0)) := by
 unfold headOk; rw [if_neg (by omega), if_pos rfl, hq]
theorem headOk_3 {k : Int} (h : k = 3 ∨ k = 4) {st : BSet} {z : Bool} (hz : decide (st = 0) = z) (n : Nat) (a b : Int) : headOk k st n a b = (z && decide (a = 0) && decide (b = 0) && decide (2 ≤ n)) := by
 unfold headOk; rw [if_neg (by omega), if_neg (by omega), if_pos h, hz]
theorem headOk_5 {st : BSet} {z : Bool} (hz : decide (st = 0) = z) (n : Nat) (a b : Int) : headOk 5 st n a b = (z && decide (n = 1) && decide (0 ≤ a) && decide (a ≤ 255) && (decide (b = -1) || (decide (a ≤ b) && decide (b ≤ 255)))) := by
 unfold headOk; rw [if_neg (by omega), if_neg (by omega), if_neg (by omega), if_pos rfl, hz]
mutual
def Nd.isT : Nd → Bool
 | .mk k st l a b => headOk k st l.length a b && Nd.areT l
def Nd.areT : List Nd → Bool
 | [] => true
 | x :: l => x.isT && Nd.areT l
end
theorem Nd.areT_all : ∀ l : List Nd, Nd.areT l = l.all Nd.isT
 | [] => rfl
 | x :: l => by simp [Nd.areT, Nd.areT_all l]
def tU (u : Nat) (a b : Int) : Nat := if u = 0 then 0 else a.toNat * u + (if b = -1 then u + 2 else if a < b then (b - a).toNat * u + 1 else 0)
mutual
def Nd.U : Nd → Nat
 | .mk k _ l a b => if k = 2 ∨ k = 6 ∨ k = 7 then 1 else if k = 3 then Nd.Us l else if k = 4 then l.length + 1 + Nd.Us l else if k = 5 then tU (Nd.Us l) a b else 0
def Nd.Us : List Nd → Nat
 | [] => 0
 | x :: l => x.U + Nd.Us l
end
theorem Nd.Us_append (l m : List Nd) : Nd.Us (l ++ m) = Nd.Us l + Nd.Us m := by
 induction l with
 | nil => simp [Nd.Us]
 | cons x l ih => simp [Nd.Us, ih]; omega
theorem Nd.Us_step (l : List Nd) (k : Nat) (h : k < l.length) : Nd.Us (l.take (k + 1)) = Nd.Us (l.take k) + l[k].U := by
 rw [List.take_succ_eq_append_getElem h, Nd.Us_append]; simp [Nd.Us]
theorem Nd.Us_take (l : List Nd) (k : Nat) : Nd.Us (l.take k) ≤ Nd.Us l := by
 have := Nd.Us_append (l.take k) (l.drop k)
 rw [List.take_append_drop] at this
 omega
theorem tU_cap (C u : Nat) (a b : Int) (hC : 0 < C) : min (tU (min u C) a b) C = min (tU u a b) C := by
 by_cases h : u ≤ C
 ·rw [Nat.min_eq_left h]
 have h1 : min u C = C := by omega
 have e1 : (if C = 0 then 0 else a.toNat * C + (if b = -1 then C + 2 else if a < b then (b - a).toNat * C + 1 else 0)) = a.toNat * C + (if b = -1 then C + 2 else if a < b then (b - a).toNat * C + 1 else 0) := if_neg (by omega)
 have e2 : (if u = 0 then 0 else a.toNat * u + (if b = -1 then u + 2 else if a < b then (b - a).toNat * u + 1 else 0)) = a.toNat * u + (if b = -1 then u + 2 else if a < b then (b - a).toNat * u + 1 else 0) := if_neg (by omega)
 unfold tU
 rw [h1, e1, e2]
 have k : ∀ n : Nat, 0 < n → C ≤ n * C ∧ C ≤ n * u := fun n hn => ⟨Nat.le_mul_of_pos_left C hn, Nat.le_trans (by omega) (Nat.le_mul_of_pos_left u hn)⟩
 rcases Nat.eq_zero_or_pos a.toNat with h0 | h0
 ·rw [h0, Nat.zero_mul, Nat.zero_mul]
  by_cases hb : b = -1
  ·rw [if_pos hb, if_pos hb]; omega
  ·rw [if_neg hb, if_neg hb]
   by_cases hab : a < b
   ·rw [if_pos hab, if_pos hab]
    have := k (b - a).toNat (by omega)
    omega
   ·rw [if_neg hab, if_neg hab]
 ·have := k _ h0
  omega
theorem tU_zero (u : Nat) (a b : Int) (h : tU u a b = 0) (h0 : 0 ≤ a) (hb : b = -1 ∨ a < b) : u = 0 := by
 unfold tU at h
 by_cases hu : u = 0
 ·exact hu
 rw [if_neg hu] at h
 rcases hb with rfl | hb
 ·rw [if_pos rfl] at h; omega
 ·rw [if_pos hb] at h
  split at h <;> omega
theorem tU_int {q : Nat} {mi ma : Int} (h0 : 0 ≤ mi) (hq : ¬ q = 0) : ((tU q mi ma : Nat) : Int) = mi * (q : Int) + (if ma = -1 then (q : Int) + 2 else if mi < ma then (ma - mi) * (q : Int) + 1 else 0) := by
 unfold tU
 rw [if_neg hq]
 by_cases h1 : ma = -1
 ·rw [if_pos h1, if_pos h1, Int.natCast_add, Int.natCast_mul, Int.toNat_of_nonneg h0]; rfl
 ·rw [if_neg h1, if_neg h1]
  by_cases h2 : mi < ma
  ·rw [if_pos h2, if_pos h2, Int.natCast_add, Int.natCast_mul, Int.toNat_of_nonneg h0, Int.natCast_add, Int.natCast_mul, Int.toNat_of_nonneg (by omega)]; rfl
  ·rw [if_neg h2, if_neg h2, Int.natCast_add, Int.natCast_mul, Int.toNat_of_nonneg h0]; rfl
theorem mul_bound {q : Nat} {a : Int} (h0 : 0 ≤ a) (h1 : a ≤ 256) (hq : q ≤ 4096) : 0 ≤ a * (q : Int) ∧ a * (q : Int) ≤ 1048576 := by
 have := Int.mul_le_mul h1 (show (q : Int) ≤ 4096 by omega) (by omega) (by omega)
 exact ⟨Int.mul_nonneg h0 (by omega), by omega⟩
structure Ly where
 s : Nat
 e : List Edg
def Ly.new (m : Ly) : Ly := ⟨m.s + 1, m.e⟩
def Ly.edge (m : Ly) (kd : Int) (fr tt : Nat) (st : BSet) : Ly := ⟨m.s, m.e ++ [⟨kd, fr, tt, st⟩]⟩
def Ly.free (m : Ly) (fr tt : Nat) : Ly := m.edge 1 fr tt 0
def Ly.over (m : Ly) (kd : Int) (a : Nat) (st : BSet) : Ly × Nat := (m.new.edge kd a m.s st, m.s)
def Ly.frees (m : Ly) (z : Nat) (ends : List Nat) : Ly := ends.foldl (fun m s => m.free s z) m
def Ly.joined (m : Ly) (ends : List Nat) : Ly × Nat := (m.new.frees m.s ends, m.s)
theorem Ly.frees_snoc (m : Ly) (z : Nat) (l : List Nat) (k : Nat) (h : k < l.length) : m.frees z (l.take (k + 1)) = (m.frees z (l.take k)).free l[k] z := by
 unfold Ly.frees
 rw [List.take_succ_eq_append_getElem h, List.foldl_append]
 rfl
theorem Ly.frees_s (z : Nat) : ∀ (l : List Nat) (m : Ly), (m.frees z l).s = m.s
 | [], m => rfl
 | x :: l, m => (Ly.frees_s z l (m.free x z)).trans rfl
theorem Ly.frees_e (z : Nat) : ∀ (l : List Nat) (m : Ly), (m.frees z l).e.length = m.e.length + l.length
 | [], m => rfl
 | x :: l, m => by
  have := Ly.frees_e z l (m.free x z)
  have h2 : (m.free x z).e.length = m.e.length + 1 := by simp [Ly.free, Ly.edge]
  show ((m.free x z).frees z l).e.length = _
  rw [this, h2, List.length_cons]; omega
abbrev LayF := Ly → Nat → Ly × Nat
def altS (f : LayF) (a : Nat) (r : Ly × List Nat) : Ly × List Nat := ((f (r.1.new.free a r.1.s) r.1.s).1, r.2 ++ [(f (r.1.new.free a r.1.s) r.1.s).2])
def reps (f : LayF) : Nat → Ly × Nat → Ly × Nat
 | 0, r => r
 | n + 1, r => f (reps f n r).1 (reps f n r).2
def opts (f : LayF) : Nat → (Ly × Nat) × List Nat → (Ly × Nat) × List Nat
 | 0, r => r
 | n + 1, r => (f (opts f n r).1.1 (opts f n r).1.2, (opts f n r).2 ++ [(f (opts f n r).1.1 (opts f n r).1.2).2])
def zzy (f : LayF) (u : Nat) (mi ma : Int) (m : Ly) (a : Nat) : Ly × Nat :=
 if u = 0 then (m, a) else
 if ma = -1 then
  let q := reps f mi.toNat (m, a)
  let p := f (q.1.new.free q.2 q.1.s) q.1.s
  (p.1.free p.2 q.1.s).joined [q.1.s]
 else if mi < ma then
  let q := reps f mi.toNat (m, a)
  let o := opts f (ma - mi).toNat (q, [q.2])
  o.1.1.joined o.2
 else reps f mi.toNat (m, a)
mutual
def Nd.lay : Nd → LayF
 | .mk k st l mi ma => fun m a =>
  if k = 2 then m.over 2 a st else if k = 6 then m.over 3 a 0 else if k = 7 then m.over 4 a 0
  else if k = 3 then Nd.row l (m, a)
  else if k = 4 then (Nd.alt l a (m, [])).1.joined (Nd.alt l a (m, [])).2
  else if k = 5 then Nd.tim l mi ma m a
  else (m, a)
def Nd.row : List Nd → Ly × Nat → Ly × Nat
 | [] => fun r => r
 | x :: l => fun r => Nd.row l (x.lay r.1 r.2)
def Nd.alt : List Nd → Nat → Ly × List Nat → Ly × List Nat
 | [] => fun _ r => r
 | x :: l => fun a r => Nd.alt l a (altS x.lay a r)
def Nd.tim : List Nd → Int → Int → LayF
 | [] => fun _ _ m a => (m, a)
 | x :: _ => fun mi ma m a => zzy x.lay x.U mi ma m a
end
theorem Nd.row_append : ∀ (l k : List Nd) (r : Ly × Nat), Nd.row (l ++ k) r = Nd.row k (Nd.row l r)
 | [], k, r => by simp [Nd.row]
 | x :: l, k, r => by simp only [List.cons_append, Nd.row]; exact Nd.row_append l k _
theorem Nd.row_step (l : List Nd) (r : Ly × Nat) (k : Nat) (h : k < l.length) : Nd.row (l.take (k + 1)) r = l[k].lay (Nd.row (l.take k) r).1 (Nd.row (l.take k) r).2 := by
 rw [List.take_succ_eq_append_getElem h, Nd.row_append]
 simp only [Nd.row]
theorem Nd.alt_append : ∀ (l k : List Nd) (a : Nat) (r : Ly × List Nat), Nd.alt (l ++ k) a r = Nd.alt k a (Nd.alt l a r)
 | [], k, a, r => by simp [Nd.alt]
 | x :: l, k, a, r => by simp only [List.cons_append, Nd.alt]; exact Nd.alt_append l k a _
theorem Nd.alt_step (l : List Nd) (a : Nat) (r : Ly × List Nat) (k : Nat) (h : k < l.length) : Nd.alt (l.take (k + 1)) a r = altS l[k].lay a (Nd.alt (l.take k) a r) := by
 rw [List.take_succ_eq_append_getElem h, Nd.alt_append]
 simp only [Nd.alt]
structure GoodF (f : LayF) (u : Nat) : Prop where
 st : ∀ m a, (f m a).1.s = m.s + u
 ed : ∀ m a, (f m a).1.e.length ≤ m.e.length + (3 * u - 1)
 at_ : ∀ m a, a < m.s → (f m a).2 < (f m a).1.s
theorem GoodF.nil : GoodF (fun m a => (m, a)) 0 := ⟨fun _ _ => rfl, fun _ _ => Nat.le_refl _, fun _ _ h => h⟩
theorem GoodF.over (kd : Int) (st : BSet) : GoodF (fun m a => m.over kd a st) 1 :=
 ⟨fun _ _ => rfl, fun m a => by simp [Ly.over, Ly.new, Ly.edge], fun m a h => by simp [Ly.over, Ly.new, Ly.edge]⟩
theorem joined_s (m : Ly) (l : List Nat) : (m.joined l).1.s = m.s + 1 := by unfold Ly.joined; rw [Ly.frees_s]; rfl
theorem joined_e (m : Ly) (l : List Nat) : (m.joined l).1.e.length = m.e.length + l.length := by unfold Ly.joined; rw [Ly.frees_e]; rfl
section
variable {f : LayF} {u : Nat}
theorem GoodF.reps_s (h : GoodF f u) (r : Ly × Nat) : ∀ n, (reps f n r).1.s = r.1.s + n * u
 | 0 => by simp [reps]
 | n + 1 => by rw [reps, h.st, h.reps_s r n, Nat.add_mul]; omega
theorem GoodF.reps_e (h : GoodF f u) (r : Ly × Nat) : ∀ n, (reps f n r).1.e.length ≤ r.1.e.length + n * (3 * u - 1)
 | 0 => by simp [reps]
 | n + 1 => by
  have h1 := h.ed (reps f n r).1 (reps f n r).2
  have h2 := h.reps_e r n
  rw [Nat.add_mul, Nat.one_mul]
  unfold reps
  omega
theorem GoodF.reps_at (h : GoodF f u) (r : Ly × Nat) (hr : r.2 < r.1.s) : ∀ n, (reps f n r).2 < (reps f n r).1.s
 | 0 => hr
 | n + 1 => h.at_ _ _ (h.reps_at r hr n)
theorem GoodF.opts_s (h : GoodF f u) (r : (Ly × Nat) × List Nat) : ∀ n, (opts f n r).1.1.s = r.1.1.s + n * u
 | 0 => by simp [opts]
 | n + 1 => by unfold opts; simp only; rw [h.st, h.opts_s r n, Nat.add_mul]; omega
theorem GoodF.opts_e (h : GoodF f u) (r : (Ly × Nat) × List Nat) : ∀ n, (opts f n r).1.1.e.length ≤ r.1.1.e.length + n * (3 * u - 1)
 | 0 => by simp [opts]
 | n + 1 => by
  have h1 := h.ed (opts f n r).1.1 (opts f n r).1.2
  have h2 := h.opts_e r n
  rw [Nat.add_mul, Nat.one_mul]
  unfold opts
  simp only
  omega
theorem opts_len (r : (Ly × Nat) × List Nat) : ∀ n, (opts f n r).2.length = r.2.length + n
 | 0 => by simp [opts]
 | n + 1 => by unfold opts; simp only [List.length_append, opts_len r n, List.length_cons, List.length_nil]; omega
theorem mul_three (n u : Nat) (hu : 0 < u) : n * (3 * u - 1) + n = 3 * (n * u) := by
 obtain ⟨v, rfl⟩ : ∃ v, u = v + 1 := ⟨u - 1, by omega⟩
 rw [show 3 * (v + 1) - 1 = 3 * v + 2 by omega, Nat.mul_add, Nat.mul_add, Nat.mul_left_comm n 3 v]
 omega
theorem GoodF.times (h : GoodF f u) (mi ma : Int) (h0 : 0 ≤ mi) (hm : ma = -1 ∨ mi ≤ ma) : GoodF (zzy f u mi ma) (tU u mi ma) := by
 by_cases hu : u = 0
 ·have e1 : zzy f u mi ma = fun m a => (m, a) := by funext m a; unfold zzy; rw [if_pos hu]
  have e2 : tU u mi ma = 0 := by unfold tU; rw [if_pos hu]
  rw [e1, e2]
  exact .nil
 by_cases h1 : ma = -1
 ·have e2 : tU u mi ma = mi.toNat * u + (u + 2) := by unfold tU; rw [if_neg hu, if_pos h1]
  have key : ∀ m a, (zzy f u mi ma m a).1.s = m.s + (mi.toNat * u + (u + 2)) ∧ (zzy f u mi ma m a).1.e.length ≤ m.e.length + (3 * (mi.toNat * u + (u + 2)) - 1) ∧ (zzy f u mi ma m a).2 < (zzy f u mi ma m a).1.s := by
   intro m a
   unfold zzy
   rw [if_neg hu, if_pos h1]
   simp only
   obtain ⟨q, hq⟩ : ∃ q, q = reps f mi.toNat (m, a) := ⟨_, rfl⟩
   rw [← hq]
   have q1 : q.1.s = m.s + mi.toNat * u := by rw [hq]; exact h.reps_s (m, a) _
   have q2 : q.1.e.length ≤ m.e.length + mi.toNat * (3 * u - 1) := by rw [hq]; exact h.reps_e (m, a) _
   have p1 := h.st (q.1.new.free q.2 q.1.s) q.1.s
   have p2 := h.ed (q.1.new.free q.2 q.1.s) q.1.s
   have n1 : (q.1.new.free q.2 q.1.s).s = q.1.s + 1 := rfl
   have n2 : (q.1.new.free q.2 q.1.s).e.length = q.1.e.length + 1 := by simp [Ly.free, Ly.edge, Ly.new]
   have n3 : ∀ (p : Ly) (x y : Nat), (p.free x y).s = p.s ∧ (p.free x y).e.length = p.e.length + 1 := fun p x y => ⟨rfl, by simp [Ly.free, Ly.edge]⟩
   have mt := mul_three mi.toNat u (by omega)
   refine ⟨?_, ?_, ?_⟩
   ·rw [joined_s, (n3 _ _ _).1, p1, n1, q1]; omega
   ·rw [joined_e, (n3 _ _ _).2, List.length_cons, List.length_nil]
    omega
   ·rw [joined_s, (n3 _ _ _).1]
    unfold Ly.joined
    simp only [(n3 _ _ _).1]
    omega
  rw [e2]
  exact ⟨fun m a => (key m a).1, fun m a => (key m a).2.1, fun m a _ => (key m a).2.2⟩
 have hm2 : mi ≤ ma := by rcases hm with hm | hm <;> omega
 by_cases h2 : mi < ma
 ·have e2 : tU u mi ma = mi.toNat * u + ((ma - mi).toNat * u + 1) := by unfold tU; rw [if_neg hu, if_neg h1, if_pos h2]
  have key : ∀ m a, (zzy f u mi ma m a).1.s = m.s + (mi.toNat * u + ((ma - mi).toNat * u + 1)) ∧ (zzy f u mi ma m a).1.e.length ≤ m.e.length + (3 * (mi.toNat * u + ((ma - mi).toNat * u + 1)) - 1) ∧ (zzy f u mi ma m a).2 < (zzy f u mi ma m a).1.s := by
   intro m a
   unfold zzy
   rw [if_neg hu, if_neg h1, if_pos h2]
   simp only
   obtain ⟨q, hq⟩ : ∃ q, q = reps f mi.toNat (m, a) := ⟨_, rfl⟩
   rw [← hq]
   have q1 : q.1.s = m.s + mi.toNat * u := by rw [hq]; exact h.reps_s (m, a) _
   have q2 : q.1.e.length ≤ m.e.length + mi.toNat * (3 * u - 1) := by rw [hq]; exact h.reps_e (m, a) _
   have p1 := h.opts_s (q, [q.2]) (ma - mi).toNat
   have p2 := h.opts_e (q, [q.2]) (ma - mi).toNat
   have p3 := opts_len (f := f) (q, [q.2]) (ma - mi).toNat
   simp only [List.length_cons, List.length_nil] at p1 p2 p3
   have mt := mul_three mi.toNat u (by omega)
   have mt2 := mul_three (ma - mi).toNat u (by omega)
   refine ⟨?_, ?_, ?_⟩
   ·rw [joined_s, p1, q1]; omega
   ·rw [joined_e, p3]
    omega
   ·rw [joined_s]
    unfold Ly.joined
    simp only
    omega
  rw [e2]
  exact ⟨fun m a => (key m a).1, fun m a => (key m a).2.1, fun m a _ => (key m a).2.2⟩
 ·have e1 : zzy f u mi ma = fun m a => reps f mi.toNat (m, a) := by funext m a; unfold zzy; rw [if_neg hu, if_neg h1, if_neg h2]
  have e2 : tU u mi ma = mi.toNat * u := by unfold tU; rw [if_neg hu, if_neg h1, if_neg h2]; rfl
  rw [e1, e2]
  refine ⟨fun m a => h.reps_s (m, a) _, fun m a => ?_, fun m a ha => h.reps_at (m, a) ha _⟩
  have := h.reps_e (m, a) mi.toNat
  simp only at this
  have mt := mul_three mi.toNat u (by omega)
  rcases Nat.eq_zero_or_pos mi.toNat with hz | hz
  ·rw [hz] at this ⊢
   simp only [Nat.zero_mul] at this ⊢
   omega
  ·omega
end
theorem row_good : ∀ (l : List Nd), (∀ x ∈ l, GoodF x.lay x.U) → GoodF (fun m a => Nd.row l (m, a)) (Nd.Us l)
 | [], _ => by simpa [Nd.row, Nd.Us] using GoodF.nil
 | x :: l, h => by
  have hx := h x (by simp)
  have ih := row_good l (fun y hy => h y (by simp [hy]))
  refine ⟨fun m a => ?_, fun m a => ?_, fun m a ha => ?_⟩
  ·have h1 : (Nd.row l (x.lay m a)).1.s = (x.lay m a).1.s + Nd.Us l := ih.st (x.lay m a).1 (x.lay m a).2
   have h2 := hx.st m a
   simp only [Nd.row, Nd.Us]
   omega
  ·have h1 : (Nd.row l (x.lay m a)).1.e.length ≤ (x.lay m a).1.e.length + (3 * Nd.Us l - 1) := ih.ed (x.lay m a).1 (x.lay m a).2
   have h2 := hx.ed m a
   simp only [Nd.row, Nd.Us]
   omega
  ·have h2 := ih.at_ _ _ (hx.at_ m a ha)
   simp only [Nd.row] at h2 ⊢
   exact h2
theorem alt_good : ∀ (l : List Nd), (∀ x ∈ l, GoodF x.lay x.U) → ∀ a (r : Ly × List Nat), (Nd.alt l a r).1.s = r.1.s + l.length + Nd.Us l ∧ (Nd.alt l a r).1.e.length ≤ r.1.e.length + l.length + 3 * Nd.Us l ∧ (Nd.alt l a r).2.length = r.2.length + l.length
 | [], _, a, r => by simp [Nd.alt, Nd.Us]
 | x :: l, h, a, r => by
  have hx := h x (by simp)
  have ih := alt_good l (fun y hy => h y (by simp [hy])) a (altS x.lay a r)
  have h1 := hx.st (r.1.new.free a r.1.s) r.1.s
  have h2 := hx.ed (r.1.new.free a r.1.s) r.1.s
  have n1 : (r.1.new.free a r.1.s).s = r.1.s + 1 := rfl
  have n2 : (r.1.new.free a r.1.s).e.length = r.1.e.length + 1 := by simp [Ly.free, Ly.edge, Ly.new]
  have n3 : (altS x.lay a r).2.length = r.2.length + 1 := by simp [altS]
  have n4 : (altS x.lay a r).1 = (x.lay (r.1.new.free a r.1.s) r.1.s).1 := rfl
  rw [n4, n3] at ih
  simp only [Nd.alt, Nd.Us, List.length_cons]
  omega
theorem headOk_times {st : BSet} {n : Nat} {a b : Int} (h : headOk 5 st n a b = true) : st = 0 ∧ n = 1 ∧ 0 ≤ a ∧ a ≤ 255 ∧ (b = -1 ∨ (a ≤ b ∧ b ≤ 255)) := by
 unfold headOk at h
 rw [if_neg (by omega), if_neg (by omega), if_neg (by omega), if_pos rfl] at h
 simp only [Bool.and_eq_true, Bool.or_eq_true, decide_eq_true_eq] at h
 exact ⟨h.1.1.1.1, h.1.1.1.2, h.1.1.2, h.1.2, h.2⟩
theorem lay_good : ∀ n : Nd, n.isT = true → GoodF n.lay n.U := by
 intro n
 induction n using Nd.ind with
 | h k st l mi ma ih =>
  intro hT
  simp only [Nd.isT, Bool.and_eq_true, Nd.areT_all, List.all_eq_true] at hT
  obtain ⟨hh, hl⟩ := hT
  have ih' : ∀ x ∈ l, GoodF x.lay x.U := fun x hx => ih x hx (hl x hx)
  by_cases k2 : k = 2
  ·have e1 : (Nd.mk k st l mi ma).lay = fun m a => m.over 2 a st := by funext m a; simp only [Nd.lay, if_pos k2]
   have e2 : (Nd.mk k st l mi ma).U = 1 := by simp only [Nd.U]; rw [if_pos (.inl k2)]
   rw [e1, e2]; exact .over _ _
  by_cases k6 : k = 6
  ·have e1 : (Nd.mk k st l mi ma).lay = fun m a => m.over 3 a 0 := by funext m a; simp only [Nd.lay, if_neg k2, if_pos k6]
   have e2 : (Nd.mk k st l mi ma).U = 1 := by simp only [Nd.U]; rw [if_pos (.inr (.inl k6))]
   rw [e1, e2]; exact .over _ _
  by_cases k7 : k = 7
  ·have e1 : (Nd.mk k st l mi ma).lay = fun m a => m.over 4 a 0 := by funext m a; simp only [Nd.lay, if_neg k2, if_neg k6, if_pos k7]
   have e2 : (Nd.mk k st l mi ma).U = 1 := by simp only [Nd.U]; rw [if_pos (.inr (.inr k7))]
   rw [e1, e2]; exact .over _ _
  have hk : ¬ (k = 2 ∨ k = 6 ∨ k = 7) := by omega
  by_cases k3 : k = 3
  ·have e1 : (Nd.mk k st l mi ma).lay = fun m a => Nd.row l (m, a) := by funext m a; simp only [Nd.lay, if_neg k2, if_neg k6, if_neg k7, if_pos k3]
   have e2 : (Nd.mk k st l mi ma).U = Nd.Us l := by simp only [Nd.U]; rw [if_neg hk, if_pos k3]
   rw [e1, e2]; exact row_good l ih'
  by_cases k4 : k = 4
  ·have e1 : (Nd.mk k st l mi ma).lay = fun m a => (Nd.alt l a (m, [])).1.joined (Nd.alt l a (m, [])).2 := by funext m a; simp only [Nd.lay, if_neg k2, if_neg k6, if_neg k7, if_neg k3, if_pos k4]
   have e2 : (Nd.mk k st l mi ma).U = l.length + 1 + Nd.Us l := by simp only [Nd.U]; rw [if_neg hk, if_neg k3, if_pos k4]
   rw [e1, e2]
   refine ⟨fun m a => ?_, fun m a => ?_, fun m a _ => ?_⟩
   ·have := (alt_good l ih' a (m, [])).1
    rw [joined_s, this]; simp only; omega
   ·have := alt_good l ih' a (m, [])
    rw [joined_e]
    simp only [List.length_nil] at this
    omega
   ·rw [joined_s]; unfold Ly.joined; simp only; omega
  by_cases k5 : k = 5
  ·subst k5
   obtain ⟨_, hn, h0, _, hb⟩ := headOk_times hh
   obtain ⟨x, rfl⟩ := List.length_eq_one_iff.1 hn
   have e1 : (Nd.mk 5 st [x] mi ma).lay = zzy x.lay x.U mi ma := by funext m a; simp only [Nd.lay, if_neg k2, if_neg k6, if_neg k7, if_neg k3, if_neg k4, if_true, Nd.tim]
   have e2 : (Nd.mk 5 st [x] mi ma).U = tU x.U mi ma := by simp only [Nd.U, Nd.Us]; rw [if_neg hk, if_neg k3, if_neg k4, if_pos trivial, Nat.add_zero]
   rw [e1, e2]
   exact (ih' x (by simp)).times mi ma h0 (by omega)
  ·have e1 : (Nd.mk k st l mi ma).lay = fun m a => (m, a) := by funext m a; simp only [Nd.lay, if_neg k2, if_neg k6, if_neg k7, if_neg k3, if_neg k4, if_neg k5]
   have e2 : (Nd.mk k st l mi ma).U = 0 := by simp only [Nd.U]; rw [if_neg hk, if_neg k3, if_neg k4, if_neg k5]
   rw [e1, e2]; exact .nil
namespace Ere
def chr (q : ByteArray) (i : Nat) : Nat := if h : i < q.size then (q[i]).toNat else 0
theorem chr_lt (q : ByteArray) (i : Nat) : chr q i < 256 := by
 unfold chr
 split
 ·exact UInt8.toNat_lt _
 ·omega
inductive Res (α : Type) where
 | fault (e at_ : Nat)
 | got (x : α) (i : Nat)
def Res.bind {α β : Type} (r : Res α) (f : α → Nat → Res β) : Res β := match r with
 | .fault e i => .fault e i
 | .got x i => f x i
def isAt (p : ByteArray) (i c : Nat) : Bool := decide (i < p.size) && decide (chr p i = c)
def oneOf (p : ByteArray) (i : Nat) (l : List Nat) : Bool := decide (i < p.size) && l.contains (chr p i)
def zeroN : Nd := .mk 0 0 [] 0 0
def setN (s : BSet) : Nd := .mk 2 (s &&& notB 0) [] 0 0
def someN (k : Int) (l : List Nd) : Nd := match l with
 | [] => .mk 1 0 [] 0 0
 | [x] => x
 | _ => .mk k 0 l 0 0
def upperB : BSet := spanB 65 90
def lowerB : BSet := spanB 97 122
def digitB : BSet := spanB 48 57
def nameB (l : List Nat) : Option BSet :=
 if l = [117, 112, 112, 101, 114] then some upperB
 else if l = [108, 111, 119, 101, 114] then some lowerB
 else if l = [100, 105, 103, 105, 116] then some digitB
 else if l = [97, 108, 112, 104, 97] then some (upperB ||| lowerB)
 else if l = [97, 108, 110, 117, 109] then some (upperB ||| lowerB ||| digitB)
 else if l = [120, 100, 105, 103, 105, 116] then some (digitB ||| spanB 65 70 ||| spanB 97 102)
 else if l = [98, 108, 97, 110, 107] then some (bit 9 ||| bit 32)
 else if l = [115, 112, 97, 99, 101] then some (spanB 9 13 ||| bit 32)
 else if l = [99, 110, 116, 114, 108] then some (spanB 0 31 ||| bit 127)
 else if l = [103, 114, 97, 112, 104] then some (spanB 33 126)
 else if l = [112, 114, 105, 110, 116] then some (spanB 32 126)
 else if l = [112, 117, 110, 99, 116] then some (spanB 33 47 ||| spanB 58 64 ||| spanB 91 96 ||| spanB 123 126)
 else none
def sub (p : ByteArray) (i j : Nat) : List Nat := (List.range (j - i)).map fun k => chr p (i + k)
def endAt (p : ByteArray) : Nat → Nat → Option Nat
 | 0, _ => none
 | n + 1, i => if p.size ≤ i + 1 then none else if chr p i = 58 ∧ chr p (i + 1) = 93 then some i else endAt p n (i + 1)
def classR (p : ByteArray) (from_ i : Nat) : Res BSet :=
 match endAt p p.size (i + 2) with
 | none => .fault 43 from_
 | some j => match nameB (sub p (i + 2) j) with
  | none => .fault 30 i
  | some s => .got s (j + 2)
def itemR (p : ByteArray) (from_ i : Nat) : Res BSet :=
 if isAt p i 91 && isAt p (i + 1) 58 then classR p from_ i
 else if isAt p i 91 && oneOf p (i + 1) [46, 61] then .fault 43 i
 else if !isAt p (i + 1) 45 || decide (p.size ≤ i + 2) || isAt p (i + 2) 93 then .got (bit (chr p i)) (i + 1)
 else if decide (chr p (i + 2) < chr p i) || (decide (chr p (i + 2) = 91) && oneOf p (i + 3) [58, 46, 61]) then .fault 43 i
 else .got (spanB (chr p i) (chr p (i + 2))) (i + 3)
def itemsR (p : ByteArray) (from_ : Nat) : Nat → Bool → Nat → BSet → Res BSet
 | 0, _, _, _ => .fault 0 0
 | n + 1, first, i, s => if !first && isAt p i 93 then .got s i else if p.size ≤ i then .fault 43 from_ else (itemR p from_ i).bind fun t j => itemsR p from_ n false j (s ||| t)
def setR (p : ByteArray) (from_ i : Nat) : Res Nd :=
 (itemsR p from_ (p.size + 2) true (if isAt p i 94 then i + 1 else i) 0).bind fun s j => .got (setN (if isAt p i 94 then notB s else s)) (j + 1)
def digits (p : ByteArray) : Nat → Nat → Nat → Nat → Nat × Nat × Nat
 | 0, i, n, m => (n, i, m)
 | k + 1, i, n, m => if decide (i < p.size) && decide (48 ≤ chr p i) && decide (chr p i ≤ 57) then digits p k (i + 1) (10 * n + (chr p i - 48)) (m + 1) else (n, i, m)
def cntOk (d : Nat × Nat × Nat) : Bool := decide (0 < d.2.2) && decide (d.2.2 < 4) && decide (d.1 ≤ 255)
def countsR (p : ByteArray) (i : Nat) : Res (Nat × Int) :=
 let d := digits p 4 (i + 1) 0 0
 if cntOk d && isAt p d.2.1 44 then
  if isAt p (d.2.1 + 1) 125 then .got (d.1, -1) (d.2.1 + 1)
  else
   let f := digits p 4 (d.2.1 + 1) 0 0
   if !cntOk f || !isAt p f.2.1 125 || decide (f.1 < d.1) then .fault 45 i else .got (d.1, (f.1 : Int)) f.2.1
 else if !cntOk d || !isAt p d.2.1 125 then .fault 45 i else .got (d.1, (d.1 : Int)) d.2.1
def timesN (t : Nd) (a b : Int) : Nd := .mk 5 0 [t] a b
def repeatR (p : ByteArray) (t : Nd) (i : Nat) : Res Nd :=
 if isAt p i 42 then .got (timesN t 0 (-1)) (i + 1)
 else if isAt p i 43 then .got (timesN t 1 (-1)) (i + 1)
 else if isAt p i 63 then .got (timesN t 0 1) (i + 1)
 else if isAt p i 123 then (countsR p i).bind fun c j => .got (timesN t (c.1 : Int) c.2) (j + 1)
 else .got t i
def marks : List Nat := [46, 91, 93, 40, 41, 42, 43, 63, 123, 125, 124, 94, 36, 92, 47, 45]
def pieceR (p : ByteArray) (inner : Option (Nat → Res Nd)) (i : Nat) : Res Nd :=
 let c := chr p i
 if c = 94 then .got (.mk 6 0 [] 0 0) (i + 1)
 else if c = 36 then .got (.mk 7 0 [] 0 0) (i + 1)
 else if c = 42 ∨ c = 43 ∨ c = 63 ∨ c = 123 then .fault 44 i
 else if c = 40 then match inner with
  | none => .fault 47 i
  | some f => (f (i + 1)).bind fun t j => if p.size ≤ j then .fault 42 i else repeatR p t (j + 1)
 else if c = 91 then (setR p i (i + 1)).bind fun t j => repeatR p t j
 else if c = 46 then repeatR p (setN (notB 0)) (i + 1)
 else if c = 92 then (if oneOf p (i + 1) marks then repeatR p (setN (bit (chr p (i + 1)))) (i + 2) else .fault 46 i)
 else repeatR p (setN (bit c)) (i + 1)
def altR (p : ByteArray) (top : Bool) (pc : Nat → Res Nd) : Nat → Nat → List Nd → Res Nd
 | 0, _, _ => .fault 0 0
 | n + 1, i, l => if decide (p.size ≤ i) || isAt p i 124 then .got (someN 3 l) i
  else if isAt p i 41 then (if top then .fault 42 i else .got (someN 3 l) i)
  else (pc i).bind fun t j => altR p top pc n j (l ++ [t])
def patL (p : ByteArray) (al : Nat → Res Nd) : Nat → Nat → List Nd → Res Nd
 | 0, _, _ => .fault 0 0
 | n + 1, i, l => (al i).bind fun t j => if isAt p j 124 then patL p al n (j + 1) (l ++ [t]) else .got (someN 4 (l ++ [t])) j
def patR (p : ByteArray) : Nat → Nat → Res Nd
 | 0, i => patL p (fun i => altR p false (pieceR p none) (p.size + 2) i []) (p.size + 2) i []
 | n + 1, i => patL p (fun i => altR p (decide (n + 1 = 64)) (pieceR p (some (patR p n))) (p.size + 2) i []) (p.size + 2) i []
def nlAt (p : ByteArray) : Nat → Nat → Option Nat
 | 0, _ => none
 | n + 1, i => if p.size ≤ i then none else if chr p i = 10 then some i else nlAt p n (i + 1)
def placesN (t : Nd) : Nat := if t.isT then min t.U 2048 + 1 else 0
def parseR (p : ByteArray) : Nd × Nat × Nat :=
 if 1024 < p.size then (zeroN, 1024, 40)
 else match nlAt p (p.size + 1) 0 with
  | some i => (zeroN, i, 41)
  | none => match patR p 64 0 with
   | .fault e i => (zeroN, i, e)
   | .got t _ => if 2048 < placesN t then (zeroN, 0, 48) else (t, 0, 0)
theorem isAt_lt {p : ByteArray} {i c : Nat} (h : isAt p i c = true) : i < p.size := by
 unfold isAt at h
 simp only [Bool.and_eq_true, decide_eq_true_eq] at h
 exact h.1
end Ere
namespace Mt
abbrev Rel := Nat → Nat → Prop
def rcomp (A B : Rel) : Rel := fun i j => ∃ k, A i k ∧ B k j
def riter (T : Rel) : Nat → Rel
 | 0 => fun i j => i = j
 | n + 1 => rcomp (riter T n) T
def InR (n : Nat) (T : Rel) : Prop := ∀ i j, i ≤ n → T i j → j ≤ n
abbrev Lab := Nat → Nat → Prop
structure EdgeOk (q : ByteArray) (L : Lab) (e : Edg) : Prop where
 free : e.kd = 1 → ∀ i, i ≤ q.size → L e.fr.toNat i → L e.tt.toNat i
 byte : e.kd = 2 → ∀ i, i < q.size → L e.fr.toNat i → e.st.getLsbD (Ere.chr q i) = true → L e.tt.toNat (i + 1)
 begin_ : e.kd = 3 → L e.fr.toNat 0 → L e.tt.toNat 0
 end_ : e.kd = 4 → L e.fr.toNat q.size → L e.tt.toNat q.size
theorem EdgeOk.agree {q : ByteArray} {L L' : Lab} {e : Edg} (h : EdgeOk q L e) (h1 : L' e.fr.toNat = L e.fr.toNat) (h2 : L' e.tt.toNat = L e.tt.toNat) : EdgeOk q L' e :=
 ⟨fun k => by rw [h1, h2]; exact h.free k, fun k => by rw [h1, h2]; exact h.byte k, fun k => by rw [h1, h2]; exact h.begin_ k, fun k => by rw [h1, h2]; exact h.end_ k⟩
structure GS (q : ByteArray) (m : Ly) (a : Nat) (m' : Ly) (zs : List (Nat × Rel)) (new : List Edg) : Prop where
 grow : m.s ≤ m'.s
 e : m'.e = m.e ++ new
 at_ : ∀ p ∈ zs, p.1 < m'.s
 rg : ∀ p ∈ zs, InR q.size p.2
 bnd : ∀ e ∈ new, e.fr.toNat < m'.s ∧ e.tt.toNat < m'.s
 sound : ∀ L0 : Lab, (∀ s i, L0 s i → i ≤ q.size) → ∃ L : Lab, (∀ s i, L s i → i ≤ q.size) ∧ (∀ s, s < m.s → L s = L0 s) ∧ (∀ e ∈ new, EdgeOk q L e) ∧ ∀ p ∈ zs, ∀ j, L p.1 j → ∃ i, L0 a i ∧ p.2 i j
 comp : ∀ L : Lab, (∀ e ∈ new, EdgeOk q L e) → ∀ p ∈ zs, ∀ i j, i ≤ q.size → L a i → p.2 i j → L p.1 j
section
variable {q : ByteArray} {m m1 m2 m' : Ly} {a b z : Nat} {zs : List (Nat × Rel)} {new new2 : List Edg} {T U : Rel}
theorem GS.id (q : ByteArray) (m : Ly) (a : Nat) (ha : a < m.s) : GS q m a m [(a, fun i j => i = j)] [] := by
 refine ⟨Nat.le_refl _, by simp, fun p hp => ?_, fun p hp => ?_, fun e he => absurd he (by simp), fun L0 h0 => ⟨L0, h0, fun _ _ => rfl, fun e he => absurd he (by simp), fun p hp j hj => ?_⟩, fun L _ p hp i j _ hi hij => ?_⟩
 all_goals (rw [List.mem_singleton] at hp; subst hp)
 ·exact ha
 ·intro i j hi hij; simp only at hij; omega
 ·exact ⟨j, hj, rfl⟩
 ·simp only at hij ⊢; rw [← hij]; exact hi
theorem GS.sub (h : GS q m a m' zs new) {ys : List (Nat × Rel)} (hs : ∀ p ∈ ys, p ∈ zs) : GS q m a m' ys new :=
 ⟨h.grow, h.e, fun p hp => h.at_ p (hs p hp), fun p hp => h.rg p (hs p hp), h.bnd, fun L0 h0 => by
  obtain ⟨L, h1, h2, h3, h4⟩ := h.sound L0 h0
  exact ⟨L, h1, h2, h3, fun p hp => h4 p (hs p hp)⟩, fun L hL p hp => h.comp L hL p (hs p hp)⟩
theorem GS.then_ (h : GS q m a m1 zs new) (ha : a < m.s) {p : Nat × Rel} (hp : p ∈ zs) (k : GS q m1 p.1 m2 [(z, T)] new2) : GS q m a m2 (zs ++ [(z, rcomp p.2 T)]) (new ++ new2) := by
 refine ⟨Nat.le_trans h.grow k.grow, by rw [k.e, h.e, List.append_assoc], fun y hy => ?_, fun y hy => ?_, fun e he => ?_, fun L0 h0 => ?_, fun L hL y hy i j hi hai hij => ?_⟩
 ·rcases List.mem_append.1 hy with hy | hy
  ·exact Nat.lt_of_lt_of_le (h.at_ y hy) k.grow
  ·rw [List.mem_singleton] at hy; subst hy; exact k.at_ (z, T) (by simp)
 ·rcases List.mem_append.1 hy with hy | hy
  ·exact h.rg y hy
  ·rw [List.mem_singleton] at hy; subst hy
   rintro i j hi ⟨x, h1, h2⟩
   exact k.rg (z, T) (by simp) x j (h.rg p hp i x hi h1) h2
 ·rcases List.mem_append.1 he with he | he
  ·have := h.bnd e he; have := k.grow; omega
  ·exact k.bnd e he
 ·obtain ⟨L1, b1, b2, b3, b4⟩ := h.sound L0 h0
  obtain ⟨L2, c1, c2, c3, c4⟩ := k.sound L1 b1
  refine ⟨L2, c1, fun s hs => (c2 s (by have := h.grow; omega)).trans (b2 s hs), fun e he => ?_, fun y hy j hj => ?_⟩
  ·rcases List.mem_append.1 he with he | he
   ·have := h.bnd e he
    exact (b3 e he).agree (c2 _ this.1) (c2 _ this.2)
   ·exact c3 e he
  ·rcases List.mem_append.1 hy with hy | hy
   ·rw [c2 _ (h.at_ y hy)] at hj
    exact b4 y hy j hj
   ·rw [List.mem_singleton] at hy; subst hy
    obtain ⟨x, h1, h2⟩ := c4 (z, T) (by simp) j hj
    obtain ⟨i, h3, h4⟩ := b4 p hp x h1
    exact ⟨i, h3, x, h4, h2⟩
 ·rcases List.mem_append.1 hy with hy | hy
  ·exact h.comp L (fun e he => hL e (List.mem_append_left _ he)) y hy i j hi hai hij
  ·rw [List.mem_singleton] at hy; subst hy
   obtain ⟨x, h1, h2⟩ := hij
   exact k.comp L (fun e he => hL e (List.mem_append_right _ he)) (z, T) (by simp) x j (h.rg p hp i x hi h1) (h.comp L (fun e he => hL e (List.mem_append_left _ he)) p hp i x hi hai h1) h2
def edgeT (q : ByteArray) (kd : Int) (st : BSet) : Rel := fun i j => (kd = 1 ∧ i = j) ∨ (kd = 2 ∧ j = i + 1 ∧ i < q.size ∧ st.getLsbD (Ere.chr q i) = true) ∨ (kd = 3 ∧ i = 0 ∧ j = 0) ∨ (kd = 4 ∧ i = q.size ∧ j = q.size)
theorem edgeT_in (q : ByteArray) (kd : Int) (st : BSet) : InR q.size (edgeT q kd st) := by
 rintro i j hi (h | h | h | h) <;> omega
theorem GS.over (q : ByteArray) (m : Ly) (a : Nat) (ha : a < m.s) (kd : Int) (st : BSet) : GS q m a (m.over kd a st).1 [((m.over kd a st).2, edgeT q kd st)] [⟨kd, a, m.s, st⟩] := by
 refine ⟨by simp [Ly.over, Ly.new, Ly.edge], rfl, fun p hp => ?_, fun p hp => ?_, fun e he => ?_, fun L0 h0 => ?_, fun L hL p hp i j hi hai hij => ?_⟩
 ·rw [List.mem_singleton] at hp; subst hp; simp [Ly.over, Ly.new, Ly.edge]
 ·rw [List.mem_singleton] at hp; subst hp; exact edgeT_in q kd st
 ·rw [List.mem_singleton] at he; subst he; simp [Ly.over, Ly.new, Ly.edge]; omega
 ·have hne : a ≠ m.s := by omega
  obtain ⟨L, hLn, hLo⟩ : ∃ L : Lab, (∀ j, L m.s j ↔ ∃ i, L0 a i ∧ edgeT q kd st i j) ∧ ∀ s, s ≠ m.s → L s = L0 s := ⟨fun s j => if s = m.s then ∃ i, L0 a i ∧ edgeT q kd st i j else L0 s j, fun j => by simp, fun s hs => by funext j; simp [hs]⟩
  have hLa := hLo a hne
  refine ⟨L, fun s i hs => ?_, fun s hs => hLo s (by omega), fun e he => ?_, fun p hp j hj => ?_⟩
  ·by_cases e : s = m.s
   ·rw [e] at hs
    obtain ⟨x, h1, h2⟩ := (hLn i).1 hs
    exact edgeT_in q kd st x i (h0 a x h1) h2
   ·rw [hLo s e] at hs
    exact h0 s i hs
  ·rw [List.mem_singleton] at he
   subst he
   refine ⟨fun k i hi hL => (hLn i).2 ?_, fun k i hi hL hb => (hLn (i + 1)).2 ?_, fun k hL => (hLn 0).2 ?_, fun k hL => (hLn q.size).2 ?_⟩
   all_goals
    have hL' : L a _ := hL
    rw [hLa] at hL'
   ·exact ⟨i, hL', .inl ⟨k, rfl⟩⟩
   ·exact ⟨i, hL', .inr (.inl ⟨k, rfl, hi, hb⟩)⟩
   ·exact ⟨0, hL', .inr (.inr (.inl ⟨k, rfl, rfl⟩))⟩
   ·exact ⟨q.size, hL', .inr (.inr (.inr ⟨k, rfl, rfl⟩))⟩
  ·rw [List.mem_singleton] at hp
   subst hp
   exact (hLn j).1 hj
 ·rw [List.mem_singleton] at hp
  subst hp
  have h := hL _ (List.mem_singleton.2 rfl)
  rcases hij with ⟨k, rfl⟩ | ⟨k, rfl, h1, h2⟩ | ⟨k, rfl, rfl⟩ | ⟨k, rfl, rfl⟩
  ·exact h.free k i hi (by simpa using hai)
  ·exact h.byte k i h1 (by simpa using hai) h2
  ·exact h.begin_ k (by simpa using hai)
  ·exact h.end_ k (by simpa using hai)
def unionR (zs : List (Nat × Rel)) : Rel := fun i j => ∃ p ∈ zs, p.2 i j
theorem frees_list (z : Nat) : ∀ (ends : List Nat) (m : Ly), (m.frees z ends).e = m.e ++ ends.map (fun (s : Nat) => (⟨1, s, z, 0⟩ : Edg))
 | [], m => by simp [Ly.frees]
 | x :: l, m => by
  have := frees_list z l (m.free x z)
  show ((m.free x z).frees z l).e = _
  rw [this]
  simp [Ly.free, Ly.edge]
theorem GS.join (h : GS q m a m1 zs new) (ha : a < m.s) : GS q m a (m1.joined (zs.map (·.1))).1 [((m1.joined (zs.map (·.1))).2, unionR zs)] (new ++ zs.map (fun p => (⟨1, p.1, m1.s, 0⟩ : Edg))) := by
 have hs : (m1.joined (zs.map (·.1))).1.s = m1.s + 1 := joined_s _ _
 have hz : (m1.joined (zs.map (·.1))).2 = m1.s := rfl
 have he : (m1.joined (zs.map (·.1))).1.e = m.e ++ (new ++ zs.map (fun p => (⟨1, p.1, m1.s, 0⟩ : Edg))) := by
  unfold Ly.joined
  rw [frees_list]
  show m1.e ++ _ = _
  rw [h.e, List.append_assoc, List.map_map]
  rfl
 rw [hz]
 have hru : InR q.size (unionR zs) := by
  rintro i j hi ⟨p, hp, h1⟩
  exact h.rg p hp i j hi h1
 refine ⟨by rw [hs]; have := h.grow; omega, he, fun p hp => ?_, fun p hp => ?_, fun e he => ?_, fun L0 h0 => ?_, fun L hL p hp i j hi hai hij => ?_⟩
 ·rw [List.mem_singleton] at hp; subst hp; rw [hs]; simp
 ·rw [List.mem_singleton] at hp; subst hp; exact hru
 ·rw [hs]
  rcases List.mem_append.1 he with he | he
  ·have := h.bnd e he; omega
  ·obtain ⟨p, hp, rfl⟩ := List.mem_map.1 he
   have := h.at_ p hp
   simp
   omega
 ·obtain ⟨L1, b1, b2, b3, b4⟩ := h.sound L0 h0
  obtain ⟨L, hLn, hLo⟩ : ∃ L : Lab, (∀ j, L m1.s j ↔ ∃ i, L0 a i ∧ unionR zs i j) ∧ ∀ s, s ≠ m1.s → L s = L1 s := ⟨fun s j => if s = m1.s then ∃ i, L0 a i ∧ unionR zs i j else L1 s j, fun j => by simp, fun s hs => by funext j; simp [hs]⟩
  have hg := h.grow
  refine ⟨L, fun s i hs => ?_, fun s hs => (hLo s (by omega)).trans (b2 s hs), fun e he => ?_, fun p hp j hj => ?_⟩
  ·by_cases e : s = m1.s
   ·rw [e] at hs
    obtain ⟨x, h1, h2⟩ := (hLn i).1 hs
    exact hru x i (h0 a x h1) h2
   ·rw [hLo s e] at hs
    exact b1 s i hs
  ·rcases List.mem_append.1 he with he | he
   ·have := h.bnd e he
    exact (b3 e he).agree (hLo _ (by omega)) (hLo _ (by omega))
   ·obtain ⟨p, hp, rfl⟩ := List.mem_map.1 he
    have hpl := h.at_ p hp
    refine ⟨fun _ i hi hL => (hLn i).2 ?_, fun k => by simp at k, fun k => by simp at k, fun k => by simp at k⟩
    have hL' : L p.1 i := hL
    rw [hLo p.1 (by omega)] at hL'
    obtain ⟨x, h1, h2⟩ := b4 p hp i hL'
    exact ⟨x, h1, p, hp, h2⟩
  ·rw [List.mem_singleton] at hp
   subst hp
   exact (hLn j).1 hj
 ·rw [List.mem_singleton] at hp
  subst hp
  obtain ⟨y, hy, h1⟩ := hij
  have h2 := h.comp L (fun e he => hL e (List.mem_append_left _ he)) y hy i j hi hai h1
  exact (hL _ (List.mem_append_right _ (List.mem_map_of_mem hy))).free rfl j (h.rg y hy i j hi h1) h2
def LayOk (q : ByteArray) (f : LayF) (T : Rel) : Prop := ∀ (m : Ly) (a : Nat), a < m.s → ∃ new, GS q m a (f m a).1 [((f m a).2, T)] new
variable {f : LayF}
theorem LayOk.reps_ (hf : LayOk q f T) (n : Nat) : LayOk q (fun m a => reps f n (m, a)) (riter T n) := by
 induction n with
 | zero => exact fun m a ha => ⟨[], GS.id q m a ha⟩
 | succ n ih =>
  intro m a ha
  obtain ⟨n1, h1⟩ := ih m a ha
  obtain ⟨n2, h2⟩ := hf (reps f n (m, a)).1 (reps f n (m, a)).2 (h1.at_ _ (List.mem_singleton.2 rfl))
  exact ⟨n1 ++ n2, (h1.then_ ha (List.mem_singleton.2 rfl) h2).sub (fun p hp => List.mem_append_right _ hp)⟩
def chain (U T : Rel) : Nat → Rel
 | 0 => U
 | n + 1 => rcomp (chain U T n) T
theorem LayOk.opts_ (hf : LayOk q f T) (h : GS q m a m1 [(z, U)] new) (ha : a < m.s) : ∀ n, ∃ zs new, GS q m a (opts f n ((m1, z), [z])).1.1 zs new ∧ zs.map (·.1) = (opts f n ((m1, z), [z])).2 ∧ ((opts f n ((m1, z), [z])).1.2, chain U T n) ∈ zs ∧ ∀ i j, unionR zs i j ↔ ∃ k, k ≤ n ∧ chain U T k i j
 | 0 => by
  refine ⟨[(z, U)], new, h, rfl, List.mem_singleton.2 rfl, fun i j => ⟨?_, ?_⟩⟩
  ·rintro ⟨p, hp, h1⟩
   rw [List.mem_singleton] at hp
   subst hp
   exact ⟨0, Nat.le_refl _, h1⟩
  ·rintro ⟨k, hk, h1⟩
   obtain rfl : k = 0 := by omega
   exact ⟨(z, U), List.mem_singleton.2 rfl, h1⟩
 | n + 1 => by
  obtain ⟨zs, nw, g, e1, e2, e3⟩ := LayOk.opts_ hf h ha n
  obtain ⟨n2, h2⟩ := hf (opts f n ((m1, z), [z])).1.1 (opts f n ((m1, z), [z])).1.2 (g.at_ _ e2)
  refine ⟨_, _, g.then_ ha e2 h2, ?_, List.mem_append_right _ (List.mem_singleton.2 rfl), fun i j => ⟨?_, ?_⟩⟩
  ·rw [List.map_append, e1]
   rfl
  ·rintro ⟨p, hp, h1⟩
   rcases List.mem_append.1 hp with hp | hp
   ·obtain ⟨k, hk, h2⟩ := (e3 i j).1 ⟨p, hp, h1⟩
    exact ⟨k, by omega, h2⟩
   ·rw [List.mem_singleton] at hp
    subst hp
    exact ⟨n + 1, Nat.le_refl _, h1⟩
  ·rintro ⟨k, hk, h1⟩
   by_cases hkn : k ≤ n
   ·obtain ⟨p, hp, h2⟩ := (e3 i j).2 ⟨k, hkn, h1⟩
    exact ⟨p, List.mem_append_left _ hp, h2⟩
   ·obtain rfl : k = n + 1 := by omega
    exact ⟨_, List.mem_append_right _ (List.mem_singleton.2 rfl), h1⟩
def star (T : Rel) : Rel := fun i j => ∃ k, riter T k i j
theorem riter_in {n : Nat} {T : Rel} (h : InR n T) : ∀ k, InR n (riter T k)
 | 0 => fun i j hi e => by simp only [riter] at e; omega
 | k + 1 => fun i j hi ⟨x, h1, h2⟩ => h x j (riter_in h k i x hi h1) h2
theorem LayOk.loop (hf : LayOk q f T) (h : GS q m a m1 [(z, U)] new) (ha : a < m.s) : ∃ new', GS q m a (((f (m1.new.free z m1.s) m1.s).1.free (f (m1.new.free z m1.s) m1.s).2 m1.s).joined [m1.s]).1 [((((f (m1.new.free z m1.s) m1.s).1.free (f (m1.new.free z m1.s) m1.s).2 m1.s).joined [m1.s]).2, rcomp U (star T))] new' := by
 obtain ⟨n2, h2⟩ := hf (m1.new.free z m1.s) m1.s (by show m1.s < m1.s + 1; omega)
 obtain ⟨P, hP⟩ : ∃ P, f (m1.new.free z m1.s) m1.s = P := ⟨_, rfl⟩
 rw [hP] at h2 ⊢
 obtain ⟨m2, z2⟩ := P
 simp only at h2 ⊢
 have hzl : z < m1.s := h.at_ (z, U) (by simp)
 have hz2 : z2 < m2.s := h2.at_ (z2, T) (by simp)
 have hg1 := h.grow
 have hg2 : m1.s + 1 ≤ m2.s := h2.grow
 have hrT : InR q.size T := h2.rg (z2, T) (by simp)
 have hrU : InR q.size U := h.rg (z, U) (by simp)
 have hrS : InR q.size (rcomp U (star T)) := fun i j hi ⟨x, k1, k, k2⟩ => riter_in hrT k x j (hrU i x hi k1) k2
 have hs : ((m2.free z2 m1.s).joined [m1.s]).1.s = m2.s + 1 := joined_s _ _
 have he : ((m2.free z2 m1.s).joined [m1.s]).1.e = m.e ++ (new ++ ⟨1, z, m1.s, 0⟩ :: (n2 ++ [⟨1, z2, m1.s, 0⟩, ⟨1, m1.s, m2.s, 0⟩])) := by
  unfold Ly.joined
  rw [frees_list]
  show (m2.e ++ [(⟨1, z2, m1.s, 0⟩ : Edg)]) ++ _ = _
  rw [h2.e]
  show ((m1.e ++ [(⟨1, z, m1.s, 0⟩ : Edg)]) ++ n2 ++ _) ++ _ = _
  rw [h.e]
  simp [Ly.free, Ly.edge]
 have hz3 : ((m2.free z2 m1.s).joined [m1.s]).2 = m2.s := rfl
 rw [hz3]
 refine ⟨_, by rw [hs]; omega, he, fun p hp => ?_, fun p hp => ?_, fun e he => ?_, fun L0 h0 => ?_, fun L hL p hp i j hi hai hij => ?_⟩
 ·rw [List.mem_singleton] at hp; subst hp; rw [hs]; simp
 ·rw [List.mem_singleton] at hp; subst hp; exact hrS
 ·rw [hs]
  rcases List.mem_append.1 he with he | he
  ·have := h.bnd e he; omega
  rcases List.mem_cons.1 he with he | he
  ·subst he; simp; omega
  rcases List.mem_append.1 he with he | he
  ·have := h2.bnd e he; omega
  simp only [List.mem_cons, List.not_mem_nil, or_false] at he
  rcases he with he | he
  ·subst he; simp; omega
  ·subst he; simp; omega
 ·obtain ⟨L1, b1, b2, b3, b4⟩ := h.sound L0 h0
  obtain ⟨K, hKn, hKo⟩ : ∃ L : Lab, (∀ j, L m1.s j ↔ ∃ i, L0 a i ∧ rcomp U (star T) i j) ∧ ∀ s, s ≠ m1.s → L s = L1 s := ⟨fun s j => if s = m1.s then ∃ i, L0 a i ∧ rcomp U (star T) i j else L1 s j, fun j => by simp, fun s hs => by funext j; simp [hs]⟩
  obtain ⟨L2, c1, c2, c3, c4⟩ := h2.sound K (fun s i hs => by
   by_cases e : s = m1.s
   ·rw [e] at hs
    obtain ⟨x, k1, k2⟩ := (hKn i).1 hs
    exact hrS x i (h0 a x k1) k2
   ·rw [hKo s e] at hs
    exact b1 s i hs)
  have c2' : ∀ s, s < m1.s + 1 → L2 s = K s := c2
  obtain ⟨L, hLn, hLo⟩ : ∃ L : Lab, (∀ j, L m2.s j ↔ ∃ i, L0 a i ∧ rcomp U (star T) i j) ∧ ∀ s, s ≠ m2.s → L s = L2 s := ⟨fun s j => if s = m2.s then ∃ i, L0 a i ∧ rcomp U (star T) i j else L2 s j, fun j => by simp, fun s hs => by funext j; simp [hs]⟩
  have old : ∀ s, s < m1.s → L s = L1 s := fun s hs => (hLo s (by omega)).trans ((c2' s (by omega)).trans (hKo s (by omega)))
  have mid : L m1.s = K m1.s := (hLo _ (by omega)).trans (c2' _ (by omega))
  refine ⟨L, fun s i hs => ?_, fun s hs => (old s (by omega)).trans (b2 s hs), fun e he => ?_, fun p hp j hj => ?_⟩
  ·by_cases e : s = m2.s
   ·rw [e] at hs
    obtain ⟨x, k1, k2⟩ := (hLn i).1 hs
    exact hrS x i (h0 a x k1) k2
   ·rw [hLo s e] at hs
    exact c1 s i hs
  ·rcases List.mem_append.1 he with he | he
   ·have := h.bnd e he
    exact (b3 e he).agree (old _ this.1) (old _ this.2)
   rcases List.mem_cons.1 he with he | he
   ·subst he
    refine ⟨fun _ i hi hL => ?_, fun k => by simp at k, fun k => by simp at k, fun k => by simp at k⟩
    have hL' : L z i := hL
    show L m1.s i
    rw [old z hzl] at hL'
    rw [mid]
    obtain ⟨x, k1, k2⟩ := b4 (z, U) (by simp) i hL'
    exact (hKn i).2 ⟨x, k1, i, k2, 0, rfl⟩
   rcases List.mem_append.1 he with he | he
   ·have := h2.bnd e he
    exact (c3 e he).agree (hLo _ (by omega)) (hLo _ (by omega))
   simp only [List.mem_cons, List.not_mem_nil, or_false] at he
   rcases he with he | he
   ·subst he
    refine ⟨fun _ i hi hL => ?_, fun k => by simp at k, fun k => by simp at k, fun k => by simp at k⟩
    have hL' : L z2 i := hL
    show L m1.s i
    rw [hLo z2 (by omega)] at hL'
    rw [mid]
    obtain ⟨x, k1, k2⟩ := c4 (z2, T) (by simp) i hL'
    obtain ⟨y, k3, v, k4, k, k5⟩ := (hKn x).1 k1
    exact (hKn i).2 ⟨y, k3, v, k4, k + 1, x, k5, k2⟩
   ·subst he
    refine ⟨fun _ i hi hL => ?_, fun k => by simp at k, fun k => by simp at k, fun k => by simp at k⟩
    have hL' : L m1.s i := hL
    show L m2.s i
    rw [mid] at hL'
    exact (hLn i).2 ((hKn i).1 hL')
  ·rw [List.mem_singleton] at hp
   subst hp
   exact (hLn j).1 hj
 ·rw [List.mem_singleton] at hp
  subst hp
  obtain ⟨x, k1, k, k2⟩ := hij
  have e1 := h.comp L (fun e he => hL e (List.mem_append_left _ he)) (z, U) (by simp) i x hi hai k1
  have hx := hrU i x hi k1
  have e2 : L m1.s x := (hL ⟨1, z, m1.s, 0⟩ (by simp)).free rfl x hx e1
  have key : ∀ k j, riter T k x j → L m1.s j := by
   intro k
   induction k with
   | zero => intro j hj; simp only [riter] at hj; rw [← hj]; exact e2
   | succ k ih =>
    rintro j ⟨y, y1, y2⟩
    have hy := riter_in hrT k x y hx y1
    have e3 := h2.comp L (fun e he => hL e (List.mem_append_right _ (List.mem_cons_of_mem _ (List.mem_append_left _ he)))) (z2, T) (by simp) y j hy (ih y y1) y2
    exact (hL ⟨1, z2, m1.s, 0⟩ (by simp)).free rfl j (hrT y j hy y2) e3
  have hj := riter_in hrT k x j hx k2
  exact (hL ⟨1, m1.s, m2.s, 0⟩ (by simp)).free rfl j hj (key k j k2)
end
end Mt
end Go.Proofs.YtkedgombccdamaaGreatDoor
namespace Go.Proofs.YtkedgombccdamaaGreatDoor
open Go.RowKit Go.Maps
set_option linter.unusedVariables false
set_option linter.unusedSimpArgs false
set_option linter.unnecessarySimpa false
section
variable {rw : Option Nat} {i0 : Nat}
def GKR (rw : Option Nat) (i0 : Nat) (S : Nat → GSpec) (i : Nat) (o : Oper) (a : Act) (w : World) : Act → World → Prop := fun a' w' => ∃ v, a' = a.put o.dst v ∧ (w.grownBy w' rw ∧ (i ≠ i0 → Below w.heap.size w w')) ∧ (S i).p v w'
def GStepR (rw : Option Nat) (i0 : Nat) (P : Program) (ops : Array Oper) (S : Nat → GSpec) (Q : Exit → Act → World → Prop) (i : Nat) (o : Oper) (a : Act) (w : World) : Prop :=
 if Region.wanted o (yielded ops a.tmps) = true then o.wp P a w (GKR rw i0 S i o a w) Q else (S i).p undef w
theorem getD_set_same' {l : Array Bool} {i : Nat} (h : i < l.size) : (l.setIfInBounds i true).getD i false = true := by simp [h]
structure GInvR (rw : Option Nat) (i0 : Nat) (ops : Array Oper) (n : Nat) (S : Nat → GSpec) (a0 : Act) (W0 : World) (listed : Array Bool) (a : Act) (w : World) : Prop where
 head : HeadInv .any ops n listed
 base : GBase ops n a0 a
 below : W0.grownBy w rw
 pure_ : listed.getD i0 false = false → Below W0.heap.size W0 w
 done : ∀ j, j < n → listed.getD j false = true → opOk ops S a w j
theorem wpAny_growR {P : Program} {ops : Array Oper} {n : Nat} {S : Nat → GSpec} {Q : Exit → Act → World → Prop} {a0 : Act} {W0 : World} (hkp : ∀ j, j ≠ i0 → ∀ v w w', (S j).p v w → w.grownBy w' rw → (S j).p v w') (hB : growB ops n a0.tmps.size = true)
  (hstep : ∀ i o, i < n → ops[i]? = some o → ∀ a w, GBase ops n a0 a → W0.grownBy w rw → (i = i0 → Below W0.heap.size W0 w) → (∀ e ∈ o.after, Region.binds .any e = true → opOk ops S a w e.on) → GStepR rw i0 P ops S Q i o a w)
  (hend : ∀ a w, GBase ops n a0 a → W0.grownBy w rw → (∀ j, j < n → opOk ops S a w j) → wpList P ops Q (ops.toList.drop n) a w) :
  ∀ (m : Nat) (listed : Array Bool) (a : Act) (w : World), GInvR rw i0 ops n S a0 W0 listed a w → unl n listed = m → wpAny P .any ops Q (m + (ops.size - n)) listed a w := by
 simp only [growB, Bool.and_eq_true, Bool.or_eq_true, decide_eq_true_eq] at hB
 obtain ⟨⟨⟨⟨⟨hn, hdup⟩, hlt⟩, hedge⟩, htail⟩, hseq⟩ := hB
 have hedge' : ∀ i o, i < n → ops[i]? = some o → ∀ e ∈ o.after, Region.binds .any e = true → e.on < i := by
  intro i o hi ho e he hb
  have h1 := List.all_eq_true.1 hedge i (List.mem_range.2 hi)
  simp only [ho] at h1
  have h2 := (Array.all_eq_true_iff_forall_mem.1 h1) e he
  simpa [hb] using h2
 have hready : ∀ (listed : Array Bool) (a : Act) (w : World), GInvR rw i0 ops n S a0 W0 listed a w → 0 < unl n listed → ∀ j ∈ Region.ready .any ops listed, j < n := by
  intro listed a w inv hpos j hj
  rcases htail with he | ⟨hs, hc⟩
  ·obtain ⟨_, o, ho, _⟩ := mem_ready.1 hj
   have := (Array.getElem?_eq_some_iff.1 ho).1
   omega
  ·rcases Nat.lt_or_ge n ops.size with hlt' | hge
   ·unfold unl at hpos
    obtain ⟨i, hi⟩ := List.exists_mem_of_length_pos hpos
    simp only [List.mem_filter, List.mem_range, Bool.not_eq_true'] at hi
    have hun : listed.getD i true = false := getD_in (by rw [inv.head.size]; omega) hi.2
    rcases Nat.lt_or_ge j n with h | h
    ·exact h
    ·exact absurd hj (tail_waits hs hc hlt' inv.head _ i rfl hi.1 hun j h)
   ·obtain ⟨_, o, ho, _⟩ := mem_ready.1 hj
    have := (Array.getElem?_eq_some_iff.1 ho).1
    omega
 have hne : ∀ (listed : Array Bool) (a : Act) (w : World), GInvR rw i0 ops n S a0 W0 listed a w → 0 < unl n listed → Region.ready .any ops listed ≠ [] := by
  intro listed a w inv hpos hnil
  have hex : ∃ i, i < n ∧ listed.getD i false = false := by
   unfold unl at hpos
   obtain ⟨i, hi⟩ := List.exists_mem_of_length_pos hpos
   simp only [List.mem_filter, List.mem_range, Bool.not_eq_true'] at hi
   exact ⟨i, hi.1, hi.2⟩
  have hmin : ∃ i, i < n ∧ listed.getD i false = false ∧ ∀ k, k < i → listed.getD k false = true := by
   obtain ⟨i, hi, hf⟩ := hex
   clear hpos
   induction i using Nat.strongRecOn with
   | _ i ih =>
    by_cases h : ∃ k, k < i ∧ listed.getD k false = false
    ·obtain ⟨k, hk, hkf⟩ := h
     exact ih k hk (by omega) hkf
    ·refine ⟨i, hi, hf, fun k hk => ?_⟩
     cases hc : listed.getD k false with
     | true => rfl
     | false => exact absurd ⟨k, hk, hc⟩ h
  obtain ⟨i, hi, hf, hall⟩ := hmin
  have ho : ops[i]? = some ops[i] := Array.getElem?_eq_getElem (by omega)
  have hmem : i ∈ Region.ready .any ops listed := mem_ready.2 ⟨getD_in (by rw [inv.head.size]; omega) hf, _, ho, fun e he hb => hall _ (hedge' i _ hi ho e he hb)⟩
  rw [hnil] at hmem
  cases hmem
 intro m
 induction m with
 | zero =>
  intro listed a w inv hm
  have hall : ∀ j, j < n → listed.getD j false = true := by
   intro j hj
   cases hc : listed.getD j false with
   | true => rfl
   | false => have := unl_pos hj hc; omega
  have hlist : listed = headTrue n (ops.size - n) := by
   have hsz := inv.head.size
   apply Array.ext
   ·simp [headTrue, hsz]; omega
   ·intro j h1 h2
    have hj : j < ops.size := by rw [← hsz]; exact h1
    simp only [headTrue, List.getElem_toArray, List.getElem_append, List.length_replicate, List.getElem_replicate]
    by_cases hjn : j < n
    ·have := hall j hjn
     simp [h1] at this
     simp [hjn, this]
    ·have := inv.head.tail j (by omega) hj
     simp [h1] at this
     simp [hjn, this]
  have hw := hend a w inv.base inv.below (fun j hj => inv.done j hj (hall j hj))
  have hdl : (ops.toList.drop n).length = ops.size - n := by simp
  have := wpAny_of_seq (md := .any) (Q' := Q) (ops.toList.drop n) n listed a w (fun j => by simp [List.getElem?_drop]) (by rw [hdl, hlist]; exact hseq) hw
  rw [hdl] at this
  rw [Nat.zero_add]
  exact this
 | succ m ih =>
  intro listed a w inv hm
  rw [show m + 1 + (ops.size - n) = (m + (ops.size - n)) + 1 by omega]
  refine ⟨fun h => absurd h (hne listed a w inv (by omega)), fun i hi => ?_⟩
  have hin := hready listed a w inv (by omega) i hi
  obtain ⟨hun, o, ho, hall⟩ := mem_ready.1 hi
  have hlisted : listed.getD i false = false := getD_both hun
  have hg := hstep i o hin ho a w inv.base inv.below (fun e => inv.pure_ (e ▸ hlisted)) (fun e he hb => inv.done e.on (by have := hedge' i o hin ho e he hb; omega) (hall e he hb))
  have hsz : i < listed.size := by rw [inv.head.size]; omega
  have hnext : ∀ a' w', GKR rw i0 S i o a w a' w' → wpAny P .any ops Q (m + (ops.size - n)) (listed.setIfInBounds i true) a' w' := by
   rintro a' w' ⟨v, rfl, hb, hp⟩
   refine ih _ _ _ ⟨inv.head.set hi hin, ⟨by rw [put_defers]; exact inv.base.defers, by rw [put_size]; exact inv.base.size, fun t ht => ?_⟩, inv.below.trans hb.1, fun hl0 => (by
    have hne : i ≠ i0 := fun e => by
     subst e
     rw [getD_set_same' hsz] at hl0
     cases hl0
    rw [getD_set_ne false hne] at hl0
    have k1 := inv.pure_ hl0
    exact k1.trans ((hb.2 hne).mono k1.size)), fun j hj hl d hd => ?_⟩ (by have := unl_set hin hsz hlisted; omega)
   ·cases hd : o.dst with
    | none => exact inv.base.other t ht
    | some d =>
     have hmem : d ∈ zzd ops n := List.mem_filterMap.2 ⟨o, by
      rw [List.mem_iff_getElem?]
      exact ⟨i, by rw [List.getElem?_take]; simp [hin, ho]⟩, hd⟩
     have hne : d ≠ t := by
      rintro rfl
      rw [List.contains_eq_mem] at ht
      simp [hmem] at ht
     rw [zxp hne]
     exact inv.base.other t ht
   ·by_cases hij : i = j
    ·subst hij
     rw [ho] at hd
     simp only [Option.bind_some] at hd
     rw [hd]
     have hmem : d ∈ zzd ops n := List.mem_filterMap.2 ⟨o, by
      rw [List.mem_iff_getElem?]
      exact ⟨i, by rw [List.getElem?_take]; simp [hin, ho]⟩, hd⟩
     have hdl : d < a.tmps.size := by
      have := List.all_eq_true.1 hlt d hmem
      rw [inv.base.size]; simpa using this
     rw [put_getD_same hdl]
     exact hp
    ·rw [getD_set_ne false hij] at hl
     have hold := inv.done j hj hl d hd
     have hkeep : (a.put o.dst v).tmps.getD d undef = a.tmps.getD d undef := by
      cases hod : o.dst with
      | none => rfl
      | some e =>
       apply zxp
       rintro rfl
       cases hoj : ops[j]? with
       | none => rw [hoj] at hd; cases hd
       | some oj =>
        rw [hoj] at hd
        simp only [Option.bind_some] at hd
        exact hij (noDup_spec _ hdup i j o oj e (by rw [List.getElem?_take]; simp [hin, ho]) (by rw [List.getElem?_take]; simp [hj, hoj]) hod hd)
     rw [hkeep]
     by_cases hj0 : j = i0
     ·exact (S j).st _ _ _ hold (hb.2 (by omega))
     ·exact hkp j hj0 _ _ _ hold hb.1
  unfold wpOp
  simp only [ho]
  unfold GStepR at hg
  split
  ·rename_i hw
   rw [if_pos hw] at hg
   exact .inl (Oper.wp_mono hnext hg)
  ·rename_i hw
   rw [if_neg hw] at hg
   exact hnext _ _ ⟨undef, rfl, ⟨World.grownBy.refl _ _, fun _ => Below.refl _ _⟩, hg⟩
theorem wp_region_growR {P : Program} {id : Nat} {l : List Oper} {Q : Exit → Act → World → Prop} {a : Act} {w : World} (n : Nat) (S : List GSpec) (hm : P.follows .mixedOrders = true) (hkp : ∀ j, j ≠ i0 → ∀ v w w', (zzl S j).p v w → w.grownBy w' rw → (zzl S j).p v w') (hB : growB l.toArray n a.tmps.size = true)
  (hstep : ∀ i o, i < n → l[i]? = some o → ∀ a' w', GBase l.toArray n a a' → w.grownBy w' rw → (i = i0 → Below w.heap.size w w') → (∀ e ∈ o.after, Region.binds .any e = true → opOk l.toArray (zzl S) a' w' e.on) → GStepR rw i0 P l.toArray (zzl S) Q i o a' w')
  (hend : ∀ (u : Nat → Value) w', w.grownBy w' rw → (∀ j d, j < n → (l[j]?).bind (·.dst) = some d → (zzl S j).p (u d) w') → wpList P l.toArray Q (l.drop n) (zqr a (zzd l.toArray n) u) w') :
  (Code.region id l.toArray true).wp P Q a w := by
 refine wp_region_any hm ?_
 have hdr : ∀ {x : World}, w.grownBy x rw → w.drew.grownBy x rw := fun h => ⟨h.os, h.tape, h.output, h.size, h.block⟩
 have hrd : ∀ {x : World}, w.drew.grownBy x rw → w.grownBy x rw := fun h => ⟨h.os, h.tape, h.output, h.size, h.block⟩
 have hn : n ≤ l.length := by
  simp only [growB, Bool.and_eq_true, decide_eq_true_eq] at hB
  simpa using hB.1.1.1.1.1
 have key := wpAny_growR (P := P) (ops := l.toArray) (n := n) (S := zzl S) (Q := Q) (a0 := a) (W0 := w.drew) hkp hB
  (fun i o hi ho a' w' hb hw hp hd => hstep i o hi (by simpa using ho) a' w' hb (hrd hw) (fun e => ⟨(hp e).os, (hp e).tape, (hp e).output, (hp e).size, (hp e).block⟩) hd)
  (fun a' w' hb hw hd => by
   rw [act_eq hb]
   have := hend (fun d => a'.tmps.getD d undef) w' (hrd hw) (fun j d hj hd' => hd j hj d (by simpa using hd'))
   simpa using this)
  n (Array.replicate l.toArray.size false) a w.drew
  ⟨⟨by simp, fun j oj _ hl => (by rw [getD_replicate_false] at hl; cases hl), fun t _ ht => getD_in (by simpa using ht) (getD_replicate_false _ _)⟩, ⟨rfl, rfl, fun _ _ => rfl⟩, World.grownBy.refl _ _, fun _ => Below.refl _ _, fun j _ hl => (by rw [getD_replicate_false] at hl; cases hl)⟩
  (by
   unfold unl
   rw [List.filter_eq_self.2 (fun j _ => by rw [getD_replicate_false]; rfl), List.length_range])
 rw [show n + (l.toArray.size - n) = l.toArray.size by simp; omega] at key
 exact key
def StepsR (rw : Option Nat) (i0 : Nat) (P : Program) (ops : Array Oper) (S : Nat → GSpec) (Q : Exit → Act → World → Prop) (n : Nat) (a : Act) (w : World) : List Oper → Nat → Prop
 | [], _ => True
 | o :: l, i => (∀ a' w', GBase ops n a a' → w.grownBy w' rw → (i = i0 → Below w.heap.size w w') → (∀ j, (o.after.toList.any fun e => Region.binds .any e && e.on == j) = true → opOk ops S a' w' j) → GStepR rw i0 P ops S Q i o a' w') ∧ StepsR rw i0 P ops S Q n a w l (i + 1)
theorem StepsR.nil {P : Program} {ops : Array Oper} {S : Nat → GSpec} {Q : Exit → Act → World → Prop} {n : Nat} {a : Act} {w : World} {i : Nat} : StepsR rw i0 P ops S Q n a w [] i := trivial
theorem StepsR.cons {P : Program} {ops : Array Oper} {S : Nat → GSpec} {Q : Exit → Act → World → Prop} {n : Nat} {a : Act} {w : World} {o : Oper} {l : List Oper} {i : Nat}
  (h : ∀ a' w', GBase ops n a a' → w.grownBy w' rw → (i = i0 → Below w.heap.size w w') → (∀ j, (o.after.toList.any fun e => Region.binds .any e && e.on == j) = true → opOk ops S a' w' j) → GStepR rw i0 P ops S Q i o a' w')
  (hl : StepsR rw i0 P ops S Q n a w l (i + 1)) : StepsR rw i0 P ops S Q n a w (o :: l) i := ⟨h, hl⟩
theorem StepsR.at_ {P : Program} {ops : Array Oper} {S : Nat → GSpec} {Q : Exit → Act → World → Prop} {n : Nat} {a : Act} {w : World} : ∀ {l : List Oper} {i : Nat}, StepsR rw i0 P ops S Q n a w l i → ∀ (k : Nat) (o : Oper), l[k]? = some o →
  ∀ a' w', GBase ops n a a' → w.grownBy w' rw → (i + k = i0 → Below w.heap.size w w') → (∀ j, (o.after.toList.any fun e => Region.binds .any e && e.on == j) = true → opOk ops S a' w' j) → GStepR rw i0 P ops S Q (i + k) o a' w'
 | [], _, _, k, o, hk => by simp at hk
 | o' :: l, i, h, k, o, hk => by
  rcases k with _ | k
  ·simp only [List.getElem?_cons_zero, Option.some.injEq] at hk
   subst hk
   exact h.1
  ·rw [List.getElem?_cons_succ] at hk
   have := StepsR.at_ h.2 k o hk
   rw [show i + (k + 1) = i + 1 + k by omega]
   exact this
theorem zzv {P : Program} {id : Nat} {l : List Oper} {Q : Exit → Act → World → Prop} {a : Act} {w : World} (n : Nat) (S : List GSpec) (ds : List Nat) (hm : P.follows .mixedOrders = true) (hkp : ∀ j, j ≠ i0 → ∀ v w w', (zzl S j).p v w → w.grownBy w' rw → (zzl S j).p v w') (hB : growB l.toArray n a.tmps.size = true)
  (hds : zzd l.toArray n = ds) (hstep : StepsR rw i0 P l.toArray (zzl S) Q n a w (l.take n) 0)
  (hend : ∀ (u : Nat → Value) w', w.grownBy w' rw → (∀ j d, j < n → (l[j]?).bind (·.dst) = some d → (zzl S j).p (u d) w') → wpList P l.toArray Q (l.drop n) (zqr a ds u) w') :
  (Code.region id l.toArray true).wp P Q a w := by
 subst hds
 refine wp_region_growR n S hm hkp hB (fun i o hi ho a' w' hb hw hp hd => ?_) hend
 have := hstep.at_ i o (by rw [List.getElem?_take, if_pos hi]; exact ho) a' w' hb hw (by rw [Nat.zero_add]; exact hp) (fun j hj => by
  obtain ⟨e, he, hh⟩ := List.any_eq_true.1 hj
  simp only [Bool.and_eq_true, beq_iff_eq] at hh
  rw [← hh.2]
  exact hd e (Array.mem_toList_iff.1 he) hh.1)
 rw [Nat.zero_add] at this
 exact this
theorem GStepR.of {P : Program} {ops : Array Oper} {S : Nat → GSpec} {Q : Exit → Act → World → Prop} {i : Nat} {o : Oper} {a : Act} {w : World} (h : GStep P ops S Q i o a w) : GStepR rw i0 P ops S Q i o a w := by
 unfold GStep at h
 unfold GStepR
 split
 ·rename_i hw
  rw [if_pos hw] at h
  refine Oper.wp_mono ?_ h
  rintro a' w' ⟨v, h1, h2, h3⟩
  exact ⟨v, h1, ⟨zzq h2 _, fun _ => h2⟩, h3⟩
 ·rename_i hw
  rw [if_neg hw] at h
  exact h
theorem GStepR.run {P : Program} {ops : Array Oper} {S : Nat → GSpec} {Q : Exit → Act → World → Prop} {o : Oper} {a : Act} {w : World} (hw : Region.wanted o (yielded ops a.tmps) = true) {v : Value} {w' : World} (hr : (execOp a.eval o).run P w = .ok (.value v) w') (hg : w.grownBy w' rw) (hp : (S i0).p v w') : GStepR rw i0 P ops S Q i0 o a w := by
 unfold GStepR
 rw [if_pos hw]
 unfold Oper.wp
 rw [hr]
 exact ⟨v, rfl, ⟨hg, fun h => (h rfl).elim⟩, hp⟩
end
end Go.Proofs.YtkedgombccdamaaGreatDoor
namespace Go.Proofs.YtkedgombccdamaaGreatDoor
open Go.RowKit Go.Maps
set_option linter.unusedVariables false
set_option linter.unusedSimpArgs false
def nodeC (kd : Int) (st : BSet) (A : Option Addr) (n c : Nat) (mi ma : Int) : Array Value :=
 #[.int .i64 kd, .int .u64 (word st 0), .int .u64 (word st 1), .int .u64 (word st 2), .int .u64 (word st 3), .slice A n c, .int .i64 mi, .int .i64 ma]
theorem nodeC_size (kd : Int) (st : BSet) (A : Option Addr) (n c : Nat) (mi ma : Int) : (nodeC kd st A n c mi ma).size = 8 := rfl
theorem nodeC_one (kd : Int) (st : BSet) (A : Option Addr) (n c : Nat) (mi ma : Int) : (nodeC kd st A n c mi ma).all (·.oneCell') = true := by unfold nodeC; simp [Value.oneCell']
theorem zxx {w : World} {g : Nat} {t : TypeId} {kd : Int} {st : BSet} {A : Option Addr} {n c : Nat} {mi ma : Int} (h : Blk w g t (nodeC kd st A n c mi ma)) : RowAt w g 1 (setC st) := by
 intro j v hv
 have hj : j < 4 := by
  rcases Nat.lt_or_ge j 4 with h1 | h1
  ·exact h1
  ·rw [Array.getElem?_eq_none (by rw [zye]; exact h1)] at hv; cases hv
 rw [setC_at st j hj] at hv
 refine (h.cell (1 + j)).trans (Eq.trans ?_ hv)
 match j, hj with
 | 0, _ => rfl
 | 1, _ => rfl
 | 2, _ => rfl
 | 3, _ => rfl
theorem info_node : (Tryz.prog.info? 56).map (·.size) = some 8 := by kernel_rfl
theorem under_nodes : Tryz.prog.underlying 54 = some (.slice (Tryz.prog.elem 54)) := by kernel_rfl
theorem field_node_0 (b off : Nat) (w : World) : (Instr.fieldAt 56 (.pointer (some ⟨b, off, none⟩)) 0).run Tryz.prog w = .ok (.pointer (some ⟨b, off, none⟩)) w := by kernel_rfl
theorem field_node_2 (b off : Nat) (w : World) : (Instr.fieldAt 56 (.pointer (some ⟨b, off, none⟩)) 2).run Tryz.prog w = .ok (.pointer (some ⟨b, off + 5, none⟩)) w := by kernel_rfl
theorem field_node_3 (b off : Nat) (w : World) : (Instr.fieldAt 56 (.pointer (some ⟨b, off, none⟩)) 3).run Tryz.prog w = .ok (.pointer (some ⟨b, off + 6, none⟩)) w := by kernel_rfl
theorem field_node_4 (b off : Nat) (w : World) : (Instr.fieldAt 56 (.pointer (some ⟨b, off, none⟩)) 4).run Tryz.prog w = .ok (.pointer (some ⟨b, off + 7, none⟩)) w := by kernel_rfl
section
variable {ops : Array Oper} {rest : List Oper} {o : Oper} {a : Act} {w : World} {Q : Exit → Act → World → Prop}
theorem zzp (hgd : o.guard = none) (x : Operand) (ho : o.op = .load 56 x)
  (g : Nat) (hx : a.eval x = .pointer (some ⟨g, 0, none⟩)) (kd : Int) (st : BSet) (A : Option Addr) (n c : Nat) (mi ma : Int) (hb : Blk w g 56 (nodeC kd st A n c mi ma))
  (h : wpList Tryz.prog ops Q rest (a.put o.dst (.agg (nodeC kd st A n c mi ma))) w) : wpList Tryz.prog ops Q (o :: rest) a w :=
 wpList_load_row hgd _ x ho g hx _ _ _ _ hb Tryz.underlying56 rfl (info_node.trans (by rw [nodeC_size])) h
theorem zqw (hw : Region.wanted o (yielded ops a.tmps) = true) (x : Operand) (ho : o.op = .load 56 x)
  (g : Nat) (hx : a.eval x = .pointer (some ⟨g, 0, none⟩)) (kd : Int) (st : BSet) (A : Option Addr) (n c : Nat) (mi ma : Int) (hb : Blk w g 56 (nodeC kd st A n c mi ma))
  (h : wpList Tryz.prog ops Q rest (a.put o.dst (.agg (nodeC kd st A n c mi ma))) w) : wpList Tryz.prog ops Q (o :: rest) a w :=
 wpList_w hw (zzp (o := { o with guard := none }) rfl x ho g hx kd st A n c mi ma hb h)
theorem zxg (hgd : o.guard = none) (x : Operand) (ho : o.op = .load 56 x)
  (b off : Nat) (hx : a.eval x = .pointer (some ⟨b, off, none⟩)) (kd : Int) (st : BSet) (A : Option Addr) (n c : Nat) (mi ma : Int) (hr : RowAt w b off (nodeC kd st A n c mi ma))
  (h : wpList Tryz.prog ops Q rest (a.put o.dst (.agg (nodeC kd st A n c mi ma))) w) : wpList Tryz.prog ops Q (o :: rest) a w :=
 wpList_load_at hgd _ x ho b off hx _ _ hr Tryz.underlying56 rfl (info_node.trans (by rw [nodeC_size])) h
theorem zyj (hgd : o.guard = none) (x y : Operand) (ho : o.op = .store 56 x y)
  (g : Nat) (kd : Int) (st : BSet) (A : Option Addr) (n c : Nat) (mi ma : Int) (hx : a.eval x = .pointer (some ⟨g, 0, none⟩)) (hy : a.eval y = .agg (nodeC kd st A n c mi ma)) (old : Array Value) (ho2 : old.size = 8) (hb : Blk w g 56 old)
  (h : ∀ w', Blk w' g 56 (nodeC kd st A n c mi ma) → w.grownBy w' (some g) → wpList Tryz.prog ops Q rest (a.put o.dst undef) w') : wpList Tryz.prog ops Q (o :: rest) a w :=
 wpList_store_row hgd _ x y ho g _ hx hy _ _ hb (info_node.trans (by rw [nodeC_size])) (by rw [nodeC_size, ho2]) (nodeC_one _ _ _ _ _ _ _) (h _ (hb.setRow_same _) (zxs (zzk _ _) _))
theorem wl_run {P : Program} (hgd : o.guard = none) {v : Value} {w' : World} (hr : (execOp a.eval o).run P w = .ok (.value v) w') (h : wpList P ops Q rest (a.put o.dst v) w') : wpList P ops Q (o :: rest) a w :=
 wpList_plain hgd fun _ hK => by
  unfold Oper.wp
  rw [hr]
  exact hK _ _ h
theorem wl_bin {P : Program} (hgd : o.guard = none) (op : BinOp) (t t2 : TypeId) (x y : Operand) (ho : o.op = .binOp op t x y t2) (vx vy v : Value) (hx : a.eval x = vx) (hy : a.eval y = vy)
  (hg : (eqGuard op t x y vx vy).run P w = .ok () w) (hr : (binOp op t vx vy).run P w = .ok v w) (h : wpList P ops Q rest (a.put o.dst v) w) : wpList P ops Q (o :: rest) a w :=
 wl_run hgd (v := v) (by unfold execOp; simp only [ho, hx, hy, Sem.run_bind, hg, Result.andThen_ok, hr, Sem.run_pure]) h
theorem wl_eql_set (hgd : o.guard = none) (x y : Operand) (t2 : TypeId) (ho : o.op = .binOp .eql 53 x y t2) (p q : BSet) (hx : a.eval x = .agg (setC p)) (hy : a.eval y = .agg (setC q))
  (h : wpList Tryz.prog ops Q rest (a.put o.dst (.bool (decide (p = q)))) w) : wpList Tryz.prog ops Q (o :: rest) a w :=
 wl_bin hgd _ _ _ x y ho _ _ _ hx hy (run_eqGuard_agg w _ _ _ _ _ _ guard_set) (run_eql_set p q w) h
theorem wl_eql_setz (hgd : o.guard = none) (x y : Operand) (t2 : TypeId) (ho : o.op = .binOp .eql 53 x y t2) (p q : BSet) (hx : a.eval x = .agg (setC p)) (hy : a.eval y = .agg (setC q)) (z : Bool) (hz : decide (p = q) = z)
  (h : wpList Tryz.prog ops Q rest (a.put o.dst (.bool z)) w) : wpList Tryz.prog ops Q (o :: rest) a w :=
 wl_eql_set hgd x y t2 ho p q hx hy (hz ▸ h)
theorem zyl (hgd : o.guard = none) (ho : o.op = .build 53 #[]) (h : wpList Tryz.prog ops Q rest (a.put o.dst (.agg (setC 0))) w) : wpList Tryz.prog ops Q (o :: rest) a w :=
 wl_run hgd (v := .agg (setC 0)) (by unfold execOp; simp only [ho, List.map_toArray, List.map_nil, Sem.run_bind, build_set0, Result.andThen_ok, Sem.run_pure]) h
end
inductive NdIn (w : World) (B : Nat) : Nd → Array Value → Prop
 | mk (kd : Int) (st : BSet) (l : List Nd) (mi ma : Int) (A : Option Addr) (n c : Nat) (cl : List (Array Value)) (hn : n = l.length) (hcl : cl.length = l.length) (hmax : n ≤ 1099511627776)
   (hs : SliceOf w B 8 (fun x => x) A cl) (hr : ∀ (i : Nat) (h : i < l.length) (h2 : i < cl.length), NdIn w B l[i] cl[i]) : NdIn w B (.mk kd st l mi ma) (nodeC kd st A n c mi ma)
theorem NdIn.inv {w : World} {B : Nat} {kd : Int} {st : BSet} {l : List Nd} {mi ma : Int} {cs : Array Value} (h : NdIn w B (.mk kd st l mi ma) cs) :
  ∃ (A : Option Addr) (n c : Nat) (cl : List (Array Value)), cs = nodeC kd st A n c mi ma ∧ n = l.length ∧ cl.length = l.length ∧ n ≤ 1099511627776 ∧ SliceOf w B 8 (fun x => x) A cl ∧ ∀ (i : Nat) (h : i < l.length) (h2 : i < cl.length), NdIn w B l[i] cl[i] := by
 cases h with
 | mk kd st l mi ma A n c cl hn hcl hmax hs hr => exact ⟨A, n, c, cl, rfl, hn, hcl, hmax, hs, hr⟩
theorem NdIn.keep {w w' : World} {B : Nat} (hk : ∀ k, k < B → w'.heap[k]? = w.heap[k]?) {nd : Nd} {cs : Array Value} (h : NdIn w B nd cs) : NdIn w' B nd cs := by
 induction h with
 | mk kd st l mi ma A n c cl hn hcl hmax hs hr ih => exact .mk kd st l mi ma A n c cl hn hcl hmax (hs.keep hk) ih
theorem NdIn.then_ {w w' : World} {B : Nat} {nd : Nd} {cs : Array Value} (h : NdIn w B nd cs) (hb : Below w.heap.size w w') (hB : B ≤ w.heap.size) : NdIn w' B nd cs := h.keep fun k hk => hb.block k (by omega)
end Go.Proofs.YtkedgombccdamaaGreatDoor
