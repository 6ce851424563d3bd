/- Plain lemmas: counting the bits of a word of 64 bits by adding up in parallel (the way math/bits.OnesCount64 goes). No condition beyond those named in each lemma. -/
import Derived.Test.YtjpiebapemalfaaSet
namespace Go.Proofs.Ytjpiebapemalfaa
open Go.RowKit
set_option linter.unusedVariables false
set_option linter.unusedSimpArgs false

def val : List Nat → Nat
  | [] => 0
  | a :: l => a + 256 * val l
theorem testBit_cons {a b : Nat} (ha : a < 256) (j : Nat) : (a + 256 * b).testBit j = if j < 8 then a.testBit j else b.testBit (j - 8) := by
  have h := Nat.testBit_two_pow_mul_add b (show a < 2 ^ 8 from ha) j
  rw [show 2 ^ 8 * b + a = a + 256 * b by omega] at h
  exact h
theorem and_split {a b c d : Nat} (ha : a < 256) (hc : c < 256) : (a + 256 * b) &&& (c + 256 * d) = (a &&& c) + 256 * (b &&& d) := by
  apply Nat.eq_of_testBit_eq
  intro j
  have hac : a &&& c < 256 := Nat.lt_of_le_of_lt Nat.and_le_left ha
  rw [Nat.testBit_and, testBit_cons ha, testBit_cons hc, testBit_cons hac]
  by_cases h : j < 8 <;> simp [h]
def masks (c : Nat) (n : Nat) : Nat := val (List.replicate n c)
def g1 (a : Nat) : Nat := (a / 2 &&& 85) + (a &&& 85)
def g2 (a : Nat) : Nat := (a / 4 &&& 51) + (a &&& 51)
def g3 (a : Nat) : Nat := (a / 16 + a) &&& 15
theorem half_split (a b : Nat) : (a + 256 * b) / 2 = (a / 2 + 128 * (b % 2)) + 256 * (b / 2) := by omega
theorem quarter_split (a b : Nat) : (a + 256 * b) / 4 = (a / 4 + 64 * (b % 4)) + 256 * (b / 4) := by omega
theorem sixteenth_split (a b : Nat) : (a + 256 * b) / 16 = (a / 16 + 16 * (b % 16)) + 256 * (b / 16) := by omega
theorem f1 : ∀ a, a < 128 → ∀ r, r < 2 → (a + 128 * r) &&& 85 = a &&& 85 := by decide
theorem f2 : ∀ a, a < 64 → ∀ r, r < 4 → (a + 64 * r) &&& 51 = a &&& 51 := by decide
theorem f3 : ∀ a, a < 32 → ∀ r, r < 8 → (a + 16 * r) &&& 15 = a &&& 15 := by decide
theorem step1 : ∀ (l : List Nat), (∀ a ∈ l, a < 256) → (val l / 2 &&& masks 85 l.length) + (val l &&& masks 85 l.length) = val (l.map g1) := by
  intro l
  induction l with
  | nil => intro _; rfl
  | cons a l ih =>
    intro h
    have ha := h a (by simp)
    have ih' := ih (fun b hb => h b (by simp [hb]))
    rw [List.map_cons, val, val, ← ih']
    rw [show masks 85 (a :: l).length = 85 + 256 * masks 85 l.length from rfl, half_split, and_split (by omega) (by omega), and_split ha (by omega), f1 _ (by omega) _ (by omega)]
    unfold g1
    omega
theorem step2 : ∀ (l : List Nat), (∀ a ∈ l, a < 256) → (val l / 4 &&& masks 51 l.length) + (val l &&& masks 51 l.length) = val (l.map g2) := by
  intro l
  induction l with
  | nil => intro _; rfl
  | cons a l ih =>
    intro h
    have ha := h a (by simp)
    have ih' := ih (fun b hb => h b (by simp [hb]))
    rw [List.map_cons, val, val, ← ih']
    rw [show masks 51 (a :: l).length = 51 + 256 * masks 51 l.length from rfl, quarter_split, and_split (by omega) (by omega), and_split ha (by omega), f2 _ (by omega) _ (by omega)]
    unfold g2
    omega
theorem step3 : ∀ (l : List Nat), (∀ a ∈ l, a % 16 ≤ 4 ∧ a / 16 ≤ 4) → (val l / 16 + val l) &&& masks 15 l.length = val (l.map g3) := by
  intro l
  induction l with
  | nil => intro _; rfl
  | cons a l ih =>
    intro h
    have ha := h a (by simp)
    have ih' := ih (fun b hb => h b (by simp [hb]))
    have hl : val l % 16 ≤ 4 := by
      cases l with
      | nil => simp [val]
      | cons b l => have := h b (by simp); rw [val]; omega
    rw [List.map_cons, val, val, ← ih']
    rw [show masks 15 (a :: l).length = 15 + 256 * masks 15 l.length from rfl]
    have e : (a + 256 * val l) / 16 + (a + 256 * val l) = ((a / 16 + a) + 16 * (val l % 16)) + 256 * (val l / 16 + val l) := by omega
    rw [e, and_split (by omega) (by omega)]
    have e2 : (a / 16 + a + 16 * (val l % 16)) &&& 15 = g3 a := by
      unfold g3
      have h1 : ∀ n : Nat, n &&& 15 = n % 16 := fun n => Nat.and_two_pow_sub_one_eq_mod n 4
      rw [h1, h1]
      omega
    rw [e2]
theorem g1_ok : ∀ a, a < 256 → g1 a < 256 := by decide +kernel
theorem g2_ok : ∀ a, a < 256 → g2 (g1 a) % 16 ≤ 4 ∧ g2 (g1 a) / 16 ≤ 4 := by decide +kernel
def pc (n : Nat) (x : Nat) : Nat := ((List.range n).filter fun i => x.testBit i).length
theorem g3_ok : ∀ a, a < 256 → g3 (g2 (g1 a)) = pc 8 a := by decide +kernel
theorem pc8_le (a : Nat) : pc 8 a ≤ 8 := by
  have := List.length_filter_le (fun i => a.testBit i) (List.range 8)
  simpa [pc] using this
theorem pc_add (n m x : Nat) : pc (n + m) x = pc n x + ((List.range m).filter fun i => x.testBit (n + i)).length := by
  unfold pc
  rw [List.range_add, List.filter_append, List.length_append, List.filter_map, List.length_map]
  rfl
theorem pc_cons {a b : Nat} (ha : a < 256) (m : Nat) : pc (8 + m) (a + 256 * b) = pc 8 a + pc m b := by
  rw [pc_add]
  unfold pc
  congr 1
  · congr 1
    apply List.filter_congr
    intro i hi
    have : i < 8 := by simpa using hi
    rw [testBit_cons ha]; simp [this]
  · congr 1
    apply List.filter_congr
    intro i hi
    rw [testBit_cons ha]
    have e : ¬ 8 + i < 8 := by omega
    have e2 : 8 + i - 8 = i := by omega
    simp [e, e2]

def sumPc (p : List Nat) : Nat := p.foldr (· + ·) 0
theorem pc_val : ∀ (l : List Nat), (∀ a ∈ l, a < 256) → pc (8 * l.length) (val l) = sumPc (l.map (pc 8)) := by
  intro l
  induction l with
  | nil => intro _; rfl
  | cons a l ih =>
    intro h
    have ha := h a (by simp)
    rw [val, List.length_cons, show 8 * (l.length + 1) = 8 + 8 * l.length by omega, pc_cons ha, ih (fun b hb => h b (by simp [hb]))]
    rfl
theorem bytes_of (x : Nat) (hx : x < 18446744073709551616) : ∃ l : List Nat, l.length = 8 ∧ (∀ a ∈ l, a < 256) ∧ x = val l := by
  refine ⟨[x % 256, x / 256 % 256, x / 65536 % 256, x / 16777216 % 256, x / 4294967296 % 256, x / 1099511627776 % 256, x / 281474976710656 % 256, x / 72057594037927936 % 256], rfl, ?_, ?_⟩
  · intro a ha
    simp only [List.mem_cons, List.not_mem_nil, or_false] at ha
    omega
  · simp only [val]
    omega
/-- the last three steps, on eight small numbers -/
theorem fold8 (p0 p1 p2 p3 p4 p5 p6 p7 : Nat) (h0 : p0 ≤ 8) (h1 : p1 ≤ 8) (h2 : p2 ≤ 8) (h3 : p3 ≤ 8) (h4 : p4 ≤ 8) (h5 : p5 ≤ 8) (h6 : p6 ≤ 8) (h7 : p7 ≤ 8) (y y1 y2 y3 : Nat)
    (hy : y = val [p0, p1, p2, p3, p4, p5, p6, p7]) (hy1 : y1 = y + y / 256) (hy2 : y2 = y1 + y1 / 65536) (hy3 : y3 = y2 + y2 / 4294967296) :
    y3 % 128 = p0 + (p1 + (p2 + (p3 + (p4 + (p5 + (p6 + p7)))))) ∧ y < 1000000000000000000 ∧ y1 < 1000000000000000000 ∧ y2 < 1000000000000000000 ∧ y3 < 1000000000000000000 := by
  simp only [val, Nat.mul_zero, Nat.add_zero] at hy
  obtain ⟨Y1, hY1⟩ : ∃ Y1, Y1 = p1 + 256 * (p2 + 256 * (p3 + 256 * (p4 + 256 * (p5 + 256 * (p6 + 256 * p7))))) := ⟨_, rfl⟩
  have e1 : y / 256 = Y1 := by rw [← hY1] at hy; clear hY1; omega
  rw [e1] at hy1
  obtain ⟨Z, hZ⟩ : ∃ Z, Z = (p2 + p3) + 256 * ((p3 + p4) + 256 * ((p4 + p5) + 256 * ((p5 + p6) + 256 * ((p6 + p7) + 256 * p7)))) := ⟨_, rfl⟩
  have a1 : y1 = (p0 + p1) + 256 * ((p1 + p2) + 256 * Z) := by rw [hy1, hy, hY1, hZ]; clear e1 hy2 hy3; omega
  have e2 : y1 / 65536 = Z := by clear hZ hY1 hy hy1 e1 hy2 hy3; omega
  rw [e2] at hy2
  obtain ⟨V, hV⟩ : ∃ V, V = (p4 + p5 + p6 + p7) + 256 * ((p5 + p6 + p7) + 256 * ((p6 + p7) + 256 * p7)) := ⟨_, rfl⟩
  have a2 : y2 = (p0 + p1 + p2 + p3) + 256 * ((p1 + p2 + p3 + p4) + 256 * ((p2 + p3 + p4 + p5) + 256 * ((p3 + p4 + p5 + p6) + 256 * V))) := by rw [hy2, a1, hZ, hV]; clear e1 e2 hy hy1 hy2 hy3 a1 hY1; omega
  have e3 : y2 / 4294967296 = V := by clear hZ hY1 hy hy1 e1 hy2 hy3 hV a1 e2; omega
  rw [e3] at hy3
  obtain ⟨W, hW⟩ : ∃ W, W = (p1 + p2 + p3 + p4 + p5 + p6 + p7) + 256 * ((p2 + p3 + p4 + p5 + p6 + p7) + 256 * ((p3 + p4 + p5 + p6 + p7) + 256 * ((p4 + p5 + p6 + p7) + 256 * ((p5 + p6 + p7) + 256 * ((p6 + p7) + 256 * p7))))) := ⟨_, rfl⟩
  have a3 : y3 = (p0 + p1 + p2 + p3 + p4 + p5 + p6 + p7) + 256 * W - 256 * 0 := by
    rw [hy3, a2, hW, hV]; clear e1 e2 e3 hy hy1 hy2 hy3 a1 a2 hY1 hZ; omega
  have hb : W < 3900000000000000 := by rw [hW]; clear e1 e2 e3 hy hy1 hy2 hy3 a1 a2 a3 hY1 hZ hV; omega
  clear hW hV hZ hY1 e1 e2 e3
  refine ⟨by clear hy hy1 hy2 hy3 a1 a2; omega, ?_, ?_, ?_, by clear hy hy1 hy2 a1 a2; omega⟩ <;> clear a1 a2 <;> omega
theorem val_lt : ∀ (l : List Nat), (∀ a ∈ l, a < 256) → val l < 256 ^ l.length := by
  intro l
  induction l with
  | nil => intro _; simp [val]
  | cons a l ih =>
    intro h
    have ha := h a (by simp)
    have ih' := ih (fun b hb => h b (by simp [hb]))
    rw [val, List.length_cons, Nat.pow_succ]
    omega
theorem val_lt8 {l : List Nat} (hl : l.length = 8) (h : ∀ a ∈ l, a < 256) : val l < 18446744073709551616 := by
  have := val_lt l h
  rw [hl] at this
  exact this
theorem val_half : ∀ (l : List Nat), (∀ a ∈ l, a < 128) → 2 * val l < 256 ^ l.length := by
  intro l
  induction l with
  | nil => intro _; simp [val]
  | cons a l ih =>
    intro h
    have ha := h a (by simp)
    have ih' := ih (fun b hb => h b (by simp [hb]))
    rw [val, List.length_cons, Nat.pow_succ]
    omega
theorem list8 {α : Type} {l : List α} (h : l.length = 8) : ∃ p0 p1 p2 p3 p4 p5 p6 p7, l = [p0, p1, p2, p3, p4, p5, p6, p7] := by
  match l, h with
  | [p0, p1, p2, p3, p4, p5, p6, p7], _ => exact ⟨_, _, _, _, _, _, _, _, rfl⟩
theorem wrapN {n : Nat} (h : n < 18446744073709551616) : IntKind.u64.wrap (n : Int) = n := by
  rw [IntKind.wrap_u64]
  exact Int.emod_eq_of_lt (Int.natCast_nonneg _) (Int.ofNat_lt.2 h)
theorem andN (a m : Nat) (ha : a < 18446744073709551616) (hm : m < 18446744073709551616) : bits .and .u64 (a : Int) (m : Int) = ((a &&& m : Nat) : Int) := u64_and_nat a m ha hm
theorem map_bd {l : List Nat} {f : Nat → Nat} {n : Nat} (h : ∀ a ∈ l, a < n) {m : Nat} (hf : ∀ a, a < n → f a < m) : ∀ a ∈ l.map f, a < m := by
  intro a ha
  obtain ⟨b, hb, rfl⟩ := List.mem_map.1 ha
  exact hf b (h b hb)
theorem g2_lt : ∀ a, a < 256 → g2 (g1 a) < 256 := by decide +kernel
theorem g3_le : ∀ a, a < 256 → g3 (g2 (g1 a)) < 9 := by decide +kernel

theorem i64_and_nat (a b : Nat) (ha : a < 9223372036854775808) (hb : b < 9223372036854775808) : bits .and .i64 (a : Int) (b : Int) = ((a &&& b : Nat) : Int) := by
  have hx : a &&& b < 2 ^ 63 := Nat.and_lt_two_pow _ (by omega)
  have e : ∀ n : Nat, n < 9223372036854775808 → (BitVec.ofInt 64 (n : Int)).toNat = n := fun n hn => by
    rw [BitVec.ofInt_natCast, BitVec.toNat_ofNat]; exact Nat.mod_eq_of_lt (by omega)
  show IntKind.i64.wrap ((BitVec.ofInt 64 (a : Int) &&& BitVec.ofInt 64 (b : Int)).toNat : Int) = _
  rw [BitVec.toNat_and, e a ha, e b hb, IntKind.wrap_i64]
  omega

theorem last_and (y : Nat) (h : y < 1000000000000000000) : bits BinOp.and IntKind.i64 (wrap64 (y : Int)) 127 = ((y &&& 127 : Nat) : Int) := by
  have e64 : wrap64 (y : Int) = (y : Int) := by unfold wrap64; omega
  have := i64_and_nat y 127 (by omega) (by omega)
  rw [e64]
  exact this
theorem ones_calc (x : Nat) (hx : x < 18446744073709551616) (Y1 Y2 A Y3 Y4 Y5 Y6 : Int)
    (h1 : Y1 = IntKind.u64.wrap (bits BinOp.and IntKind.u64 ((x : Int) / 2) 6148914691236517205 + bits BinOp.and IntKind.u64 (x : Int) 6148914691236517205))
    (h2 : Y2 = IntKind.u64.wrap (bits BinOp.and IntKind.u64 (Y1 / 4) 3689348814741910323 + bits BinOp.and IntKind.u64 Y1 3689348814741910323))
    (hA : A = IntKind.u64.wrap (Y2 / 16 + Y2))
    (h3 : Y3 = bits BinOp.and IntKind.u64 A 1085102592571150095)
    (h4 : Y4 = IntKind.u64.wrap (Y3 + Y3 / 256))
    (h5 : Y5 = IntKind.u64.wrap (Y4 + Y4 / 65536))
    (h6 : Y6 = IntKind.u64.wrap (Y5 + Y5 / 4294967296)) :
    bits BinOp.and IntKind.i64 (wrap64 Y6) 127 = ((pc 64 x : Nat) : Int) := by
  obtain ⟨l, hl, hb, rfl⟩ := bytes_of x hx
  have s1 := step1 l hb
  rw [hl, show masks 85 8 = 6148914691236517205 from rfl] at s1
  have b1 := map_bd hb g1_ok
  have v1 := val_lt8 (by simpa using hl) b1
  have i2 : ((val l : Nat) : Int) / 2 = ((val l / 2 : Nat) : Int) := rfl
  have n1 : Y1 = ((val (l.map g1) : Nat) : Int) := by
    rw [h1, i2, show (6148914691236517205 : Int) = ((6148914691236517205 : Nat) : Int) from rfl, andN _ _ (by omega) (by omega), andN _ _ hx (by omega), ← Int.natCast_add, s1, wrapN v1]
  have s2 := step2 (l.map g1) b1
  rw [List.length_map, hl, show masks 51 8 = 3689348814741910323 from rfl, List.map_map] at s2
  have b2 : ∀ a ∈ l.map (g2 ∘ g1), a < 256 := map_bd hb g2_lt
  have v2 := val_lt8 (by simpa using hl) b2
  have n2 : Y2 = ((val (l.map (g2 ∘ g1)) : Nat) : Int) := by
    rw [h2, n1, show ((val (l.map g1) : Nat) : Int) / 4 = ((val (l.map g1) / 4 : Nat) : Int) from rfl, show (3689348814741910323 : Int) = ((3689348814741910323 : Nat) : Int) from rfl, andN _ _ (by omega) (by omega), andN _ _ v1 (by omega), ← Int.natCast_add, s2, wrapN v2]
  have c2 : ∀ a ∈ l.map (g2 ∘ g1), a % 16 ≤ 4 ∧ a / 16 ≤ 4 := by
    intro a ha
    obtain ⟨b, hb', rfl⟩ := List.mem_map.1 ha
    exact g2_ok b (hb b hb')
  have s3 := step3 _ c2
  rw [List.length_map, hl, show masks 15 8 = 1085102592571150095 from rfl, List.map_map] at s3
  have v2' : 2 * val (l.map (g2 ∘ g1)) < 18446744073709551616 := by
    have h := val_half (l.map (g2 ∘ g1)) (fun a ha => by have := c2 a ha; omega)
    rw [List.length_map, hl] at h
    exact h
  have nA : A = ((val (l.map (g2 ∘ g1)) / 16 + val (l.map (g2 ∘ g1)) : Nat) : Int) := by
    rw [hA, n2, show ((val (l.map (g2 ∘ g1)) : Nat) : Int) / 16 = ((val (l.map (g2 ∘ g1)) / 16 : Nat) : Int) from rfl, ← Int.natCast_add, wrapN (by omega)]
  have n3 : Y3 = ((val (l.map (g3 ∘ (g2 ∘ g1))) : Nat) : Int) := by
    rw [h3, nA, show (1085102592571150095 : Int) = ((1085102592571150095 : Nat) : Int) from rfl, andN _ _ (by omega) (by omega), s3]
  have hp : l.map (g3 ∘ (g2 ∘ g1)) = l.map (pc 8) := by
    apply List.map_congr_left
    intro a ha
    exact g3_ok a (hb a ha)
  rw [hp] at n3
  rw [show (64 : Nat) = 8 * l.length by rw [hl], pc_val l hb]
  clear s1 s2 s3 n1 n2 nA h1 h2 hA h3 b1 b2 c2 v1 v2 v2' i2 hp hx
  obtain ⟨p0, p1, p2, p3, p4, p5, p6, p7, rfl⟩ := list8 hl
  · simp only [List.map_cons, List.map_nil] at n3 ⊢
    obtain ⟨e, q0, q1, q2, q3⟩ := fold8 (pc 8 p0) (pc 8 p1) (pc 8 p2) (pc 8 p3) (pc 8 p4) (pc 8 p5) (pc 8 p6) (pc 8 p7) (pc8_le _) (pc8_le _) (pc8_le _) (pc8_le _) (pc8_le _) (pc8_le _) (pc8_le _) (pc8_le _) _ _ _ _ rfl rfl rfl rfl
    generalize val [pc 8 p0, pc 8 p1, pc 8 p2, pc 8 p3, pc 8 p4, pc 8 p5, pc 8 p6, pc 8 p7] = y at n3 e q0 q1 q2 q3
    have n4 : Y4 = ((y + y / 256 : Nat) : Int) := by rw [h4, n3, show ((y : Nat) : Int) / 256 = ((y / 256 : Nat) : Int) from rfl, ← Int.natCast_add, wrapN (by omega)]
    generalize y + y / 256 = y1 at n4 e q1 q2 q3
    have n5 : Y5 = ((y1 + y1 / 65536 : Nat) : Int) := by rw [h5, n4, show ((y1 : Nat) : Int) / 65536 = ((y1 / 65536 : Nat) : Int) from rfl, ← Int.natCast_add, wrapN (by omega)]
    generalize y1 + y1 / 65536 = y2 at n5 e q2 q3
    have n6 : Y6 = ((y2 + y2 / 4294967296 : Nat) : Int) := by rw [h6, n5, show ((y2 : Nat) : Int) / 4294967296 = ((y2 / 4294967296 : Nat) : Int) from rfl, ← Int.natCast_add, wrapN (by omega)]
    generalize y2 + y2 / 4294967296 = y3 at n6 e q3
    have hm : y3 &&& 127 = y3 % 128 := Nat.and_two_pow_sub_one_eq_mod y3 7
    clear h4 h5 h6 n3 n4 n5
    rw [n6, last_and y3 q3, hm, e]
    simp [sumPc]

theorem cntTo_word (x : BSet) (k : Nat) : cntTo x (64 * k + 64) = cntTo x (64 * k) + pc 64 (word x k) := by
  unfold cntTo pc
  rw [List.range_add, List.filter_append, List.length_append, List.filter_map, List.length_map]
  congr 2
  apply List.filter_congr
  intro i hi
  have : i < 64 := by simpa using hi
  rw [testBit_word]
  simp [this]
theorem pc_le (n x : Nat) : pc n x ≤ n := by
  have := List.length_filter_le (fun i => x.testBit i) (List.range n)
  simpa [pc] using this

end Go.Proofs.Ytjpiebapemalfaa
