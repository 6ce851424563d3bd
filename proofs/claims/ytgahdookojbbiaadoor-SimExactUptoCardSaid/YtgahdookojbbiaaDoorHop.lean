/- Plain laws of a walk's step by a byte. No program in sight. No condition beyond those named in each lemma. -/
import Derived.Test.YtgahdookojbbiaaDoorGoes
namespace Go.Proofs.YtgahdookojbbiaaDoor
open Go.RowKit
set_option linter.unusedVariables false
set_option linter.unusedSimpArgs false

def takes (c : Nat) (d : Edg) : Bool := d.kd == 2 && d.st.getLsbD c
def hop1 (c y : Nat) (d : Edg) : Nat := if takes c d then y ||| 2 ^ d.tt.toNat else y
theorem hop1_no {c y : Nat} {d : Edg} (h : takes c d = false) : hop1 c y d = y := by unfold hop1; rw [h]; rfl
theorem hop1_yes {c y : Nat} {d : Edg} (h : takes c d = true) : hop1 c y d = y ||| 2 ^ d.tt.toNat := by unfold hop1; rw [h]; rfl
def hopE (l : List Edg) (c y : Nat) : Nat := l.foldl (hop1 c) y
def hopL (E : List Edg) (c : Nat) (ns : List Nat) (y : Nat) : Nat := ns.foldl (fun y n => hopE (edgesAt E n) c y) y
theorem hopE_take (l : List Edg) (c y j : Nat) (hj : j < l.length) : hopE (l.take (j + 1)) c y = hop1 c (hopE (l.take j) c y) l[j] := by
  unfold hopE
  rw [List.take_succ_eq_append_getElem hj, List.foldl_append]
  rfl
theorem hopL_snoc (E : List Edg) (c : Nat) (ns : List Nat) (n y : Nat) : hopL E c (ns ++ [n]) y = hopE (edgesAt E n) c (hopL E c ns y) := by simp [hopL]
theorem hop1_bit (c y i : Nat) (d : Edg) : (hop1 c y d).testBit i = (y.testBit i || (takes c d && decide (d.tt.toNat = i))) := by
  unfold hop1
  cases h : takes c d
  · simp
  · rw [if_pos rfl, testBit_or_pow, Bool.true_and]
theorem hopE_bit (c i : Nat) : ∀ (l : List Edg) (y : Nat), (hopE l c y).testBit i = true ↔ y.testBit i = true ∨ ∃ d ∈ l, takes c d = true ∧ d.tt.toNat = i
  | [], y => by simp [hopE]
  | d :: l, y => by
    have ih := hopE_bit c i l (hop1 c y d)
    unfold hopE at ih ⊢
    rw [List.foldl_cons, ih, hop1_bit]
    simp only [Bool.or_eq_true, Bool.and_eq_true, decide_eq_true_eq, List.mem_cons, exists_eq_or_imp]
    constructor
    · rintro ((h | h) | h)
      · exact .inl h
      · exact .inr (.inl h)
      · exact .inr (.inr h)
    · rintro (h | h | h)
      · exact .inl (.inl h)
      · exact .inl (.inr h)
      · exact .inr h
theorem hopL_bit (E : List Edg) (c i : Nat) : ∀ (ns : List Nat) (y : Nat), (hopL E c ns y).testBit i = true ↔ y.testBit i = true ∨ ∃ n ∈ ns, ∃ d ∈ edgesAt E n, takes c d = true ∧ d.tt.toNat = i
  | [], y => by simp [hopL]
  | n :: ns, y => by
    have ih := hopL_bit E c i ns (hopE (edgesAt E n) c y)
    unfold hopL at ih ⊢
    rw [List.foldl_cons, ih, hopE_bit]
    simp only [List.mem_cons, exists_eq_or_imp]
    constructor
    · rintro ((h | h) | h)
      · exact .inl h
      · exact .inr (.inl h)
      · exact .inr (.inr h)
    · rintro (h | h | h)
      · exact .inl (.inl h)
      · exact .inl (.inr h)
      · exact .inr h
theorem hop1_below {c y N : Nat} {d : Edg} (h : below y N) (hd : 0 ≤ d.tt ∧ d.tt < N) : below (hop1 c y d) N := fun i hi => by
  rw [hop1_bit] at hi
  simp only [Bool.or_eq_true, Bool.and_eq_true, decide_eq_true_eq] at hi
  rcases hi with hi | hi
  · exact h i hi
  · omega
theorem hopL_byte {E : List Edg} {N x c : Nat} (hN : 1 ≤ N) (hE : ∀ d ∈ E, (0 ≤ d.fr ∧ d.fr < N) ∧ 0 ≤ d.tt ∧ d.tt < N) : hopL E c (bitsTo x N) 0 ||| 1 = byteN E N x c := by
  apply bits_ext
  intro i
  rw [show (1 : Nat) = 2 ^ 0 from rfl, testBit_or_pow, Bool.or_eq_true, hopL_bit, decide_eq_true_eq, byte_bit]
  simp only [Nat.zero_testBit, Bool.false_eq_true, false_or]
  constructor
  · rintro (⟨n, hn, d, hd, h2, h3⟩ | rfl)
    · rw [mem_bitsTo] at hn
      rw [mem_edgesAt] at hd
      have hb := hE d hd.1
      unfold takes at h2
      rw [Bool.and_eq_true, beq_iff_eq] at h2
      refine ⟨by omega, .inr ⟨d, hd.1, h2.1, ?_, h2.2, h3⟩⟩
      rw [hd.2]
      exact hn.2
    · exact ⟨hN, .inl rfl⟩
  · rintro ⟨hi, rfl | ⟨d, hd, h2, h3, h4, h5⟩⟩
    · exact .inr rfl
    · have hb := hE d hd
      refine .inl ⟨d.fr.toNat, ?_, d, ?_, ?_, h5⟩
      · rw [mem_bitsTo]
        exact ⟨by omega, h3⟩
      · rw [mem_edgesAt]
        exact ⟨hd, by omega⟩
      · unfold takes
        rw [h2, h4]
        rfl
end Go.Proofs.YtgahdookojbbiaaDoor
