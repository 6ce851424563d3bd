/- Plain laws of a machine that is turned about, and of what its walks tell. No program in sight. No condition beyond those named in each lemma. -/
import Derived.Test.YtgahdookojbbiaaDoorSimQ
namespace Go.Proofs.YtgahdookojbbiaaDoor
open Go.RowKit
set_option linter.unusedVariables false
set_option linter.unusedSimpArgs false

theorem sorted_eq : ∀ (l l' : List Nat), l.Pairwise (· < ·) → l'.Pairwise (· < ·) → (∀ a, a ∈ l ↔ a ∈ l') → l = l'
  | [], [], _, _, _ => rfl
  | [], b :: l', _, _, h => absurd ((h b).2 (by simp)) (by simp)
  | a :: l, [], _, _, h => absurd ((h a).1 (by simp)) (by simp)
  | a :: l, b :: l', h1, h2, h => by
    rw [List.pairwise_cons] at h1 h2
    have hab : a = b := by
      have e1 := (h a).1 (by simp)
      have e2 := (h b).2 (by simp)
      rw [List.mem_cons] at e1 e2
      rcases e1 with e1 | e1
      · exact e1
      · rcases e2 with e2 | e2
        · exact e2.symm
        · have := h1.1 b e2
          have := h2.1 a e1
          omega
    subst hab
    refine congrArg _ (sorted_eq l l' h1.2 h2.2 fun c => ?_)
    have hc := h c
    rw [List.mem_cons, List.mem_cons] at hc
    constructor
    · intro hm
      have := h1.1 c hm
      rcases hc.1 (.inr hm) with e | e
      · omega
      · exact e
    · intro hm
      have := h2.1 c hm
      rcases hc.2 (.inr hm) with e | e
      · omega
      · exact e
theorem bitsTo_sorted (x : Nat) : ∀ n, (bitsTo x n).Pairwise (· < ·)
  | 0 => by simp [bitsTo]
  | n + 1 => by
    rw [bitsTo_succ]
    split
    · rw [List.pairwise_append]
      refine ⟨bitsTo_sorted x n, by simp, fun a ha b hb => ?_⟩
      rw [mem_bitsTo] at ha
      have : b = n := by simpa using hb
      omega
    · exact bitsTo_sorted x n
theorem bitsTo_zero_cons {x N : Nat} (h0 : x.testBit 0 = true) (hN : 1 ≤ N) : ∃ rest, bitsTo x N = 0 :: rest := by
  have hm : 0 ∈ bitsTo x N := by rw [mem_bitsTo]; exact ⟨hN, h0⟩
  have hs := bitsTo_sorted x N
  rcases hl : bitsTo x N with _ | ⟨a, rest⟩
  · rw [hl] at hm; simp at hm
  · rw [hl, List.pairwise_cons] at hs
    rw [hl, List.mem_cons] at hm
    rcases hm with rfl | hm
    · exact ⟨rest, rfl⟩
    · have := hs.1 0 hm
      omega
theorem bitsTo_turned {x y N : Nat} (h : Turned x y N) (h0 : x.testBit 0 = true) (hN : 1 ≤ N) : ∃ rest, bitsTo x N = 0 :: rest ∧ bitsTo y N = 0 :: (rest.map (mirror · N)).reverse := by
  obtain ⟨rest, hr⟩ := bitsTo_zero_cons h0 hN
  have hs := bitsTo_sorted x N
  rw [hr, List.pairwise_cons] at hs
  have hmem : ∀ a, a ∈ rest ↔ a ≠ 0 ∧ a < N ∧ x.testBit a = true := fun a => by
    have hm := mem_bitsTo x N a
    rw [hr, List.mem_cons] at hm
    constructor
    · intro ha
      have := hs.1 a ha
      exact ⟨by omega, hm.1 (.inr ha)⟩
    · rintro ⟨h1, h2⟩
      rcases hm.2 h2 with e | e
      · exact absurd e h1
      · exact e
  refine ⟨rest, hr, sorted_eq _ _ (bitsTo_sorted y N) ?_ fun a => ?_⟩
  · rw [List.pairwise_cons, List.pairwise_reverse, List.pairwise_map]
    refine ⟨fun a ha => ?_, ?_⟩
    · rw [List.mem_reverse, List.mem_map] at ha
      obtain ⟨b, hb, rfl⟩ := ha
      have := (hmem b).1 hb
      unfold mirror
      rw [if_neg this.1]
      omega
    · refine hs.2.imp_of_mem fun {a b} ha hb hab => ?_
      have h1 := (hmem a).1 ha
      have h2 := (hmem b).1 hb
      show mirror b N < mirror a N
      unfold mirror
      rw [if_neg h1.1, if_neg h2.1]
      omega
  · rw [mem_bitsTo, List.mem_cons, List.mem_reverse, List.mem_map]
    constructor
    · rintro ⟨h1, h2⟩
      by_cases e : a = 0
      · exact .inl e
      · refine .inr ⟨mirror a N, ?_, mirror_mirror h1⟩
        rw [hmem]
        refine ⟨?_, mirror_lt h1, ?_⟩
        · unfold mirror; rw [if_neg e]; omega
        · rw [h.2.2 _ (mirror_lt h1), mirror_mirror h1]; exact h2
    · rintro (rfl | ⟨b, hb, rfl⟩)
      · refine ⟨by omega, ?_⟩
        have := h.2.2 0 (by omega)
        rw [h0] at this
        exact this.symm
      · have h1 := (hmem b).1 hb
        exact ⟨mirror_lt h1.2.1, by rw [← h.2.2 b h1.2.1]; exact h1.2.2⟩
def turnedE (N : Nat) (E : List Edg) : List Edg := (E ++ E).map (turnE N)
def turnedR (N : Nat) (R : List Nat) : List Nat := (List.range N).map fun p => R.getD (mirror p N) 0
theorem turn_turn {N : Nat} {d : Edg} (h : (0 ≤ d.fr ∧ d.fr < N) ∧ 0 ≤ d.tt ∧ d.tt < N) : turnE N (turnE N d) = d := by
  obtain ⟨kd, fr, tt, st⟩ := d
  simp only at h
  unfold turnE
  simp only [Int.toNat_natCast]
  rw [mirror_mirror (by omega), mirror_mirror (by omega)]
  congr 1
  · omega
  · omega
theorem mem_turned {N : Nat} {E : List Edg} {d : Edg} : d ∈ turnedE N E ↔ ∃ e ∈ E, turnE N e = d := by simp [turnedE]
theorem fits_turned {N : Nat} {E : List Edg} {R : List Nat} (h : Fits N E R) : Fits N (turnedE N E) (turnedR N R) := by
  have hb : ∀ d ∈ E, mirror d.fr.toNat N < N ∧ mirror d.tt.toNat N < N := fun d hd => by
    have h1 := h.fr d hd
    have h2 := h.tt d hd
    exact ⟨mirror_lt (by omega), mirror_lt (by omega)⟩
  refine ⟨h.one, by simp [turnedR], fun d hd => ?_, fun d hd => ?_, fun d hd => ?_, fun d hd hk => ?_⟩
  all_goals
    obtain ⟨e, he, rfl⟩ := mem_turned.1 hd
  · exact h.kinds e he
  · have := (hb e he).1
    simp only [turnE]
    omega
  · have := (hb e he).2
    simp only [turnE]
    omega
  · exact h.sets e he hk
theorem turnedR_at {N : Nat} (R : List Nat) {i : Nat} (hi : i < N) : R.getD i 0 = (turnedR N R).getD (mirror i N) 0 := by
  unfold turnedR
  rw [List.getD_eq_getElem?_getD (l := List.map _ _), List.getElem?_map, List.getElem?_range (mirror_lt hi)]
  simp only [Option.map_some, Option.getD_some]
  rw [mirror_mirror hi]
/-- two walks over machines turned about -/
structure TurnRel (N : Nat) (k1 k2 : Wk) : Prop where
  at_ : Turned k1.at_ k2.at_ N
  met : k1.met = k2.met
  first : k1.first = k2.first
  zero : k1.at_.testBit 0 = true
section
variable {N : Nat} {E : List Edg} {R : List Nat}
theorem fits_b (h : Fits N E R) : ∀ d ∈ E, (0 ≤ d.fr ∧ d.fr < N) ∧ 0 ≤ d.tt ∧ d.tt < N := fun d hd => ⟨h.fr d hd, h.tt d hd⟩
theorem turned_1 (h : Fits N E R) : Turned 1 1 N := by
  have hb : below 1 N := below_pow (show 0 < N from h.one)
  refine ⟨hb, hb, fun i hi => ?_⟩
  by_cases e : i = 0
  · subst e; rfl
  · have e2 : ¬ mirror i N = 0 := by unfold mirror; rw [if_neg e]; omega
    have h1 : ∀ j, ¬ j = 0 → (1 : Nat).testBit j = false := fun j hj => by
      rw [show (1 : Nat) = 2 ^ 0 from rfl, Nat.testBit_two_pow]
      simp
      omega
    rw [h1 i e, h1 _ e2]
theorem spread_zero {b e : Bool} {x : Nat} (h : Fits N E R) (hx : below x N) (h0 : x.testBit 0 = true) : (spreadN E N b e x).testBit 0 = true :=
  (spread_bit (fun d hd => (fits_b h d hd).2) hx 0).2 (.base h0)
theorem rel_beg (h : Fits N E R) : TurnRel N (begW E N R) (begW (turnedE N E) N (turnedR N R)) := by
  have ht := turn_spread (b := true) (e := false) (fits_b h) (fits_b (fits_turned h)) (fun d hd => mem_turned.2 ⟨d, hd, rfl⟩) (fun d hd => by
    obtain ⟨e, he, rfl⟩ := mem_turned.1 hd
    rw [turn_turn (fits_b h e he)]; exact he) (turned_1 h)
  exact ⟨ht, turn_met (fun i hi => turnedR_at R hi) ht, rfl, spread_zero h (below_pow (show 0 < N from h.one)) rfl⟩
theorem rel_byte (h : Fits N E R) {k1 k2 : Wk} (hr : TurnRel N k1 k2) (c : Nat) : TurnRel N (byteW E N R k1 c) (byteW (turnedE N E) N (turnedR N R) k2 c) := by
  have hEF : ∀ d ∈ E, turnE N d ∈ turnedE N E := fun d hd => mem_turned.2 ⟨d, hd, rfl⟩
  have hFE : ∀ d ∈ turnedE N E, turnE N d ∈ E := fun d hd => by
    obtain ⟨e, he, rfl⟩ := mem_turned.1 hd
    rw [turn_turn (fits_b h e he)]; exact he
  have h1 := turn_byte (c := c) (fits_b h) (fits_b (fits_turned h)) hEF hFE hr.at_
  have ht := turn_spread (b := false) (e := false) (fits_b h) (fits_b (fits_turned h)) hEF hFE h1
  refine ⟨ht, ?_, rfl, spread_zero h (byte_below _ _ _ _) ((byte_bit _ _ _ _ _).2 ⟨h.one, .inl rfl⟩)⟩
  show _ ||| _ = _ ||| _
  rw [hr.met, turn_met (fun i hi => turnedR_at R hi) ht]
theorem rel_end (h : Fits N E R) {k1 k2 : Wk} (hr : TurnRel N k1 k2) : endW E N R k1 = endW (turnedE N E) N (turnedR N R) k2 := by
  have hEF : ∀ d ∈ E, turnE N d ∈ turnedE N E := fun d hd => mem_turned.2 ⟨d, hd, rfl⟩
  have hFE : ∀ d ∈ turnedE N E, turnE N d ∈ E := fun d hd => by
    obtain ⟨e, he, rfl⟩ := mem_turned.1 hd
    rw [turn_turn (fits_b h e he)]; exact he
  have ht := turn_spread (b := k1.first) (e := true) (fits_b h) (fits_b (fits_turned h)) hEF hFE hr.at_
  unfold endW
  rw [hr.met, turn_met (fun i hi => turnedR_at R hi) ht, hr.first]
end
theorem and_or_self (a b : Nat) : (a ||| b) &&& a = a := by
  apply Nat.eq_of_testBit_eq
  intro i
  simp only [Nat.testBit_and, Nat.testBit_or]
  cases a.testBit i <;> simp
end Go.Proofs.YtgahdookojbbiaaDoor
