/- Plain laws of the list of states that are still to be gone from (goes). No program in sight. No condition beyond those named in each lemma. -/
import Derived.Test.YtgahdookojbbiaaDoorSimD
namespace Go.Proofs.YtgahdookojbbiaaDoor
open Go.RowKit
set_option linter.unusedVariables false
set_option linter.unusedSimpArgs false

theorem bits_low {x y n : Nat} (h : ∀ i, i < n → x.testBit i = y.testBit i) : bitsTo x n = bitsTo y n := by
  induction n with
  | zero => rfl
  | succ n ih => rw [bitsTo_succ, bitsTo_succ, ih fun i hi => h i (by omega), h n (by omega)]
theorem bits_add {y t N : Nat} (ht : t < N) (hy : y.testBit t = false) : (bitsTo (y ||| 2 ^ t) N).length = (bitsTo y N).length + 1 := by
  induction N with
  | zero => omega
  | succ N ih =>
    rw [bitsTo_succ, bitsTo_succ, testBit_or_pow]
    by_cases e : t = N
    · subst e
      rw [hy, bits_low (x := y ||| 2 ^ t) (y := y) (n := t) (fun i hi => by rw [testBit_or_pow]; have : ¬ t = i := by omega
                                                                            simp [this])]
      simp
    · have := ih (by omega)
      simp only [e, decide_false, Bool.or_false]
      split
      · simp [this]
      · exact this
structure GoInv (E : List Edg) (N : Nat) (b e : Bool) (x y : Nat) (L : List Nat) : Prop where
  sub : ∀ i, x.testBit i = true → y.testBit i = true
  bel : below y N
  rch : ∀ i, y.testBit i = true → Reach E b e x i
  inL : ∀ n ∈ L, y.testBit n = true
  cls : ∀ d ∈ E, may b e d = true → y.testBit d.fr.toNat = true → d.fr.toNat ∉ L → y.testBit d.tt.toNat = true
  cnt : L.length ≤ (bitsTo y N).length
/-- while the edges of state n are gone through, j of them are behind -/
structure GoIn (E : List Edg) (N : Nat) (b e : Bool) (x M n j y : Nat) (L : List Nat) : Prop where
  sub : ∀ i, x.testBit i = true → y.testBit i = true
  bel : below y N
  rch : ∀ i, y.testBit i = true → Reach E b e x i
  inL : ∀ n ∈ L, y.testBit n = true
  cls : ∀ d ∈ E, may b e d = true → y.testBit d.fr.toNat = true → d.fr.toNat ∉ L → d.fr.toNat ≠ n → y.testBit d.tt.toNat = true
  gone : ∀ d ∈ (edgesAt E n).take j, may b e d = true → y.testBit d.tt.toNat = true
  cur : y.testBit n = true
  cnt : L.length + 1 ≤ (bitsTo y N).length
  mu : 2 * (N - (bitsTo y N).length) + L.length < M
theorem GoInv.start {E : List Edg} {N x : Nat} {b e : Bool} (hx : below x N) : GoInv E N b e x x (bitsTo x N) :=
  ⟨fun _ h => h, hx, fun _ h => .base h, fun n hn => ((mem_bitsTo _ _ _).1 hn).2, fun d _ _ h1 h2 => (h2 ((mem_bitsTo _ _ _).2 ⟨hx _ h1, h1⟩)).elim, Nat.le_refl _⟩
theorem GoInv.end_ {E : List Edg} {N x y : Nat} {b e : Bool} (hE : ∀ d ∈ E, 0 ≤ d.tt ∧ d.tt < N) (hx : below x N) (h : GoInv E N b e x y []) : y = spreadN E N b e x :=
  spread_is hE hx h.sub (fun d hd hm h1 => h.cls d hd hm h1 (by simp)) h.rch
theorem GoInv.pop {E : List Edg} {N x y : Nat} {b e : Bool} {L : List Nat} {n : Nat} (h : GoInv E N b e x y (L ++ [n])) : GoIn E N b e x (2 * (N - (bitsTo y N).length) + (L.length + 1)) n 0 y L :=
  ⟨h.sub, h.bel, h.rch, fun m hm => h.inL m (by simp [hm]), fun d hd hm h1 h2 h3 => h.cls d hd hm h1 (by simp [h2, h3]), by simp, h.inL n (by simp), by have := h.cnt; simpa using this, by omega⟩
theorem GoIn.finish {E : List Edg} {N x M n j y : Nat} {b e : Bool} {L : List Nat} (hE : ∀ d ∈ E, 0 ≤ d.fr ∧ d.fr < N) (h : GoIn E N b e x M n j y L) (hj : (edgesAt E n).length ≤ j) : GoInv E N b e x y L :=
  ⟨h.sub, h.bel, h.rch, h.inL, fun d hd hm h1 h2 => by
    by_cases e1 : d.fr.toNat = n
    · refine h.gone d ?_ hm
      rw [List.take_of_length_le hj, mem_edgesAt]
      have := hE d hd
      exact ⟨hd, by omega⟩
    · exact h.cls d hd hm h1 h2 e1, by have := h.cnt; omega⟩
theorem GoIn.skip {E : List Edg} {N x M n j y : Nat} {b e : Bool} {L : List Nat} (h : GoIn E N b e x M n j y L) (hj : j < (edgesAt E n).length) (hd : may b e (edgesAt E n)[j] = true → y.testBit ((edgesAt E n)[j]).tt.toNat = true) : GoIn E N b e x M n (j + 1) y L :=
  ⟨h.sub, h.bel, h.rch, h.inL, h.cls, fun d hd2 hm => by
    rw [List.take_succ_eq_append_getElem hj, List.mem_append, List.mem_singleton] at hd2
    rcases hd2 with hd2 | rfl
    · exact h.gone d hd2 hm
    · exact hd hm, h.cur, h.cnt, h.mu⟩
theorem GoIn.add {E : List Edg} {N x M n j y : Nat} {b e : Bool} {L : List Nat} (hE : ∀ d ∈ E, 0 ≤ d.tt ∧ d.tt < N) (h : GoIn E N b e x M n j y L) (hj : j < (edgesAt E n).length) (hm : may b e (edgesAt E n)[j] = true) (hn : y.testBit ((edgesAt E n)[j]).tt.toNat = false) :
    GoIn E N b e x M n (j + 1) (y ||| 2 ^ ((edgesAt E n)[j]).tt.toNat) (L ++ [((edgesAt E n)[j]).tt.toNat]) := by
  have hmem := List.getElem_mem hj
  rw [mem_edgesAt] at hmem
  obtain ⟨d, hd⟩ : ∃ d, d = (edgesAt E n)[j] := ⟨_, rfl⟩
  rw [← hd] at hm hn hmem ⊢
  have htt := hE d hmem.1
  have htN : d.tt.toNat < N := by omega
  have hadd := bits_add htN hn
  have hlen := bitsTo_length (y ||| 2 ^ d.tt.toNat) N
  have up : ∀ i, y.testBit i = true → (y ||| 2 ^ d.tt.toNat).testBit i = true := fun i hi => by rw [testBit_or_pow, hi]; rfl
  refine ⟨fun i hi => up i (h.sub i hi), below_or h.bel (below_pow htN), fun i hi => ?_, fun m hm2 => ?_, fun d2 hd2 hm2 h1 h2 h3 => ?_, fun d2 hd2 hm2 => ?_, up n h.cur, ?_, ?_⟩
  · rw [testBit_or_pow, Bool.or_eq_true, decide_eq_true_eq] at hi
    rcases hi with hi | rfl
    · exact h.rch i hi
    · refine .step hmem.1 hm ?_
      rw [hmem.2]
      exact h.rch n h.cur
  · rw [List.mem_append, List.mem_singleton] at hm2
    rcases hm2 with hm2 | rfl
    · exact up m (h.inL m hm2)
    · rw [testBit_or_pow]; simp
  · rw [testBit_or_pow, Bool.or_eq_true, decide_eq_true_eq] at h1
    rw [List.mem_append, List.mem_singleton, not_or] at h2
    rcases h1 with h1 | h1
    · exact up _ (h.cls d2 hd2 hm2 h1 h2.1 h3)
    · exact (h2.2 h1.symm).elim
  · rw [List.take_succ_eq_append_getElem hj, List.mem_append, List.mem_singleton] at hd2
    rcases hd2 with hd2 | hd2
    · exact up _ (h.gone d2 hd2 hm2)
    · rw [hd2, ← hd, testBit_or_pow]; simp
  · have := h.cnt
    rw [List.length_append, hadd]
    simp only [List.length_singleton]
    omega
  · have := h.mu
    rw [hadd] at hlen ⊢
    rw [List.length_append]
    simp only [List.length_singleton]
    omega

section
open Classical
/-- what is left to do, read off the world -/
noncomputable def goLeft (N base g c : Nat) (w wr : World) : Nat :=
  if h : ∃ p : Nat × Nat, (∃ A k, Blk wr w.heap.size 54 #[.slice A p.2 k]) ∧ Own wr base 49 1 encU (.slice (some ⟨g, 0, none⟩) (wordsFor N) c) (wordsN p.1 (wordsFor N)) ∧ below p.1 N then 2 * (N - (bitsTo (Classical.choose h).1 N).length) + (Classical.choose h).2 else 0
end
theorem goLeft_eq {N base g c n y k : Nat} {w wr : World} {A : Option Addr} (h1 : Blk wr w.heap.size 54 #[.slice A n k]) (h2 : Own wr base 49 1 encU (.slice (some ⟨g, 0, none⟩) (wordsFor N) c) (wordsN y (wordsFor N))) (h3 : below y N) :
    goLeft N base g c w wr = 2 * (N - (bitsTo y N).length) + n := by
  have hex : ∃ p : Nat × Nat, (∃ A k, Blk wr w.heap.size 54 #[.slice A p.2 k]) ∧ Own wr base 49 1 encU (.slice (some ⟨g, 0, none⟩) (wordsFor N) c) (wordsN p.1 (wordsFor N)) ∧ below p.1 N := ⟨(y, n), ⟨A, k, h1⟩, h2, h3⟩
  unfold goLeft
  rw [dif_pos hex]
  obtain ⟨⟨A', k', e1⟩, e2, e3⟩ := Classical.choose_spec hex
  have ey : (Classical.choose hex).1 = y := wordsN_inj (Nat.lt_of_lt_of_le (below_lt e3) (Nat.pow_le_pow_right (by decide) (words_room N))) (Nat.lt_of_lt_of_le (below_lt h3) (Nat.pow_le_pow_right (by decide) (words_room N))) (flat_encU_inj (own_same e2 h2))
  have en : (Classical.choose hex).2 = n := by
    have h4 := Eq.trans (Eq.symm e1) h1
    simp at h4
    exact h4.2.1
  rw [ey, en]

end Go.Proofs.YtgahdookojbbiaaDoor
