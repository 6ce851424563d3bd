/- Plain laws of machines with free moves: what is come to; what is met; a machine turned about. No program in sight. No condition beyond those named in each lemma. -/
import Derived.Test.YtgahdookojbbiaaDoorBitsN
import Derived.Test.YtgahdookojbbiaaDoorEdge
namespace Go.Proofs.YtgahdookojbbiaaDoor
set_option linter.unusedVariables false
set_option linter.unusedSimpArgs false

/-- may an edge be gone without a byte? -/
def may (b e : Bool) (d : Edg) : Bool := d.kd == 1 || (b && d.kd == 3) || (e && d.kd == 4)
/-- what is come to from a set without a byte -/
inductive Reach (E : List Edg) (b e : Bool) (x : Nat) : Nat → Prop
  | base {n : Nat} : x.testBit n = true → Reach E b e x n
  | step {d : Edg} : d ∈ E → may b e d = true → Reach E b e x d.fr.toNat → Reach E b e x d.tt.toNat
noncomputable def spreadN (E : List Edg) (N : Nat) (b e : Bool) (x : Nat) : Nat := ofPred (Reach E b e x) N
/-- a machine that fits -/
structure Fits (N : Nat) (E : List Edg) (R : List Nat) : Prop where
  one : 1 ≤ N
  rules : R.length = N
  kinds : ∀ d ∈ E, 1 ≤ d.kd ∧ d.kd ≤ 4
  fr : ∀ d ∈ E, 0 ≤ d.fr ∧ d.fr < N
  tt : ∀ d ∈ E, 0 ≤ d.tt ∧ d.tt < N
  sets : ∀ d ∈ E, d.kd ≠ 2 → d.st = 0
def below (x N : Nat) : Prop := ∀ i, x.testBit i = true → i < N
theorem reach_lt {E : List Edg} {N x : Nat} {b e : Bool} (hE : ∀ d ∈ E, 0 ≤ d.tt ∧ d.tt < N) (hx : below x N) {n : Nat} (h : Reach E b e x n) : n < N := by
  induction h with
  | base h => exact hx _ h
  | step hd _ _ _ => have := hE _ hd; omega
theorem spread_bit {E : List Edg} {N x : Nat} {b e : Bool} (hE : ∀ d ∈ E, 0 ≤ d.tt ∧ d.tt < N) (hx : below x N) (i : Nat) : (spreadN E N b e x).testBit i = true ↔ Reach E b e x i := by
  unfold spreadN
  rw [ofPred_bit]
  exact ⟨fun h => h.2, fun h => ⟨reach_lt hE hx h, h⟩⟩
theorem spread_below (E : List Edg) (N x : Nat) (b e : Bool) : below (spreadN E N b e x) N := fun i hi => ((ofPred_bit _ N i).1 hi).1
theorem below_or {x y N : Nat} (hx : below x N) (hy : below y N) : below (x ||| y) N := fun i hi => by
  rw [Nat.testBit_or, Bool.or_eq_true] at hi
  exact hi.elim (hx i) (hy i)
theorem below_pow {n N : Nat} (h : n < N) : below (2 ^ n) N := fun i hi => by
  rw [Nat.testBit_two_pow, decide_eq_true_eq] at hi
  omega
theorem below_zero (N : Nat) : below 0 N := fun i hi => by simp at hi
theorem below_lt {x N : Nat} (h : below x N) : x < 2 ^ N := by
  refine Classical.byContradiction fun hn => ?_
  obtain ⟨i, hi1, hi2⟩ := Nat.exists_ge_and_testBit_of_ge_two_pow (Nat.le_of_not_lt hn)
  have := h i hi2
  omega
/-- what holds the set, is closed, and is come to, is all that is come to -/
theorem spread_is {E : List Edg} {N x y : Nat} {b e : Bool} (hE : ∀ d ∈ E, 0 ≤ d.tt ∧ d.tt < N) (hx : below x N) (h1 : ∀ i, x.testBit i = true → y.testBit i = true)
    (h2 : ∀ d ∈ E, may b e d = true → y.testBit d.fr.toNat = true → y.testBit d.tt.toNat = true) (h3 : ∀ i, y.testBit i = true → Reach E b e x i) : y = spreadN E N b e x := by
  apply bits_ext
  intro i
  rw [spread_bit hE hx]
  refine ⟨h3 i, fun h => ?_⟩
  induction h with
  | base h => exact h1 _ h
  | step hd hm _ ih => exact h2 _ hd hm ih

/-- rules of states, together -/
def metN (R : List Nat) (x N : Nat) : Nat := (bitsTo x N).foldl (fun r n => r ||| R.getD n 0) 0
theorem foldl_or_bit (R : List Nat) (j : Nat) : ∀ (l : List Nat) (r : Nat), (l.foldl (fun r n => r ||| R.getD n 0) r).testBit j = (r.testBit j || l.any fun n => (R.getD n 0).testBit j)
  | [], r => by simp
  | n :: l, r => by rw [List.foldl_cons, foldl_or_bit R j l, Nat.testBit_or, List.any_cons, Bool.or_assoc]
theorem met_bit (R : List Nat) (x N j : Nat) : (metN R x N).testBit j = true ↔ ∃ n, n < N ∧ x.testBit n = true ∧ (R.getD n 0).testBit j = true := by
  unfold metN
  rw [foldl_or_bit]
  simp only [Nat.zero_testBit, Bool.false_or, List.any_eq_true]
  constructor
  · rintro ⟨n, hn, h⟩
    rw [mem_bitsTo] at hn
    exact ⟨n, hn.1, hn.2, h⟩
  · rintro ⟨n, h1, h2, h3⟩
    exact ⟨n, (mem_bitsTo _ _ _).2 ⟨h1, h2⟩, h3⟩
theorem met_lt {R : List Nat} (hR : ∀ r ∈ R, r < 2 ^ 32) (x N : Nat) : metN R x N < 2 ^ 32 := by
  refine below_lt fun j hj => ?_
  obtain ⟨n, _, _, h⟩ := (met_bit R x N j).1 hj
  refine Classical.byContradiction fun hn => ?_
  by_cases hl : n < R.length
  · rw [List.getD_eq_getElem?_getD, List.getElem?_eq_getElem hl, Option.getD_some] at h
    have h2 := Nat.testBit_lt_two_pow (Nat.lt_of_lt_of_le (hR _ (List.getElem_mem hl)) (Nat.pow_le_pow_right (by decide) (show 32 ≤ j by omega)))
    rw [h] at h2
    cases h2
  · simp [List.getD, List.getElem?_eq_none (Nat.le_of_not_lt hl)] at h
/-- where a byte leads, ahead of the free moves -/
noncomputable def byteN (E : List Edg) (N x c : Nat) : Nat := ofPred (fun t => t = 0 ∨ ∃ d ∈ E, d.kd = 2 ∧ x.testBit d.fr.toNat = true ∧ d.st.getLsbD c = true ∧ d.tt.toNat = t) N
theorem byte_bit (E : List Edg) (N x c i : Nat) : (byteN E N x c).testBit i = true ↔ i < N ∧ (i = 0 ∨ ∃ d ∈ E, d.kd = 2 ∧ x.testBit d.fr.toNat = true ∧ d.st.getLsbD c = true ∧ d.tt.toNat = i) := ofPred_bit _ N i
theorem byte_below (E : List Edg) (N x c : Nat) : below (byteN E N x c) N := fun i hi => ((byte_bit E N x c i).1 hi).1
/-- a walk: where it is, what is met, is it at the line's beginning -/
structure Wk where
  at_ : Nat
  met : Nat
  first : Bool
noncomputable def begW (E : List Edg) (N : Nat) (R : List Nat) : Wk := ⟨spreadN E N true false 1, metN R (spreadN E N true false 1) N, true⟩
noncomputable def byteW (E : List Edg) (N : Nat) (R : List Nat) (k : Wk) (c : Nat) : Wk :=
  ⟨spreadN E N false false (byteN E N k.at_ c), k.met ||| metN R (spreadN E N false false (byteN E N k.at_ c)) N, false⟩
noncomputable def endW (E : List Edg) (N : Nat) (R : List Nat) (k : Wk) : Nat := k.met ||| metN R (spreadN E N k.first true k.at_) N

/-! ### a machine turned about -/
def mirror (i N : Nat) : Nat := if i = 0 then 0 else N - i
theorem mirror_lt {i N : Nat} (h : i < N) : mirror i N < N := by unfold mirror; split <;> omega
theorem mirror_mirror {i N : Nat} (h : i < N) : mirror (mirror i N) N = i := by unfold mirror; split <;> (try split) <;> omega
theorem mirror_inj {i j N : Nat} (hi : i < N) (hj : j < N) (h : mirror i N = mirror j N) : i = j := by rw [← mirror_mirror hi, ← mirror_mirror hj, h]
def turnE (N : Nat) (d : Edg) : Edg := ⟨d.kd, mirror d.fr.toNat N, mirror d.tt.toNat N, d.st⟩
/-- y is x turned about -/
def Turned (x y N : Nat) : Prop := below x N ∧ below y N ∧ ∀ i, i < N → x.testBit i = y.testBit (mirror i N)
theorem turn_reach {E F : List Edg} {N x y : Nat} {b e : Bool} (hE : ∀ d ∈ E, (0 ≤ d.fr ∧ d.fr < N) ∧ 0 ≤ d.tt ∧ d.tt < N) (hEF : ∀ d ∈ E, turnE N d ∈ F) (h : Turned x y N) {n : Nat} (hr : Reach E b e x n) : Reach F b e y (mirror n N) := by
  induction hr with
  | base h1 => exact .base (by rw [← h.2.2 _ (h.1 _ h1)]; exact h1)
  | @step d hd hm _ ih =>
    have := Reach.step (hEF d hd) (by simpa [may, turnE] using hm) (by simpa [turnE] using ih)
    simpa [turnE] using this
theorem turn_spread {E F : List Edg} {N x y : Nat} {b e : Bool} (hE : ∀ d ∈ E, (0 ≤ d.fr ∧ d.fr < N) ∧ 0 ≤ d.tt ∧ d.tt < N) (hF : ∀ d ∈ F, (0 ≤ d.fr ∧ d.fr < N) ∧ 0 ≤ d.tt ∧ d.tt < N)
    (hEF : ∀ d ∈ E, turnE N d ∈ F) (hFE : ∀ d ∈ F, turnE N d ∈ E) (h : Turned x y N) : Turned (spreadN E N b e x) (spreadN F N b e y) N := by
  refine ⟨spread_below _ _ _ _ _, spread_below _ _ _ _ _, fun i hi => ?_⟩
  have h' : Turned y x N := ⟨h.2.1, h.1, fun j hj => by rw [h.2.2 _ (mirror_lt hj), mirror_mirror hj]⟩
  rw [Bool.eq_iff_iff, spread_bit (fun d hd => (hE d hd).2) h.1, spread_bit (fun d hd => (hF d hd).2) h.2.1]
  refine ⟨turn_reach hE hEF h, fun hr => ?_⟩
  have := turn_reach hF hFE h' hr
  rwa [mirror_mirror hi] at this
theorem turn_byte {E F : List Edg} {N x y c : Nat} (hE : ∀ d ∈ E, (0 ≤ d.fr ∧ d.fr < N) ∧ 0 ≤ d.tt ∧ d.tt < N) (hF : ∀ d ∈ F, (0 ≤ d.fr ∧ d.fr < N) ∧ 0 ≤ d.tt ∧ d.tt < N)
    (hEF : ∀ d ∈ E, turnE N d ∈ F) (hFE : ∀ d ∈ F, turnE N d ∈ E) (h : Turned x y N) : Turned (byteN E N x c) (byteN F N y c) N := by
  have key : ∀ {E F : List Edg} {x y : Nat}, (∀ d ∈ E, (0 ≤ d.fr ∧ d.fr < N) ∧ 0 ≤ d.tt ∧ d.tt < N) → (∀ d ∈ E, turnE N d ∈ F) → Turned x y N → ∀ i, (byteN E N x c).testBit i = true → (byteN F N y c).testBit (mirror i N) = true := by
    intro E F x y hE hEF h i hi
    rw [byte_bit] at hi ⊢
    refine ⟨mirror_lt hi.1, ?_⟩
    rcases hi.2 with h0 | ⟨d, hd, h1, h2, h3, h4⟩
    · left; rw [h0]; rfl
    · right
      refine ⟨turnE N d, hEF d hd, h1, ?_, h3, ?_⟩
      · have hb := hE d hd
        rw [h.2.2 _ (by omega)] at h2
        simpa [turnE] using h2
      · rw [← h4]; simp [turnE]
  refine ⟨byte_below _ _ _ _, byte_below _ _ _ _, fun i hi => ?_⟩
  have h' : Turned y x N := ⟨h.2.1, h.1, fun j hj => by rw [h.2.2 _ (mirror_lt hj), mirror_mirror hj]⟩
  rw [Bool.eq_iff_iff]
  refine ⟨key hE hEF h i, fun hr => ?_⟩
  have := key hF hFE h' _ hr
  rwa [mirror_mirror hi] at this
theorem turn_met {R S : List Nat} {N x y : Nat} (hRS : ∀ i, i < N → R.getD i 0 = S.getD (mirror i N) 0) (h : Turned x y N) : metN R x N = metN S y N := by
  apply bits_ext
  intro j
  rw [met_bit, met_bit]
  constructor
  · rintro ⟨n, h1, h2, h3⟩
    exact ⟨mirror n N, mirror_lt h1, by rw [← h.2.2 n h1]; exact h2, by rw [← hRS n h1]; exact h3⟩
  · rintro ⟨n, h1, h2, h3⟩
    refine ⟨mirror n N, mirror_lt h1, by rw [h.2.2 _ (mirror_lt h1), mirror_mirror h1]; exact h2, by rw [hRS _ (mirror_lt h1), mirror_mirror h1]; exact h3⟩

end Go.Proofs.YtgahdookojbbiaaDoor
