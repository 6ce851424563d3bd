/- Part 10 of a proof; packed: the texts that it was made of follow one another. No condition beyond those named in each lemma. -/
import Derived.Test.YtajainmldcnaeaaPn8
import Derived.Test.YtajainmldcnaeaaPn9
namespace Go.Proofs.Ytajainmldcnaeaa
set_option linter.unusedVariables false
set_option linter.unusedSimpArgs false

namespace Ere
/-- where the class that begins at i - 1 ends -/
def clsE (p : ByteArray) : Nat → Nat → Nat
  | 0, i => i
  | n + 1, i => if i + 1 < p.size ∧ ¬ (chr p i = 58 ∧ chr p (i + 1) = 93 ∧ chr p (i - 1) ≠ 91) then clsE p n (i + 1) else i
def nextI (p : ByteArray) (i : Nat) : Nat :=
  if isAt p i 91 && isAt p (i + 1) 58 then clsE p p.size (i + 1) + 2
  else if isAt p (i + 1) 45 && decide (i + 2 < p.size) && !isAt p (i + 2) 93 then i + 3 else i + 1
def behL (p : ByteArray) : Nat → Bool → Nat → Nat
  | 0, _, i => i
  | n + 1, first, i => if i < p.size ∧ (first = true ∨ chr p i ≠ 93) then behL p n false (nextI p i) else i
/-- the place of the ']' that ends the set whose '[' stands at i -/
def behN (p : ByteArray) (i : Nat) : Nat := behL p (p.size + 1) true (if isAt p (i + 1) 94 then i + 2 else i + 1)
/-- bars, from a place on: how many '|' outside of all, how deep -/
def barL (p : ByteArray) : Nat → Nat → Int → Int → Int → Int × Int
  | 0, _, n, _, m => (n, m)
  | f + 1, i, n, d, m => if p.size ≤ i then (n, m)
    else if chr p i = 92 then barL p f (i + 2) n d m
    else if chr p i = 91 then barL p f (behN p i + 1) n d m
    else if chr p i = 40 then barL p f (i + 1) n (d + 1) (max m (d + 1))
    else if chr p i = 41 then barL p f (i + 1) n (d - 1) m
    else if chr p i = 124 then barL p f (i + 1) (if d = 0 then n + 1 else n) d m
    else barL p f (i + 1) n d m
def barsP (p : ByteArray) : Int × Int := barL p (p.size + 1) 0 0 0 0
section
variable {p : ByteArray}
theorem clsE_le : ∀ n i, i ≤ clsE p n i
  | 0, i => Nat.le_refl _
  | n + 1, i => by
    unfold clsE
    split
    · have := clsE_le n (i + 1); omega
    · exact Nat.le_refl _
theorem nextI_lt (i : Nat) : i < nextI p i := by
  unfold nextI
  have := clsE_le (p := p) p.size (i + 1)
  split
  · omega
  · split <;> omega
theorem behL_le : ∀ n first i, i ≤ behL p n first i
  | 0, _, i => Nat.le_refl _
  | n + 1, first, i => by
    unfold behL
    split
    · have := behL_le n false (nextI p i)
      have := nextI_lt (p := p) i
      omega
    · exact Nat.le_refl _
theorem behN_lt (i : Nat) : i < behN p i := by
  unfold behN
  have := behL_le (p := p) (p.size + 1) true (if isAt p (i + 1) 94 then i + 2 else i + 1)
  split at this <;> split <;> simp_all <;> omega
theorem barL_fuel : ∀ f f' i n d m, p.size + 1 ≤ f + i → p.size + 1 ≤ f' + i → barL p f i n d m = barL p f' i n d m
  | 0, f', i, n, d, m, h, h' => by
    cases f' with
    | zero => rfl
    | succ f' => unfold barL; rw [if_pos (by omega)]
  | f + 1, 0, i, n, d, m, h, h' => by
    show barL p (f + 1) i n d m = (n, m)
    unfold barL
    rw [if_pos (by omega)]
  | f + 1, f' + 1, i, n, d, m, h, h' => by
    unfold barL
    have hb := behN_lt (p := p) i
    split
    · rfl
    split
    · exact barL_fuel f f' _ _ _ _ (by omega) (by omega)
    split
    · exact barL_fuel f f' _ _ _ _ (by omega) (by omega)
    split
    · exact barL_fuel f f' _ _ _ _ (by omega) (by omega)
    split
    · exact barL_fuel f f' _ _ _ _ (by omega) (by omega)
    split
    · exact barL_fuel f f' _ _ _ _ (by omega) (by omega)
    · exact barL_fuel f f' _ _ _ _ (by omega) (by omega)
/-- bars, from a place on -/
def Bs (p : ByteArray) (i : Nat) (n d m : Int) : Int × Int := barL p (p.size + 1) i n d m
theorem Bs_end {i : Nat} {n d m : Int} (h : p.size ≤ i) : Bs p i n d m = (n, m) := by
  unfold Bs barL
  rw [if_pos h]
theorem Bs_step {i : Nat} {n d m : Int} (h : i < p.size) : Bs p i n d m =
    if chr p i = 92 then Bs p (i + 2) n d m
    else if chr p i = 91 then Bs p (behN p i + 1) n d m
    else if chr p i = 40 then Bs p (i + 1) n (d + 1) (max m (d + 1))
    else if chr p i = 41 then Bs p (i + 1) n (d - 1) m
    else if chr p i = 124 then Bs p (i + 1) (if d = 0 then n + 1 else n) d m
    else Bs p (i + 1) n d m := by
  have hb := behN_lt (p := p) i
  have k : ∀ j n d m, i < j → barL p p.size j n d m = Bs p j n d m := fun j n d m hj => barL_fuel _ _ _ _ _ _ (by omega) (by omega)
  conv => lhs; unfold Bs barL
  rw [if_neg (by omega), k _ _ _ _ (by omega), k _ _ _ _ (by omega), k _ _ _ _ (by omega), k _ _ _ _ (by omega), k _ _ _ _ (by omega), k _ _ _ _ (by omega)]
/-- a byte that bars passes by -/
def dull (c : Nat) : Prop := c ≠ 92 ∧ c ≠ 91 ∧ c ≠ 40 ∧ c ≠ 41 ∧ c ≠ 124
theorem Bs_dull1 {i : Nat} {n d m : Int} (h : i < p.size) (hd : dull (chr p i)) : Bs p i n d m = Bs p (i + 1) n d m := by
  obtain ⟨h1, h2, h3, h4, h5⟩ := hd
  rw [Bs_step h, if_neg h1, if_neg h2, if_neg h3, if_neg h4, if_neg h5]
theorem Bs_dull {j : Nat} {n d m : Int} (hj : j ≤ p.size) : ∀ k i, i + k = j → (∀ x, i ≤ x → x < j → dull (chr p x)) → Bs p i n d m = Bs p j n d m
  | 0, i, e, _ => by rw [show i = j by omega]
  | k + 1, i, e, h => by
    rw [Bs_dull1 (by omega) (h i (by omega) (by omega))]
    exact Bs_dull hj k (i + 1) (by omega) (fun x h1 h2 => h x (by omega) h2)
theorem digits_dull : ∀ k i n c x, i ≤ x → x < (digits p k i n c).2.1 → dull (chr p x)
  | 0, i, n, c, x, h1, h2 => by
    simp only [digits] at h2
    omega
  | k + 1, i, n, c, x, h1, h2 => by
    unfold digits at h2
    split at h2
    · rename_i h
      simp only [Bool.and_eq_true, decide_eq_true_eq] at h
      by_cases e : x = i
      · subst e
        unfold dull
        omega
      · exact digits_dull k (i + 1) _ _ x (by omega) h2
    · simp only at h2
      omega
theorem countsR_dull {i j : Nat} {c : Nat × Int} (h : countsR p i = .got c j) (x : Nat) (h1 : i < x) (h2 : x ≤ j) : dull (chr p x) := by
  have e1 := digits_dull (p := p) 4 (i + 1) 0 0 x (by omega)
  have e2 := digits_dull (p := p) 4 ((digits p 4 (i + 1) 0 0).2.1 + 1) 0 0 x
  have c44 : ∀ y, isAt p y 44 = true → x = y → dull (chr p x) := fun y hy e => by rw [e, isAt_eq hy]; unfold dull; omega
  have c125 : ∀ y, isAt p y 125 = true → x = y → dull (chr p x) := fun y hy e => by rw [e, isAt_eq hy]; unfold dull; omega
  unfold countsR at h
  simp only at h
  obtain ⟨d, hd⟩ : ∃ d, digits p 4 (i + 1) 0 0 = d := ⟨_, rfl⟩
  rw [hd] at h e1 e2
  by_cases hx : x < d.2.1
  · exact e1 hx
  split at h
  · rename_i h3
    simp only [Bool.and_eq_true] at h3
    by_cases hx2 : x = d.2.1
    · exact c44 _ h3.2 hx2
    split at h
    · rename_i h4
      injection h with _ h
      exact c125 _ h4 (by omega)
    · split at h
      · cases h
      · rename_i h4
        injection h with _ h
        simp only [Bool.or_eq_true, Bool.not_eq_true', not_or, Bool.not_eq_false] at h4
        by_cases hx3 : x < (digits p 4 (d.2.1 + 1) 0 0).2.1
        · exact e2 (by omega) hx3
        · exact c125 _ h4.1.2 (by omega)
  · split at h
    · cases h
    · rename_i h4
      injection h with _ h
      simp only [Bool.or_eq_true, Bool.not_eq_true', not_or, Bool.not_eq_false] at h4
      exact c125 _ h4.2 (by omega)
theorem repeatR_dull {t u : Nd} {i j : Nat} (h : repeatR p t i = .got u j) (x : Nat) (h1 : i ≤ x) (h2 : x < j) : dull (chr p x) := by
  have cc : ∀ c, isAt p i c = true → (c = 42 ∨ c = 43 ∨ c = 63 ∨ c = 123) → x = i → dull (chr p x) := fun c hy hc e => by rw [e, isAt_eq hy]; unfold dull; omega
  unfold repeatR at h
  split at h
  · rename_i h3; injection h with _ h; exact cc _ h3 (by omega) (by omega)
  split at h
  · rename_i h3; injection h with _ h; exact cc _ h3 (by omega) (by omega)
  split at h
  · rename_i h3; injection h with _ h; exact cc _ h3 (by omega) (by omega)
  split at h
  · rename_i h3
    cases hc : countsR p i with
    | fault e a => rw [hc] at h; cases h
    | got c k =>
      rw [hc] at h
      injection h with _ h
      by_cases e : x = i
      · exact cc _ h3 (by omega) e
      · exact countsR_dull hc x (by omega) (by omega)
  · injection h with _ h; omega
theorem Bs_repeat {t u : Nd} {i j : Nat} {n d m : Int} (h : repeatR p t i = .got u j) (hi : i ≤ p.size) : Bs p i n d m = Bs p j n d m := by
  have hf := repeatR_fwd h hi
  exact Bs_dull hf.2 (j - i) i (by omega) (fun x h1 h2 => repeatR_dull h x h1 h2)
theorem nameB_91 {l : List Nat} {s : BSet} (h : nameB l = some s) : 91 ∉ l := by
  intro hm
  unfold nameB at h
  iterate 12 rw [if_neg (by rintro rfl; revert hm; decide)] at h
  cases h
theorem clsE_at {e : Nat} (he : hit p e) (hm : chr p (e - 1) ≠ 91) : ∀ n i, e ≤ n + i → i ≤ e → (∀ k, i ≤ k → k < e → ¬ (chr p k = 58 ∧ chr p (k + 1) = 93 ∧ chr p (k - 1) ≠ 91)) → clsE p n i = e
  | 0, i, h1, h2, _ => by
    unfold clsE
    omega
  | n + 1, i, h1, h2, h3 => by
    obtain ⟨a1, a2, a3⟩ := he
    unfold clsE
    by_cases hi : i = e
    · rw [if_neg]
      · exact hi
      · rintro ⟨_, h5⟩
        exact h5 ⟨by rw [hi]; exact a2, by rw [hi]; exact a3, by rw [hi]; exact hm⟩
    · rw [if_pos ⟨by omega, h3 i (by omega) (by omega)⟩]
      exact clsE_at ⟨a1, a2, a3⟩ hm n (i + 1) (by omega) (by omega) (fun k k1 k2 => h3 k (by omega) k2)
theorem nextI_item {s i j k : Nat} {x : BSet} (hi : i < p.size) (h : itemR p s i = .got x j) (hjk : j ≤ k) (hk : isAt p k 93 = true) : nextI p i = j := by
  have hf := itemR_fwd h hi
  have hks := isAt_lt hk
  unfold itemR at h
  unfold nextI
  split at h
  · rename_i h1
    rw [if_pos h1]
    simp only [Bool.and_eq_true] at h1
    unfold classR at h
    cases he : endAt p p.size (i + 2) with
    | none => rw [he] at h; cases h
    | some e =>
      rw [he] at h
      simp only at h
      obtain ⟨k1, k2, k3⟩ := endAt_some p _ _ _ he
      cases hn : nameB (sub p (i + 2) e) with
      | none => rw [hn] at h; cases h
      | some y =>
        rw [hn] at h
        injection h with _ h
        have h91 : chr p (e - 1) ≠ 91 := by
          by_cases q : e = i + 2
          · rw [q, show i + 2 - 1 = i + 1 by omega, isAt_eq h1.2]
            omega
          · intro q2
            refine nameB_91 hn ?_
            unfold sub
            refine List.mem_map.2 ⟨e - 1 - (i + 2), List.mem_range.2 (by omega), ?_⟩
            rw [show i + 2 + (e - 1 - (i + 2)) = e - 1 by omega, q2]
        have := clsE_at k2 h91 p.size (i + 1) (by have := k2.1; omega) (by omega) (fun k q1 q2 => by
          rintro ⟨a1, a2, a3⟩
          by_cases q : k = i + 1
          · rw [q, show i + 1 - 1 = i by omega, isAt_eq h1.1] at a3
            exact a3 rfl
          · exact k3 k (by omega) q2 ⟨by have := k2.1; omega, a1, a2⟩)
        rw [this, h]
  rename_i h1
  rw [if_neg h1]
  split at h
  · cases h
  split at h
  · rename_i h3
    injection h with _ h
    rw [if_neg, h]
    simp only [Bool.or_eq_true, Bool.not_eq_true', decide_eq_true_eq] at h3
    simp only [Bool.and_eq_true, decide_eq_true_eq, Bool.not_eq_true']
    rintro ⟨⟨a1, a2⟩, a3⟩
    rcases h3 with (h3 | h3) | h3
    · rw [a1] at h3; cases h3
    · omega
    · rw [a3] at h3; cases h3
  · rename_i h3
    split at h
    · cases h
    · injection h with _ h
      rw [if_pos, h]
      simp only [Bool.or_eq_true, Bool.not_eq_true', decide_eq_true_eq, not_or] at h3
      simp only [Bool.and_eq_true, decide_eq_true_eq, Bool.not_eq_true']
      refine ⟨⟨by simpa using h3.1.1, by omega⟩, by simpa using h3.2⟩
theorem behL_items {s : Nat} : ∀ n n' first i x y k, i ≤ p.size → itemsR p s n first i x = .got y k → k + 1 ≤ n' + i → behL p n' first i = k
  | 0, _, _, _, _, _, _, _, h, _ => by cases h
  | n + 1, n', first, i, x, y, k, hi, h, hn => by
    have hf := itemsR_fwd _ _ _ _ _ _ h
    have he := itemsR_end _ _ _ _ _ _ h
    obtain ⟨n', rfl⟩ : ∃ c, n' = c + 1 := ⟨n' - 1, by omega⟩
    unfold itemsR at h
    unfold behL
    split at h
    · rename_i h1
      injection h with _ h3
      simp only [Bool.and_eq_true, Bool.not_eq_true'] at h1
      rw [if_neg]
      · exact h3
      · rintro ⟨_, h4 | h4⟩
        · rw [h1.1] at h4; cases h4
        · exact h4 (isAt_eq h1.2)
    · rename_i h1
      split at h
      · cases h
      · rename_i h2
        cases hc : itemR p s i with
        | fault e a => rw [hc] at h; cases h
        | got t j =>
          rw [hc] at h
          simp only [Res.bind] at h
          have hj := itemR_fwd hc (by omega)
          have hjk := itemsR_fwd _ _ _ _ _ _ h
          rw [if_pos, nextI_item (by omega) hc hjk.1 he]
          · exact behL_items n n' false j _ y k hj.2 h (by omega)
          · refine ⟨by omega, ?_⟩
            cases first with
            | true => exact .inl rfl
            | false =>
              right
              intro q
              apply h1
              unfold isAt
              rw [decide_eq_true (show i < p.size by omega), q]
              rfl
theorem behN_set {s i j : Nat} {t : Nd} (hi : i + 1 ≤ p.size) (h : setR p s (i + 1) = .got t j) : behN p i + 1 = j := by
  unfold setR at h
  cases hc : itemsR p s (p.size + 2) true (if isAt p (i + 1) 94 then i + 1 + 1 else i + 1) 0 with
  | fault e a => rw [hc] at h; cases h
  | got y k =>
    rw [hc] at h
    injection h with _ h2
    have hf := itemsR_fwd _ _ _ _ _ _ hc
    unfold behN
    rw [behL_items (p.size + 2) (p.size + 1) true _ 0 y k (by omega) hc (by omega), h2]
end
end Ere
end Go.Proofs.Ytajainmldcnaeaa
namespace Go.Proofs.Ytajainmldcnaeaa
set_option linter.unusedVariables false
set_option linter.unusedSimpArgs false

namespace Ere
/-- the first m bytes are the same -/
structure Agree (p q : ByteArray) (m : Nat) : Prop where
  lp : m ≤ p.size
  lq : m ≤ q.size
  at_ : ∀ k, k < m → chr p k = chr q k
section
variable {p q : ByteArray} {m : Nat}
theorem Agree.isAt (A : Agree p q m) {k c : Nat} (h : k < m) : isAt q k c = isAt p k c := by
  unfold Ere.isAt
  rw [A.at_ k h, decide_eq_true (show k < p.size by have := A.lp; omega), decide_eq_true (show k < q.size by have := A.lq; omega)]
theorem Agree.oneOf (A : Agree p q m) {k : Nat} {l : List Nat} (h : k < m) : oneOf q k l = oneOf p k l := by
  unfold Ere.oneOf
  rw [A.at_ k h, decide_eq_true (show k < p.size by have := A.lp; omega), decide_eq_true (show k < q.size by have := A.lq; omega)]
theorem Agree.digits (A : Agree p q m) : ∀ k i n c, (digits p k i n c).2.1 < m → digits q k i n c = digits p k i n c
  | 0, i, n, c, h => rfl
  | k + 1, i, n, c, h => by
    have hi : i < m := by
      have := (digits_le p (k + 1) i n c).2
      omega
    unfold Ere.digits at h ⊢
    rw [decide_eq_true (show i < p.size by have := A.lp; omega)] at h ⊢
    rw [decide_eq_true (show i < q.size by have := A.lq; omega), ← A.at_ i hi]
    split
    · rename_i h1
      rw [if_pos h1] at h
      exact A.digits k (i + 1) _ _ h
    · rfl
theorem Agree.countsR (A : Agree p q m) {i j : Nat} {c : Nat × Int} (h : countsR p i = .got c j) (hj : j < m) : countsR q i = .got c j := by
  have hf := countsR_fwd h
  have e1 := A.digits 4 (i + 1) 0 0
  have e2 := A.digits 4 ((Ere.digits p 4 (i + 1) 0 0).2.1 + 1) 0 0
  have l2 := (digits_le p 4 ((Ere.digits p 4 (i + 1) 0 0).2.1 + 1) 0 0).2
  unfold Ere.countsR at h ⊢
  simp only at h ⊢
  obtain ⟨d, hd⟩ : ∃ d, Ere.digits p 4 (i + 1) 0 0 = d := ⟨_, rfl⟩
  rw [hd] at h e1 e2 l2
  have key : d.2.1 ≤ j := by
    split at h
    · split at h
      · injection h with _ h; omega
      · split at h
        · cases h
        · injection h with _ h; omega
    · split at h
      · cases h
      · injection h with _ h; omega
  rw [e1 (by omega), A.isAt (show d.2.1 < m by omega), A.isAt (show d.2.1 < m by omega)]
  split at h
  · rename_i h1
    rw [if_pos h1]
    have k2 : d.2.1 + 1 ≤ j := by
      split at h
      · injection h with _ h; omega
      · split at h
        · cases h
        · injection h with _ h; omega
    rw [A.isAt (show d.2.1 + 1 < m by omega)]
    split at h
    · rename_i h2
      rw [if_pos h2]
      exact h
    · rename_i h2
      rw [if_neg h2]
      split at h
      · cases h
      · rename_i h3
        injection h with h4 h5
        rw [e2 (by omega), A.isAt (show (Ere.digits p 4 (d.2.1 + 1) 0 0).2.1 < m by omega), if_neg h3, h4, h5]
  · rename_i h1
    rw [if_neg h1]
    exact h
theorem Agree.repeatR (A : Agree p q m) {t u : Nd} {i j : Nat} (hi : i ≤ p.size) (h : repeatR p t i = .got u j) (hj : j < m) : repeatR q t i = .got u j := by
  have hf := repeatR_fwd h hi
  have hm : i < m := by omega
  unfold Ere.repeatR at h ⊢
  rw [A.isAt hm, A.isAt hm, A.isAt hm, A.isAt hm]
  split at h
  · rename_i h1; rw [if_pos h1]; exact h
  rename_i h1
  rw [if_neg h1]
  split at h
  · rename_i h2; rw [if_pos h2]; exact h
  rename_i h2
  rw [if_neg h2]
  split at h
  · rename_i h3; rw [if_pos h3]; exact h
  rename_i h3
  rw [if_neg h3]
  split at h
  · rename_i h4
    rw [if_pos h4]
    cases hc : Ere.countsR p i with
    | fault e a => rw [hc] at h; cases h
    | got c k =>
      rw [hc] at h
      injection h with h5 h6
      rw [A.countsR hc (by omega)]
      simp only [Res.bind]
      rw [h5, h6]
  · rename_i h4
    rw [if_neg h4]
    exact h
theorem Agree.hit (A : Agree p q m) {k : Nat} (h : k + 1 < m) : hit q k ↔ hit p k := by
  unfold Ere.hit
  rw [A.at_ k (by omega), A.at_ (k + 1) h]
  have := A.lp
  have := A.lq
  constructor
  · rintro ⟨_, b, c⟩; exact ⟨by omega, b, c⟩
  · rintro ⟨_, b, c⟩; exact ⟨by omega, b, c⟩
theorem Agree.endAt (A : Agree p q m) {i j : Nat} (h : endAt p p.size i = some j) (hj : j + 1 < m) : endAt q q.size i = some j := by
  obtain ⟨h1, h2, h3⟩ := endAt_some p _ _ _ h
  cases hq : Ere.endAt q q.size i with
  | none => exact absurd ((A.hit hj).2 h2) (endAt_none q _ _ (by omega) hq j h1)
  | some k =>
    obtain ⟨k1, k2, k3⟩ := endAt_some q _ _ _ hq
    rcases Nat.lt_trichotomy k j with e | e | e
    · exact absurd ((A.hit (by omega)).1 k2) (h3 k k1 e)
    · rw [e]
    · exact absurd ((A.hit hj).2 h2) (k3 j h1 e)
theorem Agree.sub (A : Agree p q m) {i j : Nat} (hj : j ≤ m) : sub q i j = sub p i j := by
  unfold Ere.sub
  apply List.map_congr_left
  intro k hk
  rw [List.mem_range] at hk
  exact (A.at_ _ (by omega)).symm
theorem Agree.classR (A : Agree p q m) {s i j : Nat} {x : BSet} (h : classR p s i = .got x j) (hj : j < m) : classR q s i = .got x j := by
  unfold Ere.classR at h ⊢
  cases he : Ere.endAt p p.size (i + 2) with
  | none => rw [he] at h; cases h
  | some k =>
    rw [he] at h
    simp only at h
    have hk : k + 2 = j := by
      split at h
      · cases h
      · injection h
    rw [A.endAt he (by omega)]
    simp only
    rw [A.sub (show k ≤ m by omega)]
    exact h
theorem Agree.itemR (A : Agree p q m) {s i j : Nat} {x : BSet} (hi : i < p.size) (h : itemR p s i = .got x j) (hj : j + 1 < m) : itemR q s i = .got x j := by
  have hf := itemR_fwd h hi
  unfold Ere.itemR at h ⊢
  rw [A.isAt (show i < m by omega), A.isAt (show i + 1 < m by omega), A.isAt (show i + 1 < m by omega), A.oneOf (show i + 1 < m by omega)]
  split at h
  · rename_i h1
    rw [if_pos h1]
    exact A.classR h (by omega)
  rename_i h1
  rw [if_neg h1]
  split at h
  · cases h
  rename_i h2
  rw [if_neg h2]
  have h2m : i + 2 < m ∨ i + 1 < j → i + 2 < m := by omega
  have hlast : i + 2 < m := by
    split at h
    · injection h with _ h; omega
    · split at h
      · cases h
      · injection h with _ h; omega
  rw [A.isAt hlast, decide_eq_false (show ¬ q.size ≤ i + 2 by have := A.lq; omega), ← A.at_ i (by omega), ← A.at_ (i + 2) hlast]
  rw [decide_eq_false (show ¬ p.size ≤ i + 2 by have := A.lp; omega)] at h
  split at h
  · rename_i h3; rw [if_pos h3]; exact h
  rename_i h3
  rw [if_neg h3]
  split at h
  · cases h
  rename_i h4
  injection h with h5 h6
  rw [A.oneOf (show i + 3 < m by omega), if_neg h4, h5, h6]
theorem Agree.itemsR (A : Agree p q m) {s : Nat} : ∀ n n' first i x y k, i ≤ p.size → itemsR p s n first i x = .got y k → k + 1 < m → k + 1 ≤ n' + i → itemsR q s n' first i x = .got y k
  | 0, _, _, _, _, _, _, _, h, _, _ => by cases h
  | n + 1, n', first, i, x, y, k, hi, h, hk, hn => by
    have hf := itemsR_fwd _ _ _ _ _ _ h
    obtain ⟨n', rfl⟩ : ∃ c, n' = c + 1 := ⟨n' - 1, by omega⟩
    unfold Ere.itemsR at h ⊢
    rw [A.isAt (show i < m by omega)]
    split at h
    · rename_i h1; rw [if_pos h1]; exact h
    · rename_i h1
      rw [if_neg h1]
      split at h
      · cases h
      · rename_i h2
        rw [if_neg (by have := A.lq; omega)]
        cases hc : Ere.itemR p s i with
        | fault e a => rw [hc] at h; cases h
        | got t j =>
          rw [hc] at h
          simp only [Res.bind] at h
          have hj := itemR_fwd hc (by omega)
          have hjk := itemsR_fwd _ _ _ _ _ _ h
          rw [A.itemR (by omega) hc (by omega)]
          simp only [Res.bind]
          exact A.itemsR n n' false j _ y k hj.2 h hk (by omega)
theorem Agree.setR (A : Agree p q m) {s i j : Nat} {t : Nd} (hi : i < m) (h : setR p s i = .got t j) (hj : j < m) : setR q s i = .got t j := by
  unfold Ere.setR at h ⊢
  rw [A.isAt hi]
  cases hc : Ere.itemsR p s (p.size + 2) true (if Ere.isAt p i 94 then i + 1 else i) 0 with
  | fault e a => rw [hc] at h; cases h
  | got y k =>
    rw [hc] at h
    injection h with h1 h2
    rw [A.itemsR (p.size + 2) (q.size + 2) true _ 0 y k (by have := A.lp; split <;> omega) hc (by omega) (by have := A.lq; omega)]
    simp only [Res.bind]
    rw [h1, h2]
/-- a fault that stands -/
def Good (p : ByteArray) (m e a : Nat) : Prop := ((e = 44 ∨ e = 47) ∧ a + 1 ≤ m) ∨ (e = 46 ∧ a + 2 ≤ m) ∨ (e = 42 ∧ chr p a = 41 ∧ a + 1 ≤ m)
theorem Good.lt {e a : Nat} (h : Good p m e a) : a < m := by unfold Good at h; omega
/-- two readers that agree -/
def Like (p q : ByteArray) (m : Nat) (f f' : Nat → Res Nd) : Prop := (∀ i t j, i ≤ p.size → f i = .got t j → j < m → f' i = .got t j) ∧ ∀ i e a, i ≤ p.size → f i = .fault e a → Good p m e a → f' i = .fault e a
def LikeO (p q : ByteArray) (m : Nat) : Option (Nat → Res Nd) → Option (Nat → Res Nd) → Prop
  | none, none => True
  | some f, some f' => Like p q m f f' ∧ (∀ i t j, i ≤ p.size → f i = .got t j → i ≤ j ∧ j ≤ p.size) ∧ ∀ i e a, i ≤ p.size → f i = .fault e a → BadF p i e a
  | _, _ => False
theorem Agree.piece_got (A : Agree p q m) {inner inner' : Option (Nat → Res Nd)} (hl : LikeO p q m inner inner') {i j : Nat} {t : Nd} (hi : i < p.size) (h : pieceR p inner i = .got t j) (hj : j < m) : pieceR q inner' i = .got t j := by
  have hfw : ∀ f, inner = some f → ∀ i t j, i ≤ p.size → f i = .got t j → i ≤ j ∧ j ≤ p.size := fun f e => by
    subst e
    cases inner' with
    | none => exact hl.elim
    | some f' => exact hl.2.1
  have hf := pieceR_fwd hfw h hi
  have him : i < m := by omega
  unfold pieceR at h ⊢
  simp only at h ⊢
  rw [← A.at_ i him]
  split at h
  · rename_i h1; rw [if_pos h1]; exact h
  rename_i h1; rw [if_neg h1]
  split at h
  · rename_i h2; rw [if_pos h2]; exact h
  rename_i h2; rw [if_neg h2]
  split at h
  · cases h
  rename_i h3; rw [if_neg h3]
  split at h
  · rename_i h4
    rw [if_pos h4]
    cases inner with
    | none => cases h
    | some f =>
      cases inner' with
      | none => exact hl.elim
      | some f' =>
        simp only at h ⊢
        cases hc : f (i + 1) with
        | fault e a => rw [hc] at h; cases h
        | got u k =>
          rw [hc] at h
          simp only [Res.bind] at h
          have hk := hfw f rfl (i + 1) u k (by omega) hc
          split at h
          · cases h
          · rename_i h5
            have hkj := repeatR_fwd h (by omega)
            rw [hl.1.1 (i + 1) u k (by omega) hc (by omega)]
            simp only [Res.bind]
            rw [if_neg (by have := A.lq; omega)]
            exact A.repeatR (by omega) h hj
  rename_i h4; rw [if_neg h4]
  split at h
  · rename_i h5
    rw [if_pos h5]
    cases hc : Ere.setR p i (i + 1) with
    | fault e a => rw [hc] at h; cases h
    | got u k =>
      rw [hc] at h
      simp only [Res.bind] at h
      have hk := setR_fwd hc
      have hkj := repeatR_fwd h (by omega)
      rw [A.setR (by omega) hc (by omega)]
      simp only [Res.bind]
      exact A.repeatR (by omega) h hj
  rename_i h5; rw [if_neg h5]
  split at h
  · rename_i h6
    rw [if_pos h6]
    exact A.repeatR (by omega) h hj
  rename_i h6; rw [if_neg h6]
  split at h
  · rename_i h7
    rw [if_pos h7]
    split at h
    · rename_i h8
      have h8' := h8
      unfold Ere.oneOf at h8'
      simp only [Bool.and_eq_true, decide_eq_true_eq] at h8'
      have hkj := repeatR_fwd h (by omega)
      rw [A.oneOf (show i + 1 < m by omega), if_pos h8, ← A.at_ (i + 1) (by omega)]
      exact A.repeatR (by omega) h hj
    · cases h
  · rename_i h7
    rw [if_neg h7]
    exact A.repeatR (by omega) h hj
theorem Agree.piece_fault (A : Agree p q m) {inner inner' : Option (Nat → Res Nd)} (hl : LikeO p q m inner inner') {i e a : Nat} (hi : i < p.size) (h : pieceR p inner i = .fault e a) (hg : Good p m e a) : pieceR q inner' i = .fault e a := by
  have hfw : ∀ f, inner = some f → ∀ i t j, i ≤ p.size → f i = .got t j → i ≤ j ∧ j ≤ p.size := fun f e => by
    subst e
    cases inner' with
    | none => exact hl.elim
    | some f' => exact hl.2.1
  have hbd : ∀ f, inner = some f → ∀ i e a, i ≤ p.size → f i = .fault e a → BadF p i e a := fun f e => by
    subst e
    cases inner' with
    | none => exact hl.elim
    | some f' => exact hl.2.2
  have hb := pieceR_bad hfw hbd hi h
  have him : i < m := by have := hg.lt; unfold BadF at hb; omega
  unfold pieceR at h ⊢
  simp only at h ⊢
  rw [← A.at_ i him]
  split at h
  · cases h
  rename_i h1; rw [if_neg h1]
  split at h
  · cases h
  rename_i h2; rw [if_neg h2]
  split at h
  · rename_i h3; rw [if_pos h3]; exact h
  rename_i h3; rw [if_neg h3]
  split at h
  · rename_i h4
    rw [if_pos h4]
    cases inner with
    | none =>
      cases inner' with
      | none => exact h
      | some f' => exact hl.elim
    | some f =>
      cases inner' with
      | none => exact hl.elim
      | some f' =>
        simp only at h ⊢
        cases hc : f (i + 1) with
        | fault e' a' =>
          rw [hc] at h
          simp only [Res.bind] at h
          injection h with h5 h6
          subst h5 h6
          rw [hl.1.2 (i + 1) _ _ (by omega) hc hg]
          rfl
        | got u k =>
          rw [hc] at h
          simp only [Res.bind] at h
          split at h
          · injection h with h5 h6
            subst h5 h6
            unfold Good at hg
            omega
          · have := repeatR_bad h
            unfold Good at hg
            omega
  rename_i h4; rw [if_neg h4]
  split at h
  · cases hc : Ere.setR p i (i + 1) with
    | fault e' a' =>
      rw [hc] at h
      simp only [Res.bind] at h
      injection h with h5 h6
      have := setR_bad (by omega) hc
      unfold Good at hg
      omega
    | got u k =>
      rw [hc] at h
      simp only [Res.bind] at h
      have := repeatR_bad h
      unfold Good at hg
      omega
  rename_i h5; rw [if_neg h5]
  split at h
  · have := repeatR_bad h
    unfold Good at hg
    omega
  rename_i h6; rw [if_neg h6]
  split at h
  · rename_i h7
    rw [if_pos h7]
    split at h
    · have := repeatR_bad h
      unfold Good at hg
      omega
    · rename_i h8
      injection h with h9 h10
      subst h9 h10
      rw [A.oneOf (show i + 1 < m by unfold Good at hg; omega), if_neg h8]
  · have := repeatR_bad h
    unfold Good at hg
    omega
end
end Ere
end Go.Proofs.Ytajainmldcnaeaa
namespace Go.Proofs.Ytajainmldcnaeaa
set_option linter.unusedVariables false
set_option linter.unusedSimpArgs false

namespace Ere
section
variable {p q : ByteArray} {m : Nat}
theorem Agree.alt_got (A : Agree p q m) {top : Bool} {pc pc' : Nat → Res Nd} (hfw : ∀ i t j, i < p.size → pc i = .got t j → i < j ∧ j ≤ p.size) (hpc : ∀ i t j, i < p.size → pc i = .got t j → j < m → pc' i = .got t j) :
    ∀ n n' i l t j, i ≤ p.size → altR p top pc n i l = .got t j → j < m → j + 1 ≤ n' + i → altR q top pc' n' i l = .got t j
  | 0, _, _, _, _, _, _, h, _, _ => by cases h
  | n + 1, n', i, l, t, j, hi, h, hj, hn => by
    have hf := altR_fwd hfw _ _ _ _ _ hi h
    obtain ⟨n', rfl⟩ : ∃ c, n' = c + 1 := ⟨n' - 1, by omega⟩
    unfold altR at h ⊢
    rw [A.isAt (show i < m by omega), A.isAt (show i < m by omega), decide_eq_false (show ¬ q.size ≤ i by have := A.lq; omega)]
    rw [decide_eq_false (show ¬ p.size ≤ i by have := A.lp; omega)] at h
    split at h
    · rename_i h1; rw [if_pos h1]; exact h
    rename_i h1; rw [if_neg h1]
    split at h
    · rename_i h2; rw [if_pos h2]; exact h
    rename_i h2; rw [if_neg h2]
    cases hc : pc i with
    | fault e a => rw [hc] at h; cases h
    | got u k =>
      rw [hc] at h
      simp only [Res.bind] at h
      have hk := hfw i u k (by have := A.lp; omega) hc
      have hkj := altR_fwd hfw _ _ _ _ _ hk.2 h
      rw [hpc i u k (by have := A.lp; omega) hc (by omega)]
      simp only [Res.bind]
      exact A.alt_got hfw hpc n n' k (l ++ [u]) t j hk.2 h hj (by omega)
theorem Agree.alt_fault (A : Agree p q m) {top : Bool} {pc pc' : Nat → Res Nd} (hfw : ∀ i t j, i < p.size → pc i = .got t j → i < j ∧ j ≤ p.size) (hbad : ∀ i e a, i < p.size → pc i = .fault e a → BadF p i e a)
    (hpc : ∀ i t j, i < p.size → pc i = .got t j → j < m → pc' i = .got t j) (hpf : ∀ i e a, i < p.size → pc i = .fault e a → Good p m e a → pc' i = .fault e a) :
    ∀ n n' i l e a, p.size + 1 ≤ n + i → i ≤ p.size → altR p top pc n i l = .fault e a → Good p m e a → a + 1 ≤ n' + i → altR q top pc' n' i l = .fault e a
  | 0, _, i, _, _, _, hn, hi, _, _, _ => by omega
  | n + 1, n', i, l, e, a, hn, hi, h, hg, hn' => by
    have hb := altR_bad hfw hbad _ _ _ _ _ hn hi h
    unfold BadF at hb
    have ham := hg.lt
    obtain ⟨n', rfl⟩ : ∃ c, n' = c + 1 := ⟨n' - 1, by omega⟩
    unfold altR at h ⊢
    rw [A.isAt (show i < m by omega), A.isAt (show i < m by omega), decide_eq_false (show ¬ q.size ≤ i by have := A.lq; omega)]
    rw [decide_eq_false (show ¬ p.size ≤ i by have := A.lp; omega)] at h
    split at h
    · cases h
    rename_i h1; rw [if_neg h1]
    split at h
    · rename_i h2; rw [if_pos h2]; exact h
    rename_i h2; rw [if_neg h2]
    cases hc : pc i with
    | fault e' a' =>
      rw [hc] at h
      simp only [Res.bind] at h
      injection h with h5 h6
      subst h5 h6
      rw [hpf i _ _ (by have := A.lp; omega) hc hg]
      rfl
    | got u k =>
      rw [hc] at h
      simp only [Res.bind] at h
      have hk := hfw i u k (by have := A.lp; omega) hc
      have hkb := altR_bad hfw hbad n k (l ++ [u]) e a (by omega) hk.2 h
      unfold BadF at hkb
      rw [hpc i u k (by have := A.lp; omega) hc (by omega)]
      simp only [Res.bind]
      exact A.alt_fault hfw hbad hpc hpf n n' k (l ++ [u]) e a (by omega) hk.2 h hg (by omega)
theorem Agree.patL_got (A : Agree p q m) {al al' : Nat → Res Nd} (hfw : ∀ i t j, i ≤ p.size → al i = .got t j → i ≤ j ∧ j ≤ p.size) (hal : ∀ i t j, i ≤ p.size → al i = .got t j → j < m → al' i = .got t j) :
    ∀ n n' i l t j, i ≤ p.size → patL p al n i l = .got t j → j < m → j + 1 ≤ n' + i → patL q al' n' i l = .got t j
  | 0, _, _, _, _, _, _, h, _, _ => by cases h
  | n + 1, n', i, l, t, j, hi, h, hj, hn => by
    have hf := patL_fwd hfw _ _ _ _ _ hi h
    obtain ⟨n', rfl⟩ : ∃ c, n' = c + 1 := ⟨n' - 1, by omega⟩
    unfold patL at h ⊢
    cases hc : al i with
    | fault e a => rw [hc] at h; cases h
    | got u k =>
      rw [hc] at h
      simp only [Res.bind] at h
      have hk := hfw i u k hi hc
      have hkj : k ≤ j := by
        split at h
        · rename_i h1
          have := isAt_lt h1
          have := patL_fwd hfw _ _ _ _ _ (by omega) h
          omega
        · injection h with _ h; omega
      rw [hal i u k hi hc (by omega)]
      simp only [Res.bind]
      rw [A.isAt (show k < m by omega)]
      split at h
      · rename_i h1
        have := isAt_lt h1
        rw [if_pos h1]
        exact A.patL_got hfw hal n n' (k + 1) (l ++ [u]) t j (by omega) h hj (by omega)
      · rename_i h1
        rw [if_neg h1]
        exact h
theorem Agree.patL_fault (A : Agree p q m) {al al' : Nat → Res Nd} (hfw : ∀ i t j, i ≤ p.size → al i = .got t j → i ≤ j ∧ j ≤ p.size) (hbad : ∀ i e a, i ≤ p.size → al i = .fault e a → BadF p i e a)
    (hal : ∀ i t j, i ≤ p.size → al i = .got t j → j < m → al' i = .got t j) (haf : ∀ i e a, i ≤ p.size → al i = .fault e a → Good p m e a → al' i = .fault e a) :
    ∀ n n' i l e a, p.size + 1 ≤ n + i → i ≤ p.size → patL p al n i l = .fault e a → Good p m e a → a + 1 ≤ n' + i → patL q al' n' i l = .fault e a
  | 0, _, i, _, _, _, hn, hi, _, _, _ => by omega
  | n + 1, n', i, l, e, a, hn, hi, h, hg, hn' => by
    have hb := patL_bad hfw hbad _ _ _ _ _ hn hi h
    unfold BadF at hb
    have ham := hg.lt
    obtain ⟨n', rfl⟩ : ∃ c, n' = c + 1 := ⟨n' - 1, by omega⟩
    unfold patL at h ⊢
    cases hc : al i with
    | fault e' a' =>
      rw [hc] at h
      simp only [Res.bind] at h
      injection h with h5 h6
      subst h5 h6
      rw [haf i _ _ hi hc hg]
      rfl
    | got u k =>
      rw [hc] at h
      simp only [Res.bind] at h
      have hk := hfw i u k hi hc
      split at h
      · rename_i h1
        have hks := isAt_lt h1
        have hkb := patL_bad hfw hbad n (k + 1) (l ++ [u]) e a (by omega) (by omega) h
        unfold BadF at hkb
        rw [hal i u k hi hc (by omega)]
        simp only [Res.bind]
        rw [A.isAt (show k < m by omega), if_pos h1]
        exact A.patL_fault hfw hbad hal haf n n' (k + 1) (l ++ [u]) e a (by omega) (by omega) h hg (by omega)
      · cases h
theorem Agree.layer (A : Agree p q m) {inner inner' : Option (Nat → Res Nd)} (hl : LikeO p q m inner inner') (top : Bool) :
    Like p q m (fun i => patL p (fun i => altR p top (pieceR p inner) (p.size + 2) i []) (p.size + 2) i []) (fun i => patL q (fun i => altR q top (pieceR q inner') (q.size + 2) i []) (q.size + 2) i []) := by
  have hfw : ∀ f, inner = some f → ∀ i t j, i ≤ p.size → f i = .got t j → i ≤ j ∧ j ≤ p.size := fun f e => by
    subst e
    cases inner' with
    | none => exact hl.elim
    | some f' => exact hl.2.1
  have hbd : ∀ f, inner = some f → ∀ i e a, i ≤ p.size → f i = .fault e a → BadF p i e a := fun f e => by
    subst e
    cases inner' with
    | none => exact hl.elim
    | some f' => exact hl.2.2
  have pf : ∀ i t j, i < p.size → pieceR p inner i = .got t j → i < j ∧ j ≤ p.size := fun i t j hi h => pieceR_fwd hfw h hi
  have pb : ∀ i e a, i < p.size → pieceR p inner i = .fault e a → BadF p i e a := fun i e a hi h => pieceR_bad hfw hbd hi h
  have af : ∀ i t j, i ≤ p.size → altR p top (pieceR p inner) (p.size + 2) i [] = .got t j → i ≤ j ∧ j ≤ p.size := fun i t j hi h => altR_fwd pf _ _ _ _ _ hi h
  have ab : ∀ i e a, i ≤ p.size → altR p top (pieceR p inner) (p.size + 2) i [] = .fault e a → BadF p i e a := fun i e a hi h => altR_bad pf pb _ _ _ _ _ (by omega) hi h
  have ag : ∀ i t j, i ≤ p.size → altR p top (pieceR p inner) (p.size + 2) i [] = .got t j → j < m → altR q top (pieceR q inner') (q.size + 2) i [] = .got t j := fun i t j hi h hj => A.alt_got pf (fun i t j hi h hj => A.piece_got hl hi h hj) _ _ _ _ _ _ hi h hj (by have := A.lq; omega)
  have afl : ∀ i e a, i ≤ p.size → altR p top (pieceR p inner) (p.size + 2) i [] = .fault e a → Good p m e a → altR q top (pieceR q inner') (q.size + 2) i [] = .fault e a := fun i e a hi h hg => A.alt_fault pf pb (fun i t j hi h hj => A.piece_got hl hi h hj) (fun i e a hi h hg => A.piece_fault hl hi h hg) _ _ _ _ _ _ (by omega) hi h hg (by have := hg.lt; have := A.lq; omega)
  exact ⟨fun i t j hi h hj => A.patL_got af ag _ _ _ _ _ _ hi h hj (by have := A.lq; omega), fun i e a hi h hg => A.patL_fault af ab ag afl _ _ _ _ _ _ (by omega) hi h hg (by have := hg.lt; have := A.lq; omega)⟩
theorem Agree.patR (A : Agree p q m) : ∀ n, Like p q m (patR p n) (patR q n)
  | 0 => by
    have := A.layer (inner := none) (inner' := none) trivial false
    exact this
  | n + 1 => by
    have := A.layer (inner := some (Ere.patR p n)) (inner' := some (Ere.patR q n)) ⟨A.patR n, patR_fwd n, patR_bad n⟩ (decide (n + 1 = 64))
    exact this
end
theorem nlAt_all {p : ByteArray} (h : ∀ k, k < p.size → chr p k ≠ 10) : nlAt p (p.size + 1) 0 = none := by
  cases hc : nlAt p (p.size + 1) 0 with
  | none => rfl
  | some j =>
    have := nlAt_some p _ _ _ hc
    exact absurd this.2.2.1 (h j this.2.1)
end Ere
end Go.Proofs.Ytajainmldcnaeaa
namespace Go.Proofs.Ytajainmldcnaeaa
set_option linter.unusedVariables false
set_option linter.unusedSimpArgs false

namespace Ere
def inn (p : ByteArray) : Nat → Option (Nat → Res Nd)
  | 0 => none
  | d + 1 => some (patR p d)
def alF (p : ByteArray) (d n i : Nat) (l : List Nd) : Res Nd := altR p (decide (d = 64)) (pieceR p (inn p d)) n i l
def alR (p : ByteArray) (d i : Nat) : Res Nd := alF p d (p.size + 2) i []
theorem patR_al (p : ByteArray) (d i : Nat) : patR p d i = patL p (alR p d) (p.size + 2) i [] := by
  cases d <;> rfl
/-- a fault for the depth alone -/
def Deep (r : Res Nd) : Prop := ∃ x, r = .fault 47 x
def ScB (p : ByteArray) (i j : Nat) (L : Int) (c h : Nat) : Prop := ∀ n M : Int, L ≤ M → Bs p i n L M = Bs p j (n + c) L (max M (L + h))
theorem ScB.trans {p : ByteArray} {i j k : Nat} {L : Int} {c1 c2 h1 h2 : Nat} (a : ScB p i j L c1 h1) (b : ScB p j k L c2 h2) : ScB p i k L (c1 + c2) (max h1 h2) := fun n M hM => by
  rw [a n M hM, b _ _ (by omega)]
  congr 1 <;> omega
theorem ScB.of_eq {p : ByteArray} {i j : Nat} {L : Int} (h : ∀ n M, Bs p i n L M = Bs p j n L M) : ScB p i j L 0 0 := fun n M hM => by
  rw [h]
  congr 1 <;> omega
/-- where an alternative may end -/
def EndA (q : ByteArray) (top : Bool) (x : Nat) : Prop := q.size ≤ x ∨ isAt q x 124 = true ∨ (isAt q x 41 = true ∧ isAt q x 124 = false ∧ top = false)
def EndP (q : ByteArray) (top : Bool) (x : Nat) : Prop := q.size ≤ x ∨ (isAt q x 41 = true ∧ isAt q x 124 = false ∧ top = false)
theorem EndP.a {q : ByteArray} {top : Bool} {x : Nat} (h : EndP q top x) : EndA q top x := by
  rcases h with h | h
  · exact .inl h
  · exact .inr (.inr h)
theorem EndP.no {q : ByteArray} {top : Bool} {x : Nat} (h : EndP q top x) : isAt q x 124 = false := by
  rcases h with h | h
  · unfold isAt; rw [decide_eq_false (by omega), Bool.false_and]
  · exact h.2.1
/-- a piece is read alike -/
def PcOk (p : ByteArray) (d i : Nat) (t : Nd) (j : Nat) : Prop := ∃ h, h ≤ d ∧ (∀ q a d', Emb p q a → d' ≤ 64 → (h ≤ d' → pieceR q (inn q d') (a + i) = .got t (a + j)) ∧ (d' < h → Deep (pieceR q (inn q d') (a + i)))) ∧ t.isT = true ∧ ∀ L : Int, 0 ≤ L → ScB p i j L 0 h
def AlOk (p : ByteArray) (d i : Nat) (t : Nd) (j : Nat) : Prop := ∃ h, h ≤ d ∧ (∀ q a d', Emb p q a → d' ≤ 64 → (d' = 64 → d = 64) → (j = p.size → EndA q (decide (d' = 64)) (a + p.size)) → (h ≤ d' → alR q d' (a + i) = .got t (a + j)) ∧ (d' < h → Deep (alR q d' (a + i)))) ∧ t.isT = true ∧ ∀ L : Int, 0 ≤ L → ScB p i j L 0 h
def PtOk (p : ByteArray) (d i : Nat) (t : Nd) (j : Nat) : Prop := ∃ h c, h ≤ d ∧ (∀ q a d', Emb p q a → d' ≤ 64 → (d' = 64 → d = 64) → (j = p.size → EndP q (decide (d' = 64)) (a + p.size)) → (h ≤ d' → patR q d' (a + i) = .got t (a + j)) ∧ (d' < h → Deep (patR q d' (a + i)))) ∧ t.isT = true ∧ (∀ L : Int, 0 ≤ L → ScB p i j L (if L = 0 then c else 0) h) ∧ (c = 0 → alR p d i = .got t j)
section
variable {p : ByteArray}
theorem isT_set (x : BSet) : (setN x).isT = true := by
  have h : (x &&& notB 0).getLsbD 10 = false := by
    rw [BitVec.getLsbD_and, notB0_get 10 (by omega)]
    simp
  unfold setN Nd.isT headOk
  rw [if_neg (by omega), if_pos rfl, h]
  simp [Nd.areT]
theorem isT_some3 {l : List Nd} (h : ∀ x ∈ l, x.isT = true) {k : Int} (hk : k = 3 ∨ k = 4) : (someN k l).isT = true := by
  rcases l with _ | ⟨x, _ | ⟨y, l⟩⟩
  · rfl
  · exact h x (by simp)
  · unfold someN Nd.isT headOk
    rw [if_neg (by omega), if_neg (by omega), if_pos (by omega), Nd.areT_all, List.all_eq_true.2 h]
    simp
theorem cntOk_le {d : Nat × Nat × Nat} (h : cntOk d = true) : d.1 ≤ 255 := by
  unfold cntOk at h
  simp only [Bool.and_eq_true, decide_eq_true_eq] at h
  exact h.2
theorem countsR_ok {i j : Nat} {c : Nat × Int} (h : countsR p i = .got c j) : c.1 ≤ 255 ∧ (c.2 = -1 ∨ ((c.1 : Int) ≤ c.2 ∧ c.2 ≤ 255)) := by
  unfold countsR at h
  simp only at h
  split at h
  · rename_i h1
    simp only [Bool.and_eq_true] at h1
    have := cntOk_le h1.1
    split at h
    · injection h with h _
      rw [← h]
      exact ⟨this, .inl rfl⟩
    · split at h
      · cases h
      · rename_i h2
        simp only [Bool.or_eq_true, Bool.not_eq_true', not_or, Bool.not_eq_false, decide_eq_true_eq] at h2
        have := cntOk_le h2.1.1
        injection h with h _
        rw [← h]
        exact ⟨by assumption, .inr ⟨by simp only; omega, by simp only; omega⟩⟩
  · split at h
    · cases h
    · rename_i h2
      simp only [Bool.or_eq_true, Bool.not_eq_true', not_or, Bool.not_eq_false] at h2
      have := cntOk_le h2.1
      injection h with h _
      rw [← h]
      exact ⟨this, .inr ⟨by simp only; omega, by simp only; omega⟩⟩
theorem isT_times {t : Nd} (h : t.isT = true) {a b : Int} (h0 : 0 ≤ a) (h1 : a ≤ 255) (h2 : b = -1 ∨ (a ≤ b ∧ b ≤ 255)) : (timesN t a b).isT = true := by
  unfold timesN Nd.isT headOk
  rw [if_neg (by omega), if_neg (by omega), if_neg (by omega), if_pos rfl]
  have : Nd.areT [t] = true := by simp [Nd.areT, h]
  rw [this]
  rcases h2 with h2 | h2
  · simp [h0, h1, h2]
  · simp [h0, h1, h2.1, h2.2]
theorem repeatR_isT {t u : Nd} {i j : Nat} (ht : t.isT = true) (h : repeatR p t i = .got u j) : u.isT = true := by
  unfold repeatR at h
  split at h
  · injection h with h _; rw [← h]; exact isT_times ht (by omega) (by omega) (by omega)
  split at h
  · injection h with h _; rw [← h]; exact isT_times ht (by omega) (by omega) (by omega)
  split at h
  · injection h with h _; rw [← h]; exact isT_times ht (by omega) (by omega) (by omega)
  split at h
  · cases hc : countsR p i with
    | fault e a => rw [hc] at h; cases h
    | got c k =>
      rw [hc] at h
      injection h with h _
      have := countsR_ok hc
      rw [← h]
      exact isT_times ht (by omega) (by omega) this.2
  · injection h with h _; rw [← h]; exact ht
theorem setR_isT {s i j : Nat} {t : Nd} (h : setR p s i = .got t j) : t.isT = true := by
  unfold setR at h
  cases hc : itemsR p s (p.size + 2) true (if isAt p i 94 then i + 1 else i) 0 with
  | fault e a => rw [hc] at h; cases h
  | got y k =>
    rw [hc] at h
    injection h with h _
    rw [← h]
    exact isT_set _
theorem inn_fwd (d : Nat) : ∀ f, inn p d = some f → ∀ i t j, i ≤ p.size → f i = .got t j → i ≤ j ∧ j ≤ p.size := by
  intro f hf
  cases d with
  | zero => cases hf
  | succ d => injection hf with hf; subst hf; exact fun i t j h1 h2 => patR_fwd d i t j h1 h2
theorem piece_ok {d : Nat} (hd : d ≤ 64) (ih : ∀ d0, d = d0 + 1 → ∀ i t j, i ≤ p.size → patR p d0 i = .got t j → PtOk p d0 i t j) {i j : Nat} {t : Nd} (hi : i < p.size) (h41 : chr p i ≠ 41) (h124 : chr p i ≠ 124) (h : pieceR p (inn p d) i = .got t j) : PcOk p d i t j := by
  have hf := pieceR_fwd (inn_fwd d) h hi
  unfold pieceR at h
  simp only at h
  have stp : ∀ n d m, _ := fun (n d m : Int) => Bs_step (p := p) (n := n) (d := d) (m := m) hi
  -- anchors
  by_cases h94 : chr p i = 94
  · rw [if_pos h94] at h
    injection h with h1 h2
    subst h1 h2
    refine ⟨0, by omega, fun q a d' A hd' => ⟨fun _ => ?_, fun h => by omega⟩, by rfl, fun L hL => ScB.of_eq fun n M => Bs_dull1 hi (by unfold dull; omega)⟩
    unfold pieceR
    simp only
    rw [A.at_ i hi, if_pos h94]
    rfl
  rw [if_neg h94] at h
  by_cases h36 : chr p i = 36
  · rw [if_pos h36] at h
    injection h with h1 h2
    subst h1 h2
    refine ⟨0, by omega, fun q a d' A hd' => ⟨fun _ => ?_, fun h => by omega⟩, by rfl, fun L hL => ScB.of_eq fun n M => Bs_dull1 hi (by unfold dull; omega)⟩
    unfold pieceR
    simp only
    rw [A.at_ i hi, if_neg h94, if_pos h36]
    rfl
  rw [if_neg h36] at h
  split at h
  · cases h
  rename_i hrp
  by_cases h40 : chr p i = 40
  · rw [if_pos h40] at h
    cases d with
    | zero => cases h
    | succ d0 =>
      simp only [inn] at h
      cases hc : patR p d0 (i + 1) with
      | fault e a => rw [hc] at h; cases h
      | got u k =>
        rw [hc] at h
        simp only [Res.bind] at h
        have hk := patR_fwd d0 _ _ _ (by omega) hc
        have hend := patR_end d0 _ _ _ hc
        split at h
        · cases h
        rename_i hks
        have hk41 : isAt p k 41 = true := by
          rcases hend with h | h
          · exact absurd h hks
          · exact h
        obtain ⟨h0, c, hh0, hemb, hT, hsc, -⟩ := ih d0 rfl _ _ _ (by omega) hc
        refine ⟨h0 + 1, by omega, fun q a d' A hd' => ⟨fun hle => ?_, fun hlt => ?_⟩, repeatR_isT hT h, fun L hL n M hM => ?_⟩
        · obtain ⟨d1, rfl⟩ : ∃ x, d' = x + 1 := ⟨d' - 1, by omega⟩
          have e1 := (hemb q a d1 A (by omega) (by omega) (fun e => by omega)).1 (by omega)
          unfold pieceR
          simp only [inn]
          rw [A.at_ i hi, if_neg h94, if_neg h36, if_neg hrp, if_pos h40, Nat.add_assoc, e1]
          simp only [Res.bind]
          rw [if_neg (by have := A.le; omega)]
          exact A.repeatR (by omega) h
        · unfold pieceR
          rw [A.at_ i hi, if_neg h94, if_neg h36, if_neg hrp, if_pos h40]
          cases d' with
          | zero => exact ⟨_, rfl⟩
          | succ d1 =>
            simp only [inn]
            obtain ⟨x, e1⟩ := (hemb q a d1 A (by omega) (by omega) (fun e => by omega)).2 (by omega)
            rw [Nat.add_assoc, e1]
            exact ⟨x, rfl⟩
        · have e1 := hsc (L + 1) (by omega) n (max M (L + 1)) (by omega)
          rw [if_neg (by omega)] at e1
          have q1 : chr p k = 41 := isAt_eq hk41
          have q2 := isAt_lt hk41
          have h5 : chr p k ≠ 92 ∧ chr p k ≠ 91 ∧ chr p k ≠ 40 := by omega
          rw [stp, if_neg (by omega), if_neg (by omega), if_pos h40, e1, Bs_step q2, if_neg h5.1, if_neg h5.2.1, if_neg h5.2.2, if_pos q1, Bs_repeat h (by omega)]
          congr 1 <;> omega
  rw [if_neg h40] at h
  by_cases h91 : chr p i = 91
  · rw [if_pos h91] at h
    cases hc : setR p i (i + 1) with
    | fault e a => rw [hc] at h; cases h
    | got u k =>
      rw [hc] at h
      simp only [Res.bind] at h
      have hk := setR_fwd hc
      have hb := behN_set (by omega) hc
      by_cases hi1 : i + 1 < p.size
      · refine ⟨0, by omega, fun q a d' A hd' => ⟨fun _ => ?_, fun h => by omega⟩, repeatR_isT (setR_isT hc) h, fun L hL => ScB.of_eq fun n M => ?_⟩
        · unfold pieceR
          simp only
          rw [A.at_ i hi, if_neg h94, if_neg h36, if_neg hrp, if_neg h40, if_pos h91, Nat.add_assoc, A.setR (s' := a + i) hi1 hc]
          simp only [Res.bind]
          exact A.repeatR (by omega) h
        · rw [stp, if_neg (by omega), if_pos h91, hb, Bs_repeat h (by omega)]
      · exfalso
        unfold setR at hc
        cases hd : itemsR p i (p.size + 2) true (if isAt p (i + 1) 94 then i + 1 + 1 else i + 1) 0 with
        | fault e a => rw [hd] at hc; cases hc
        | got y z =>
          rw [hd] at hc
          have := itemsR_fwd _ _ _ _ _ _ hd
          split at this <;> omega
  rw [if_neg h91] at h
  by_cases h46 : chr p i = 46
  · rw [if_pos h46] at h
    refine ⟨0, by omega, fun q a d' A hd' => ⟨fun _ => ?_, fun h => by omega⟩, repeatR_isT (isT_set _) h, fun L hL => ScB.of_eq fun n M => ?_⟩
    · unfold pieceR
      simp only
      rw [A.at_ i hi, if_neg h94, if_neg h36, if_neg hrp, if_neg h40, if_neg h91, if_pos h46, Nat.add_assoc]
      exact A.repeatR (by omega) h
    · rw [Bs_dull1 hi (by unfold dull; omega), Bs_repeat h (by omega)]
  rw [if_neg h46] at h
  by_cases h92 : chr p i = 92
  · rw [if_pos h92] at h
    split at h
    · rename_i h8
      have h8' := h8
      unfold oneOf at h8'
      simp only [Bool.and_eq_true, decide_eq_true_eq] at h8'
      refine ⟨0, by omega, fun q a d' A hd' => ⟨fun _ => ?_, fun h => by omega⟩, repeatR_isT (isT_set _) h, fun L hL => ScB.of_eq fun n M => ?_⟩
      · unfold pieceR
        simp only
        have o1 : Ere.oneOf q (a + i + 1) marks = true := by rw [Nat.add_assoc, A.oneOf h8'.1]; exact h8
        rw [A.at_ i hi, if_neg h94, if_neg h36, if_neg hrp, if_neg h40, if_neg h91, if_neg h46, if_pos h92, o1, if_pos rfl, Nat.add_assoc, A.at_ (i + 1) h8'.1, Nat.add_assoc]
        exact A.repeatR (by omega) h
      · rw [stp, if_pos h92, Bs_repeat h (by omega)]
    · cases h
  rw [if_neg h92] at h
  refine ⟨0, by omega, fun q a d' A hd' => ⟨fun _ => ?_, fun h => by omega⟩, repeatR_isT (isT_set _) h, fun L hL => ?_⟩
  · unfold pieceR
    simp only
    rw [A.at_ i hi, if_neg h94, if_neg h36, if_neg hrp, if_neg h40, if_neg h91, if_neg h46, if_neg h92, Nat.add_assoc]
    exact A.repeatR (by omega) h
  · exact ScB.of_eq fun n M => by rw [Bs_dull1 hi (by unfold dull; omega), Bs_repeat h (by omega)]
/-- the pieces of an alternative -/
theorem alt_ok {d : Nat} (hd : d ≤ 64) (hpc : ∀ i t j, i < p.size → chr p i ≠ 41 → chr p i ≠ 124 → pieceR p (inn p d) i = .got t j → PcOk p d i t j) :
    ∀ n i l t j, i ≤ p.size → (∀ x ∈ l, x.isT = true) → alF p d n i l = .got t j →
      ∃ h, h ≤ d ∧ (∀ q a d' n', Emb p q a → d' ≤ 64 → (d' = 64 → d = 64) → (j = p.size → EndA q (decide (d' = 64)) (a + p.size)) → a + p.size + 1 ≤ n' + (a + i) → (h ≤ d' → alF q d' n' (a + i) l = .got t (a + j)) ∧ (d' < h → Deep (alF q d' n' (a + i) l))) ∧ t.isT = true ∧ ∀ L : Int, 0 ≤ L → ScB p i j L 0 h
  | 0, _, _, _, _, _, _, h => by cases h
  | n + 1, i, l, t, j, hi, hl, h => by
    have pf : ∀ i t j, i < p.size → pieceR p (inn p d) i = .got t j → i < j ∧ j ≤ p.size := fun i t j hi h => pieceR_fwd (inn_fwd d) h hi
    have hf := altR_fwd pf _ _ _ _ _ hi h
    unfold alF altR at h
    by_cases hend : (decide (p.size ≤ i) || isAt p i 124) = true
    · rw [if_pos hend] at h
      injection h with h1 h2
      subst h1 h2
      refine ⟨0, by omega, fun q a d' n' A hd' htop hE hn' => ⟨fun _ => ?_, fun h => by omega⟩, isT_some3 hl (.inl rfl), fun L hL => ScB.of_eq fun n M => rfl⟩
      obtain ⟨n', rfl⟩ : ∃ c, n' = c + 1 := ⟨n' - 1, by omega⟩
      unfold alF altR
      simp only [Bool.or_eq_true, decide_eq_true_eq] at hend
      rcases hend with hend | hend
      · have hip : i = p.size := by omega
        subst hip
        rcases hE rfl with e | e | e
        · rw [decide_eq_true (show q.size ≤ a + p.size by omega)]; rfl
        · rw [e, Bool.or_true]; rfl
        · rw [e.1, e.2.1, e.2.2]
          by_cases hz : q.size ≤ a + p.size
          · rw [decide_eq_true hz]; rfl
          · rw [decide_eq_false hz]; rfl
      · rw [A.isAt (isAt_lt hend), hend, Bool.or_true]
        rfl
    · rw [if_neg hend] at h
      simp only [Bool.or_eq_true, decide_eq_true_eq, not_or] at hend
      have hip : i < p.size := by omega
      have e124 : isAt p i 124 = false := by simpa using hend.2
      by_cases h41 : isAt p i 41 = true
      · rw [if_pos h41] at h
        split at h
        · cases h
        rename_i htp
        injection h with h1 h2
        subst h1 h2
        have hd64 : d ≠ 64 := by simpa using htp
        refine ⟨0, by omega, fun q a d' n' A hd' htop hE hn' => ⟨fun _ => ?_, fun h => by omega⟩, isT_some3 hl (.inl rfl), fun L hL => ScB.of_eq fun n M => rfl⟩
        obtain ⟨n', rfl⟩ : ∃ c, n' = c + 1 := ⟨n' - 1, by omega⟩
        unfold alF altR
        rw [A.isAt hip, A.isAt hip, e124, h41, decide_eq_false (show ¬ q.size ≤ a + i by have := A.le; omega), decide_eq_false (show ¬ d' = 64 by omega)]
        rfl
      · rw [if_neg h41] at h
        have e41 : isAt p i 41 = false := by simpa using h41
        have c41 : chr p i ≠ 41 := fun e => h41 (by unfold isAt; rw [decide_eq_true hip, e]; rfl)
        have c124 : chr p i ≠ 124 := fun e => hend.2 (by unfold isAt; rw [decide_eq_true hip, e]; rfl)
        cases hc : pieceR p (inn p d) i with
        | fault e a => rw [hc] at h; cases h
        | got u k =>
          rw [hc] at h
          simp only [Res.bind] at h
          have hk := pf i u k hip hc
          obtain ⟨h1, hh1, hemb1, hT1, hsc1⟩ := hpc i u k hip c41 c124 hc
          obtain ⟨h2, hh2, hemb2, hT2, hsc2⟩ := alt_ok hd hpc n k (l ++ [u]) t j hk.2 (fun x hx => by
            rcases List.mem_append.1 hx with hx | hx
            · exact hl x hx
            · rw [List.mem_singleton.1 hx]; exact hT1) h
          refine ⟨max h1 h2, by omega, fun q a d' n' A hd' htop hE hn' => ?_, hT2, fun L hL => (hsc1 L hL).trans (hsc2 L hL)⟩
          obtain ⟨n', rfl⟩ : ∃ c, n' = c + 1 := ⟨n' - 1, by omega⟩
          have g1 := hemb1 q a d' A hd'
          have g2 := hemb2 q a d' n' A hd' htop hE (by omega)
          have key : alF q d' (n' + 1) (a + i) l = (pieceR q (inn q d') (a + i)).bind fun t j => alF q d' n' j (l ++ [t]) := by
            unfold alF
            conv => lhs; unfold altR
            rw [A.isAt hip, A.isAt hip, e124, e41, decide_eq_false (show ¬ q.size ≤ a + i by have := A.le; omega)]
            rfl
          rw [key]
          by_cases hle : h1 ≤ d'
          · rw [g1.1 hle]
            simp only [Res.bind]
            exact ⟨fun h => g2.1 (by omega), fun h => g2.2 (by omega)⟩
          · obtain ⟨x, e⟩ := g1.2 (by omega)
            rw [e]
            exact ⟨fun h => by omega, fun h => ⟨x, rfl⟩⟩
/-- the alternatives of a pattern -/
theorem patL_ok {d : Nat} (hd : d ≤ 64) (hal : ∀ i t j, i ≤ p.size → alR p d i = .got t j → AlOk p d i t j) :
    ∀ n i l t j, i ≤ p.size → (∀ x ∈ l, x.isT = true) → patL p (alR p d) n i l = .got t j →
      ∃ h c, h ≤ d ∧ (∀ q a d' n', Emb p q a → d' ≤ 64 → (d' = 64 → d = 64) → (j = p.size → EndP q (decide (d' = 64)) (a + p.size)) → a + p.size + 1 ≤ n' + (a + i) → (h ≤ d' → patL q (alR q d') n' (a + i) l = .got t (a + j)) ∧ (d' < h → Deep (patL q (alR q d') n' (a + i) l))) ∧ t.isT = true ∧ (∀ L : Int, 0 ≤ L → ScB p i j L (if L = 0 then c else 0) h) ∧ (c = 0 → l = [] → alR p d i = .got t j)
  | 0, _, _, _, _, _, _, h => by cases h
  | n + 1, i, l, t, j, hi, hl, h => by
    have pf : ∀ i t j, i < p.size → pieceR p (inn p d) i = .got t j → i < j ∧ j ≤ p.size := fun i t j hi h => pieceR_fwd (inn_fwd d) h hi
    have af : ∀ i t j, i ≤ p.size → alR p d i = .got t j → i ≤ j ∧ j ≤ p.size := fun i t j hi h => altR_fwd pf _ _ _ _ _ hi h
    unfold patL at h
    cases hc : alR p d i with
    | fault e a => rw [hc] at h; cases h
    | got u k =>
      rw [hc] at h
      simp only [Res.bind] at h
      have hk := af i u k hi hc
      have hkend := altR_end _ _ _ _ _ hc
      obtain ⟨h1, hh1, hemb1, hT1, hsc1⟩ := hal i u k hi hc
      have hlu : ∀ x ∈ l ++ [u], x.isT = true := fun x hx => by
        rcases List.mem_append.1 hx with hx | hx
        · exact hl x hx
        · rw [List.mem_singleton.1 hx]; exact hT1
      have key : ∀ q (a d' n' : Nat), patL q (alR q d') (n' + 1) (a + i) l = (alR q d' (a + i)).bind fun t j => if isAt q j 124 then patL q (alR q d') n' (j + 1) (l ++ [t]) else .got (someN 4 (l ++ [t])) j := fun q a d' n' => by
        conv => lhs; unfold patL
      split at h
      · rename_i hb
        have hkl := isAt_lt hb
        have hkj := patL_fwd af _ _ _ _ _ (by omega) h
        obtain ⟨h2, c, hh2, hemb2, hT2, hsc2, -⟩ := patL_ok hd hal n (k + 1) (l ++ [u]) t j (by omega) hlu h
        refine ⟨max h1 h2, c + 1, by omega, fun q a d' n' A hd' htop hE hn' => ?_, hT2, fun L hL => ?_, fun e => by omega⟩
        · obtain ⟨n', rfl⟩ : ∃ c, n' = c + 1 := ⟨n' - 1, by omega⟩
          have g1 := hemb1 q a d' A hd' htop (fun e => by omega)
          have g2 := hemb2 q a d' n' A hd' htop hE (by omega)
          rw [key]
          by_cases hle : h1 ≤ d'
          · rw [g1.1 hle]
            simp only [Res.bind]
            rw [A.isAt hkl, if_pos hb]
            exact ⟨fun h => g2.1 (by omega), fun h => g2.2 (by omega)⟩
          · obtain ⟨x, e⟩ := g1.2 (by omega)
            rw [e]
            exact ⟨fun h => by omega, fun h => ⟨x, rfl⟩⟩
        · intro nn M hM
          have q1 : chr p k = 124 := isAt_eq hb
          have h5 : chr p k ≠ 92 ∧ chr p k ≠ 91 ∧ chr p k ≠ 40 ∧ chr p k ≠ 41 := by omega
          rw [hsc1 L hL nn M hM, Bs_step hkl, if_neg h5.1, if_neg h5.2.1, if_neg h5.2.2.1, if_neg h5.2.2.2, if_pos q1, hsc2 L hL _ _ (by omega)]
          by_cases hL0 : L = 0
          · rw [if_pos hL0, if_pos hL0, if_pos hL0]
            congr 1 <;> omega
          · rw [if_neg hL0, if_neg hL0, if_neg hL0]
            congr 1 <;> omega
      · rename_i hb
        injection h with h3 h4
        subst h3 h4
        refine ⟨h1, 0, hh1, fun q a d' n' A hd' htop hE hn' => ?_, isT_some3 hlu (.inr rfl), fun L hL => ?_, fun _ e => by rw [e]; rfl⟩
        · obtain ⟨n', rfl⟩ : ∃ c, n' = c + 1 := ⟨n' - 1, by omega⟩
          have g1 := hemb1 q a d' A hd' htop (fun e => (hE e).a)
          rw [key]
          by_cases hle : h1 ≤ d'
          · rw [g1.1 hle]
            simp only [Res.bind]
            have hno : isAt q (a + k) 124 = false := by
              by_cases e : k < p.size
              · rw [A.isAt e]; simpa using hb
              · obtain rfl : k = p.size := by omega
                exact (hE rfl).no
            rw [hno]
            exact ⟨fun h => rfl, fun h => by omega⟩
          · obtain ⟨x, e⟩ := g1.2 (by omega)
            rw [e]
            exact ⟨fun h => by omega, fun h => ⟨x, rfl⟩⟩
        · rw [show (if L = 0 then 0 else 0) = 0 by split <;> rfl]
          exact hsc1 L hL
theorem al_ok {d : Nat} (hd : d ≤ 64) (ih : ∀ d0, d = d0 + 1 → ∀ i t j, i ≤ p.size → patR p d0 i = .got t j → PtOk p d0 i t j) (i : Nat) (t : Nd) (j : Nat) (hi : i ≤ p.size) (h : alR p d i = .got t j) : AlOk p d i t j := by
  obtain ⟨x, h1, h2, h3, h4⟩ := alt_ok hd (fun i t j hi h41 h124 h => piece_ok hd ih hi h41 h124 h) _ i [] t j hi (fun x hx => by simp at hx) h
  exact ⟨x, h1, fun q a d' A hd' htop hE => h2 q a d' (q.size + 2) A hd' htop hE (by have := A.le; omega), h3, h4⟩
theorem pat_ok : ∀ d, d ≤ 64 → ∀ i t j, i ≤ p.size → patR p d i = .got t j → PtOk p d i t j
  | d, hd, i, t, j, hi, h => by
    have ih : ∀ d0, d = d0 + 1 → ∀ i t j, i ≤ p.size → patR p d0 i = .got t j → PtOk p d0 i t j := fun d0 e i t j hi h => pat_ok d0 (by omega) i t j hi h
    rw [patR_al] at h
    obtain ⟨x, c, h1, h2, h3, h4, h5⟩ := patL_ok hd (al_ok hd ih) _ i [] t j hi (fun x hx => by simp at hx) h
    refine ⟨x, c, h1, fun q a d' A hd' htop hE => ?_, h3, h4, fun e => h5 e rfl⟩
    rw [patR_al]
    exact h2 q a d' (q.size + 2) A hd' htop hE (by have := A.le; omega)
end
end Ere
end Go.Proofs.Ytajainmldcnaeaa
namespace Go.Proofs.Ytajainmldcnaeaa
set_option linter.unusedVariables false
set_option linter.unusedSimpArgs false

namespace Ere
theorem chr_app (p t : ByteArray) (k : Nat) : chr (p ++ t) k = if k < p.size then chr p k else chr t (k - p.size) := by
  unfold chr
  by_cases hk : k < p.size
  · rw [if_pos hk, dif_pos (by rw [ByteArray.size_append]; omega), dif_pos hk, ByteArray.getElem_append_left hk]
  · rw [if_neg hk]
    by_cases h2 : k - p.size < t.size
    · rw [dif_pos (by rw [ByteArray.size_append]; omega), dif_pos h2, ByteArray.getElem_append_right (by omega)]
    · rw [dif_neg (by rw [ByteArray.size_append]; omega), dif_neg h2]
theorem isAt_of {p : ByteArray} {i c : Nat} (h : i < p.size) (e : chr p i = c) : isAt p i c = true := by
  unfold isAt
  rw [decide_eq_true h, e]
  simp
theorem isAt_ne {p : ByteArray} {i c : Nat} (e : chr p i ≠ c) : isAt p i c = false := by
  unfold isAt
  rw [decide_eq_false e, Bool.and_false]
theorem isAt_out {p : ByteArray} {i c : Nat} (h : p.size ≤ i) : isAt p i c = false := by
  unfold isAt
  rw [decide_eq_false (by omega), Bool.false_and]
section
variable {p : ByteArray}
theorem alF_piece {d n i k : Nat} {l : List Nd} {u : Nd} (hi : i < p.size) (h1 : chr p i ≠ 124) (h2 : chr p i ≠ 41) (h : pieceR p (inn p d) i = .got u k) : alF p d (n + 1) i l = alF p d n k (l ++ [u]) := by
  conv => lhs; unfold alF altR
  rw [isAt_ne h1, isAt_ne h2, decide_eq_false (by omega), h]
  rfl
theorem alF_fault {d n i e x : Nat} {l : List Nd} (hi : i < p.size) (h1 : chr p i ≠ 124) (h2 : chr p i ≠ 41) (h : pieceR p (inn p d) i = .fault e x) : alF p d (n + 1) i l = .fault e x := by
  conv => lhs; unfold alF altR
  rw [isAt_ne h1, isAt_ne h2, decide_eq_false (by omega), h]
  rfl
theorem alF_end {d n i : Nat} {l : List Nd} (hi : p.size ≤ i ∨ isAt p i 124 = true) : alF p d (n + 1) i l = .got (someN 3 l) i := by
  unfold alF altR
  rw [if_pos]
  rcases hi with h | h
  · rw [decide_eq_true h]; rfl
  · rw [h, Bool.or_true]
theorem patL_end' {al : Nat → Res Nd} {n i k : Nat} {l : List Nd} {u : Nd} (h : al i = .got u k) (hk : isAt p k 124 = false) : patL p al (n + 1) i l = .got (someN 4 (l ++ [u])) k := by
  unfold patL
  rw [h]
  simp only [Res.bind]
  rw [hk]
  rfl
theorem patL_fault {al : Nat → Res Nd} {n i e x : Nat} {l : List Nd} (h : al i = .fault e x) : patL p al (n + 1) i l = .fault e x := by
  unfold patL
  rw [h]
  rfl
theorem piece_group {d i k : Nat} {u : Nd} (hi : chr p i = 40) (h : patR p d (i + 1) = .got u k) (hk : k < p.size) : pieceR p (inn p (d + 1)) i = repeatR p u (k + 1) := by
  unfold pieceR
  simp only [inn]
  rw [if_neg (by omega), if_neg (by omega), if_neg (by omega), if_pos hi, h]
  simp only [Res.bind]
  rw [if_neg (by omega)]
theorem piece_group_fault {d i e x : Nat} (hi : chr p i = 40) (h : patR p d (i + 1) = .fault e x) : pieceR p (inn p (d + 1)) i = .fault e x := by
  unfold pieceR
  simp only [inn]
  rw [if_neg (by omega), if_neg (by omega), if_neg (by omega), if_pos hi, h]
  rfl
/-- at the top a pattern is read to its end -/
theorem alR_top {i j : Nat} {t : Nd} : ∀ n l, alF p 64 n i l = .got t j → p.size ≤ j ∨ isAt p j 124 = true := by
  intro n
  induction n generalizing i with
  | zero => intro l h; cases h
  | succ n ih =>
    intro l h
    unfold alF altR at h
    split at h
    · rename_i h1
      injection h with _ h2
      subst h2
      simp only [Bool.or_eq_true, decide_eq_true_eq] at h1
      exact h1
    · split at h
      · rw [if_pos (by decide)] at h
        cases h
      · cases hc : pieceR p (inn p 64) i with
        | fault e a => rw [hc] at h; cases h
        | got u k =>
          rw [hc] at h
          exact ih _ h
theorem patL_top {j : Nat} {t : Nd} : ∀ n i l, patL p (alR p 64) n i l = .got t j → p.size ≤ j
  | 0, _, _, h => by cases h
  | n + 1, i, l, h => by
    unfold patL at h
    cases hc : alR p 64 i with
    | fault e a => rw [hc] at h; cases h
    | got u k =>
      rw [hc] at h
      simp only [Res.bind] at h
      split at h
      · exact patL_top n _ _ h
      · rename_i h1
        injection h with _ h2
        subst h2
        rcases alR_top _ _ hc with h3 | h3
        · exact h3
        · exact absurd h3 h1
theorem patR_top {j : Nat} {t : Nd} (h : patR p 64 0 = .got t j) : j = p.size := by
  have h1 := patR_fwd 64 0 t j (by omega) h
  rw [patR_al] at h
  have := patL_top _ _ _ h
  omega
/-- a pattern that is read -/
structure Good4 (p : ByteArray) (t : Nd) : Prop where
  size : p.size ≤ 1024
  nl : ∀ k, k < p.size → chr p k ≠ 10
  got : patR p 64 0 = .got t p.size
  places : placesN t ≤ 2048
theorem parse_ok (h : (parseR p).2.2 = 0) : Good4 p (parseR p).1 ∧ (parseR p).2.1 = 0 := by
  obtain ⟨R, hR⟩ : ∃ R, parseR p = R := ⟨_, rfl⟩
  rw [hR] at h ⊢
  unfold parseR at hR
  split at hR
  · subst hR; cases h
  rename_i hs
  split at hR
  · subst hR; cases h
  rename_i hn
  split at hR
  · rename_i e a he
    have := patR_bad 64 0 e a (by omega) he
    subst hR
    unfold BadF okE at this
    simp only at h
    omega
  rename_i t j he
  split at hR
  · subst hR; cases h
  rename_i hp
  have := patR_top he
  subst this
  subst hR
  exact ⟨⟨by omega, fun k hk => nlAt_none p (p.size + 1) 0 (by omega) hn k (by omega) hk, he, by show placesN t ≤ 2048; omega⟩, rfl⟩
theorem parse_of {t : Nd} {j : Nat} (hs : p.size ≤ 1024) (hn : ∀ k, k < p.size → chr p k ≠ 10) (h : patR p 64 0 = .got t j) : parseR p = if 2048 < placesN t then (zeroN, 0, 48) else (t, 0, 0) := by
  unfold parseR
  rw [if_neg (by omega), nlAt_all hn]
  simp only [h]
theorem parse_fault {e x : Nat} (hs : p.size ≤ 1024) (hn : ∀ k, k < p.size → chr p k ≠ 10) (h : patR p 64 0 = .fault e x) : parseR p = (zeroN, x, e) := by
  unfold parseR
  rw [if_neg (by omega), nlAt_all hn]
  simp only [h]
theorem parse_long (hs : 1024 < p.size) : parseR p = (zeroN, 1024, 40) := by
  unfold parseR
  rw [if_pos hs]
/-- bars and depth of a pattern that is read -/
theorem good_bars {t : Nd} (g : Good4 p t) : ∃ h c : Nat, barsP p = ((c : Int), (h : Int)) ∧ h ≤ 64 ∧ t.isT = true ∧
    (∀ q a, Emb p q a → EndP q false (a + p.size) → (h ≤ 63 → patR q 63 a = .got t (a + p.size)) ∧ (63 < h → Deep (patR q 63 a))) ∧
    (c = 0 → ∀ q a, Emb p q a → EndA q true (a + p.size) → alR q 64 a = .got t (a + p.size)) := by
  obtain ⟨h, c, h1, h2, h3, h4, h5⟩ := pat_ok 64 (by omega) 0 t p.size (by omega) g.got
  refine ⟨h, c, ?_, h1, h3, fun q a A hE => ?_, fun hc q a A hE => ?_⟩
  · have := h4 0 (by omega) 0 0 (by omega)
    rw [if_pos rfl, Bs_end (Nat.le_refl _)] at this
    unfold barsP
    unfold Bs at this
    rw [this]
    congr 1 <;> omega
  · have := h2 q a 63 A (by omega) (by omega) (fun _ => by rwa [decide_eq_false (by omega)])
    exact ⟨fun h => this.1 h, fun h => this.2 h⟩
  · obtain ⟨h', h6, h7, -, -⟩ := al_ok (by omega) (fun d0 e i t j hi h => pat_ok d0 (by omega) i t j hi h) 0 t p.size (by omega) (h5 hc)
    exact (h7 q a 64 A (by omega) (fun _ => rfl) (fun _ => by rwa [decide_eq_true rfl])).1 h6
end
/-- in brackets -/
def brk (p : ByteArray) : ByteArray := ⟨#[40]⟩ ++ p ++ ⟨#[41]⟩
theorem brk_size (p : ByteArray) : (brk p).size = p.size + 2 := by
  unfold brk
  rw [ByteArray.size_append, ByteArray.size_append]
  show 1 + p.size + 1 = _
  omega
theorem brk_chr (p : ByteArray) (k : Nat) : chr (brk p) k = if k = 0 then 40 else if k < p.size + 1 then chr p (k - 1) else if k = p.size + 1 then 41 else 0 := by
  unfold brk
  rw [chr_app, chr_app, ByteArray.size_append]
  have s1 : (⟨#[40]⟩ : ByteArray).size = 1 := rfl
  rw [s1]
  by_cases h0 : k = 0
  · subst h0
    rw [if_pos (by omega), if_pos (by omega), if_pos rfl]
    rfl
  rw [if_neg h0]
  by_cases h1 : k < p.size + 1
  · rw [if_pos (by omega), if_neg (by omega), if_pos h1]
  rw [if_neg (by omega), if_neg h1]
  by_cases h2 : k = p.size + 1
  · rw [if_pos h2, h2, show p.size + 1 - (1 + p.size) = 0 by omega]
    rfl
  rw [if_neg h2]
  unfold chr
  rw [dif_neg]
  show ¬ (k - (1 + p.size) < 1)
  omega
theorem brk_emb (p : ByteArray) : Emb p (brk p) 1 := by
  refine ⟨by rw [brk_size]; omega, fun k hk => ?_, fun c hc => isAt_ne ?_⟩
  · rw [brk_chr, if_neg (by omega), if_pos (by omega), show 1 + k - 1 = k by omega]
  · rw [brk_chr, if_neg (by omega), if_neg (by omega), if_pos (by omega)]
    omega
theorem brk_nl {p : ByteArray} (h : ∀ k, k < p.size → chr p k ≠ 10) : ∀ k, k < (brk p).size → chr (brk p) k ≠ 10 := by
  intro k hk
  rw [brk_size] at hk
  rw [brk_chr]
  split
  · omega
  split
  · exact h _ (by omega)
  · rw [if_pos (by omega)]; omega
/-- what EreTrees says -/
structure TreesHold (p : ByteArray) : Prop where
  bad : (parseR p).2.2 ≠ 0 → (parseR p).1 = zeroN ∧ (parseR p).2.1 ≤ p.size ∧ ((40 ≤ (parseR p).2.2 ∧ (parseR p).2.2 ≤ 48) ∨ (parseR p).2.2 = 30) ∧ (p.size ≤ 1024 ∨ ((parseR p).2.2 = 40 ∧ (parseR p).2.1 = 1024))
  good : (parseR p).2.2 = 0 → (parseR p).2.1 = 0 ∧ (parseR p).1.isT = true ∧ 1 ≤ placesN (parseR p).1 ∧ placesN (parseR p).1 ≤ 2048 ∧ p.size ≤ 1024 ∧ ∃ c h : Nat, barsP p = ((c : Int), (h : Int)) ∧
    (1022 < p.size → parseR (brk p) = (zeroN, 1024, 40)) ∧ (p.size ≤ 1022 → 64 ≤ h → (parseR (brk p)).2.2 = 47) ∧ (p.size ≤ 1022 → h ≤ 63 → parseR (brk p) = ((parseR p).1, 0, 0))
theorem brk_alF {p : ByteArray} {u : Nd} (h : patR (brk p) 63 1 = .got u (1 + p.size)) : patR (brk p) 64 0 = .got u (brk p).size := by
  have hs := brk_size p
  have hc : chr (brk p) 0 = 40 := by rw [brk_chr, if_pos rfl]
  rw [patR_al]
  refine patL_end' (n := (brk p).size + 1) (l := []) (u := u) ?_ (isAt_out (Nat.le_refl _))
  unfold alR
  have hp : pieceR (brk p) (inn (brk p) 64) 0 = .got u (brk p).size := by
    rw [piece_group (d := 63) hc h (by omega), show 1 + p.size + 1 = (brk p).size by omega, repeatR_end (Nat.le_refl _)]
  rw [show (brk p).size + 2 = ((brk p).size + 1) + 1 from rfl, alF_piece (by omega) (by omega) (by omega) hp, alF_end (.inl (Nat.le_refl _))]
  rfl
theorem trees_hold (p : ByteArray) : TreesHold p := by
  refine ⟨fun h => ?_, fun h => ?_⟩
  · obtain ⟨R, hR⟩ : ∃ R, parseR p = R := ⟨_, rfl⟩
    rw [hR] at h ⊢
    unfold parseR at hR
    split at hR
    · rename_i hs
      subst hR
      exact ⟨rfl, by simp only; omega, .inl ⟨by simp only; omega, by simp only; omega⟩, .inr ⟨rfl, rfl⟩⟩
    rename_i hs
    split at hR
    · rename_i i hn
      have := nlAt_some p _ _ _ hn
      subst hR
      exact ⟨rfl, by simp only; omega, .inl ⟨by simp only; omega, by simp only; omega⟩, .inl (by omega)⟩
    rename_i hn
    split at hR
    · rename_i e a he
      have := patR_bad 64 0 e a (by omega) he
      unfold BadF okE at this
      subst hR
      exact ⟨rfl, by simp only; omega, by simp only; omega, .inl (by omega)⟩
    rename_i t j he
    split at hR
    · rename_i hp
      subst hR
      exact ⟨rfl, by simp only; omega, .inl ⟨by simp only; omega, by simp only; omega⟩, .inl (by omega)⟩
    · subst hR; exact absurd rfl h
  · obtain ⟨g, ha⟩ := parse_ok h
    obtain ⟨t, ht⟩ : ∃ t, (parseR p).1 = t := ⟨_, rfl⟩
    rw [ht] at g ⊢
    obtain ⟨hh, c, hb, h64, hT, hemb, -⟩ := good_bars g
    have hs := brk_size p
    have hE := hemb (brk p) 1 (brk_emb p) (.inr ⟨isAt_of (by omega) (by rw [brk_chr, if_neg (by omega), if_neg (by omega), if_pos (by omega)]), isAt_ne (by rw [brk_chr, if_neg (by omega), if_neg (by omega), if_pos (by omega)]; omega), rfl⟩)
    have hp1 : 1 ≤ placesN t := by unfold placesN; rw [hT, if_pos rfl]; omega
    refine ⟨ha, hT, hp1, g.places, g.size, c, hh, hb, fun h1 => parse_long (by omega), fun h1 h2 => ?_, fun h1 h2 => ?_⟩
    · obtain ⟨x, e⟩ := hE.2 (by omega)
      have hc : chr (brk p) 0 = 40 := by rw [brk_chr, if_pos rfl]
      have : patR (brk p) 64 0 = .fault 47 x := by
        rw [patR_al]
        refine patL_fault (n := (brk p).size + 1) ?_
        unfold alR
        rw [show (brk p).size + 2 = ((brk p).size + 1) + 1 from rfl]
        exact alF_fault (by omega) (by omega) (by omega) (piece_group_fault (d := 63) hc e)
      rw [parse_fault (by omega) (brk_nl g.nl) this]
    · rw [parse_of (by omega) (brk_nl g.nl) (brk_alF (hE.1 h2)), if_neg (by have := g.places; omega)]
end Ere
end Go.Proofs.Ytajainmldcnaeaa
namespace Go.Proofs.Ytajainmldcnaeaa
open Go.RowKit Go.Maps
set_option linter.unusedVariables false
set_option linter.unusedSimpArgs false
attribute [local go_sem] Oper.semAt_some

theorem enter_num7 (args : Array Value) (w : World) : (callFunc 27 args).run Try.prog w = .ok (.enter 27 args) w := by kernel_rfl
theorem enter_right7 (args : Array Value) (w : World) : (callFunc 29 args).run Try.prog w = .ok (.enter 29 args) w := by kernel_rfl
theorem enter_places7 (args : Array Value) (w : World) : (callFunc 16 args).run Try.prog w = .ok (.enter 16 args) w := by kernel_rfl
theorem row_blk7 {w : World} {g : Nat} {t : TypeId} {cs : Array Value} (h : Blk w g t cs) : RowAt w g 0 cs := fun j v hv => by rw [Nat.zero_add]; exact h.cellv hv
theorem ne_self (x : Int) : (x != x) = false := by simp
theorem num7_below (v : Int) (w : World) : Calls Try.prog 27 #[.int .i64 v] w fun e w' => e = .returned (.int .i64 v) ∧ Below w.heap.size w w' := (num_any v w).mono fun e w' h => ⟨h.1, h.2 ▸ Below.refl _ _⟩
theorem rule_small (z : Int) : ∃ r : Nat, r < 32 ∧ wrap64 ((IntKind.u64.wrap z).tmod 32) = (r : Int) := by
  have h0 : 0 ≤ IntKind.u64.wrap z := by unfold IntKind.wrap IntKind.signed IntKind.bits; simp; omega
  rw [Int.tmod_eq_emod_of_nonneg h0]
  refine ⟨(IntKind.u64.wrap z % 32).toNat, by omega, ?_⟩
  unfold wrap64
  omega
set_option maxRecDepth 100000 in
set_option maxHeartbeats 8000000 in
theorem meets_any (p q : ByteArray) (z : Int) (w : World) (hM : Mx w) :
    Calls Try.prog 8 #[.string p, .string q, .int .i64 z] w fun e w' => e = .returned (.bool true) ∧ Below w.heap.size w w' := by
  have kP : ∀ W, Mx W → _ := fun W hW => parse_any p W hW
  have hgood := (Ere.trees_hold p).good
  obtain ⟨⟨nd, a, e⟩, hr⟩ : ∃ r, Ere.parseR p = r := ⟨_, rfl⟩
  rw [hr] at kP hgood
  simp only at kP hgood
  clear hr
  replace kP := Lib.hid kP
  replace hgood := Lib.hid hgood
  go_enter Try.func8, Try.ntmps8
  go_upto_region 3 with (go_at_call 25; refine (known_any _).mono ?_; rintro en w1 ⟨rfl, hB1⟩)
  have hM1 := hM.then_ hB1
  have kP1 := kP.out w1 hM1
  clear kP
  go_upto_region 4 with (go_at_call 26; refine (short_any q _).mono ?_; rintro en ws ⟨⟨q', rfl, hq'⟩, hws⟩; rw [hws]; clear hws)
  go_upto_region 5 with (fail)
  obtain ⟨r, hr, hre⟩ := rule_small z
  rw [hre]
  replace hr := Lib.hid hr
  clear hre
  go_upto_region 6 with (first
    | (go_at_call 12; refine kP1.mono ?_; rintro en w2 ⟨hB2, x, bs, rfl, hO2⟩)
    | (refine wl_store_nv rfl _ _ rfl _ x rfl rfl _ rfl (Blk.new _ _ zeroC) ?_; intro w3 k7 hg3))
  have hBa := below_alloc (Below.refl w2.heap.size w2) (.cells zeroC 27)
  have hB3 : Below w.heap.size w w3 := below_grown (below_then (below_then hB1 hB2) hBa) hg3 (by have := hB1.size; have := hB2.size; omega)
  have hO3 := (hO2.then_ hBa).keep (w' := w3) (fun b hb => hg3.block b (by have := (hO2.lt b hb).2; simp; omega) (fun e => by injection e with e; have := (hO2.lt b hb).2; omega))
  have hx := hO3.toIn
  obtain ⟨g7, hg7e⟩ : ∃ y, y = w2.heap.size := ⟨_, rfl⟩
  rw [← hg7e] at k7 ⊢
  clear hg3 hO2 hB1 hB2 kP1 hBa hg7e hM1 hM hO3
  by_cases he : e = 0
  · obtain ⟨-, hT, hp1, hp2, -⟩ := hgood.out he
    subst he
    have hpl := placesN_eq nd
    rw [← hpl] at hp2
    have hU : ¬ 2048 ≤ nd.U := by unfold placesN at hp2; rw [if_pos hT] at hp2; omega
    have kB := build_good nd hT hU r hr.out w3.heap.size w3 x.C hx (Nat.le_refl _)
    have hmet := fun q V hV => Mt.meets_plain (q := q) hT r (fun d hd => ⟨⟨(Mt.layF_edges hT d hd).1.1, (Mt.layF_edges hT d hd).2.1⟩, (Mt.layF_edges hT d hd).1.2.1, (Mt.layF_edges hT d hd).2.2⟩) V hV
    have hRt := Mt.m_right hT hU hr.out
    have hNe := Mt.mN_eq hT hU
    have kPl0 := fun W hW => placesE_any nd w3.heap.size W x.C (hx.keep (fun j hj => Below.block (w := w3) (w' := W) hW j hj)) (Below.size hW)
    have h1N := (Mt.m_fits hT r).one
    change ∀ q V, (V = true ↔ ∃ i j, i ≤ q.size ∧ Mt.tk q nd i j) → Mt.mV (Mt.mE nd) (Mt.mR nd r) (Mt.mN nd) q (q.size + 1) = if V = true then 2 ^ r else 0 at hmet
    rw [← hNe] at hp2 kPl0
    obtain ⟨N, hN⟩ : ∃ y, Mt.mN nd = y := ⟨_, rfl⟩
    obtain ⟨E, hE⟩ : ∃ y, Mt.mE nd = y := ⟨_, rfl⟩
    obtain ⟨R, hR⟩ : ∃ y, Mt.mR nd r = y := ⟨_, rfl⟩
    rw [hN] at kB hmet hRt hp2 kPl0 h1N
    rw [hE] at kB hmet hRt
    rw [hR] at kB hmet
    obtain ⟨n, hn⟩ : ∃ y, E.length = y := ⟨_, rfl⟩
    rw [hn] at kB
    have hN1 : decide ((N : Int) < 1) = false := decide_eq_false (by omega)
    have hN25 : ¬ (2500 : Int) < (N : Int) := by omega
    replace kB := Lib.hid kB
    replace hmet := Lib.hid hmet
    replace hRt := Lib.hid hRt
    replace hx := Lib.hid hx
    replace kPl0 := Lib.hid kPl0
    replace hT := Lib.hid hT
    replace hN1 := Lib.hid hN1
    replace hn := Lib.hid hn
    clear hN hE hR hNe hpl hp1 hp2 hU hgood h1N
    go_upto_region 8 with (go_at_call 27; refine (num_any _ _).mono ?_; rintro en wn ⟨rfl, hwn⟩; rw [hwn]; clear hwn)
    go_upto_region 9 with (first
      | (refine wl_load_nv rfl _ rfl g7 rfl x k7 ?_)
      | (go_at_call 28; refine kB.out.mono ?_; rintro en w4 ⟨hB4, A, c, B, d, rfl, hM4⟩)
      | (refine wl_store_nfa rfl _ _ rfl _ _ _ _ _ _ _ _ rfl rfl 0 none 0 0 none 0 0 (Blk.new _ _ _) ?_; intro w5 k10 hg5))
    have hB5 := below_then hB4 (below_grown (below_alloc (Below.refl _ w4) (.cells #[.int .i64 0, .slice none 0 0, .slice none 0 0] 52)) hg5 (Nat.le_refl _))
    have hM5 := (hM4.then_ (below_alloc (Below.refl _ w4) (.cells #[.int .i64 0, .slice none 0 0, .slice none 0 0] 52))).grown hg5 (Nat.le_refl _)
    replace k7 := blk_then k7 hB5
    obtain ⟨g10, hg10⟩ : ∃ y, y = w4.heap.size := ⟨_, rfl⟩
    rw [← hg10] at k10 hM5 ⊢
    have hlow := hM5.low
    have hEl := hM5.lE
    have hsE := hM5.edges.more hM5.low
    have kRt : ∀ W, Below w5.heap.size w5 W → Calls Try.prog 29 #[.agg (nfaC ((N : Nat) : Int) A n c B N d)] W fun e w' => e = .returned (.bool true) ∧ Below W.heap.size W w' := fun W hW => by
      have := right_any (N : Int) A n c B N d E hn.out.symm hEl W ((hsE.below hW).more hW.size)
      rwa [hRt.out] at this
    have kPl : ∀ W, Below w5.heap.size w5 W → Calls Try.prog 16 #[.agg x.C] W fun e w' => e = .returned (.int .i64 (N : Int)) ∧ Below W.heap.size W w' := fun W hW => kPl0.out W (hB5.trans (hW.mono hB5.size))
    have kNum := fun W => num7_below 0 W
    replace hM5 := Lib.hid hM5
    have hN1 := hN1.out
    have hBw := below_then hB3 hB5
    clear hg5 hM4 hB4 hg10 hEl hsE kB kPl0
    refine wp_region_steps 28 [eqS (.int .i64 (0)), eqS (.int .i64 (0)), eqS (.bool false), eqS (.bool false), eqS (vF (true && (false == false)) (.agg (nfaC ((N : Nat) : Int) A n c B N d))), eqS (vF (true && (false == false)) (.bool true)), eqS (vF (true && (false == false)) (.bool (!true))), eqS (.bool (false || (!true))), eqS (.bool (false || (!true))), eqS (vF (true && ((false || (!true)) == false)) (.pointer (some ⟨g10, 0, none⟩))), eqS (vF (true && ((false || (!true)) == false)) (.int .i64 (((N : Nat) : Int)))), eqS (vF (true && ((false || (!true)) == false)) (.agg x.C)), eqS (vF (true && ((false || (!true)) == false)) (.int .i64 (((N : Nat) : Int)))), eqS (vF (true && ((false || (!true)) == false)) (.bool false)), eqS (.bool ((false || (!true)) || false)), eqS (.bool ((false || (!true)) || false)), eqS (vF (true && (((false || (!true)) || false) == false)) (.pointer (some ⟨g10, 0, none⟩))), eqS (vF (true && (((false || (!true)) || false) == false)) (.int .i64 (((N : Nat) : Int)))), eqS (vF (true && (((false || (!true)) || false) == false)) (.bool false)), eqS (.bool (((false || (!true)) || false) || false)), eqS (.bool (((false || (!true)) || false) || false)), eqS (vF (true && ((((false || (!true)) || false) || false) == false)) (.pointer (some ⟨g10, 2, none⟩))), eqS (vF (true && ((((false || (!true)) || false) || false) == false)) (.slice B N d)), eqS (vF (true && ((((false || (!true)) || false) || false) == false)) (.int .i64 (((N : Nat) : Int)))), eqS (vF (true && ((((false || (!true)) || false) || false) == false)) (.pointer (some ⟨g10, 0, none⟩))), eqS (vF (true && ((((false || (!true)) || false) || false) == false)) (.int .i64 (((N : Nat) : Int)))), eqS (vF (true && ((((false || (!true)) || false) || false) == false)) (.bool false)), eqS (.bool ((((false || (!true)) || false) || false) || false))] [36, 37, 38, 39, 40, 41, 42, 43, 44, 45, 46, 47, 48, 49, 50, 51, 52, 53, 54, 55, 56, 57, 58, 59, 60, 61, 62, 63] follows_mixed (by kernel_rfl) (by kernel_rfl) ?_ ?_
    · skip
      refine Steps.cons (fun a' w' hG hB dep => gs_move (want_none rfl) _ rfl (id (hG.other 11 rfl))) ?_
      refine Steps.cons (fun a' w' hG hB dep => gs_call (want_none rfl) _ _ _ rfl enter_num7 #[.int .i64 0] (map1 (dep 0 rfl 36 rfl)) (ret_step (kNum _) (fun _ => rfl))) ?_
      refine Steps.cons (fun a' w' hG hB dep => gs_neq_int (want_none rfl) _ _ _ _ rfl _ _ _ (dep 1 rfl 37 rfl) rfl (id (congrArg Value.bool (by decide)))) ?_
      refine Steps.cons (fun a' w' hG hB dep => gs_move (want_none rfl) _ rfl (id (dep 2 rfl 38 rfl))) ?_
      refine Steps.cons (fun a' w' hG hB dep => gs_guard (c := true) (b' := false) rfl rfl (dep 3 rfl 39 rfl) (fun hc he hw => gs_load_nfa hw _ rfl g10 (hG.other 10 rfl) _ _ _ _ _ _ _ (blk_then k10 hB) (vF_yes (on_g hc he) _).symm) (fun hn => vF_no hn _)) ?_
      refine Steps.cons (fun a' w' hG hB dep => gs_guard (c := true) (b' := false) rfl rfl (dep 3 rfl 39 rfl) (fun hc he hw => gs_call hw _ _ _ rfl enter_right7 #[.agg (nfaC ((N : Nat) : Int) A n c B N d)] (map1 (Eq.trans (dep 4 rfl 40 rfl) (vF_yes (on_g hc he) _))) (ret_step (kRt _ hB) (fun _ => (vF_yes (on_g hc he) _).symm))) (fun hn => vF_no hn _)) ?_
      refine Steps.cons (fun a' w' hG hB dep => gs_guard (c := true) (b' := false) rfl rfl (dep 3 rfl 39 rfl) (fun hc he hw => gs_not_bool hw _ _ rfl _ (Eq.trans (dep 5 rfl 41 rfl) (vF_yes (on_g hc he) _)) (vF_yes (on_g hc he) _).symm) (fun hn => vF_no hn _)) ?_
      refine Steps.cons (fun a' w' hG hB dep => gs_pick (want_none rfl) _ _ _ rfl false (dep 3 rfl 39 rfl) (id (pick_or2 (c := true) rfl (dep 6 rfl 42 rfl)))) ?_
      refine Steps.cons (fun a' w' hG hB dep => gs_move (want_none rfl) _ rfl (id (dep 7 rfl 43 rfl))) ?_
      refine Steps.cons (fun a' w' hG hB dep => gs_guard (c := true) (b' := (false || (!true))) rfl rfl (dep 8 rfl 44 rfl) (fun hc he hw => gs_field hw _ _ _ rfl g10 (0) (0) (hG.other 10 rfl) (fun wz => field_nfa_0 g10 (0) wz) (vF_yes (on_g hc he) _).symm) (fun hn => vF_no hn _)) ?_
      refine Steps.cons (fun a' w' hG hB dep => gs_guard (c := true) (b' := (false || (!true))) rfl rfl (dep 8 rfl 44 rfl) (fun hc he hw => gs_load1 hw _ _ rfl g10 (0) (Eq.trans (dep 9 rfl 45 rfl) (vF_yes (on_g hc he) _)) (.int .i64 (((N : Nat) : Int))) ((blk_then k10 hB).cellv (i := 0) rfl) _ Try.underlying3 rfl (vF_yes (on_g hc he) _).symm) (fun hn => vF_no hn _)) ?_
      refine Steps.cons (fun a' w' hG hB dep => gs_guard (c := true) (b' := (false || (!true))) rfl rfl (dep 8 rfl 44 rfl) (fun hc he hw => gs_load_nd hw _ rfl g7 0 (hG.other 7 rfl) _ ⟨row_blk7 (blk_then k7 hB), rfl⟩ (vF_yes (on_g hc he) _).symm) (fun hn => vF_no hn _)) ?_
      refine Steps.cons (fun a' w' hG hB dep => gs_guard (c := true) (b' := (false || (!true))) rfl rfl (dep 8 rfl 44 rfl) (fun hc he hw => gs_call hw _ _ _ rfl enter_places7 #[.agg x.C] (map1 (Eq.trans (dep 11 rfl 47 rfl) (vF_yes (on_g hc he) _))) (ret_step (kPl _ hB) (fun _ => (vF_yes (on_g hc he) _).symm))) (fun hn => vF_no hn _)) ?_
      refine Steps.cons (fun a' w' hG hB dep => gs_guard (c := true) (b' := (false || (!true))) rfl rfl (dep 8 rfl 44 rfl) (fun hc he hw => gs_neq_int hw _ _ _ _ rfl _ _ _ (Eq.trans (dep 10 rfl 46 rfl) (vF_yes (on_g hc he) _)) (Eq.trans (dep 12 rfl 48 rfl) (vF_yes (on_g hc he) _)) (Eq.trans (congrArg Value.bool (ne_self _)) (vF_yes (on_g hc he) _).symm)) (fun hn => vF_no hn _)) ?_
      refine Steps.cons (fun a' w' hG hB dep => gs_pick (want_none rfl) _ _ _ rfl (false || (!true)) (dep 8 rfl 44 rfl) (id (pick_or2 (c := true) rfl (dep 13 rfl 49 rfl)))) ?_
      refine Steps.cons (fun a' w' hG hB dep => gs_move (want_none rfl) _ rfl (id (dep 14 rfl 50 rfl))) ?_
      refine Steps.cons (fun a' w' hG hB dep => gs_guard (c := true) (b' := ((false || (!true)) || false)) rfl rfl (dep 15 rfl 51 rfl) (fun hc he hw => gs_field hw _ _ _ rfl g10 (0) (0) (hG.other 10 rfl) (fun wz => field_nfa_0 g10 (0) wz) (vF_yes (on_g hc he) _).symm) (fun hn => vF_no hn _)) ?_
      refine Steps.cons (fun a' w' hG hB dep => gs_guard (c := true) (b' := ((false || (!true)) || false)) rfl rfl (dep 15 rfl 51 rfl) (fun hc he hw => gs_load1 hw _ _ rfl g10 (0) (Eq.trans (dep 16 rfl 52 rfl) (vF_yes (on_g hc he) _)) (.int .i64 (((N : Nat) : Int))) ((blk_then k10 hB).cellv (i := 0) rfl) _ Try.underlying3 rfl (vF_yes (on_g hc he) _).symm) (fun hn => vF_no hn _)) ?_
      refine Steps.cons (fun a' w' hG hB dep => gs_guard (c := true) (b' := ((false || (!true)) || false)) rfl rfl (dep 15 rfl 51 rfl) (fun hc he hw => gs_lss_int hw _ _ _ _ rfl _ _ _ (Eq.trans (dep 17 rfl 53 rfl) (vF_yes (on_g hc he) _)) rfl (Eq.trans (congrArg Value.bool hN1) (vF_yes (on_g hc he) _).symm)) (fun hn => vF_no hn _)) ?_
      refine Steps.cons (fun a' w' hG hB dep => gs_pick (want_none rfl) _ _ _ rfl ((false || (!true)) || false) (dep 15 rfl 51 rfl) (id (pick_or2 (c := true) rfl (dep 18 rfl 54 rfl)))) ?_
      refine Steps.cons (fun a' w' hG hB dep => gs_move (want_none rfl) _ rfl (id (dep 19 rfl 55 rfl))) ?_
      refine Steps.cons (fun a' w' hG hB dep => gs_guard (c := true) (b' := (((false || (!true)) || false) || false)) rfl rfl (dep 20 rfl 56 rfl) (fun hc he hw => gs_field hw _ _ _ rfl g10 (0) (2) (hG.other 10 rfl) (fun wz => field_nfa_2 g10 (0) wz) (vF_yes (on_g hc he) _).symm) (fun hn => vF_no hn _)) ?_
      refine Steps.cons (fun a' w' hG hB dep => gs_guard (c := true) (b' := (((false || (!true)) || false) || false)) rfl rfl (dep 20 rfl 56 rfl) (fun hc he hw => gs_load1 hw _ _ rfl g10 (2) (Eq.trans (dep 21 rfl 57 rfl) (vF_yes (on_g hc he) _)) (.slice B N d) ((blk_then k10 hB).cellv (i := 2) rfl) _ Try.underlying50 rfl (vF_yes (on_g hc he) _).symm) (fun hn => vF_no hn _)) ?_
      refine Steps.cons (fun a' w' hG hB dep => gs_guard (c := true) (b' := (((false || (!true)) || false) || false)) rfl rfl (dep 20 rfl 56 rfl) (fun hc he hw => gs_len hw _ _ rfl under_rules _ N d (Eq.trans (dep 22 rfl 58 rfl) (vF_yes (on_g hc he) _)) (vF_yes (on_g hc he) _).symm) (fun hn => vF_no hn _)) ?_
      refine Steps.cons (fun a' w' hG hB dep => gs_guard (c := true) (b' := (((false || (!true)) || false) || false)) rfl rfl (dep 20 rfl 56 rfl) (fun hc he hw => gs_field hw _ _ _ rfl g10 (0) (0) (hG.other 10 rfl) (fun wz => field_nfa_0 g10 (0) wz) (vF_yes (on_g hc he) _).symm) (fun hn => vF_no hn _)) ?_
      refine Steps.cons (fun a' w' hG hB dep => gs_guard (c := true) (b' := (((false || (!true)) || false) || false)) rfl rfl (dep 20 rfl 56 rfl) (fun hc he hw => gs_load1 hw _ _ rfl g10 (0) (Eq.trans (dep 24 rfl 60 rfl) (vF_yes (on_g hc he) _)) (.int .i64 (((N : Nat) : Int))) ((blk_then k10 hB).cellv (i := 0) rfl) _ Try.underlying3 rfl (vF_yes (on_g hc he) _).symm) (fun hn => vF_no hn _)) ?_
      refine Steps.cons (fun a' w' hG hB dep => gs_guard (c := true) (b' := (((false || (!true)) || false) || false)) rfl rfl (dep 20 rfl 56 rfl) (fun hc he hw => gs_neq_int hw _ _ _ _ rfl _ _ _ (Eq.trans (dep 23 rfl 59 rfl) (vF_yes (on_g hc he) _)) (Eq.trans (dep 25 rfl 61 rfl) (vF_yes (on_g hc he) _)) (Eq.trans (congrArg Value.bool (ne_self _)) (vF_yes (on_g hc he) _).symm)) (fun hn => vF_no hn _)) ?_
      refine Steps.cons (fun a' w' hG hB dep => gs_pick (want_none rfl) _ _ _ rfl (((false || (!true)) || false) || false) (dep 20 rfl 56 rfl) (id (pick_or2 (c := true) rfl (dep 26 rfl 62 rfl)))) ?_
      exact Steps.nil
    intro u w7 hB7 ans
    have u63 : u 63 = .bool false := ans 27 63 (by decide) rfl
    clear ans
    simp only [putAll, List.foldl_cons, List.foldl_nil, Act.put, List.setIfInBounds_toArray, List.set_cons_zero, List.set_cons_succ, u63]
    clear u63
    simp only [List.drop]
    refine wpList_nil ?_
    replace k7 := blk_then k7 hB7
    replace k10 := blk_then k10 hB7
    replace hBw := below_then hBw hB7
    have hx7 := Lib.hid (hx.out.keep (w' := w7) (fun j hj => (hB5.trans (hB7.mono hB5.size)).block j hj))
    have hM7 := Lib.hid (hM5.out.then_ hB7)
    have hs7 := hB7.size
    have hs5 := hB5.size
    clear hB5 hB7 kRt kPl kNum hM5 hx hRt hN1 hn
    go_upto_region 11 with (fail)
    have c0 : w7.cell? ⟨g10, 0, none⟩ = some (.int .i64 (N : Int)) := k10.cellv (i := 0) rfl
    have hNb : decide ((2500 : Int) < (N : Int)) = false := decide_eq_false (by omega)
    have kH := heavy_any nd w3.heap.size w7 x.C 1 hx7.out (by omega)
    replace kH := Lib.hid kH
    obtain ⟨V, hV⟩ : ∃ V : Bool, (V = true ↔ ∃ i j, i ≤ q'.size ∧ Mt.tk q' nd i j) := by
      by_cases h : ∃ i j, i ≤ q'.size ∧ Mt.tk q' nd i j
      · exact ⟨true, fun _ => h, fun _ => rfl⟩
      · exact ⟨false, fun h2 => (by cases h2), fun h2 => absurd h2 h⟩
    have hmV := hmet.out q' V hV
    obtain ⟨mv, hmv⟩ : ∃ mv : Nat, (if V = true then 2 ^ r else 0) = mv := ⟨_, rfl⟩
    have kT : ∀ W, Below w7.heap.size w7 W → Calls Try.prog 31 #[.agg x.C, .string q'] W fun e w' => e = .returned (.bool V) ∧ Below W.heap.size W w' := fun W hW =>
      takes_any nd hT.out w3.heap.size W x.kd x.st x.A x.n x.c x.mi x.ma q' (q'.size + 1) rfl (by omega) (hx7.out.keep (fun j hj => hW.block j (by omega))) (by have := hW.size; omega) V hV
    have kM : ∀ W, Below w7.heap.size w7 W → Calls Try.prog 32 #[.agg (nfaC ((N : Nat) : Int) A n c B N d), .string q'] W fun e w' => e = .returned (.int .u32 ((mv : Nat) : Int)) ∧ Below W.heap.size W w' := fun W hW => by
      rw [← hmv, ← hmV]
      exact met_any g10 N n c N d E R A B q' (by omega) W (hM7.out.then_ hW)
    replace kT := Lib.hid kT
    replace kM := Lib.hid kM
    replace hr := hr.out
    clear hmet hmV hV hx7 hM7 hs7 hs5 hlow hq'
    have k7a := fun W hW => blk_then (w' := W) k7 hW
    have k10a := fun W hW => blk_then (w' := W) k10 hW
    cases V with
    | true =>
      replace hmv : Hid (2 ^ r = mv) := Lib.hid (by simpa using hmv)
      go_wp2_with (first
        | (refine wl_load_node_g (want_yes rfl rfl rfl) _ rfl g7 rfl x.kd x.st x.A x.n x.c x.mi x.ma k7 ?_)
        | (go_at_call 30; refine kH.out.mono ?_; rintro en w8 ⟨v, rfl, hB8⟩; have k7b := k7a _ hB8)
        | (refine wl_load_nv rfl _ rfl g7 rfl x k7b ?_)
        | (go_at_call 31; refine (kT.out _ hB8).mono ?_; rintro en w9 ⟨rfl, hB9⟩; have hB89 := below_then hB8 hB9; have k10b := k10a _ hB89)
        | (refine wl_shl_u32 rfl _ _ _ rfl r hr rfl rfl ?_; rw [hmv.out])
        | (refine wl_load_nfa rfl _ rfl g10 rfl _ _ _ _ _ _ _ k10b ?_)
        | (go_at_call 32; refine (kM.out _ hB89).mono ?_; rintro en w10 ⟨rfl, hB10⟩))
      · go_ret
        exact ⟨rfl, below_then hBw hB8⟩
      · go_ret
        exact ⟨by simp, below_then hBw (below_then hB89 hB10)⟩
    | false =>
      obtain rfl : 0 = mv := by simpa using hmv
      go_wp2_with (first
        | (refine wl_load_node_g (want_yes rfl rfl rfl) _ rfl g7 rfl x.kd x.st x.A x.n x.c x.mi x.ma k7 ?_)
        | (go_at_call 30; refine kH.out.mono ?_; rintro en w8 ⟨v, rfl, hB8⟩; have k7b := k7a _ hB8)
        | (refine wl_load_nv rfl _ rfl g7 rfl x k7b ?_)
        | (go_at_call 31; refine (kT.out _ hB8).mono ?_; rintro en w9 ⟨rfl, hB9⟩; have hB89 := below_then hB8 hB9; have k10b := k10a _ hB89)
        | (refine wl_shl_u32 rfl _ _ _ rfl r hr rfl rfl ?_; rw [hmv.out])
        | (refine wl_load_nfa rfl _ rfl g10 rfl _ _ _ _ _ _ _ k10b ?_)
        | (go_at_call 32; refine (kM.out _ hB89).mono ?_; rintro en w10 ⟨rfl, hB10⟩))
      · go_ret
        exact ⟨rfl, below_then hBw hB8⟩
      · go_ret
        exact ⟨by simp, below_then hBw (below_then hB89 hB10)⟩
  · have heI : ((e : Int) != 0) = true := by rw [bne_iff_ne]; omega
    clear hgood hx
    have he2 := Lib.hid he
    clear he
    go_wp2_with (go_at_call 27; refine (num_any _ _).mono ?_; rintro en wn ⟨rfl, hwn⟩; rw [hwn]; clear hwn)
    go_ret
    exact ⟨rfl, hB3⟩
end Go.Proofs.Ytajainmldcnaeaa
namespace Go.Proofs.Ytajainmldcnaeaa
set_option linter.unusedVariables false
set_option linter.unusedSimpArgs false

namespace Mt
/-- a machine that fits, of so many states -/
def FitsF (F : NF) (N : Nat) : Prop := F.s = (N : Int) ∧ Fits N F.E F.R
section
variable {F x : NF} {N M : Nat} {q : ByteArray}
theorem step_fits (hF : FitsF F N) (hx : FitsF x M) : FitsF (uStep F x) (N + M) := by
  obtain ⟨hs, f⟩ := hF
  obtain ⟨ht, g⟩ := hx
  have key : ∀ d ∈ (uStep F x).E, (1 ≤ d.kd ∧ d.kd ≤ 4) ∧ (0 ≤ d.fr ∧ d.fr < ((N + M : Nat) : Int)) ∧ (0 ≤ d.tt ∧ d.tt < ((N + M : Nat) : Int)) ∧ (d.kd ≠ 2 → d.st = 0) := by
    intro d hd
    unfold uStep at hd
    simp only [List.mem_append, List.mem_singleton, List.mem_map] at hd
    have hM := g.one
    have hN := f.one
    rcases hd with (hd | hd) | ⟨c, hc, hd⟩
    · have := f.fr d hd
      have := f.tt d hd
      exact ⟨f.kinds d hd, by omega, by omega, f.sets d hd⟩
    · subst hd
      exact ⟨by simp, by simp; omega, by simp only; omega, fun _ => rfl⟩
    · subst hd
      have := g.fr c hc
      have := g.tt c hc
      simp only [shiftE]
      exact ⟨g.kinds c hc, by omega, by omega, g.sets c hc⟩
  refine ⟨by show F.s + x.s = _; omega, ⟨by have := f.one; omega, ?_, fun d hd => (key d hd).1, fun d hd => (key d hd).2.1, fun d hd => (key d hd).2.2.1, fun d hd => (key d hd).2.2.2⟩⟩
  show (F.R ++ x.R).length = _
  rw [List.length_append, f.rules, g.rules]
theorem edge_shift {L L' : Lab} {d : Edg} {b : Int} (h : EdgeOk q L' d) (h1 : L (d.fr + b).toNat = L' d.fr.toNat) (h2 : L (d.tt + b).toNat = L' d.tt.toNat) : EdgeOk q L (shiftE b d) := by
  refine ⟨fun k => ?_, fun k => ?_, fun k => ?_, fun k => ?_⟩ <;> (simp only [shiftE] at k ⊢; rw [h1, h2])
  · exact h.free k
  · exact h.byte k
  · exact h.begin_ k
  · exact h.end_ k
theorem edge_unshift {L L' : Lab} {d : Edg} {b : Int} (h : EdgeOk q L (shiftE b d)) (h1 : L (d.fr + b).toNat = L' d.fr.toNat) (h2 : L (d.tt + b).toNat = L' d.tt.toNat) : EdgeOk q L' d := by
  refine ⟨fun k => ?_, fun k => ?_, fun k => ?_, fun k => ?_⟩ <;> rw [← h1, ← h2]
  · exact h.free k
  · exact h.byte k
  · exact h.begin_ k
  · exact h.end_ k
theorem step_least (hF : FitsF F N) (hx : FitsF x M) (s i : Nat) : Least q (uStep F x).E s i ↔ if s < N then Least q F.E s i else Least q x.E (s - N) i := by
  obtain ⟨hs, f⟩ := hF
  obtain ⟨ht, g⟩ := hx
  have hN := f.one
  constructor
  · intro h
    refine h (fun s i => if s < N then Least q F.E s i else Least q x.E (s - N) i) (fun e he => ?_) (fun i hi => ?_)
    · unfold uStep at he
      simp only [List.mem_append, List.mem_singleton, List.mem_map] at he
      rcases he with (he | he) | ⟨c, hc, he⟩
      · have h1 := f.fr e he
        have h2 := f.tt e he
        refine ((least_closed q F.E).1 e he).agree ?_ ?_
        · funext i
          rw [if_pos (by omega)]
        · funext i
          rw [if_pos (by omega)]
      · subst he
        refine ⟨fun _ i hi _ => ?_, fun k => ?_, fun k => ?_, fun k => ?_⟩
        · simp only [hs]
          rw [if_neg (by omega), show ((N : Int)).toNat - N = 0 by omega]
          exact (least_closed q x.E).2 i hi
        all_goals (simp at k)
      · subst he
        have h1 := g.fr c hc
        have h2 := g.tt c hc
        refine edge_shift ((least_closed q x.E).1 c hc) ?_ ?_
        · funext i
          rw [if_neg (by omega), show (c.fr + F.s).toNat - N = c.fr.toNat by omega]
        · funext i
          rw [if_neg (by omega), show (c.tt + F.s).toNat - N = c.tt.toNat by omega]
    · rw [if_pos (by omega)]
      exact (least_closed q F.E).2 i hi
  · intro h L hL h0
    by_cases hsN : s < N
    · rw [if_pos hsN] at h
      exact h L (fun e he => hL e (by unfold uStep; simp [he])) h0
    · rw [if_neg hsN] at h
      have := h (fun s i => L (s + N) i) (fun e he => ?_) (fun i hi => ?_)
      · rwa [show s - N + N = s by omega] at this
      · have h1 := g.fr e he
        have h2 := g.tt e he
        refine edge_unshift (b := F.s) (hL (shiftE F.s e) (by unfold uStep; simp only [List.mem_append, List.mem_map]; exact .inr ⟨e, he, rfl⟩)) ?_ ?_
        · funext i
          rw [show (e.fr + F.s).toNat = e.fr.toNat + N by omega]
        · funext i
          rw [show (e.tt + F.s).toNat = e.tt.toNat + N by omega]
      · have := (hL ⟨1, 0, F.s, 0⟩ (by unfold uStep; simp)).free rfl i hi (h0 i hi)
        simp only [hs] at this
        rwa [show ((N : Int)).toNat = 0 + N by omega] at this
theorem fits_bounds (hF : FitsF F N) : 1 ≤ N ∧ ∀ d ∈ F.E, (0 ≤ d.fr ∧ d.fr < N) ∧ 0 ≤ d.tt ∧ d.tt < N := ⟨hF.2.one, fun d hd => ⟨hF.2.fr d hd, hF.2.tt d hd⟩⟩
theorem step_met (hF : FitsF F N) (hx : FitsF x M) : mV (uStep F x).E (uStep F x).R (N + M) q (q.size + 1) = mV F.E F.R N q (q.size + 1) ||| mV x.E x.R M q (q.size + 1) := by
  have hu := fits_bounds (step_fits hF hx)
  have h1 := fits_bounds hF
  have h2 := fits_bounds hx
  have hR : ∀ s, (uStep F x).R.getD s 0 = if s < N then F.R.getD s 0 else x.R.getD (s - N) 0 := fun s => by
    show (F.R ++ x.R).getD s 0 = _
    rw [List.getD_eq_getElem?_getD, List.getD_eq_getElem?_getD, List.getD_eq_getElem?_getD, List.getElem?_append, hF.2.rules]
    split <;> rfl
  apply bits_ext
  intro j
  rw [Nat.testBit_or, Bool.or_eq_true, mV_least hu.1 hu.2, mV_least h1.1 h1.2, mV_least h2.1 h2.2]
  constructor
  · rintro ⟨i, s, a1, a2, a3, a4⟩
    rw [step_least hF hx] at a3
    rw [hR] at a4
    by_cases hs : s < N
    · rw [if_pos hs] at a3 a4
      exact .inl ⟨i, s, a1, hs, a3, a4⟩
    · rw [if_neg hs] at a3 a4
      exact .inr ⟨i, s - N, a1, by omega, a3, a4⟩
  · rintro (⟨i, s, a1, a2, a3, a4⟩ | ⟨i, s, a1, a2, a3, a4⟩)
    · refine ⟨i, s, a1, by omega, ?_, ?_⟩
      · rw [step_least hF hx, if_pos a2]; exact a3
      · rw [hR, if_pos a2]; exact a4
    · refine ⟨i, s + N, a1, by omega, ?_, ?_⟩
      · rw [step_least hF hx, if_neg (by omega), Nat.add_sub_cancel]; exact a3
      · rw [hR, if_neg (by omega), Nat.add_sub_cancel]; exact a4
end
/-- a list of machines with their numbers of states: how many states in all, what is met -/
def orM (l : List Nat) : Nat := l.foldr (· ||| ·) 0
theorem orM_bit (j : Nat) : ∀ l : List Nat, (orM l).testBit j = true ↔ ∃ x ∈ l, x.testBit j = true
  | [] => by simp [orM]
  | x :: l => by
    show (x ||| orM l).testBit j = true ↔ _
    rw [Nat.testBit_or, Bool.or_eq_true, orM_bit j l]
    simp
theorem orM_app (l k : List Nat) : orM (l ++ k) = orM l ||| orM k := by
  apply bits_ext
  intro j
  rw [Nat.testBit_or, Bool.or_eq_true, orM_bit, orM_bit, orM_bit]
  simp only [List.mem_append]
  constructor
  · rintro ⟨x, h | h, hx⟩
    · exact .inl ⟨x, h, hx⟩
    · exact .inr ⟨x, h, hx⟩
  · rintro (⟨x, h, hx⟩ | ⟨x, h, hx⟩)
    · exact ⟨x, .inl h, hx⟩
    · exact ⟨x, .inr h, hx⟩
theorem orM_perm {l k : List Nat} (h : ∀ x, x ∈ l ↔ x ∈ k) : orM l = orM k := by
  apply bits_ext
  intro j
  rw [orM_bit, orM_bit]
  simp only [h]
/-- what a machine meets -/
noncomputable def vF (q : ByteArray) (F : NF) : Nat := mV F.E F.R F.s.toNat q (q.size + 1)
theorem fold_fits (q : ByteArray) (l : List NF) (h : ∀ x ∈ l, FitsF x x.s.toNat) : FitsF (uFold l) (1 + (l.map (fun x => x.s.toNat)).sum) ∧ vF q (uFold l) = orM (l.map (vF q)) := by
  obtain ⟨r, hr⟩ : ∃ r, r = l.reverse := ⟨_, rfl⟩
  have : l = r.reverse := by rw [hr, List.reverse_reverse]
  clear hr
  subst this
  induction r with
  | nil =>
    have f0 : FitsF (uFold []) 1 := ⟨rfl, ⟨by omega, rfl, fun d hd => absurd hd (by simp [uFold]), fun d hd => absurd hd (by simp [uFold]), fun d hd => absurd hd (by simp [uFold]), fun d hd => absurd hd (by simp [uFold])⟩⟩
    refine ⟨by simpa using f0, ?_⟩
    have hb := fits_bounds f0
    apply bits_ext
    intro j
    show (mV (uFold []).E (uFold []).R 1 q (q.size + 1)).testBit j = true ↔ _
    rw [mV_least hb.1 hb.2]
    constructor
    · rintro ⟨i, s, a1, a2, a3, a4⟩
      have hs : s = 0 := by omega
      subst hs
      simp [uFold] at a4
    · intro h
      simp [orM] at h
  | cons x r ih =>
    rw [List.reverse_cons] at h ⊢
    obtain ⟨i1, i2⟩ := ih (fun y hy => h y (by simp at hy ⊢; exact .inl hy))
    have hx := h x (by simp)
    have s1 := step_fits i1 hx
    have s2 := step_met (q := q) i1 hx
    rw [uFold_snoc, List.map_append, List.map_append, List.sum_append, orM_app]
    have e : 1 + (List.map (fun x => x.s.toNat) r.reverse).sum + x.s.toNat = 1 + ((List.map (fun x => x.s.toNat) r.reverse).sum + (List.map (fun x => x.s.toNat) [x]).sum) := by simp; omega
    rw [e] at s1 s2
    refine ⟨s1, ?_⟩
    have e1 : (uStep (uFold r.reverse) x).s.toNat = 1 + ((List.map (fun x => x.s.toNat) r.reverse).sum + (List.map (fun x => x.s.toNat) [x]).sum) := by rw [s1.1]; omega
    have e2 : (uFold r.reverse).s.toNat = 1 + (List.map (fun x => x.s.toNat) r.reverse).sum := by rw [i1.1]; omega
    unfold vF at i2 ⊢
    rw [e2] at i2
    rw [e1, s2, i2]
    simp [orM]
end Mt
end Go.Proofs.Ytajainmldcnaeaa
