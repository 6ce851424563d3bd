/- Part 9 of a proof; packed: the texts that it was made of follow one another. No condition beyond those named in each lemma. -/
import Derived.Test.YtkedgombccdamaaGreatDoorPm1
import Derived.Test.YtkedgombccdamaaGreatDoorPm2
import Derived.Test.YtkedgombccdamaaGreatDoorPm7
import Derived.Test.YtkedgombccdamaaGreatDoorPm8
import Derived.Test.YtkedgombccdamaaGreatDoorRows
import Derived.Below
import Derived.ChangeOld
import Derived.Deep.Slices
import Derived.DeepKeys4
import Derived.LoopIn
import Derived.LoopNIn
import Derived.Maps.OwnOps
import Derived.Maps.OwnSet
import Derived.OpenShut
import Derived.OrdersIn
import Derived.OwnWalkIn
import Derived.ProofKit
import Derived.RangeFuncBound
import Derived.RangeFuncCalls
import Derived.RangeFuncFrom
import Derived.RangeFuncLeaves
import Derived.RangeFuncNested
import Derived.Shelf.Abstract
import Derived.Shelf.RegionOpen
import Derived.ShutString
import Derived.SizedLaws
import Derived.Sort.CutIn
import Derived.TacticsInMore
import Derived.WideKeyPair
namespace Go.Proofs.YtkedgombccdamaaGreatDoor
set_option linter.unusedVariables false
set_option linter.unusedSimpArgs false
namespace Ere
def clsE (p : ByteArray) : Nat → Nat → Nat
 | 0, i => i
 | n + 1, i => if i + 1 < p.size ∧ ¬ (chr p i = 58 ∧ chr p (i + 1) = 93 ∧ chr p (i - 1) ≠ 91) then clsE p n (i + 1) else i
def nextI (p : ByteArray) (i : Nat) : Nat :=
 if isAt p i 91 && isAt p (i + 1) 58 then clsE p p.size (i + 1) + 2
 else if isAt p (i + 1) 45 && decide (i + 2 < p.size) && !isAt p (i + 2) 93 then i + 3 else i + 1
def behL (p : ByteArray) : Nat → Bool → Nat → Nat
 | 0, _, i => i
 | n + 1, first, i => if i < p.size ∧ (first = true ∨ chr p i ≠ 93) then behL p n false (nextI p i) else i
def behN (p : ByteArray) (i : Nat) : Nat := behL p (p.size + 1) true (if isAt p (i + 1) 94 then i + 2 else i + 1)
def barL (p : ByteArray) : Nat → Nat → Int → Int → Int → Int × Int
 | 0, _, n, _, m => (n, m)
 | f + 1, i, n, d, m => if p.size ≤ i then (n, m)
   else if chr p i = 92 then barL p f (i + 2) n d m
   else if chr p i = 91 then barL p f (behN p i + 1) n d m
   else if chr p i = 40 then barL p f (i + 1) n (d + 1) (max m (d + 1))
   else if chr p i = 41 then barL p f (i + 1) n (d - 1) m
   else if chr p i = 124 then barL p f (i + 1) (if d = 0 then n + 1 else n) d m
   else barL p f (i + 1) n d m
def barsP (p : ByteArray) : Int × Int := barL p (p.size + 1) 0 0 0 0
section
variable {p : ByteArray}
theorem clsE_le : ∀ n i, i ≤ clsE p n i
 | 0, i => Nat.le_refl _
 | n + 1, i => by
   unfold clsE
   split
   ·have := clsE_le n (i + 1); omega
   ·exact Nat.le_refl _
theorem nextI_lt (i : Nat) : i < nextI p i := by
 unfold nextI
 have := clsE_le (p := p) p.size (i + 1)
 split
 ·omega
 ·split <;> omega
theorem behL_le : ∀ n first i, i ≤ behL p n first i
 | 0, _, i => Nat.le_refl _
 | n + 1, first, i => by
   unfold behL
   split
   ·have := behL_le n false (nextI p i)
    have := nextI_lt (p := p) i
    omega
   ·exact Nat.le_refl _
theorem behN_lt (i : Nat) : i < behN p i := by
 unfold behN
 have := behL_le (p := p) (p.size + 1) true (if isAt p (i + 1) 94 then i + 2 else i + 1)
 split at this <;> split <;> simp_all <;> omega
theorem barL_fuel : ∀ f f' i n d m, p.size + 1 ≤ f + i → p.size + 1 ≤ f' + i → barL p f i n d m = barL p f' i n d m
 | 0, f', i, n, d, m, h, h' => by
   cases f' with
   | zero => rfl
   | succ f' => unfold barL; rw [if_pos (by omega)]
 | f + 1, 0, i, n, d, m, h, h' => by
   show barL p (f + 1) i n d m = (n, m)
   unfold barL
   rw [if_pos (by omega)]
 | f + 1, f' + 1, i, n, d, m, h, h' => by
   unfold barL
   have hb := behN_lt (p := p) i
   split
   ·rfl
   split
   ·exact barL_fuel f f' _ _ _ _ (by omega) (by omega)
   split
   ·exact barL_fuel f f' _ _ _ _ (by omega) (by omega)
   split
   ·exact barL_fuel f f' _ _ _ _ (by omega) (by omega)
   split
   ·exact barL_fuel f f' _ _ _ _ (by omega) (by omega)
   split
   ·exact barL_fuel f f' _ _ _ _ (by omega) (by omega)
   ·exact barL_fuel f f' _ _ _ _ (by omega) (by omega)
def Bs (p : ByteArray) (i : Nat) (n d m : Int) : Int × Int := barL p (p.size + 1) i n d m
theorem Bs_end {i : Nat} {n d m : Int} (h : p.size ≤ i) : Bs p i n d m = (n, m) := by
 unfold Bs barL
 rw [if_pos h]
theorem Bs_step {i : Nat} {n d m : Int} (h : i < p.size) : Bs p i n d m =
  if chr p i = 92 then Bs p (i + 2) n d m
  else if chr p i = 91 then Bs p (behN p i + 1) n d m
  else if chr p i = 40 then Bs p (i + 1) n (d + 1) (max m (d + 1))
  else if chr p i = 41 then Bs p (i + 1) n (d - 1) m
  else if chr p i = 124 then Bs p (i + 1) (if d = 0 then n + 1 else n) d m
  else Bs p (i + 1) n d m := by
 have hb := behN_lt (p := p) i
 have k : ∀ j n d m, i < j → barL p p.size j n d m = Bs p j n d m := fun j n d m hj => barL_fuel _ _ _ _ _ _ (by omega) (by omega)
 conv => lhs; unfold Bs barL
 rw [if_neg (by omega), k _ _ _ _ (by omega), k _ _ _ _ (by omega), k _ _ _ _ (by omega), k _ _ _ _ (by omega), k _ _ _ _ (by omega), k _ _ _ _ (by omega)]
def dull (c : Nat) : Prop := c ≠ 92 ∧ c ≠ 91 ∧ c ≠ 40 ∧ c ≠ 41 ∧ c ≠ 124
theorem Bs_dull1 {i : Nat} {n d m : Int} (h : i < p.size) (hd : dull (chr p i)) : Bs p i n d m = Bs p (i + 1) n d m := by
 obtain ⟨h1, h2, h3, h4, h5⟩ := hd
 rw [Bs_step h, if_neg h1, if_neg h2, if_neg h3, if_neg h4, if_neg h5]
theorem Bs_dull {j : Nat} {n d m : Int} (hj : j ≤ p.size) : ∀ k i, i + k = j → (∀ x, i ≤ x → x < j → dull (chr p x)) → Bs p i n d m = Bs p j n d m
 | 0, i, e, _ => by rw [show i = j by omega]
 | k + 1, i, e, h => by
   rw [Bs_dull1 (by omega) (h i (by omega) (by omega))]
   exact Bs_dull hj k (i + 1) (by omega) (fun x h1 h2 => h x (by omega) h2)
theorem digits_dull : ∀ k i n c x, i ≤ x → x < (digits p k i n c).2.1 → dull (chr p x)
 | 0, i, n, c, x, h1, h2 => by
   simp only [digits] at h2
   omega
 | k + 1, i, n, c, x, h1, h2 => by
   unfold digits at h2
   split at h2
   ·rename_i h
    simp only [Bool.and_eq_true, decide_eq_true_eq] at h
    by_cases e : x = i
    ·subst e
     unfold dull
     omega
    ·exact digits_dull k (i + 1) _ _ x (by omega) h2
   ·simp only at h2
    omega
theorem countsR_dull {i j : Nat} {c : Nat × Int} (h : countsR p i = .got c j) (x : Nat) (h1 : i < x) (h2 : x ≤ j) : dull (chr p x) := by
 have e1 := digits_dull (p := p) 4 (i + 1) 0 0 x (by omega)
 have e2 := digits_dull (p := p) 4 ((digits p 4 (i + 1) 0 0).2.1 + 1) 0 0 x
 have c44 : ∀ y, isAt p y 44 = true → x = y → dull (chr p x) := fun y hy e => by rw [e, isAt_eq hy]; unfold dull; omega
 have c125 : ∀ y, isAt p y 125 = true → x = y → dull (chr p x) := fun y hy e => by rw [e, isAt_eq hy]; unfold dull; omega
 unfold countsR at h
 simp only at h
 obtain ⟨d, hd⟩ : ∃ d, digits p 4 (i + 1) 0 0 = d := ⟨_, rfl⟩
 rw [hd] at h e1 e2
 by_cases hx : x < d.2.1
 ·exact e1 hx
 split at h
 ·rename_i h3
  simp only [Bool.and_eq_true] at h3
  by_cases hx2 : x = d.2.1
  ·exact c44 _ h3.2 hx2
  split at h
  ·rename_i h4
   injection h with _ h
   exact c125 _ h4 (by omega)
  ·split at h
   ·cases h
   ·rename_i h4
    injection h with _ h
    simp only [Bool.or_eq_true, Bool.not_eq_true', not_or, Bool.not_eq_false] at h4
    by_cases hx3 : x < (digits p 4 (d.2.1 + 1) 0 0).2.1
    ·exact e2 (by omega) hx3
    ·exact c125 _ h4.1.2 (by omega)
 ·split at h
  ·cases h
  ·rename_i h4
   injection h with _ h
   simp only [Bool.or_eq_true, Bool.not_eq_true', not_or, Bool.not_eq_false] at h4
   exact c125 _ h4.2 (by omega)
theorem repeatR_dull {t u : Nd} {i j : Nat} (h : repeatR p t i = .got u j) (x : Nat) (h1 : i ≤ x) (h2 : x < j) : dull (chr p x) := by
 have cc : ∀ c, isAt p i c = true → (c = 42 ∨ c = 43 ∨ c = 63 ∨ c = 123) → x = i → dull (chr p x) := fun c hy hc e => by rw [e, isAt_eq hy]; unfold dull; omega
 unfold repeatR at h
 split at h
 ·rename_i h3; injection h with _ h; exact cc _ h3 (by omega) (by omega)
 split at h
 ·rename_i h3; injection h with _ h; exact cc _ h3 (by omega) (by omega)
 split at h
 ·rename_i h3; injection h with _ h; exact cc _ h3 (by omega) (by omega)
 split at h
 ·rename_i h3
  cases hc : countsR p i with
  | fault e a => rw [hc] at h; cases h
  | got c k =>
    rw [hc] at h
    injection h with _ h
    by_cases e : x = i
    ·exact cc _ h3 (by omega) e
    ·exact countsR_dull hc x (by omega) (by omega)
 ·injection h with _ h; omega
theorem Bs_repeat {t u : Nd} {i j : Nat} {n d m : Int} (h : repeatR p t i = .got u j) (hi : i ≤ p.size) : Bs p i n d m = Bs p j n d m := by
 have hf := repeatR_fwd h hi
 exact Bs_dull hf.2 (j - i) i (by omega) (fun x h1 h2 => repeatR_dull h x h1 h2)
theorem nameB_91 {l : List Nat} {s : BSet} (h : nameB l = some s) : 91 ∉ l := by
 intro hm
 unfold nameB at h
 iterate 12 rw [if_neg (by rintro rfl; revert hm; decide)] at h
 cases h
theorem clsE_at {e : Nat} (he : hit p e) (hm : chr p (e - 1) ≠ 91) : ∀ n i, e ≤ n + i → i ≤ e → (∀ k, i ≤ k → k < e → ¬ (chr p k = 58 ∧ chr p (k + 1) = 93 ∧ chr p (k - 1) ≠ 91)) → clsE p n i = e
 | 0, i, h1, h2, _ => by
   unfold clsE
   omega
 | n + 1, i, h1, h2, h3 => by
   obtain ⟨a1, a2, a3⟩ := he
   unfold clsE
   by_cases hi : i = e
   ·rw [if_neg]
    ·exact hi
    ·rintro ⟨_, h5⟩
     exact h5 ⟨by rw [hi]; exact a2, by rw [hi]; exact a3, by rw [hi]; exact hm⟩
   ·rw [if_pos ⟨by omega, h3 i (by omega) (by omega)⟩]
    exact clsE_at ⟨a1, a2, a3⟩ hm n (i + 1) (by omega) (by omega) (fun k k1 k2 => h3 k (by omega) k2)
theorem nextI_item {s i j k : Nat} {x : BSet} (hi : i < p.size) (h : itemR p s i = .got x j) (hjk : j ≤ k) (hk : isAt p k 93 = true) : nextI p i = j := by
 have hf := itemR_fwd h hi
 have hks := isAt_lt hk
 unfold itemR at h
 unfold nextI
 split at h
 ·rename_i h1
  rw [if_pos h1]
  simp only [Bool.and_eq_true] at h1
  unfold classR at h
  cases he : endAt p p.size (i + 2) with
  | none => rw [he] at h; cases h
  | some e =>
    rw [he] at h
    simp only at h
    obtain ⟨k1, k2, k3⟩ := endAt_some p _ _ _ he
    cases hn : nameB (sub p (i + 2) e) with
    | none => rw [hn] at h; cases h
    | some y =>
      rw [hn] at h
      injection h with _ h
      have h91 : chr p (e - 1) ≠ 91 := by
       by_cases q : e = i + 2
       ·rw [q, show i + 2 - 1 = i + 1 by omega, isAt_eq h1.2]
        omega
       ·intro q2
        refine nameB_91 hn ?_
        unfold sub
        refine List.mem_map.2 ⟨e - 1 - (i + 2), List.mem_range.2 (by omega), ?_⟩
        rw [show i + 2 + (e - 1 - (i + 2)) = e - 1 by omega, q2]
      have := clsE_at k2 h91 p.size (i + 1) (by have := k2.1; omega) (by omega) (fun k q1 q2 => by
       rintro ⟨a1, a2, a3⟩
       by_cases q : k = i + 1
       ·rw [q, show i + 1 - 1 = i by omega, isAt_eq h1.1] at a3
        exact a3 rfl
       ·exact k3 k (by omega) q2 ⟨by have := k2.1; omega, a1, a2⟩)
      rw [this, h]
 rename_i h1
 rw [if_neg h1]
 split at h
 ·cases h
 split at h
 ·rename_i h3
  injection h with _ h
  rw [if_neg, h]
  simp only [Bool.or_eq_true, Bool.not_eq_true', decide_eq_true_eq] at h3
  simp only [Bool.and_eq_true, decide_eq_true_eq, Bool.not_eq_true']
  rintro ⟨⟨a1, a2⟩, a3⟩
  rcases h3 with (h3 | h3) | h3
  ·rw [a1] at h3; cases h3
  ·omega
  ·rw [a3] at h3; cases h3
 ·rename_i h3
  split at h
  ·cases h
  ·injection h with _ h
   rw [if_pos, h]
   simp only [Bool.or_eq_true, Bool.not_eq_true', decide_eq_true_eq, not_or] at h3
   simp only [Bool.and_eq_true, decide_eq_true_eq, Bool.not_eq_true']
   refine ⟨⟨by simpa using h3.1.1, by omega⟩, by simpa using h3.2⟩
theorem behL_items {s : Nat} : ∀ n n' first i x y k, i ≤ p.size → itemsR p s n first i x = .got y k → k + 1 ≤ n' + i → behL p n' first i = k
 | 0, _, _, _, _, _, _, _, h, _ => by cases h
 | n + 1, n', first, i, x, y, k, hi, h, hn => by
   have hf := itemsR_fwd _ _ _ _ _ _ h
   have he := itemsR_end _ _ _ _ _ _ h
   obtain ⟨n', rfl⟩ : ∃ c, n' = c + 1 := ⟨n' - 1, by omega⟩
   unfold itemsR at h
   unfold behL
   split at h
   ·rename_i h1
    injection h with _ h3
    simp only [Bool.and_eq_true, Bool.not_eq_true'] at h1
    rw [if_neg]
    ·exact h3
    ·rintro ⟨_, h4 | h4⟩
     ·rw [h1.1] at h4; cases h4
     ·exact h4 (isAt_eq h1.2)
   ·rename_i h1
    split at h
    ·cases h
    ·rename_i h2
     cases hc : itemR p s i with
     | fault e a => rw [hc] at h; cases h
     | got t j =>
       rw [hc] at h
       simp only [Res.bind] at h
       have hj := itemR_fwd hc (by omega)
       have hjk := itemsR_fwd _ _ _ _ _ _ h
       rw [if_pos, nextI_item (by omega) hc hjk.1 he]
       ·exact behL_items n n' false j _ y k hj.2 h (by omega)
       ·refine ⟨by omega, ?_⟩
        cases first with
        | true => exact .inl rfl
        | false =>
          right
          intro q
          apply h1
          unfold isAt
          rw [decide_eq_true (show i < p.size by omega), q]
          rfl
theorem behN_set {s i j : Nat} {t : Nd} (hi : i + 1 ≤ p.size) (h : setR p s (i + 1) = .got t j) : behN p i + 1 = j := by
 unfold setR at h
 cases hc : itemsR p s (p.size + 2) true (if isAt p (i + 1) 94 then i + 1 + 1 else i + 1) 0 with
 | fault e a => rw [hc] at h; cases h
 | got y k =>
   rw [hc] at h
   injection h with _ h2
   have hf := itemsR_fwd _ _ _ _ _ _ hc
   unfold behN
   rw [behL_items (p.size + 2) (p.size + 1) true _ 0 y k (by omega) hc (by omega), h2]
end
end Ere
namespace Ere
section
variable {p q : ByteArray} {m : Nat}
end
theorem nlAt_all {p : ByteArray} (h : ∀ k, k < p.size → chr p k ≠ 10) : nlAt p (p.size + 1) 0 = none := by
 cases hc : nlAt p (p.size + 1) 0 with
 | none => rfl
 | some j =>
   have := nlAt_some p _ _ _ hc
   exact absurd this.2.2.1 (h j this.2.1)
end Ere
namespace Ere
def inn (p : ByteArray) : Nat → Option (Nat → Res Nd)
 | 0 => none
 | d + 1 => some (patR p d)
def alF (p : ByteArray) (d n i : Nat) (l : List Nd) : Res Nd := altR p (decide (d = 64)) (pieceR p (inn p d)) n i l
def alR (p : ByteArray) (d i : Nat) : Res Nd := alF p d (p.size + 2) i []
theorem patR_al (p : ByteArray) (d i : Nat) : patR p d i = patL p (alR p d) (p.size + 2) i [] := by
 cases d <;> rfl
def Deep (r : Res Nd) : Prop := ∃ x, r = .fault 47 x
def ScB (p : ByteArray) (i j : Nat) (L : Int) (c h : Nat) : Prop := ∀ n M : Int, L ≤ M → Bs p i n L M = Bs p j (n + c) L (max M (L + h))
theorem ScB.trans {p : ByteArray} {i j k : Nat} {L : Int} {c1 c2 h1 h2 : Nat} (a : ScB p i j L c1 h1) (b : ScB p j k L c2 h2) : ScB p i k L (c1 + c2) (max h1 h2) := fun n M hM => by
 rw [a n M hM, b _ _ (by omega)]
 congr 1 <;> omega
theorem ScB.of_eq {p : ByteArray} {i j : Nat} {L : Int} (h : ∀ n M, Bs p i n L M = Bs p j n L M) : ScB p i j L 0 0 := fun n M hM => by
 rw [h]
 congr 1 <;> omega
def EndA (q : ByteArray) (top : Bool) (x : Nat) : Prop := q.size ≤ x ∨ isAt q x 124 = true ∨ (isAt q x 41 = true ∧ isAt q x 124 = false ∧ top = false)
def EndP (q : ByteArray) (top : Bool) (x : Nat) : Prop := q.size ≤ x ∨ (isAt q x 41 = true ∧ isAt q x 124 = false ∧ top = false)
theorem EndP.a {q : ByteArray} {top : Bool} {x : Nat} (h : EndP q top x) : EndA q top x := by
 rcases h with h | h
 ·exact .inl h
 ·exact .inr (.inr h)
theorem EndP.no {q : ByteArray} {top : Bool} {x : Nat} (h : EndP q top x) : isAt q x 124 = false := by
 rcases h with h | h
 ·unfold isAt; rw [decide_eq_false (by omega), Bool.false_and]
 ·exact h.2.1
def PcOk (p : ByteArray) (d i : Nat) (t : Nd) (j : Nat) : Prop := ∃ h, h ≤ d ∧ (∀ q a d', Emb p q a → d' ≤ 64 → (h ≤ d' → pieceR q (inn q d') (a + i) = .got t (a + j)) ∧ (d' < h → Deep (pieceR q (inn q d') (a + i)))) ∧ t.isT = true ∧ ∀ L : Int, 0 ≤ L → ScB p i j L 0 h
def AlOk (p : ByteArray) (d i : Nat) (t : Nd) (j : Nat) : Prop := ∃ h, h ≤ d ∧ (∀ q a d', Emb p q a → d' ≤ 64 → (d' = 64 → d = 64) → (j = p.size → EndA q (decide (d' = 64)) (a + p.size)) → (h ≤ d' → alR q d' (a + i) = .got t (a + j)) ∧ (d' < h → Deep (alR q d' (a + i)))) ∧ t.isT = true ∧ ∀ L : Int, 0 ≤ L → ScB p i j L 0 h
def PtOk (p : ByteArray) (d i : Nat) (t : Nd) (j : Nat) : Prop := ∃ h c, h ≤ d ∧ (∀ q a d', Emb p q a → d' ≤ 64 → (d' = 64 → d = 64) → (j = p.size → EndP q (decide (d' = 64)) (a + p.size)) → (h ≤ d' → patR q d' (a + i) = .got t (a + j)) ∧ (d' < h → Deep (patR q d' (a + i)))) ∧ t.isT = true ∧ (∀ L : Int, 0 ≤ L → ScB p i j L (if L = 0 then c else 0) h) ∧ (c = 0 → alR p d i = .got t j)
section
variable {p : ByteArray}
theorem isT_set (x : BSet) : (setN x).isT = true := by
 have h : (x &&& notB 0).getLsbD 10 = false := by
  rw [BitVec.getLsbD_and, notB0_get 10 (by omega)]
  simp
 unfold setN Nd.isT headOk
 rw [if_neg (by omega), if_pos rfl, h]
 simp [Nd.areT]
theorem isT_some3 {l : List Nd} (h : ∀ x ∈ l, x.isT = true) {k : Int} (hk : k = 3 ∨ k = 4) : (someN k l).isT = true := by
 rcases l with _ | ⟨x, _ | ⟨y, l⟩⟩
 ·rfl
 ·exact h x (by simp)
 ·unfold someN Nd.isT headOk
  rw [if_neg (by omega), if_neg (by omega), if_pos (by omega), Nd.areT_all, List.all_eq_true.2 h]
  simp
theorem cntOk_le {d : Nat × Nat × Nat} (h : cntOk d = true) : d.1 ≤ 255 := by
 unfold cntOk at h
 simp only [Bool.and_eq_true, decide_eq_true_eq] at h
 exact h.2
theorem countsR_ok {i j : Nat} {c : Nat × Int} (h : countsR p i = .got c j) : c.1 ≤ 255 ∧ (c.2 = -1 ∨ ((c.1 : Int) ≤ c.2 ∧ c.2 ≤ 255)) := by
 unfold countsR at h
 simp only at h
 split at h
 ·rename_i h1
  simp only [Bool.and_eq_true] at h1
  have := cntOk_le h1.1
  split at h
  ·injection h with h _
   rw [← h]
   exact ⟨this, .inl rfl⟩
  ·split at h
   ·cases h
   ·rename_i h2
    simp only [Bool.or_eq_true, Bool.not_eq_true', not_or, Bool.not_eq_false, decide_eq_true_eq] at h2
    have := cntOk_le h2.1.1
    injection h with h _
    rw [← h]
    exact ⟨by assumption, .inr ⟨by simp only; omega, by simp only; omega⟩⟩
 ·split at h
  ·cases h
  ·rename_i h2
   simp only [Bool.or_eq_true, Bool.not_eq_true', not_or, Bool.not_eq_false] at h2
   have := cntOk_le h2.1
   injection h with h _
   rw [← h]
   exact ⟨this, .inr ⟨by simp only; omega, by simp only; omega⟩⟩
theorem isT_times {t : Nd} (h : t.isT = true) {a b : Int} (h0 : 0 ≤ a) (h1 : a ≤ 255) (h2 : b = -1 ∨ (a ≤ b ∧ b ≤ 255)) : (timesN t a b).isT = true := by
 unfold timesN Nd.isT headOk
 rw [if_neg (by omega), if_neg (by omega), if_neg (by omega), if_pos rfl]
 have : Nd.areT [t] = true := by simp [Nd.areT, h]
 rw [this]
 rcases h2 with h2 | h2
 ·simp [h0, h1, h2]
 ·simp [h0, h1, h2.1, h2.2]
theorem repeatR_isT {t u : Nd} {i j : Nat} (ht : t.isT = true) (h : repeatR p t i = .got u j) : u.isT = true := by
 unfold repeatR at h
 split at h
 ·injection h with h _; rw [← h]; exact isT_times ht (by omega) (by omega) (by omega)
 split at h
 ·injection h with h _; rw [← h]; exact isT_times ht (by omega) (by omega) (by omega)
 split at h
 ·injection h with h _; rw [← h]; exact isT_times ht (by omega) (by omega) (by omega)
 split at h
 ·cases hc : countsR p i with
  | fault e a => rw [hc] at h; cases h
  | got c k =>
    rw [hc] at h
    injection h with h _
    have := countsR_ok hc
    rw [← h]
    exact isT_times ht (by omega) (by omega) this.2
 ·injection h with h _; rw [← h]; exact ht
theorem setR_isT {s i j : Nat} {t : Nd} (h : setR p s i = .got t j) : t.isT = true := by
 unfold setR at h
 cases hc : itemsR p s (p.size + 2) true (if isAt p i 94 then i + 1 else i) 0 with
 | fault e a => rw [hc] at h; cases h
 | got y k =>
   rw [hc] at h
   injection h with h _
   rw [← h]
   exact isT_set _
theorem inn_fwd (d : Nat) : ∀ f, inn p d = some f → ∀ i t j, i ≤ p.size → f i = .got t j → i ≤ j ∧ j ≤ p.size := by
 intro f hf
 cases d with
 | zero => cases hf
 | succ d => injection hf with hf; subst hf; exact fun i t j h1 h2 => patR_fwd d i t j h1 h2
theorem piece_ok {d : Nat} (hd : d ≤ 64) (ih : ∀ d0, d = d0 + 1 → ∀ i t j, i ≤ p.size → patR p d0 i = .got t j → PtOk p d0 i t j) {i j : Nat} {t : Nd} (hi : i < p.size) (h41 : chr p i ≠ 41) (h124 : chr p i ≠ 124) (h : pieceR p (inn p d) i = .got t j) : PcOk p d i t j := by
 have hf := pieceR_fwd (inn_fwd d) h hi
 unfold pieceR at h
 simp only at h
 have stp : ∀ n d m, _ := fun (n d m : Int) => Bs_step (p := p) (n := n) (d := d) (m := m) hi
 by_cases h94 : chr p i = 94
 ·rw [if_pos h94] at h
  injection h with h1 h2
  subst h1 h2
  refine ⟨0, by omega, fun q a d' A hd' => ⟨fun _ => ?_, fun h => by omega⟩, by rfl, fun L hL => ScB.of_eq fun n M => Bs_dull1 hi (by unfold dull; omega)⟩
  unfold pieceR
  simp only
  rw [A.at_ i hi, if_pos h94]
  rfl
 rw [if_neg h94] at h
 by_cases h36 : chr p i = 36
 ·rw [if_pos h36] at h
  injection h with h1 h2
  subst h1 h2
  refine ⟨0, by omega, fun q a d' A hd' => ⟨fun _ => ?_, fun h => by omega⟩, by rfl, fun L hL => ScB.of_eq fun n M => Bs_dull1 hi (by unfold dull; omega)⟩
  unfold pieceR
  simp only
  rw [A.at_ i hi, if_neg h94, if_pos h36]
  rfl
 rw [if_neg h36] at h
 split at h
 ·cases h
 rename_i hrp
 by_cases h40 : chr p i = 40
 ·rw [if_pos h40] at h
  cases d with
  | zero => cases h
  | succ d0 =>
    simp only [inn] at h
    cases hc : patR p d0 (i + 1) with
    | fault e a => rw [hc] at h; cases h
    | got u k =>
      rw [hc] at h
      simp only [Res.bind] at h
      have hk := patR_fwd d0 _ _ _ (by omega) hc
      have hend := patR_end d0 _ _ _ hc
      split at h
      ·cases h
      rename_i hks
      have hk41 : isAt p k 41 = true := by
       rcases hend with h | h
       ·exact absurd h hks
       ·exact h
      obtain ⟨h0, c, hh0, hemb, hT, hsc, -⟩ := ih d0 rfl _ _ _ (by omega) hc
      refine ⟨h0 + 1, by omega, fun q a d' A hd' => ⟨fun hle => ?_, fun hlt => ?_⟩, repeatR_isT hT h, fun L hL n M hM => ?_⟩
      ·obtain ⟨d1, rfl⟩ : ∃ x, d' = x + 1 := ⟨d' - 1, by omega⟩
       have e1 := (hemb q a d1 A (by omega) (by omega) (fun e => by omega)).1 (by omega)
       unfold pieceR
       simp only [inn]
       rw [A.at_ i hi, if_neg h94, if_neg h36, if_neg hrp, if_pos h40, Nat.add_assoc, e1]
       simp only [Res.bind]
       rw [if_neg (by have := A.le; omega)]
       exact A.repeatR (by omega) h
      ·unfold pieceR
       rw [A.at_ i hi, if_neg h94, if_neg h36, if_neg hrp, if_pos h40]
       cases d' with
       | zero => exact ⟨_, rfl⟩
       | succ d1 =>
         simp only [inn]
         obtain ⟨x, e1⟩ := (hemb q a d1 A (by omega) (by omega) (fun e => by omega)).2 (by omega)
         rw [Nat.add_assoc, e1]
         exact ⟨x, rfl⟩
      ·have e1 := hsc (L + 1) (by omega) n (max M (L + 1)) (by omega)
       rw [if_neg (by omega)] at e1
       have q1 : chr p k = 41 := isAt_eq hk41
       have q2 := isAt_lt hk41
       have h5 : chr p k ≠ 92 ∧ chr p k ≠ 91 ∧ chr p k ≠ 40 := by omega
       rw [stp, if_neg (by omega), if_neg (by omega), if_pos h40, e1, Bs_step q2, if_neg h5.1, if_neg h5.2.1, if_neg h5.2.2, if_pos q1, Bs_repeat h (by omega)]
       congr 1 <;> omega
 rw [if_neg h40] at h
 by_cases h91 : chr p i = 91
 ·rw [if_pos h91] at h
  cases hc : setR p i (i + 1) with
  | fault e a => rw [hc] at h; cases h
  | got u k =>
    rw [hc] at h
    simp only [Res.bind] at h
    have hk := setR_fwd hc
    have hb := behN_set (by omega) hc
    by_cases hi1 : i + 1 < p.size
    ·refine ⟨0, by omega, fun q a d' A hd' => ⟨fun _ => ?_, fun h => by omega⟩, repeatR_isT (setR_isT hc) h, fun L hL => ScB.of_eq fun n M => ?_⟩
     ·unfold pieceR
      simp only
      rw [A.at_ i hi, if_neg h94, if_neg h36, if_neg hrp, if_neg h40, if_pos h91, Nat.add_assoc, A.setR (s' := a + i) hi1 hc]
      simp only [Res.bind]
      exact A.repeatR (by omega) h
     ·rw [stp, if_neg (by omega), if_pos h91, hb, Bs_repeat h (by omega)]
    ·exfalso
     unfold setR at hc
     cases hd : itemsR p i (p.size + 2) true (if isAt p (i + 1) 94 then i + 1 + 1 else i + 1) 0 with
     | fault e a => rw [hd] at hc; cases hc
     | got y z =>
       rw [hd] at hc
       have := itemsR_fwd _ _ _ _ _ _ hd
       split at this <;> omega
 rw [if_neg h91] at h
 by_cases h46 : chr p i = 46
 ·rw [if_pos h46] at h
  refine ⟨0, by omega, fun q a d' A hd' => ⟨fun _ => ?_, fun h => by omega⟩, repeatR_isT (isT_set _) h, fun L hL => ScB.of_eq fun n M => ?_⟩
  ·unfold pieceR
   simp only
   rw [A.at_ i hi, if_neg h94, if_neg h36, if_neg hrp, if_neg h40, if_neg h91, if_pos h46, Nat.add_assoc]
   exact A.repeatR (by omega) h
  ·rw [Bs_dull1 hi (by unfold dull; omega), Bs_repeat h (by omega)]
 rw [if_neg h46] at h
 by_cases h92 : chr p i = 92
 ·rw [if_pos h92] at h
  split at h
  ·rename_i h8
   have h8' := h8
   unfold oneOf at h8'
   simp only [Bool.and_eq_true, decide_eq_true_eq] at h8'
   refine ⟨0, by omega, fun q a d' A hd' => ⟨fun _ => ?_, fun h => by omega⟩, repeatR_isT (isT_set _) h, fun L hL => ScB.of_eq fun n M => ?_⟩
   ·unfold pieceR
    simp only
    have o1 : Ere.oneOf q (a + i + 1) marks = true := by rw [Nat.add_assoc, A.oneOf h8'.1]; exact h8
    rw [A.at_ i hi, if_neg h94, if_neg h36, if_neg hrp, if_neg h40, if_neg h91, if_neg h46, if_pos h92, o1, if_pos rfl, Nat.add_assoc, A.at_ (i + 1) h8'.1, Nat.add_assoc]
    exact A.repeatR (by omega) h
   ·rw [stp, if_pos h92, Bs_repeat h (by omega)]
  ·cases h
 rw [if_neg h92] at h
 refine ⟨0, by omega, fun q a d' A hd' => ⟨fun _ => ?_, fun h => by omega⟩, repeatR_isT (isT_set _) h, fun L hL => ?_⟩
 ·unfold pieceR
  simp only
  rw [A.at_ i hi, if_neg h94, if_neg h36, if_neg hrp, if_neg h40, if_neg h91, if_neg h46, if_neg h92, Nat.add_assoc]
  exact A.repeatR (by omega) h
 ·exact ScB.of_eq fun n M => by rw [Bs_dull1 hi (by unfold dull; omega), Bs_repeat h (by omega)]
theorem alt_ok {d : Nat} (hd : d ≤ 64) (hpc : ∀ i t j, i < p.size → chr p i ≠ 41 → chr p i ≠ 124 → pieceR p (inn p d) i = .got t j → PcOk p d i t j) :
  ∀ n i l t j, i ≤ p.size → (∀ x ∈ l, x.isT = true) → alF p d n i l = .got t j →
   ∃ h, h ≤ d ∧ (∀ q a d' n', Emb p q a → d' ≤ 64 → (d' = 64 → d = 64) → (j = p.size → EndA q (decide (d' = 64)) (a + p.size)) → a + p.size + 1 ≤ n' + (a + i) → (h ≤ d' → alF q d' n' (a + i) l = .got t (a + j)) ∧ (d' < h → Deep (alF q d' n' (a + i) l))) ∧ t.isT = true ∧ ∀ L : Int, 0 ≤ L → ScB p i j L 0 h
 | 0, _, _, _, _, _, _, h => by cases h
 | n + 1, i, l, t, j, hi, hl, h => by
   have pf : ∀ i t j, i < p.size → pieceR p (inn p d) i = .got t j → i < j ∧ j ≤ p.size := fun i t j hi h => pieceR_fwd (inn_fwd d) h hi
   have hf := altR_fwd pf _ _ _ _ _ hi h
   unfold alF altR at h
   by_cases hend : (decide (p.size ≤ i) || isAt p i 124) = true
   ·rw [if_pos hend] at h
    injection h with h1 h2
    subst h1 h2
    refine ⟨0, by omega, fun q a d' n' A hd' htop hE hn' => ⟨fun _ => ?_, fun h => by omega⟩, isT_some3 hl (.inl rfl), fun L hL => ScB.of_eq fun n M => rfl⟩
    obtain ⟨n', rfl⟩ : ∃ c, n' = c + 1 := ⟨n' - 1, by omega⟩
    unfold alF altR
    simp only [Bool.or_eq_true, decide_eq_true_eq] at hend
    rcases hend with hend | hend
    ·have hip : i = p.size := by omega
     subst hip
     rcases hE rfl with e | e | e
     ·rw [decide_eq_true (show q.size ≤ a + p.size by omega)]; rfl
     ·rw [e, Bool.or_true]; rfl
     ·rw [e.1, e.2.1, e.2.2]
      by_cases hz : q.size ≤ a + p.size
      ·rw [decide_eq_true hz]; rfl
      ·rw [decide_eq_false hz]; rfl
    ·rw [A.isAt (isAt_lt hend), hend, Bool.or_true]
     rfl
   ·rw [if_neg hend] at h
    simp only [Bool.or_eq_true, decide_eq_true_eq, not_or] at hend
    have hip : i < p.size := by omega
    have e124 : isAt p i 124 = false := by simpa using hend.2
    by_cases h41 : isAt p i 41 = true
    ·rw [if_pos h41] at h
     split at h
     ·cases h
     rename_i htp
     injection h with h1 h2
     subst h1 h2
     have hd64 : d ≠ 64 := by simpa using htp
     refine ⟨0, by omega, fun q a d' n' A hd' htop hE hn' => ⟨fun _ => ?_, fun h => by omega⟩, isT_some3 hl (.inl rfl), fun L hL => ScB.of_eq fun n M => rfl⟩
     obtain ⟨n', rfl⟩ : ∃ c, n' = c + 1 := ⟨n' - 1, by omega⟩
     unfold alF altR
     rw [A.isAt hip, A.isAt hip, e124, h41, decide_eq_false (show ¬ q.size ≤ a + i by have := A.le; omega), decide_eq_false (show ¬ d' = 64 by omega)]
     rfl
    ·rw [if_neg h41] at h
     have e41 : isAt p i 41 = false := by simpa using h41
     have c41 : chr p i ≠ 41 := fun e => h41 (by unfold isAt; rw [decide_eq_true hip, e]; rfl)
     have c124 : chr p i ≠ 124 := fun e => hend.2 (by unfold isAt; rw [decide_eq_true hip, e]; rfl)
     cases hc : pieceR p (inn p d) i with
     | fault e a => rw [hc] at h; cases h
     | got u k =>
       rw [hc] at h
       simp only [Res.bind] at h
       have hk := pf i u k hip hc
       obtain ⟨h1, hh1, hemb1, hT1, hsc1⟩ := hpc i u k hip c41 c124 hc
       obtain ⟨h2, hh2, hemb2, hT2, hsc2⟩ := alt_ok hd hpc n k (l ++ [u]) t j hk.2 (fun x hx => by
        rcases List.mem_append.1 hx with hx | hx
        ·exact hl x hx
        ·rw [List.mem_singleton.1 hx]; exact hT1) h
       refine ⟨max h1 h2, by omega, fun q a d' n' A hd' htop hE hn' => ?_, hT2, fun L hL => (hsc1 L hL).trans (hsc2 L hL)⟩
       obtain ⟨n', rfl⟩ : ∃ c, n' = c + 1 := ⟨n' - 1, by omega⟩
       have g1 := hemb1 q a d' A hd'
       have g2 := hemb2 q a d' n' A hd' htop hE (by omega)
       have key : alF q d' (n' + 1) (a + i) l = (pieceR q (inn q d') (a + i)).bind fun t j => alF q d' n' j (l ++ [t]) := by
        unfold alF
        conv => lhs; unfold altR
        rw [A.isAt hip, A.isAt hip, e124, e41, decide_eq_false (show ¬ q.size ≤ a + i by have := A.le; omega)]
        rfl
       rw [key]
       by_cases hle : h1 ≤ d'
       ·rw [g1.1 hle]
        simp only [Res.bind]
        exact ⟨fun h => g2.1 (by omega), fun h => g2.2 (by omega)⟩
       ·obtain ⟨x, e⟩ := g1.2 (by omega)
        rw [e]
        exact ⟨fun h => by omega, fun h => ⟨x, rfl⟩⟩
theorem patL_ok {d : Nat} (hd : d ≤ 64) (hal : ∀ i t j, i ≤ p.size → alR p d i = .got t j → AlOk p d i t j) :
  ∀ n i l t j, i ≤ p.size → (∀ x ∈ l, x.isT = true) → patL p (alR p d) n i l = .got t j →
   ∃ h c, h ≤ d ∧ (∀ q a d' n', Emb p q a → d' ≤ 64 → (d' = 64 → d = 64) → (j = p.size → EndP q (decide (d' = 64)) (a + p.size)) → a + p.size + 1 ≤ n' + (a + i) → (h ≤ d' → patL q (alR q d') n' (a + i) l = .got t (a + j)) ∧ (d' < h → Deep (patL q (alR q d') n' (a + i) l))) ∧ t.isT = true ∧ (∀ L : Int, 0 ≤ L → ScB p i j L (if L = 0 then c else 0) h) ∧ (c = 0 → l = [] → alR p d i = .got t j)
 | 0, _, _, _, _, _, _, h => by cases h
 | n + 1, i, l, t, j, hi, hl, h => by
   have pf : ∀ i t j, i < p.size → pieceR p (inn p d) i = .got t j → i < j ∧ j ≤ p.size := fun i t j hi h => pieceR_fwd (inn_fwd d) h hi
   have af : ∀ i t j, i ≤ p.size → alR p d i = .got t j → i ≤ j ∧ j ≤ p.size := fun i t j hi h => altR_fwd pf _ _ _ _ _ hi h
   unfold patL at h
   cases hc : alR p d i with
   | fault e a => rw [hc] at h; cases h
   | got u k =>
     rw [hc] at h
     simp only [Res.bind] at h
     have hk := af i u k hi hc
     have hkend := altR_end _ _ _ _ _ hc
     obtain ⟨h1, hh1, hemb1, hT1, hsc1⟩ := hal i u k hi hc
     have hlu : ∀ x ∈ l ++ [u], x.isT = true := fun x hx => by
      rcases List.mem_append.1 hx with hx | hx
      ·exact hl x hx
      ·rw [List.mem_singleton.1 hx]; exact hT1
     have key : ∀ q (a d' n' : Nat), patL q (alR q d') (n' + 1) (a + i) l = (alR q d' (a + i)).bind fun t j => if isAt q j 124 then patL q (alR q d') n' (j + 1) (l ++ [t]) else .got (someN 4 (l ++ [t])) j := fun q a d' n' => by
      conv => lhs; unfold patL
     split at h
     ·rename_i hb
      have hkl := isAt_lt hb
      have hkj := patL_fwd af _ _ _ _ _ (by omega) h
      obtain ⟨h2, c, hh2, hemb2, hT2, hsc2, -⟩ := patL_ok hd hal n (k + 1) (l ++ [u]) t j (by omega) hlu h
      refine ⟨max h1 h2, c + 1, by omega, fun q a d' n' A hd' htop hE hn' => ?_, hT2, fun L hL => ?_, fun e => by omega⟩
      ·obtain ⟨n', rfl⟩ : ∃ c, n' = c + 1 := ⟨n' - 1, by omega⟩
       have g1 := hemb1 q a d' A hd' htop (fun e => by omega)
       have g2 := hemb2 q a d' n' A hd' htop hE (by omega)
       rw [key]
       by_cases hle : h1 ≤ d'
       ·rw [g1.1 hle]
        simp only [Res.bind]
        rw [A.isAt hkl, if_pos hb]
        exact ⟨fun h => g2.1 (by omega), fun h => g2.2 (by omega)⟩
       ·obtain ⟨x, e⟩ := g1.2 (by omega)
        rw [e]
        exact ⟨fun h => by omega, fun h => ⟨x, rfl⟩⟩
      ·intro nn M hM
       have q1 : chr p k = 124 := isAt_eq hb
       have h5 : chr p k ≠ 92 ∧ chr p k ≠ 91 ∧ chr p k ≠ 40 ∧ chr p k ≠ 41 := by omega
       rw [hsc1 L hL nn M hM, Bs_step hkl, if_neg h5.1, if_neg h5.2.1, if_neg h5.2.2.1, if_neg h5.2.2.2, if_pos q1, hsc2 L hL _ _ (by omega)]
       by_cases hL0 : L = 0
       ·rw [if_pos hL0, if_pos hL0, if_pos hL0]
        congr 1 <;> omega
       ·rw [if_neg hL0, if_neg hL0, if_neg hL0]
        congr 1 <;> omega
     ·rename_i hb
      injection h with h3 h4
      subst h3 h4
      refine ⟨h1, 0, hh1, fun q a d' n' A hd' htop hE hn' => ?_, isT_some3 hlu (.inr rfl), fun L hL => ?_, fun _ e => by rw [e]; rfl⟩
      ·obtain ⟨n', rfl⟩ : ∃ c, n' = c + 1 := ⟨n' - 1, by omega⟩
       have g1 := hemb1 q a d' A hd' htop (fun e => (hE e).a)
       rw [key]
       by_cases hle : h1 ≤ d'
       ·rw [g1.1 hle]
        simp only [Res.bind]
        have hno : isAt q (a + k) 124 = false := by
         by_cases e : k < p.size
         ·rw [A.isAt e]; simpa using hb
         ·obtain rfl : k = p.size := by omega
          exact (hE rfl).no
        rw [hno]
        exact ⟨fun h => rfl, fun h => by omega⟩
       ·obtain ⟨x, e⟩ := g1.2 (by omega)
        rw [e]
        exact ⟨fun h => by omega, fun h => ⟨x, rfl⟩⟩
      ·rw [show (if L = 0 then 0 else 0) = 0 by split <;> rfl]
       exact hsc1 L hL
theorem al_ok {d : Nat} (hd : d ≤ 64) (ih : ∀ d0, d = d0 + 1 → ∀ i t j, i ≤ p.size → patR p d0 i = .got t j → PtOk p d0 i t j) (i : Nat) (t : Nd) (j : Nat) (hi : i ≤ p.size) (h : alR p d i = .got t j) : AlOk p d i t j := by
 obtain ⟨x, h1, h2, h3, h4⟩ := alt_ok hd (fun i t j hi h41 h124 h => piece_ok hd ih hi h41 h124 h) _ i [] t j hi (fun x hx => by simp at hx) h
 exact ⟨x, h1, fun q a d' A hd' htop hE => h2 q a d' (q.size + 2) A hd' htop hE (by have := A.le; omega), h3, h4⟩
theorem pat_ok : ∀ d, d ≤ 64 → ∀ i t j, i ≤ p.size → patR p d i = .got t j → PtOk p d i t j
 | d, hd, i, t, j, hi, h => by
   have ih : ∀ d0, d = d0 + 1 → ∀ i t j, i ≤ p.size → patR p d0 i = .got t j → PtOk p d0 i t j := fun d0 e i t j hi h => pat_ok d0 (by omega) i t j hi h
   rw [patR_al] at h
   obtain ⟨x, c, h1, h2, h3, h4, h5⟩ := patL_ok hd (al_ok hd ih) _ i [] t j hi (fun x hx => by simp at hx) h
   refine ⟨x, c, h1, fun q a d' A hd' htop hE => ?_, h3, h4, fun e => h5 e rfl⟩
   rw [patR_al]
   exact h2 q a d' (q.size + 2) A hd' htop hE (by have := A.le; omega)
end
end Ere
namespace Ere
theorem chr_app (p t : ByteArray) (k : Nat) : chr (p ++ t) k = if k < p.size then chr p k else chr t (k - p.size) := by
 unfold chr
 by_cases hk : k < p.size
 ·rw [if_pos hk, dif_pos (by rw [ByteArray.size_append]; omega), dif_pos hk, ByteArray.getElem_append_left hk]
 ·rw [if_neg hk]
  by_cases h2 : k - p.size < t.size
  ·rw [dif_pos (by rw [ByteArray.size_append]; omega), dif_pos h2, ByteArray.getElem_append_right (by omega)]
  ·rw [dif_neg (by rw [ByteArray.size_append]; omega), dif_neg h2]
theorem isAt_of {p : ByteArray} {i c : Nat} (h : i < p.size) (e : chr p i = c) : isAt p i c = true := by
 unfold isAt
 rw [decide_eq_true h, e]
 simp
theorem isAt_ne {p : ByteArray} {i c : Nat} (e : chr p i ≠ c) : isAt p i c = false := by
 unfold isAt
 rw [decide_eq_false e, Bool.and_false]
theorem isAt_out {p : ByteArray} {i c : Nat} (h : p.size ≤ i) : isAt p i c = false := by
 unfold isAt
 rw [decide_eq_false (by omega), Bool.false_and]
section
variable {p : ByteArray}
theorem alF_piece {d n i k : Nat} {l : List Nd} {u : Nd} (hi : i < p.size) (h1 : chr p i ≠ 124) (h2 : chr p i ≠ 41) (h : pieceR p (inn p d) i = .got u k) : alF p d (n + 1) i l = alF p d n k (l ++ [u]) := by
 conv => lhs; unfold alF altR
 rw [isAt_ne h1, isAt_ne h2, decide_eq_false (by omega), h]
 rfl
theorem alF_fault {d n i e x : Nat} {l : List Nd} (hi : i < p.size) (h1 : chr p i ≠ 124) (h2 : chr p i ≠ 41) (h : pieceR p (inn p d) i = .fault e x) : alF p d (n + 1) i l = .fault e x := by
 conv => lhs; unfold alF altR
 rw [isAt_ne h1, isAt_ne h2, decide_eq_false (by omega), h]
 rfl
theorem alF_end {d n i : Nat} {l : List Nd} (hi : p.size ≤ i ∨ isAt p i 124 = true) : alF p d (n + 1) i l = .got (someN 3 l) i := by
 unfold alF altR
 rw [if_pos]
 rcases hi with h | h
 ·rw [decide_eq_true h]; rfl
 ·rw [h, Bool.or_true]
theorem patL_end' {al : Nat → Res Nd} {n i k : Nat} {l : List Nd} {u : Nd} (h : al i = .got u k) (hk : isAt p k 124 = false) : patL p al (n + 1) i l = .got (someN 4 (l ++ [u])) k := by
 unfold patL
 rw [h]
 simp only [Res.bind]
 rw [hk]
 rfl
theorem patL_fault {al : Nat → Res Nd} {n i e x : Nat} {l : List Nd} (h : al i = .fault e x) : patL p al (n + 1) i l = .fault e x := by
 unfold patL
 rw [h]
 rfl
theorem piece_group {d i k : Nat} {u : Nd} (hi : chr p i = 40) (h : patR p d (i + 1) = .got u k) (hk : k < p.size) : pieceR p (inn p (d + 1)) i = repeatR p u (k + 1) := by
 unfold pieceR
 simp only [inn]
 rw [if_neg (by omega), if_neg (by omega), if_neg (by omega), if_pos hi, h]
 simp only [Res.bind]
 rw [if_neg (by omega)]
theorem piece_group_fault {d i e x : Nat} (hi : chr p i = 40) (h : patR p d (i + 1) = .fault e x) : pieceR p (inn p (d + 1)) i = .fault e x := by
 unfold pieceR
 simp only [inn]
 rw [if_neg (by omega), if_neg (by omega), if_neg (by omega), if_pos hi, h]
 rfl
theorem alR_top {i j : Nat} {t : Nd} : ∀ n l, alF p 64 n i l = .got t j → p.size ≤ j ∨ isAt p j 124 = true := by
 intro n
 induction n generalizing i with
 | zero => intro l h; cases h
 | succ n ih =>
   intro l h
   unfold alF altR at h
   split at h
   ·rename_i h1
    injection h with _ h2
    subst h2
    simp only [Bool.or_eq_true, decide_eq_true_eq] at h1
    exact h1
   ·split at h
    ·rw [if_pos (by decide)] at h
     cases h
    ·cases hc : pieceR p (inn p 64) i with
     | fault e a => rw [hc] at h; cases h
     | got u k =>
       rw [hc] at h
       exact ih _ h
theorem patL_top {j : Nat} {t : Nd} : ∀ n i l, patL p (alR p 64) n i l = .got t j → p.size ≤ j
 | 0, _, _, h => by cases h
 | n + 1, i, l, h => by
   unfold patL at h
   cases hc : alR p 64 i with
   | fault e a => rw [hc] at h; cases h
   | got u k =>
     rw [hc] at h
     simp only [Res.bind] at h
     split at h
     ·exact patL_top n _ _ h
     ·rename_i h1
      injection h with _ h2
      subst h2
      rcases alR_top _ _ hc with h3 | h3
      ·exact h3
      ·exact absurd h3 h1
theorem patR_top {j : Nat} {t : Nd} (h : patR p 64 0 = .got t j) : j = p.size := by
 have h1 := patR_fwd 64 0 t j (by omega) h
 rw [patR_al] at h
 have := patL_top _ _ _ h
 omega
structure Good4 (p : ByteArray) (t : Nd) : Prop where
 size : p.size ≤ 1024
 nl : ∀ k, k < p.size → chr p k ≠ 10
 got : patR p 64 0 = .got t p.size
 places : placesN t ≤ 2048
theorem parse_ok (h : (parseR p).2.2 = 0) : Good4 p (parseR p).1 ∧ (parseR p).2.1 = 0 := by
 obtain ⟨R, hR⟩ : ∃ R, parseR p = R := ⟨_, rfl⟩
 rw [hR] at h ⊢
 unfold parseR at hR
 split at hR
 ·subst hR; cases h
 rename_i hs
 split at hR
 ·subst hR; cases h
 rename_i hn
 split at hR
 ·rename_i e a he
  have := patR_bad 64 0 e a (by omega) he
  subst hR
  unfold BadF okE at this
  simp only at h
  omega
 rename_i t j he
 split at hR
 ·subst hR; cases h
 rename_i hp
 have := patR_top he
 subst this
 subst hR
 exact ⟨⟨by omega, fun k hk => nlAt_none p (p.size + 1) 0 (by omega) hn k (by omega) hk, he, by show placesN t ≤ 2048; omega⟩, rfl⟩
theorem parse_of {t : Nd} {j : Nat} (hs : p.size ≤ 1024) (hn : ∀ k, k < p.size → chr p k ≠ 10) (h : patR p 64 0 = .got t j) : parseR p = if 2048 < placesN t then (zeroN, 0, 48) else (t, 0, 0) := by
 unfold parseR
 rw [if_neg (by omega), nlAt_all hn]
 simp only [h]
theorem parse_fault {e x : Nat} (hs : p.size ≤ 1024) (hn : ∀ k, k < p.size → chr p k ≠ 10) (h : patR p 64 0 = .fault e x) : parseR p = (zeroN, x, e) := by
 unfold parseR
 rw [if_neg (by omega), nlAt_all hn]
 simp only [h]
theorem parse_long (hs : 1024 < p.size) : parseR p = (zeroN, 1024, 40) := by
 unfold parseR
 rw [if_pos hs]
theorem good_bars {t : Nd} (g : Good4 p t) : ∃ h c : Nat, barsP p = ((c : Int), (h : Int)) ∧ h ≤ 64 ∧ t.isT = true ∧
  (∀ q a, Emb p q a → EndP q false (a + p.size) → (h ≤ 63 → patR q 63 a = .got t (a + p.size)) ∧ (63 < h → Deep (patR q 63 a))) ∧
  (c = 0 → ∀ q a, Emb p q a → EndA q true (a + p.size) → alR q 64 a = .got t (a + p.size)) := by
 obtain ⟨h, c, h1, h2, h3, h4, h5⟩ := pat_ok 64 (by omega) 0 t p.size (by omega) g.got
 refine ⟨h, c, ?_, h1, h3, fun q a A hE => ?_, fun hc q a A hE => ?_⟩
 ·have := h4 0 (by omega) 0 0 (by omega)
  rw [if_pos rfl, Bs_end (Nat.le_refl _)] at this
  unfold barsP
  unfold Bs at this
  rw [this]
  congr 1 <;> omega
 ·have := h2 q a 63 A (by omega) (by omega) (fun _ => by rwa [decide_eq_false (by omega)])
  exact ⟨fun h => this.1 h, fun h => this.2 h⟩
 ·obtain ⟨h', h6, h7, -, -⟩ := al_ok (by omega) (fun d0 e i t j hi h => pat_ok d0 (by omega) i t j hi h) 0 t p.size (by omega) (h5 hc)
  exact (h7 q a 64 A (by omega) (fun _ => rfl) (fun _ => by rwa [decide_eq_true rfl])).1 h6
end
def brk (p : ByteArray) : ByteArray := ⟨#[40]⟩ ++ p ++ ⟨#[41]⟩
theorem brk_size (p : ByteArray) : (brk p).size = p.size + 2 := by
 unfold brk
 rw [ByteArray.size_append, ByteArray.size_append]
 show 1 + p.size + 1 = _
 omega
theorem brk_chr (p : ByteArray) (k : Nat) : chr (brk p) k = if k = 0 then 40 else if k < p.size + 1 then chr p (k - 1) else if k = p.size + 1 then 41 else 0 := by
 unfold brk
 rw [chr_app, chr_app, ByteArray.size_append]
 have s1 : (⟨#[40]⟩ : ByteArray).size = 1 := rfl
 rw [s1]
 by_cases h0 : k = 0
 ·subst h0
  rw [if_pos (by omega), if_pos (by omega), if_pos rfl]
  rfl
 rw [if_neg h0]
 by_cases h1 : k < p.size + 1
 ·rw [if_pos (by omega), if_neg (by omega), if_pos h1]
 rw [if_neg (by omega), if_neg h1]
 by_cases h2 : k = p.size + 1
 ·rw [if_pos h2, h2, show p.size + 1 - (1 + p.size) = 0 by omega]
  rfl
 rw [if_neg h2]
 unfold chr
 rw [dif_neg]
 show ¬ (k - (1 + p.size) < 1)
 omega
theorem brk_emb (p : ByteArray) : Emb p (brk p) 1 := by
 refine ⟨by rw [brk_size]; omega, fun k hk => ?_, fun c hc => isAt_ne ?_⟩
 ·rw [brk_chr, if_neg (by omega), if_pos (by omega), show 1 + k - 1 = k by omega]
 ·rw [brk_chr, if_neg (by omega), if_neg (by omega), if_pos (by omega)]
  omega
theorem brk_nl {p : ByteArray} (h : ∀ k, k < p.size → chr p k ≠ 10) : ∀ k, k < (brk p).size → chr (brk p) k ≠ 10 := by
 intro k hk
 rw [brk_size] at hk
 rw [brk_chr]
 split
 ·omega
 split
 ·exact h _ (by omega)
 ·rw [if_pos (by omega)]; omega
structure TreesHold (p : ByteArray) : Prop where
 bad : (parseR p).2.2 ≠ 0 → (parseR p).1 = zeroN ∧ (parseR p).2.1 ≤ p.size ∧ ((40 ≤ (parseR p).2.2 ∧ (parseR p).2.2 ≤ 48) ∨ (parseR p).2.2 = 30) ∧ (p.size ≤ 1024 ∨ ((parseR p).2.2 = 40 ∧ (parseR p).2.1 = 1024))
 good : (parseR p).2.2 = 0 → (parseR p).2.1 = 0 ∧ (parseR p).1.isT = true ∧ 1 ≤ placesN (parseR p).1 ∧ placesN (parseR p).1 ≤ 2048 ∧ p.size ≤ 1024 ∧ ∃ c h : Nat, barsP p = ((c : Int), (h : Int)) ∧
  (1022 < p.size → parseR (brk p) = (zeroN, 1024, 40)) ∧ (p.size ≤ 1022 → 64 ≤ h → (parseR (brk p)).2.2 = 47) ∧ (p.size ≤ 1022 → h ≤ 63 → parseR (brk p) = ((parseR p).1, 0, 0))
theorem brk_alF {p : ByteArray} {u : Nd} (h : patR (brk p) 63 1 = .got u (1 + p.size)) : patR (brk p) 64 0 = .got u (brk p).size := by
 have hs := brk_size p
 have hc : chr (brk p) 0 = 40 := by rw [brk_chr, if_pos rfl]
 rw [patR_al]
 refine patL_end' (n := (brk p).size + 1) (l := []) (u := u) ?_ (isAt_out (Nat.le_refl _))
 unfold alR
 have hp : pieceR (brk p) (inn (brk p) 64) 0 = .got u (brk p).size := by
  rw [piece_group (d := 63) hc h (by omega), show 1 + p.size + 1 = (brk p).size by omega, repeatR_end (Nat.le_refl _)]
 rw [show (brk p).size + 2 = ((brk p).size + 1) + 1 from rfl, alF_piece (by omega) (by omega) (by omega) hp, alF_end (.inl (Nat.le_refl _))]
 rfl
theorem trees_hold (p : ByteArray) : TreesHold p := by
 refine ⟨fun h => ?_, fun h => ?_⟩
 ·obtain ⟨R, hR⟩ : ∃ R, parseR p = R := ⟨_, rfl⟩
  rw [hR] at h ⊢
  unfold parseR at hR
  split at hR
  ·rename_i hs
   subst hR
   exact ⟨rfl, by simp only; omega, .inl ⟨by simp only; omega, by simp only; omega⟩, .inr ⟨rfl, rfl⟩⟩
  rename_i hs
  split at hR
  ·rename_i i hn
   have := nlAt_some p _ _ _ hn
   subst hR
   exact ⟨rfl, by simp only; omega, .inl ⟨by simp only; omega, by simp only; omega⟩, .inl (by omega)⟩
  rename_i hn
  split at hR
  ·rename_i e a he
   have := patR_bad 64 0 e a (by omega) he
   unfold BadF okE at this
   subst hR
   exact ⟨rfl, by simp only; omega, by simp only; omega, .inl (by omega)⟩
  rename_i t j he
  split at hR
  ·rename_i hp
   subst hR
   exact ⟨rfl, by simp only; omega, .inl ⟨by simp only; omega, by simp only; omega⟩, .inl (by omega)⟩
  ·subst hR; exact absurd rfl h
 ·obtain ⟨g, ha⟩ := parse_ok h
  obtain ⟨t, ht⟩ : ∃ t, (parseR p).1 = t := ⟨_, rfl⟩
  rw [ht] at g ⊢
  obtain ⟨hh, c, hb, h64, hT, hemb, -⟩ := good_bars g
  have hs := brk_size p
  have hE := hemb (brk p) 1 (brk_emb p) (.inr ⟨isAt_of (by omega) (by rw [brk_chr, if_neg (by omega), if_neg (by omega), if_pos (by omega)]), isAt_ne (by rw [brk_chr, if_neg (by omega), if_neg (by omega), if_pos (by omega)]; omega), rfl⟩)
  have hp1 : 1 ≤ placesN t := by unfold placesN; rw [hT, if_pos rfl]; omega
  refine ⟨ha, hT, hp1, g.places, g.size, c, hh, hb, fun h1 => parse_long (by omega), fun h1 h2 => ?_, fun h1 h2 => ?_⟩
  ·obtain ⟨x, e⟩ := hE.2 (by omega)
   have hc : chr (brk p) 0 = 40 := by rw [brk_chr, if_pos rfl]
   have : patR (brk p) 64 0 = .fault 47 x := by
    rw [patR_al]
    refine patL_fault (n := (brk p).size + 1) ?_
    unfold alR
    rw [show (brk p).size + 2 = ((brk p).size + 1) + 1 from rfl]
    exact alF_fault (by omega) (by omega) (by omega) (piece_group_fault (d := 63) hc e)
   rw [parse_fault (by omega) (brk_nl g.nl) this]
  ·rw [parse_of (by omega) (brk_nl g.nl) (brk_alF (hE.1 h2)), if_neg (by have := g.places; omega)]
end Ere
end Go.Proofs.YtkedgombccdamaaGreatDoor
namespace Go.Proofs.YtkedgombccdamaaGreatDoor
open Go.ChangeShapes Go.WideShapes Go.ChangeAt Go.RowKit
open Go.ChangeMaps (open_string shut_string)
set_option linter.unusedVariables false
set_option linter.unusedSimpArgs false
theorem own : ownKnob Tryz.prog.godebug = none := by kernel_rfl
theorem laidOut : laidOutB Tryz.prog = true := by kernel_rfl
section
variable {H : Type} {enc : TypeId × Value → H} {w : World} {base : Nat} {spare : Nat → Bool} {held : Bool} {fuel : Nat}
end
theorem choose_list {α : Type} {p : Nat → α → Prop} : ∀ (n : Nat), (∀ i, i < n → ∃ y, p i y) → ∃ l : List α, l.length = n ∧ ∀ i (h : i < l.length), p i l[i]
 | 0, _ => ⟨[], rfl, fun i h => absurd h (by simp)⟩
 | n + 1, h => by
   obtain ⟨l, hl, hp⟩ := choose_list n (fun i hi => h i (by omega))
   obtain ⟨y, hy⟩ := h n (by omega)
   refine ⟨l ++ [y], by simp [hl], fun i hi => ?_⟩
   by_cases e : i < l.length
   ·rw [List.getElem_append_left e]; exact hp i e
   ·have : i = n := by simp at hi; omega
    subst this
    rw [List.getElem_append_right (by omega)]
    simpa using hy
theorem spot_none {w : World} {a : Addr} {v : Value} (h : w.cell? a = some v) : a.spot = none := World.cell?_spot h
end Go.Proofs.YtkedgombccdamaaGreatDoor
namespace Go.Proofs.YtkedgombccdamaaGreatDoor
open Go.ChangeShapes Go.WideShapes Go.ChangeAt Go.RowKit
set_option linter.unusedVariables false
set_option linter.unusedSimpArgs false
theorem open_cap {H : Type} {enc : TypeId × Value → H} {W : World} {held : Bool} {d : DataW H} {ps : List MemPlace} {t e : TypeId} {A : Option Addr} {n c : Nat} (ht : Tryz.prog.underlying t = some (.slice e)) (hd : DataW.Trod enc Tryz.prog W 0 (fun _ => true) held t (.slice A n c) d ps) : n ≤ c ∧ c ≤ maxLen := by
 obtain ⟨fuel, hf⟩ := hd
 rcases Deep.open_slice ht hf with ⟨hcs, hx⟩ | ⟨a, len, cap, m, n', D, Pl, hcs, _, hl, hm, hmm, hx, hi⟩
 ·simp [Value.cells] at hcs
  obtain ⟨rfl, rfl, rfl⟩ := hcs
  exact ⟨Nat.le_refl _, by unfold maxLen; omega⟩
 ·simp [Value.cells] at hcs
  obtain ⟨rfl, rfl, rfl⟩ := hcs
  have hmc : m = c := by simpa using hmm
  subst hmc
  exact ⟨by omega, by omega⟩
def encStr (s : ByteArray) : Array Value := #[.string s]
theorem cells_string : Tryz.prog.cellsOf 9 = 1 := by kernel_rfl
end Go.Proofs.YtkedgombccdamaaGreatDoor
namespace Go.Proofs.YtkedgombccdamaaGreatDoor
open Go.RowKit
set_option linter.unusedVariables false
set_option linter.unusedSimpArgs false
def onlyN (K : Act → World → Prop) : Exit → Act → World → Prop
 | .normal, a, w => K a w
 | _, _, _ => False
theorem zyh {K : Act → World → Prop} {a : Act} {w : World} (h : K a w) : onlyN K .normal a w := h
theorem onlyN_out (K : Act → World → Prop) (h : LetsOut (onlyN K)) : False := by
 obtain ⟨_, _, h⟩ := h
 exact h
def noDefer (o : Oper) : Bool := match o.op with | .defer _ => false | _ => true
theorem noDefer_ne {o : Oper} (h : noDefer o = true) : ∀ c, o.op ≠ .defer c := by
 intro c e
 unfold noDefer at h
 rw [e] at h
 cases h
section
variable {P : Program} {n r : Nat} {Q : Exit → Act → World → Prop} {X : Act → World → Prop} {ops : Array Oper}
theorem oper_in {o : Oper} {a : Act} {w : World} {K : Act → World → Prop} (hd : noDefer o = true) (h : o.wp P a w K (onlyN X)) : o.wpIn (Fence.wide.inRound r) n P a w K Q := by
 unfold Oper.wp at h
 refine ⟨fun _ _ => trivial, ?_⟩
 rw [Fence.inRound_round, Oper.semAt_some r _ o (noDefer_ne hd)]
 generalize (execOp a.eval o).run P w = res at h
 cases res with
 | ok x w' =>
   cases x with
   | value v => exact h
   | skip => exact h
   | defer d => exact h
   | enter f args =>
     refine ⟨fun e => by simp [Fence.wide] at e, ?_⟩
     have h' : Calls P f args w' _ := h
     refine (CallsIn.inRound r ((callsIn_wide (n := n - 1)).2 h')).mono ?_
     intro e w'' he
     cases e with
     | returned v => exact he
     | panicked c => exact he.elim
     | outgrown => exact (onlyN_out X he).elim
   | row row args =>
     refine ⟨fun e => by simp [Fence.wide] at e, ?_⟩
     intro c cs _
     obtain ⟨v, w2, h1, h2⟩ := h c cs
     exact ⟨v, w2, h1, stepsIn_wide.2 h2⟩
   | _ => exact h.elim
 | halt x w' =>
   cases x with
   | panic v => exact h.elim
   | _ => exact h.elim
theorem list_in : ∀ (l : List Oper) (a : Act) (w : World), l.all noDefer = true → wpList P ops (onlyN fun a w => Q .normal a w) l a w → wpListIn (Fence.wide.inRound r) n P ops Q l a w
 | [], a, w, _, h => h
 | o :: l, a, w, hd, h => by
   simp only [List.all_cons, Bool.and_eq_true] at hd
   unfold wpList at h
   unfold wpListIn
   split
   ·rename_i hw
    rw [if_pos hw] at h
    rcases h with h | ⟨_, h⟩
    ·exact Oper.wpIn_mono (fun a w h => list_in l a w hd.2 h) (oper_in hd.1 h)
    ·exact (onlyN_out _ h).elim
   ·rename_i hw
    rw [if_neg hw] at h
    exact ⟨fun _ _ => trivial, list_in l _ w hd.2 h⟩
theorem any_in (hd : ops.all noDefer = true) : ∀ (m : Nat) (listed : Array Bool) (a : Act) (w : World), wpAny P .any ops (onlyN fun a w => Q .normal a w) m listed a w → wpAnyIn (Fence.wide.inRound r) n P .any ops Q m listed a w
 | 0, listed, a, w, h => h
 | m + 1, listed, a, w, h => by
   refine ⟨h.1, fun i hi => ?_⟩
   have h2 := h.2 i hi
   unfold wpOp at h2
   unfold wpOpIn
   cases ho : ops[i]? with
   | none =>
     rw [ho] at h2
     exact any_in hd m _ a w h2
   | some o =>
     rw [ho] at h2
     simp only at h2 ⊢
     have hno : noDefer o = true := by
      obtain ⟨hlt, he⟩ := Array.getElem?_eq_some_iff.1 ho
      exact (Array.all_eq_true_iff_forall_mem.1 hd) o (he ▸ Array.getElem_mem hlt)
     split
     ·rename_i hw
      rw [if_pos hw] at h2
      rcases h2 with h2 | ⟨_, h2⟩
      ·exact Oper.wpIn_mono (fun a w h => any_in hd m _ a w h) (oper_in hno h2)
      ·exact (onlyN_out _ h2).elim
     ·rename_i hw
      rw [if_neg hw] at h2
      exact ⟨fun _ _ => trivial, any_in hd m _ _ w h2⟩
theorem region_in {id : Nat} {l : List Oper} {a : Act} {w : World} (hd : l.all noDefer = true) (h : wpList P l.toArray (onlyN fun a w => Q .normal a w) l a w) : (Code.region id l.toArray false).wpIn (Fence.wide.inRound r) n P Q a w :=
 wpIn_region_lit (list_in l a w hd h)
end
section
variable {P : Program} {Q : Exit → Act → World → Prop} {a : Act} {w : World} {l : List Oper}
theorem any_steps (n : Nat) (S : List GSpec) (ds : List Nat) (hB : growB l.toArray n a.tmps.size = true)
  (hds : zzd l.toArray n = ds) (hstep : Steps P l.toArray (zzl S) Q n a w (l.take n) 0)
  (hend : ∀ (u : Nat → Value) w', Below w.heap.size w w' → (∀ j d, j < n → (l[j]?).bind (·.dst) = some d → (zzl S j).p (u d) w') → wpList P l.toArray Q (l.drop n) (zqr a ds u) w') :
  wpAny P .any l.toArray Q l.toArray.size (Array.replicate l.toArray.size false) a w.drew := by
 subst hds
 have hdr : ∀ {x : World}, Below w.heap.size w x → Below w.heap.size w.drew x := fun h => ⟨h.os, h.tape, h.output, h.size, h.block⟩
 have hrd : ∀ {x : World}, Below w.heap.size w.drew x → Below w.heap.size w x := fun h => ⟨h.os, h.tape, h.output, h.size, h.block⟩
 have hn : n ≤ l.length := by
  simp only [growB, Bool.and_eq_true, decide_eq_true_eq] at hB
  simpa using hB.1.1.1.1.1
 have key := wpAny_grow (P := P) (ops := l.toArray) (n := n) (S := zzl S) (Q := Q) (a0 := a) (W0 := w.drew) hB
  (fun i o hi ho a' w' hb hw hd => by
   have := hstep.at_ i o (by rw [List.getElem?_take, if_pos hi]; simpa using ho) a' w' hb (hrd hw) (fun j hj => by
    obtain ⟨e, he, hh⟩ := List.any_eq_true.1 hj
    simp only [Bool.and_eq_true, beq_iff_eq] at hh
    rw [← hh.2]
    exact hd e (Array.mem_toList_iff.1 he) hh.1)
   rw [Nat.zero_add] at this
   exact this)
  (fun a' w' hb hw hd => by
   rw [act_eq hb]
   have := hend (fun d => a'.tmps.getD d undef) w' (hrd hw) (fun j d hj hd' => hd j hj d (by simpa using hd'))
   simpa using this)
  n (Array.replicate l.toArray.size false) a w.drew
  ⟨⟨by simp, fun j oj _ hl => (by rw [getD_replicate_false] at hl; cases hl), fun t _ ht => getD_in (by simpa using ht) (getD_replicate_false _ _)⟩, ⟨rfl, rfl, fun _ _ => rfl⟩, Below.refl _ _, fun j _ hl => (by rw [getD_replicate_false] at hl; cases hl)⟩
  (by
   unfold unl
   rw [List.filter_eq_self.2 (fun j _ => by rw [getD_replicate_false]; rfl), List.length_range])
 rw [show n + (l.toArray.size - n) = l.toArray.size by simp; omega] at key
 exact key
end
section
variable {P : Program} {n r : Nat} {Q : Exit → Act → World → Prop} {a : Act} {w : World} {l : List Oper} {id : Nat}
theorem regionIn_steps (k : Nat) (S : List GSpec) (ds : List Nat) (hm : P.follows .mixedOrders = true) (hB : growB l.toArray k a.tmps.size = true) (hd : l.toArray.all noDefer = true)
  (hds : zzd l.toArray k = ds) (hstep : Steps P l.toArray (zzl S) (onlyN fun a w => Q .normal a w) k a w (l.take k) 0)
  (hend : ∀ (u : Nat → Value) w', Below w.heap.size w w' → (∀ j d, j < k → (l[j]?).bind (·.dst) = some d → (zzl S j).p (u d) w') → wpList P l.toArray (onlyN fun a w => Q .normal a w) (l.drop k) (zqr a ds u) w') :
  (Code.region id l.toArray true).wpIn (Fence.wide.inRound r) n P Q a w :=
 wpIn_region_any hm (any_in hd _ _ a w.drew (any_steps k S ds hB hds hstep hend))
end
theorem field_mach_1 (b : Nat) (w : World) : (Instr.fieldAt 91 (.pointer (some ⟨b, 0, none⟩)) 1).run Tryz.prog w = .ok (.pointer (some ⟨b, 1, none⟩)) w := by kernel_rfl
theorem field_mach_2 (b : Nat) (w : World) : (Instr.fieldAt 91 (.pointer (some ⟨b, 0, none⟩)) 2).run Tryz.prog w = .ok (.pointer (some ⟨b, 2, none⟩)) w := by kernel_rfl
theorem field_walk_0 (b : Nat) (w : World) : (Instr.fieldAt 94 (.pointer (some ⟨b, 0, none⟩)) 0).run Tryz.prog w = .ok (.pointer (some ⟨b, 0, none⟩)) w := by kernel_rfl
theorem field_walk_2 (b : Nat) (w : World) : (Instr.fieldAt 94 (.pointer (some ⟨b, 0, none⟩)) 2).run Tryz.prog w = .ok (.pointer (some ⟨b, 2, none⟩)) w := by kernel_rfl
theorem field_walk_3 (b : Nat) (w : World) : (Instr.fieldAt 94 (.pointer (some ⟨b, 0, none⟩)) 3).run Tryz.prog w = .ok (.pointer (some ⟨b, 3, none⟩)) w := by kernel_rfl
def deB : List Nat := [0, 1, 56, 2, 57, 49, 28, 3, 61, 58, 42, 50, 38, 29, 17, 4, 62, 47, 59, 36, 45, 43, 51, 22, 53, 39, 33, 30, 24, 18, 12, 5, 63, 55, 48, 27, 60, 41, 37, 16, 46, 35, 44, 21, 52, 32, 23, 11, 54, 26, 40, 15, 34, 20, 31, 10, 25, 14, 19, 9, 13, 8, 7, 6]
def TabOk (W : World) : Prop := ∀ i, i < 64 → W.cell? ⟨0, i, none⟩ = some (.int .u8 (deB.getD i 0 : Nat))
theorem TabOk.size {W : World} (h : TabOk W) : 0 < W.heap.size := by
 have h1 := h 0 (by decide)
 refine Classical.byContradiction fun hn => ?_
 have : W.heap[0]? = none := Array.getElem?_eq_none (by omega)
 simp [World.cell?, this] at h1
theorem TabOk.then_ {n : Nat} {W W' : World} (h : TabOk W) (hn : 0 < n) (hb : Below n W W') : TabOk W' := fun i hi => (hb.cell (p := ⟨0, i, none⟩) hn).trans (h i hi)
theorem deB_at : ∀ t, t < 64 → deB.getD (2 ^ t * 285870213051353865 % 2 ^ 64 / 2 ^ 58) 0 = t ∧ 2 ^ t * 285870213051353865 % 2 ^ 64 / 2 ^ 58 < 64 := by decide
theorem neg_u64 {w : Nat} (h0 : 0 < w) (h : w < 2 ^ 64) : IntKind.u64.wrap (-(w : Int)) = ((2 ^ 64 - w : Nat) : Int) := by
 rw [IntKind.wrap_u64]
 omega
set_option maxHeartbeats 400000 in
theorem tz_any (w t : Nat) (hw : w < 2 ^ 64) (h : LowBit w t) (W : World) (hT : TabOk W) : Calls Tryz.prog 51 #[.int .u64 w] W fun e W' => e = .returned (.int .i64 t) ∧ W' = W := by
 have h0 : 0 < w := by
  rcases Nat.eq_zero_or_pos w with h0 | h0
  ·rw [h0] at h; have := h.1; simp at this
  ·exact h0
 have hne : ((w : Int) == 0) = false := by rw [beq_eq_false_iff_ne]; omega
 go_enter Tryz.func51, Tryz.ntmps51
 have ht : t < 64 := by
  refine Classical.byContradiction fun hn => ?_
  have h2 := Nat.testBit_lt_two_pow (Nat.lt_of_lt_of_le hw (Nat.pow_le_pow_right (show 0 < 2 by decide) (show 64 ≤ t by omega)))
  rw [h.1] at h2
  cases h2
 have hix : ∃ ix : Nat, IntKind.u64.wrap (bits BinOp.and IntKind.u64 (w : Int) (IntKind.u64.wrap (-(w : Int))) * 285870213051353865) / 288230376151711744 = (ix : Int) ∧ (ix : Int) < 64 ∧ W.cell? ⟨0, ix, none⟩ = some (.int .u8 (t : Int)) := by
  obtain ⟨h3, h4⟩ := deB_at t ht
  refine ⟨2 ^ t * 285870213051353865 % 2 ^ 64 / 2 ^ 58, ?_, Int.ofNat_lt.2 h4, ?_⟩
  ·rw [neg_u64 h0 hw, u64_and_nat _ _ hw (by omega), low_and_neg h hw, IntKind.wrap_u64]
   generalize 2 ^ t = y
   omega
  ·rw [hT _ h4, h3]
 obtain ⟨ix, hix, hlt, hcell⟩ := hix
 go_wp2
 go_ret
 exact ⟨rfl, rfl⟩
def encU (v : Nat) : Array Value := #[.int .u64 (v : Int)]
theorem zzu (v : Nat) : (encU v).size = 1 := rfl
theorem encU_one (v : Nat) : (encU v).all (·.oneCell') = true := by simp [encU, Value.oneCell']
theorem u64_bit {v n : Nat} (hv : v < 18446744073709551616) : (bits BinOp.and IntKind.u64 ((v : Int) / 2 ^ n) 1 == 1) = v.testBit n := by
 have e1 : ((v : Int) / 2 ^ n) = ((v / 2 ^ n : Nat) : Int) := by
  rw [Int.natCast_ediv, Int.natCast_pow]; rfl
 have hlt : v / 2 ^ n < 18446744073709551616 := Nat.lt_of_le_of_lt (Nat.div_le_self _ _) hv
 rw [e1]
 have e2 := u64_and_nat (v / 2 ^ n) 1 hlt (by omega)
 rw [show ((1 : Nat) : Int) = 1 from rfl] at e2
 rw [e2, Nat.and_one_is_mod, Nat.testBit_eq_decide_div_mod_eq]
 rw [Bool.eq_iff_iff]
 simp only [beq_iff_eq, decide_eq_true_eq]
 omega
set_option maxHeartbeats 400000 in
theorem shas_any (A : Option Addr) (k c x n : Nat) (hn : n < 64 * k) (hkb : k ≤ 1099511627776) (B : Nat) (w : World) (hs : SliceOf w B 1 encU A (zqu x k)) :
  Calls Tryz.prog 49 #[.slice A k c, .int .i64 n] w fun e w' => e = .returned (.bool (x.testBit n)) ∧ w' = w := by
 have hj : n / 64 < (zqu x k).length := by rw [zqz]; omega
 obtain ⟨b, off, rfl, hb, hrow⟩ := hs.at_ (by omega)
 have hc := hrow (n / 64) hj 0 _ rfl
 rw [wordsN_get] at hc
 have hc' : w.cell? ⟨b, off + n / 64, none⟩ = some (.int .u64 (wordN x (n / 64) : Nat)) := by rw [Nat.mul_one] at hc; exact hc
 have hk : n / 64 < k := by omega
 have hbit := u64_bit (n := n % 64) (wordN_lt' x (n / 64))
 rw [has_word] at hbit
 clear hc hrow hs
 go_enter Tryz.func49, Tryz.ntmps49
 go_wp2
 go_ret
 exact ⟨rfl, rfl⟩
theorem u64_or_pow {v n : Nat} (hv : v < 18446744073709551616) (hn : n < 64) : bits BinOp.or IntKind.u64 (v : Int) (IntKind.u64.wrap (2 ^ n)) = ((v ||| 2 ^ n : Nat) : Int) := by
 have hlt : 2 ^ n < 18446744073709551616 := Nat.lt_of_lt_of_le (Nat.pow_lt_pow_right (by omega) hn) (Nat.le_refl _)
 have e1 : IntKind.u64.wrap (2 ^ n) = ((2 ^ n : Nat) : Int) := by
  rw [show (2 ^ n : Int) = ((2 ^ n : Nat) : Int) by rw [Int.natCast_pow]; rfl, IntKind.wrap_u64]
  exact Int.emod_eq_of_lt (Int.natCast_nonneg _) (Int.ofNat_lt.2 hlt)
 rw [e1]
 exact u64_or_nat _ _ hv hlt
set_option maxHeartbeats 400000 in
theorem sadd_any (g k c x n base : Nat) (hn : n < 64 * k) (hkb : k ≤ 1099511627776) (w : World) (hs : Own w base 51 1 encU (.slice (some ⟨g, 0, none⟩) k c) (zqu x k)) :
  Calls Tryz.prog 35 #[.slice (some ⟨g, 0, none⟩) k c, .int .i64 n] w fun e w' => e = .returned (.tuple #[]) ∧ Own w' base 51 1 encU (.slice (some ⟨g, 0, none⟩) k c) (zqu (x ||| 2 ^ n) k) ∧ w.grownBy w' (some g) := by
 have hj : n / 64 < (zqu x k).length := by rw [zqz]; omega
 have hc := hs.row zzu (n / 64) hj 0 _ rfl
 rw [wordsN_get, Nat.mul_one] at hc
 have hc' : w.cell? ⟨g, n / 64, none⟩ = some (.int .u64 (wordN x (n / 64) : Nat)) := hc
 have f1 := hs.frozen (n / 64)
 have hk : n / 64 < k := by omega
 have hor := u64_or_pow (n := n % 64) (wordN_lt' x (n / 64)) (by omega)
 clear hc
 go_enter Tryz.func35, Tryz.ntmps35
 go_region
 go_end0
 refine ⟨rfl, ?_, only_drew (zzi (zzk _ _) (.inl rfl) _)⟩
 have o1 := hs.setCell (i := n / 64) (q := 0) (y' := wordN x (n / 64) ||| 2 ^ (n % 64)) (u := .int .u64 ((wordN x (n / 64) ||| 2 ^ (n % 64) : Nat) : Int)) zzu hj (by omega) rfl
 rw [words_add, Nat.mul_one, Nat.add_zero] at o1
 exact o1.drew
end Go.Proofs.YtkedgombccdamaaGreatDoor
namespace Go.Proofs.YtkedgombccdamaaGreatDoor
open Go.RowKit Go.Shelf
set_option linter.unusedVariables false
set_option linter.unusedSimpArgs false
attribute [local go_sem] Oper.semAt_some
theorem each_any (A : Option Addr) (k c : Nat) (w : World) :
  Calls Tryz.prog 33 #[.slice A k c] w fun e w' => e = .returned (.func (.func 50) #[] #[.pointer (some ⟨w.heap.size, 0, none⟩)]) ∧ w' = w.alloc (.cells #[.slice A k c] 92) := by
 go_enter Tryz.func33, Tryz.ntmps33
 go_wp2
 go_ret
 exact ⟨rfl, rfl⟩
abbrev InS (x : Nat) := { n : Nat // x.testBit n = true }
def encI {x : Nat} (r : InS x) : Array Value := #[.int .i64 (r.1 : Int)]
def numsI {x : Nat} (pre : List (InS x)) : List Nat := pre.map (·.1)
theorem numsI_snoc {x : Nat} (pre : List (InS x)) (r : InS x) : numsI (pre ++ [r]) = numsI pre ++ [r.1] := by simp [numsI]
theorem numsI_length {x : Nat} (pre : List (InS x)) : (numsI pre).length = pre.length := by simp [numsI]
def KpS (b : Nat) (W W' : World) : Prop := W'.heap[b]? = W.heap[b]? ∧ W'.heap[0]? = W.heap[0]?
theorem KpS.trans {b : Nat} {A B C : World} (h : KpS b A B) (k : KpS b B C) : KpS b A C := ⟨k.1.trans h.1, k.2.trans h.2⟩
theorem KpS.tab {b : Nat} {W W' : World} (h : KpS b W W') (hT : TabOk W) : TabOk W' := fun i hi => (World.cell?_of_block (w := W) h.2).trans (hT i hi)
theorem u64_clear {y : Nat} (hy : y < 18446744073709551616) (h0 : 0 < y) : bits BinOp.and IntKind.u64 (y : Int) ((y : Int) - 1) = ((y &&& (y - 1) : Nat) : Int) := by
 rw [show (y : Int) - 1 = ((y - 1 : Nat) : Int) by omega]
 exact u64_and_nat _ _ hy (by omega)
set_option maxRecDepth 100000 in
set_option maxHeartbeats 2000000 in
theorem each_iter (x k c b off gx n l : Nat) (J Jx : List (InS x) → World → Prop) (W : World) (hk : k ≤ 1099511627776) (hx : below x (64 * k)) (hgx : Blk W gx 92 #[.slice (some ⟨b, off, none⟩) k c]) (hs : ∀ i (h : i < (zqu x k).length), RowAt W b (off + i) (encU (zqu x k)[i])) (hT : TabOk W) (hJ : AbidesFrom W.heap.size J)
  (hY : ∀ pre r W1, J pre W1 → pre.length < 64 * k → YieldAt Fence.wide (n - 1) Tryz.prog l (encI r) W1 fun e W' =>
   (e = .returned (.bool true) ∧ J (pre ++ [r]) W' ∧ KpS b W1 W') ∨ (e = .returned (.bool false) ∧ Jx (pre ++ [r]) W')) (h0 : J [] W) :
  CallsIn Fence.wide n Tryz.prog 50 #[.func (.yield l) #[] #[], .pointer (some ⟨gx, 0, none⟩)] W fun e W' => (∃ v, e = .returned v) ∧ ((∃ xs, numsI xs = zzj x (64 * k) ∧ J xs W') ∨ (∃ pre, numsI pre <+: zzj x (64 * k) ∧ Jx pre W')) := by
 refine callsIn_of_wp Tryz.func50 rfl trivial ?_ rfl
 simp only [Tryz.ntmps50, List.size_toArray, List.length_cons, List.length_nil, Nat.reduceAdd, Nat.reduceSub, Array.replicate_succ, Array.replicate_zero, List.push_toArray, List.append_toArray, List.nil_append, List.cons_append]
 have c1 : W.cell? ⟨gx, 0, none⟩ = some (.slice (some ⟨b, off, none⟩) k c) := hgx.cellv rfl
 gi_wp2
 clear c1 hgx
 gi_loopw [7] (fun i wr => ∃ (j : Nat) (pre : List (InS x)), j ≤ k ∧ i = .int .i64 j ∧ Hid (numsI pre = zzj x (64 * j)) ∧ J pre wr ∧ TabOk wr ∧ (∀ i (h : i < (zqu x k).length), RowAt wr b (off + i) (encU (zqu x k)[i]))) (fun i _ => k - (intOf i).toNat)
 case atStart => exact ⟨0, [], by omega, rfl, Lib.hid rfl, h0, hT, hs⟩
 case round =>
  clear hs hT h0
  obtain ⟨j, pre, hj, rfl, hpre, hJ0, hT, hs⟩ := hrel
  by_cases hlt : j < k
  ·have hltI : (j : Int) < k := by omega
   have hc := hs j (by rw [zqz]; exact hlt) 0 _ rfl
   rw [wordsN_get] at hc
   have hc' : wr.cell? ⟨b, off + j, none⟩ = some (.int .u64 (wordN x j : Nat)) := hc
   clear hc
   gi_wp2
   gi_loopw [4] (fun v w2 => ∃ (y t : Nat) (pre : List (InS x)), v = .int .u64 y ∧ y < 18446744073709551616 ∧ t ≤ 64 ∧ Hid (∀ i, y.testBit i = (decide (t ≤ i) && (wordN x j).testBit i)) ∧ Hid (numsI pre = zzj x (64 * j + t)) ∧ J pre w2 ∧ TabOk w2 ∧ (∀ i (h : i < (zqu x k).length), RowAt w2 b (off + i) (encU (zqu x k)[i]))) (fun v _ => (intOf v).toNat)
   case atStart => exact ⟨wordN x j, 0, pre, rfl, wordN_lt' _ _, by omega, Lib.hid (fun i => by simp), hpre, hJ0, hT, hs⟩
   case round =>
    clear hpre hJ0 hT hs hc'
    obtain ⟨y, t, pre, rfl, hy, ht, Hy, hpre, hJ0, hT, hs⟩ := hrel
    by_cases hy0 : y = 0
    ·subst hy0
     have hpre2 : Hid (numsI pre = zzj x (64 * (j + 1))) := Lib.hid (by
      rw [hpre.out, show 64 * (j + 1) = (64 * j + t) + (64 - t) by omega]
      refine (bitsTo_skip x (64 * j + t) (64 - t) ?_).symm
      intro i h1 h2
      have h3 := Hy.out (i - 64 * j)
      rw [Nat.zero_testBit, zym] at h3
      have e1 : t ≤ i - 64 * j := by omega
      have e2 : i - 64 * j < 64 := by omega
      have e3 : 64 * j + (i - 64 * j) = i := by omega
      simp only [e1, e2, e3, decide_true, Bool.true_and] at h3
      exact h3.symm)
     gi_wp2
     go_roundw
     case rel => exact ⟨j + 1, pre, by omega, by go_num, hpre2, hJ0, hT, hs⟩
     case measure => simp [intOf]; omega
    ·obtain ⟨t', hlow⟩ := low_exists y hy0
     have hb0 := hlow.1
     rw [Hy.out, Bool.and_eq_true, decide_eq_true_eq, zym, Bool.and_eq_true, decide_eq_true_eq] at hb0
     obtain ⟨htt, ht64, hbit⟩ := hb0
     have hskip : zzj x (64 * j + t') = zzj x (64 * j + t) := by
      rw [show 64 * j + t' = (64 * j + t) + (t' - t) by omega]
      refine bitsTo_skip x (64 * j + t) (t' - t) ?_
      intro i h1 h2
      have h3 := hlow.2 (i - 64 * j) (by omega)
      rw [Hy.out, zym] at h3
      have e1 : t ≤ i - 64 * j := by omega
      have e2 : i - 64 * j < 64 := by omega
      have e3 : 64 * j + (i - 64 * j) = i := by omega
      simp only [e1, e2, e3, decide_true, Bool.true_and] at h3
      exact h3
     have Hn : Hid (numsI (pre ++ [(⟨64 * j + t', hbit⟩ : InS x)]) = zzj x (64 * j + (t' + 1))) := Lib.hid (by
      rw [numsI_snoc, hpre.out, ← hskip, ← Nat.add_assoc, zyd, hbit, if_pos rfl])
     have hlen : pre.length < 64 * k := by
      have h1 := bitsTo_length x (64 * j + t)
      rw [← hpre.out, numsI_length] at h1
      have h2 : 64 * j + t' < 64 * k := hx _ hbit
      omega
     have Hc : Hid (∀ i, (y &&& (y - 1)).testBit i = (decide (t' + 1 ≤ i) && (wordN x j).testBit i)) := Lib.hid (fun i => by
      rw [low_and_pred hlow, Hy.out]
      by_cases h1 : i < t'
      ·have h2 := hlow.2 i h1
       rw [Hy.out] at h2
       have e1 : ¬ t' + 1 ≤ i := by omega
       rw [h2]
       simp [e1]
      ·by_cases h2 : i = t'
       ·have e1 : ¬ t' + 1 ≤ i := by omega
        rw [decide_eq_false e1, decide_eq_true h2]
        simp
       ·have e1 : t ≤ i := by omega
        have e2 : t' + 1 ≤ i := by omega
        simp [e1, e2, h2])
     obtain ⟨fn, tmps, assign, body, hyy, hR⟩ := hY pre ⟨64 * j + t', hbit⟩ wr hJ0 hlen
     have hcast : ((64 * j + t' : Nat) : Int) = 64 * (j : Int) + t' := by omega
     simp only [encI, hcast] at hyy
     have hneI : ((y : Int) != 0) = true := by rw [bne_iff_ne]; omega
     have hclr := u64_clear hy (by omega)
     have hlt2 : y &&& (y - 1) < y := Nat.lt_of_le_of_lt Nat.and_le_right (by omega)
     obtain ⟨pre2, hp2⟩ : ∃ pre2, pre2 = pre ++ [(⟨64 * j + t', hbit⟩ : InS x)] := ⟨_, rfl⟩
     rw [← hp2] at hR Hn
     have Hlow := Lib.hid hlow
     have hy1 : (1 : Int) ≤ y := by omega
     have hy' : y < 2 ^ 64 := hy
     clear hcast hp2 hlow hskip hlen hpre hJ0 Hy hy0 hbit
     gi_wp2_with (refine ⟨trivial, fun h => by simp [Fence.wide] at h, ?_⟩; refine (callsIn_wide.2 (tz_any y t' hy' Hlow.out _ hT)).mono ?_; rintro e w3 ⟨rfl, rfl⟩)
     refine ⟨fun h => by simp [Fence.wide] at h, ?_⟩
     refine hR.mono ?_
     rintro e W3 (⟨rfl, hJ4, hk4⟩ | ⟨rfl, hJx4⟩)
     ·gi_wp2
      go_roundw
      case rel => exact ⟨y &&& (y - 1), t' + 1, pre2, rfl, by omega, by omega, Hc, Hn, hJ4, hk4.tab hT, fun i h => (hs i h).keep hk4.1⟩
      case measure => simp only [intOf, Int.toNat_natCast]; exact hlt2
     ·gi_wp2
      refine bodyPost_ret (results_none rfl _ _ _) rfl ?_
      refine ⟨⟨_, rfl⟩, .inr ⟨pre2, ?_, hJx4⟩⟩
      rw [Hn.out, show 64 * k = 64 * j + (t' + 1) + (64 * k - (64 * j + (t' + 1))) by omega]
      exact bitsTo_prefix _ _ _
  ·obtain rfl : j = k := by omega
   gi_wp2
   go_end0
   exact ⟨⟨_, rfl⟩, .inl ⟨pre, hpre.out, hJ0⟩⟩
theorem each_stops (x k c b off n gx : Nat) (w : World) (hk : k ≤ 1099511627776) (hx : below x (64 * k)) (hgx : Blk w gx 92 #[.slice (some ⟨b, off, none⟩) k c]) (hb : b < w.heap.size) (hs : ∀ i (h : i < (zqu x k).length), RowAt w b (off + i) (encU (zqu x k)[i])) (hT : TabOk w) :
  SeqStopsK Fence.wide n Tryz.prog 50 #[.pointer (some ⟨gx, 0, none⟩)] (encI (x := x)) (KpS b) (fun xs => numsI xs = zzj x (64 * k)) (fun pre => numsI pre <+: zzj x (64 * k)) (64 * k) w :=
 fun l J Jx W hW hJ hJx hY h0 => each_iter x k c b off gx n l J Jx W hk hx (zqb hgx hW) (fun i h => (hs i h).keep (hW.block b hb)) (hT.then_ hT.size hW) hJ hY h0
end Go.Proofs.YtkedgombccdamaaGreatDoor
namespace Go.Proofs.YtkedgombccdamaaGreatDoor
set_option linter.unusedVariables false
set_option linter.unusedSimpArgs false
section
variable {α β : Type} [DecidableEq α] [DecidableEq β]
theorem idx_mem {l r : List α} {x : α} (h : x ∈ l) : (l ++ r).idxOf x = l.idxOf x := by rw [List.idxOf_append, if_pos h]
theorem idx_not {l r : List α} {x : α} (h : ¬ x ∈ l) : (l ++ r).idxOf x = l.length + r.idxOf x := by rw [List.idxOf_append, if_neg h]; omega
def zza (f : Nat → α) : Nat → List α
 | 0 => []
 | n + 1 => if f n ∈ zza f n then zza f n else zza f n ++ [f n]
def num (f : Nat → α) (b : Nat) : Nat := (zza f (b + 1)).idxOf (f b)
theorem zxc (f : Nat → α) (n : Nat) : zza f (n + 1) = if f n ∈ zza f n then zza f n else zza f n ++ [f n] := rfl
theorem mem_firsts (f : Nat → α) (n : Nat) (x : α) : x ∈ zza f n ↔ ∃ b, b < n ∧ f b = x := by
 induction n with
 | zero => simp [zza]
 | succ n ih =>
   rw [zxc]
   constructor
   ·intro h
    split at h
    ·obtain ⟨b, hb, e⟩ := ih.1 h; exact ⟨b, by omega, e⟩
    ·rw [List.mem_append] at h
     rcases h with h | h
     ·obtain ⟨b, hb, e⟩ := ih.1 h; exact ⟨b, by omega, e⟩
     ·exact ⟨n, by omega, (List.mem_singleton.1 h).symm⟩
   ·rintro ⟨b, hb, e⟩
    rcases Nat.lt_or_ge b n with h | h
    ·have := ih.2 ⟨b, h, e⟩
     split
     ·exact this
     ·exact List.mem_append_left _ this
    ·have : b = n := by omega
     subst this
     split
     ·rename_i h1; rwa [e] at h1
     ·simp [e]
theorem firsts_prefix (f : Nat → α) {n m : Nat} (h : n ≤ m) : ∃ r, zza f m = zza f n ++ r := by
 induction m with
 | zero => have : n = 0 := by omega
           subst this; exact ⟨[], by simp⟩
 | succ m ih =>
   rcases Nat.lt_or_ge m n with h1 | h1
   ·have : n = m + 1 := by omega
    subst this; exact ⟨[], by simp⟩
   ·obtain ⟨r, hr⟩ := ih h1
    rw [zxc]
    split
    ·exact ⟨r, hr⟩
    ·exact ⟨r ++ [f m], by rw [hr, List.append_assoc]⟩
theorem idxOf_firsts (f : Nat → α) {n m : Nat} (h : n ≤ m) (x : α) (hx : x ∈ zza f n) : (zza f m).idxOf x = (zza f n).idxOf x := by
 obtain ⟨r, hr⟩ := firsts_prefix f h
 rw [hr, idx_mem hx]
theorem zyf (f : Nat → α) {b n : Nat} (h : b < n) : f b ∈ zza f n := (mem_firsts f n _).2 ⟨b, h, rfl⟩
theorem num_eq (f : Nat → α) {b n : Nat} (h : b < n) : num f b = (zza f n).idxOf (f b) := (idxOf_firsts f h (f b) (zyf f (by omega))).symm
theorem num_lt (f : Nat → α) {b n : Nat} (h : b < n) : num f b < (zza f n).length := by
 rw [num_eq f h]; exact List.idxOf_lt_length_of_mem (zyf f h)
theorem firsts_length_le (f : Nat → α) (n : Nat) : (zza f n).length ≤ n := by
 induction n with
 | zero => simp [zza]
 | succ n ih =>
   rw [zxc]
   split
   ·omega
   ·simp; omega
theorem num_iff (f : Nat → α) (b c : Nat) : num f b = num f c ↔ f b = f c := by
 have hb := num_eq f (show b < b + c + 1 by omega)
 have hc := num_eq f (show c < b + c + 1 by omega)
 rw [hb, hc]
 constructor
 ·intro h
  have h1 := zyf f (show b < b + c + 1 by omega)
  have h2 := zyf f (show c < b + c + 1 by omega)
  have e1 := List.getElem_idxOf (List.idxOf_lt_length_of_mem h1)
  have e2 := List.getElem_idxOf (List.idxOf_lt_length_of_mem h2)
  rw [← e1, ← e2]
  simp only [h]
 ·intro h; rw [h]
theorem firsts_kernel (f : Nat → α) (g : Nat → β) (N : Nat) (h : ∀ b c, b < N → c < N → (f b = f c ↔ g b = g c)) :
  ∀ n, n ≤ N → (zza f n).length = (zza g n).length ∧ ∀ b, b < n → (zza f n).idxOf (f b) = (zza g n).idxOf (g b) := by
 intro n
 induction n with
 | zero => intro _; exact ⟨rfl, fun b hb => by omega⟩
 | succ n ih =>
   intro hn
   obtain ⟨h1, h2⟩ := ih (by omega)
   have hm : f n ∈ zza f n ↔ g n ∈ zza g n := by
    rw [mem_firsts, mem_firsts]
    constructor
    ·rintro ⟨b, hb, e⟩; exact ⟨b, hb, (h b n (by omega) (by omega)).1 e⟩
    ·rintro ⟨b, hb, e⟩; exact ⟨b, hb, (h b n (by omega) (by omega)).2 e⟩
   rw [zxc, zxc]
   by_cases hf : f n ∈ zza f n
   ·have hg := hm.1 hf
    rw [if_pos hf, if_pos hg]
    refine ⟨h1, fun b hb => ?_⟩
    rcases Nat.lt_or_ge b n with hlt | hge
    ·exact h2 b hlt
    ·have : b = n := by omega
     subst this
     obtain ⟨c, hc, e⟩ := (mem_firsts f b _).1 hf
     have e2 := (h c b (by omega) (by omega)).1 e
     rw [← e, ← e2]
     exact h2 c hc
   ·have hg : ¬ g n ∈ zza g n := fun h => hf (hm.2 h)
    rw [if_neg hf, if_neg hg]
    refine ⟨by simp [h1], fun b hb => ?_⟩
    rcases Nat.lt_or_ge b n with hlt | hge
    ·rw [idx_mem (zyf f hlt), idx_mem (zyf g hlt)]
     exact h2 b hlt
    ·have : b = n := by omega
     subst this
     rw [idx_not hf, idx_not hg, h1]
     simp
theorem num_kernel (f : Nat → α) (g : Nat → β) (N : Nat) (h : ∀ b c, b < N → c < N → (f b = f c ↔ g b = g c)) (b : Nat) (hb : b < N) : num f b = num g b := by
 have := (firsts_kernel f g N h N (Nat.le_refl _)).2 b hb
 rw [num_eq f hb, num_eq g hb, this]
theorem many_kernel (f : Nat → α) (g : Nat → β) (N : Nat) (h : ∀ b c, b < N → c < N → (f b = f c ↔ g b = g c)) : (zza f N).length = (zza g N).length :=
 (firsts_kernel f g N h N (Nat.le_refl _)).1
theorem num_new (f : Nat → α) (b : Nat) (h : ¬ f b ∈ zza f b) : num f b = (zza f b).length := by
 unfold num
 rw [zxc, if_neg h, idx_not h]
 simp
theorem num_old (f : Nat → α) (b : Nat) (h : f b ∈ zza f b) : num f b = (zza f b).idxOf (f b) := by
 unfold num
 rw [zxc, if_pos h]
end
section
variable {α : Type} [DecidableEq α]
def fb (f : Nat → α) : Nat → List Nat
 | 0 => []
 | n + 1 => if f n ∈ zza f n then fb f n else fb f n ++ [n]
end
def sig (l : List BSet) (b : Nat) : List Bool := l.map fun s => s.getLsbD b
def cls (l : List BSet) (b : Nat) : Int := (num (sig l) b : Int)
def many (l : List BSet) : Nat := (zza (sig l) 256).length
def keyN (g : Nat → Int) (s : BSet) (b : Nat) : Int × Bool := (g b, s.getLsbD b)
theorem sig_snoc (l : List BSet) (s : BSet) (b c : Nat) : sig (l ++ [s]) b = sig (l ++ [s]) c ↔ sig l b = sig l c ∧ s.getLsbD b = s.getLsbD c := by
 simp [sig]
theorem key_kernel (l : List BSet) (s : BSet) (b c : Nat) : keyN (cls l) s b = keyN (cls l) s c ↔ sig (l ++ [s]) b = sig (l ++ [s]) c := by
 rw [sig_snoc]
 simp only [keyN, Prod.mk.injEq, cls, Int.natCast_inj, num_iff]
theorem cls_snoc (l : List BSet) (s : BSet) (b : Nat) : cls (l ++ [s]) b = (num (keyN (cls l) s) b : Int) := by
 unfold cls
 rw [num_kernel (sig (l ++ [s])) (keyN (cls l) s) (b + 1) (fun _ _ _ _ => (key_kernel l s _ _).symm) b (by omega)]
 rfl
theorem many_snoc (l : List BSet) (s : BSet) : many (l ++ [s]) = (zza (keyN (cls l) s) 256).length :=
 many_kernel _ _ _ fun _ _ _ _ => (key_kernel l s _ _).symm
theorem cls_nil (b : Nat) : cls [] b = 0 := by
 have : num (sig []) b = num (sig []) 0 := (num_iff _ _ _).2 rfl
 unfold cls
 rw [this]
 rfl
theorem firsts_const (n : Nat) : zza (sig []) (n + 1) = [[]] := by
 induction n with
 | zero => rfl
 | succ n ih =>
   rw [zxc, ih, if_pos (by simp [sig])]
theorem many_nil : many [] = 1 := by
 unfold many
 rw [firsts_const 255]
 rfl
theorem many_le (l : List BSet) : many l ≤ 256 := firsts_length_le _ _
theorem cls_lt (l : List BSet) {b : Nat} (h : b < 256) : cls l b < many l := by
 have := num_lt (sig l) h
 unfold cls many
 omega
theorem cls_ge (l : List BSet) (b : Nat) : 0 ≤ cls l b := by unfold cls; omega
def clsC (g : Nat → Int) : Array Value := intsC .i64 ((List.range 256).map g)
theorem zzz (g : Nat → Int) : (clsC g).size = 256 := by simp [clsC, intsC_size]
theorem clsC_at (g : Nat → Int) (i : Nat) (h : i < 256) : (clsC g)[i]? = some (.int .i64 (g i)) := by
 unfold clsC
 rw [intsC_at _ _ i (by simpa using h)]
 simp
theorem clsC_ext {g h : Nat → Int} (e : ∀ b, b < 256 → g b = h b) : clsC g = clsC h := by
 unfold clsC
 congr 1
 apply List.map_congr_left
 intro b hb
 exact e b (by simpa using hb)
def putN (g : Nat → Int) (i : Nat) (v : Int) (b : Nat) : Int := if b = i then v else g b
theorem clsC_set (g : Nat → Int) (i : Nat) (v : Int) : (clsC g).setIfInBounds i (.int .i64 v) = clsC (putN g i v) := by
 unfold clsC
 rw [intsC_set]
 congr 1
 apply List.ext_getElem
 ·simp
 ·intro j h1 h2
  simp only [List.getElem_set, List.getElem_map, List.getElem_range, putN]
  by_cases e : i = j
  ·subst e; simp
  ·rw [if_neg e, if_neg (fun h => e h.symm)]
theorem clsC_oneCell (g : Nat → Int) : (clsC g).all (·.oneCell') = true := by
 unfold clsC intsC
 simp [Value.oneCell']
def upto (n : Nat) (new old : Nat → Int) (b : Nat) : Int := if b < n then new b else old b
theorem upto_zero (new old : Nat → Int) : upto 0 new old = old := by funext b; simp [upto]
theorem upto_ge (new old : Nat → Int) {n b : Nat} (h : n ≤ b) : upto n new old b = old b := by unfold upto; rw [if_neg (by omega)]
theorem upto_all (new old : Nat → Int) : clsC (upto 256 new old) = clsC new := clsC_ext fun b hb => by unfold upto; rw [if_pos hb]
theorem upto_put (new old : Nat → Int) (n : Nat) (v : Int) (h : v = new n) : putN (upto n new old) n v = upto (n + 1) new old := by
 funext b
 unfold putN upto
 by_cases e : b = n
 ·subst e; simp [h]
 ·rw [if_neg e]
  by_cases h2 : b < n
  ·rw [if_pos h2, if_pos (by omega)]
  ·rw [if_neg h2, if_neg (by omega)]
attribute [irreducible] clsC
end Go.Proofs.YtkedgombccdamaaGreatDoor
namespace Go.Proofs.YtkedgombccdamaaGreatDoor
open Go.RowKit Go.Maps Go.WideMaps
set_option linter.unusedVariables false
set_option linter.unusedSimpArgs false
theorem mapM_lits {P : Program} {e : TypeId} {q : IntKind} (he : P.underlying e = some (.int q)) (d : Nat) (xs : List Int) (hw : ∀ x ∈ xs, (Lit.int q x).wf = true) :
  ∀ is : List Nat, (∀ i ∈ is, i < xs.length) → (is.mapM fun i => P.keyLits (d + 1) e (((xs.map (Value.int q)).drop (i * 1)).take 1)) = some (is.map fun i => [Lit.int q (xs.getD i 0)]) := by
 intro is
 induction is with
 | nil => intro _; rfl
 | cons i is ih =>
   intro h
   have hi : i < xs.length := h i (by simp)
   have e1 : ((xs.map (Value.int q)).drop (i * 1)).take 1 = [.int q xs[i]] := by
    rw [Nat.mul_one, List.drop_eq_getElem_cons (by simpa using hi)]
    simp
   have e2 : xs.getD i 0 = xs[i] := by simp [hi]
   have hx := hw xs[i] (List.getElem_mem hi)
   rw [List.mapM_cons, ih fun j hj => h j (by simp [hj]), e1]
   simp [Program.keyLits, he, hx, hi]
theorem flatten_ones {α β : Type} (f : α → β) : ∀ l : List α, (l.map fun i => [f i]).flatten = l.map f
 | [] => rfl
 | x :: l => by simp [flatten_ones f l]
theorem keyOf_ints {P : Program} {k e : TypeId} {q : IntKind} {n : Nat} (A : ArrKey P k e n) (he : P.underlying e = some (.int q)) (hsz : ∃ m, P.types.size = m + 1) (xs : List Int) (hn : xs.length = n) (hw : ∀ x ∈ xs, (Lit.int q x).wf = true) :
  keyOf P k (.agg (intsC q xs)) = some (.string (keyBytes (xs.map (Lit.int q)))) := by
 have hkt := A.keyType hsz
 obtain ⟨m, hm⟩ := hsz
 have hc : (Value.agg (intsC q xs)).cells.toList = xs.map (Value.int q) := by simp [Value.cells, intsC]
 have e1 : ((List.range n).map fun i => [Lit.int q (xs.getD i 0)]).flatten = xs.map (Lit.int q) := by
  rw [flatten_ones, ← hn]
  apply List.ext_getElem
  ·simp
  ·intro i h1 h2
   have : i < xs.length := by simpa using h2
   simp [this]
 unfold keyOf
 simp only [A.hu]
 rw [if_pos (by simp [hkt, Value.formed, A.hu, A.size, intsC, hn]), hm, hc]
 unfold Program.keyLits
 simp only [A.hu]
 rw [if_pos (by rw [A.size]; simp [hn]), A.one, mapM_lits he m xs hw _ (fun i hi => by rw [List.mem_range] at hi; omega)]
 simp only [Option.map_some, e1]
theorem intsC_inj {k : IntKind} {l l' : List Int} (h : intsC k l = intsC k l') : l = l' := by
 have h1 := congrArg Array.toList h
 simp only [intsC] at h1
 exact (List.map_inj_right (f := Value.int k) (by intro a b e; injection e)).1 h1
structure KeyEnc (P : Program) (k : TypeId) (κ : Type) (ok : κ → Prop) (kv : κ → Value) (lit : κ → Lit) : Prop where
 law : Keyed P k
 key : ∀ x, ok x → keyOf P k (kv x) = some (lit x)
 inj : ∀ x y, kv x = kv y → x = y
section
variable {P : Program} {k e : TypeId} {κ : Type} {ok : κ → Prop} {kv : κ → Value} {lit : κ → Lit}
theorem KeyEnc.lit_ne (K : KeyEnc P k κ ok kv lit) {x y : κ} (hx : ok x) (hy : ok y) (h : y ≠ x) : lit y ≠ lit x := fun e => h (K.inj _ _ (K.law.inj (K.key y hy) (e ▸ K.key x hx)))
theorem KeyEnc.isKey (K : KeyEnc P k κ ok kv lit) {x : κ} (hx : ok x) : WideAt.IsKeyLit (lit x) := K.law.key (K.key x hx)
def IntMap (P : Program) (k e : TypeId) (ok : κ → Prop) (lit : κ → Lit) (w : World) (b n : Nat) (m : κ → Option Int) (cnt : Nat) : Prop :=
 ∃ D : DataW Unit, w.ownsMap P k (plainElem P e) b n D ∧ (∀ x, ok x → Maps.has D (lit x) = (m x).isSome) ∧ (∀ x, ok x → D.atKey (lit x) (.lit (.int .i64 0)) = .lit (.int .i64 ((m x).getD 0))) ∧ Maps.size D = cnt
theorem IntMap.new (K : KeyEnc P k κ ok kv lit) (w : World) {g : Nat} (hg : g = w.heap.size) : IntMap P k e ok lit (w.alloc (.map #[] 0)) g 0 (fun _ => none) 0 := by
 subst hg
 exact ⟨_, World.ownsMap_made w P k _, fun x _ => rfl, fun x _ => rfl, rfl⟩
theorem IntMap.lt {w : World} {b n cnt : Nat} {m : κ → Option Int} (h : IntMap P k e ok lit w b n m cnt) : b < w.heap.size := by
 obtain ⟨D, h1, _⟩ := h; exact h1.lt
theorem IntMap.then_ {w w' : World} {b n cnt : Nat} {m : κ → Option Int} (h : IntMap P k e ok lit w b n m cnt) (hb : Below w.heap.size w w') : IntMap P k e ok lit w' b n m cnt := by
 obtain ⟨D, h1, h2⟩ := h
 exact ⟨D, h1.kept (zzq hb none) (by simp), h2⟩
theorem IntMap.grown {w w' : World} {b n cnt j : Nat} {m : κ → Option Int} (h : IntMap P k e ok lit w b n m cnt) (hg : w.grownBy w' (some j)) (hne : b ≠ j) : IntMap P k e ok lit w' b n m cnt := by
 obtain ⟨D, h1, h2⟩ := h
 exact ⟨D, h1.kept hg (by simpa using hne), h2⟩
theorem IntMap.alloc {w : World} {b n cnt : Nat} {m : κ → Option Int} (h : IntMap P k e ok lit w b n m cnt) (o : Obj) : IntMap P k e ok lit (w.alloc o) b n m cnt := by
 obtain ⟨D, h1, h2⟩ := h
 exact ⟨D, h1.alloc o, h2⟩
theorem IntMap.more {w : World} {b n n' cnt : Nat} {m : κ → Option Int} (h : IntMap P k e ok lit w b n m cnt) (hn : n ≤ n') : IntMap P k e ok lit w b n' m cnt := by
 obtain ⟨D, h1, h2⟩ := h
 exact ⟨D, h1.mono hn, h2⟩
def putM [DecidableEq κ] (m : κ → Option Int) (x : κ) (v : Int) (y : κ) : Option Int := if y = x then some v else m y
section
variable {ops : Array Oper} {rest : List Oper} {o : Oper} {a : Act} {Q : Exit → Act → World → Prop} {w : World} {t : TypeId} {b n cnt : Nat} {mf : κ → Option Int}
theorem wl_map_ok (K : KeyEnc P k κ ok kv lit) (ht : P.underlying t = some (.map k e)) (he : P.underlying e = some (.int .i64)) (hz : (zeroValue e).run P w = .ok (.int .i64 0) w)
  (h : IntMap P k e ok lit w b n mf cnt) (hg : o.guard = none) (m x : Operand) (hop : o.op = Op.lookup t m x true) (hm : a.eval m = .map (some b)) (y : κ) (hy : ok y) (hx : a.eval x = kv y)
  (hK : wpList P ops Q rest (a.put o.dst (.tuple #[.int .i64 ((mf y).getD 0), .bool (mf y).isSome])) w) : wpList P ops Q (o :: rest) a w := by
 obtain ⟨D, h1, h2, h3, h4⟩ := h
 refine wpList_lookup_own_ok_int w hg m x t hop k e .i64 K.law ht he hz b n D hm h1 (kv y) (lit y) hx (K.key y hy) fun c hc _ => ?_
 rw [h3 y hy] at hc
 rw [h2 y hy]
 injection hc with hc
 injection hc with _ hc
 rw [← hc]
 exact hK
theorem wl_map_len (ht : P.underlying t = some (.map k e)) (h : IntMap P k e ok lit w b n mf cnt) (hg : o.guard = none) (m : Operand)
  (hop : o.op = Op.call { callee := Callee.builtin Builtin.len, args := #[m], argTypes := #[t] }) (hm : a.eval m = .map (some b))
  (hK : wpList P ops Q rest (a.put o.dst (.int .i64 cnt)) w) : wpList P ops Q (o :: rest) a w := by
 obtain ⟨D, h1, h2, h3, rfl⟩ := h
 exact wpList_len_own w hg m t hop k e ht _ b n D hm h1 hK
theorem wl_map_put [DecidableEq κ] (K : KeyEnc P k κ ok kv lit) (ht : P.underlying t = some (.map k e)) (he : P.underlying e = some (.int .i64))
  (h : IntMap P k e ok lit w b n mf cnt) (hn : n < maxLen) (hg : o.guard = none) (m x v : Operand) (hop : o.op = Op.mapUpdate t m x v) (hm : a.eval m = .map (some b)) (y : κ) (hy : ok y) (hx : a.eval x = kv y)
  (c : Int) (hv : a.eval v = .int .i64 c) (hc : (Lit.int .i64 c).wf = true)
  (hK : ∀ w', IntMap P k e ok lit w' b (n + 1) (putM mf y c) (if (mf y).isSome then cnt else cnt + 1) → w.grownBy w' (some b) → wpList P ops Q rest (a.put o.dst undef) w') : wpList P ops Q (o :: rest) a w := by
 obtain ⟨D, h1, h2, h3, h4⟩ := h
 refine wpList_mapUpdate_own w hg m x v t hop k e K.law ht _ b n D hm h1 hn (kv y) (.int .i64 c) (lit y) hx hv (K.key y hy) _ [] (plainElem_int he hc) fun w' h5 h6 => hK w' ?_ h6
 refine ⟨_, h5, fun z hz => ?_, fun z hz => ?_, ?_⟩
 ·by_cases e1 : z = y
  ·subst e1
   rw [Maps.has_put_same h1.isMap (K.isKey hy)]
   simp [putM]
  ·rw [Maps.has_put_other (K.lit_ne hy hz e1), h2 z hz]
   simp [putM, e1]
 ·by_cases e1 : z = y
  ·subst e1
   rw [Maps.atKey_put_same h1.isMap (K.isKey hy)]
   simp [putM]
  ·rw [Maps.atKey_put_other (K.lit_ne hy hz e1), h3 z hz]
   simp [putM, e1]
 ·rw [Maps.size_put (h1.tidy K.law), h2 y hy, h4]
end
end
theorem types_pos : ∃ m, Tryz.prog.types.size = m + 1 := ⟨Tryz.prog.types.size - 1, by have : 0 < Tryz.prog.types.size := of_decide_eq_true (by kernel_rfl); omega⟩
theorem laid_out : laidOutB Tryz.prog = true := by kernel_rfl
theorem zero_int (w : World) : (zeroValue 3).run Tryz.prog w = .ok (.int .i64 0) w := by kernel_rfl
end Go.Proofs.YtkedgombccdamaaGreatDoor
