/- Part 9 of a proof; packed: the texts that it was made of follow one another. No condition beyond those named in each lemma. -/
import Derived.Test.YtkedgombccdamaaDoorPf1
import Derived.Test.YtkedgombccdamaaDoorPf2
import Derived.Test.YtkedgombccdamaaDoorPf5
import Derived.Test.YtkedgombccdamaaDoorPf7
import Derived.Test.YtkedgombccdamaaDoorPf8
import Derived.Test.YtkedgombccdamaaDoorRows
import Derived.Below
import Derived.ChangeOld
import Derived.Deep.Slices
import Derived.DeepKeys4
import Derived.LoopIn
import Derived.LoopNIn
import Derived.Maps.OwnOps
import Derived.Maps.OwnSet
import Derived.OpenShut
import Derived.OrdersIn
import Derived.OwnWalkIn
import Derived.ProofKit
import Derived.RangeFuncBound
import Derived.RangeFuncCalls
import Derived.RangeFuncFrom
import Derived.RangeFuncLeaves
import Derived.RangeFuncNested
import Derived.Shelf.Abstract
import Derived.Shelf.RegionOpen
import Derived.ShutString
import Derived.SizedLaws
import Derived.Sort.CutIn
import Derived.TacticsInMore
import Derived.WideKeyPair
namespace Go.Proofs.YtkedgombccdamaaDoor
set_option linter.unusedVariables false
set_option linter.unusedSimpArgs false
namespace Ere
def inn (p : ByteArray) : Nat → Option (Nat → Res Nd)
  | 0 => none
  | d + 1 => some (patR p d)
def alF (p : ByteArray) (d n i : Nat) (l : List Nd) : Res Nd := altR p (decide (d = 64)) (pieceR p (inn p d)) n i l
def alR (p : ByteArray) (d i : Nat) : Res Nd := alF p d (p.size + 2) i []
theorem patR_al (p : ByteArray) (d i : Nat) : patR p d i = patL p (alR p d) (p.size + 2) i [] := by
  cases d <;> rfl
def Deep (r : Res Nd) : Prop := ∃ x, r = .fault 47 x
def ScB (p : ByteArray) (i j : Nat) (L : Int) (c h : Nat) : Prop := ∀ n M : Int, L ≤ M → Bs p i n L M = Bs p j (n + c) L (max M (L + h))
theorem ScB.trans {p : ByteArray} {i j k : Nat} {L : Int} {c1 c2 h1 h2 : Nat} (a : ScB p i j L c1 h1) (b : ScB p j k L c2 h2) : ScB p i k L (c1 + c2) (max h1 h2) := fun n M hM => by
  rw [a n M hM, b _ _ (by omega)]
  congr 1 <;> omega
theorem ScB.of_eq {p : ByteArray} {i j : Nat} {L : Int} (h : ∀ n M, Bs p i n L M = Bs p j n L M) : ScB p i j L 0 0 := fun n M hM => by
  rw [h]
  congr 1 <;> omega
def EndA (q : ByteArray) (top : Bool) (x : Nat) : Prop := q.size ≤ x ∨ isAt q x 124 = true ∨ (isAt q x 41 = true ∧ isAt q x 124 = false ∧ top = false)
def EndP (q : ByteArray) (top : Bool) (x : Nat) : Prop := q.size ≤ x ∨ (isAt q x 41 = true ∧ isAt q x 124 = false ∧ top = false)
theorem EndP.a {q : ByteArray} {top : Bool} {x : Nat} (h : EndP q top x) : EndA q top x := by
  rcases h with h | h
  · exact .inl h
  · exact .inr (.inr h)
theorem EndP.no {q : ByteArray} {top : Bool} {x : Nat} (h : EndP q top x) : isAt q x 124 = false := by
  rcases h with h | h
  · unfold isAt; rw [decide_eq_false (by omega), Bool.false_and]
  · exact h.2.1
def PcOk (p : ByteArray) (d i : Nat) (t : Nd) (j : Nat) : Prop := ∃ h, h ≤ d ∧ (∀ q a d', Emb p q a → d' ≤ 64 → (h ≤ d' → pieceR q (inn q d') (a + i) = .got t (a + j)) ∧ (d' < h → Deep (pieceR q (inn q d') (a + i)))) ∧ t.isT = true ∧ ∀ L : Int, 0 ≤ L → ScB p i j L 0 h
def AlOk (p : ByteArray) (d i : Nat) (t : Nd) (j : Nat) : Prop := ∃ h, h ≤ d ∧ (∀ q a d', Emb p q a → d' ≤ 64 → (d' = 64 → d = 64) → (j = p.size → EndA q (decide (d' = 64)) (a + p.size)) → (h ≤ d' → alR q d' (a + i) = .got t (a + j)) ∧ (d' < h → Deep (alR q d' (a + i)))) ∧ t.isT = true ∧ ∀ L : Int, 0 ≤ L → ScB p i j L 0 h
def PtOk (p : ByteArray) (d i : Nat) (t : Nd) (j : Nat) : Prop := ∃ h c, h ≤ d ∧ (∀ q a d', Emb p q a → d' ≤ 64 → (d' = 64 → d = 64) → (j = p.size → EndP q (decide (d' = 64)) (a + p.size)) → (h ≤ d' → patR q d' (a + i) = .got t (a + j)) ∧ (d' < h → Deep (patR q d' (a + i)))) ∧ t.isT = true ∧ (∀ L : Int, 0 ≤ L → ScB p i j L (if L = 0 then c else 0) h) ∧ (c = 0 → alR p d i = .got t j)
section
variable {p : ByteArray}
theorem isT_set (x : BSet) : (setN x).isT = true := by
  have h : (x &&& notB 0).getLsbD 10 = false := by
    rw [BitVec.getLsbD_and, notB0_get 10 (by omega)]
    simp
  unfold setN Nd.isT headOk
  rw [if_neg (by omega), if_pos rfl, h]
  simp [Nd.areT]
theorem isT_some3 {l : List Nd} (h : ∀ x ∈ l, x.isT = true) {k : Int} (hk : k = 3 ∨ k = 4) : (someN k l).isT = true := by
  rcases l with _ | ⟨x, _ | ⟨y, l⟩⟩
  · rfl
  · exact h x (by simp)
  · unfold someN Nd.isT headOk
    rw [if_neg (by omega), if_neg (by omega), if_pos (by omega), Nd.areT_all, List.all_eq_true.2 h]
    simp
theorem cntOk_le {d : Nat × Nat × Nat} (h : cntOk d = true) : d.1 ≤ 255 := by
  unfold cntOk at h
  simp only [Bool.and_eq_true, decide_eq_true_eq] at h
  exact h.2
theorem countsR_ok {i j : Nat} {c : Nat × Int} (h : countsR p i = .got c j) : c.1 ≤ 255 ∧ (c.2 = -1 ∨ ((c.1 : Int) ≤ c.2 ∧ c.2 ≤ 255)) := by
  unfold countsR at h
  simp only at h
  split at h
  · rename_i h1
    simp only [Bool.and_eq_true] at h1
    have := cntOk_le h1.1
    split at h
    · injection h with h _
      rw [← h]
      exact ⟨this, .inl rfl⟩
    · split at h
      · cases h
      · rename_i h2
        simp only [Bool.or_eq_true, Bool.not_eq_true', not_or, Bool.not_eq_false, decide_eq_true_eq] at h2
        have := cntOk_le h2.1.1
        injection h with h _
        rw [← h]
        exact ⟨by assumption, .inr ⟨by simp only; omega, by simp only; omega⟩⟩
  · split at h
    · cases h
    · rename_i h2
      simp only [Bool.or_eq_true, Bool.not_eq_true', not_or, Bool.not_eq_false] at h2
      have := cntOk_le h2.1
      injection h with h _
      rw [← h]
      exact ⟨this, .inr ⟨by simp only; omega, by simp only; omega⟩⟩
theorem isT_times {t : Nd} (h : t.isT = true) {a b : Int} (h0 : 0 ≤ a) (h1 : a ≤ 255) (h2 : b = -1 ∨ (a ≤ b ∧ b ≤ 255)) : (timesN t a b).isT = true := by
  unfold timesN Nd.isT headOk
  rw [if_neg (by omega), if_neg (by omega), if_neg (by omega), if_pos rfl]
  have : Nd.areT [t] = true := by simp [Nd.areT, h]
  rw [this]
  rcases h2 with h2 | h2
  · simp [h0, h1, h2]
  · simp [h0, h1, h2.1, h2.2]
theorem repeatR_isT {t u : Nd} {i j : Nat} (ht : t.isT = true) (h : repeatR p t i = .got u j) : u.isT = true := by
  unfold repeatR at h
  split at h
  · injection h with h _; rw [← h]; exact isT_times ht (by omega) (by omega) (by omega)
  split at h
  · injection h with h _; rw [← h]; exact isT_times ht (by omega) (by omega) (by omega)
  split at h
  · injection h with h _; rw [← h]; exact isT_times ht (by omega) (by omega) (by omega)
  split at h
  · cases hc : countsR p i with
    | fault e a => rw [hc] at h; cases h
    | got c k =>
      rw [hc] at h
      injection h with h _
      have := countsR_ok hc
      rw [← h]
      exact isT_times ht (by omega) (by omega) this.2
  · injection h with h _; rw [← h]; exact ht
theorem setR_isT {s i j : Nat} {t : Nd} (h : setR p s i = .got t j) : t.isT = true := by
  unfold setR at h
  cases hc : itemsR p s (p.size + 2) true (if isAt p i 94 then i + 1 else i) 0 with
  | fault e a => rw [hc] at h; cases h
  | got y k =>
    rw [hc] at h
    injection h with h _
    rw [← h]
    exact isT_set _
theorem inn_fwd (d : Nat) : ∀ f, inn p d = some f → ∀ i t j, i ≤ p.size → f i = .got t j → i ≤ j ∧ j ≤ p.size := by
  intro f hf
  cases d with
  | zero => cases hf
  | succ d => injection hf with hf; subst hf; exact fun i t j h1 h2 => patR_fwd d i t j h1 h2
theorem piece_ok {d : Nat} (hd : d ≤ 64) (ih : ∀ d0, d = d0 + 1 → ∀ i t j, i ≤ p.size → patR p d0 i = .got t j → PtOk p d0 i t j) {i j : Nat} {t : Nd} (hi : i < p.size) (h41 : chr p i ≠ 41) (h124 : chr p i ≠ 124) (h : pieceR p (inn p d) i = .got t j) : PcOk p d i t j := by
  have hf := pieceR_fwd (inn_fwd d) h hi
  unfold pieceR at h
  simp only at h
  have stp : ∀ n d m, _ := fun (n d m : Int) => Bs_step (p := p) (n := n) (d := d) (m := m) hi
  by_cases h94 : chr p i = 94
  · rw [if_pos h94] at h
    injection h with h1 h2
    subst h1 h2
    refine ⟨0, by omega, fun q a d' A hd' => ⟨fun _ => ?_, fun h => by omega⟩, by rfl, fun L hL => ScB.of_eq fun n M => Bs_dull1 hi (by unfold dull; omega)⟩
    unfold pieceR
    simp only
    rw [A.at_ i hi, if_pos h94]
    rfl
  rw [if_neg h94] at h
  by_cases h36 : chr p i = 36
  · rw [if_pos h36] at h
    injection h with h1 h2
    subst h1 h2
    refine ⟨0, by omega, fun q a d' A hd' => ⟨fun _ => ?_, fun h => by omega⟩, by rfl, fun L hL => ScB.of_eq fun n M => Bs_dull1 hi (by unfold dull; omega)⟩
    unfold pieceR
    simp only
    rw [A.at_ i hi, if_neg h94, if_pos h36]
    rfl
  rw [if_neg h36] at h
  split at h
  · cases h
  rename_i hrp
  by_cases h40 : chr p i = 40
  · rw [if_pos h40] at h
    cases d with
    | zero => cases h
    | succ d0 =>
      simp only [inn] at h
      cases hc : patR p d0 (i + 1) with
      | fault e a => rw [hc] at h; cases h
      | got u k =>
        rw [hc] at h
        simp only [Res.bind] at h
        have hk := patR_fwd d0 _ _ _ (by omega) hc
        have hend := patR_end d0 _ _ _ hc
        split at h
        · cases h
        rename_i hks
        have hk41 : isAt p k 41 = true := by
          rcases hend with h | h
          · exact absurd h hks
          · exact h
        obtain ⟨h0, c, hh0, hemb, hT, hsc, -⟩ := ih d0 rfl _ _ _ (by omega) hc
        refine ⟨h0 + 1, by omega, fun q a d' A hd' => ⟨fun hle => ?_, fun hlt => ?_⟩, repeatR_isT hT h, fun L hL n M hM => ?_⟩
        · obtain ⟨d1, rfl⟩ : ∃ x, d' = x + 1 := ⟨d' - 1, by omega⟩
          have e1 := (hemb q a d1 A (by omega) (by omega) (fun e => by omega)).1 (by omega)
          unfold pieceR
          simp only [inn]
          rw [A.at_ i hi, if_neg h94, if_neg h36, if_neg hrp, if_pos h40, Nat.add_assoc, e1]
          simp only [Res.bind]
          rw [if_neg (by have := A.le; omega)]
          exact A.repeatR (by omega) h
        · unfold pieceR
          rw [A.at_ i hi, if_neg h94, if_neg h36, if_neg hrp, if_pos h40]
          cases d' with
          | zero => exact ⟨_, rfl⟩
          | succ d1 =>
            simp only [inn]
            obtain ⟨x, e1⟩ := (hemb q a d1 A (by omega) (by omega) (fun e => by omega)).2 (by omega)
            rw [Nat.add_assoc, e1]
            exact ⟨x, rfl⟩
        · have e1 := hsc (L + 1) (by omega) n (max M (L + 1)) (by omega)
          rw [if_neg (by omega)] at e1
          have q1 : chr p k = 41 := isAt_eq hk41
          have q2 := isAt_lt hk41
          have h5 : chr p k ≠ 92 ∧ chr p k ≠ 91 ∧ chr p k ≠ 40 := by omega
          rw [stp, if_neg (by omega), if_neg (by omega), if_pos h40, e1, Bs_step q2, if_neg h5.1, if_neg h5.2.1, if_neg h5.2.2, if_pos q1, Bs_repeat h (by omega)]
          congr 1 <;> omega
  rw [if_neg h40] at h
  by_cases h91 : chr p i = 91
  · rw [if_pos h91] at h
    cases hc : setR p i (i + 1) with
    | fault e a => rw [hc] at h; cases h
    | got u k =>
      rw [hc] at h
      simp only [Res.bind] at h
      have hk := setR_fwd hc
      have hb := behN_set (by omega) hc
      by_cases hi1 : i + 1 < p.size
      · refine ⟨0, by omega, fun q a d' A hd' => ⟨fun _ => ?_, fun h => by omega⟩, repeatR_isT (setR_isT hc) h, fun L hL => ScB.of_eq fun n M => ?_⟩
        · unfold pieceR
          simp only
          rw [A.at_ i hi, if_neg h94, if_neg h36, if_neg hrp, if_neg h40, if_pos h91, Nat.add_assoc, A.setR (s' := a + i) hi1 hc]
          simp only [Res.bind]
          exact A.repeatR (by omega) h
        · rw [stp, if_neg (by omega), if_pos h91, hb, Bs_repeat h (by omega)]
      · exfalso
        unfold setR at hc
        cases hd : itemsR p i (p.size + 2) true (if isAt p (i + 1) 94 then i + 1 + 1 else i + 1) 0 with
        | fault e a => rw [hd] at hc; cases hc
        | got y z =>
          rw [hd] at hc
          have := itemsR_fwd _ _ _ _ _ _ hd
          split at this <;> omega
  rw [if_neg h91] at h
  by_cases h46 : chr p i = 46
  · rw [if_pos h46] at h
    refine ⟨0, by omega, fun q a d' A hd' => ⟨fun _ => ?_, fun h => by omega⟩, repeatR_isT (isT_set _) h, fun L hL => ScB.of_eq fun n M => ?_⟩
    · unfold pieceR
      simp only
      rw [A.at_ i hi, if_neg h94, if_neg h36, if_neg hrp, if_neg h40, if_neg h91, if_pos h46, Nat.add_assoc]
      exact A.repeatR (by omega) h
    · rw [Bs_dull1 hi (by unfold dull; omega), Bs_repeat h (by omega)]
  rw [if_neg h46] at h
  by_cases h92 : chr p i = 92
  · rw [if_pos h92] at h
    split at h
    · rename_i h8
      have h8' := h8
      unfold oneOf at h8'
      simp only [Bool.and_eq_true, decide_eq_true_eq] at h8'
      refine ⟨0, by omega, fun q a d' A hd' => ⟨fun _ => ?_, fun h => by omega⟩, repeatR_isT (isT_set _) h, fun L hL => ScB.of_eq fun n M => ?_⟩
      · unfold pieceR
        simp only
        have o1 : Ere.oneOf q (a + i + 1) marks = true := by rw [Nat.add_assoc, A.oneOf h8'.1]; exact h8
        rw [A.at_ i hi, if_neg h94, if_neg h36, if_neg hrp, if_neg h40, if_neg h91, if_neg h46, if_pos h92, o1, if_pos rfl, Nat.add_assoc, A.at_ (i + 1) h8'.1, Nat.add_assoc]
        exact A.repeatR (by omega) h
      · rw [stp, if_pos h92, Bs_repeat h (by omega)]
    · cases h
  rw [if_neg h92] at h
  refine ⟨0, by omega, fun q a d' A hd' => ⟨fun _ => ?_, fun h => by omega⟩, repeatR_isT (isT_set _) h, fun L hL => ?_⟩
  · unfold pieceR
    simp only
    rw [A.at_ i hi, if_neg h94, if_neg h36, if_neg hrp, if_neg h40, if_neg h91, if_neg h46, if_neg h92, Nat.add_assoc]
    exact A.repeatR (by omega) h
  · exact ScB.of_eq fun n M => by rw [Bs_dull1 hi (by unfold dull; omega), Bs_repeat h (by omega)]
theorem alt_ok {d : Nat} (hd : d ≤ 64) (hpc : ∀ i t j, i < p.size → chr p i ≠ 41 → chr p i ≠ 124 → pieceR p (inn p d) i = .got t j → PcOk p d i t j) :
    ∀ n i l t j, i ≤ p.size → (∀ x ∈ l, x.isT = true) → alF p d n i l = .got t j →
      ∃ h, h ≤ d ∧ (∀ q a d' n', Emb p q a → d' ≤ 64 → (d' = 64 → d = 64) → (j = p.size → EndA q (decide (d' = 64)) (a + p.size)) → a + p.size + 1 ≤ n' + (a + i) → (h ≤ d' → alF q d' n' (a + i) l = .got t (a + j)) ∧ (d' < h → Deep (alF q d' n' (a + i) l))) ∧ t.isT = true ∧ ∀ L : Int, 0 ≤ L → ScB p i j L 0 h
  | 0, _, _, _, _, _, _, h => by cases h
  | n + 1, i, l, t, j, hi, hl, h => by
    have pf : ∀ i t j, i < p.size → pieceR p (inn p d) i = .got t j → i < j ∧ j ≤ p.size := fun i t j hi h => pieceR_fwd (inn_fwd d) h hi
    have hf := altR_fwd pf _ _ _ _ _ hi h
    unfold alF altR at h
    by_cases hend : (decide (p.size ≤ i) || isAt p i 124) = true
    · rw [if_pos hend] at h
      injection h with h1 h2
      subst h1 h2
      refine ⟨0, by omega, fun q a d' n' A hd' htop hE hn' => ⟨fun _ => ?_, fun h => by omega⟩, isT_some3 hl (.inl rfl), fun L hL => ScB.of_eq fun n M => rfl⟩
      obtain ⟨n', rfl⟩ : ∃ c, n' = c + 1 := ⟨n' - 1, by omega⟩
      unfold alF altR
      simp only [Bool.or_eq_true, decide_eq_true_eq] at hend
      rcases hend with hend | hend
      · have hip : i = p.size := by omega
        subst hip
        rcases hE rfl with e | e | e
        · rw [decide_eq_true (show q.size ≤ a + p.size by omega)]; rfl
        · rw [e, Bool.or_true]; rfl
        · rw [e.1, e.2.1, e.2.2]
          by_cases hz : q.size ≤ a + p.size
          · rw [decide_eq_true hz]; rfl
          · rw [decide_eq_false hz]; rfl
      · rw [A.isAt (isAt_lt hend), hend, Bool.or_true]
        rfl
    · rw [if_neg hend] at h
      simp only [Bool.or_eq_true, decide_eq_true_eq, not_or] at hend
      have hip : i < p.size := by omega
      have e124 : isAt p i 124 = false := by simpa using hend.2
      by_cases h41 : isAt p i 41 = true
      · rw [if_pos h41] at h
        split at h
        · cases h
        rename_i htp
        injection h with h1 h2
        subst h1 h2
        have hd64 : d ≠ 64 := by simpa using htp
        refine ⟨0, by omega, fun q a d' n' A hd' htop hE hn' => ⟨fun _ => ?_, fun h => by omega⟩, isT_some3 hl (.inl rfl), fun L hL => ScB.of_eq fun n M => rfl⟩
        obtain ⟨n', rfl⟩ : ∃ c, n' = c + 1 := ⟨n' - 1, by omega⟩
        unfold alF altR
        rw [A.isAt hip, A.isAt hip, e124, h41, decide_eq_false (show ¬ q.size ≤ a + i by have := A.le; omega), decide_eq_false (show ¬ d' = 64 by omega)]
        rfl
      · rw [if_neg h41] at h
        have e41 : isAt p i 41 = false := by simpa using h41
        have c41 : chr p i ≠ 41 := fun e => h41 (by unfold isAt; rw [decide_eq_true hip, e]; rfl)
        have c124 : chr p i ≠ 124 := fun e => hend.2 (by unfold isAt; rw [decide_eq_true hip, e]; rfl)
        cases hc : pieceR p (inn p d) i with
        | fault e a => rw [hc] at h; cases h
        | got u k =>
          rw [hc] at h
          simp only [Res.bind] at h
          have hk := pf i u k hip hc
          obtain ⟨h1, hh1, hemb1, hT1, hsc1⟩ := hpc i u k hip c41 c124 hc
          obtain ⟨h2, hh2, hemb2, hT2, hsc2⟩ := alt_ok hd hpc n k (l ++ [u]) t j hk.2 (fun x hx => by
            rcases List.mem_append.1 hx with hx | hx
            · exact hl x hx
            · rw [List.mem_singleton.1 hx]; exact hT1) h
          refine ⟨max h1 h2, by omega, fun q a d' n' A hd' htop hE hn' => ?_, hT2, fun L hL => (hsc1 L hL).trans (hsc2 L hL)⟩
          obtain ⟨n', rfl⟩ : ∃ c, n' = c + 1 := ⟨n' - 1, by omega⟩
          have g1 := hemb1 q a d' A hd'
          have g2 := hemb2 q a d' n' A hd' htop hE (by omega)
          have key : alF q d' (n' + 1) (a + i) l = (pieceR q (inn q d') (a + i)).bind fun t j => alF q d' n' j (l ++ [t]) := by
            unfold alF
            conv => lhs; unfold altR
            rw [A.isAt hip, A.isAt hip, e124, e41, decide_eq_false (show ¬ q.size ≤ a + i by have := A.le; omega)]
            rfl
          rw [key]
          by_cases hle : h1 ≤ d'
          · rw [g1.1 hle]
            simp only [Res.bind]
            exact ⟨fun h => g2.1 (by omega), fun h => g2.2 (by omega)⟩
          · obtain ⟨x, e⟩ := g1.2 (by omega)
            rw [e]
            exact ⟨fun h => by omega, fun h => ⟨x, rfl⟩⟩
theorem patL_ok {d : Nat} (hd : d ≤ 64) (hal : ∀ i t j, i ≤ p.size → alR p d i = .got t j → AlOk p d i t j) :
    ∀ n i l t j, i ≤ p.size → (∀ x ∈ l, x.isT = true) → patL p (alR p d) n i l = .got t j →
      ∃ h c, h ≤ d ∧ (∀ q a d' n', Emb p q a → d' ≤ 64 → (d' = 64 → d = 64) → (j = p.size → EndP q (decide (d' = 64)) (a + p.size)) → a + p.size + 1 ≤ n' + (a + i) → (h ≤ d' → patL q (alR q d') n' (a + i) l = .got t (a + j)) ∧ (d' < h → Deep (patL q (alR q d') n' (a + i) l))) ∧ t.isT = true ∧ (∀ L : Int, 0 ≤ L → ScB p i j L (if L = 0 then c else 0) h) ∧ (c = 0 → l = [] → alR p d i = .got t j)
  | 0, _, _, _, _, _, _, h => by cases h
  | n + 1, i, l, t, j, hi, hl, h => by
    have pf : ∀ i t j, i < p.size → pieceR p (inn p d) i = .got t j → i < j ∧ j ≤ p.size := fun i t j hi h => pieceR_fwd (inn_fwd d) h hi
    have af : ∀ i t j, i ≤ p.size → alR p d i = .got t j → i ≤ j ∧ j ≤ p.size := fun i t j hi h => altR_fwd pf _ _ _ _ _ hi h
    unfold patL at h
    cases hc : alR p d i with
    | fault e a => rw [hc] at h; cases h
    | got u k =>
      rw [hc] at h
      simp only [Res.bind] at h
      have hk := af i u k hi hc
      have hkend := altR_end _ _ _ _ _ hc
      obtain ⟨h1, hh1, hemb1, hT1, hsc1⟩ := hal i u k hi hc
      have hlu : ∀ x ∈ l ++ [u], x.isT = true := fun x hx => by
        rcases List.mem_append.1 hx with hx | hx
        · exact hl x hx
        · rw [List.mem_singleton.1 hx]; exact hT1
      have key : ∀ q (a d' n' : Nat), patL q (alR q d') (n' + 1) (a + i) l = (alR q d' (a + i)).bind fun t j => if isAt q j 124 then patL q (alR q d') n' (j + 1) (l ++ [t]) else .got (someN 4 (l ++ [t])) j := fun q a d' n' => by
        conv => lhs; unfold patL
      split at h
      · rename_i hb
        have hkl := isAt_lt hb
        have hkj := patL_fwd af _ _ _ _ _ (by omega) h
        obtain ⟨h2, c, hh2, hemb2, hT2, hsc2, -⟩ := patL_ok hd hal n (k + 1) (l ++ [u]) t j (by omega) hlu h
        refine ⟨max h1 h2, c + 1, by omega, fun q a d' n' A hd' htop hE hn' => ?_, hT2, fun L hL => ?_, fun e => by omega⟩
        · obtain ⟨n', rfl⟩ : ∃ c, n' = c + 1 := ⟨n' - 1, by omega⟩
          have g1 := hemb1 q a d' A hd' htop (fun e => by omega)
          have g2 := hemb2 q a d' n' A hd' htop hE (by omega)
          rw [key]
          by_cases hle : h1 ≤ d'
          · rw [g1.1 hle]
            simp only [Res.bind]
            rw [A.isAt hkl, if_pos hb]
            exact ⟨fun h => g2.1 (by omega), fun h => g2.2 (by omega)⟩
          · obtain ⟨x, e⟩ := g1.2 (by omega)
            rw [e]
            exact ⟨fun h => by omega, fun h => ⟨x, rfl⟩⟩
        · intro nn M hM
          have q1 : chr p k = 124 := isAt_eq hb
          have h5 : chr p k ≠ 92 ∧ chr p k ≠ 91 ∧ chr p k ≠ 40 ∧ chr p k ≠ 41 := by omega
          rw [hsc1 L hL nn M hM, Bs_step hkl, if_neg h5.1, if_neg h5.2.1, if_neg h5.2.2.1, if_neg h5.2.2.2, if_pos q1, hsc2 L hL _ _ (by omega)]
          by_cases hL0 : L = 0
          · rw [if_pos hL0, if_pos hL0, if_pos hL0]
            congr 1 <;> omega
          · rw [if_neg hL0, if_neg hL0, if_neg hL0]
            congr 1 <;> omega
      · rename_i hb
        injection h with h3 h4
        subst h3 h4
        refine ⟨h1, 0, hh1, fun q a d' n' A hd' htop hE hn' => ?_, isT_some3 hlu (.inr rfl), fun L hL => ?_, fun _ e => by rw [e]; rfl⟩
        · obtain ⟨n', rfl⟩ : ∃ c, n' = c + 1 := ⟨n' - 1, by omega⟩
          have g1 := hemb1 q a d' A hd' htop (fun e => (hE e).a)
          rw [key]
          by_cases hle : h1 ≤ d'
          · rw [g1.1 hle]
            simp only [Res.bind]
            have hno : isAt q (a + k) 124 = false := by
              by_cases e : k < p.size
              · rw [A.isAt e]; simpa using hb
              · obtain rfl : k = p.size := by omega
                exact (hE rfl).no
            rw [hno]
            exact ⟨fun h => rfl, fun h => by omega⟩
          · obtain ⟨x, e⟩ := g1.2 (by omega)
            rw [e]
            exact ⟨fun h => by omega, fun h => ⟨x, rfl⟩⟩
        · rw [show (if L = 0 then 0 else 0) = 0 by split <;> rfl]
          exact hsc1 L hL
theorem al_ok {d : Nat} (hd : d ≤ 64) (ih : ∀ d0, d = d0 + 1 → ∀ i t j, i ≤ p.size → patR p d0 i = .got t j → PtOk p d0 i t j) (i : Nat) (t : Nd) (j : Nat) (hi : i ≤ p.size) (h : alR p d i = .got t j) : AlOk p d i t j := by
  obtain ⟨x, h1, h2, h3, h4⟩ := alt_ok hd (fun i t j hi h41 h124 h => piece_ok hd ih hi h41 h124 h) _ i [] t j hi (fun x hx => by simp at hx) h
  exact ⟨x, h1, fun q a d' A hd' htop hE => h2 q a d' (q.size + 2) A hd' htop hE (by have := A.le; omega), h3, h4⟩
theorem pat_ok : ∀ d, d ≤ 64 → ∀ i t j, i ≤ p.size → patR p d i = .got t j → PtOk p d i t j
  | d, hd, i, t, j, hi, h => by
    have ih : ∀ d0, d = d0 + 1 → ∀ i t j, i ≤ p.size → patR p d0 i = .got t j → PtOk p d0 i t j := fun d0 e i t j hi h => pat_ok d0 (by omega) i t j hi h
    rw [patR_al] at h
    obtain ⟨x, c, h1, h2, h3, h4, h5⟩ := patL_ok hd (al_ok hd ih) _ i [] t j hi (fun x hx => by simp at hx) h
    refine ⟨x, c, h1, fun q a d' A hd' htop hE => ?_, h3, h4, fun e => h5 e rfl⟩
    rw [patR_al]
    exact h2 q a d' (q.size + 2) A hd' htop hE (by have := A.le; omega)
end
end Ere
end Go.Proofs.YtkedgombccdamaaDoor
namespace Go.Proofs.YtkedgombccdamaaDoor
set_option linter.unusedVariables false
set_option linter.unusedSimpArgs false
namespace Ere
theorem chr_app (p t : ByteArray) (k : Nat) : chr (p ++ t) k = if k < p.size then chr p k else chr t (k - p.size) := by
  unfold chr
  by_cases hk : k < p.size
  · rw [if_pos hk, dif_pos (by rw [ByteArray.size_append]; omega), dif_pos hk, ByteArray.getElem_append_left hk]
  · rw [if_neg hk]
    by_cases h2 : k - p.size < t.size
    · rw [dif_pos (by rw [ByteArray.size_append]; omega), dif_pos h2, ByteArray.getElem_append_right (by omega)]
    · rw [dif_neg (by rw [ByteArray.size_append]; omega), dif_neg h2]
theorem isAt_of {p : ByteArray} {i c : Nat} (h : i < p.size) (e : chr p i = c) : isAt p i c = true := by
  unfold isAt
  rw [decide_eq_true h, e]
  simp
theorem isAt_ne {p : ByteArray} {i c : Nat} (e : chr p i ≠ c) : isAt p i c = false := by
  unfold isAt
  rw [decide_eq_false e, Bool.and_false]
theorem isAt_out {p : ByteArray} {i c : Nat} (h : p.size ≤ i) : isAt p i c = false := by
  unfold isAt
  rw [decide_eq_false (by omega), Bool.false_and]
section
variable {p : ByteArray}
theorem alF_piece {d n i k : Nat} {l : List Nd} {u : Nd} (hi : i < p.size) (h1 : chr p i ≠ 124) (h2 : chr p i ≠ 41) (h : pieceR p (inn p d) i = .got u k) : alF p d (n + 1) i l = alF p d n k (l ++ [u]) := by
  conv => lhs; unfold alF altR
  rw [isAt_ne h1, isAt_ne h2, decide_eq_false (by omega), h]
  rfl
theorem alF_fault {d n i e x : Nat} {l : List Nd} (hi : i < p.size) (h1 : chr p i ≠ 124) (h2 : chr p i ≠ 41) (h : pieceR p (inn p d) i = .fault e x) : alF p d (n + 1) i l = .fault e x := by
  conv => lhs; unfold alF altR
  rw [isAt_ne h1, isAt_ne h2, decide_eq_false (by omega), h]
  rfl
theorem alF_end {d n i : Nat} {l : List Nd} (hi : p.size ≤ i ∨ isAt p i 124 = true) : alF p d (n + 1) i l = .got (someN 3 l) i := by
  unfold alF altR
  rw [if_pos]
  rcases hi with h | h
  · rw [decide_eq_true h]; rfl
  · rw [h, Bool.or_true]
theorem patL_end' {al : Nat → Res Nd} {n i k : Nat} {l : List Nd} {u : Nd} (h : al i = .got u k) (hk : isAt p k 124 = false) : patL p al (n + 1) i l = .got (someN 4 (l ++ [u])) k := by
  unfold patL
  rw [h]
  simp only [Res.bind]
  rw [hk]
  rfl
theorem patL_fault {al : Nat → Res Nd} {n i e x : Nat} {l : List Nd} (h : al i = .fault e x) : patL p al (n + 1) i l = .fault e x := by
  unfold patL
  rw [h]
  rfl
theorem piece_group {d i k : Nat} {u : Nd} (hi : chr p i = 40) (h : patR p d (i + 1) = .got u k) (hk : k < p.size) : pieceR p (inn p (d + 1)) i = repeatR p u (k + 1) := by
  unfold pieceR
  simp only [inn]
  rw [if_neg (by omega), if_neg (by omega), if_neg (by omega), if_pos hi, h]
  simp only [Res.bind]
  rw [if_neg (by omega)]
theorem piece_group_fault {d i e x : Nat} (hi : chr p i = 40) (h : patR p d (i + 1) = .fault e x) : pieceR p (inn p (d + 1)) i = .fault e x := by
  unfold pieceR
  simp only [inn]
  rw [if_neg (by omega), if_neg (by omega), if_neg (by omega), if_pos hi, h]
  rfl
theorem alR_top {i j : Nat} {t : Nd} : ∀ n l, alF p 64 n i l = .got t j → p.size ≤ j ∨ isAt p j 124 = true := by
  intro n
  induction n generalizing i with
  | zero => intro l h; cases h
  | succ n ih =>
    intro l h
    unfold alF altR at h
    split at h
    · rename_i h1
      injection h with _ h2
      subst h2
      simp only [Bool.or_eq_true, decide_eq_true_eq] at h1
      exact h1
    · split at h
      · rw [if_pos (by decide)] at h
        cases h
      · cases hc : pieceR p (inn p 64) i with
        | fault e a => rw [hc] at h; cases h
        | got u k =>
          rw [hc] at h
          exact ih _ h
theorem patL_top {j : Nat} {t : Nd} : ∀ n i l, patL p (alR p 64) n i l = .got t j → p.size ≤ j
  | 0, _, _, h => by cases h
  | n + 1, i, l, h => by
    unfold patL at h
    cases hc : alR p 64 i with
    | fault e a => rw [hc] at h; cases h
    | got u k =>
      rw [hc] at h
      simp only [Res.bind] at h
      split at h
      · exact patL_top n _ _ h
      · rename_i h1
        injection h with _ h2
        subst h2
        rcases alR_top _ _ hc with h3 | h3
        · exact h3
        · exact absurd h3 h1
theorem patR_top {j : Nat} {t : Nd} (h : patR p 64 0 = .got t j) : j = p.size := by
  have h1 := patR_fwd 64 0 t j (by omega) h
  rw [patR_al] at h
  have := patL_top _ _ _ h
  omega
structure Good4 (p : ByteArray) (t : Nd) : Prop where
  size : p.size ≤ 1024
  nl : ∀ k, k < p.size → chr p k ≠ 10
  got : patR p 64 0 = .got t p.size
  places : placesN t ≤ 2048
theorem parse_ok (h : (parseR p).2.2 = 0) : Good4 p (parseR p).1 ∧ (parseR p).2.1 = 0 := by
  obtain ⟨R, hR⟩ : ∃ R, parseR p = R := ⟨_, rfl⟩
  rw [hR] at h ⊢
  unfold parseR at hR
  split at hR
  · subst hR; cases h
  rename_i hs
  split at hR
  · subst hR; cases h
  rename_i hn
  split at hR
  · rename_i e a he
    have := patR_bad 64 0 e a (by omega) he
    subst hR
    unfold BadF okE at this
    simp only at h
    omega
  rename_i t j he
  split at hR
  · subst hR; cases h
  rename_i hp
  have := patR_top he
  subst this
  subst hR
  exact ⟨⟨by omega, fun k hk => nlAt_none p (p.size + 1) 0 (by omega) hn k (by omega) hk, he, by show placesN t ≤ 2048; omega⟩, rfl⟩
theorem parse_of {t : Nd} {j : Nat} (hs : p.size ≤ 1024) (hn : ∀ k, k < p.size → chr p k ≠ 10) (h : patR p 64 0 = .got t j) : parseR p = if 2048 < placesN t then (zeroN, 0, 48) else (t, 0, 0) := by
  unfold parseR
  rw [if_neg (by omega), nlAt_all hn]
  simp only [h]
theorem parse_fault {e x : Nat} (hs : p.size ≤ 1024) (hn : ∀ k, k < p.size → chr p k ≠ 10) (h : patR p 64 0 = .fault e x) : parseR p = (zeroN, x, e) := by
  unfold parseR
  rw [if_neg (by omega), nlAt_all hn]
  simp only [h]
theorem parse_long (hs : 1024 < p.size) : parseR p = (zeroN, 1024, 40) := by
  unfold parseR
  rw [if_pos hs]
theorem good_bars {t : Nd} (g : Good4 p t) : ∃ h c : Nat, barsP p = ((c : Int), (h : Int)) ∧ h ≤ 64 ∧ t.isT = true ∧
    (∀ q a, Emb p q a → EndP q false (a + p.size) → (h ≤ 63 → patR q 63 a = .got t (a + p.size)) ∧ (63 < h → Deep (patR q 63 a))) ∧
    (c = 0 → ∀ q a, Emb p q a → EndA q true (a + p.size) → alR q 64 a = .got t (a + p.size)) := by
  obtain ⟨h, c, h1, h2, h3, h4, h5⟩ := pat_ok 64 (by omega) 0 t p.size (by omega) g.got
  refine ⟨h, c, ?_, h1, h3, fun q a A hE => ?_, fun hc q a A hE => ?_⟩
  · have := h4 0 (by omega) 0 0 (by omega)
    rw [if_pos rfl, Bs_end (Nat.le_refl _)] at this
    unfold barsP
    unfold Bs at this
    rw [this]
    congr 1 <;> omega
  · have := h2 q a 63 A (by omega) (by omega) (fun _ => by rwa [decide_eq_false (by omega)])
    exact ⟨fun h => this.1 h, fun h => this.2 h⟩
  · obtain ⟨h', h6, h7, -, -⟩ := al_ok (by omega) (fun d0 e i t j hi h => pat_ok d0 (by omega) i t j hi h) 0 t p.size (by omega) (h5 hc)
    exact (h7 q a 64 A (by omega) (fun _ => rfl) (fun _ => by rwa [decide_eq_true rfl])).1 h6
end
def brk (p : ByteArray) : ByteArray := ⟨#[40]⟩ ++ p ++ ⟨#[41]⟩
theorem brk_size (p : ByteArray) : (brk p).size = p.size + 2 := by
  unfold brk
  rw [ByteArray.size_append, ByteArray.size_append]
  show 1 + p.size + 1 = _
  omega
theorem brk_chr (p : ByteArray) (k : Nat) : chr (brk p) k = if k = 0 then 40 else if k < p.size + 1 then chr p (k - 1) else if k = p.size + 1 then 41 else 0 := by
  unfold brk
  rw [chr_app, chr_app, ByteArray.size_append]
  have s1 : (⟨#[40]⟩ : ByteArray).size = 1 := rfl
  rw [s1]
  by_cases h0 : k = 0
  · subst h0
    rw [if_pos (by omega), if_pos (by omega), if_pos rfl]
    rfl
  rw [if_neg h0]
  by_cases h1 : k < p.size + 1
  · rw [if_pos (by omega), if_neg (by omega), if_pos h1]
  rw [if_neg (by omega), if_neg h1]
  by_cases h2 : k = p.size + 1
  · rw [if_pos h2, h2, show p.size + 1 - (1 + p.size) = 0 by omega]
    rfl
  rw [if_neg h2]
  unfold chr
  rw [dif_neg]
  show ¬ (k - (1 + p.size) < 1)
  omega
theorem brk_emb (p : ByteArray) : Emb p (brk p) 1 := by
  refine ⟨by rw [brk_size]; omega, fun k hk => ?_, fun c hc => isAt_ne ?_⟩
  · rw [brk_chr, if_neg (by omega), if_pos (by omega), show 1 + k - 1 = k by omega]
  · rw [brk_chr, if_neg (by omega), if_neg (by omega), if_pos (by omega)]
    omega
theorem brk_nl {p : ByteArray} (h : ∀ k, k < p.size → chr p k ≠ 10) : ∀ k, k < (brk p).size → chr (brk p) k ≠ 10 := by
  intro k hk
  rw [brk_size] at hk
  rw [brk_chr]
  split
  · omega
  split
  · exact h _ (by omega)
  · rw [if_pos (by omega)]; omega
structure TreesHold (p : ByteArray) : Prop where
  bad : (parseR p).2.2 ≠ 0 → (parseR p).1 = zeroN ∧ (parseR p).2.1 ≤ p.size ∧ ((40 ≤ (parseR p).2.2 ∧ (parseR p).2.2 ≤ 48) ∨ (parseR p).2.2 = 30) ∧ (p.size ≤ 1024 ∨ ((parseR p).2.2 = 40 ∧ (parseR p).2.1 = 1024))
  good : (parseR p).2.2 = 0 → (parseR p).2.1 = 0 ∧ (parseR p).1.isT = true ∧ 1 ≤ placesN (parseR p).1 ∧ placesN (parseR p).1 ≤ 2048 ∧ p.size ≤ 1024 ∧ ∃ c h : Nat, barsP p = ((c : Int), (h : Int)) ∧
    (1022 < p.size → parseR (brk p) = (zeroN, 1024, 40)) ∧ (p.size ≤ 1022 → 64 ≤ h → (parseR (brk p)).2.2 = 47) ∧ (p.size ≤ 1022 → h ≤ 63 → parseR (brk p) = ((parseR p).1, 0, 0))
theorem brk_alF {p : ByteArray} {u : Nd} (h : patR (brk p) 63 1 = .got u (1 + p.size)) : patR (brk p) 64 0 = .got u (brk p).size := by
  have hs := brk_size p
  have hc : chr (brk p) 0 = 40 := by rw [brk_chr, if_pos rfl]
  rw [patR_al]
  refine patL_end' (n := (brk p).size + 1) (l := []) (u := u) ?_ (isAt_out (Nat.le_refl _))
  unfold alR
  have hp : pieceR (brk p) (inn (brk p) 64) 0 = .got u (brk p).size := by
    rw [piece_group (d := 63) hc h (by omega), show 1 + p.size + 1 = (brk p).size by omega, repeatR_end (Nat.le_refl _)]
  rw [show (brk p).size + 2 = ((brk p).size + 1) + 1 from rfl, alF_piece (by omega) (by omega) (by omega) hp, alF_end (.inl (Nat.le_refl _))]
  rfl
theorem trees_hold (p : ByteArray) : TreesHold p := by
  refine ⟨fun h => ?_, fun h => ?_⟩
  · obtain ⟨R, hR⟩ : ∃ R, parseR p = R := ⟨_, rfl⟩
    rw [hR] at h ⊢
    unfold parseR at hR
    split at hR
    · rename_i hs
      subst hR
      exact ⟨rfl, by simp only; omega, .inl ⟨by simp only; omega, by simp only; omega⟩, .inr ⟨rfl, rfl⟩⟩
    rename_i hs
    split at hR
    · rename_i i hn
      have := nlAt_some p _ _ _ hn
      subst hR
      exact ⟨rfl, by simp only; omega, .inl ⟨by simp only; omega, by simp only; omega⟩, .inl (by omega)⟩
    rename_i hn
    split at hR
    · rename_i e a he
      have := patR_bad 64 0 e a (by omega) he
      unfold BadF okE at this
      subst hR
      exact ⟨rfl, by simp only; omega, by simp only; omega, .inl (by omega)⟩
    rename_i t j he
    split at hR
    · rename_i hp
      subst hR
      exact ⟨rfl, by simp only; omega, .inl ⟨by simp only; omega, by simp only; omega⟩, .inl (by omega)⟩
    · subst hR; exact absurd rfl h
  · obtain ⟨g, ha⟩ := parse_ok h
    obtain ⟨t, ht⟩ : ∃ t, (parseR p).1 = t := ⟨_, rfl⟩
    rw [ht] at g ⊢
    obtain ⟨hh, c, hb, h64, hT, hemb, -⟩ := good_bars g
    have hs := brk_size p
    have hE := hemb (brk p) 1 (brk_emb p) (.inr ⟨isAt_of (by omega) (by rw [brk_chr, if_neg (by omega), if_neg (by omega), if_pos (by omega)]), isAt_ne (by rw [brk_chr, if_neg (by omega), if_neg (by omega), if_pos (by omega)]; omega), rfl⟩)
    have hp1 : 1 ≤ placesN t := by unfold placesN; rw [hT, if_pos rfl]; omega
    refine ⟨ha, hT, hp1, g.places, g.size, c, hh, hb, fun h1 => parse_long (by omega), fun h1 h2 => ?_, fun h1 h2 => ?_⟩
    · obtain ⟨x, e⟩ := hE.2 (by omega)
      have hc : chr (brk p) 0 = 40 := by rw [brk_chr, if_pos rfl]
      have : patR (brk p) 64 0 = .fault 47 x := by
        rw [patR_al]
        refine patL_fault (n := (brk p).size + 1) ?_
        unfold alR
        rw [show (brk p).size + 2 = ((brk p).size + 1) + 1 from rfl]
        exact alF_fault (by omega) (by omega) (by omega) (piece_group_fault (d := 63) hc e)
      rw [parse_fault (by omega) (brk_nl g.nl) this]
    · rw [parse_of (by omega) (brk_nl g.nl) (brk_alF (hE.1 h2)), if_neg (by have := g.places; omega)]
end Ere
end Go.Proofs.YtkedgombccdamaaDoor
namespace Go.Proofs.YtkedgombccdamaaDoor
open Go.ChangeShapes Go.WideShapes Go.ChangeAt Go.RowKit
open Go.ChangeMaps (open_string shut_string)
set_option linter.unusedVariables false
set_option linter.unusedSimpArgs false
theorem own : ownKnob Tryd.prog.godebug = none := by kernel_rfl
theorem laidOut : laidOutB Tryd.prog = true := by kernel_rfl
section
variable {H : Type} {enc : TypeId × Value → H} {w : World} {base : Nat} {spare : Nat → Bool} {held : Bool} {fuel : Nat}
end
theorem choose_list {α : Type} {p : Nat → α → Prop} : ∀ (n : Nat), (∀ i, i < n → ∃ y, p i y) → ∃ l : List α, l.length = n ∧ ∀ i (h : i < l.length), p i l[i]
  | 0, _ => ⟨[], rfl, fun i h => absurd h (by simp)⟩
  | n + 1, h => by
    obtain ⟨l, hl, hp⟩ := choose_list n (fun i hi => h i (by omega))
    obtain ⟨y, hy⟩ := h n (by omega)
    refine ⟨l ++ [y], by simp [hl], fun i hi => ?_⟩
    by_cases e : i < l.length
    · rw [List.getElem_append_left e]; exact hp i e
    · have : i = n := by simp at hi; omega
      subst this
      rw [List.getElem_append_right (by omega)]
      simpa using hy
theorem spot_none {w : World} {a : Addr} {v : Value} (h : w.cell? a = some v) : a.spot = none := World.cell?_spot h
end Go.Proofs.YtkedgombccdamaaDoor
namespace Go.Proofs.YtkedgombccdamaaDoor
open Go.ChangeShapes Go.WideShapes Go.ChangeAt Go.RowKit
set_option linter.unusedVariables false
set_option linter.unusedSimpArgs false
theorem open_cap {H : Type} {enc : TypeId × Value → H} {W : World} {held : Bool} {d : DataW H} {ps : List MemPlace} {t e : TypeId} {A : Option Addr} {n c : Nat} (ht : Tryd.prog.underlying t = some (.slice e)) (hd : DataW.Trod enc Tryd.prog W 0 (fun _ => true) held t (.slice A n c) d ps) : n ≤ c ∧ c ≤ maxLen := by
  obtain ⟨fuel, hf⟩ := hd
  rcases Deep.open_slice ht hf with ⟨hcs, hx⟩ | ⟨a, len, cap, m, n', D, Pl, hcs, _, hl, hm, hmm, hx, hi⟩
  · simp [Value.cells] at hcs
    obtain ⟨rfl, rfl, rfl⟩ := hcs
    exact ⟨Nat.le_refl _, by unfold maxLen; omega⟩
  · simp [Value.cells] at hcs
    obtain ⟨rfl, rfl, rfl⟩ := hcs
    have hmc : m = c := by simpa using hmm
    subst hmc
    exact ⟨by omega, by omega⟩
def encStr (s : ByteArray) : Array Value := #[.string s]
theorem cells_string : Tryd.prog.cellsOf 9 = 1 := by kernel_rfl
end Go.Proofs.YtkedgombccdamaaDoor
namespace Go.Proofs.YtkedgombccdamaaDoor
open Go.RowKit
set_option linter.unusedVariables false
set_option linter.unusedSimpArgs false
def encU (v : Nat) : Array Value := #[.int .u64 (v : Int)]
theorem encU_size (v : Nat) : (encU v).size = 1 := rfl
theorem encU_one (v : Nat) : (encU v).all (·.oneCell') = true := by simp [encU, Value.oneCell']
theorem u64_bit {v n : Nat} (hv : v < 18446744073709551616) : (bits BinOp.and IntKind.u64 ((v : Int) / 2 ^ n) 1 == 1) = v.testBit n := by
  have e1 : ((v : Int) / 2 ^ n) = ((v / 2 ^ n : Nat) : Int) := by
    rw [Int.natCast_ediv, Int.natCast_pow]; rfl
  have hlt : v / 2 ^ n < 18446744073709551616 := Nat.lt_of_le_of_lt (Nat.div_le_self _ _) hv
  rw [e1]
  have e2 := u64_and_nat (v / 2 ^ n) 1 hlt (by omega)
  rw [show ((1 : Nat) : Int) = 1 from rfl] at e2
  rw [e2, Nat.and_one_is_mod, Nat.testBit_eq_decide_div_mod_eq]
  rw [Bool.eq_iff_iff]
  simp only [beq_iff_eq, decide_eq_true_eq]
  omega
theorem u64_or_pow {v n : Nat} (hv : v < 18446744073709551616) (hn : n < 64) : bits BinOp.or IntKind.u64 (v : Int) (IntKind.u64.wrap (2 ^ n)) = ((v ||| 2 ^ n : Nat) : Int) := by
  have hlt : 2 ^ n < 18446744073709551616 := Nat.lt_of_lt_of_le (Nat.pow_lt_pow_right (by omega) hn) (Nat.le_refl _)
  have e1 : IntKind.u64.wrap (2 ^ n) = ((2 ^ n : Nat) : Int) := by
    rw [show (2 ^ n : Int) = ((2 ^ n : Nat) : Int) by rw [Int.natCast_pow]; rfl, IntKind.wrap_u64]
    exact Int.emod_eq_of_lt (Int.natCast_nonneg _) (Int.ofNat_lt.2 hlt)
  rw [e1]
  exact u64_or_nat _ _ hv hlt
end Go.Proofs.YtkedgombccdamaaDoor
namespace Go.Proofs.YtkedgombccdamaaDoor
set_option linter.unusedVariables false
set_option linter.unusedSimpArgs false
section
variable {α β : Type} [DecidableEq α] [DecidableEq β]
theorem idx_mem {l r : List α} {x : α} (h : x ∈ l) : (l ++ r).idxOf x = l.idxOf x := by rw [List.idxOf_append, if_pos h]
theorem idx_not {l r : List α} {x : α} (h : ¬ x ∈ l) : (l ++ r).idxOf x = l.length + r.idxOf x := by rw [List.idxOf_append, if_neg h]; omega
def firsts (f : Nat → α) : Nat → List α
  | 0 => []
  | n + 1 => if f n ∈ firsts f n then firsts f n else firsts f n ++ [f n]
def num (f : Nat → α) (b : Nat) : Nat := (firsts f (b + 1)).idxOf (f b)
theorem firsts_succ (f : Nat → α) (n : Nat) : firsts f (n + 1) = if f n ∈ firsts f n then firsts f n else firsts f n ++ [f n] := rfl
theorem mem_firsts (f : Nat → α) (n : Nat) (x : α) : x ∈ firsts f n ↔ ∃ b, b < n ∧ f b = x := by
  induction n with
  | zero => simp [firsts]
  | succ n ih =>
    rw [firsts_succ]
    constructor
    · intro h
      split at h
      · obtain ⟨b, hb, e⟩ := ih.1 h; exact ⟨b, by omega, e⟩
      · rw [List.mem_append] at h
        rcases h with h | h
        · obtain ⟨b, hb, e⟩ := ih.1 h; exact ⟨b, by omega, e⟩
        · exact ⟨n, by omega, (List.mem_singleton.1 h).symm⟩
    · rintro ⟨b, hb, e⟩
      rcases Nat.lt_or_ge b n with h | h
      · have := ih.2 ⟨b, h, e⟩
        split
        · exact this
        · exact List.mem_append_left _ this
      · have : b = n := by omega
        subst this
        split
        · rename_i h1; rwa [e] at h1
        · simp [e]
theorem firsts_prefix (f : Nat → α) {n m : Nat} (h : n ≤ m) : ∃ r, firsts f m = firsts f n ++ r := by
  induction m with
  | zero => have : n = 0 := by omega
            subst this; exact ⟨[], by simp⟩
  | succ m ih =>
    rcases Nat.lt_or_ge m n with h1 | h1
    · have : n = m + 1 := by omega
      subst this; exact ⟨[], by simp⟩
    · obtain ⟨r, hr⟩ := ih h1
      rw [firsts_succ]
      split
      · exact ⟨r, hr⟩
      · exact ⟨r ++ [f m], by rw [hr, List.append_assoc]⟩
theorem idxOf_firsts (f : Nat → α) {n m : Nat} (h : n ≤ m) (x : α) (hx : x ∈ firsts f n) : (firsts f m).idxOf x = (firsts f n).idxOf x := by
  obtain ⟨r, hr⟩ := firsts_prefix f h
  rw [hr, idx_mem hx]
theorem mem_firsts_self (f : Nat → α) {b n : Nat} (h : b < n) : f b ∈ firsts f n := (mem_firsts f n _).2 ⟨b, h, rfl⟩
theorem num_eq (f : Nat → α) {b n : Nat} (h : b < n) : num f b = (firsts f n).idxOf (f b) := (idxOf_firsts f h (f b) (mem_firsts_self f (by omega))).symm
theorem num_lt (f : Nat → α) {b n : Nat} (h : b < n) : num f b < (firsts f n).length := by
  rw [num_eq f h]; exact List.idxOf_lt_length_of_mem (mem_firsts_self f h)
theorem firsts_length_le (f : Nat → α) (n : Nat) : (firsts f n).length ≤ n := by
  induction n with
  | zero => simp [firsts]
  | succ n ih =>
    rw [firsts_succ]
    split
    · omega
    · simp; omega
theorem num_iff (f : Nat → α) (b c : Nat) : num f b = num f c ↔ f b = f c := by
  have hb := num_eq f (show b < b + c + 1 by omega)
  have hc := num_eq f (show c < b + c + 1 by omega)
  rw [hb, hc]
  constructor
  · intro h
    have h1 := mem_firsts_self f (show b < b + c + 1 by omega)
    have h2 := mem_firsts_self f (show c < b + c + 1 by omega)
    have e1 := List.getElem_idxOf (List.idxOf_lt_length_of_mem h1)
    have e2 := List.getElem_idxOf (List.idxOf_lt_length_of_mem h2)
    rw [← e1, ← e2]
    simp only [h]
  · intro h; rw [h]
theorem firsts_kernel (f : Nat → α) (g : Nat → β) (N : Nat) (h : ∀ b c, b < N → c < N → (f b = f c ↔ g b = g c)) :
    ∀ n, n ≤ N → (firsts f n).length = (firsts g n).length ∧ ∀ b, b < n → (firsts f n).idxOf (f b) = (firsts g n).idxOf (g b) := by
  intro n
  induction n with
  | zero => intro _; exact ⟨rfl, fun b hb => by omega⟩
  | succ n ih =>
    intro hn
    obtain ⟨h1, h2⟩ := ih (by omega)
    have hm : f n ∈ firsts f n ↔ g n ∈ firsts g n := by
      rw [mem_firsts, mem_firsts]
      constructor
      · rintro ⟨b, hb, e⟩; exact ⟨b, hb, (h b n (by omega) (by omega)).1 e⟩
      · rintro ⟨b, hb, e⟩; exact ⟨b, hb, (h b n (by omega) (by omega)).2 e⟩
    rw [firsts_succ, firsts_succ]
    by_cases hf : f n ∈ firsts f n
    · have hg := hm.1 hf
      rw [if_pos hf, if_pos hg]
      refine ⟨h1, fun b hb => ?_⟩
      rcases Nat.lt_or_ge b n with hlt | hge
      · exact h2 b hlt
      · have : b = n := by omega
        subst this
        obtain ⟨c, hc, e⟩ := (mem_firsts f b _).1 hf
        have e2 := (h c b (by omega) (by omega)).1 e
        rw [← e, ← e2]
        exact h2 c hc
    · have hg : ¬ g n ∈ firsts g n := fun h => hf (hm.2 h)
      rw [if_neg hf, if_neg hg]
      refine ⟨by simp [h1], fun b hb => ?_⟩
      rcases Nat.lt_or_ge b n with hlt | hge
      · rw [idx_mem (mem_firsts_self f hlt), idx_mem (mem_firsts_self g hlt)]
        exact h2 b hlt
      · have : b = n := by omega
        subst this
        rw [idx_not hf, idx_not hg, h1]
        simp
theorem num_kernel (f : Nat → α) (g : Nat → β) (N : Nat) (h : ∀ b c, b < N → c < N → (f b = f c ↔ g b = g c)) (b : Nat) (hb : b < N) : num f b = num g b := by
  have := (firsts_kernel f g N h N (Nat.le_refl _)).2 b hb
  rw [num_eq f hb, num_eq g hb, this]
theorem many_kernel (f : Nat → α) (g : Nat → β) (N : Nat) (h : ∀ b c, b < N → c < N → (f b = f c ↔ g b = g c)) : (firsts f N).length = (firsts g N).length :=
  (firsts_kernel f g N h N (Nat.le_refl _)).1
theorem num_new (f : Nat → α) (b : Nat) (h : ¬ f b ∈ firsts f b) : num f b = (firsts f b).length := by
  unfold num
  rw [firsts_succ, if_neg h, idx_not h]
  simp
theorem num_old (f : Nat → α) (b : Nat) (h : f b ∈ firsts f b) : num f b = (firsts f b).idxOf (f b) := by
  unfold num
  rw [firsts_succ, if_pos h]
end
section
variable {α : Type} [DecidableEq α]
def fb (f : Nat → α) : Nat → List Nat
  | 0 => []
  | n + 1 => if f n ∈ firsts f n then fb f n else fb f n ++ [n]
end
def sig (l : List BSet) (b : Nat) : List Bool := l.map fun s => s.getLsbD b
def cls (l : List BSet) (b : Nat) : Int := (num (sig l) b : Int)
def many (l : List BSet) : Nat := (firsts (sig l) 256).length
def keyN (g : Nat → Int) (s : BSet) (b : Nat) : Int × Bool := (g b, s.getLsbD b)
theorem sig_snoc (l : List BSet) (s : BSet) (b c : Nat) : sig (l ++ [s]) b = sig (l ++ [s]) c ↔ sig l b = sig l c ∧ s.getLsbD b = s.getLsbD c := by
  simp [sig]
theorem key_kernel (l : List BSet) (s : BSet) (b c : Nat) : keyN (cls l) s b = keyN (cls l) s c ↔ sig (l ++ [s]) b = sig (l ++ [s]) c := by
  rw [sig_snoc]
  simp only [keyN, Prod.mk.injEq, cls, Int.natCast_inj, num_iff]
theorem cls_snoc (l : List BSet) (s : BSet) (b : Nat) : cls (l ++ [s]) b = (num (keyN (cls l) s) b : Int) := by
  unfold cls
  rw [num_kernel (sig (l ++ [s])) (keyN (cls l) s) (b + 1) (fun _ _ _ _ => (key_kernel l s _ _).symm) b (by omega)]
  rfl
theorem many_snoc (l : List BSet) (s : BSet) : many (l ++ [s]) = (firsts (keyN (cls l) s) 256).length :=
  many_kernel _ _ _ fun _ _ _ _ => (key_kernel l s _ _).symm
theorem cls_nil (b : Nat) : cls [] b = 0 := by
  have : num (sig []) b = num (sig []) 0 := (num_iff _ _ _).2 rfl
  unfold cls
  rw [this]
  rfl
theorem firsts_const (n : Nat) : firsts (sig []) (n + 1) = [[]] := by
  induction n with
  | zero => rfl
  | succ n ih =>
    rw [firsts_succ, ih, if_pos (by simp [sig])]
theorem many_nil : many [] = 1 := by
  unfold many
  rw [firsts_const 255]
  rfl
theorem many_le (l : List BSet) : many l ≤ 256 := firsts_length_le _ _
theorem cls_lt (l : List BSet) {b : Nat} (h : b < 256) : cls l b < many l := by
  have := num_lt (sig l) h
  unfold cls many
  omega
theorem cls_ge (l : List BSet) (b : Nat) : 0 ≤ cls l b := by unfold cls; omega
def clsC (g : Nat → Int) : Array Value := intsC .i64 ((List.range 256).map g)
theorem clsC_size (g : Nat → Int) : (clsC g).size = 256 := by simp [clsC, intsC_size]
theorem clsC_at (g : Nat → Int) (i : Nat) (h : i < 256) : (clsC g)[i]? = some (.int .i64 (g i)) := by
  unfold clsC
  rw [intsC_at _ _ i (by simpa using h)]
  simp
theorem clsC_ext {g h : Nat → Int} (e : ∀ b, b < 256 → g b = h b) : clsC g = clsC h := by
  unfold clsC
  congr 1
  apply List.map_congr_left
  intro b hb
  exact e b (by simpa using hb)
def putN (g : Nat → Int) (i : Nat) (v : Int) (b : Nat) : Int := if b = i then v else g b
theorem clsC_set (g : Nat → Int) (i : Nat) (v : Int) : (clsC g).setIfInBounds i (.int .i64 v) = clsC (putN g i v) := by
  unfold clsC
  rw [intsC_set]
  congr 1
  apply List.ext_getElem
  · simp
  · intro j h1 h2
    simp only [List.getElem_set, List.getElem_map, List.getElem_range, putN]
    by_cases e : i = j
    · subst e; simp
    · rw [if_neg e, if_neg (fun h => e h.symm)]
theorem clsC_oneCell (g : Nat → Int) : (clsC g).all (·.oneCell') = true := by
  unfold clsC intsC
  simp [Value.oneCell']
def upto (n : Nat) (new old : Nat → Int) (b : Nat) : Int := if b < n then new b else old b
theorem upto_zero (new old : Nat → Int) : upto 0 new old = old := by funext b; simp [upto]
theorem upto_ge (new old : Nat → Int) {n b : Nat} (h : n ≤ b) : upto n new old b = old b := by unfold upto; rw [if_neg (by omega)]
theorem upto_all (new old : Nat → Int) : clsC (upto 256 new old) = clsC new := clsC_ext fun b hb => by unfold upto; rw [if_pos hb]
theorem upto_put (new old : Nat → Int) (n : Nat) (v : Int) (h : v = new n) : putN (upto n new old) n v = upto (n + 1) new old := by
  funext b
  unfold putN upto
  by_cases e : b = n
  · subst e; simp [h]
  · rw [if_neg e]
    by_cases h2 : b < n
    · rw [if_pos h2, if_pos (by omega)]
    · rw [if_neg h2, if_neg (by omega)]
attribute [irreducible] clsC
end Go.Proofs.YtkedgombccdamaaDoor
namespace Go.Proofs.YtkedgombccdamaaDoor
open Go.RowKit Go.Maps Go.WideMaps
set_option linter.unusedVariables false
set_option linter.unusedSimpArgs false
theorem mapM_lits {P : Program} {e : TypeId} {q : IntKind} (he : P.underlying e = some (.int q)) (d : Nat) (xs : List Int) (hw : ∀ x ∈ xs, (Lit.int q x).wf = true) :
    ∀ is : List Nat, (∀ i ∈ is, i < xs.length) → (is.mapM fun i => P.keyLits (d + 1) e (((xs.map (Value.int q)).drop (i * 1)).take 1)) = some (is.map fun i => [Lit.int q (xs.getD i 0)]) := by
  intro is
  induction is with
  | nil => intro _; rfl
  | cons i is ih =>
    intro h
    have hi : i < xs.length := h i (by simp)
    have e1 : ((xs.map (Value.int q)).drop (i * 1)).take 1 = [.int q xs[i]] := by
      rw [Nat.mul_one, List.drop_eq_getElem_cons (by simpa using hi)]
      simp
    have e2 : xs.getD i 0 = xs[i] := by simp [hi]
    have hx := hw xs[i] (List.getElem_mem hi)
    rw [List.mapM_cons, ih fun j hj => h j (by simp [hj]), e1]
    simp [Program.keyLits, he, hx, hi]
theorem flatten_ones {α β : Type} (f : α → β) : ∀ l : List α, (l.map fun i => [f i]).flatten = l.map f
  | [] => rfl
  | x :: l => by simp [flatten_ones f l]
theorem keyOf_ints {P : Program} {k e : TypeId} {q : IntKind} {n : Nat} (A : ArrKey P k e n) (he : P.underlying e = some (.int q)) (hsz : ∃ m, P.types.size = m + 1) (xs : List Int) (hn : xs.length = n) (hw : ∀ x ∈ xs, (Lit.int q x).wf = true) :
    keyOf P k (.agg (intsC q xs)) = some (.string (keyBytes (xs.map (Lit.int q)))) := by
  have hkt := A.keyType hsz
  obtain ⟨m, hm⟩ := hsz
  have hc : (Value.agg (intsC q xs)).cells.toList = xs.map (Value.int q) := by simp [Value.cells, intsC]
  have e1 : ((List.range n).map fun i => [Lit.int q (xs.getD i 0)]).flatten = xs.map (Lit.int q) := by
    rw [flatten_ones, ← hn]
    apply List.ext_getElem
    · simp
    · intro i h1 h2
      have : i < xs.length := by simpa using h2
      simp [this]
  unfold keyOf
  simp only [A.hu]
  rw [if_pos (by simp [hkt, Value.formed, A.hu, A.size, intsC, hn]), hm, hc]
  unfold Program.keyLits
  simp only [A.hu]
  rw [if_pos (by rw [A.size]; simp [hn]), A.one, mapM_lits he m xs hw _ (fun i hi => by rw [List.mem_range] at hi; omega)]
  simp only [Option.map_some, e1]
theorem intsC_inj {k : IntKind} {l l' : List Int} (h : intsC k l = intsC k l') : l = l' := by
  have h1 := congrArg Array.toList h
  simp only [intsC] at h1
  exact (List.map_inj_right (f := Value.int k) (by intro a b e; injection e)).1 h1
structure KeyEnc (P : Program) (k : TypeId) (κ : Type) (ok : κ → Prop) (kv : κ → Value) (lit : κ → Lit) : Prop where
  law : Keyed P k
  key : ∀ x, ok x → keyOf P k (kv x) = some (lit x)
  inj : ∀ x y, kv x = kv y → x = y
section
variable {P : Program} {k e : TypeId} {κ : Type} {ok : κ → Prop} {kv : κ → Value} {lit : κ → Lit}
theorem KeyEnc.lit_ne (K : KeyEnc P k κ ok kv lit) {x y : κ} (hx : ok x) (hy : ok y) (h : y ≠ x) : lit y ≠ lit x := fun e => h (K.inj _ _ (K.law.inj (K.key y hy) (e ▸ K.key x hx)))
theorem KeyEnc.isKey (K : KeyEnc P k κ ok kv lit) {x : κ} (hx : ok x) : WideAt.IsKeyLit (lit x) := K.law.key (K.key x hx)
def IntMap (P : Program) (k e : TypeId) (ok : κ → Prop) (lit : κ → Lit) (w : World) (b n : Nat) (m : κ → Option Int) (cnt : Nat) : Prop :=
  ∃ D : DataW Unit, w.ownsMap P k (plainElem P e) b n D ∧ (∀ x, ok x → Maps.has D (lit x) = (m x).isSome) ∧ (∀ x, ok x → D.atKey (lit x) (.lit (.int .i64 0)) = .lit (.int .i64 ((m x).getD 0))) ∧ Maps.size D = cnt
theorem IntMap.new (K : KeyEnc P k κ ok kv lit) (w : World) {g : Nat} (hg : g = w.heap.size) : IntMap P k e ok lit (w.alloc (.map #[] 0)) g 0 (fun _ => none) 0 := by
  subst hg
  exact ⟨_, World.ownsMap_made w P k _, fun x _ => rfl, fun x _ => rfl, rfl⟩
theorem IntMap.lt {w : World} {b n cnt : Nat} {m : κ → Option Int} (h : IntMap P k e ok lit w b n m cnt) : b < w.heap.size := by
  obtain ⟨D, h1, _⟩ := h; exact h1.lt
theorem IntMap.then_ {w w' : World} {b n cnt : Nat} {m : κ → Option Int} (h : IntMap P k e ok lit w b n m cnt) (hb : Below w.heap.size w w') : IntMap P k e ok lit w' b n m cnt := by
  obtain ⟨D, h1, h2⟩ := h
  exact ⟨D, h1.kept (only_of_below hb none) (by simp), h2⟩
theorem IntMap.grown {w w' : World} {b n cnt j : Nat} {m : κ → Option Int} (h : IntMap P k e ok lit w b n m cnt) (hg : w.grownBy w' (some j)) (hne : b ≠ j) : IntMap P k e ok lit w' b n m cnt := by
  obtain ⟨D, h1, h2⟩ := h
  exact ⟨D, h1.kept hg (by simpa using hne), h2⟩
theorem IntMap.alloc {w : World} {b n cnt : Nat} {m : κ → Option Int} (h : IntMap P k e ok lit w b n m cnt) (o : Obj) : IntMap P k e ok lit (w.alloc o) b n m cnt := by
  obtain ⟨D, h1, h2⟩ := h
  exact ⟨D, h1.alloc o, h2⟩
theorem IntMap.more {w : World} {b n n' cnt : Nat} {m : κ → Option Int} (h : IntMap P k e ok lit w b n m cnt) (hn : n ≤ n') : IntMap P k e ok lit w b n' m cnt := by
  obtain ⟨D, h1, h2⟩ := h
  exact ⟨D, h1.mono hn, h2⟩
def putM [DecidableEq κ] (m : κ → Option Int) (x : κ) (v : Int) (y : κ) : Option Int := if y = x then some v else m y
section
variable {ops : Array Oper} {rest : List Oper} {o : Oper} {a : Act} {Q : Exit → Act → World → Prop} {w : World} {t : TypeId} {b n cnt : Nat} {mf : κ → Option Int}
theorem wl_map_ok (K : KeyEnc P k κ ok kv lit) (ht : P.underlying t = some (.map k e)) (he : P.underlying e = some (.int .i64)) (hz : (zeroValue e).run P w = .ok (.int .i64 0) w)
    (h : IntMap P k e ok lit w b n mf cnt) (hg : o.guard = none) (m x : Operand) (hop : o.op = Op.lookup t m x true) (hm : a.eval m = .map (some b)) (y : κ) (hy : ok y) (hx : a.eval x = kv y)
    (hK : wpList P ops Q rest (a.put o.dst (.tuple #[.int .i64 ((mf y).getD 0), .bool (mf y).isSome])) w) : wpList P ops Q (o :: rest) a w := by
  obtain ⟨D, h1, h2, h3, h4⟩ := h
  refine wpList_lookup_own_ok_int w hg m x t hop k e .i64 K.law ht he hz b n D hm h1 (kv y) (lit y) hx (K.key y hy) fun c hc _ => ?_
  rw [h3 y hy] at hc
  rw [h2 y hy]
  injection hc with hc
  injection hc with _ hc
  rw [← hc]
  exact hK
theorem wl_map_len (ht : P.underlying t = some (.map k e)) (h : IntMap P k e ok lit w b n mf cnt) (hg : o.guard = none) (m : Operand)
    (hop : o.op = Op.call { callee := Callee.builtin Builtin.len, args := #[m], argTypes := #[t] }) (hm : a.eval m = .map (some b))
    (hK : wpList P ops Q rest (a.put o.dst (.int .i64 cnt)) w) : wpList P ops Q (o :: rest) a w := by
  obtain ⟨D, h1, h2, h3, rfl⟩ := h
  exact wpList_len_own w hg m t hop k e ht _ b n D hm h1 hK
theorem wl_map_put [DecidableEq κ] (K : KeyEnc P k κ ok kv lit) (ht : P.underlying t = some (.map k e)) (he : P.underlying e = some (.int .i64))
    (h : IntMap P k e ok lit w b n mf cnt) (hn : n < maxLen) (hg : o.guard = none) (m x v : Operand) (hop : o.op = Op.mapUpdate t m x v) (hm : a.eval m = .map (some b)) (y : κ) (hy : ok y) (hx : a.eval x = kv y)
    (c : Int) (hv : a.eval v = .int .i64 c) (hc : (Lit.int .i64 c).wf = true)
    (hK : ∀ w', IntMap P k e ok lit w' b (n + 1) (putM mf y c) (if (mf y).isSome then cnt else cnt + 1) → w.grownBy w' (some b) → wpList P ops Q rest (a.put o.dst undef) w') : wpList P ops Q (o :: rest) a w := by
  obtain ⟨D, h1, h2, h3, h4⟩ := h
  refine wpList_mapUpdate_own w hg m x v t hop k e K.law ht _ b n D hm h1 hn (kv y) (.int .i64 c) (lit y) hx hv (K.key y hy) _ [] (plainElem_int he hc) fun w' h5 h6 => hK w' ?_ h6
  refine ⟨_, h5, fun z hz => ?_, fun z hz => ?_, ?_⟩
  · by_cases e1 : z = y
    · subst e1
      rw [Maps.has_put_same h1.isMap (K.isKey hy)]
      simp [putM]
    · rw [Maps.has_put_other (K.lit_ne hy hz e1), h2 z hz]
      simp [putM, e1]
  · by_cases e1 : z = y
    · subst e1
      rw [Maps.atKey_put_same h1.isMap (K.isKey hy)]
      simp [putM]
    · rw [Maps.atKey_put_other (K.lit_ne hy hz e1), h3 z hz]
      simp [putM, e1]
  · rw [Maps.size_put (h1.tidy K.law), h2 y hy, h4]
end
end
theorem types_pos : ∃ m, Tryd.prog.types.size = m + 1 := ⟨Tryd.prog.types.size - 1, by have : 0 < Tryd.prog.types.size := of_decide_eq_true (by kernel_rfl); omega⟩
theorem laid_out : laidOutB Tryd.prog = true := by kernel_rfl
theorem zero_int (w : World) : (zeroValue 3).run Tryd.prog w = .ok (.int .i64 0) w := by kernel_rfl
end Go.Proofs.YtkedgombccdamaaDoor
namespace Go.Proofs.YtkedgombccdamaaDoor
open Go.RowKit Go.Shelf Go.Maps
set_option linter.unusedVariables false
set_option linter.unusedSimpArgs false
attribute [local go_sem] Oper.semAt_some
section
variable {ops : Array Oper} {rest : List Oper} {o : Oper} {a : Act} {Q : Exit → Act → World → Prop} {w : World} {b n : Nat} {mf : Int → Option Value}
end
def edgesAt (E : List Edg) (n : Nat) : List Edg := E.filter fun d => d.fr == (n : Int)
theorem mem_edgesAt {E : List Edg} {n : Nat} {d : Edg} : d ∈ edgesAt E n ↔ d ∈ E ∧ d.fr = n := by simp [edgesAt]
def wordsFor (N : Nat) : Nat := (N + 63) / 64
theorem info_u64z : (Tryd.prog.info? 50).map (fun i => (i.zero, i.size, i.bytes)) = some (some (.int .u64 0), 1, 8) := by kernel_rfl
theorem words_room (N : Nat) : N ≤ 64 * wordsFor N := by unfold wordsFor; omega
end Go.Proofs.YtkedgombccdamaaDoor
namespace Go.Proofs.YtkedgombccdamaaDoor
open Go.RowKit Go.Shelf Go.Maps
set_option linter.unusedVariables false
set_option linter.unusedSimpArgs false
attribute [local go_sem] Oper.semAt_some
section
variable {α β : Type} {enc : α → Array Value} {enc2 : β → Array Value} {size size2 base base2 B g r : Nat} {e e2 t : TypeId} {W W' : World} {v v2 : Value} {ys : List α} {zs : List β} {cs : Array Value} {row : Option Nat}
theorem own_pop (hs : ∀ y, (enc y).size = size) {A : Option Addr} {n c : Nat} (h : Own W base e size enc (.slice A n c) ys) (hn : 0 < ys.length) : Own W base e size enc (.slice A (n - 1) c) ys.dropLast := by
  rcases h.2 with ⟨hv, h0⟩ | ⟨g', cap, cur, hv, hge, hh, hc, hm, hcs, ht⟩
  · omega
  · injection hv with hA hn2 hc2
    subst hA hn2 hc2
    have hlen : ys.dropLast.length = ys.length - 1 := List.length_dropLast
    unfold Own
    rw [hlen]
    refine ⟨by rw [flat_length hs, hlen], .inr ⟨g', c, cur, rfl, hge, hh, by omega, hm, hcs, ?_⟩⟩
    have e1 : flat enc ys.dropLast = (flat enc ys).take ((ys.length - 1) * size) := by
      rw [List.dropLast_eq_take]
      have e2 : flat enc ys = flat enc (ys.take (ys.length - 1)) ++ flat enc (ys.drop (ys.length - 1)) := by
        unfold flat
        rw [← List.flatMap_append, List.take_append_drop]
      rw [e2, List.take_left']
      rw [flat_length hs, List.length_take]
      congr 1
      omega
    rw [e1, ← ht, List.take_take, Nat.min_eq_left]
    exact Nat.mul_le_mul_right _ (by omega)
theorem own_same {v : Value} {xs ys : List α} (h : Own W base e size enc v xs) (h' : Own W base e size enc v ys) : flat enc xs = flat enc ys := by
  rcases h.2 with ⟨hv, h0⟩ | ⟨g', cap, cur, hv, hge, hh, hc, hm, hcs, ht⟩
  · rcases h'.2 with ⟨_, h1⟩ | ⟨g2, cap2, cur2, hv2, _⟩
    · rw [List.eq_nil_of_length_eq_zero h0, List.eq_nil_of_length_eq_zero h1]
    · rw [hv] at hv2; cases hv2
  · rcases h'.2 with ⟨hv2, _⟩ | ⟨g2, cap2, cur2, hv2, _, hh2, _, _, _, ht2⟩
    · rw [hv] at hv2; cases hv2
    · rw [hv] at hv2
      injection hv2 with e1 e2 e3
      injection e1 with e1
      injection e1 with e1
      subst e1
      rw [hh] at hh2
      injection hh2 with hh2
      injection hh2 with hh2
      subst hh2
      rw [← ht, ← ht2, e2]
end
def encN (n : Nat) : Array Value := #[.int .i64 (n : Int)]
theorem encN_size (v : Nat) : (encN v).size = 1 := rfl
theorem encN_one (v : Nat) : (encN v).all (·.oneCell') = true := by simp [encN, Value.oneCell']
theorem flat_encU_inj : ∀ {xs ys : List Nat}, flat encU xs = flat encU ys → xs = ys
  | [], [], _ => rfl
  | [], y :: ys, h => by simp [flat, encU] at h
  | x :: xs, [], h => by simp [flat, encU] at h
  | x :: xs, y :: ys, h => by
    have e1 : flat encU (x :: xs) = .int .u64 x :: flat encU xs := rfl
    have e2 : flat encU (y :: ys) = .int .u64 y :: flat encU ys := rfl
    rw [e1, e2] at h
    injection h with h1 h2
    injection h1 with _ h1
    rw [flat_encU_inj h2, Int.ofNat.inj h1]
end Go.Proofs.YtkedgombccdamaaDoor
namespace Go.Proofs.YtkedgombccdamaaDoor
open Go.RowKit
set_option linter.unusedVariables false
set_option linter.unusedSimpArgs false
structure GoInv (E : List Edg) (N : Nat) (b e : Bool) (x y : Nat) (L : List Nat) : Prop where
  sub : ∀ i, x.testBit i = true → y.testBit i = true
  bel : below y N
  rch : ∀ i, y.testBit i = true → Reach E b e x i
  inL : ∀ n ∈ L, y.testBit n = true
  cls : ∀ d ∈ E, may b e d = true → y.testBit d.fr.toNat = true → d.fr.toNat ∉ L → y.testBit d.tt.toNat = true
  cnt : L.length ≤ (bitsTo y N).length
structure GoIn (E : List Edg) (N : Nat) (b e : Bool) (x M n j y : Nat) (L : List Nat) : Prop where
  sub : ∀ i, x.testBit i = true → y.testBit i = true
  bel : below y N
  rch : ∀ i, y.testBit i = true → Reach E b e x i
  inL : ∀ n ∈ L, y.testBit n = true
  cls : ∀ d ∈ E, may b e d = true → y.testBit d.fr.toNat = true → d.fr.toNat ∉ L → d.fr.toNat ≠ n → y.testBit d.tt.toNat = true
  gone : ∀ d ∈ (edgesAt E n).take j, may b e d = true → y.testBit d.tt.toNat = true
  cur : y.testBit n = true
  cnt : L.length + 1 ≤ (bitsTo y N).length
  mu : 2 * (N - (bitsTo y N).length) + L.length < M
theorem GoInv.start {E : List Edg} {N x : Nat} {b e : Bool} (hx : below x N) : GoInv E N b e x x (bitsTo x N) :=
  ⟨fun _ h => h, hx, fun _ h => .base h, fun n hn => ((mem_bitsTo _ _ _).1 hn).2, fun d _ _ h1 h2 => (h2 ((mem_bitsTo _ _ _).2 ⟨hx _ h1, h1⟩)).elim, Nat.le_refl _⟩
theorem GoInv.end_ {E : List Edg} {N x y : Nat} {b e : Bool} (hE : ∀ d ∈ E, 0 ≤ d.tt ∧ d.tt < N) (hx : below x N) (h : GoInv E N b e x y []) : y = spreadN E N b e x :=
  spread_is hE hx h.sub (fun d hd hm h1 => h.cls d hd hm h1 (by simp)) h.rch
theorem GoInv.pop {E : List Edg} {N x y : Nat} {b e : Bool} {L : List Nat} {n : Nat} (h : GoInv E N b e x y (L ++ [n])) : GoIn E N b e x (2 * (N - (bitsTo y N).length) + (L.length + 1)) n 0 y L :=
  ⟨h.sub, h.bel, h.rch, fun m hm => h.inL m (by simp [hm]), fun d hd hm h1 h2 h3 => h.cls d hd hm h1 (by simp [h2, h3]), by simp, h.inL n (by simp), by have := h.cnt; simpa using this, by omega⟩
theorem GoIn.finish {E : List Edg} {N x M n j y : Nat} {b e : Bool} {L : List Nat} (hE : ∀ d ∈ E, 0 ≤ d.fr ∧ d.fr < N) (h : GoIn E N b e x M n j y L) (hj : (edgesAt E n).length ≤ j) : GoInv E N b e x y L :=
  ⟨h.sub, h.bel, h.rch, h.inL, fun d hd hm h1 h2 => by
    by_cases e1 : d.fr.toNat = n
    · refine h.gone d ?_ hm
      rw [List.take_of_length_le hj, mem_edgesAt]
      have := hE d hd
      exact ⟨hd, by omega⟩
    · exact h.cls d hd hm h1 h2 e1, by have := h.cnt; omega⟩
theorem GoIn.skip {E : List Edg} {N x M n j y : Nat} {b e : Bool} {L : List Nat} (h : GoIn E N b e x M n j y L) (hj : j < (edgesAt E n).length) (hd : may b e (edgesAt E n)[j] = true → y.testBit ((edgesAt E n)[j]).tt.toNat = true) : GoIn E N b e x M n (j + 1) y L :=
  ⟨h.sub, h.bel, h.rch, h.inL, h.cls, fun d hd2 hm => by
    rw [List.take_succ_eq_append_getElem hj, List.mem_append, List.mem_singleton] at hd2
    rcases hd2 with hd2 | rfl
    · exact h.gone d hd2 hm
    · exact hd hm, h.cur, h.cnt, h.mu⟩
theorem GoIn.add {E : List Edg} {N x M n j y : Nat} {b e : Bool} {L : List Nat} (hE : ∀ d ∈ E, 0 ≤ d.tt ∧ d.tt < N) (h : GoIn E N b e x M n j y L) (hj : j < (edgesAt E n).length) (hm : may b e (edgesAt E n)[j] = true) (hn : y.testBit ((edgesAt E n)[j]).tt.toNat = false) :
    GoIn E N b e x M n (j + 1) (y ||| 2 ^ ((edgesAt E n)[j]).tt.toNat) (L ++ [((edgesAt E n)[j]).tt.toNat]) := by
  have hmem := List.getElem_mem hj
  rw [mem_edgesAt] at hmem
  obtain ⟨d, hd⟩ : ∃ d, d = (edgesAt E n)[j] := ⟨_, rfl⟩
  rw [← hd] at hm hn hmem ⊢
  have htt := hE d hmem.1
  have htN : d.tt.toNat < N := by omega
  have hadd := bits_add htN hn
  have hlen := bitsTo_length (y ||| 2 ^ d.tt.toNat) N
  have up : ∀ i, y.testBit i = true → (y ||| 2 ^ d.tt.toNat).testBit i = true := fun i hi => by rw [testBit_or_pow, hi]; rfl
  refine ⟨fun i hi => up i (h.sub i hi), below_or h.bel (below_pow htN), fun i hi => ?_, fun m hm2 => ?_, fun d2 hd2 hm2 h1 h2 h3 => ?_, fun d2 hd2 hm2 => ?_, up n h.cur, ?_, ?_⟩
  · rw [testBit_or_pow, Bool.or_eq_true, decide_eq_true_eq] at hi
    rcases hi with hi | rfl
    · exact h.rch i hi
    · refine .step hmem.1 hm ?_
      rw [hmem.2]
      exact h.rch n h.cur
  · rw [List.mem_append, List.mem_singleton] at hm2
    rcases hm2 with hm2 | rfl
    · exact up m (h.inL m hm2)
    · rw [testBit_or_pow]; simp
  · rw [testBit_or_pow, Bool.or_eq_true, decide_eq_true_eq] at h1
    rw [List.mem_append, List.mem_singleton, not_or] at h2
    rcases h1 with h1 | h1
    · exact up _ (h.cls d2 hd2 hm2 h1 h2.1 h3)
    · exact (h2.2 h1.symm).elim
  · rw [List.take_succ_eq_append_getElem hj, List.mem_append, List.mem_singleton] at hd2
    rcases hd2 with hd2 | hd2
    · exact up _ (h.gone d2 hd2 hm2)
    · rw [hd2, ← hd, testBit_or_pow]; simp
  · have := h.cnt
    rw [List.length_append, hadd]
    simp only [List.length_singleton]
    omega
  · have := h.mu
    rw [hadd] at hlen ⊢
    rw [List.length_append]
    simp only [List.length_singleton]
    omega
section
open Classical
end
end Go.Proofs.YtkedgombccdamaaDoor
namespace Go.Proofs.YtkedgombccdamaaDoor
open Go.RowKit Go.Maps
set_option linter.unusedVariables false
set_option linter.unusedSimpArgs false
attribute [local go_sem] Oper.semAt_some
def bs (l : List UInt8) : ByteArray := ⟨l.toArray⟩
theorem bs_size (l : List UInt8) : (bs l).size = l.length := by simp [bs, ByteArray.size]
theorem bs_app (l m : List UInt8) : bs l ++ bs m = bs (l ++ m) := by
  apply ByteArray.ext
  rw [ByteArray.data_append]
  simp [bs]
theorem bs_inj {l m : List UInt8} (h : bs l = bs m) : l = m := by
  have := congrArg (fun b => b.data.toList) h
  simpa [bs] using this
theorem run_add_str (l m : List UInt8) (h : l.length + m.length ≤ 1099511627776) (w : World) : (binOp .add 9 (.string (bs l)) (.string (bs m))).run Tryd.prog w = .ok (.string (bs (l ++ m))) w := by
  rw [binOp_string_add]
  have h1 := bs_size l
  have h2 := bs_size m
  have h3 : ¬ ((((bs l).size + (bs m).size : Nat) : Int) > IntKind.i64.max) := by
    rw [h1, h2]
    have : IntKind.i64.max = 9223372036854775807 := by decide
    omega
  unfold Op.stringOp
  simp only [h3, if_false, bs_app]
  rfl
theorem conv_u32_u64 (r : Nat) (h : r < 4294967296) (w : World) : (Go.convert 43 50 (.int .u32 (r : Int))).run Tryd.prog w = .ok (.int .u64 (r : Int)) w := by
  have e : (Go.convert 43 50 (.int .u32 (r : Int))).run Tryd.prog w = .ok (.int .u64 (IntKind.u64.wrap (r : Int))) w := by kernel_rfl
  rw [e]
  have : IntKind.u64.wrap (r : Int) = (r : Int) := by simp [IntKind.wrap, IntKind.bits, IntKind.signed]; omega
  rw [this]
theorem enter_fu (args : Array Value) (w : World) : (callFunc 65 args).run Tryd.prog w = .ok (.enter 65 args) w := by kernel_rfl
section
variable {ops : Array Oper} {S : Nat → GSpec} {Q : Exit → Act → World → Prop} {i : Nat} {o : Oper} {a : Act} {w : World} {rest : List Oper}
theorem gs_add_str (hw : Region.wanted o (yielded ops a.tmps) = true) (x y : Operand) (t2 : TypeId) (ho : o.op = .binOp .add 9 x y t2) (l m : List UInt8) (hx : a.eval x = .string (bs l)) (hy : a.eval y = .string (bs m)) (h : l.length + m.length ≤ 1099511627776) (hp : (S i).p (.string (bs (l ++ m))) w) : GStep Tryd.prog ops S Q i o a w :=
  gs_bin hw _ _ _ x y ho _ _ _ hx hy (by rfl) (run_add_str l m h w) hp
theorem wl_add_str (hgd : o.guard = none) (x y : Operand) (t2 : TypeId) (ho : o.op = .binOp .add 9 x y t2) (l m : List UInt8) (hx : a.eval x = .string (bs l)) (hy : a.eval y = .string (bs m)) (h : l.length + m.length ≤ 1099511627776) (hK : wpList Tryd.prog ops Q rest (a.put o.dst (.string (bs (l ++ m)))) w) : wpList Tryd.prog ops Q (o :: rest) a w :=
  wl_bin hgd _ _ _ x y ho _ _ _ hx hy (by rfl) (run_add_str l m h w) hK
theorem gs_u32_u64 (hw : Region.wanted o (yielded ops a.tmps) = true) (x : Operand) (ho : o.op = .convert 43 50 x) (r : Nat) (hx : a.eval x = .int .u32 (r : Int)) (h : r < 4294967296) (hp : (S i).p (.int .u64 (r : Int)) w) : GStep Tryd.prog ops S Q i o a w :=
  gs_run hw (v := .int .u64 (r : Int)) (by unfold execOp; simp only [ho, hx, Sem.run_bind, conv_u32_u64 r h, Result.andThen_ok, Sem.run_pure]) (Below.refl _ _) hp
end
def momC (A : Option Addr) (k c r e : Nat) : Array Value := #[.slice A k c, .int .u32 (r : Int), .int .u32 (e : Int)]
theorem field_mom_1 (b off : Nat) (w : World) : (Instr.fieldAt 92 (.pointer (some ⟨b, off, none⟩)) 1).run Tryd.prog w = .ok (.pointer (some ⟨b, off + 1, none⟩)) w := by kernel_rfl
theorem field_mom_2 (b off : Nat) (w : World) : (Instr.fieldAt 92 (.pointer (some ⟨b, off, none⟩)) 2).run Tryd.prog w = .ok (.pointer (some ⟨b, off + 2, none⟩)) w := by kernel_rfl
theorem join36_len (l : List Nat) : (join36 l).length ≤ 15 * l.length := by
  induction l with
  | nil => simp [join36]
  | cons u l ih =>
    have := dig36_len u
    simp [join36]
    omega
set_option maxRecDepth 100000 in
set_option maxHeartbeats 4000000 in
theorem key_any (A : Option Addr) (k c r e : Nat) (ws : List Nat) (hk : k = ws.length) (hkl : k ≤ 1048576) (hr : r < 4294967296) (he : e < 4294967296) (hws : ∀ u ∈ ws, u < 18446744073709551616) (w : World) (hs : SliceOf w w.heap.size 1 encU A ws) :
    Calls Tryd.prog 37 #[.agg (momC A k c r e)] w fun en w' => en = .returned (.string (bs (keyL r e ws))) ∧ Below w.heap.size w w' := by
  have Hk := Lib.hid hk
  have Hws := Lib.hid hws
  clear hk hws
  go_enter Tryd.func37, Tryd.ntmps37
  have hM := Blk.new w 92 (momC A k c r e)
  have hB1 : Below w.heap.size w (w.alloc (.cells (momC A k c r e) 92)) := below_alloc (Below.refl _ _) _
  go_upto_region 1 with (fail)
  obtain ⟨W1, hW1⟩ : ∃ y, y = w.alloc (.cells (momC A k c r e) 92) := ⟨_, rfl⟩
  rw [← hW1] at hM hB1 ⊢
  clear hW1
  obtain ⟨gm, hgm⟩ : ∃ y, y = w.heap.size := ⟨_, rfl⟩
  rw [← hgm] at hM ⊢
  clear hgm
  refine wp_region_steps 11 [eqS (.pointer (some ⟨gm, 1, none⟩)), eqS (.int .u32 (((r : Nat) : Int))), eqS (.int .u64 (((r : Nat) : Int))), eqS (.string (bs (dig36 r))), eqS (.string (bs (dig36 r ++ [32]))), eqS (.pointer (some ⟨gm, 2, none⟩)), eqS (.int .u32 (((e : Nat) : Int))), eqS (.int .u64 (((e : Nat) : Int))), eqS (.string (bs (dig36 e))), eqS (.string (bs (dig36 r ++ [32] ++ dig36 e))), eqS (.string (bs (dig36 r ++ [32] ++ dig36 e)))] [6, 7, 8, 9, 10, 11, 12, 13, 14, 15, 3] follows_mixed (by kernel_rfl) (by kernel_rfl) ?_ ?_
  · skip
    refine Steps.cons (fun a' w' hG hB dep => gs_field (want_none rfl) _ _ _ rfl gm (0) (1) (hG.other 1 rfl) (fun wz => field_mom_1 gm (0) wz) rfl) ?_
    refine Steps.cons (fun a' w' hG hB dep => gs_load1 (want_none rfl) _ _ rfl gm (1) (dep 0 rfl 6 rfl) (.int .u32 (((r : Nat) : Int))) ((blk_then hM hB).cellv (i := 1) rfl) _ Tryd.underlying43 rfl rfl) ?_
    refine Steps.cons (fun a' w' hG hB dep => gs_u32_u64 (want_none rfl) _ rfl r (dep 1 rfl 7 rfl) hr rfl) ?_
    refine Steps.cons (fun a' w' hG hB dep => gs_call (want_none rfl) _ _ _ rfl enter_fu #[(.int .u64 (((r : Nat) : Int))), .int .i64 36] (map2 (dep 2 rfl 8 rfl) rfl) (ret_step (uint36_any r (by omega) _) (fun _ => rfl))) ?_
    refine Steps.cons (fun a' w' hG hB dep => gs_add_str (want_none rfl) _ _ _ rfl (dig36 r) ([32]) (dep 3 rfl 9 rfl) rfl (by have := dig36_len r; have := dig36_len e; simp [bs_size]; omega) rfl) ?_
    refine Steps.cons (fun a' w' hG hB dep => gs_field (want_none rfl) _ _ _ rfl gm (0) (2) (hG.other 1 rfl) (fun wz => field_mom_2 gm (0) wz) rfl) ?_
    refine Steps.cons (fun a' w' hG hB dep => gs_load1 (want_none rfl) _ _ rfl gm (2) (dep 5 rfl 11 rfl) (.int .u32 (((e : Nat) : Int))) ((blk_then hM hB).cellv (i := 2) rfl) _ Tryd.underlying43 rfl rfl) ?_
    refine Steps.cons (fun a' w' hG hB dep => gs_u32_u64 (want_none rfl) _ rfl e (dep 6 rfl 12 rfl) he rfl) ?_
    refine Steps.cons (fun a' w' hG hB dep => gs_call (want_none rfl) _ _ _ rfl enter_fu #[(.int .u64 (((e : Nat) : Int))), .int .i64 36] (map2 (dep 7 rfl 13 rfl) rfl) (ret_step (uint36_any e (by omega) _) (fun _ => rfl))) ?_
    refine Steps.cons (fun a' w' hG hB dep => gs_add_str (want_none rfl) _ _ _ rfl (dig36 r ++ [32]) (dig36 e) (dep 4 rfl 10 rfl) (dep 8 rfl 14 rfl) (by have := dig36_len r; have := dig36_len e; simp [bs_size]; omega) rfl) ?_
    refine Steps.cons (fun a' w' hG hB dep => gs_assign (want_none rfl) _ rfl (id (dep 9 rfl 15 rfl))) ?_
    exact Steps.nil
  intro uu w2 hB2 ans
  have u3 : uu 3 = .string (bs ((dig36 r ++ [32]) ++ dig36 e)) := ans 10 3 (by decide) rfl
  clear ans
  simp only [putAll, List.foldl_cons, List.foldl_nil, Act.put, List.setIfInBounds_toArray, List.set_cons_zero, List.set_cons_succ, u3]
  clear u3
  simp only [List.drop]
  refine wpList_nil ?_
  have e0 : (dig36 r ++ [32]) ++ dig36 e = keyL r e (ws.take 0) := by simp [keyL, join36]
  rw [e0]
  replace hM := blk_then hM hB2
  replace hB1 := below_then hB1 hB2
  have c0 : w2.cell? ⟨gm, 0, none⟩ = some (.slice A k c) := hM.cellv (i := 0) rfl
  clear e0 hB2
  go_wp2_with (fail)
  go_loopw [3, 19] (fun sv iv wr => ∃ j : Nat, j ≤ k ∧ iv = .int .i64 j ∧ sv = .string (bs (keyL r e (ws.take j))) ∧ Below w.heap.size w wr) (fun _ iv _ => k - (intOf iv).toNat)
  case atStart => exact ⟨0, by omega, rfl, rfl, hB1⟩
  case round =>
    clear hB1 c0 hM
    obtain ⟨j, hj, rfl, rfl, hB⟩ := hrel
    by_cases hjk : j < k
    · have hjI : (j : Int) < k := by omega
      have hjb : j < 1099511628000 := by omega
      have hjl : j < ws.length := by rw [← Hk.out]; exact hjk
      obtain ⟨ba, off, rfl, hba, hrows⟩ := hs.at_ (by omega)
      obtain ⟨u, hu⟩ : ∃ u, u = ws[j] := ⟨_, rfl⟩
      have hul : u < 18446744073709551616 := by rw [hu]; exact Hws.out _ (List.getElem_mem hjl)
      have hc : wr.cell? ⟨ba, off + j, none⟩ = some (.int .u64 (u : Int)) := by
        have := ((hrows j hjl).keep (hB.block ba (by omega))) 0 _ rfl
        rw [Nat.mul_one, Nat.add_zero, ← hu] at this
        exact this
      have hkey : keyL r e (ws.take (j + 1)) = keyL r e (ws.take j) ++ ([32] ++ dig36 u) := by
        rw [List.take_succ_eq_append_getElem hjl, ← hu]
        unfold keyL
        rw [← List.cons_append, join36_snoc]
        simp
      have hlen : (keyL r e (ws.take j)).length ≤ 15 * k + 29 := by
        have h1 := dig36_len r
        have h2 := join36_len (e :: ws.take j)
        unfold keyL
        rw [List.length_append]
        simp only [List.length_cons, List.length_take] at h2
        omega
      have hlu := dig36_len u
      have Hkey := Lib.hid hkey
      obtain ⟨K, hK⟩ : ∃ K, K = keyL r e (ws.take j) := ⟨_, rfl⟩
      rw [← hK] at hlen ⊢
      have HK := Lib.hid hK
      have Hlen := Lib.hid (And.intro hlen hlu)
      clear hkey hlen hlu hK hu hrows
      go_wp2_with (first
        | (go_at_call 65; refine (uint36_any u hul _).mono ?_; rintro en w3 ⟨rfl, hB3⟩)
        | (refine wl_add_str rfl _ _ _ rfl [32] (dig36 u) rfl rfl (by have := Hlen.out; simp; omega) ?_)
        | (refine wl_add_str rfl _ _ _ rfl K ([32] ++ dig36 u) rfl rfl (by have := Hlen.out; simp; omega) ?_))
      exact ⟨⟨j + 1, by omega, rfl, by rw [Hkey.out, ← HK.out]; rfl, below_then hB hB3⟩, by simp only [intOf]; omega⟩
    · have hjI : ¬ (j : Int) < k := by omega
      have ht : ws.take j = ws := List.take_of_length_le (by have := Hk.out; omega)
      rw [ht]
      go_wp2_with (fail)
      go_ret
      exact ⟨rfl, hB⟩
end Go.Proofs.YtkedgombccdamaaDoor
namespace Go.Proofs.YtkedgombccdamaaDoor
open Go.RowKit Go.Maps
theorem Turn.above {lo hi lo2 hi2 : Nat} {w w' w2 : World} (h : Turn lo hi w w') (k : Turn lo2 hi2 w' w2) (hl : w.heap.size ≤ lo2) : Turn lo hi w w2 :=
  ⟨k.os.trans h.os, k.tape.trans h.tape, k.output.trans h.output, Nat.le_trans h.size k.size, fun j hj hh => (k.block j (by have := h.size; omega) (.inl (by omega))).trans (h.block j hj hh)⟩
end Go.Proofs.YtkedgombccdamaaDoor
namespace Go.Proofs.YtkedgombccdamaaDoor
open Go.RowKit Go.Shelf Go.Maps
set_option linter.unusedVariables false
set_option linter.unusedSimpArgs false
attribute [local go_sem] Oper.semAt_some
set_option maxHeartbeats 400000 in
theorem khas_any (A : Option Addr) (k c x n : Nat) (hn : n < 64 * k) (hkb : k ≤ 1099511627776) (B : Nat) (w : World) (hs : SliceOf w B 1 encU A (wordsN x k)) :
    Calls Tryd.prog 69 #[.slice A k c, .int .i64 n] w fun e w' => e = .returned (.bool (x.testBit n)) ∧ w' = w := by
  have hj : n / 64 < (wordsN x k).length := by rw [wordsN_length]; omega
  obtain ⟨b, off, rfl, hb, hrow⟩ := hs.at_ (by omega)
  have hc := hrow (n / 64) hj 0 _ rfl
  rw [wordsN_get] at hc
  have hc' : w.cell? ⟨b, off + n / 64, none⟩ = some (.int .u64 (wordN x (n / 64) : Nat)) := by rw [Nat.mul_one] at hc; exact hc
  have hk : n / 64 < k := by omega
  have hbit := u64_bit (n := n % 64) (wordN_lt' x (n / 64))
  rw [has_word] at hbit
  clear hc hrow hs
  go_enter Tryd.func69, Tryd.ntmps69
  go_wp2
  go_ret
  exact ⟨rfl, rfl⟩
set_option maxHeartbeats 400000 in
theorem kadd_any (g k c x n base : Nat) (hn : n < 64 * k) (hkb : k ≤ 1099511627776) (w : World) (hs : Own w base 50 1 encU (.slice (some ⟨g, 0, none⟩) k c) (wordsN x k)) :
    Calls Tryd.prog 66 #[.slice (some ⟨g, 0, none⟩) k c, .int .i64 n] w fun e w' => e = .returned (.tuple #[]) ∧ Own w' base 50 1 encU (.slice (some ⟨g, 0, none⟩) k c) (wordsN (x ||| 2 ^ n) k) ∧ w.grownBy w' (some g) := by
  have hj : n / 64 < (wordsN x k).length := by rw [wordsN_length]; omega
  have hc := hs.row encU_size (n / 64) hj 0 _ rfl
  rw [wordsN_get, Nat.mul_one] at hc
  have hc' : w.cell? ⟨g, n / 64, none⟩ = some (.int .u64 (wordN x (n / 64) : Nat)) := hc
  have f1 := hs.frozen (n / 64)
  have hk : n / 64 < k := by omega
  have hor := u64_or_pow (n := n % 64) (wordN_lt' x (n / 64)) (by omega)
  clear hc
  go_enter Tryd.func66, Tryd.ntmps66
  go_region
  go_end0
  refine ⟨rfl, ?_, only_drew (only_setCell (only_refl _ _) (.inl rfl) _)⟩
  have o1 := hs.setCell (i := n / 64) (q := 0) (y' := wordN x (n / 64) ||| 2 ^ (n % 64)) (u := .int .u64 ((wordN x (n / 64) ||| 2 ^ (n % 64) : Nat) : Int)) encU_size hj (by omega) rfl
  rw [words_add, Nat.mul_one, Nat.add_zero] at o1
  exact o1.drew
def kmC (N : Nat) (A : Option Addr) (n c : Nat) (B : Option Addr) (m d bf cF : Nat) : Array Value := #[.int .i64 (N : Int), .slice A n c, .slice B m d, .slice (some ⟨bf, 0, none⟩) N cF]
structure SMach (nb : Nat) (W : World) (gk N : Nat) (E : List Edg) (R : List Nat) : Prop where
  fits : Fits N E R
  lN : N ≤ 1048576
  lE : E.length ≤ 1099511627776
  lt : ∀ r ∈ R, r < 4294967296
  low : nb ≤ W.heap.size
  mem : gk < nb ∧ ∃ A n c B d bf cF, Blk W gk 80 (kmC N A n c B R.length d bf cF) ∧ SliceOf W nb 1 encR B R ∧ bf < nb ∧
    ∀ s, s < N → ∃ As cs, W.cell? ⟨bf, s, none⟩ = some (.slice As (edgesAt E s).length cs) ∧ SliceOf W nb 7 edgC As (edgesAt E s)
theorem SMach.keep {nb : Nat} {W W' : World} {gk N : Nat} {E : List Edg} {R : List Nat} (h : SMach nb W gk N E R) (hk : ∀ k, k < nb → W'.heap[k]? = W.heap[k]?) (hs : W.heap.size ≤ W'.heap.size) : SMach nb W' gk N E R := by
  obtain ⟨h1, A, n, c, B, d, bf, cF, h2, h3, h4, h5⟩ := h.mem
  refine ⟨h.fits, h.lN, h.lE, h.lt, Nat.le_trans h.low hs, h1, A, n, c, B, d, bf, cF, (hk gk h1).trans h2, h3.keep hk, h4, fun s hs => ?_⟩
  obtain ⟨As, cs, e1, e2⟩ := h5 s hs
  exact ⟨As, cs, (World.cell?_of_block (w := W) (hk bf h4)).trans e1, e2.keep hk⟩
theorem SMach.below {nb n : Nat} {W W' : World} {gk N : Nat} {E : List Edg} {R : List Nat} (h : SMach nb W gk N E R) (hb : Below n W W') (hn : nb ≤ n) : SMach nb W' gk N E R := h.keep (fun k hk => hb.block k (by omega)) hb.size
theorem SMach.turn {nb lo hi : Nat} {W W' : World} {gk N : Nat} {E : List Edg} {R : List Nat} (h : SMach nb W gk N E R) (hb : Turn lo hi W W') (hn : nb ≤ lo) : SMach nb W' gk N E R := h.keep (fun k hk => hb.block k (by have := h.low; omega) (.inl (by omega))) hb.size
theorem kwords (N : Nat) : ((N : Int) + 63) / 64 = ((wordsFor N : Nat) : Int) := by unfold wordsFor; omega
set_option maxHeartbeats 400000 in
theorem knone_any (nb gk N : Nat) (E : List Edg) (R : List Nat) (w : World) (h : SMach nb w gk N E R) :
    Calls Tryd.prog 39 #[.pointer (some ⟨gk, 0, none⟩)] w fun e w' => ∃ g, e = .returned (.slice (some ⟨g, 0, none⟩) (wordsFor N) (wordsFor N)) ∧ w.heap.size ≤ g ∧ Own w' w.heap.size 50 1 encU (.slice (some ⟨g, 0, none⟩) (wordsFor N) (wordsFor N)) (wordsN 0 (wordsFor N)) ∧ Below w.heap.size w w' := by
  have hN := h.lN
  obtain ⟨h1, A, n, c, B, d, bf, cF, hb, h3, h4, h5⟩ := h.mem
  have c0 : w.cell? ⟨gk, 0, none⟩ = some (.int .i64 (N : Int)) := hb.cellv rfl
  obtain ⟨i0, hi0, hz0, hz1, hz2⟩ := info_parts info_u64z
  have hkI := kwords N
  have hk2 : wordsFor N ≤ 549755813889 := by unfold wordsFor; omega
  clear hb h h5
  go_enter Tryd.func39, Tryd.ntmps39
  go_wp2_with (at_make; refine wpList_make_full _ rfl _ _ 90 rfl w.heap.size 50 i0 _ 1 Tryd.underlying90 hi0 hz0 hz1 _ _ _ _ (wordsFor N) rfl rfl hkI hkI (by rw [hz2]; omega) (by unfold maxLen; omega) (Nat.le_refl _) ?_; intro w1 hown hg)
  go_ret
  refine ⟨w.heap.size, rfl, Nat.le_refl _, ?_, ⟨hg.os, hg.tape, hg.output, hg.size, fun k hk => hg.block k hk (by simp)⟩⟩
  have e1 : (madeCells (Value.int .u64 0).cells (wordsFor N * 1)).toList = flat encU (wordsN 0 (wordsFor N)) := by
    rw [wordsN_zero]
    apply List.ext_getElem
    · rw [Array.length_toList, size_madeCells]
      simp [flat, encU]
    · intro j h1 h2
      simp [madeCells, Value.cells, flat, encU, List.flatMap_replicate]
      rw [Nat.mod_one]
      rfl
  rw [e1] at hown
  unfold Own
  rw [wordsN_length]
  exact hown
theorem met_succ (R : List Nat) (x n : Nat) : metN R x (n + 1) = if x.testBit n = true then metN R x n ||| R.getD n 0 else metN R x n := by
  unfold metN
  rw [bitsTo_succ]
  split <;> simp
set_option maxRecDepth 100000 in
set_option maxHeartbeats 2000000 in
theorem krules_any (nb gk N B g c x : Nat) (E : List Edg) (R : List Nat) (w : World) (h : SMach nb w gk N E R) (hs : SliceOf w B 1 encU (some ⟨g, 0, none⟩) (wordsN x (wordsFor N))) :
    Calls Tryd.prog 68 #[.pointer (some ⟨gk, 0, none⟩), .slice (some ⟨g, 0, none⟩) (wordsFor N) c] w fun e w' => e = .returned (.int .u32 (metN R x N : Nat)) ∧ w' = w := by
  have hN := h.lN
  have hlt := h.lt
  have hlr := h.fits.rules
  obtain ⟨h1, A, n, c2, B2, d, bf, cF, hb, hR, h4, h5⟩ := h.mem
  rw [hlr] at hb
  have c2 : w.cell? ⟨gk, 2, none⟩ = some (.slice B2 N d) := hb.cellv (i := 2) rfl
  have hkb : wordsFor N ≤ 1099511627776 := by unfold wordsFor; omega
  have Hlt := Lib.hid hlt
  have Hlr := Lib.hid hlr
  have Hs := Lib.hid hs
  clear hb h h5 hlt hlr hs
  go_enter Tryd.func68, Tryd.ntmps68
  go_wp2_with (fail)
  go_loopw [5, 14] (fun rv iv wr => ∃ j : Nat, j ≤ N ∧ iv = .int .i64 j ∧ rv = .int .u32 ((metN R x j : Nat) : Int) ∧ wr = w) (fun _ iv _ => N - (intOf iv).toNat)
  case atStart => exact ⟨0, by omega, rfl, by simp [metN, bitsTo], rfl⟩
  case round =>
    obtain ⟨j, hj, rfl, rfl, rfl⟩ := hrel
    by_cases hjl : j < N
    · have hjI : (j : Int) < N := by omega
      have hjb : j < 1099511628000 := by omega
      have hjr : j < R.length := by rw [Hlr.out]; exact hjl
      obtain ⟨ba, off, rfl, hba, hrows⟩ := hR.at_ (by omega)
      obtain ⟨v, hv⟩ : ∃ v, v = R[j] := ⟨_, rfl⟩
      have hc : wr.cell? ⟨ba, off + j, none⟩ = some (.int .u32 (v : Int)) := by
        have := (hrows j hjr) 0 _ rfl
        rw [Nat.mul_one, Nat.add_zero, ← hv] at this
        exact this
      have hvl : v < 4294967296 := by rw [hv]; exact Hlt.out _ (List.getElem_mem hjr)
      have hml : metN R x j < 4294967296 := met_lt (fun r hr => Hlt.out r hr) x j
      have hst := met_succ R x j
      rw [show R.getD j 0 = v by rw [List.getD_eq_getElem?_getD, List.getElem?_eq_getElem hjr, Option.getD_some, hv]] at hst
      obtain ⟨m0, hm0⟩ : ∃ m, m = metN R x j := ⟨_, rfl⟩
      rw [← hm0] at hml hst ⊢
      have hor := u32_or_nat m0 v hml hvl
      have hh := khas_any (some ⟨g, 0, none⟩) (wordsFor N) c x j (by have := words_room N; omega) hkb B wr Hs.out
      obtain ⟨b, hbt⟩ : ∃ b, x.testBit j = b := ⟨_, rfl⟩
      rw [hbt] at hh hst
      have Hst := Lib.hid hst
      clear hst hm0 hv hrows hbt hml hvl
      cases b with
      | true =>
        go_wp2_with (go_at_call 69; refine hh.mono ?_; rintro e w5 ⟨rfl, rfl⟩)
        exact ⟨⟨j + 1, by omega, rfl, by rw [Hst.out]; rfl, trivial⟩, by simp only [intOf]; omega⟩
      | false =>
        go_wp2_with (go_at_call 69; refine hh.mono ?_; rintro e w5 ⟨rfl, rfl⟩)
        exact ⟨⟨j + 1, by omega, rfl, by rw [Hst.out]; rfl, trivial⟩, by simp only [intOf]; omega⟩
    · have hjI : ¬ (j : Int) < N := by omega
      obtain rfl : j = N := by omega
      go_wp2_with (fail)
      go_ret
      exact ⟨rfl, rfl⟩
end Go.Proofs.YtkedgombccdamaaDoor
namespace Go.Proofs.YtkedgombccdamaaDoor
open Go.RowKit Go.Shelf Go.Maps
set_option linter.unusedVariables false
set_option linter.unusedSimpArgs false
attribute [local go_sem] Oper.semAt_some
theorem under_intsK : Tryd.prog.underlying 67 = some (.slice (Tryd.prog.elem 67)) := by kernel_rfl
theorem size_intK (w : World) : (sizeOf (Tryd.prog.elem 67)).run Tryd.prog w = .ok 1 w := by kernel_rfl
section
variable {ops : Array Oper} {rest : List Oper} {o : Oper} {a : Act} {w : World} {Q : Exit → Act → World → Prop}
theorem wl_pushI (hgd : o.guard = none) (s x : Operand) (ho : o.op = .call { callee := .builtin .append, args := #[s, x], argTypes := #[67, 67] })
    (base : Nat) (l : List Nat) (z : Nat) {A : Option Addr} {n c g : Nat} (hs : a.eval s = .slice A n c) (hx : a.eval x = .slice (some ⟨g, 0, none⟩) 1 1) (hb1 : Blk w g 3 (encN z)) (hown : Own w base 3 1 encN (.slice A n c) l) (hn : n = l.length) (hl : l.length ≤ 1099511627776) (hbase : base ≤ w.heap.size)
    (h : ∀ A' c' w', Own w' base 3 1 encN (.slice A' (n + 1) c') (l ++ [z]) → w.grownBy w' (Value.slice A n c).ownBlock → wpList Tryd.prog ops Q rest (a.put o.dst (.slice A' (n + 1) c')) w') : wpList Tryd.prog ops Q (o :: rest) a w := by
  obtain ⟨ii, hii, hz0, hz1, hz2⟩ := info_parts info_int3
  subst hn
  refine wl_append _ hgd _ _ 67 ho base 3 ii _ 1 8 Tryd.underlying67 hii hz0 hz1 hz2 rfl (by decide) encN_size encN_one (.slice A l.length c) l hs hown _ _ 1 1 [z] hx rfl (slice_one (enc := encN) hb1) (by unfold maxLen; omega) (by omega) hbase ?_
  intro v' w' ho' hg hv
  obtain ⟨A', c', rfl, _, _⟩ := ho'.shape
  have hl8 : (l ++ [z]).length = l.length + 1 := by simp
  rw [hl8] at ho' hv ⊢
  exact h _ _ _ ho' hg
end
def lenV : Value → Nat
  | .slice _ n _ => n
  | _ => 0
section
open Classical
noncomputable def subLeft (N base g c : Nat) (v : Value) (wr : World) : Nat :=
  if h : ∃ y : Nat, Own wr base 50 1 encU (.slice (some ⟨g, 0, none⟩) (wordsFor N) c) (wordsN y (wordsFor N)) ∧ below y N then 2 * (N - (bitsTo (Classical.choose h) N).length) + lenV v else 0
end
theorem subLeft_eq {N base g c y n k : Nat} {A : Option Addr} {wr : World} (h2 : Own wr base 50 1 encU (.slice (some ⟨g, 0, none⟩) (wordsFor N) c) (wordsN y (wordsFor N))) (h3 : below y N) :
    subLeft N base g c (.slice A n k) wr = 2 * (N - (bitsTo y N).length) + n := by
  have hex : ∃ y : Nat, Own wr base 50 1 encU (.slice (some ⟨g, 0, none⟩) (wordsFor N) c) (wordsN y (wordsFor N)) ∧ below y N := ⟨y, h2, h3⟩
  unfold subLeft
  rw [dif_pos hex]
  obtain ⟨e2, e3⟩ := Classical.choose_spec hex
  have ey : Classical.choose hex = y := wordsN_inj (Nat.lt_of_lt_of_le (below_lt e3) (Nat.pow_le_pow_right (by decide) (words_room N))) (Nat.lt_of_lt_of_le (below_lt h3) (Nat.pow_le_pow_right (by decide) (words_room N))) (flat_encU_inj (own_same e2 h2))
  rw [ey]
  rfl
set_option maxRecDepth 100000 in
set_option maxHeartbeats 8000000 in
theorem kspread_any (nb gk N base g c x : Nat) (E : List Edg) (R : List Nat) (beg en : Bool) (hx : below x N) (w : World) (hM : SMach nb w gk N E R) (hS : Own w base 50 1 encU (.slice (some ⟨g, 0, none⟩) (wordsFor N) c) (wordsN x (wordsFor N))) (hgn : nb ≤ g) :
    Calls Tryd.prog 67 #[.pointer (some ⟨gk, 0, none⟩), .slice (some ⟨g, 0, none⟩) (wordsFor N) c, .bool beg, .bool en] w fun e w' => e = .returned (.tuple #[]) ∧ Own w' base 50 1 encU (.slice (some ⟨g, 0, none⟩) (wordsFor N) c) (wordsN (spreadN E N beg en x) (wordsFor N)) ∧ Turn g (g + 1) w w' := by
  have hN := hM.lN
  have HF := Lib.hid hM.fits
  have hkb : wordsFor N ≤ 1099511627776 := by unfold wordsFor; omega
  have hgl := (hS.lt g rfl).2
  have hkI := words_room N
  have hMt := fun W (hW : Turn g (g + 1) w W) => hM.turn hW hgn
  have HMt := Lib.hid hMt
  have c0 : w.cell? ⟨gk, 0, none⟩ = some (.int .i64 (N : Int)) := by
    obtain ⟨h1, A, n, c, B, d, bf, cF, hb, h3, h4, h5⟩ := hM.mem
    exact hb.cellv rfl
  have hT0 := Turn.refl g (g + 1) w
  have Hx := Lib.hid hx
  have HT0 := Lib.hid hM.low
  clear hMt hM hx
  go_enter Tryd.func67, Tryd.ntmps67
  go_wp2_with (fail)
  go_loopw [8, 19] (fun v8 iv wr => ∃ (j : Nat) (A : Option Addr) (m k : Nat) (L : List Nat), j ≤ N ∧ iv = .int .i64 j ∧ v8 = .slice A m k ∧ Hid (L = bitsTo x j ∧ m = L.length) ∧ m ≤ j ∧ Own wr w.heap.size 3 1 encN (.slice A m k) L ∧ Below w.heap.size w wr) (fun _ iv _ => N - (intOf iv).toNat)
  case atStart => exact ⟨0, none, 0, 0, [], by omega, rfl, rfl, Lib.hid ⟨by simp [bitsTo], rfl⟩, by omega, Own.nil_ _ _ _ _ _, Below.refl _ _⟩
  case round =>
    obtain ⟨j, A, m, k, L, hj, rfl, rfl, HL, hmj, hL, hB⟩ := hrel
    by_cases hjl : j < N
    · have hjI : (j : Int) < N := by omega
      have hjb : j < 1099511628000 := by omega
      have hh := khas_any (some ⟨g, 0, none⟩) (wordsFor N) c x j (by omega) hkb _ wr ((hS.then_ hB).slice_all encU_size)
      obtain ⟨b, hbt⟩ : ∃ b, x.testBit j = b := ⟨_, rfl⟩
      rw [hbt] at hh
      have Hb := Lib.hid hbt
      clear hbt
      cases b with
      | true =>
        go_wp2_with (first
          | (go_at_call 69; refine hh.mono ?_; rintro e w5 ⟨rfl, rfl⟩)
          | (at_builtin; refine wl_pushI rfl _ _ rfl w.heap.size L j rfl rfl (Blk.new _ _ _) (hL.then_ (below_alloc (Below.refl _ _) _)) HL.out.2 (by have := HL.out.2; omega) (by have := hB.size; simp; omega) ?_; intro A' c' w6 hL6 hg6))
        refine ⟨⟨j + 1, A', m + 1, c', L ++ [j], by omega, rfl, rfl, Lib.hid ⟨?_, ?_⟩, by omega, hL6, ?_⟩, by simp only [intOf]; omega⟩
        · rw [bitsTo_succ, if_pos Hb.out, HL.out.1]
        · have := HL.out.2; simp; omega
        · exact (below_alloc hB _).grown hg6 (by have := hB.size; simp; omega) (fun r e => by have := hL.lt r e; omega)
      | false =>
        go_wp2_with (go_at_call 69; refine hh.mono ?_; rintro e w5 ⟨rfl, rfl⟩)
        exact ⟨⟨j + 1, A, m, k, L, by omega, rfl, rfl, Lib.hid ⟨by rw [bitsTo_succ, Hb.out, HL.out.1]; simp, HL.out.2⟩, by omega, hL, hB⟩, by simp only [intOf]; omega⟩
    · have hjI : ¬ (j : Int) < N := by omega
      obtain rfl : N = j := by omega
      have hG : GoInv E N beg en x x L := by rw [HL.out.1]; exact GoInv.start Hx.out
      have hm2 := HL.out.2
      subst hm2
      have hS2 := hS.then_ hB
      have hT2 : Turn g (g + 1) w wr := Turn.of_below hB
      clear hmj hj HL c0 hT0
      go_wp2_with (fail)
      go_loopw [8] (fun v8 wr => ∃ (y : Nat) (L : List Nat) (A : Option Addr) (k : Nat), v8 = .slice A L.length k ∧ GoInv E N beg en x y L ∧ Own wr w.heap.size 3 1 encN (.slice A L.length k) L ∧ Own wr base 50 1 encU (.slice (some ⟨g, 0, none⟩) (wordsFor N) c) (wordsN y (wordsFor N)) ∧ Turn g (g + 1) w wr) (fun v8 wr => subLeft N base g c v8 wr)
      case atStart => exact ⟨x, L, A, k, rfl, hG, hL, hS2, hT2⟩
      case round =>
        clear hG hL hS2 hT2 hB
        obtain ⟨y, L, A, k, rfl, hG, hL, hS, hT⟩ := hrel
        rcases List.eq_nil_or_concat L with rfl | ⟨L, n, rfl⟩
        · have hy : y = spreadN E N beg en x := hG.end_ (fun d hd => HF.out.tt d hd) Hx.out
          have Hy := Lib.hid hy
          clear hy hG hL
          go_wp2_with (fail)
          first | (refine bodyPost_end (results_none rfl _ _ _) rfl ?_) | (refine bodyPost_ret (results_none rfl _ _ _) rfl ?_)
          rw [← Hy.out]
          exact ⟨rfl, hS, hT⟩
        · rw [List.concat_eq_append] at hG hL
          have hf : (L ++ [n]).length = L.length + 1 := by simp
          obtain ⟨gt, cap, hv, hgt1, hgt2, hk7, _⟩ := hL.form (by omega)
          injection hv with hA _ hcap
          subst hA; subst hcap
          have hrow : RowAt wr gt L.length (encN n) := by
            have := hL.row encN_size L.length (by omega)
            simpa only [Nat.mul_one, List.getElem_concat_length] using this
          have hpop := own_pop encN_size hL (by omega)
          rw [List.dropLast_concat] at hpop
          rw [hf] at hpop hL hk7
          rw [List.concat_eq_append, hf]
          have hbn := hG.inL n (by simp)
          have hnN := hG.bel n hbn
          have hin := hG.pop
          have hmu := subLeft_eq (A := some ⟨gt, 0, none⟩) (n := L.length + 1) (k := k) hS hG.bel
          obtain ⟨m, hm⟩ : ∃ m, m = L.length := ⟨_, rfl⟩
          rw [← hm] at hpop hrow hin hL hk7 hmu ⊢
          have ct : wr.cell? ⟨gt, m, none⟩ = some (.int .i64 (n : Int)) := hrow 0 _ rfl
          have hmI : (m : Int) ≤ k := by omega
          have hmb : m < 1099511628000 := by
            have h1 := hin.cnt
            have h2 := bitsTo_length y N
            omega
          rw [Nat.add_sub_cancel] at hpop
          have hMw := HMt.out wr hT
          obtain ⟨hgk, A1, n1, c1, B1, d1, bf, cF, hbk, hR1, hbf, hfr⟩ := hMw.mem
          obtain ⟨As, cs, ce, hAs⟩ := hfr n hnN
          have cF1 : wr.cell? ⟨gk, 3, none⟩ = some (.slice (some ⟨bf, 0, none⟩) N cF) := hbk.cellv (i := 3) rfl
          have hElen : (edgesAt E n).length ≤ 1099511627776 := Nat.le_trans (List.length_filter_le _ _) hMw.lE
          have hnI : (n : Int) < N := by omega
          have hnb : n < 1099511628000 := by omega
          have hlow := hMw.low
          obtain ⟨M, hMd⟩ : ∃ M, M = 2 * (N - (bitsTo y N).length) + (m + 1) := ⟨_, rfl⟩
          rw [← hMd] at hin hmu
          obtain ⟨el, hel⟩ : ∃ el, el = (edgesAt E n).length := ⟨_, rfl⟩
          rw [← hel] at ce hElen
          have Hel := Lib.hid hel
          have Hm := Lib.hid hm
          have Hmu := Lib.hid hmu
          clear hMd hm hf hrow hG hL hbk hR1 hfr hMw hel hmu hbn
          go_wp2_with (refine wl_front rfl 67 _ _ rfl under_intsK 1 size_intK (some ⟨gt, 0, none⟩) (m + 1) k m rfl (congrArg (Value.int .i64) (by omega)) (by omega) ?_)
          go_loopw [8, 52] (fun v8 iv wi => ∃ (j z : Nat) (L : List Nat) (A : Option Addr) (k2 : Nat), j ≤ el ∧ iv = .int .i64 j ∧ v8 = .slice A L.length k2 ∧ GoIn E N beg en x M n j z L ∧ Own wi w.heap.size 3 1 encN (.slice A L.length k2) L ∧ Own wi base 50 1 encU (.slice (some ⟨g, 0, none⟩) (wordsFor N) c) (wordsN z (wordsFor N)) ∧ Turn g (g + 1) w wi) (fun _ iv _ => el - (intOf iv).toNat)
          case atStart => exact ⟨0, y, L, some ⟨gt, 0, none⟩, k, by omega, rfl, by rw [Hm.out], hin, by rw [← Hm.out]; exact hpop, hS, hT⟩
          case round =>
            clear hin hpop hS ct cF1 ce hgt1 hgt2 hk7 hmI hmb
            obtain ⟨j, z, L, A, k2, hj, rfl, rfl, hG, hL, hS, hTi⟩ := hrel
            by_cases hjl : j < el
            · have hjI : (j : Int) < el := by omega
              have hjb : j < 1099511628000 := by omega
              have hjl2 : j < (edgesAt E n).length := by rw [← Hel.out]; exact hjl
              obtain ⟨ba, off, rfl, hba, hrows⟩ := hAs.at_ (by omega)
              have hwl := HT0.out
              have hr := (hrows j hjl2).keep ((hTi.block ba (by omega) (.inl (by omega))).trans (hT.block ba (by omega) (.inl (by omega))).symm)
              have hmem := List.getElem_mem hjl2
              rw [mem_edgesAt] at hmem
              obtain ⟨dd, hd⟩ : ∃ d, d = (edgesAt E n)[j] := ⟨_, rfl⟩
              rw [← hd] at hr hmem
              have htt := HF.out.tt dd hmem.1
              have hkd := HF.out.kinds dd hmem.1
              obtain ⟨t, ht⟩ : ∃ t : Nat, dd.tt = (t : Int) := ⟨dd.tt.toNat, by omega⟩
              have htn : dd.tt.toNat = t := by omega
              have Hd := Lib.hid hd
              have Htn := Lib.hid (And.intro ht htn)
              have htN : t < 64 * wordsFor N := by omega
              have hkd4 : dd.kd = 1 ∨ dd.kd = 2 ∨ dd.kd = 3 ∨ dd.kd = 4 := by omega
              clear hd hmem htt hkd hrows ht htn hnI hT
              go_upto_region 13 with (first | (refine wl_load_edge_at rfl _ rfl _ _ rfl _ hr ?_) | (refine wl_store_edge rfl _ _ rfl _ _ rfl rfl edge0 (Blk.new _ _ _) ?_; intro w3 h12 hg3))
              have hB3 := below_grown (below_alloc (Below.refl _ wr) (.cells #[.int .i64 0, .int .i64 0, .int .i64 0, .int .u64 0, .int .u64 0, .int .u64 0, .int .u64 0] 76)) hg3 (Nat.le_refl _)
              obtain ⟨ge, hge⟩ : ∃ y, y = wr.heap.size := ⟨_, rfl⟩
              rw [← hge] at h12 ⊢
              have hglr := (hS.lt g rfl).2
              have hgeg : ge ≠ g := by omega
              replace hL := hL.then_ hB3
              replace hS := hS.then_ hB3
              replace hTi := hTi.then_ hB3
              have c2 : w3.cell? ⟨ge, 2, none⟩ = some (.int .i64 (t : Int)) := by rw [← Htn.out.1]; exact h12.cellv (i := 2) rfl
              clear hg3 hr hB3 hge hglr
              simp only [Act.put]
              go_cut [13] from 56 to 75 (fun v wx => wx = w3 ∧ v = .bool (may beg en dd))
              case first =>
                have c1 : w3.cell? ⟨ge, 0, none⟩ = some (.int .i64 dd.kd) := h12.cellv (i := 0) rfl
                clear hS hL hTi h12 c2 Hd Htn HF Hx Hel Hm Hmu HMt hAs
                rcases hkd4 with h | h | h | h
                all_goals rw [h] at c1
                all_goals cases beg
                all_goals cases en
                all_goals go_wp2_with (fail)
                all_goals go_meet
                all_goals exact ⟨rfl, congrArg Value.bool (by simp [may, h])⟩
              obtain ⟨hwc, rfl⟩ := hcut
              subst hwc
              obtain ⟨f, hmay⟩ : ∃ f, may beg en dd = f := ⟨_, rfl⟩
              rw [hmay]
              have Hmay := Lib.hid hmay
              clear hmay hkd4
              cases f with
              | false =>
                go_wp2_with (fail)
                exact ⟨⟨j + 1, z, L, A, k2, by omega, rfl, rfl, hG.skip hjl2 (by rw [← Hd.out, Hmay.out]; exact fun h => (Bool.false_ne_true h).elim), hL, hS, hTi⟩, by simp only [intOf]; omega⟩
              | true =>
                have hhas := khas_any (some ⟨g, 0, none⟩) (wordsFor N) c z t htN hkb _ wc (hS.slice_all encU_size)
                obtain ⟨zt, hzt⟩ : ∃ b, z.testBit t = b := ⟨_, rfl⟩
                rw [hzt] at hhas
                have Hzt := Lib.hid hzt
                clear hzt
                cases zt with
                | true =>
                  go_wp2_with (go_at_call 69; refine hhas.mono ?_; rintro e w5 ⟨rfl, rfl⟩)
                  exact ⟨⟨j + 1, z, L, A, k2, by omega, rfl, rfl, hG.skip hjl2 (by rw [← Hd.out, Htn.out.2]; exact fun _ => Hzt.out), hL, hS, hTi⟩, by simp only [intOf]; omega⟩
                | false =>
                  have hLN : L.length + 1 ≤ N := by
                    have h1 := hG.cnt
                    have h2 := bitsTo_length z N
                    omega
                  have hGa := hG.add (fun d hd => HF.out.tt d hd) hjl2 (by rw [← Hd.out]; exact Hmay.out) (by rw [← Hd.out, Htn.out.2]; exact Hzt.out)
                  rw [← Hd.out, Htn.out.2] at hGa
                  have hAne : ∀ r, (Value.slice A L.length k2).ownBlock = some r → r ≠ g := fun r e h => by
                    subst h
                    have := (hL.lt r e).1
                    omega
                  have hLlt := fun r e => (hL.lt r e).1
                  go_upto_region 16 with (first
                    | (go_at_call 69; refine hhas.mono ?_; rintro e w5 ⟨rfl, rfl⟩)
                    | (go_at_call 66; refine (kadd_any g (wordsFor N) c z t base htN hkb _ hS).mono ?_; rintro e w6 ⟨rfl, hS6, hg6⟩))
                  replace h12 := blk_grown h12 hg6 hgeg
                  replace hL := own_row hL hg6 (fun r e h => hAne r e (by injection h with h; exact h.symm))
                  replace hTi := hTi.grown hg6 (fun r e => by injection e with e; omega)
                  replace c2 : w6.cell? ⟨ge, 2, none⟩ = some (.int .i64 (t : Int)) := by rw [← Htn.out.1]; exact h12.cellv (i := 2) rfl
                  clear hS hg6 hhas
                  obtain ⟨m2, hm2⟩ : ∃ m, m = L.length := ⟨_, rfl⟩
                  have Hm2 := Lib.hid hm2
                  rw [← hm2] at hL hLN hLlt hAne ⊢
                  clear hm2
                  have hsz6 := hTi.size
                  go_upto_region 17 with (at_builtin; refine wl_pushI rfl _ _ rfl w.heap.size L t rfl rfl (Blk.new _ _ _) (hL.then_ (below_alloc (Below.refl _ _) _)) Hm2.out (by have := Hm2.out; omega) (by simp; omega) ?_; intro A' c' w7 hL7 hg7)
                  have hBa : Below w6.heap.size w6 (w6.alloc (.cells (encN t) 3)) := below_alloc (Below.refl _ _) _
                  have hS7 := own_own (hS6.then_ hBa) (hL.then_ hBa) hg7 (by decide)
                  have hTi7 := (hTi.then_ hBa).grown hg7 (fun r e => .inr (hLlt r e))
                  clear hg7 hBa hS6 hL hTi
                  rw [Hm2.out] at hL7 ⊢
                  have hl1 : (L ++ [t]).length = L.length + 1 := by simp
                  rw [← hl1] at hL7 ⊢
                  go_wp2_with (fail)
                  exact ⟨⟨j + 1, z ||| 2 ^ t, L ++ [t], A', c', by omega, rfl, by simp, hGa, hL7, hS7, hTi7⟩, by simp only [intOf]; omega⟩
            · have hjI : ¬ (j : Int) < el := by omega
              have hGf := hG.finish (fun d hd => HF.out.fr d hd) (by have := Hel.out; omega)
              go_wp2_with (fail)
              refine ⟨⟨z, L, A, k2, rfl, hGf, hL, hS, hTi⟩, ?_⟩
              rw [Hmu.out, subLeft_eq hS hG.bel]
              exact hG.mu
end Go.Proofs.YtkedgombccdamaaDoor
