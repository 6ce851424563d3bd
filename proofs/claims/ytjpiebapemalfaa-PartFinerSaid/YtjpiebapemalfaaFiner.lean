/- Plain laws of classes for PartFiner: order and doubles change nothing; one set more makes them finer, at most twice as many; each byte is in one class. No condition beyond those named in each lemma. -/
import Derived.Test.YtjpiebapemalfaaPartC
import Derived.Test.YtjpiebapemalfaaTells
namespace Go.Proofs.Ytjpiebapemalfaa
set_option linter.unusedVariables false
set_option linter.unusedSimpArgs false

theorem nodup_le {α : Type} [DecidableEq α] : ∀ (l m : List α), l.Nodup → (∀ x ∈ l, x ∈ m) → l.length ≤ m.length
  | [], m, _, _ => Nat.zero_le _
  | x :: l, m, h, hs => by
    rw [List.nodup_cons] at h
    have hx : x ∈ m := hs x (by simp)
    have := nodup_le l (m.erase x) h.2 fun y hy => by
      have hne : y ≠ x := by rintro rfl; exact h.1 hy
      exact (List.mem_erase_of_ne hne).2 (hs y (by simp [hy]))
    rw [List.length_erase_of_mem hx] at this
    have hp := List.length_pos_of_mem hx
    rw [List.length_cons]
    omega

theorem sig_append (l m : List BSet) (b : Nat) : sig (l ++ m) b = sig l b ++ sig m b := by simp [sig]
theorem sig_reverse (l : List BSet) (b : Nat) : sig l.reverse b = (sig l b).reverse := by simp [sig]
theorem sig_length (l : List BSet) (b : Nat) : (sig l b).length = l.length := by simp [sig]
theorem sig_rev_iff (l : List BSet) (b c : Nat) : sig l.reverse b = sig l.reverse c ↔ sig l b = sig l c := by
  rw [sig_reverse, sig_reverse]
  exact List.reverse_inj
theorem sig_back_iff (l : List BSet) (b c : Nat) : sig (l.reverse ++ l) b = sig (l.reverse ++ l) c ↔ sig l b = sig l c := by
  rw [sig_append, sig_append]
  constructor
  · intro h
    have := List.append_inj_right h (by rw [sig_length, sig_length])
    exact this
  · intro h
    rw [(sig_rev_iff l b c).2 h, h]
theorem cls_back (l : List BSet) : clsC (cls (l.reverse ++ l)) = clsC (cls l) :=
  clsC_ext fun b hb => by
    unfold cls
    rw [num_kernel _ _ 256 (fun _ _ _ _ => sig_back_iff l _ _) b hb]
theorem many_back (l : List BSet) : many (l.reverse ++ l) = many l := many_kernel _ _ _ fun _ _ _ _ => sig_back_iff l _ _
theorem many_rev (l : List BSet) : many l.reverse = many l := many_kernel _ _ _ fun _ _ _ _ => sig_rev_iff l _ _
theorem many_more (l : List BSet) (x : BSet) : many l ≤ many (l ++ [x]) := by
  have h := nodup_le (firsts (sig l) 256) ((firsts (sig (l ++ [x])) 256).map fun y => y.take l.length) (firsts_nodup _ _) fun y hy => by
    obtain ⟨b, hb, rfl⟩ := (mem_firsts _ _ _).1 hy
    refine List.mem_map.2 ⟨sig (l ++ [x]) b, mem_firsts_self _ hb, ?_⟩
    rw [sig_append, ← sig_length l b, List.take_left']
    rfl
  rw [List.length_map] at h
  exact h
theorem two_length (l : List (List Bool)) : (l.flatMap fun y => [y ++ [true], y ++ [false]]).length = 2 * l.length := by
  induction l with
  | nil => rfl
  | cons y l ih => rw [List.flatMap_cons, List.length_append, ih]; simp; omega
theorem many_twice (l : List BSet) (x : BSet) : many (l ++ [x]) ≤ 2 * many l := by
  have h := nodup_le (firsts (sig (l ++ [x])) 256) ((firsts (sig l) 256).flatMap fun y => [y ++ [true], y ++ [false]]) (firsts_nodup _ _) fun y hy => by
    obtain ⟨b, hb, rfl⟩ := (mem_firsts _ _ _).1 hy
    refine List.mem_flatMap.2 ⟨sig l b, mem_firsts_self _ hb, ?_⟩
    rw [sig_append]
    have : sig [x] b = [x.getLsbD b] := rfl
    rw [this]
    cases x.getLsbD b <;> simp
  rw [two_length] at h
  exact h
theorem cls_finer (l : List BSet) (x : BSet) (a b : Nat) (h : cls (l.reverse ++ [x]) a = cls (l.reverse ++ [x]) b) : cls l a = cls l b := by
  rw [cls_eq] at h ⊢
  rw [sig_append, sig_append] at h
  exact (sig_rev_iff l a b).1 (List.append_inj_left h (by rw [sig_length, sig_length]))

/-- how many bytes lie in the classes below c -/
def cumC (l : List BSet) (c : Nat) : Nat := ((List.range 256).filter fun b => decide (cls l b < (c : Int))).length
theorem filter_split (p q r : Nat → Bool) (hd : ∀ b, (r b = (p b || q b)) ∧ (p b && q b) = false) : ∀ l : List Nat, (l.filter r).length = (l.filter p).length + (l.filter q).length
  | [] => rfl
  | b :: l => by
    have ih := filter_split p q r hd l
    obtain ⟨h1, h2⟩ := hd b
    simp only [List.filter_cons, h1]
    cases hp : p b <;> cases hq : q b <;> simp [hp, hq] at h2 ⊢ <;> omega
theorem cumC_zero (l : List BSet) : cumC l 0 = 0 := by
  unfold cumC
  rw [List.length_eq_zero_iff, List.filter_eq_nil_iff]
  intro b _
  have := cls_ge l b
  simp; omega
theorem cnt_mem (l : List BSet) (c : Nat) : cnt (memB (cls l) c) = ((List.range 256).filter fun b => decide (cls l b = (c : Int))).length := by
  unfold cnt cntTo
  congr 1
  apply List.filter_congr
  intro b hb
  exact memB_get _ _ (by simpa using hb)
theorem cumC_succ (l : List BSet) (c : Nat) : cumC l (c + 1) = cumC l c + cnt (memB (cls l) c) := by
  rw [cnt_mem]
  unfold cumC
  refine filter_split _ _ _ (fun b => ⟨?_, ?_⟩) _
  · rw [Bool.eq_iff_iff]
    simp only [decide_eq_true_eq, Bool.or_eq_true]
    omega
  · cases h : decide (cls l b < (c : Int)) with
    | true =>
      have h1 := of_decide_eq_true h
      have : decide (cls l b = (c : Int)) = false := decide_eq_false (by omega)
      rw [this]; rfl
    | false => rfl
theorem cumC_all (l : List BSet) : cumC l (many l) = 256 := by
  unfold cumC
  rw [List.filter_eq_self.2, List.length_range]
  intro b hb
  exact decide_eq_true (cls_lt l (by simpa using hb))
theorem cumC_le (l : List BSet) (c : Nat) : cumC l c ≤ 256 := by
  have := List.length_filter_le (fun b => decide (cls l b < (c : Int))) (List.range 256)
  rw [List.length_range] at this
  exact this
theorem num_hit {α : Type} [DecidableEq α] (f : Nat → α) (n c : Nat) (h : c < (firsts f n).length) : ∃ b, b < n ∧ num f b = c := by
  have hm : (firsts f n)[c]'h ∈ firsts f n := List.getElem_mem h
  obtain ⟨b, hb, e⟩ := (mem_firsts _ _ _).1 hm
  exact ⟨b, hb, by rw [num_eq _ hb, e, (firsts_nodup _ _).idxOf_getElem c h]⟩
theorem cls_hit (l : List BSet) (c : Nat) (h : c < many l) : ∃ b, b < 256 ∧ cls l b = (c : Int) := by
  unfold many at h
  obtain ⟨N, hN⟩ : ∃ N, N = 256 := ⟨_, rfl⟩
  rw [← hN] at h ⊢
  obtain ⟨b, hb, e⟩ := num_hit (sig l) N c h
  exact ⟨b, hb, by unfold cls; rw [e]⟩
theorem cnt_pos (l : List BSet) (c : Nat) (h : c < many l) : 0 < cnt (memB (cls l) c) := by
  obtain ⟨b, hb, e⟩ := cls_hit l c h
  rw [cnt_mem]
  apply List.length_pos_of_mem (a := b)
  exact List.mem_filter.2 ⟨List.mem_range.2 hb, decide_eq_true e⟩
theorem rev_take (l : List BSet) (k : Nat) (h : k < l.length) : (l.reverse).take (k + 1) = l.reverse.take k ++ [l[l.length - 1 - k]] := by
  rw [List.take_succ_eq_append_getElem (by simpa using h), List.getElem_reverse]
theorem rev_take' (l : List BSet) (n k : Nat) (hn : n = l.length) (h : k < n) (h2 : n - 1 - k < l.length) : (l.reverse).take (k + 1) = l.reverse.take k ++ [l[n - 1 - k]] := by
  subst hn
  exact rev_take l k h

end Go.Proofs.Ytjpiebapemalfaa
