/- Plain lemmas on numbering by first occurrence, and on classes of bytes. No program in sight. -/
import Derived.Test.YtgahdookojbbiaaEq
namespace Go.Proofs.Ytgahdookojbbiaa
set_option linter.unusedVariables false
set_option linter.unusedSimpArgs false

section
variable {α β : Type} [DecidableEq α] [DecidableEq β]
theorem idx_mem {l r : List α} {x : α} (h : x ∈ l) : (l ++ r).idxOf x = l.idxOf x := by rw [List.idxOf_append, if_pos h]
theorem idx_not {l r : List α} {x : α} (h : ¬ x ∈ l) : (l ++ r).idxOf x = l.length + r.idxOf x := by rw [List.idxOf_append, if_neg h]; omega
/-- the values of f below n, each once, as they are met -/
def firsts (f : Nat → α) : Nat → List α
  | 0 => []
  | n + 1 => if f n ∈ firsts f n then firsts f n else firsts f n ++ [f n]
/-- the number of f's value at b -/
def num (f : Nat → α) (b : Nat) : Nat := (firsts f (b + 1)).idxOf (f b)

theorem firsts_succ (f : Nat → α) (n : Nat) : firsts f (n + 1) = if f n ∈ firsts f n then firsts f n else firsts f n ++ [f n] := rfl
theorem mem_firsts (f : Nat → α) (n : Nat) (x : α) : x ∈ firsts f n ↔ ∃ b, b < n ∧ f b = x := by
  induction n with
  | zero => simp [firsts]
  | succ n ih =>
    rw [firsts_succ]
    constructor
    · intro h
      split at h
      · obtain ⟨b, hb, e⟩ := ih.1 h; exact ⟨b, by omega, e⟩
      · rw [List.mem_append] at h
        rcases h with h | h
        · obtain ⟨b, hb, e⟩ := ih.1 h; exact ⟨b, by omega, e⟩
        · exact ⟨n, by omega, (List.mem_singleton.1 h).symm⟩
    · rintro ⟨b, hb, e⟩
      rcases Nat.lt_or_ge b n with h | h
      · have := ih.2 ⟨b, h, e⟩
        split
        · exact this
        · exact List.mem_append_left _ this
      · have : b = n := by omega
        subst this
        split
        · rename_i h1; rwa [e] at h1
        · simp [e]
theorem firsts_prefix (f : Nat → α) {n m : Nat} (h : n ≤ m) : ∃ r, firsts f m = firsts f n ++ r := by
  induction m with
  | zero => have : n = 0 := by omega
            subst this; exact ⟨[], by simp⟩
  | succ m ih =>
    rcases Nat.lt_or_ge m n with h1 | h1
    · have : n = m + 1 := by omega
      subst this; exact ⟨[], by simp⟩
    · obtain ⟨r, hr⟩ := ih h1
      rw [firsts_succ]
      split
      · exact ⟨r, hr⟩
      · exact ⟨r ++ [f m], by rw [hr, List.append_assoc]⟩
theorem idxOf_firsts (f : Nat → α) {n m : Nat} (h : n ≤ m) (x : α) (hx : x ∈ firsts f n) : (firsts f m).idxOf x = (firsts f n).idxOf x := by
  obtain ⟨r, hr⟩ := firsts_prefix f h
  rw [hr, idx_mem hx]
theorem mem_firsts_self (f : Nat → α) {b n : Nat} (h : b < n) : f b ∈ firsts f n := (mem_firsts f n _).2 ⟨b, h, rfl⟩
theorem num_eq (f : Nat → α) {b n : Nat} (h : b < n) : num f b = (firsts f n).idxOf (f b) := (idxOf_firsts f h (f b) (mem_firsts_self f (by omega))).symm
theorem num_lt (f : Nat → α) {b n : Nat} (h : b < n) : num f b < (firsts f n).length := by
  rw [num_eq f h]; exact List.idxOf_lt_length_of_mem (mem_firsts_self f h)
theorem firsts_nodup (f : Nat → α) (n : Nat) : (firsts f n).Nodup := by
  induction n with
  | zero => simp [firsts]
  | succ n ih =>
    rw [firsts_succ]
    split
    · exact ih
    · rename_i h
      rw [List.nodup_append]
      refine ⟨ih, by simp, ?_⟩
      intro a ha b hb
      have : b = f n := by simpa using hb
      subst this
      rintro rfl
      exact h ha
theorem firsts_length_le (f : Nat → α) (n : Nat) : (firsts f n).length ≤ n := by
  induction n with
  | zero => simp [firsts]
  | succ n ih =>
    rw [firsts_succ]
    split
    · omega
    · simp; omega
theorem num_iff (f : Nat → α) (b c : Nat) : num f b = num f c ↔ f b = f c := by
  have hb := num_eq f (show b < b + c + 1 by omega)
  have hc := num_eq f (show c < b + c + 1 by omega)
  rw [hb, hc]
  constructor
  · intro h
    have h1 := mem_firsts_self f (show b < b + c + 1 by omega)
    have h2 := mem_firsts_self f (show c < b + c + 1 by omega)
    have e1 := List.getElem_idxOf (List.idxOf_lt_length_of_mem h1)
    have e2 := List.getElem_idxOf (List.idxOf_lt_length_of_mem h2)
    rw [← e1, ← e2]
    simp only [h]
  · intro h; rw [h]
/-- like kernels, like numbers -/
theorem firsts_kernel (f : Nat → α) (g : Nat → β) (N : Nat) (h : ∀ b c, b < N → c < N → (f b = f c ↔ g b = g c)) :
    ∀ n, n ≤ N → (firsts f n).length = (firsts g n).length ∧ ∀ b, b < n → (firsts f n).idxOf (f b) = (firsts g n).idxOf (g b) := by
  intro n
  induction n with
  | zero => intro _; exact ⟨rfl, fun b hb => by omega⟩
  | succ n ih =>
    intro hn
    obtain ⟨h1, h2⟩ := ih (by omega)
    have hm : f n ∈ firsts f n ↔ g n ∈ firsts g n := by
      rw [mem_firsts, mem_firsts]
      constructor
      · rintro ⟨b, hb, e⟩; exact ⟨b, hb, (h b n (by omega) (by omega)).1 e⟩
      · rintro ⟨b, hb, e⟩; exact ⟨b, hb, (h b n (by omega) (by omega)).2 e⟩
    rw [firsts_succ, firsts_succ]
    by_cases hf : f n ∈ firsts f n
    · have hg := hm.1 hf
      rw [if_pos hf, if_pos hg]
      refine ⟨h1, fun b hb => ?_⟩
      rcases Nat.lt_or_ge b n with hlt | hge
      · exact h2 b hlt
      · have : b = n := by omega
        subst this
        obtain ⟨c, hc, e⟩ := (mem_firsts f b _).1 hf
        have e2 := (h c b (by omega) (by omega)).1 e
        rw [← e, ← e2]
        exact h2 c hc
    · have hg : ¬ g n ∈ firsts g n := fun h => hf (hm.2 h)
      rw [if_neg hf, if_neg hg]
      refine ⟨by simp [h1], fun b hb => ?_⟩
      rcases Nat.lt_or_ge b n with hlt | hge
      · rw [idx_mem (mem_firsts_self f hlt), idx_mem (mem_firsts_self g hlt)]
        exact h2 b hlt
      · have : b = n := by omega
        subst this
        rw [idx_not hf, idx_not hg, h1]
        simp
theorem num_kernel (f : Nat → α) (g : Nat → β) (N : Nat) (h : ∀ b c, b < N → c < N → (f b = f c ↔ g b = g c)) (b : Nat) (hb : b < N) : num f b = num g b := by
  have := (firsts_kernel f g N h N (Nat.le_refl _)).2 b hb
  rw [num_eq f hb, num_eq g hb, this]
theorem many_kernel (f : Nat → α) (g : Nat → β) (N : Nat) (h : ∀ b c, b < N → c < N → (f b = f c ↔ g b = g c)) : (firsts f N).length = (firsts g N).length :=
  (firsts_kernel f g N h N (Nat.le_refl _)).1
theorem num_new (f : Nat → α) (b : Nat) (h : ¬ f b ∈ firsts f b) : num f b = (firsts f b).length := by
  unfold num
  rw [firsts_succ, if_neg h, idx_not h]
  simp
theorem num_old (f : Nat → α) (b : Nat) (h : f b ∈ firsts f b) : num f b = (firsts f b).idxOf (f b) := by
  unfold num
  rw [firsts_succ, if_pos h]
end

section
variable {α : Type} [DecidableEq α]
/-- where f's values are first met -/
def fb (f : Nat → α) : Nat → List Nat
  | 0 => []
  | n + 1 => if f n ∈ firsts f n then fb f n else fb f n ++ [n]
theorem fb_map (f : Nat → α) (n : Nat) : (fb f n).map f = firsts f n := by
  induction n with
  | zero => rfl
  | succ n ih =>
    unfold fb
    rw [firsts_succ]
    split
    · exact ih
    · simp [ih]
theorem fb_lt (f : Nat → α) (n : Nat) : ∀ x ∈ fb f n, x < n := by
  induction n with
  | zero => simp [fb]
  | succ n ih =>
    unfold fb
    intro x hx
    split at hx
    · have := ih x hx; omega
    · rw [List.mem_append] at hx
      rcases hx with hx | hx
      · have := ih x hx; omega
      · have : x = n := by simpa using hx
        omega
theorem fb_length (f : Nat → α) (n : Nat) : (fb f n).length = (firsts f n).length := by rw [← fb_map, List.length_map]
theorem fb_old (f : Nat → α) (n : Nat) (h : f n ∈ firsts f n) : fb f (n + 1) = fb f n := by
  show (if f n ∈ firsts f n then fb f n else fb f n ++ [n]) = _
  rw [if_pos h]
theorem fb_new (f : Nat → α) (n : Nat) (h : ¬ f n ∈ firsts f n) : fb f (n + 1) = fb f n ++ [n] := by
  show (if f n ∈ firsts f n then fb f n else fb f n ++ [n]) = _
  rw [if_neg h]
/-- the number so far: -1 while it is not met -/
def seek (f : Nat → α) (b c : Nat) : Int := if f b ∈ (firsts f b).take c then ((firsts f b).idxOf (f b) : Int) else -1
theorem seek_zero (f : Nat → α) (b : Nat) : seek f b 0 = -1 := by simp [seek]
theorem seek_hit (f : Nat → α) (b c : Nat) (hc : c < (fb f b).length) (h : f ((fb f b)[c]) = f b) : seek f b (c + 1) = c := by
  have hc' : c < (firsts f b).length := by rw [← fb_length]; exact hc
  have e : (firsts f b)[c] = f b := by
    have : (firsts f b)[c] = ((fb f b).map f)[c]'(by simpa using hc) := by simp only [fb_map]
    rw [this, List.getElem_map, h]
  unfold seek
  rw [if_pos (by rw [List.take_succ_eq_append_getElem hc', e]; simp)]
  have := (firsts_nodup f b).idxOf_getElem c hc'
  rw [e] at this
  rw [this]
theorem seek_miss (f : Nat → α) (b c : Nat) (hc : c < (fb f b).length) (h : ¬ f ((fb f b)[c]) = f b) : seek f b (c + 1) = seek f b c := by
  have hc' : c < (firsts f b).length := by rw [← fb_length]; exact hc
  have e : (firsts f b)[c] = f ((fb f b)[c]) := by
    have : (firsts f b)[c] = ((fb f b).map f)[c]'(by simpa using hc) := by simp only [fb_map]
    rw [this, List.getElem_map]
  unfold seek
  rw [List.take_succ_eq_append_getElem hc', e]
  have h' : ¬ f b = f ((fb f b)[c]) := fun x => h x.symm
  simp [h']
theorem seek_old (f : Nat → α) (b : Nat) (h : f b ∈ firsts f b) : seek f b (fb f b).length = (num f b : Int) := by
  unfold seek
  rw [fb_length, List.take_length, if_pos h, num_old f b h]
theorem seek_new (f : Nat → α) (b : Nat) (h : ¬ f b ∈ firsts f b) : seek f b (fb f b).length = -1 := by
  unfold seek
  rw [fb_length, List.take_length, if_neg h]
end

/-- which of the sets hold byte b -/
def sig (l : List BSet) (b : Nat) : List Bool := l.map fun s => s.getLsbD b
/-- a byte's class -/
def cls (l : List BSet) (b : Nat) : Int := (num (sig l) b : Int)
/-- how many classes there are -/
def many (l : List BSet) : Nat := (firsts (sig l) 256).length
/-- a class so far, and a set's bit -/
def keyN (g : Nat → Int) (s : BSet) (b : Nat) : Int × Bool := (g b, s.getLsbD b)

theorem sig_snoc (l : List BSet) (s : BSet) (b c : Nat) : sig (l ++ [s]) b = sig (l ++ [s]) c ↔ sig l b = sig l c ∧ s.getLsbD b = s.getLsbD c := by
  simp [sig]
theorem key_kernel (l : List BSet) (s : BSet) (b c : Nat) : keyN (cls l) s b = keyN (cls l) s c ↔ sig (l ++ [s]) b = sig (l ++ [s]) c := by
  rw [sig_snoc]
  simp only [keyN, Prod.mk.injEq, cls, Int.natCast_inj, num_iff]
theorem cls_snoc (l : List BSet) (s : BSet) (b : Nat) : cls (l ++ [s]) b = (num (keyN (cls l) s) b : Int) := by
  unfold cls
  rw [num_kernel (sig (l ++ [s])) (keyN (cls l) s) (b + 1) (fun _ _ _ _ => (key_kernel l s _ _).symm) b (by omega)]
  rfl
theorem many_snoc (l : List BSet) (s : BSet) : many (l ++ [s]) = (firsts (keyN (cls l) s) 256).length :=
  many_kernel _ _ _ fun _ _ _ _ => (key_kernel l s _ _).symm
theorem cls_nil (b : Nat) : cls [] b = 0 := by
  have : num (sig []) b = num (sig []) 0 := (num_iff _ _ _).2 rfl
  unfold cls
  rw [this]
  rfl
theorem firsts_const (n : Nat) : firsts (sig []) (n + 1) = [[]] := by
  induction n with
  | zero => rfl
  | succ n ih =>
    rw [firsts_succ, ih, if_pos (by simp [sig])]
theorem many_nil : many [] = 1 := by
  unfold many
  rw [firsts_const 255]
  rfl
theorem many_le (l : List BSet) : many l ≤ 256 := firsts_length_le _ _
theorem cls_lt (l : List BSet) {b : Nat} (h : b < 256) : cls l b < many l := by
  have := num_lt (sig l) h
  unfold cls many
  omega
theorem cls_ge (l : List BSet) (b : Nat) : 0 ≤ cls l b := by unfold cls; omega

/-- an array of 256 ints -/
def clsC (g : Nat → Int) : Array Value := intsC .i64 ((List.range 256).map g)
theorem clsC_size (g : Nat → Int) : (clsC g).size = 256 := by simp [clsC, intsC_size]
theorem clsC_at (g : Nat → Int) (i : Nat) (h : i < 256) : (clsC g)[i]? = some (.int .i64 (g i)) := by
  unfold clsC
  rw [intsC_at _ _ i (by simpa using h)]
  simp
theorem clsC_ext {g h : Nat → Int} (e : ∀ b, b < 256 → g b = h b) : clsC g = clsC h := by
  unfold clsC
  congr 1
  apply List.map_congr_left
  intro b hb
  exact e b (by simpa using hb)
def putN (g : Nat → Int) (i : Nat) (v : Int) (b : Nat) : Int := if b = i then v else g b
theorem clsC_set (g : Nat → Int) (i : Nat) (v : Int) : (clsC g).setIfInBounds i (.int .i64 v) = clsC (putN g i v) := by
  unfold clsC
  rw [intsC_set]
  congr 1
  apply List.ext_getElem
  · simp
  · intro j h1 h2
    simp only [List.getElem_set, List.getElem_map, List.getElem_range, putN]
    by_cases e : i = j
    · subst e; simp
    · rw [if_neg e, if_neg (fun h => e h.symm)]
theorem clsC_inj {g h : Nat → Int} (e : clsC g = clsC h) {b : Nat} (hb : b < 256) : g b = h b := by
  have h1 := clsC_at g b hb
  rw [e, clsC_at h b hb] at h1
  injection h1 with h1
  injection h1 with _ h1
  exact h1.symm
theorem clsC_oneCell (g : Nat → Int) : (clsC g).all (·.oneCell') = true := by
  unfold clsC intsC
  simp [Value.oneCell']
theorem putN_put (g : Nat → Int) (i : Nat) (v v' : Int) : putN (putN g i v) i v' = putN g i v' := by
  funext b
  unfold putN
  by_cases e : b = i <;> simp [e]
theorem putN_self (g : Nat → Int) (i : Nat) (v : Int) : putN g i v i = v := by simp [putN]
/-- below n the new, from n on the old -/
def upto (n : Nat) (new old : Nat → Int) (b : Nat) : Int := if b < n then new b else old b
theorem upto_zero (new old : Nat → Int) : upto 0 new old = old := by funext b; simp [upto]
theorem upto_ge (new old : Nat → Int) {n b : Nat} (h : n ≤ b) : upto n new old b = old b := by unfold upto; rw [if_neg (by omega)]
theorem upto_all (new old : Nat → Int) : clsC (upto 256 new old) = clsC new := clsC_ext fun b hb => by unfold upto; rw [if_pos hb]
theorem upto_put (new old : Nat → Int) (n : Nat) (v : Int) (h : v = new n) : putN (upto n new old) n v = upto (n + 1) new old := by
  funext b
  unfold putN upto
  by_cases e : b = n
  · subst e; simp [h]
  · rw [if_neg e]
    by_cases h2 : b < n
    · rw [if_pos h2, if_pos (by omega)]
    · rw [if_neg h2, if_neg (by omega)]
attribute [irreducible] clsC

end Go.Proofs.Ytgahdookojbbiaa
