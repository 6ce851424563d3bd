/- The plain law of least.Same: pairs of states met side by side, groups of states taken for alike. No program in sight. -/
import Derived.Test.YtgahdookojbbiaaFind
namespace Go.Proofs.Ytgahdookojbbiaa
set_option linter.unusedVariables false
set_option linter.unusedSimpArgs false

/-- a pair of the row: its states, the pair ahead, the byte behind that -/
structure PR where
  a : Nat
  b : Nat
  bef : Int
  by_ : Nat
/-- a row of bytes of a line: no newline in it -/
def NoNl (u : List Nat) : Prop := ∀ c ∈ u, c < 256 ∧ c ≠ 10
theorem run_snoc (A : Au) (s : Nat) (u : List Nat) (c : Nat) : A.run s (u ++ [c]) = A.go (A.run s u) c := by
  induction u generalizing s with
  | nil => rfl
  | cons x u ih => exact ih (A.go s x)
theorem run_lt {A : Au} (o : A.Ok) {u : List Nat} : ∀ {s : Nat}, s < A.n → NoNl u → A.run s u < A.n := by
  induction u with
  | nil => intro s h _; exact h
  | cons c u ih => intro s h hu; exact ih (o.lt s c h (hu c (by simp)).1) (fun x hx => hu x (by simp [hx]))
/-- the rows of pairs, each with the line that leads to it -/
structure Tr (l : List PR) (ws : List (List Nat)) : Prop where
  len : ws.length = l.length
  bef : ∀ j (h : j < l.length) (h2 : j < ws.length), (ws[j] = [] ∧ l[j].bef = -1) ∨ ∃ i, ∃ h3 : i < ws.length, i < j ∧ l[j].bef = (i : Nat) ∧ ws[j] = ws[i] ++ [l[j].by_] ∧ l[j].by_ < 256
/-- the walk over the pairs: k gone through, of the next one c bytes -/
structure QI (A B : Au) (rt : Nat → Nat) (l : List PR) (ws : List (List Nat)) (k c : Nat) : Prop where
  tr : Tr l ws
  pos : 0 < l.length
  zero : ∀ h : 0 < ws.length, ws[0] = []
  wa : ∀ j (h : j < l.length) (h2 : j < ws.length), l[j].a = A.run 0 ws[j] ∧ l[j].b = B.run 0 ws[j] ∧ NoNl ws[j]
  mono : ∀ i j (hi : i < ws.length) (hj : j < ws.length), i ≤ j → ws[i].length ≤ ws[j].length
  cap : ∀ j (hj : j < ws.length) (hk : k < ws.length), ws[j].length ≤ ws[k].length + 1
  sem : ∀ φ : Nat → Nat, (∀ j (h : j < l.length), φ l[j].a = φ (A.n + l[j].b)) → ∀ u v, u < A.n + B.n → v < A.n + B.n → rt u = rt v → φ u = φ v
  proc : ∀ i (hi : i < l.length) (hw : i < ws.length) c', c' < 256 → c' ≠ 10 → (i < k ∨ (i = k ∧ c' < c)) → ∀ φ : Nat → Nat, (∀ j (h : j < l.length) (h2 : j < ws.length), ws[j].length ≤ ws[i].length + 1 → φ l[j].a = φ (A.n + l[j].b)) → φ (A.go l[i].a c') = φ (A.n + B.go l[i].b c')
  eq : ∀ i (hi : i < l.length), i < k → (A.out l[i].a).2 = (B.out l[i].b).2
section
variable {A B : Au} {rt : Nat → Nat} {l : List PR} {ws : List (List Nat)} {k c : Nat}
/-- the line tells the two apart -/
def Tells (A B : Au) (u : List Nat) : Prop := NoNl u ∧ (A.out (A.run 0 u)).2 ≠ (B.out (B.run 0 u)).2
/-- where a byte leads a state of one of the two -/
def dl (A B : Au) (c u : Nat) : Nat := if u < A.n then A.go u c else A.n + B.go (u - A.n) c
theorem dl_a {u : Nat} (h : u < A.n) (c : Nat) : dl A B c u = A.go u c := by unfold dl; rw [if_pos h]
theorem dl_b (u c : Nat) : dl A B c (A.n + u) = A.n + B.go u c := by unfold dl; rw [if_neg (by omega), Nat.add_sub_cancel_left]
def en2 (A B : Au) (u : Nat) : Nat := if u < A.n then (A.out u).2 else (B.out (u - A.n)).2
theorem en2_a {u : Nat} (h : u < A.n) : en2 A B u = (A.out u).2 := by unfold en2; rw [if_pos h]
theorem en2_b (u : Nat) : en2 A B (A.n + u) = (B.out u).2 := by unfold en2; rw [if_neg (by omega), Nat.add_sub_cancel_left]
/-- lines of d bytes lead to states that pairs of so many bytes make alike -/
theorem QI.reach (h : QI A B rt l ws k 0) (oA : A.Ok) (oB : B.Ok) : ∀ (d : Nat), (∀ i (hi : i < ws.length), ws[i].length < d → i < k) → ∀ u : List Nat, NoNl u → u.length = d → ∀ φ : Nat → Nat, (∀ j (h : j < l.length) (h2 : j < ws.length), ws[j].length ≤ d → φ l[j].a = φ (A.n + l[j].b)) → φ (A.run 0 u) = φ (A.n + B.run 0 u) := by
  intro d
  induction d with
  | zero =>
    intro _ u _ hu φ hφ
    have : u = [] := List.eq_nil_of_length_eq_zero hu
    subst this
    have hl := h.pos
    have hw0 : 0 < ws.length := by rw [h.tr.len]; exact hl
    have h0 := h.zero hw0
    have h1 := h.wa 0 hl hw0
    have h2 := hφ 0 hl hw0 (by rw [h0]; simp)
    rw [h1.1, h1.2.1, h0] at h2
    exact h2
  | succ d ih =>
    intro hd u hu hlen φ hφ
    obtain ⟨u', c', rfl⟩ : ∃ u' c', u = u' ++ [c'] := by
      refine ⟨u.dropLast, u.getLast (by intro e; rw [e] at hlen; simp at hlen), (List.dropLast_concat_getLast _).symm⟩
    have hu' : NoNl u' := fun x hx => hu x (by simp [hx])
    have hc' := hu c' (by simp)
    have hl' : u'.length = d := by simp at hlen; omega
    have hA := run_lt oA (s := 0) oA.pos hu'
    have h1 := ih (fun i hi hlt => hd i hi (by omega)) u' hu' hl' (fun x => φ (dl A B c' x)) (fun j hj hjw hle => by
      have hwa := h.wa j hj hjw
      have hjA : l[j].a < A.n := by rw [hwa.1]; exact run_lt oA oA.pos hwa.2.2
      show φ (dl A B c' l[j].a) = φ (dl A B c' (A.n + l[j].b))
      rw [dl_a hjA, dl_b]
      refine h.proc j hj hjw c' hc'.1 hc'.2 (.inl (hd j hjw (by omega))) φ (fun q hq hqw hqe => hφ q hq hqw (by omega)))
    simp only [dl_a hA, dl_b] at h1
    rw [run_snoc, run_snoc]
    exact h1
/-- no line of so few bytes tells the two apart -/
theorem QI.none_ (h : QI A B rt l ws k 0) (oA : A.Ok) (oB : B.Ok) {u : List Nat} (hu : NoNl u) (hd : ∀ i (hi : i < ws.length), ws[i].length ≤ u.length → i < k) : (A.out (A.run 0 u)).2 = (B.out (B.run 0 u)).2 := by
  have h1 := h.reach oA oB u.length (fun i hi hlt => hd i hi (by omega)) u hu rfl (en2 A B) (fun j hj hjw hle => by
    have hwa := h.wa j hj hjw
    have hjA : l[j].a < A.n := by rw [hwa.1]; exact run_lt oA oA.pos hwa.2.2
    rw [en2_a hjA, en2_b]
    exact h.eq j hj (hd j hjw hle))
  rw [en2_a (run_lt oA oA.pos hu), en2_b] at h1
  exact h1
/-- all pairs gone through: nothing tells them apart -/
theorem QI.same (h : QI A B rt l ws k 0) (oA : A.Ok) (oB : B.Ok) (hk : l.length ≤ k) (u : List Nat) : ¬ Tells A B u := fun ht => ht.2 (h.none_ oA oB ht.1 (fun i hi _ => by have := h.tr.len; omega))
/-- the first pair that is unlike: its line tells them apart, and no shorter one does -/
theorem QI.unlike (h : QI A B rt l ws k 0) (oA : A.Ok) (oB : B.Ok) (hk : k < l.length) (hkw : k < ws.length) (hne : (A.out l[k].a).2 ≠ (B.out l[k].b).2) : Tells A B ws[k] ∧ ∀ u, Tells A B u → ws[k].length ≤ u.length := by
  have hwa := h.wa k hk hkw
  refine ⟨⟨hwa.2.2, ?_⟩, fun u ht => ?_⟩
  · rw [← hwa.1, ← hwa.2.1]; exact hne
  · rcases Nat.lt_or_ge u.length ws[k].length with h1 | h1
    · refine absurd (h.none_ oA oB ht.1 (fun i hi hle => ?_)) ht.2
      rcases Nat.lt_or_ge i k with h2 | h2
      · exact h2
      · have := h.mono k i hkw hi h2
        omega
    · exact h1
/-- the two beginnings -/
theorem QI.start (A B : Au) (oA : A.Ok) (oB : B.Ok) : QI A B (merge (fun i => i) 0 A.n) [⟨0, 0, -1, 0⟩] [[]] 0 0 := by
  have one : ∀ j, j < 1 → j = 0 := fun j h => by omega
  refine ⟨⟨rfl, fun j h h2 => ?_⟩, by simp, fun h => rfl, fun j h h2 => ?_, fun i j hi hj hij => ?_, fun j hj hk => ?_, fun φ hφ u v hu hv e => ?_, fun i hi hw c' _ _ h => ?_, fun i hi h => by omega⟩
  · have := one j h; subst this; exact .inl ⟨rfl, rfl⟩
  · have := one j h; subst this; exact ⟨rfl, rfl, fun x hx => by simp at hx⟩
  · have h1 := one i hi; have h2 := one j hj; subst h1; subst h2; exact Nat.le_refl _
  · have h1 := one j hj; subst h1; simp
  · have h0 := hφ 0 (by simp)
    simp at h0
    unfold merge at e
    have hval : ∀ x, φ x = φ (if x = 0 then A.n else x) := fun x => by
      by_cases hx : x = 0
      · rw [if_pos hx, hx]; exact h0
      · rw [if_neg hx]
    rw [hval u, hval v, e]
  · rcases h with h | ⟨_, h⟩ <;> omega
/-- a pair seen to be alike: on to its bytes -/
theorem QI.nextByte (h : QI A B rt l ws k c) (hc : c = 10) : QI A B rt l ws k (c + 1) :=
  ⟨h.tr, h.pos, h.zero, h.wa, h.mono, h.cap, h.sem, fun i hi hw c' h1 h2 h3 => h.proc i hi hw c' h1 h2 (h3.imp id fun ⟨h4, h5⟩ => ⟨h4, by omega⟩), h.eq⟩
/-- a byte that leads to states already taken for alike -/
theorem QI.known (h : QI A B rt l ws k c) (hk : k < l.length) (hkw : k < ws.length) (oA : A.Ok) (oB : B.Ok) (hc : c < 256) (he : rt (A.go l[k].a c) = rt (A.n + B.go l[k].b c)) : QI A B rt l ws k (c + 1) :=
  ⟨h.tr, h.pos, h.zero, h.wa, h.mono, h.cap, h.sem, fun i hi hw c' h1 h2 h3 φ hφ => by
    by_cases e : i = k ∧ c' = c
    · obtain ⟨rfl, rfl⟩ := e
      have hwa := h.wa i hi hw
      have hA : l[i].a < A.n := by rw [hwa.1]; exact run_lt oA oA.pos hwa.2.2
      have hB : l[i].b < B.n := by rw [hwa.2.1]; exact run_lt oB oB.pos hwa.2.2
      have := oA.lt _ c' hA h1
      have := oB.lt _ c' hB h1
      exact h.sem φ (fun j hj => hφ j hj (by rw [h.tr.len]; exact hj) (h.cap j (by rw [h.tr.len]; exact hj) hw)) _ _ (by omega) (by omega) he
    · exact h.proc i hi hw c' h1 h2 (by omega) φ hφ, h.eq⟩
/-- a byte that leads to states not yet taken for alike -/
theorem QI.add (h : QI A B rt l ws k c) (hk : k < l.length) (hkw : k < ws.length) (oA : A.Ok) (oB : B.Ok) (hc : c < 256) (hc10 : c ≠ 10) : QI A B (merge rt (A.go l[k].a c) (A.n + B.go l[k].b c)) (l ++ [⟨A.go l[k].a c, B.go l[k].b c, (k : Nat), c⟩]) (ws ++ [ws[k] ++ [c]]) k (c + 1) := by
  have hlen := h.tr.len
  have hwk := h.wa k hk hkw
  have hwa : ∀ j (hj : j < (l ++ [(⟨A.go l[k].a c, B.go l[k].b c, (k : Nat), c⟩ : PR)]).length) (h2 : j < (ws ++ [ws[k] ++ [c]]).length), (l ++ [(⟨A.go l[k].a c, B.go l[k].b c, (k : Nat), c⟩ : PR)])[j].a = A.run 0 (ws ++ [ws[k] ++ [c]])[j] ∧ (l ++ [(⟨A.go l[k].a c, B.go l[k].b c, (k : Nat), c⟩ : PR)])[j].b = B.run 0 (ws ++ [ws[k] ++ [c]])[j] ∧ NoNl (ws ++ [ws[k] ++ [c]])[j] := fun j hj h2 => by
    by_cases e : j < l.length
    · rw [List.getElem_append_left e, List.getElem_append_left (by omega)]
      exact h.wa j e (by omega)
    · have : j = l.length := by simp at hj; omega
      subst this
      rw [List.getElem_append_right (by omega), List.getElem_append_right (by omega)]
      simp only [Nat.sub_self, hlen, List.getElem_singleton]
      refine ⟨by rw [run_snoc, hwk.1], by rw [run_snoc, hwk.2.1], fun x hx => ?_⟩
      rcases List.mem_append.1 hx with hx | hx
      · exact hwk.2.2 x hx
      · rw [List.mem_singleton.1 hx]; exact ⟨hc, hc10⟩
  refine ⟨⟨by simp [hlen], fun j hj h2 => ?_⟩, by simp, fun h0 => ?_, hwa, fun i j hi hj hij => ?_, fun j hj hk2 => ?_, fun φ hφ u v hu hv e => ?_, fun i hi hw c' h1 h2 h3 φ hφ => ?_, fun i hi hik => ?_⟩
  · by_cases e : j < l.length
    · rw [List.getElem_append_left e, List.getElem_append_left (by omega)]
      rcases h.tr.bef j e (by omega) with h3 | ⟨i, h3, h4, h5, h6, h7⟩
      · exact .inl h3
      · refine .inr ⟨i, by simp; omega, h4, h5, ?_, h7⟩
        rw [List.getElem_append_left h3]
        exact h6
    · have : j = l.length := by simp at hj; omega
      subst this
      refine .inr ⟨k, by simp; omega, hk, ?_⟩
      rw [List.getElem_append_right (by omega), List.getElem_append_right (by omega), List.getElem_append_left hkw]
      simp only [Nat.sub_self, hlen, List.getElem_singleton]
      exact ⟨trivial, trivial, hc⟩
  · rw [List.getElem_append_left (show 0 < ws.length by omega)]
    exact h.zero _
  · by_cases ej : j < ws.length
    · rw [List.getElem_append_left ej, List.getElem_append_left (show i < ws.length by omega)]
      exact h.mono i j (by omega) ej hij
    · have : j = ws.length := by simp at hj; omega
      subst this
      rw [List.getElem_append_right (show ws.length ≤ ws.length by omega)]
      simp only [Nat.sub_self, List.getElem_singleton, List.length_append, List.length_singleton]
      by_cases ei : i < ws.length
      · rw [List.getElem_append_left ei]
        exact h.cap i ei hkw
      · have : i = ws.length := by omega
        subst this
        rw [List.getElem_append_right (show ws.length ≤ ws.length by omega)]
        simp
  · rw [List.getElem_append_left hkw]
    by_cases ej : j < ws.length
    · rw [List.getElem_append_left ej]
      exact h.cap j ej hkw
    · have : j = ws.length := by simp at hj; omega
      subst this
      rw [List.getElem_append_right (show ws.length ≤ ws.length by omega)]
      simp
  · have h0 : ∀ j (hj : j < l.length), φ l[j].a = φ (A.n + l[j].b) := fun j hj => by
      have := hφ j (by simp; omega)
      rw [List.getElem_append_left hj] at this
      exact this
    have h1 : φ (A.go l[k].a c) = φ (A.n + B.go l[k].b c) := by
      have := hφ l.length (by simp)
      rw [List.getElem_append_right (by omega)] at this
      simpa using this
    have hA : l[k].a < A.n := by rw [hwk.1]; exact run_lt oA oA.pos hwk.2.2
    have hB : l[k].b < B.n := by rw [hwk.2.1]; exact run_lt oB oB.pos hwk.2.2
    have hx := oA.lt _ c hA hc
    have hy := oB.lt _ c hB hc
    have hs := h.sem φ h0
    unfold merge at e
    by_cases eu : rt u = rt (A.go l[k].a c)
    · rw [if_pos eu] at e
      have e1 := hs u (A.go l[k].a c) hu (by omega) eu
      by_cases ev : rt v = rt (A.go l[k].a c)
      · rw [e1, hs v (A.go l[k].a c) hv (by omega) ev]
      · rw [if_neg ev] at e
        rw [e1, h1]
        exact hs _ _ (by omega) hv e
    · rw [if_neg eu] at e
      by_cases ev : rt v = rt (A.go l[k].a c)
      · rw [if_pos ev] at e
        rw [hs u _ hu (by omega) e, ← h1]
        exact (hs v (A.go l[k].a c) hv (by omega) ev).symm
      · rw [if_neg ev] at e
        exact hs u v hu hv e
  · have hil : i < l.length := by omega
    have hiw : i < ws.length := by omega
    rw [List.getElem_append_left hil]
    by_cases e : i = k ∧ c' = c
    · obtain ⟨rfl, rfl⟩ := e
      have := hφ l.length (by simp) (by simp [hlen]) (by
        rw [List.getElem_append_right (by omega), List.getElem_append_left hiw]
        simp [hlen])
      rw [List.getElem_append_right (by omega)] at this
      simpa using this
    · refine h.proc i hil hiw c' h1 h2 (by omega) φ (fun j hj hjw hle => ?_)
      have := hφ j (by simp; omega) (by simp; omega) (by
        rw [List.getElem_append_left hjw, List.getElem_append_left hiw]
        exact hle)
      rw [List.getElem_append_left hj] at this
      exact this
  · rw [List.getElem_append_left (show i < l.length by omega)]
    exact h.eq i (by omega) hik
/-- a pair gone through -/
theorem QI.nextPair (h : QI A B rt l ws k 256) (hk : k < l.length) (he : (A.out l[k].a).2 = (B.out l[k].b).2) : QI A B rt l ws (k + 1) 0 := by
  have hlen := h.tr.len
  refine ⟨h.tr, h.pos, h.zero, h.wa, h.mono, fun j hj hk2 => ?_, h.sem, fun i hi hw c' h1 h2 h3 => h.proc i hi hw c' h1 h2 (by omega), fun i hi hik => ?_⟩
  · have h1 := h.cap j hj (by omega)
    have h2 := h.mono k (k + 1) (by omega) hk2 (by omega)
    omega
  · by_cases e : i = k
    · subst e; exact he
    · exact h.eq i hi (by omega)
end
end Go.Proofs.Ytgahdookojbbiaa
