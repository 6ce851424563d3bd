/- The plain law of the search level by level for a shortest line that tells two tables apart. No program in sight. -/
import Derived.Test.YtgahdookojbbiaaPairs
import Derived.Test.YtgahdookojbbiaaArr
namespace Go.Proofs.Ytgahdookojbbiaa
set_option linter.unusedVariables false
set_option linter.unusedSimpArgs false

/-- two states -/
structure P2 where
  a : Nat
  b : Nat
def P2.ix (M : Nat) (p : P2) : Nat := p.a * M + p.b
theorem P2.ix_inj {M : Nat} {p q : P2} (hp : p.b < M) (hq : q.b < M) (h : p.ix M = q.ix M) : p = q := by
  obtain ⟨a, b⟩ := p
  obtain ⟨a', b'⟩ := q
  unfold P2.ix at h
  simp only at h hp hq
  have h1 : (b + M * a) / M = (b' + M * a') / M := by
    rw [Nat.add_comm b, Nat.add_comm b', Nat.mul_comm M a, Nat.mul_comm M a', h]
  rw [Nat.add_mul_div_left _ _ (by omega), Nat.add_mul_div_left _ _ (by omega), Nat.div_eq_of_lt hp, Nat.div_eq_of_lt hq] at h1
  have : a = a' := by omega
  subst this
  have : b = b' := by omega
  subst this
  rfl
theorem P2.ix_lt {N M : Nat} {p : P2} (ha : p.a < N) (hb : p.b < M) : p.ix M < N * M := by
  have h1 : (p.a + 1) * M ≤ N * M := Nat.mul_le_mul_right M ha
  rw [Nat.add_mul, Nat.one_mul] at h1
  unfold P2.ix
  omega
def runP (A B : Au) (u : List Nat) : P2 := ⟨A.run 0 u, B.run 0 u⟩
def stepP (A B : Au) (p : P2) (x : Nat) : P2 := ⟨A.go p.a x, B.go p.b x⟩
def GoodP (A B : Au) (p : P2) : Prop := (A.out p.a).2 = (B.out p.b).2
theorem runP_snoc (A B : Au) (u : List Nat) (x : Nat) : runP A B (u ++ [x]) = stepP A B (runP A B u) x := by
  unfold runP stepP
  rw [run_snoc, run_snoc]
structure BF (A B : Au) (K : Nat → Bool) (now next : List P2) (i c n : Nat) : Prop where
  now_at : ∀ p ∈ now, ∃ u, NoNl u ∧ u.length = n ∧ p = runP A B u
  next_at : ∀ p ∈ next, ∃ u, NoNl u ∧ u.length = n + 1 ∧ p = runP A B u
  nx0 : ∀ p ∈ next, ∀ v, NoNl v → v.length ≤ n → p ≠ runP A B v
  len : ∀ u, NoNl u → u.length ≤ n → K ((runP A B u).ix B.n) = true
  good : ∀ u, NoNl u → u.length < n → GoodP A B (runP A B u)
  shut : ∀ p : P2, p.a < A.n → p.b < B.n → K (p.ix B.n) = true → p ∈ next ∨ p ∈ now.drop i ∨ (GoodP A B p ∧ ∀ x, x < 256 → x ≠ 10 → K ((stepP A B p x).ix B.n) = true)
  part : ∀ p, now[i]? = some p → ∀ x, x < c → x ≠ 10 → K ((stepP A B p x).ix B.n) = true
  cnt : n + now.length + next.length ≤ cntF K (A.n * B.n)
section
variable {A B : Au} {K : Nat → Bool} {now next : List P2} {i c n : Nat} {p : P2}
theorem runP_lt (oA : A.Ok) (oB : B.Ok) {u : List Nat} (h : NoNl u) : (runP A B u).a < A.n ∧ (runP A B u).b < B.n := ⟨run_lt oA oA.pos h, run_lt oB oB.pos h⟩
theorem BF.at_ (h : BF A B K now next i c n) (oA : A.Ok) (oB : B.Ok) (hp : now[i]? = some p) : p.a < A.n ∧ p.b < B.n := by
  obtain ⟨u, h1, _, rfl⟩ := h.now_at p (List.mem_of_getElem? hp)
  exact runP_lt oA oB h1
theorem stepP_lt (oA : A.Ok) (oB : B.Ok) (hp : p.a < A.n ∧ p.b < B.n) {x : Nat} (hx : x < 256) : (stepP A B p x).a < A.n ∧ (stepP A B p x).b < B.n := ⟨oA.lt _ _ hp.1 hx, oB.lt _ _ hp.2 hx⟩
theorem BF.start (oA : A.Ok) (oB : B.Ok) : BF A B (upd (fun _ => false) 0 true) [⟨0, 0⟩] [] 0 0 0 := by
  have hpos : 0 < A.n * B.n := Nat.mul_pos oA.pos oB.pos
  refine ⟨fun p hp => ?_, fun p hp => (by cases hp), fun p hp => (by cases hp), fun u hu hl => ?_, fun u hu hl => (by omega), fun p ha hb hK => ?_, fun p hp x hx => (by omega), ?_⟩
  · rw [List.mem_singleton.1 hp]; exact ⟨[], fun c hc => (by cases hc), rfl, rfl⟩
  · have : u = [] := List.eq_nil_of_length_eq_zero (by omega)
    subst this
    show upd (fun _ => false) 0 true (0 * B.n + 0) = true
    simp [upd]
  · right; left
    have h0 : p.ix B.n = 0 := by
      unfold upd at hK
      split at hK
      · assumption
      · cases hK
    have : p = ⟨0, 0⟩ := P2.ix_inj hb oB.pos (by rw [h0]; simp [P2.ix])
    rw [this]; simp
  · have := cntF_lt (p := fun _ => false) (q := upd (fun _ => false) 0 true) (n := A.n * B.n) (j := 0) (fun i _ h => by cases h) hpos rfl (upd_self _ _ _)
    simp
    omega
theorem BF.same (h : BF A B K now next i c n) (oA : A.Ok) (oB : B.Ok) (hp : now[i]? = some p) (hc : c < 256) (hk : c = 10 ∨ K ((stepP A B p c).ix B.n) = true) : BF A B K now next i (c + 1) n :=
  ⟨h.now_at, h.next_at, h.nx0, h.len, h.good, h.shut, fun q hq x hx h10 => by
    rw [hp] at hq
    injection hq with hq
    subst hq
    by_cases e : x = c
    · subst e
      rcases hk with hk | hk
      · exact absurd hk h10
      · exact hk
    · exact h.part p hp x (by omega) h10, h.cnt⟩
theorem BF.new (h : BF A B K now next i c n) (oA : A.Ok) (oB : B.Ok) (hp : now[i]? = some p) (hc : c < 256) (h10 : c ≠ 10) (hk : K ((stepP A B p c).ix B.n) = false) : BF A B (upd K ((stepP A B p c).ix B.n) true) now (next ++ [stepP A B p c]) i (c + 1) n := by
  have hpl := h.at_ oA oB hp
  have hq := stepP_lt oA oB hpl hc
  have up : ∀ j, K j = true → upd K ((stepP A B p c).ix B.n) true j = true := fun j hj => by
    unfold upd
    split
    · rfl
    · exact hj
  refine ⟨h.now_at, fun q hm => ?_, fun q hm v hv hl => ?_, fun u hu hl => up _ (h.len u hu hl), h.good, fun q ha hb hK => ?_, fun q hq2 x hx hx10 => ?_, ?_⟩
  · rcases List.mem_append.1 hm with hm | hm
    · exact h.next_at q hm
    · rw [List.mem_singleton.1 hm]
      obtain ⟨u, h1, h2, rfl⟩ := h.now_at p (List.mem_of_getElem? hp)
      refine ⟨u ++ [c], fun y hy => ?_, by simp [h2], (runP_snoc A B u c).symm⟩
      rcases List.mem_append.1 hy with hy | hy
      · exact h1 y hy
      · rw [List.mem_singleton.1 hy]; exact ⟨hc, h10⟩
  · rcases List.mem_append.1 hm with hm | hm
    · exact h.nx0 q hm v hv hl
    · rw [List.mem_singleton.1 hm]
      intro e
      have := h.len v hv hl
      rw [← e, hk] at this
      cases this
  · by_cases e : q.ix B.n = (stepP A B p c).ix B.n
    · left
      rw [P2.ix_inj hb hq.2 e]
      simp
    · rw [upd_ne _ _ e] at hK
      rcases h.shut q ha hb hK with h1 | h1 | ⟨h1, h2⟩
      · exact .inl (List.mem_append_left _ h1)
      · exact .inr (.inl h1)
      · exact .inr (.inr ⟨h1, fun x hx hx10 => up _ (h2 x hx hx10)⟩)
  · rw [hp] at hq2
    injection hq2 with hq2
    subst hq2
    by_cases e : x = c
    · subst e; exact upd_self _ _ _
    · exact up _ (h.part p hp x (by omega) hx10)
  · have := cntF_lt (p := K) (q := upd K ((stepP A B p c).ix B.n) true) (n := A.n * B.n) (j := (stepP A B p c).ix B.n) (fun j _ hj => up j hj) (P2.ix_lt hq.1 hq.2) hk (upd_self _ _ _)
    have := h.cnt
    simp only [List.length_append, List.length_singleton]
    omega
theorem BF.item (h : BF A B K now next i 256 n) (hp : now[i]? = some p) (hg : GoodP A B p) : BF A B K now next (i + 1) 0 n :=
  ⟨h.now_at, h.next_at, h.nx0, h.len, h.good, fun q ha hb hK => by
    rcases h.shut q ha hb hK with h1 | h1 | h1
    · exact .inl h1
    · obtain ⟨hi, he⟩ := List.getElem?_eq_some_iff.1 hp
      rw [List.drop_eq_getElem_cons hi, he] at h1
      rcases List.mem_cons.1 h1 with rfl | h1
      · exact .inr (.inr ⟨hg, fun x hx hx10 => h.part q hp x hx hx10⟩)
      · exact .inr (.inl h1)
    · exact .inr (.inr h1), fun q _ x hx => (by omega), h.cnt⟩
theorem BF.met (h : BF A B K now next i c n) (oA : A.Ok) (oB : B.Ok) (hi : now.length ≤ i) {u : List Nat} (hu : NoNl u) (hl : u.length ≤ n) : GoodP A B (runP A B u) ∧ ∀ x, x < 256 → x ≠ 10 → K ((stepP A B (runP A B u) x).ix B.n) = true := by
  obtain ⟨ha, hb⟩ := runP_lt oA oB hu
  rcases h.shut _ ha hb (h.len u hu hl) with h1 | h1 | h1
  · exact absurd rfl (h.nx0 _ h1 u hu hl)
  · rw [List.drop_eq_nil_of_le hi] at h1; cases h1
  · exact h1
theorem noNl_snoc {v : List Nat} {x : Nat} (h : NoNl (v ++ [x])) : NoNl v ∧ x < 256 ∧ x ≠ 10 := ⟨fun y hy => h y (List.mem_append_left _ hy), h x (by simp)⟩
theorem BF.level (h : BF A B K now next i c n) (oA : A.Ok) (oB : B.Ok) (hi : now.length ≤ i) (hn : 0 < now.length) : BF A B K next [] 0 0 (n + 1) := by
  refine ⟨h.next_at, fun p hp => (by cases hp), fun p hp => (by cases hp), fun u hu hl => ?_, fun u hu hl => (h.met oA oB hi hu (by omega)).1, fun q ha hb hK => ?_, fun p _ x hx => (by omega), ?_⟩
  · by_cases e : u.length ≤ n
    · exact h.len u hu e
    · rcases List.eq_nil_or_concat u with rfl | ⟨v, x, rfl⟩
      · simp at e
      · rw [List.concat_eq_append] at hu hl ⊢
        obtain ⟨h1, h2, h3⟩ := noNl_snoc hu
        rw [runP_snoc]
        exact (h.met oA oB hi h1 (by simp at hl; omega)).2 x h2 h3
  · rcases h.shut q ha hb hK with h1 | h1 | h1
    · exact .inr (.inl (by rwa [List.drop_zero]))
    · rw [List.drop_eq_nil_of_le hi] at h1; cases h1
    · exact .inr (.inr h1)
  · have := h.cnt
    simp only [List.length_nil]
    omega
theorem BF.done (h : BF A B K [] [] 0 0 n) (oA : A.Ok) (oB : B.Ok) (u : List Nat) : ¬ Tells A B u := by
  have hall : ∀ d (u : List Nat), u.length ≤ d → NoNl u → K ((runP A B u).ix B.n) = true := by
    intro d
    induction d with
    | zero => intro u hl hu; exact h.len u hu (by omega)
    | succ d ih =>
      intro u hl hu
      rcases List.eq_nil_or_concat u with rfl | ⟨v, x, rfl⟩
      · exact h.len [] hu (by simp)
      · rw [List.concat_eq_append] at hu hl ⊢
        obtain ⟨h1, h2, h3⟩ := noNl_snoc hu
        obtain ⟨ha, hb⟩ := runP_lt oA oB h1
        rw [runP_snoc]
        rcases h.shut _ ha hb (ih v (by simp at hl; omega) h1) with h4 | h4 | h4
        · cases h4
        · cases h4
        · exact h4.2 x h2 h3
  rintro ⟨hu, hne⟩
  obtain ⟨ha, hb⟩ := runP_lt oA oB hu
  rcases h.shut _ ha hb (hall _ u (Nat.le_refl _) hu) with h4 | h4 | h4
  · cases h4
  · cases h4
  · exact hne h4.1
theorem BF.found (h : BF A B K now next i 0 n) (hp : now[i]? = some p) (hg : ¬ GoodP A B p) : (∃ u, Tells A B u ∧ u.length = n) ∧ ∀ u, Tells A B u → n ≤ u.length := by
  obtain ⟨u, h1, h2, rfl⟩ := h.now_at p (List.mem_of_getElem? hp)
  refine ⟨⟨u, ⟨h1, hg⟩, h2⟩, fun v hv => ?_⟩
  rcases Nat.lt_or_ge v.length n with h3 | h3
  · exact absurd (h.good v hv.1 h3) hv.2
  · exact h3
end
end Go.Proofs.Ytgahdookojbbiaa
