/- The plain law of marks: things numbered by a key, again and again, until no mark is split any more. No program in sight. -/
import Derived.Test.YtgahdookojbbiaaArr
namespace Go.Proofs.Ytgahdookojbbiaa
set_option linter.unusedVariables false
set_option linter.unusedSimpArgs false

/-- the key of the i-th thing -/
def keyF (K O : Nat → Int) (ts : List Nat) (i : Nat) : Int × Int := (K (ts.getD i 0), O (ts.getD i 0))
/-- the marks when j things have got new ones -/
def markU (K O : Nat → Int) (ts : List Nat) (j : Nat) (x : Nat) : Int := if ts.idxOf x < j then (num (keyF K O ts) (ts.idxOf x) : Int) else K x
def remark (K O : Nat → Int) (ts : List Nat) : Nat → Int := markU K O ts ts.length
/-- how many marks some things have -/
def cntK (K : Nat → Int) (ts : List Nat) : Nat := (firsts (fun i => K (ts.getD i 0)) ts.length).length
section
variable {K O : Nat → Int} {ts : List Nat}
theorem markU_zero : markU K O ts 0 = K := by funext x; simp [markU]
theorem idx_at (hn : ts.Nodup) {j : Nat} (h : j < ts.length) : ts.idxOf ts[j] = j := hn.idxOf_getElem j h
theorem markU_at (hn : ts.Nodup) {j : Nat} (h : j < ts.length) : markU K O ts j ts[j] = K ts[j] := by
  unfold markU
  rw [idx_at hn h, if_neg (by omega)]
theorem markU_put (hn : ts.Nodup) {j : Nat} (h : j < ts.length) : upd (markU K O ts j) ts[j] (num (keyF K O ts) j : Nat) = markU K O ts (j + 1) := by
  funext x
  unfold upd markU
  by_cases e : x = ts[j]
  · subst e
    rw [if_pos rfl, idx_at hn h, if_pos (by omega)]
  · rw [if_neg e]
    by_cases h1 : ts.idxOf x < j
    · rw [if_pos h1, if_pos (by omega)]
    · have h2 : ts.idxOf x ≠ j := by
        intro h3
        have h4 : ts.idxOf x < ts.length := by omega
        have h5 := List.getElem_idxOf h4
        simp only [h3] at h5
        exact e h5.symm
      rw [if_neg h1, if_neg (by omega)]
theorem keyF_at {j : Nat} (h : j < ts.length) : keyF K O ts j = (K ts[j], O ts[j]) := by
  unfold keyF
  rw [getD_at _ _ h]
theorem remark_mem {x : Nat} (h : x ∈ ts) : remark K O ts x = (num (keyF K O ts) (ts.idxOf x) : Nat) := by
  unfold remark markU
  rw [if_pos (List.idxOf_lt_length_of_mem h)]
theorem remark_out {x : Nat} (h : ¬ x ∈ ts) : remark K O ts x = K x := by
  unfold remark markU
  rw [if_neg]
  intro h1
  exact h (List.idxOf_lt_length_iff.1 h1)
theorem keyF_idx {x : Nat} (h : x ∈ ts) : keyF K O ts (ts.idxOf x) = (K x, O x) := by
  have h1 := List.idxOf_lt_length_of_mem h
  rw [keyF_at h1, List.getElem_idxOf h1]
theorem remark_iff {x y : Nat} (hx : x ∈ ts) (hy : y ∈ ts) : remark K O ts x = remark K O ts y ↔ K x = K y ∧ O x = O y := by
  rw [remark_mem hx, remark_mem hy]
  have := num_iff (keyF K O ts) (ts.idxOf x) (ts.idxOf y)
  rw [keyF_idx hx, keyF_idx hy, Prod.mk.injEq] at this
  rw [← this]
  omega
theorem remark_lo {x : Nat} (hx : x ∈ ts) : 0 ≤ remark K O ts x ∧ remark K O ts x < ts.length := by
  rw [remark_mem hx]
  have h1 := List.idxOf_lt_length_of_mem hx
  have h2 := num_lt (keyF K O ts) h1
  have h3 := firsts_length_le (keyF K O ts) ts.length
  omega
theorem cntK_remark : cntK (remark K O ts) ts = (firsts (keyF K O ts) ts.length).length := by
  refine many_kernel _ _ _ fun b c hb hc => ?_
  rw [getD_at _ _ hb, getD_at _ _ hc, remark_iff (List.getElem_mem hb) (List.getElem_mem hc), keyF_at hb, keyF_at hc, Prod.mk.injEq]
theorem cntK_le : cntK K ts ≤ ts.length := firsts_length_le _ _
theorem cntK_ext {L : Nat → Int} (h : ∀ x ∈ ts, K x = L x) : cntK K ts = cntK L ts := many_kernel _ _ _ fun b c hb hc => by
  rw [getD_at _ _ hb, getD_at _ _ hc, h _ (List.getElem_mem hb), h _ (List.getElem_mem hc)]
theorem cntK_kernel {L : Nat → Int} (h : ∀ x ∈ ts, ∀ y ∈ ts, (K x = K y ↔ L x = L y)) : cntK K ts = cntK L ts := many_kernel _ _ _ fun b c hb hc => by
  rw [getD_at _ _ hb, getD_at _ _ hc]
  exact h _ (List.getElem_mem hb) _ (List.getElem_mem hc)
end
section
variable {α β : Type} [DecidableEq α] [DecidableEq β]
theorem len_ge (f : Nat → α) (n : Nat) : (firsts f n).length ≤ (firsts f (n + 1)).length := by
  rw [firsts_succ]; split <;> simp
/-- a finer mark has no fewer; as many: it is no finer -/
theorem finer_count (f : Nat → α) (g : Nat → β) (N : Nat) (h : ∀ i j, i < N → j < N → g i = g j → f i = f j) : ∀ n, n ≤ N → (firsts f n).length ≤ (firsts g n).length ∧
    ((firsts f n).length = (firsts g n).length → ∀ i j, i < n → j < n → f i = f j → g i = g j) := by
  intro n
  induction n with
  | zero => intro _; exact ⟨by simp [firsts], fun _ i j hi => by omega⟩
  | succ n ih =>
    intro hn
    obtain ⟨h1, h2⟩ := ih (by omega)
    have hm : g n ∈ firsts g n → f n ∈ firsts f n := by
      rw [mem_firsts, mem_firsts]
      rintro ⟨b, hb, e⟩
      exact ⟨b, hb, h _ _ (by omega) (by omega) e⟩
    have hf := firsts_succ f n
    have hg := firsts_succ g n
    by_cases hgm : g n ∈ firsts g n
    · have hfm := hm hgm
      rw [if_pos hfm] at hf
      rw [if_pos hgm] at hg
      rw [hf, hg]
      refine ⟨h1, fun e i j hi hj hij => ?_⟩
      have h3 := h2 e
      have key : ∀ i, i < n → f i = f n → g i = g n := by
        intro i hi hin
        obtain ⟨b, hb, eb⟩ := (mem_firsts g n _).1 hgm
        have e2 : f b = f n := h _ _ (by omega) (by omega) eb
        rw [← eb]
        exact h3 i b hi hb (hin.trans e2.symm)
      by_cases hi2 : i = n
      · by_cases hj2 : j = n
        · subst hi2; subst hj2; rfl
        · subst hi2; exact (key j (by omega) hij.symm).symm
      · by_cases hj2 : j = n
        · subst hj2; exact key i (by omega) hij
        · exact h3 i j (by omega) (by omega) hij
    · rw [if_neg hgm] at hg
      by_cases hfm : f n ∈ firsts f n
      · rw [if_pos hfm] at hf
        rw [hf, hg]
        refine ⟨by simp; omega, fun e => ?_⟩
        simp at e
        omega
      · rw [if_neg hfm] at hf
        rw [hf, hg]
        refine ⟨by simp; omega, fun e i j hi hj hij => ?_⟩
        have h3 := h2 (by simpa using e)
        have key : ∀ i, i < n → f i = f n → False := fun i hi hin => hfm ((mem_firsts f n _).2 ⟨i, hi, hin⟩)
        by_cases hi2 : i = n
        · by_cases hj2 : j = n
          · subst hi2; subst hj2; rfl
          · subst hi2; exact absurd hij.symm (fun x => key j (by omega) x)
        · by_cases hj2 : j = n
          · subst hj2; exact absurd hij (fun x => key i (by omega) x)
          · exact h3 i j (by omega) (by omega) hij
end
section
variable {K L : Nat → Int} {ts : List Nat}
theorem cntK_finer (h : ∀ x ∈ ts, ∀ y ∈ ts, L x = L y → K x = K y) : cntK K ts ≤ cntK L ts ∧ (cntK K ts = cntK L ts → ∀ x ∈ ts, ∀ y ∈ ts, K x = K y → L x = L y) := by
  have := finer_count (fun i => K (ts.getD i 0)) (fun i => L (ts.getD i 0)) ts.length (fun i j hi hj => by
    rw [getD_at _ _ hi, getD_at _ _ hj]
    exact h _ (List.getElem_mem hi) _ (List.getElem_mem hj)) ts.length (Nat.le_refl _)
  refine ⟨this.1, fun e x hx y hy hxy => ?_⟩
  obtain ⟨i, hi, rfl⟩ := List.mem_iff_getElem.1 hx
  obtain ⟨j, hj, rfl⟩ := List.mem_iff_getElem.1 hy
  have := this.2 e i j hi hj
  rw [getD_at _ _ hi, getD_at _ _ hj] at this
  exact this hxy
end

/-- the states met, each once -/
structure Sts (A : Au) (ts : List Nat) : Prop where
  nd : ts.Nodup
  re : ∀ s, s ∈ ts ↔ Reach A s
/-- marks of the states met: what is alike is marked alike, and what is marked alike says the same -/
structure MarkOk (A : Au) (ts : List Nat) (K : Nat → Int) : Prop where
  alk : ∀ x ∈ ts, ∀ y ∈ ts, Alk A x A y → K x = K y
  out : ∀ x ∈ ts, ∀ y ∈ ts, K x = K y → A.out x = A.out y
/-- K' splits K by the bytes of which p holds -/
def Split (A : Au) (ts : List Nat) (p : Nat → Prop) (K L : Nat → Int) : Prop :=
  ∀ x ∈ ts, ∀ y ∈ ts, (L x = L y ↔ K x = K y ∧ ∀ b, b < 256 → p b → K (A.go x b) = K (A.go y b))
section
variable {A : Au} {ts : List Nat} {K L : Nat → Int}
theorem Sts.go (h : Sts A ts) {s b : Nat} (hs : s ∈ ts) (hb : b < 256) : A.go s b ∈ ts := (h.re _).2 (.step ((h.re _).1 hs) hb)
theorem Sts.lt (h : Sts A ts) (o : A.Ok) {s : Nat} (hs : s ∈ ts) : s < A.n := ((h.re _).1 hs).lt o
theorem Split.start : Split A ts (fun _ => False) K K := fun x _ y _ => ⟨fun h => ⟨h, fun _ _ h => h.elim⟩, fun h => h.1⟩
theorem Split.congr {p q : Nat → Prop} (h : Split A ts p K L) (e : ∀ b, b < 256 → (p b ↔ q b)) : Split A ts q K L := fun x hx y hy => (h x hx y hy).trans ⟨fun h => ⟨h.1, fun b hb hq => h.2 b hb ((e b hb).2 hq)⟩, fun h => ⟨h.1, fun b hb hp => h.2 b hb ((e b hb).1 hp)⟩⟩
theorem Split.ok {p : Nat → Prop} (st : Sts A ts) (hk : MarkOk A ts K) (h : Split A ts p K L) : MarkOk A ts L :=
  ⟨fun x hx y hy ha => (h x hx y hy).2 ⟨hk.alk x hx y hy ha, fun b hb _ => hk.alk _ (st.go hx hb) _ (st.go hy hb) (ha.go hb)⟩,
   fun x hx y hy e => hk.out x hx y hy ((h x hx y hy).1 e).1⟩
theorem Split.count {p : Nat → Prop} (h : Split A ts p K L) : cntK K ts ≤ cntK L ts := (cntK_finer fun x hx y hy e => ((h x hx y hy).1 e).1).1
/-- nothing was split: what is marked alike is alike -/
theorem Split.ker (st : Sts A ts) (hk : MarkOk A ts K) (h : Split A ts (fun _ => True) K L) (e : cntK K ts = cntK L ts) : Ker A L := by
  have hf := (cntK_finer fun x hx y hy e => ((h x hx y hy).1 e).1).2 e
  have hL := h.ok st hk
  intro s t hs ht
  have hs' := (st.re s).2 hs
  have ht' := (st.re t).2 ht
  refine ⟨fun he => ?_, fun ha => hL.alk s hs' t ht' ha⟩
  refine alk_of (fun s t => s ∈ ts ∧ t ∈ ts ∧ L s = L t) (fun s t ⟨hs, ht, he⟩ => ⟨hL.out s hs t ht he, fun b hb => ⟨st.go hs hb, st.go ht hb, ?_⟩⟩) ⟨hs', ht', he⟩
  exact hf _ (st.go hs hb) _ (st.go ht hb) (((h s hs t ht).1 he).2 b hb trivial)
/-- one class more -/
theorem Split.step {p q r : Nat → Prop} {O : Nat → Int} (h : Split A ts p K L) (c : Nat) (hc : c < 256) (hq : ∀ b, b < 256 → (q b ↔ p b ∨ r b)) (hr : ∀ b, b < 256 → r b → ∀ x ∈ ts, A.go x b = A.go x c) (hrc : r c) (hO : ∀ x ∈ ts, O x = K (A.go x c)) : Split A ts q K (remark L O ts) := by
  intro x hx y hy
  rw [remark_iff hx hy, h x hx y hy, hO x hx, hO y hy]
  constructor
  · rintro ⟨⟨h1, h2⟩, h3⟩
    refine ⟨h1, fun b hb hqb => ?_⟩
    rcases (hq b hb).1 hqb with hp | he
    · exact h2 b hb hp
    · rw [hr b hb he x hx, hr b hb he y hy]; exact h3
  · rintro ⟨h1, h2⟩
    exact ⟨⟨h1, fun b hb hp => h2 b hb ((hq b hb).2 (.inl hp))⟩, h2 c hc ((hq c hc).2 (.inr hrc))⟩
end
/-- of a byte where it leads the states -/
def vecL (A : Au) (K : Nat → Int) (l : List Nat) (b : Nat) : List Int := l.map fun s => K (A.go s b)
section
variable {A : Au} {ts : List Nat} {K : Nat → Int}
theorem vecL_eq (l : List Nat) (a b : Nat) : vecL A K l a = vecL A K l b ↔ ∀ s ∈ l, K (A.go s a) = K (A.go s b) := by
  unfold vecL
  exact List.map_inj_left
theorem vecL_nil (b : Nat) : num (vecL A K []) b = 0 := by
  have h : ∀ n, firsts (vecL A K []) (n + 1) = [[]] := by
    intro n
    induction n with
    | zero => rfl
    | succ n ih => rw [firsts_succ, ih]; simp [vecL]
  unfold num
  rw [h]
  simp [vecL]
/-- a state that is alike to one gone through changes nothing -/
theorem vecL_skip (st : Sts A ts) (hk : Ker A K) {l : List Nat} (hl : ∀ s ∈ l, s ∈ ts) {s : Nat} (hs : s ∈ ts) (h : K s ∈ l.map K) {b : Nat} (hb : b < 256) : num (vecL A K (l ++ [s])) b = num (vecL A K l) b := by
  obtain ⟨t, ht, e⟩ := List.mem_map.1 h
  refine num_kernel _ _ 256 (fun a b ha hb => ?_) b hb
  rw [vecL_eq, vecL_eq]
  have hts := (st.re t).1 (hl t ht)
  have hss := (st.re s).1 hs
  have hal := (hk t s hts hss).1 e
  constructor
  · intro h x hx; exact h x (by simp [hx])
  · intro h x hx
    rcases List.mem_append.1 hx with hx | hx
    · exact h x hx
    · rw [List.mem_singleton.1 hx]
      have h1 := (hk _ _ (.step hts ha) (.step hss ha)).2 (hal.go ha)
      have h2 := (hk _ _ (.step hts hb) (.step hss hb)).2 (hal.go hb)
      rw [← h1, ← h2]
      exact h t ht
theorem vecL_all (o : A.Ok) (st : Sts A ts) {b : Nat} (hb : b < 256) : num (vecL A K ts) b = num (vec A K) b := by
  refine num_kernel _ _ 256 (fun a b ha hb => ?_) b hb
  rw [vecL_eq, vec_eq o]
  exact ⟨fun h s hs => h s ((st.re s).2 hs), fun h s hs => h s ((st.re s).1 hs)⟩
theorem getD_range {n i : Nat} (h : i < n) : (List.range n).getD i 0 = i := by
  rw [getD_at _ _ (by simpa using h)]; simp
/-- one state more: the bytes marked anew -/
theorem vecL_step {C O : Nat → Int} {l : List Nat} {s : Nat} (hC : ∀ b, b < 256 → C b = (num (vecL A K l) b : Nat)) (hO : ∀ b, b < 256 → O b = K (A.go s b)) {b : Nat} (hb : b < 256) : remark C O (List.range 256) b = (num (vecL A K (l ++ [s])) b : Nat) := by
  have hm : b ∈ List.range 256 := List.mem_range.2 hb
  rw [remark_mem hm]
  have hi : (List.range 256).idxOf b = b := by
    have := List.nodup_range (n := 256) |>.idxOf_getElem b (by simpa using hb)
    simpa using this
  rw [hi]
  congr 1
  refine num_kernel _ _ 256 (fun a b ha hb => ?_) b hb
  unfold keyF
  rw [getD_range ha, getD_range hb, Prod.mk.injEq, hC a ha, hC b hb, hO a ha, hO b hb, vecL_eq]
  have h1 := num_iff (vecL A K l) a b
  rw [vecL_eq] at h1
  constructor
  · rintro ⟨e1, e2⟩ x hx
    rcases List.mem_append.1 hx with hx | hx
    · exact h1.1 (by omega) x hx
    · rw [List.mem_singleton.1 hx]; exact e2
  · intro h
    exact ⟨by rw [h1.2 fun x hx => h x (by simp [hx])], h s (by simp)⟩
end
end Go.Proofs.Ytgahdookojbbiaa
