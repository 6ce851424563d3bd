/- The plain law of least tables: automata, states that are alike, what is reached, the least table of an automaton by a mark of its states. No program in sight. -/
import Derived.Test.YtgahdookojbbiaaNum
namespace Go.Proofs.Ytgahdookojbbiaa
set_option linter.unusedVariables false
set_option linter.unusedSimpArgs false

structure Au where
  n : Nat
  go : Nat → Nat → Nat
  out : Nat → Nat × Nat
structure Au.Ok (A : Au) : Prop where
  pos : 0 < A.n
  lt : ∀ s b, s < A.n → b < 256 → A.go s b < A.n
def Au.run (A : Au) : Nat → List Nat → Nat
  | s, [] => s
  | s, b :: w => A.run (A.go s b) w
/-- the two states tell the same of all rows of bytes -/
def Alk (A : Au) (s : Nat) (B : Au) (t : Nat) : Prop := ∀ w : List Nat, (∀ b ∈ w, b < 256) → A.out (A.run s w) = B.out (B.run t w)
theorem Alk.refl (A : Au) (s : Nat) : Alk A s A s := fun w _ => rfl
theorem Alk.symm {A B : Au} {s t : Nat} (h : Alk A s B t) : Alk B t A s := fun w hw => (h w hw).symm
theorem Alk.trans {A B C : Au} {s t u : Nat} (h : Alk A s B t) (k : Alk B t C u) : Alk A s C u := fun w hw => (h w hw).trans (k w hw)
theorem Alk.out {A B : Au} {s t : Nat} (h : Alk A s B t) : A.out s = B.out t := h [] (by simp)
theorem Alk.go {A B : Au} {s t b : Nat} (h : Alk A s B t) (hb : b < 256) : Alk A (A.go s b) B (B.go t b) := fun w hw => h (b :: w) (by
  intro x hx
  rcases List.mem_cons.1 hx with rfl | hx
  · exact hb
  · exact hw x hx)
theorem alk_of {A B : Au} (R : Nat → Nat → Prop) (h : ∀ s t, R s t → A.out s = B.out t ∧ ∀ b, b < 256 → R (A.go s b) (B.go t b)) {s t : Nat} (r : R s t) : Alk A s B t := by
  intro w
  induction w generalizing s t with
  | nil => intro _; exact (h s t r).1
  | cons b w ih => intro hw; exact ih ((h s t r).2 b (hw b (by simp))) (fun x hx => hw x (by simp [hx]))
inductive Reach (A : Au) : Nat → Prop
  | zero : Reach A 0
  | step {s b : Nat} : Reach A s → b < 256 → Reach A (A.go s b)
theorem Reach.lt {A : Au} (o : A.Ok) {s : Nat} (h : Reach A s) : s < A.n := by
  induction h with
  | zero => exact o.pos
  | step _ hb ih => exact o.lt _ _ ih hb
/-- a mark of the states that are reached: alike ones have the same, others not -/
def Ker (A : Au) (k : Nat → Int) : Prop := ∀ s t, Reach A s → Reach A t → (k s = k t ↔ Alk A s A t)

open Classical in
noncomputable def vec (A : Au) (k : Nat → Int) (b : Nat) : List Int := (List.range A.n).map fun s => if Reach A s then k (A.go s b) else 0
theorem vec_eq {A : Au} (o : A.Ok) (k : Nat → Int) (a b : Nat) : vec A k a = vec A k b ↔ ∀ s, Reach A s → k (A.go s a) = k (A.go s b) := by
  unfold vec
  constructor
  · intro h s hs
    have := List.map_inj_left.1 h s (List.mem_range.2 (hs.lt o))
    simpa [hs] using this
  · intro h
    apply List.map_congr_left
    intro s _
    by_cases hs : Reach A s
    · simp only [if_pos hs]; exact h s hs
    · simp only [if_neg hs]
section
variable {α β : Type} [DecidableEq α] [DecidableEq β]
theorem fb_kernel (f : Nat → α) (g : Nat → β) (N : Nat) (h : ∀ b c, b < N → c < N → (f b = f c ↔ g b = g c)) : ∀ n, n ≤ N → fb f n = fb g n := by
  intro n
  induction n with
  | zero => intro _; rfl
  | succ n ih =>
    intro hn
    have e := ih (by omega)
    have hm : f n ∈ firsts f n ↔ g n ∈ firsts g n := by
      rw [mem_firsts, mem_firsts]
      constructor
      · rintro ⟨b, hb, e⟩; exact ⟨b, hb, (h b n (by omega) (by omega)).1 e⟩
      · rintro ⟨b, hb, e⟩; exact ⟨b, hb, (h b n (by omega) (by omega)).2 e⟩
    by_cases hf : f n ∈ firsts f n
    · rw [fb_old f n hf, fb_old g n (hm.1 hf), e]
    · rw [fb_new f n hf, fb_new g n (fun x => hf (hm.2 x)), e]
theorem fb_num (f : Nat → α) {b n : Nat} (h : b < n) : ∃ hl : num f b < (fb f n).length, f ((fb f n)[num f b]) = f b := by
  have hl : num f b < (fb f n).length := by rw [fb_length]; exact num_lt f h
  refine ⟨hl, ?_⟩
  have e1 : f ((fb f n)[num f b]) = ((fb f n).map f)[num f b]'(by simpa using hl) := by rw [List.getElem_map]
  rw [e1]
  have e2 : ((fb f n).map f)[num f b]'(by simpa using hl) = (firsts f n)[num f b]'(num_lt f h) := by simp only [fb_map]
  rw [e2]
  have hm := mem_firsts_self f h
  have e3 := List.getElem_idxOf (List.idxOf_lt_length_of_mem hm)
  have e4 := num_eq f h
  simp only [e4]
  exact e3
end
/-- of each class its first byte -/
noncomputable def reps (A : Au) (k : Nat → Int) : List Nat := fb (vec A k) 256
def addK (k : Nat → Int) (l : List Nat) (t : Nat) : List Nat := if k t ∈ l.map k then l else l ++ [t]
/-- the states met, one of each kind, the first i gone through -/
def likeN (A : Au) (k : Nat → Int) (rs : List Nat) : Nat → List Nat
  | 0 => [0]
  | i + 1 => match (likeN A k rs i)[i]? with
    | some s => (rs.map (A.go s)).foldl (addK k) (likeN A k rs i)
    | none => likeN A k rs i
theorem addK_prefix (k : Nat → Int) (l : List Nat) (t : Nat) : ∃ r, addK k l t = l ++ r := by
  unfold addK
  split
  · exact ⟨[], by simp⟩
  · exact ⟨[t], rfl⟩
theorem foldK_prefix (k : Nat → Int) : ∀ (ts : List Nat) (l : List Nat), ∃ r, ts.foldl (addK k) l = l ++ r
  | [], l => ⟨[], by simp⟩
  | t :: ts, l => by
    obtain ⟨r, hr⟩ := addK_prefix k l t
    obtain ⟨q, hq⟩ := foldK_prefix k ts (addK k l t)
    exact ⟨r ++ q, by rw [List.foldl_cons, hq, hr, List.append_assoc]⟩
theorem addK_mem (k : Nat → Int) (l : List Nat) (t : Nat) : k t ∈ (addK k l t).map k := by
  unfold addK
  split
  · assumption
  · simp
theorem foldK_mem (k : Nat → Int) : ∀ (ts : List Nat) (l : List Nat) (t : Nat), t ∈ ts → k t ∈ (ts.foldl (addK k) l).map k
  | u :: ts, l, t, h => by
    rw [List.foldl_cons]
    rcases List.mem_cons.1 h with rfl | h
    · obtain ⟨r, hr⟩ := foldK_prefix k ts (addK k l t)
      rw [hr, List.map_append]
      exact List.mem_append_left _ (addK_mem k l t)
    · exact foldK_mem k ts _ t h
theorem addK_nodup (k : Nat → Int) {l : List Nat} (t : Nat) (h : (l.map k).Nodup) : ((addK k l t).map k).Nodup := by
  unfold addK
  split
  · exact h
  · rename_i hn
    rw [List.map_append, List.nodup_append]
    refine ⟨h, by simp, ?_⟩
    intro a ha b hb
    have : b = k t := by simpa using hb
    subst this
    rintro rfl
    exact hn ha
theorem foldK_nodup (k : Nat → Int) : ∀ (ts : List Nat) {l : List Nat}, (l.map k).Nodup → ((ts.foldl (addK k) l).map k).Nodup
  | [], l, h => h
  | t :: ts, l, h => foldK_nodup k ts (addK_nodup k t h)
theorem foldK_all {p : Nat → Prop} (k : Nat → Int) : ∀ (ts : List Nat) {l : List Nat}, (∀ x ∈ l, p x) → (∀ x ∈ ts, p x) → ∀ x ∈ ts.foldl (addK k) l, p x
  | [], l, h, _ => h
  | t :: ts, l, h, h2 => foldK_all k ts (by
      intro x hx
      unfold addK at hx
      split at hx
      · exact h x hx
      · rcases List.mem_append.1 hx with hx | hx
        · exact h x hx
        · rw [List.mem_singleton.1 hx]; exact h2 t (by simp)) (fun x hx => h2 x (by simp [hx]))
section
variable {A : Au} {k : Nat → Int} {rs : List Nat}
theorem like_succ (i s : Nat) (h : (likeN A k rs i)[i]? = some s) : likeN A k rs (i + 1) = (rs.map (A.go s)).foldl (addK k) (likeN A k rs i) := by
  show (match (likeN A k rs i)[i]? with | some s => (rs.map (A.go s)).foldl (addK k) (likeN A k rs i) | none => likeN A k rs i) = _
  rw [h]
theorem like_stop (i : Nat) (h : (likeN A k rs i).length ≤ i) : likeN A k rs (i + 1) = likeN A k rs i := by
  show (match (likeN A k rs i)[i]? with | some s => (rs.map (A.go s)).foldl (addK k) (likeN A k rs i) | none => likeN A k rs i) = _
  rw [List.getElem?_eq_none h]
theorem like_prefix1 (i : Nat) : ∃ r, likeN A k rs (i + 1) = likeN A k rs i ++ r := by
  rcases h : (likeN A k rs i)[i]? with _ | s
  · exact ⟨[], by rw [like_stop i (List.getElem?_eq_none_iff.1 h)]; simp⟩
  · rw [like_succ i s h]; exact foldK_prefix _ _ _
theorem like_prefix {i j : Nat} (h : i ≤ j) : ∃ r, likeN A k rs j = likeN A k rs i ++ r := by
  induction j with
  | zero => have : i = 0 := by omega
            subst this; exact ⟨[], by simp⟩
  | succ j ih =>
    rcases Nat.lt_or_ge j i with h1 | h1
    · have : i = j + 1 := by omega
      subst this; exact ⟨[], by simp⟩
    · obtain ⟨r, hr⟩ := ih h1
      obtain ⟨q, hq⟩ := like_prefix1 (A := A) (k := k) (rs := rs) j
      exact ⟨r ++ q, by rw [hq, hr, List.append_assoc]⟩
theorem like_end {i j : Nat} (h : (likeN A k rs i).length ≤ i) (hj : i ≤ j) : likeN A k rs j = likeN A k rs i := by
  induction j with
  | zero => have : i = 0 := by omega
            subst this; rfl
  | succ j ih =>
    rcases Nat.lt_or_ge j i with h1 | h1
    · have : i = j + 1 := by omega
      subst this; rfl
    · have e := ih h1
      rw [like_stop j (by rw [e]; omega), e]
theorem like_nodup (i : Nat) : ((likeN A k rs i).map k).Nodup := by
  induction i with
  | zero => simp [likeN]
  | succ i ih =>
    rcases h : (likeN A k rs i)[i]? with _ | s
    · rw [like_stop i (List.getElem?_eq_none_iff.1 h)]; exact ih
    · rw [like_succ i s h]; exact foldK_nodup _ _ ih
theorem like_reach (hrs : ∀ b ∈ rs, b < 256) (i : Nat) : ∀ x ∈ likeN A k rs i, Reach A x := by
  induction i with
  | zero => intro x hx; rw [List.mem_singleton.1 hx]; exact .zero
  | succ i ih =>
    rcases h : (likeN A k rs i)[i]? with _ | s
    · rw [like_stop i (List.getElem?_eq_none_iff.1 h)]; exact ih
    · rw [like_succ i s h]
      refine foldK_all _ _ ih ?_
      intro x hx
      obtain ⟨b, hb, rfl⟩ := List.mem_map.1 hx
      exact .step (ih s (List.mem_of_getElem? h)) (hrs b hb)
end
theorem nodup_len {n : Nat} : ∀ {l : List Nat}, l.Nodup → (∀ x ∈ l, x < n) → l.length ≤ n := by
  induction n with
  | zero =>
    intro l _ h2
    cases l with
    | nil => simp
    | cons x l => exact absurd (h2 x (by simp)) (by omega)
  | succ n ih =>
    intro l h h2
    by_cases hm : n ∈ l
    · have h3 := ih (h.erase n) (fun x hx => by
        have h4 := h2 x (List.mem_of_mem_erase hx)
        have h5 : x ≠ n := fun e => (h.mem_erase_iff.1 hx).1 e
        omega)
      rw [List.length_erase_of_mem hm] at h3
      omega
    · have h3 := ih h (fun x hx => by
        have h4 := h2 x hx
        have h5 : x ≠ n := fun e => hm (e ▸ hx)
        omega)
      omega
theorem like_len {A : Au} (o : A.Ok) {k : Nat → Int} {rs : List Nat} (hrs : ∀ b ∈ rs, b < 256) (i : Nat) : (likeN A k rs i).length ≤ A.n := by
  refine nodup_len ?_ (fun x hx => (like_reach hrs i x hx).lt o)
  exact List.Pairwise.of_map k (fun a b h e => h (by rw [e])) (like_nodup (A := A) (k := k) (rs := rs) i)
theorem like_pos {A : Au} {k : Nat → Int} {rs : List Nat} (i : Nat) : ∃ r, likeN A k rs i = 0 :: r := by
  obtain ⟨r, hr⟩ := like_prefix (A := A) (k := k) (rs := rs) (Nat.zero_le i)
  exact ⟨r, hr⟩

/-- all the states met, one of each kind -/
noncomputable def likes (A : Au) (k : Nat → Int) : List Nat := likeN A k (reps A k) A.n
theorem reps_lt (A : Au) (k : Nat → Int) : ∀ b ∈ reps A k, b < 256 := fb_lt _ _
theorem likes_len {A : Au} (o : A.Ok) (k : Nat → Int) : (likes A k).length ≤ A.n := like_len o (reps_lt A k) _
theorem likes_reach (A : Au) (k : Nat → Int) : ∀ x ∈ likes A k, Reach A x := like_reach (reps_lt A k) _
theorem likes_nodup (A : Au) (k : Nat → Int) : ((likes A k).map k).Nodup := like_nodup _
/-- where the walk stops all are met -/
theorem likes_at {A : Au} (o : A.Ok) {k : Nat → Int} (i : Nat) (h : (likeN A k (reps A k) i).length ≤ i) : likeN A k (reps A k) i = likes A k := by
  unfold likes
  rcases Nat.le_total i A.n with h1 | h1
  · exact (like_end h h1).symm
  · exact like_end (like_len o (reps_lt A k) _) h1
theorem likes_closed {A : Au} (o : A.Ok) {k : Nat → Int} {s b : Nat} (hs : s ∈ likes A k) (hb : b ∈ reps A k) : k (A.go s b) ∈ (likes A k).map k := by
  obtain ⟨i, hi, rfl⟩ := List.mem_iff_getElem.1 hs
  have hl := likes_len o k
  obtain ⟨r, hr⟩ := like_prefix (A := A) (k := k) (rs := reps A k) (show i ≤ A.n by omega)
  have e : likeN A k (reps A k) (A.n + 1) = likes A k := like_stop _ hl
  obtain ⟨q, hq⟩ := like_prefix (A := A) (k := k) (rs := reps A k) (show i + 1 ≤ A.n + 1 by omega)
  rw [e] at hq
  have hL : likes A k = likeN A k (reps A k) i ++ r := hr
  by_cases hii : i < (likeN A k (reps A k) i).length
  · have hg : (likeN A k (reps A k) i)[i]? = some (likes A k)[i] := by
      rw [List.getElem?_eq_getElem hii]
      congr 1
      simp only [hL]
      rw [List.getElem_append_left hii]
    rw [like_succ i _ hg] at hq
    have h1 : k (A.go (likes A k)[i] b) ∈ ((((reps A k).map (A.go (likes A k)[i])).foldl (addK k) (likeN A k (reps A k) i)) ++ q).map k := by
      rw [List.map_append]
      exact List.mem_append_left _ (foldK_mem k _ _ _ (List.mem_map_of_mem hb))
    rw [← hq] at h1
    exact h1
  · have := likes_at o (k := k) i (by omega)
    rw [this] at hii
    omega
theorem vec_rep {A : Au} (o : A.Ok) {k : Nat → Int} {b : Nat} (hb : b < 256) : ∃ hl : num (vec A k) b < (reps A k).length, ∀ s, Reach A s → k (A.go s ((reps A k)[num (vec A k) b])) = k (A.go s b) := by
  obtain ⟨hl, h⟩ := fb_num (vec A k) hb
  exact ⟨hl, (vec_eq o k _ _).1 h⟩
theorem likes_all {A : Au} (o : A.Ok) {k : Nat → Int} (hk : Ker A k) {s : Nat} (h : Reach A s) : k s ∈ (likes A k).map k := by
  induction h with
  | zero =>
    obtain ⟨r, hr⟩ := like_pos (A := A) (k := k) (rs := reps A k) A.n
    unfold likes
    rw [hr]
    simp
  | @step s b hs hb ih =>
    obtain ⟨x, hx, e⟩ := List.mem_map.1 ih
    have hrx := likes_reach A k x hx
    have ha := (hk x s hrx hs).1 e
    obtain ⟨hl, hv⟩ := vec_rep o (k := k) hb
    have h1 := likes_closed o hx (List.getElem_mem hl)
    rw [hv x hrx] at h1
    have h2 := (hk _ _ (.step hrx hb) (.step hs hb)).2 (ha.go hb)
    rw [← h2]
    exact h1

/-- a table, plainly -/
structure Tb where
  cls : Nat → Int
  nx : List (List Int)
  fo : List Nat
  en : List Nat
theorem Tb.same_ {T S : Tb} (h1 : T.cls = S.cls) (h2 : T.nx = S.nx) (h3 : T.fo = S.fo) (h4 : T.en = S.en) : T = S := by
  cases T; cases S; simp only at h1 h2 h3 h4; subst h1 h2 h3 h4; rfl
def Tb.nxt (T : Tb) (s : Nat) (c : Int) : Int := (T.nx.getD s []).getD c.toNat 0
def Tb.many (T : Tb) : Nat := (T.nx.getD 0 []).length
def Tb.au (T : Tb) : Au := ⟨T.nx.length, fun s b => (T.nxt s (T.cls b)).toNat, fun s => (T.fo.getD s 0, T.en.getD s 0)⟩
/-- its numbers fit one another -/
structure Fits (T : Tb) : Prop where
  n1 : 1 ≤ T.nx.length
  n2 : T.nx.length ≤ 4096
  nf : T.fo.length = T.nx.length
  ne : T.en.length = T.nx.length
  m1 : 1 ≤ T.many
  m2 : T.many ≤ 256
  cl : ∀ b, b < 256 → 0 ≤ T.cls b ∧ T.cls b < T.many
  row : ∀ s, s < T.nx.length → (T.nx.getD s []).length = T.many
  fe : ∀ s, s < T.nx.length → T.fo.getD s 0 &&& T.en.getD s 0 = T.fo.getD s 0
  tr : ∀ s c, s < T.nx.length → c < T.many → 0 ≤ T.nxt s (c : Nat) ∧ T.nxt s (c : Nat) < T.nx.length ∧ T.fo.getD s 0 &&& T.fo.getD (T.nxt s (c : Nat)).toNat 0 = T.fo.getD s 0
theorem Fits.ok {T : Tb} (h : Fits T) : T.au.Ok := ⟨h.n1, fun s b hs hb => by
  obtain ⟨c0, c1⟩ := h.cl b hb
  have := h.tr s (T.cls b).toNat hs (by omega)
  rw [Int.toNat_of_nonneg c0] at this
  show (T.nxt s (T.cls b)).toNat < T.nx.length
  omega⟩

/-- the least table, by a mark of the states -/
noncomputable def leastT (A : Au) (k : Nat → Int) : Tb where
  cls b := if b < 256 then (num (vec A k) b : Int) else 0
  nx := (likes A k).map fun s => (reps A k).map fun b => (((likes A k).map k).idxOf (k (A.go s b)) : Int)
  fo := (likes A k).map fun s => (A.out s).1
  en := (likes A k).map fun s => (A.out s).2

section
variable {A B : Au} {k q : Nat → Int}
theorem reach_alk (h0 : Alk A 0 B 0) {t : Nat} (h : Reach B t) : ∃ s, Reach A s ∧ Alk A s B t := by
  induction h with
  | zero => exact ⟨0, .zero, h0⟩
  | @step t b ht hb ih =>
    obtain ⟨s, hs, ha⟩ := ih
    exact ⟨_, .step hs hb, ha.go hb⟩
theorem vec_alk (o : A.Ok) (p : B.Ok) (hk : Ker A k) (hq : Ker B q) (h0 : Alk A 0 B 0) (a b : Nat) (ha : a < 256) (hb : b < 256) : vec A k a = vec A k b ↔ vec B q a = vec B q b := by
  rw [vec_eq o, vec_eq p]
  constructor
  · intro h t ht
    obtain ⟨s, hs, hst⟩ := reach_alk h0 ht
    have h1 := (hk _ _ (.step hs ha) (.step hs hb)).1 (h s hs)
    exact (hq _ _ (.step ht ha) (.step ht hb)).2 (((hst.go ha).symm.trans h1).trans (hst.go hb))
  · intro h s hs
    obtain ⟨t, ht, hst⟩ := reach_alk h0.symm hs
    have h1 := (hq _ _ (.step ht ha) (.step ht hb)).1 (h t ht)
    exact (hk _ _ (.step hs ha) (.step hs hb)).2 (((hst.go ha).symm.trans h1).trans (hst.go hb))
theorem reps_alk (o : A.Ok) (p : B.Ok) (hk : Ker A k) (hq : Ker B q) (h0 : Alk A 0 B 0) : reps A k = reps B q :=
  fb_kernel _ _ 256 (fun a b ha hb => vec_alk o p hk hq h0 a b ha hb) 256 (Nat.le_refl _)
/-- lists of reached states, one by one alike -/
def Pw (A B : Au) (l m : List Nat) : Prop := l.length = m.length ∧ (∀ x ∈ l, Reach A x) ∧ (∀ x ∈ m, Reach B x) ∧ ∀ i (h : i < l.length) (h2 : i < m.length), Alk A l[i] B m[i]
theorem Pw.mem (hk : Ker A k) (hq : Ker B q) {l m : List Nat} (h : Pw A B l m) {s t : Nat} (hs : Reach A s) (ht : Reach B t) (ha : Alk A s B t) : k s ∈ l.map k ↔ q t ∈ m.map q := by
  obtain ⟨hl, h1, h2, h3⟩ := h
  constructor
  · intro hm
    obtain ⟨x, hx, e⟩ := List.mem_map.1 hm
    obtain ⟨i, hi, rfl⟩ := List.mem_iff_getElem.1 hx
    refine List.mem_map.2 ⟨m[i], List.getElem_mem _, ?_⟩
    refine (hq _ _ (h2 _ (List.getElem_mem _)) ht).2 ?_
    exact ((h3 i hi (by omega)).symm.trans ((hk _ _ (h1 _ hx) hs).1 e)).trans ha
  · intro hm
    obtain ⟨x, hx, e⟩ := List.mem_map.1 hm
    obtain ⟨i, hi, rfl⟩ := List.mem_iff_getElem.1 hx
    refine List.mem_map.2 ⟨l[i], List.getElem_mem _, ?_⟩
    refine (hk _ _ (h1 _ (List.getElem_mem _)) hs).2 ?_
    exact ((h3 i (by omega) hi).trans ((hq _ _ (h2 _ hx) ht).1 e)).trans ha.symm
theorem Pw.add (hk : Ker A k) (hq : Ker B q) {l m : List Nat} (h : Pw A B l m) {s t : Nat} (hs : Reach A s) (ht : Reach B t) (ha : Alk A s B t) : Pw A B (addK k l s) (addK q m t) := by
  have hm := h.mem hk hq hs ht ha
  unfold addK
  by_cases e : k s ∈ l.map k
  · rw [if_pos e, if_pos (hm.1 e)]; exact h
  · rw [if_neg e, if_neg (fun x => e (hm.2 x))]
    obtain ⟨hl, h1, h2, h3⟩ := h
    refine ⟨by simp [hl], ?_, ?_, ?_⟩
    · intro x hx
      rcases List.mem_append.1 hx with hx | hx
      · exact h1 x hx
      · rw [List.mem_singleton.1 hx]; exact hs
    · intro x hx
      rcases List.mem_append.1 hx with hx | hx
      · exact h2 x hx
      · rw [List.mem_singleton.1 hx]; exact ht
    · intro i hi hi2
      by_cases hil : i < l.length
      · rw [List.getElem_append_left hil, List.getElem_append_left (by omega)]
        exact h3 i hil (by omega)
      · have h4 : i = l.length := by simp at hi; omega
        subst h4
        rw [List.getElem_append_right (by omega), List.getElem_append_right (by omega)]
        simpa using ha
theorem Pw.fold (hk : Ker A k) (hq : Ker B q) {s t : Nat} (hs : Reach A s) (ht : Reach B t) (ha : Alk A s B t) : ∀ (rs : List Nat) (hrs : ∀ b ∈ rs, b < 256) {l m : List Nat}, Pw A B l m → Pw A B ((rs.map (A.go s)).foldl (addK k) l) ((rs.map (B.go t)).foldl (addK q) m)
  | [], _, l, m, h => h
  | b :: rs, hrs, l, m, h => by
    rw [List.map_cons, List.map_cons, List.foldl_cons, List.foldl_cons]
    have hb := hrs b (by simp)
    exact Pw.fold hk hq hs ht ha rs (fun x hx => hrs x (by simp [hx])) (h.add hk hq (.step hs hb) (.step ht hb) (ha.go hb))
theorem Pw.like (hk : Ker A k) (hq : Ker B q) (h0 : Alk A 0 B 0) {rs : List Nat} (hrs : ∀ b ∈ rs, b < 256) (i : Nat) : Pw A B (likeN A k rs i) (likeN B q rs i) := by
  induction i with
  | zero =>
    refine ⟨rfl, ?_, ?_, ?_⟩
    · intro x hx; rw [List.mem_singleton.1 hx]; exact .zero
    · intro x hx; rw [List.mem_singleton.1 hx]; exact .zero
    · intro i h1 h2
      have h3 : i = 0 := by simp [likeN] at h1; exact h1
      subst h3
      exact h0
  | succ i ih =>
    by_cases hi : i < (likeN A k rs i).length
    · have hi2 : i < (likeN B q rs i).length := by rw [← ih.1]; exact hi
      rw [like_succ i _ (List.getElem?_eq_getElem hi), like_succ i _ (List.getElem?_eq_getElem hi2)]
      exact Pw.fold hk hq (ih.2.1 _ (List.getElem_mem hi)) (ih.2.2.1 _ (List.getElem_mem hi2)) (ih.2.2.2 i hi hi2) rs hrs ih
    · have h1 : (likeN A k rs i).length ≤ i := by omega
      have h2 : (likeN B q rs i).length ≤ i := by rw [← ih.1]; exact h1
      rw [like_stop i h1, like_stop i h2]
      exact ih
theorem Pw.all (o : A.Ok) (p : B.Ok) (hk : Ker A k) (hq : Ker B q) (h0 : Alk A 0 B 0) : Pw A B (likes A k) (likes B q) := by
  have hr := reps_alk o p hk hq h0
  have h1 := Pw.like hk hq h0 (reps_lt A k) (A.n + B.n)
  have e1 : likeN A k (reps A k) (A.n + B.n) = likes A k := like_end (likes_len o k) (by omega)
  have e2 : likeN B q (reps A k) (A.n + B.n) = likes B q := by rw [hr]; exact like_end (likes_len p q) (by omega)
  rw [e1, e2] at h1
  exact h1
theorem idx_of_nodup {l : List Int} (h : l.Nodup) {i : Nat} (hi : i < l.length) {x : Int} (e : l[i] = x) : l.idxOf x = i := by
  rw [← e]; exact h.idxOf_getElem i hi
theorem Pw.idx (o : A.Ok) (p : B.Ok) (hk : Ker A k) (hq : Ker B q) (h0 : Alk A 0 B 0) {s t : Nat} (hs : Reach A s) (ht : Reach B t) (ha : Alk A s B t) : ((likes A k).map k).idxOf (k s) = ((likes B q).map q).idxOf (q t) := by
  obtain ⟨hl, h1, h2, h3⟩ := Pw.all o p hk hq h0
  have hm := likes_all o hk hs
  obtain ⟨i, hi, e⟩ := List.mem_iff_getElem.1 hm
  have hi' : i < (likes A k).length := by simpa using hi
  rw [idx_of_nodup (likes_nodup A k) hi e]
  symm
  refine idx_of_nodup (likes_nodup B q) (by simpa using (by omega : i < (likes B q).length)) ?_
  rw [List.getElem_map] at e ⊢
  refine (hq _ _ (h2 _ (List.getElem_mem _)) ht).2 ?_
  exact ((h3 i hi' (by omega)).symm.trans ((hk _ _ (h1 _ (List.getElem_mem _)) hs).1 e)).trans ha
theorem map_congr2 {l m : List Nat} {f g : Nat → Int} (h : l = m) (e : ∀ b ∈ m, f b = g b) : l.map f = m.map g := by
  subst h
  exact List.map_congr_left e
/-- tables that tell the same have one least table -/
theorem least_alk (o : A.Ok) (p : B.Ok) (hk : Ker A k) (hq : Ker B q) (h0 : Alk A 0 B 0) : leastT A k = leastT B q := by
  have hP := Pw.all o p hk hq h0
  obtain ⟨hl, h1, h2, h3⟩ := hP
  have hr := reps_alk o p hk hq h0
  refine Tb.same_ ?_ ?_ ?_ ?_
  · funext b
    show (if b < 256 then (num (vec A k) b : Int) else 0) = if b < 256 then (num (vec B q) b : Int) else 0
    by_cases hb : b < 256
    · rw [if_pos hb, if_pos hb]
      exact congrArg Nat.cast (num_kernel (vec A k) (vec B q) 256 (fun a b ha hb => vec_alk o p hk hq h0 a b ha hb) b hb)
    · rw [if_neg hb, if_neg hb]
  · show (likes A k).map (fun s => (reps A k).map fun b => (((likes A k).map k).idxOf (k (A.go s b)) : Int)) = (likes B q).map (fun s => (reps B q).map fun b => (((likes B q).map q).idxOf (q (B.go s b)) : Int))
    apply List.ext_getElem
    · simp [hl]
    · intro i hi hi2
      simp only [List.length_map] at hi hi2
      rw [List.getElem_map, List.getElem_map]
      refine map_congr2 hr fun b hb => ?_
      have hb' := reps_lt B q b hb
      exact congrArg Nat.cast (Pw.idx o p hk hq h0 (.step (h1 _ (List.getElem_mem hi)) hb') (.step (h2 _ (List.getElem_mem hi2)) hb') ((h3 i hi hi2).go hb'))
  · show (likes A k).map (fun s => (A.out s).1) = (likes B q).map (fun s => (B.out s).1)
    apply List.ext_getElem
    · simp [hl]
    · intro i hi hi2
      simp only [List.length_map] at hi hi2
      rw [List.getElem_map, List.getElem_map, (h3 i hi hi2).out]
  · show (likes A k).map (fun s => (A.out s).2) = (likes B q).map (fun s => (B.out s).2)
    apply List.ext_getElem
    · simp [hl]
    · intro i hi hi2
      simp only [List.length_map] at hi hi2
      rw [List.getElem_map, List.getElem_map, (h3 i hi hi2).out]
end
end Go.Proofs.Ytgahdookojbbiaa
