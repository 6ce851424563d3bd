/- Part 5 of a proof; packed: the texts that it was made of follow one another. No condition beyond those named in each lemma. -/
import Derived.Test.YtkedgombccdamaaDoorPe1
import Derived.Test.YtkedgombccdamaaDoorPe2
import Derived.Test.YtkedgombccdamaaDoorPe3
import Derived.Test.YtkedgombccdamaaDoorPe4
import Derived.Laws.BitsAllLaws
import Derived.Laws.CopyOwn
import Derived.StringKeys
namespace Go.Proofs.YtkedgombccdamaaDoor
set_option linter.unusedVariables false
set_option linter.unusedSimpArgs false

structure Au where
  n : Nat
  go : Nat → Nat → Nat
  out : Nat → Nat × Nat
structure Au.Ok (A : Au) : Prop where
  pos : 0 < A.n
  lt : ∀ s b, s < A.n → b < 256 → A.go s b < A.n
def Au.run (A : Au) : Nat → List Nat → Nat
  | s, [] => s
  | s, b :: w => A.run (A.go s b) w
/-- the two states tell the same of all rows of bytes -/
def Alk (A : Au) (s : Nat) (B : Au) (t : Nat) : Prop := ∀ w : List Nat, (∀ b ∈ w, b < 256) → A.out (A.run s w) = B.out (B.run t w)
theorem Alk.refl (A : Au) (s : Nat) : Alk A s A s := fun w _ => rfl
theorem Alk.symm {A B : Au} {s t : Nat} (h : Alk A s B t) : Alk B t A s := fun w hw => (h w hw).symm
theorem Alk.trans {A B C : Au} {s t u : Nat} (h : Alk A s B t) (k : Alk B t C u) : Alk A s C u := fun w hw => (h w hw).trans (k w hw)
theorem Alk.out {A B : Au} {s t : Nat} (h : Alk A s B t) : A.out s = B.out t := h [] (by simp)
theorem Alk.go {A B : Au} {s t b : Nat} (h : Alk A s B t) (hb : b < 256) : Alk A (A.go s b) B (B.go t b) := fun w hw => h (b :: w) (by
  intro x hx
  rcases List.mem_cons.1 hx with rfl | hx
  · exact hb
  · exact hw x hx)
inductive s_Reach (A : Au) : Nat → Prop
  | zero : s_Reach A 0
  | step {s b : Nat} : s_Reach A s → b < 256 → s_Reach A (A.go s b)
theorem s_Reach.lt {A : Au} (o : A.Ok) {s : Nat} (h : s_Reach A s) : s < A.n := by
  induction h with
  | zero => exact o.pos
  | step _ hb ih => exact o.lt _ _ ih hb
/-- a mark of the states that are reached: alike ones have the same, others not -/
def Ker (A : Au) (k : Nat → Int) : Prop := ∀ s t, s_Reach A s → s_Reach A t → (k s = k t ↔ Alk A s A t)

open Classical in
noncomputable def vec (A : Au) (k : Nat → Int) (b : Nat) : List Int := (List.range A.n).map fun s => if s_Reach A s then k (A.go s b) else 0
theorem vec_eq {A : Au} (o : A.Ok) (k : Nat → Int) (a b : Nat) : vec A k a = vec A k b ↔ ∀ s, s_Reach A s → k (A.go s a) = k (A.go s b) := by
  unfold vec
  constructor
  · intro h s hs
    have := List.map_inj_left.1 h s (List.mem_range.2 (hs.lt o))
    simpa [hs] using this
  · intro h
    apply List.map_congr_left
    intro s _
    by_cases hs : s_Reach A s
    · simp only [if_pos hs]; exact h s hs
    · simp only [if_neg hs]
section
variable {α β : Type} [DecidableEq α] [DecidableEq β]
theorem fb_kernel (f : Nat → α) (g : Nat → β) (N : Nat) (h : ∀ b c, b < N → c < N → (f b = f c ↔ g b = g c)) : ∀ n, n ≤ N → fb f n = fb g n := by
  intro n
  induction n with
  | zero => intro _; rfl
  | succ n ih =>
    intro hn
    have e := ih (by omega)
    have hm : f n ∈ firsts f n ↔ g n ∈ firsts g n := by
      rw [mem_firsts, mem_firsts]
      constructor
      · rintro ⟨b, hb, e⟩; exact ⟨b, hb, (h b n (by omega) (by omega)).1 e⟩
      · rintro ⟨b, hb, e⟩; exact ⟨b, hb, (h b n (by omega) (by omega)).2 e⟩
    by_cases hf : f n ∈ firsts f n
    · rw [fb_old f n hf, fb_old g n (hm.1 hf), e]
    · rw [fb_new f n hf, fb_new g n (fun x => hf (hm.2 x)), e]
end
/-- of each class its first byte -/
noncomputable def s_reps (A : Au) (k : Nat → Int) : List Nat := fb (vec A k) 256
def addK (k : Nat → Int) (l : List Nat) (t : Nat) : List Nat := if k t ∈ l.map k then l else l ++ [t]
/-- the states met, one of each kind, the first i gone through -/
def likeN (A : Au) (k : Nat → Int) (rs : List Nat) : Nat → List Nat
  | 0 => [0]
  | i + 1 => match (likeN A k rs i)[i]? with
    | some s => (rs.map (A.go s)).foldl (addK k) (likeN A k rs i)
    | none => likeN A k rs i
theorem addK_nodup (k : Nat → Int) {l : List Nat} (t : Nat) (h : (l.map k).Nodup) : ((addK k l t).map k).Nodup := by
  unfold addK
  split
  · exact h
  · rename_i hn
    rw [List.map_append, List.nodup_append]
    refine ⟨h, by simp, ?_⟩
    intro a ha b hb
    have : b = k t := by simpa using hb
    subst this
    rintro rfl
    exact hn ha
theorem foldK_nodup (k : Nat → Int) : ∀ (ts : List Nat) {l : List Nat}, (l.map k).Nodup → ((ts.foldl (addK k) l).map k).Nodup
  | [], l, h => h
  | t :: ts, l, h => foldK_nodup k ts (addK_nodup k t h)
theorem foldK_all {p : Nat → Prop} (k : Nat → Int) : ∀ (ts : List Nat) {l : List Nat}, (∀ x ∈ l, p x) → (∀ x ∈ ts, p x) → ∀ x ∈ ts.foldl (addK k) l, p x
  | [], l, h, _ => h
  | t :: ts, l, h, h2 => foldK_all k ts (by
      intro x hx
      unfold addK at hx
      split at hx
      · exact h x hx
      · rcases List.mem_append.1 hx with hx | hx
        · exact h x hx
        · rw [List.mem_singleton.1 hx]; exact h2 t (by simp)) (fun x hx => h2 x (by simp [hx]))
section
variable {A : Au} {k : Nat → Int} {rs : List Nat}
theorem like_succ (i s : Nat) (h : (likeN A k rs i)[i]? = some s) : likeN A k rs (i + 1) = (rs.map (A.go s)).foldl (addK k) (likeN A k rs i) := by
  show (match (likeN A k rs i)[i]? with | some s => (rs.map (A.go s)).foldl (addK k) (likeN A k rs i) | none => likeN A k rs i) = _
  rw [h]
theorem like_stop (i : Nat) (h : (likeN A k rs i).length ≤ i) : likeN A k rs (i + 1) = likeN A k rs i := by
  show (match (likeN A k rs i)[i]? with | some s => (rs.map (A.go s)).foldl (addK k) (likeN A k rs i) | none => likeN A k rs i) = _
  rw [List.getElem?_eq_none h]
theorem like_end {i j : Nat} (h : (likeN A k rs i).length ≤ i) (hj : i ≤ j) : likeN A k rs j = likeN A k rs i := by
  induction j with
  | zero => have : i = 0 := by omega
            subst this; rfl
  | succ j ih =>
    rcases Nat.lt_or_ge j i with h1 | h1
    · have : i = j + 1 := by omega
      subst this; rfl
    · have e := ih h1
      rw [like_stop j (by rw [e]; omega), e]
theorem like_nodup (i : Nat) : ((likeN A k rs i).map k).Nodup := by
  induction i with
  | zero => simp [likeN]
  | succ i ih =>
    rcases h : (likeN A k rs i)[i]? with _ | s
    · rw [like_stop i (List.getElem?_eq_none_iff.1 h)]; exact ih
    · rw [like_succ i s h]; exact foldK_nodup _ _ ih
theorem like_reach (hrs : ∀ b ∈ rs, b < 256) (i : Nat) : ∀ x ∈ likeN A k rs i, s_Reach A x := by
  induction i with
  | zero => intro x hx; rw [List.mem_singleton.1 hx]; exact .zero
  | succ i ih =>
    rcases h : (likeN A k rs i)[i]? with _ | s
    · rw [like_stop i (List.getElem?_eq_none_iff.1 h)]; exact ih
    · rw [like_succ i s h]
      refine foldK_all _ _ ih ?_
      intro x hx
      obtain ⟨b, hb, rfl⟩ := List.mem_map.1 hx
      exact .step (ih s (List.mem_of_getElem? h)) (hrs b hb)
end
theorem nodup_len {n : Nat} : ∀ {l : List Nat}, l.Nodup → (∀ x ∈ l, x < n) → l.length ≤ n := by
  induction n with
  | zero =>
    intro l _ h2
    cases l with
    | nil => simp
    | cons x l => exact absurd (h2 x (by simp)) (by omega)
  | succ n ih =>
    intro l h h2
    by_cases hm : n ∈ l
    · have h3 := ih (h.erase n) (fun x hx => by
        have h4 := h2 x (List.mem_of_mem_erase hx)
        have h5 : x ≠ n := fun e => (h.mem_erase_iff.1 hx).1 e
        omega)
      rw [List.length_erase_of_mem hm] at h3
      omega
    · have h3 := ih h (fun x hx => by
        have h4 := h2 x hx
        have h5 : x ≠ n := fun e => hm (e ▸ hx)
        omega)
      omega
theorem like_len {A : Au} (o : A.Ok) {k : Nat → Int} {rs : List Nat} (hrs : ∀ b ∈ rs, b < 256) (i : Nat) : (likeN A k rs i).length ≤ A.n := by
  refine nodup_len ?_ (fun x hx => (like_reach hrs i x hx).lt o)
  exact List.Pairwise.of_map k (fun a b h e => h (by rw [e])) (like_nodup (A := A) (k := k) (rs := rs) i)
/-- all the states met, one of each kind -/
noncomputable def likes (A : Au) (k : Nat → Int) : List Nat := likeN A k (s_reps A k) A.n
theorem reps_lt (A : Au) (k : Nat → Int) : ∀ b ∈ s_reps A k, b < 256 := fb_lt _ _
theorem likes_len {A : Au} (o : A.Ok) (k : Nat → Int) : (likes A k).length ≤ A.n := like_len o (reps_lt A k) _
/-- a table, plainly -/
structure Tb where
  cls : Nat → Int
  nx : List (List Int)
  fo : List Nat
  en : List Nat
theorem Tb.same_ {T S : Tb} (h1 : T.cls = S.cls) (h2 : T.nx = S.nx) (h3 : T.fo = S.fo) (h4 : T.en = S.en) : T = S := by
  cases T; cases S; simp only at h1 h2 h3 h4; subst h1 h2 h3 h4; rfl
def Tb.nxt (T : Tb) (s : Nat) (c : Int) : Int := (T.nx.getD s []).getD c.toNat 0
def Tb.many (T : Tb) : Nat := (T.nx.getD 0 []).length
def Tb.au (T : Tb) : Au := ⟨T.nx.length, fun s b => (T.nxt s (T.cls b)).toNat, fun s => (T.fo.getD s 0, T.en.getD s 0)⟩
/-- its numbers fit one another -/
structure s_Fits (T : Tb) : Prop where
  n1 : 1 ≤ T.nx.length
  n2 : T.nx.length ≤ 4096
  nf : T.fo.length = T.nx.length
  ne : T.en.length = T.nx.length
  m1 : 1 ≤ T.many
  m2 : T.many ≤ 256
  cl : ∀ b, b < 256 → 0 ≤ T.cls b ∧ T.cls b < T.many
  row : ∀ s, s < T.nx.length → (T.nx.getD s []).length = T.many
  fe : ∀ s, s < T.nx.length → T.fo.getD s 0 &&& T.en.getD s 0 = T.fo.getD s 0
  tr : ∀ s c, s < T.nx.length → c < T.many → 0 ≤ T.nxt s (c : Nat) ∧ T.nxt s (c : Nat) < T.nx.length ∧ T.fo.getD s 0 &&& T.fo.getD (T.nxt s (c : Nat)).toNat 0 = T.fo.getD s 0
theorem s_Fits.ok {T : Tb} (h : s_Fits T) : T.au.Ok := ⟨h.n1, fun s b hs hb => by
  obtain ⟨c0, c1⟩ := h.cl b hb
  have := h.tr s (T.cls b).toNat hs (by omega)
  rw [Int.toNat_of_nonneg c0] at this
  show (T.nxt s (T.cls b)).toNat < T.nx.length
  omega⟩

section
variable {A B : Au} {k q : Nat → Int}
theorem reach_alk (h0 : Alk A 0 B 0) {t : Nat} (h : s_Reach B t) : ∃ s, s_Reach A s ∧ Alk A s B t := by
  induction h with
  | zero => exact ⟨0, .zero, h0⟩
  | @step t b ht hb ih =>
    obtain ⟨s, hs, ha⟩ := ih
    exact ⟨_, .step hs hb, ha.go hb⟩
theorem vec_alk (o : A.Ok) (p : B.Ok) (hk : Ker A k) (hq : Ker B q) (h0 : Alk A 0 B 0) (a b : Nat) (ha : a < 256) (hb : b < 256) : vec A k a = vec A k b ↔ vec B q a = vec B q b := by
  rw [vec_eq o, vec_eq p]
  constructor
  · intro h t ht
    obtain ⟨s, hs, hst⟩ := reach_alk h0 ht
    have h1 := (hk _ _ (.step hs ha) (.step hs hb)).1 (h s hs)
    exact (hq _ _ (.step ht ha) (.step ht hb)).2 (((hst.go ha).symm.trans h1).trans (hst.go hb))
  · intro h s hs
    obtain ⟨t, ht, hst⟩ := reach_alk h0.symm hs
    have h1 := (hq _ _ (.step ht ha) (.step ht hb)).1 (h t ht)
    exact (hk _ _ (.step hs ha) (.step hs hb)).2 (((hst.go ha).symm.trans h1).trans (hst.go hb))
theorem reps_alk (o : A.Ok) (p : B.Ok) (hk : Ker A k) (hq : Ker B q) (h0 : Alk A 0 B 0) : s_reps A k = s_reps B q :=
  fb_kernel _ _ 256 (fun a b ha hb => vec_alk o p hk hq h0 a b ha hb) 256 (Nat.le_refl _)
/-- lists of reached states, one by one alike -/
def Pw (A B : Au) (l m : List Nat) : Prop := l.length = m.length ∧ (∀ x ∈ l, s_Reach A x) ∧ (∀ x ∈ m, s_Reach B x) ∧ ∀ i (h : i < l.length) (h2 : i < m.length), Alk A l[i] B m[i]
theorem Pw.mem (hk : Ker A k) (hq : Ker B q) {l m : List Nat} (h : Pw A B l m) {s t : Nat} (hs : s_Reach A s) (ht : s_Reach B t) (ha : Alk A s B t) : k s ∈ l.map k ↔ q t ∈ m.map q := by
  obtain ⟨hl, h1, h2, h3⟩ := h
  constructor
  · intro hm
    obtain ⟨x, hx, e⟩ := List.mem_map.1 hm
    obtain ⟨i, hi, rfl⟩ := List.mem_iff_getElem.1 hx
    refine List.mem_map.2 ⟨m[i], List.getElem_mem _, ?_⟩
    refine (hq _ _ (h2 _ (List.getElem_mem _)) ht).2 ?_
    exact ((h3 i hi (by omega)).symm.trans ((hk _ _ (h1 _ hx) hs).1 e)).trans ha
  · intro hm
    obtain ⟨x, hx, e⟩ := List.mem_map.1 hm
    obtain ⟨i, hi, rfl⟩ := List.mem_iff_getElem.1 hx
    refine List.mem_map.2 ⟨l[i], List.getElem_mem _, ?_⟩
    refine (hk _ _ (h1 _ (List.getElem_mem _)) hs).2 ?_
    exact ((h3 i (by omega) hi).trans ((hq _ _ (h2 _ hx) ht).1 e)).trans ha.symm
theorem Pw.add (hk : Ker A k) (hq : Ker B q) {l m : List Nat} (h : Pw A B l m) {s t : Nat} (hs : s_Reach A s) (ht : s_Reach B t) (ha : Alk A s B t) : Pw A B (addK k l s) (addK q m t) := by
  have hm := h.mem hk hq hs ht ha
  unfold addK
  by_cases e : k s ∈ l.map k
  · rw [if_pos e, if_pos (hm.1 e)]; exact h
  · rw [if_neg e, if_neg (fun x => e (hm.2 x))]
    obtain ⟨hl, h1, h2, h3⟩ := h
    refine ⟨by simp [hl], ?_, ?_, ?_⟩
    · intro x hx
      rcases List.mem_append.1 hx with hx | hx
      · exact h1 x hx
      · rw [List.mem_singleton.1 hx]; exact hs
    · intro x hx
      rcases List.mem_append.1 hx with hx | hx
      · exact h2 x hx
      · rw [List.mem_singleton.1 hx]; exact ht
    · intro i hi hi2
      by_cases hil : i < l.length
      · rw [List.getElem_append_left hil, List.getElem_append_left (by omega)]
        exact h3 i hil (by omega)
      · have h4 : i = l.length := by simp at hi; omega
        subst h4
        rw [List.getElem_append_right (by omega), List.getElem_append_right (by omega)]
        simpa using ha
theorem Pw.fold (hk : Ker A k) (hq : Ker B q) {s t : Nat} (hs : s_Reach A s) (ht : s_Reach B t) (ha : Alk A s B t) : ∀ (rs : List Nat) (hrs : ∀ b ∈ rs, b < 256) {l m : List Nat}, Pw A B l m → Pw A B ((rs.map (A.go s)).foldl (addK k) l) ((rs.map (B.go t)).foldl (addK q) m)
  | [], _, l, m, h => h
  | b :: rs, hrs, l, m, h => by
    rw [List.map_cons, List.map_cons, List.foldl_cons, List.foldl_cons]
    have hb := hrs b (by simp)
    exact Pw.fold hk hq hs ht ha rs (fun x hx => hrs x (by simp [hx])) (h.add hk hq (.step hs hb) (.step ht hb) (ha.go hb))
theorem Pw.like (hk : Ker A k) (hq : Ker B q) (h0 : Alk A 0 B 0) {rs : List Nat} (hrs : ∀ b ∈ rs, b < 256) (i : Nat) : Pw A B (likeN A k rs i) (likeN B q rs i) := by
  induction i with
  | zero =>
    refine ⟨rfl, ?_, ?_, ?_⟩
    · intro x hx; rw [List.mem_singleton.1 hx]; exact .zero
    · intro x hx; rw [List.mem_singleton.1 hx]; exact .zero
    · intro i h1 h2
      have h3 : i = 0 := by simp [likeN] at h1; exact h1
      subst h3
      exact h0
  | succ i ih =>
    by_cases hi : i < (likeN A k rs i).length
    · have hi2 : i < (likeN B q rs i).length := by rw [← ih.1]; exact hi
      rw [like_succ i _ (List.getElem?_eq_getElem hi), like_succ i _ (List.getElem?_eq_getElem hi2)]
      exact Pw.fold hk hq (ih.2.1 _ (List.getElem_mem hi)) (ih.2.2.1 _ (List.getElem_mem hi2)) (ih.2.2.2 i hi hi2) rs hrs ih
    · have h1 : (likeN A k rs i).length ≤ i := by omega
      have h2 : (likeN B q rs i).length ≤ i := by rw [← ih.1]; exact h1
      rw [like_stop i h1, like_stop i h2]
      exact ih
theorem Pw.all (o : A.Ok) (p : B.Ok) (hk : Ker A k) (hq : Ker B q) (h0 : Alk A 0 B 0) : Pw A B (likes A k) (likes B q) := by
  have hr := reps_alk o p hk hq h0
  have h1 := Pw.like hk hq h0 (reps_lt A k) (A.n + B.n)
  have e1 : likeN A k (s_reps A k) (A.n + B.n) = likes A k := like_end (likes_len o k) (by omega)
  have e2 : likeN B q (s_reps A k) (A.n + B.n) = likes B q := by rw [hr]; exact like_end (likes_len p q) (by omega)
  rw [e1, e2] at h1
  exact h1
end
end Go.Proofs.YtkedgombccdamaaDoor
namespace Go.Proofs.YtkedgombccdamaaDoor
open Go.RowKit Go.Maps Go.WideMaps
set_option linter.unusedVariables false
set_option linter.unusedSimpArgs false

def encZ (z : Int) : Array Value := #[.int .i64 z]
theorem encZ_size (z : Int) : (encZ z).size = 1 := rfl
/-- a row of numbers, and where it lies -/
structure RV where
  a : Option Addr
  c : Nat
  l : List Int
def RV.v (r : RV) : Value := .slice r.a r.l.length r.c
def rowC (r : RV) : Array Value := #[.slice r.a r.l.length r.c]
theorem rowC_size (r : RV) : (rowC r).size = 1 := rfl
/-- a table's cells: its classes and three lists -/
def dfaC (f : Nat → Int) (A : Option Addr) (n c : Nat) (B : Option Addr) (m d : Nat) (C : Option Addr) (k e : Nat) : Array Value := clsC f ++ #[.slice A n c, .slice B m d, .slice C k e]
section
variable (f : Nat → Int) (A : Option Addr) (n c : Nat) (B : Option Addr) (m d : Nat) (C : Option Addr) (k e : Nat)
theorem dfaC_size : (dfaC f A n c B m d C k e).size = 259 := by simp [dfaC, clsC_size]
theorem dfaC_lo (i : Nat) (h : i < 256) : (dfaC f A n c B m d C k e)[i]? = some (.int .i64 (f i)) := by
  unfold dfaC
  rw [Array.getElem?_append_left (by rw [clsC_size]; exact h), clsC_at f i h]
theorem dfaC_1 : (dfaC f A n c B m d C k e)[256]? = some (.slice A n c) := by
  unfold dfaC
  rw [Array.getElem?_append_right (by rw [clsC_size]; omega), clsC_size]
  rfl
theorem dfaC_2 : (dfaC f A n c B m d C k e)[257]? = some (.slice B m d) := by
  unfold dfaC
  rw [Array.getElem?_append_right (by rw [clsC_size]; omega), clsC_size]
  rfl
theorem dfaC_3 : (dfaC f A n c B m d C k e)[258]? = some (.slice C k e) := by
  unfold dfaC
  rw [Array.getElem?_append_right (by rw [clsC_size]; omega), clsC_size]
  rfl
theorem dfaC_one : (dfaC f A n c B m d C k e).all (·.oneCell') = true := by
  unfold dfaC
  rw [Array.all_append, clsC_oneCell]
  simp [Value.oneCell']
theorem dfaC_ext {f g : Nat → Int} (h : ∀ b, b < 256 → f b = g b) : dfaC f A n c B m d C k e = dfaC g A n c B m d C k e := by
  unfold dfaC
  rw [clsC_ext h]
theorem set_app3 {α : Type} (l : Array α) (x y z u : α) (h : l.size = 256) : (l ++ #[x, y, z]).setIfInBounds 256 u = l ++ #[u, y, z] ∧ (l ++ #[x, y, z]).setIfInBounds 257 u = l ++ #[x, u, z] ∧ (l ++ #[x, y, z]).setIfInBounds 258 u = l ++ #[x, y, u] := by
  have key : ∀ j v, j < 3 → (l ++ #[x, y, z]).setIfInBounds (256 + j) v = l ++ (#[x, y, z].setIfInBounds j v) := by
    intro j v hj
    rw [← h]
    apply Array.ext
    · simp
    · intro i h1 h2
      simp only [Array.size_setIfInBounds, Array.size_append] at h1
      rw [Array.getElem_setIfInBounds (by simpa using h1)]
      by_cases e : i < l.size
      · rw [if_neg (by omega), Array.getElem_append_left e, Array.getElem_append_left e]
      · rw [Array.getElem_append_right (by omega), Array.getElem_append_right (by omega), Array.getElem_setIfInBounds]
        by_cases e2 : l.size + j = i
        · rw [if_pos e2, if_pos (by omega)]
        · rw [if_neg e2, if_neg (by omega)]
  exact ⟨key 0 u (by omega), key 1 u (by omega), key 2 u (by omega)⟩
theorem dfaC_set1 (A' : Option Addr) (n' c' : Nat) : (dfaC f A n c B m d C k e).setIfInBounds 256 (.slice A' n' c') = dfaC f A' n' c' B m d C k e := (set_app3 _ _ _ _ _ (clsC_size f)).1
theorem dfaC_set2 (A' : Option Addr) (n' c' : Nat) : (dfaC f A n c B m d C k e).setIfInBounds 257 (.slice A' n' c') = dfaC f A n c A' n' c' C k e := (set_app3 _ _ _ _ _ (clsC_size f)).2.1
theorem dfaC_set3 (A' : Option Addr) (n' c' : Nat) : (dfaC f A n c B m d C k e).setIfInBounds 258 (.slice A' n' c') = dfaC f A n c B m d A' n' c' := (set_app3 _ _ _ _ _ (clsC_size f)).2.2
theorem dfaC_cls {w : World} {b off : Nat} (h : RowAt w b off (dfaC f A n c B m d C k e)) : RowAt w b off (clsC f) := fun j v hv => h j v (by
  unfold dfaC
  rw [Array.getElem?_append_left]
  · exact hv
  · rcases Nat.lt_or_ge j (clsC f).size with h1 | h1
    · exact h1
    · rw [Array.getElem?_eq_none h1] at hv; cases hv)
end
theorem info_dfa : (Tryd.prog.info? 33).map (·.size) = some 259 := by kernel_rfl
theorem build_dfa0 (w : World) : (Instr.build 33 #[]).run Tryd.prog w = .ok (.agg (dfaC (fun _ => 0) none 0 0 none 0 0 none 0 0)) w := by kernel_rfl
theorem field_dfa_0 (b off : Nat) (w : World) : (Instr.fieldAt 33 (.pointer (some ⟨b, off, none⟩)) 0).run Tryd.prog w = .ok (.pointer (some ⟨b, off, none⟩)) w := by kernel_rfl
theorem field_dfa_1 (b off : Nat) (w : World) : (Instr.fieldAt 33 (.pointer (some ⟨b, off, none⟩)) 1).run Tryd.prog w = .ok (.pointer (some ⟨b, off + 256, none⟩)) w := by kernel_rfl
theorem field_dfa_2 (b off : Nat) (w : World) : (Instr.fieldAt 33 (.pointer (some ⟨b, off, none⟩)) 2).run Tryd.prog w = .ok (.pointer (some ⟨b, off + 257, none⟩)) w := by kernel_rfl
theorem field_dfa_3 (b off : Nat) (w : World) : (Instr.fieldAt 33 (.pointer (some ⟨b, off, none⟩)) 3).run Tryd.prog w = .ok (.pointer (some ⟨b, off + 258, none⟩)) w := by kernel_rfl
theorem under_cls : Tryd.prog.underlying 30 = some (.array (Tryd.prog.arrayLen 30) (Tryd.prog.elem 30)) := by kernel_rfl
theorem len_cls : Tryd.prog.arrayLen 30 = 256 := by kernel_rfl
theorem size_clsE (w : World) : (sizeOf (Tryd.prog.elem 30)).run Tryd.prog w = .ok 1 w := by kernel_rfl
theorem index_cls (b off m : Nat) (hm : m < 256) (w : World) : (Instr.indexAt 30 (.pointer (some ⟨b, off, none⟩)) (.int .i64 m)).run Tryd.prog w = .ok (.pointer (some ⟨b, off + m * 1, none⟩)) w := by
  have e := run_indexAt_array (P := Tryd.prog) w 30 ⟨b, off, none⟩ .i64 (m : Int) under_cls
  rw [if_pos ⟨by omega, by rw [len_cls]; omega⟩, size_clsE] at e
  simp only [Int.toNat_natCast, Result.andThen_ok, addr_add] at e
  exact e
theorem run_size_int (w : World) : (sizeOf 3).run Tryd.prog w = .ok 1 w := by kernel_rfl
theorem run_index_cls (w : World) (g : Nat → Int) (b : Nat) (h : b < 256) : (Instr.index 30 (.agg (clsC g)) (.int .i64 (b : Int))).run Tryd.prog w = .ok (.int .i64 (g b)) w := by
  have hn : (0 : Int) ≤ b ∧ (b : Int) < 256 := by omega
  have hp := run_part_plain (P := Tryd.prog) w (e := 3) (by kernel_rfl) (xs := clsC g) (off := b * 1) (by rw [Nat.mul_one]; exact clsC_at g b h)
  simp [Instr.index, run_underlying Tryd.underlying30, asIntOf, hn, run_size_int]
  rw [if_pos h]
  simpa using hp
theorem blk_cls {w : World} {g b : Nat} {f : Nat → Int} {A : Option Addr} {n c : Nat} {B : Option Addr} {m d : Nat} {C : Option Addr} {k e : Nat} (h : Blk w g 33 (dfaC f A n c B m d C k e)) (hb : b < 256) : w.cell? ⟨g, 0 + b * 1, none⟩ = some (.int .i64 (f b)) := by
  rw [show 0 + b * 1 = b by omega]
  exact h.cellv (dfaC_lo _ _ _ _ _ _ _ _ _ _ b hb)
section
variable {w : World} {g : Nat} {f : Nat → Int} {A : Option Addr} {n c : Nat} {B : Option Addr} {m d : Nat} {C : Option Addr} {k e : Nat}
theorem blk_d1 (h : Blk w g 33 (dfaC f A n c B m d C k e)) : w.cell? ⟨g, 256, none⟩ = some (.slice A n c) := h.cellv (dfaC_1 _ _ _ _ _ _ _ _ _ _)
theorem blk_d2 (h : Blk w g 33 (dfaC f A n c B m d C k e)) : w.cell? ⟨g, 257, none⟩ = some (.slice B m d) := h.cellv (dfaC_2 _ _ _ _ _ _ _ _ _ _)
theorem blk_d3 (h : Blk w g 33 (dfaC f A n c B m d C k e)) : w.cell? ⟨g, 258, none⟩ = some (.slice C k e) := h.cellv (dfaC_3 _ _ _ _ _ _ _ _ _ _)
end
theorem under_rows : Tryd.prog.underlying 31 = some (.slice (Tryd.prog.elem 31)) := by kernel_rfl
theorem size_rowE (w : World) : (sizeOf (Tryd.prog.elem 31)).run Tryd.prog w = .ok 1 w := by kernel_rfl
/-- a table, and where its parts lie -/
structure TV where
  f : Nat → Int
  rs : List RV
  A : Option Addr
  c : Nat
  fo : List Nat
  B : Option Addr
  d : Nat
  en : List Nat
  C : Option Addr
  e : Nat
def TV.T (x : TV) : Tb := ⟨x.f, x.rs.map (·.l), x.fo, x.en⟩
def TV.C' (x : TV) : Array Value := dfaC x.f x.A x.rs.length x.c x.B x.fo.length x.d x.C x.en.length x.e
/-- it lies in memory, below block N -/
structure TabIn (w : World) (N : Nat) (x : TV) : Prop where
  rows : SliceOf w N 1 rowC x.A x.rs
  row : ∀ r ∈ x.rs, SliceOf w N 1 encZ r.a r.l
  fo : SliceOf w N 1 encR x.B x.fo
  en : SliceOf w N 1 encR x.C x.en
  nb : x.rs.length ≤ 2199023255552
  rb : ∀ r ∈ x.rs, r.l.length ≤ 2199023255552
  fb : x.fo.length ≤ 2199023255552
  eb : x.en.length ≤ 2199023255552
  f32 : ∀ y ∈ x.fo, y < 4294967296
  e32 : ∀ y ∈ x.en, y < 4294967296
section
variable {w w' : World} {N : Nat} {x : TV}
theorem TabIn.below (h : TabIn w N x) (hb : Below N w w') : TabIn w' N x := ⟨h.rows.below hb, fun r hr => (h.row r hr).below hb, h.fo.below hb, h.en.below hb, h.nb, h.rb, h.fb, h.eb, h.f32, h.e32⟩
theorem TabIn.more {N' : Nat} (h : TabIn w N x) (hN : N ≤ N') : TabIn w N' x := ⟨h.rows.more hN, fun r hr => (h.row r hr).more hN, h.fo.more hN, h.en.more hN, h.nb, h.rb, h.fb, h.eb, h.f32, h.e32⟩
theorem TabIn.then_ (h : TabIn w w.heap.size x) (hb : Below w.heap.size w w') : TabIn w' w'.heap.size x := (h.below hb).more hb.size
/-- a row is there -/
theorem TabIn.rowAt (h : TabIn w N x) {s : Nat} (hs : s < x.rs.length) : ∃ b off, x.A = some ⟨b, off, none⟩ ∧ b < N ∧ w.cell? ⟨b, off + s * 1, none⟩ = some (.slice x.rs[s].a x.rs[s].l.length x.rs[s].c) := by
  obtain ⟨b, off, e, hb, hr⟩ := h.rows.at_ (by omega)
  exact ⟨b, off, e, hb, hr s hs 0 _ rfl⟩
theorem slice_cell {α : Type} {enc : α → Array Value} {A : Option Addr} {l : List α} (h : SliceOf w N 1 enc A l) {s : Nat} (hs : s < l.length) {v : Value} (hv : (enc l[s])[0]? = some v) : ∃ b off, A = some ⟨b, off, none⟩ ∧ b < N ∧ w.cell? ⟨b, off + s * 1, none⟩ = some v := by
  obtain ⟨b, off, e, hb, hr⟩ := h.at_ (by omega)
  exact ⟨b, off, e, hb, hr s hs 0 _ hv⟩
theorem cell_keep {b off : Nat} {v : Value} (h : w.cell? ⟨b, off, none⟩ = some v) (hb : b < N) (hB : Below N w w') : w'.cell? ⟨b, off, none⟩ = some v := (World.cell?_of_block (w := w) (hB.block b hb)).trans h
end
section
variable {ops : Array Oper} {rest : List Oper} {o : Oper} {a : Act} {w : World} {Q : Exit → Act → World → Prop}
theorem wl_load_dfa (hgd : o.guard = none) (x : Operand) (ho : o.op = .load 33 x)
    (g : Nat) (hx : a.eval x = .pointer (some ⟨g, 0, none⟩)) {f : Nat → Int} {A : Option Addr} {n c : Nat} {B : Option Addr} {m d : Nat} {C : Option Addr} {k e : Nat} (hb : Blk w g 33 (dfaC f A n c B m d C k e))
    (h : wpList Tryd.prog ops Q rest (a.put o.dst (.agg (dfaC f A n c B m d C k e))) w) : wpList Tryd.prog ops Q (o :: rest) a w :=
  wpList_load_row hgd _ x ho g hx _ _ _ _ hb Tryd.underlying33 rfl (info_dfa.trans (by rw [dfaC_size])) h
theorem wl_store_dfa (hgd : o.guard = none) (x y : Operand) (ho : o.op = .store 33 x y)
    (g : Nat) {f : Nat → Int} {A : Option Addr} {n c : Nat} {B : Option Addr} {m d : Nat} {C : Option Addr} {k e : Nat} (hx : a.eval x = .pointer (some ⟨g, 0, none⟩)) (hy : a.eval y = .agg (dfaC f A n c B m d C k e))
    {f0 : Nat → Int} {A0 : Option Addr} {n0 c0 : Nat} {B0 : Option Addr} {m0 d0 : Nat} {C0 : Option Addr} {k0 e0 : Nat} (hb : Blk w g 33 (dfaC f0 A0 n0 c0 B0 m0 d0 C0 k0 e0))
    (h : ∀ w', Blk w' g 33 (dfaC f A n c B m d C k e) → w.grownBy w' (some g) → wpList Tryd.prog ops Q rest (a.put o.dst undef) w') : wpList Tryd.prog ops Q (o :: rest) a w :=
  wpList_store_row hgd _ x y ho g _ hx hy _ _ hb (info_dfa.trans (by rw [dfaC_size])) (by rw [dfaC_size, dfaC_size]) (dfaC_one _ _ _ _ _ _ _ _ _ _) (h _ (hb.setRow_same _) (only_setRow (only_refl _ _) _))
theorem s_wl_load_cls (hgd : o.guard = none) (x : Operand) (ho : o.op = .load 30 x)
    (g : Nat) (hx : a.eval x = .pointer (some ⟨g, 0, none⟩)) (y : Nat → Int) (hr : RowAt w g 0 (clsC y))
    (h : wpList Tryd.prog ops Q rest (a.put o.dst (.agg (clsC y))) w) : wpList Tryd.prog ops Q (o :: rest) a w :=
  wpList_load_at hgd _ x ho g 0 hx _ _ hr Tryd.underlying30 rfl (info_cls.trans (by rw [clsC_size])) h
end
section
variable {ops : Array Oper} {S : Nat → GSpec} {Q : Exit → Act → World → Prop} {i : Nat} {o : Oper} {a : Act} {w : World}
theorem gs_load_dfa (hw : Region.wanted o (yielded ops a.tmps) = true) (x : Operand) (ho : o.op = .load 33 x) (g : Nat) (hx : a.eval x = .pointer (some ⟨g, 0, none⟩))
    {f : Nat → Int} {A : Option Addr} {n c : Nat} {B : Option Addr} {m d : Nat} {C : Option Addr} {k e : Nat} (hg : Blk w g 33 (dfaC f A n c B m d C k e))
    (hp : (S i).p (.agg (dfaC f A n c B m d C k e)) w) : GStep Tryd.prog ops S Q i o a w :=
  gs_load hw _ x ho g hx _ _ hg _ Tryd.underlying33 rfl (info_dfa.trans (by rw [dfaC_size])) hp
theorem gs_index_arr (hw : Region.wanted o (yielded ops a.tmps) = true) (t : TypeId) (x ix : Operand) (ho : o.op = .indexAddr t x ix) (b off m : Nat) (hx : a.eval x = .pointer (some ⟨b, off, none⟩)) (hi : a.eval ix = .int .i64 m)
    (hr : ∀ w, (Instr.indexAt t (.pointer (some ⟨b, off, none⟩)) (.int .i64 m)).run Tryd.prog w = .ok (.pointer (some ⟨b, off + m * 1, none⟩)) w) (hp : (S i).p (.pointer (some ⟨b, off + m * 1, none⟩)) w) : GStep Tryd.prog ops S Q i o a w :=
  gs_run hw (v := .pointer (some ⟨b, off + m * 1, none⟩)) (by unfold execOp; simp only [ho, hx, hi, Sem.run_bind, hr, Result.andThen_ok, Sem.run_pure]) (Below.refl _ _) hp
theorem gs_and_u32 (hw : Region.wanted o (yielded ops a.tmps) = true) (t t2 : TypeId) (x y : Operand) (ho : o.op = .binOp .and t x y t2) (p q : Nat) (hx : a.eval x = .int .u32 p) (hy : a.eval y = .int .u32 q) (hp1 : p < 4294967296) (hq1 : q < 4294967296)
    (hp : (S i).p (.int .u32 ((p &&& q : Nat) : Int)) w) : GStep Tryd.prog ops S Q i o a w :=
  gs_bin hw _ _ _ x y ho _ _ _ hx hy (by rw [eqGuard_at_int]; rfl) (by rw [← u32_and_nat p q hp1 hq1]; rfl) hp
theorem gs_andnot_u32 (hw : Region.wanted o (yielded ops a.tmps) = true) (t t2 : TypeId) (x y : Operand) (ho : o.op = .binOp .andNot t x y t2) (p q : Nat) (hx : a.eval x = .int .u32 p) (hy : a.eval y = .int .u32 q) (hp1 : p < 4294967296) (hq1 : q < 4294967296)
    (hp : (S i).p (.int .u32 ((p &&& (4294967295 - q) : Nat) : Int)) w) : GStep Tryd.prog ops S Q i o a w :=
  gs_bin hw _ _ _ x y ho _ _ _ hx hy (by rw [eqGuard_at_int]; rfl) (by rw [← u32_andNot_nat p q hp1 hq1]; rfl) hp
end
theorem andnot_zero (a b : Nat) (ha : a < 4294967296) (hb : b < 4294967296) : a &&& (4294967295 - b) = 0 ↔ a &&& b = a := by
  have ht : ∀ i, (4294967295 - b).testBit i = (decide (i < 32) && !b.testBit i) := by
    intro i
    have := Nat.testBit_two_pow_sub_succ (x := b) (n := 32) (by omega) i
    rw [← this]
    congr 1
    omega
  constructor
  · intro h
    apply Nat.eq_of_testBit_eq
    intro i
    have h1 := congrArg (fun n => n.testBit i) h
    simp only [Nat.testBit_and, ht, Nat.zero_testBit] at h1 ⊢
    by_cases hi : i < 32
    · simp [hi] at h1
      cases hA : a.testBit i
      · simp
      · simp [h1 hA]
    · have : a.testBit i = false := Nat.testBit_lt_two_pow (Nat.lt_of_lt_of_le ha (by have := Nat.pow_le_pow_right (show 0 < 2 by omega) (show 32 ≤ i by omega); omega))
      simp [this]
  · intro h
    apply Nat.eq_of_testBit_eq
    intro i
    have h1 := congrArg (fun n => n.testBit i) h
    simp only [Nat.testBit_and, ht, Nat.zero_testBit] at h1 ⊢
    cases hA : a.testBit i
    · simp
    · rw [hA] at h1
      simp at h1
      simp [h1]
attribute [irreducible] dfaC
end Go.Proofs.YtkedgombccdamaaDoor
namespace Go.Proofs.YtkedgombccdamaaDoor
open Go.RowKit
set_option linter.unusedVariables false
set_option linter.unusedSimpArgs false

def takes (c : Nat) (d : Edg) : Bool := d.kd == 2 && d.st.getLsbD c
end Go.Proofs.YtkedgombccdamaaDoor
namespace Go.Proofs.YtkedgombccdamaaDoor
open Go.RowKit Go.Shelf Go.Maps
set_option linter.unusedVariables false
set_option linter.unusedSimpArgs false

theorem ValMap.then_ {w w' : World} {b n : Nat} {m : Int → Option Value} (h : ValMap w b n m) (hb : Below w.heap.size w w') : ValMap w' b n m := h.keep (hb.block b h.lt)
def noKeys : Int → Option Value := fun _ => none
theorem run_makeMap (w : World) : (Instr.makeMap 144 none).run Tryd.prog w = .ok (.map (some w.heap.size)) (w.alloc (.map #[] 0)) := by kernel_rfl
section
variable {ops : Array Oper} {S : Nat → GSpec} {Q : Exit → Act → World → Prop} {i : Nat} {o : Oper} {a : Act} {w : World}
end
end Go.Proofs.YtkedgombccdamaaDoor
namespace Go.Proofs.YtkedgombccdamaaDoor
open Go.RowKit Go.Shelf Go.Maps
set_option linter.unusedVariables false
set_option linter.unusedSimpArgs false

def vAt (mf : Int → Option Value) (n : Nat) : Value := (mf (n : Int)).getD (.slice none 0 0)
/-- the map while the edges es are behind -/
structure EdMap (lo : Nat) (W : World) (bm N : Nat) (es : List Edg) (nm : Nat) (mf : Int → Option Value) : Prop where
  cnt : nm ≤ es.length
  low : lo ≤ bm
  map : ValMap W bm nm mf
  own : ∀ n : Nat, n < N → Own W lo 76 7 edgC (vAt mf n) (edgesAt es n)
  apart : ∀ n n' k : Nat, n < N → n' < N → n ≠ n' → (vAt mf n).ownBlock = some k → (vAt mf n').ownBlock ≠ some k
theorem own_map_ne {α : Type} {enc : α → Array Value} {W : World} {lo size bm nm : Nat} {e : TypeId} {v : Value} {ys : List α} {mf : Int → Option Value} (h : Own W lo e size enc v ys) (hm : ValMap W bm nm mf) : v.ownBlock ≠ some bm := by
  intro hv0
  obtain ⟨D, ⟨es, clock, hb, _⟩, _⟩ := hm
  rcases h.2 with ⟨hv, _⟩ | ⟨g', cap, cur, hv, _, hh, _⟩
  · rw [hv] at hv0; cases hv0
  · rw [hv] at hv0
    have a1 : g' = bm := by simpa [Value.ownBlock] using hv0
    subst a1
    rw [hb] at hh
    injection hh with hh
    cases hh
theorem EdMap.new {lo bm N : Nat} {W : World} (hl : lo ≤ bm) (hm : ValMap W bm 0 noKeys) : EdMap lo W bm N [] 0 noKeys :=
  ⟨Nat.le_refl _, hl, hm, fun n _ => Own.nil_ _ _ _ _ _, fun n n' k _ _ _ h => by cases h⟩
theorem EdMap.then_ {lo bm N nm : Nat} {W W' : World} {es : List Edg} {mf : Int → Option Value} (h : EdMap lo W bm N es nm mf) (hb : Below W.heap.size W W') : EdMap lo W' bm N es nm mf :=
  ⟨h.cnt, h.low, h.map.then_ hb, fun n hn => (h.own n hn).then_ hb, h.apart⟩
theorem edgesAt_snoc (es : List Edg) (d : Edg) (n : Nat) : edgesAt (es ++ [d]) n = edgesAt es n ++ (if d.fr = n then [d] else []) := by
  unfold edgesAt
  rw [List.filter_append]
  congr 1
  by_cases h : d.fr = (n : Int) <;> simp [h]
theorem EdMap.step {lo bm N nm n0 : Nat} {W w4 w5 : World} {es : List Edg} {mf : Int → Option Value} {dd : Edg} {v' : Value} (h : EdMap lo W bm N es nm mf) (hn0 : n0 < N) (hdd : dd.fr = n0)
    (hg : W.grownBy w4 (vAt mf n0).ownBlock) (hm4 : ValMap w4 bm nm mf) (hv : Own w4 lo 76 7 edgC v' (edgesAt es n0 ++ [dd])) (hat : v'.ownBlock = (vAt mf n0).ownBlock ∨ ∃ k, v'.ownBlock = some k ∧ W.heap.size ≤ k)
    (hm : ValMap w5 bm (nm + 1) (fun z => if z = (n0 : Int) then some v' else mf z)) (hg5 : w4.grownBy w5 (some bm)) : EdMap lo w5 bm N (es ++ [dd]) (nm + 1) (fun z => if z = (n0 : Int) then some v' else mf z) := by
  have e0 : vAt (fun z => if z = (n0 : Int) then some v' else mf z) n0 = v' := by simp [vAt]
  have e1 : ∀ n : Nat, n ≠ n0 → vAt (fun z => if z = (n0 : Int) then some v' else mf z) n = vAt mf n := fun n hn => by
    have : ¬ (n : Int) = n0 := by omega
    simp [vAt, this]
  have hfar : ∀ n k : Nat, n < N → n ≠ n0 → (vAt mf n).ownBlock = some k → v'.ownBlock ≠ some k := fun n k hn hne hk h2 => by
    rcases hat with h3 | ⟨k3, h3, h4⟩
    · exact h.apart n n0 k hn hn0 hne hk (h3 ▸ h2)
    · rw [h3] at h2
      injection h2 with h2
      have := ((h.own n hn).lt k hk).2
      omega
  refine ⟨by have := h.cnt; simp; omega, h.low, hm, fun n hn => ?_, fun n n' k hn hn' hne hk => ?_⟩
  · by_cases e : n = n0
    · subst e
      rw [e0, edgesAt_snoc, if_pos hdd]
      exact hv.kept_ hg5 (fun j h1 h2 => by injection h2 with h2; subst h2; exact own_map_ne hv hm4 h1)
    · rw [e1 n e, edgesAt_snoc, if_neg (by omega), List.append_nil]
      have h4 : Own w4 lo 76 7 edgC (vAt mf n) (edgesAt es n) := (h.own n hn).kept_ hg (fun j h1 h2 => h.apart n n0 j hn hn0 e h1 h2)
      exact h4.kept_ hg5 (fun j h1 h2 => by injection h2 with h2; subst h2; exact own_map_ne h4 hm4 h1)
  · by_cases e : n = n0
    · subst e
      rw [e0] at hk
      rw [e1 n' (fun e => hne e.symm)]
      exact fun h2 => hfar n' k hn' (fun e => hne e.symm) h2 hk
    · rw [e1 n e] at hk
      by_cases e' : n' = n0
      · subst e'
        rw [e0]
        exact hfar n k hn e hk
      · rw [e1 n' e']
        exact h.apart n n' k hn hn' hne hk
theorem right_fits {s : Int} {E : List Edg} {R : List Nat} (h : rightB s E R.length = true) : ∃ N : Nat, s = N ∧ Fits N E R := by
  unfold rightB at h
  simp only [Bool.and_eq_true, decide_eq_true_eq, List.all_eq_true] at h
  obtain ⟨⟨h1, h2⟩, h3⟩ := h
  refine ⟨R.length, h2.symm, ⟨by omega, rfl, fun d hd => ?_, fun d hd => ?_, fun d hd => ?_, fun d hd hk => ?_⟩⟩
  all_goals
    have h4 := h3 d hd
    unfold badE inS at h4
    simp only [Bool.not_or, Bool.not_and, Bool.and_eq_true, Bool.or_eq_true, Bool.not_eq_true', Bool.not_not, decide_eq_true_eq, decide_eq_false_iff_not, bne_iff_ne, bne_eq_false_iff_eq, Bool.not_eq_false'] at h4
  · omega
  · omega
  · omega
  · rcases h4.2 with h5 | h5
    · exact absurd h5 hk
    · exact h5
end Go.Proofs.YtkedgombccdamaaDoor
namespace Go.Proofs.YtkedgombccdamaaDoor
open Go.RowKit
set_option linter.unusedVariables false
set_option linter.unusedSimpArgs false

theorem spread_none {E : List Edg} {N x : Nat} {b e : Bool} (hE : ∀ d ∈ E, 0 ≤ d.tt ∧ d.tt < N) (hm : ∀ d ∈ E, may b e d = false) (hx : below x N) : spreadN E N b e x = x := by
  apply bits_ext
  intro i
  rw [spread_bit hE hx]
  constructor
  · intro h
    cases h with
    | base h => exact h
    | step hd h1 _ => rw [hm _ hd] at h1; cases h1
  · exact fun h => .base h
end Go.Proofs.YtkedgombccdamaaDoor
namespace Go.Proofs.YtkedgombccdamaaDoor
set_option linter.unusedVariables false
set_option linter.unusedSimpArgs false

mutual
/-- how many nodes a tree has, each counted so often -/
def Nd.tot (c : Nat) : Nd → Nat
  | .mk _ _ l _ _ => c + Nd.tots c l
def Nd.tots (c : Nat) : List Nd → Nat
  | [] => 0
  | x :: l => Nd.tot c x + Nd.tots c l
end
namespace Ere
section
variable {p : ByteArray}
end
end Ere
end Go.Proofs.YtkedgombccdamaaDoor
namespace Go.Proofs.YtkedgombccdamaaDoor
open Go.RowKit Go.Shelf Go.Maps
set_option linter.unusedVariables false
set_option linter.unusedSimpArgs false
attribute [local go_sem] Oper.semAt_some

namespace Mt
section
variable {E : List Edg} {N : Nat} {R : List Nat}
end
end Mt
/-- a tree and its machine, the k-th -/
structure MTk (nd : Nd) (x : MV) (k : Nat) : Prop where
  isT : nd.isT = true
  few : ¬ 2048 ≤ nd.U
  tot : nd.tot 1 ≤ 2049
  F : x.F = ⟨(Mt.mN nd : Nat), Mt.mE nd, Mt.mR nd (7 * k)⟩
end Go.Proofs.YtkedgombccdamaaDoor
namespace Go.Proofs.YtkedgombccdamaaDoor
open Go.RowKit
set_option linter.unusedVariables false
set_option linter.unusedSimpArgs false
set_option linter.unnecessarySimpa false
/-- the operations of D wait for i0, one through another -/
def waitsB (ops : Array Oper) (i0 : Nat) (D : List Nat) : Bool := D.all fun j => j == i0 || (match ops[j]? with | some o => o.after.any fun e => Region.binds .any e && (D.contains e.on && decide (e.on < j)) | none => false)
section
variable {G : Type} {i0 : Nat}
/-- there is some g -/
def exS (S : G → Nat → GSpec) (i0 : Nat) : GSpec := ⟨fun v w => ∃ g, (S g i0).p v w, fun v w w' ⟨g, h⟩ hb => ⟨g, (S g i0).st v w w' h hb⟩⟩
/-- what an operation's step shows -/
def ghoS (S : G → Nat → GSpec) (i0 : Nat) (g : G) (k : Nat) : GSpec := cond (Nat.beq k i0) (exS S i0) (S g k)
theorem getD_set_sameE {l : Array Bool} {i : Nat} (h : i < l.size) : (l.setIfInBounds i true).getD i false = true := by simp [h]
structure GInvE (i0 : Nat) (ops : Array Oper) (n : Nat) (S : G → Nat → GSpec) (a0 : Act) (W0 : World) (listed : Array Bool) (a : Act) (w : World) : Prop where
  head : HeadInv .any ops n listed
  base : GBase ops n a0 a
  below : Below W0.heap.size W0 w
  done : ∃ g, ∀ j, j < n → listed.getD j false = true → opOk ops (S g) a w j
  deps : ∀ j o, j < n → ops[j]? = some o → listed.getD j false = true → ∀ e ∈ o.after, Region.binds .any e = true → listed.getD e.on false = true
theorem waits_listed {ops : Array Oper} {n : Nat} {D : List Nat} {listed : Array Bool} (hD : waitsB ops i0 D = true) (hn : n ≤ ops.size)
    (deps : ∀ j o, j < n → ops[j]? = some o → listed.getD j false = true → ∀ e ∈ o.after, Region.binds .any e = true → listed.getD e.on false = true) : ∀ j, j < n → D.contains j = true → listed.getD j false = true → listed.getD i0 false = true := by
  intro j
  induction j using Nat.strongRecOn with
  | _ j ih =>
  intro hj hm hl
  unfold waitsB at hD
  have h1 := List.all_eq_true.1 hD j (by simpa [List.contains_eq_mem] using hm)
  rw [Bool.or_eq_true] at h1
  rcases h1 with h1 | h1
  · rw [beq_iff_eq] at h1
    rw [← h1]; exact hl
  · cases ho : ops[j]? with
    | none => rw [ho] at h1; cases h1
    | some o =>
      rw [ho] at h1
      simp only [Array.any_eq_true, Bool.and_eq_true, decide_eq_true_eq] at h1
      obtain ⟨q, hq, h2, h3, h4⟩ := h1
      exact ih _ h4 (by omega) h3 (deps j o hj ho hl _ (Array.getElem_mem hq) h2)
theorem wpAny_growE {P : Program} {ops : Array Oper} {n : Nat} {D : List Nat} {S : G → Nat → GSpec} (hD : waitsB ops i0 D = true) (hind : ∀ g g' j, D.contains j = false → S g j = S g' j) {Q : Exit → Act → World → Prop} {a0 : Act} {W0 : World} (hB : growB ops n a0.tmps.size = true)
    (hstep : ∀ i o, i < n → ops[i]? = some o → ∀ g a w, GBase ops n a0 a → Below W0.heap.size W0 w → (∀ e ∈ o.after, Region.binds .any e = true → opOk ops (S g) a w e.on) → GStep P ops (ghoS S i0 g) Q i o a w)
    (hend : ∀ g a w, GBase ops n a0 a → Below W0.heap.size W0 w → (∀ j, j < n → opOk ops (S g) a w j) → wpList P ops Q (ops.toList.drop n) a w) :
    ∀ (m : Nat) (listed : Array Bool) (a : Act) (w : World), GInvE i0 ops n S a0 W0 listed a w → unl n listed = m → wpAny P .any ops Q (m + (ops.size - n)) listed a w := by
  simp only [growB, Bool.and_eq_true, Bool.or_eq_true, decide_eq_true_eq] at hB
  obtain ⟨⟨⟨⟨⟨hn, hdup⟩, hlt⟩, hedge⟩, htail⟩, hseq⟩ := hB
  have hedge' : ∀ i o, i < n → ops[i]? = some o → ∀ e ∈ o.after, Region.binds .any e = true → e.on < i := by
    intro i o hi ho e he hb
    have h1 := List.all_eq_true.1 hedge i (List.mem_range.2 hi)
    simp only [ho] at h1
    have h2 := (Array.all_eq_true_iff_forall_mem.1 h1) e he
    simpa [hb] using h2
  have hready : ∀ (listed : Array Bool) (a : Act) (w : World), GInvE i0 ops n S a0 W0 listed a w → 0 < unl n listed → ∀ j ∈ Region.ready .any ops listed, j < n := by
    intro listed a w inv hpos j hj
    rcases htail with he | ⟨hs, hc⟩
    · obtain ⟨_, o, ho, _⟩ := mem_ready.1 hj
      have := (Array.getElem?_eq_some_iff.1 ho).1
      omega
    · rcases Nat.lt_or_ge n ops.size with hlt' | hge
      · unfold unl at hpos
        obtain ⟨i, hi⟩ := List.exists_mem_of_length_pos hpos
        simp only [List.mem_filter, List.mem_range, Bool.not_eq_true'] at hi
        have hun : listed.getD i true = false := getD_in (by rw [inv.head.size]; omega) hi.2
        rcases Nat.lt_or_ge j n with h | h
        · exact h
        · exact absurd hj (tail_waits hs hc hlt' inv.head _ i rfl hi.1 hun j h)
      · obtain ⟨_, o, ho, _⟩ := mem_ready.1 hj
        have := (Array.getElem?_eq_some_iff.1 ho).1
        omega
  have hne : ∀ (listed : Array Bool) (a : Act) (w : World), GInvE i0 ops n S a0 W0 listed a w → 0 < unl n listed → Region.ready .any ops listed ≠ [] := by
    intro listed a w inv hpos hnil
    have hex : ∃ i, i < n ∧ listed.getD i false = false := by
      unfold unl at hpos
      obtain ⟨i, hi⟩ := List.exists_mem_of_length_pos hpos
      simp only [List.mem_filter, List.mem_range, Bool.not_eq_true'] at hi
      exact ⟨i, hi.1, hi.2⟩
    have hmin : ∃ i, i < n ∧ listed.getD i false = false ∧ ∀ k, k < i → listed.getD k false = true := by
      obtain ⟨i, hi, hf⟩ := hex
      clear hpos
      induction i using Nat.strongRecOn with
      | _ i ih =>
        by_cases h : ∃ k, k < i ∧ listed.getD k false = false
        · obtain ⟨k, hk, hkf⟩ := h
          exact ih k hk (by omega) hkf
        · refine ⟨i, hi, hf, fun k hk => ?_⟩
          cases hc : listed.getD k false with
          | true => rfl
          | false => exact absurd ⟨k, hk, hc⟩ h
    obtain ⟨i, hi, hf, hall⟩ := hmin
    have ho : ops[i]? = some ops[i] := Array.getElem?_eq_getElem (by omega)
    have hmem : i ∈ Region.ready .any ops listed := mem_ready.2 ⟨getD_in (by rw [inv.head.size]; omega) hf, _, ho, fun e he hb => hall _ (hedge' i _ hi ho e he hb)⟩
    rw [hnil] at hmem
    cases hmem
  intro m
  induction m with
  | zero =>
    intro listed a w inv hm
    have hall : ∀ j, j < n → listed.getD j false = true := by
      intro j hj
      cases hc : listed.getD j false with
      | true => rfl
      | false => have := unl_pos hj hc; omega
    have hlist : listed = headTrue n (ops.size - n) := by
      have hsz := inv.head.size
      apply Array.ext
      · simp [headTrue, hsz]; omega
      · intro j h1 h2
        have hj : j < ops.size := by rw [← hsz]; exact h1
        simp only [headTrue, List.getElem_toArray, List.getElem_append, List.length_replicate, List.getElem_replicate]
        by_cases hjn : j < n
        · have := hall j hjn
          simp [h1] at this
          simp [hjn, this]
        · have := inv.head.tail j (by omega) hj
          simp [h1] at this
          simp [hjn, this]
    obtain ⟨g, hdone⟩ := inv.done
    have hw := hend g a w inv.base inv.below (fun j hj => hdone j hj (hall j hj))
    have hdl : (ops.toList.drop n).length = ops.size - n := by simp
    have := wpAny_of_seq (md := .any) (Q' := Q) (ops.toList.drop n) n listed a w (fun j => by simp [List.getElem?_drop]) (by rw [hdl, hlist]; exact hseq) hw
    rw [hdl] at this
    rw [Nat.zero_add]
    exact this
  | succ m ih =>
    intro listed a w inv hm
    rw [show m + 1 + (ops.size - n) = (m + (ops.size - n)) + 1 by omega]
    refine ⟨fun h => absurd h (hne listed a w inv (by omega)), fun i hi => ?_⟩
    have hin := hready listed a w inv (by omega) i hi
    obtain ⟨hun, o, ho, hall⟩ := mem_ready.1 hi
    have hlisted : listed.getD i false = false := getD_both hun
    obtain ⟨g, hdone⟩ := inv.done
    have hg := hstep i o hin ho g a w inv.base inv.below (fun e he hb => hdone e.on (by have := hedge' i o hin ho e he hb; omega) (hall e he hb))
    have hsz : i < listed.size := by rw [inv.head.size]; omega
    have hnext : ∀ a' w', GK (ghoS S i0 g) i o a w a' w' → wpAny P .any ops Q (m + (ops.size - n)) (listed.setIfInBounds i true) a' w' := by
      rintro a' w' ⟨v, rfl, hb, hp⟩
      obtain ⟨g2, hp2, hsame⟩ : ∃ g2, (S g2 i).p v w' ∧ ∀ j, j < n → listed.getD j false = true → S g2 j = S g j := by
        by_cases hi0 : i = i0
        · subst hi0
          unfold ghoS at hp
          rw [show Nat.beq i i = true from Nat.beq_refl i] at hp
          obtain ⟨g2, hp⟩ := hp
          refine ⟨g2, hp, fun j hj hl => hind g2 g j ?_⟩
          cases hc : D.contains j with
          | false => rfl
          | true =>
            have := waits_listed hD hn inv.deps j hj hc hl
            rw [hlisted] at this
            cases this
        · have hb0 : Nat.beq i i0 = false := by
            cases h : Nat.beq i i0 with
            | false => rfl
            | true => exact absurd (Nat.eq_of_beq_eq_true h) hi0
          unfold ghoS at hp
          rw [hb0] at hp
          exact ⟨g, hp, fun j _ _ => rfl⟩
      refine ih _ _ _ ⟨inv.head.set hi hin, ⟨by rw [put_defers]; exact inv.base.defers, by rw [put_size]; exact inv.base.size, fun t ht => ?_⟩, inv.below.trans (hb.mono inv.below.size), ⟨g2, fun j hj hl d hd => ?_⟩, fun j oj hj hoj hl e he hbd => ?_⟩ (by have := unl_set hin hsz hlisted; omega)
      · cases hd : o.dst with
        | none => exact inv.base.other t ht
        | some d =>
          have hmem : d ∈ headDsts ops n := List.mem_filterMap.2 ⟨o, by
            rw [List.mem_iff_getElem?]
            exact ⟨i, by rw [List.getElem?_take]; simp [hin, ho]⟩, hd⟩
          have hne : d ≠ t := by
            rintro rfl
            rw [List.contains_eq_mem] at ht
            simp [hmem] at ht
          rw [put_getD_ne hne]
          exact inv.base.other t ht
      · by_cases hij : i = j
        · subst hij
          rw [ho] at hd
          simp only [Option.bind_some] at hd
          rw [hd]
          have hmem : d ∈ headDsts ops n := List.mem_filterMap.2 ⟨o, by
            rw [List.mem_iff_getElem?]
            exact ⟨i, by rw [List.getElem?_take]; simp [hin, ho]⟩, hd⟩
          have hdl : d < a.tmps.size := by
            have := List.all_eq_true.1 hlt d hmem
            rw [inv.base.size]; simpa using this
          rw [put_getD_same hdl]
          exact hp2
        · rw [getD_set_ne false hij] at hl
          have hold := hdone j hj hl d hd
          have hkeep : (a.put o.dst v).tmps.getD d undef = a.tmps.getD d undef := by
            cases hod : o.dst with
            | none => rfl
            | some e =>
              apply put_getD_ne
              rintro rfl
              cases hoj : ops[j]? with
              | none => rw [hoj] at hd; cases hd
              | some oj =>
                rw [hoj] at hd
                simp only [Option.bind_some] at hd
                exact hij (noDup_spec _ hdup i j o oj e (by rw [List.getElem?_take]; simp [hin, ho]) (by rw [List.getElem?_take]; simp [hj, hoj]) hod hd)
          rw [hkeep]
          rw [hsame j hj hl]
          exact (S g j).st _ _ _ hold hb
      · by_cases hij : i = j
        · subst hij
          rw [ho] at hoj
          injection hoj with hoj
          subst hoj
          have h5 := hall e he hbd
          by_cases h6 : i = e.on
          · rw [← h6]; exact getD_set_sameE hsz
          · rw [getD_set_ne false h6]; exact h5
        · rw [getD_set_ne false hij] at hl
          have h5 := inv.deps j oj hj hoj hl e he hbd
          by_cases h6 : i = e.on
          · rw [← h6]; exact getD_set_sameE hsz
          · rw [getD_set_ne false h6]; exact h5
    unfold wpOp
    simp only [ho]
    unfold GStep at hg
    split
    · rename_i hw
      rw [if_pos hw] at hg
      exact .inl (Oper.wp_mono hnext hg)
    · rename_i hw
      rw [if_neg hw] at hg
      exact hnext _ _ ⟨undef, rfl, Below.refl _ _, hg⟩

/-- THE LAW. -/
theorem wp_region_growE {P : Program} {id : Nat} {l : List Oper} {Q : Exit → Act → World → Prop} {a : Act} {w : World} (n : Nat) (D : List Nat) (S : G → List GSpec) (g0 : G) (hm : P.follows .mixedOrders = true) (hB : growB l.toArray n a.tmps.size = true) (hD : waitsB l.toArray i0 D = true) (hind : ∀ g g' j, D.contains j = false → specAt (S g) j = specAt (S g') j)
    (hstep : ∀ i o, i < n → l[i]? = some o → ∀ g a' w', GBase l.toArray n a a' → Below w.heap.size w w' → (∀ e ∈ o.after, Region.binds .any e = true → opOk l.toArray (specAt (S g)) a' w' e.on) → GStep P l.toArray (ghoS (fun g => specAt (S g)) i0 g) Q i o a' w')
    (hend : ∀ g (u : Nat → Value) w', Below w.heap.size w w' → (∀ j d, j < n → (l[j]?).bind (·.dst) = some d → (specAt (S g) j).p (u d) w') → wpList P l.toArray Q (l.drop n) (putAll a (headDsts l.toArray n) u) w') :
    (Code.region id l.toArray true).wp P Q a w := by
  refine wp_region_any hm ?_
  have hdr : ∀ {x : World}, Below w.heap.size w x → Below w.heap.size w.drew x := fun h => ⟨h.os, h.tape, h.output, h.size, h.block⟩
  have hrd : ∀ {x : World}, Below w.heap.size w.drew x → Below w.heap.size w x := fun h => ⟨h.os, h.tape, h.output, h.size, h.block⟩
  have hn : n ≤ l.length := by
    simp only [growB, Bool.and_eq_true, decide_eq_true_eq] at hB
    simpa using hB.1.1.1.1.1
  have key := wpAny_growE (i0 := i0) (P := P) (ops := l.toArray) (n := n) (D := D) (S := fun g => specAt (S g)) hD hind (Q := Q) (a0 := a) (W0 := w.drew) hB
    (fun i o hi ho g a' w' hb hw hd => hstep i o hi (by simpa using ho) g a' w' hb (hrd hw) hd)
    (fun g a' w' hb hw hd => by
      rw [act_eq hb]
      have := hend g (fun d => a'.tmps.getD d undef) w' (hrd hw) (fun j d hj hd' => hd j hj d (by simpa using hd'))
      simpa using this)
    n (Array.replicate l.toArray.size false) a w.drew
    ⟨⟨by simp, fun j oj _ hl => (by rw [getD_replicate_false] at hl; cases hl), fun t _ ht => getD_in (by simpa using ht) (getD_replicate_false _ _)⟩, ⟨rfl, rfl, fun _ _ => rfl⟩, Below.refl _ _, ⟨g0, fun j _ hl => (by rw [getD_replicate_false] at hl; cases hl)⟩, fun j _ _ _ hl => (by rw [getD_replicate_false] at hl; cases hl)⟩
    (by
      unfold unl
      rw [List.filter_eq_self.2 (fun j _ => by rw [getD_replicate_false]; rfl), List.length_range])
  rw [show n + (l.toArray.size - n) = l.toArray.size by simp; omega] at key
  exact key

/-- the steps, one behind the other -/
def StepsE (i0 : Nat) (P : Program) (ops : Array Oper) (S : G → Nat → GSpec) (Q : Exit → Act → World → Prop) (n : Nat) (a : Act) (w : World) : List Oper → Nat → Prop
  | [], _ => True
  | o :: l, i => (∀ g a' w', GBase ops n a a' → Below w.heap.size w w' → (∀ j, (o.after.toList.any fun e => Region.binds .any e && e.on == j) = true → opOk ops (S g) a' w' j) → GStep P ops (ghoS S i0 g) Q i o a' w') ∧ StepsE i0 P ops S Q n a w l (i + 1)
theorem StepsE.nil {P : Program} {ops : Array Oper} {S : G → Nat → GSpec} {Q : Exit → Act → World → Prop} {n : Nat} {a : Act} {w : World} {i : Nat} : StepsE i0 P ops S Q n a w [] i := trivial
theorem StepsE.cons {P : Program} {ops : Array Oper} {S : G → Nat → GSpec} {Q : Exit → Act → World → Prop} {n : Nat} {a : Act} {w : World} {o : Oper} {l : List Oper} {i : Nat}
    (h : ∀ g a' w', GBase ops n a a' → Below w.heap.size w w' → (∀ j, (o.after.toList.any fun e => Region.binds .any e && e.on == j) = true → opOk ops (S g) a' w' j) → GStep P ops (ghoS S i0 g) Q i o a' w')
    (hl : StepsE i0 P ops S Q n a w l (i + 1)) : StepsE i0 P ops S Q n a w (o :: l) i := ⟨h, hl⟩
theorem StepsE.at_ {P : Program} {ops : Array Oper} {S : G → Nat → GSpec} {Q : Exit → Act → World → Prop} {n : Nat} {a : Act} {w : World} : ∀ {l : List Oper} {i : Nat}, StepsE i0 P ops S Q n a w l i → ∀ (k : Nat) (o : Oper), l[k]? = some o →
    ∀ g a' w', GBase ops n a a' → Below w.heap.size w w' → (∀ j, (o.after.toList.any fun e => Region.binds .any e && e.on == j) = true → opOk ops (S g) a' w' j) → GStep P ops (ghoS S i0 g) Q (i + k) o a' w'
  | [], _, _, k, o, hk => by simp at hk
  | o' :: l, i, h, k, o, hk => by
    rcases k with _ | k
    · simp only [List.getElem?_cons_zero, Option.some.injEq] at hk
      subst hk
      exact h.1
    · rw [List.getElem?_cons_succ] at hk
      have := StepsE.at_ h.2 k o hk
      rw [show i + (k + 1) = i + 1 + k by omega]
      exact this
/-- THE LAW, as it is used: S the answers (by g), i0 the operation that tells g, D what waits for it, ds the head's slots. -/
theorem wp_region_stepsE {P : Program} {id : Nat} {l : List Oper} {Q : Exit → Act → World → Prop} {a : Act} {w : World} (n i0 : Nat) (D : List Nat) (S : G → List GSpec) (g0 : G) (ds : List Nat) (hm : P.follows .mixedOrders = true) (hB : growB l.toArray n a.tmps.size = true) (hD : waitsB l.toArray i0 D = true) (hind : ∀ g g' j, D.contains j = false → specAt (S g) j = specAt (S g') j)
    (hds : headDsts l.toArray n = ds) (hstep : StepsE i0 P l.toArray (fun g => specAt (S g)) Q n a w (l.take n) 0)
    (hend : ∀ g (u : Nat → Value) w', Below w.heap.size w w' → (∀ j d, j < n → (l[j]?).bind (·.dst) = some d → (specAt (S g) j).p (u d) w') → wpList P l.toArray Q (l.drop n) (putAll a ds u) w') :
    (Code.region id l.toArray true).wp P Q a w := by
  subst hds
  refine wp_region_growE (i0 := i0) n D S g0 hm hB hD hind (fun i o hi ho g a' w' hb hw hd => ?_) hend
  have := hstep.at_ i o (by rw [List.getElem?_take, if_pos hi]; exact ho) g a' w' hb hw (fun j hj => by
    obtain ⟨e, he, hh⟩ := List.any_eq_true.1 hj
    simp only [Bool.and_eq_true, beq_iff_eq] at hh
    rw [← hh.2]
    exact hd e (Array.mem_toList_iff.1 he) hh.1)
  rw [Nat.zero_add] at this
  exact this
end
end Go.Proofs.YtkedgombccdamaaDoor
namespace Go.Proofs.YtkedgombccdamaaDoor
open Go.RowKit Go.Shelf Go.Maps
set_option linter.unusedVariables false
set_option linter.unusedSimpArgs false
attribute [local go_sem] Oper.semAt_some

theorem gs_extract {ops : Array Oper} {S : Nat → GSpec} {Q : Exit → Act → World → Prop} {i : Nat} {o : Oper} {a : Act} {w : World} (hw : Region.wanted o (yielded ops a.tmps) = true) (x : Operand) (k : Nat) (ho : o.op = .extract x k) (vs : Array Value) (hx : a.eval x = .tuple vs) (u : Value) (hk : vs[k]? = some u)
    (hp : (S i).p u w) : GStep Tryd.prog ops S Q i o a w :=
  gs_run hw (v := u) (by unfold execOp; simp only [ho, hx, Instr.extract, hk, Sem.run_bind, Sem.run_pure, Result.andThen_ok]) (Below.refl _ _) hp
/-- what is handed to meets, in memory -/
structure MeetsIn (B : Nat) (w : World) (A1 : Option Addr) (n1 : Nat) (cl : List (Array Value)) (nds : List Nd) (A2 : Option Addr) (ms : List MV) (u : MV) : Prop where
  l1 : n1 = nds.length
  l2 : cl.length = nds.length
  l3 : ms.length = nds.length
  few : n1 ≤ 4
  s1 : SliceOf w B 8 (fun x => x) A1 cl
  nin : ∀ k (h : k < nds.length) (h2 : k < cl.length), NdIn w B nds[k] cl[k]
  s2 : SliceOf w B 3 MV.C A2 ms
  m : MsIn w B ms
  tm : ∀ k (h : k < nds.length) (h2 : k < ms.length), MTk nds[k] ms[k] k
  uE : SliceOf w B 7 edgC u.A u.F.E
  uR : SliceOf w B 1 encR u.B u.F.R
  uF : u.F = uFold (ms.map MV.F)
  low : B ≤ w.heap.size
theorem MeetsIn.below {B n1 : Nat} {w w' : World} {A1 A2 : Option Addr} {cl : List (Array Value)} {nds : List Nd} {ms : List MV} {u : MV} (h : MeetsIn B w A1 n1 cl nds A2 ms u) (hb : Below B w w') : MeetsIn B w' A1 n1 cl nds A2 ms u :=
  ⟨h.l1, h.l2, h.l3, h.few, h.s1.below hb, fun k h1 h2 => (h.nin k h1 h2).keep fun j hj => hb.block j hj, h.s2.below hb, h.m.low hb, h.tm, h.uE.below hb, h.uR.below hb, h.uF, Nat.le_trans h.low hb.size⟩
end Go.Proofs.YtkedgombccdamaaDoor
namespace Go.Proofs.YtkedgombccdamaaDoor
open Go.RowKit Go.Shelf Go.Maps
set_option linter.unusedVariables false
set_option linter.unusedSimpArgs false
attribute [local go_sem] Oper.semAt_some

def okS (s : List UInt8) : Prop := s.length ≤ maxLen
def litK (s : List UInt8) : Lit := .string s
theorem keyStr : KeyEnc Tryd.prog 9 (List UInt8) okS (fun s => .string (bs s)) litK where
  law := string_keyed Tryd.underlying9
  key s hs := by
    have := Go.WideMaps.keyOf_string_mk (s := bs s) Tryd.underlying9 (by rw [bs_size]; exact hs)
    simpa [bs, litK] using this
  inj x y h := bs_inj (by injection h)
/-- each key's number -/
def idxM (l : List (List UInt8)) (s : List UInt8) : Option Int := if s ∈ l then some (l.idxOf s : Int) else none
theorem idxM_nil : idxM [] = fun _ => none := by funext s; simp [idxM]
theorem idxM_old {l : List (List UInt8)} {s : List UInt8} (h : s ∈ l) : idxM l s = some (l.idxOf s : Int) := by simp [idxM, h]
theorem idxM_new {l : List (List UInt8)} {s : List UInt8} (h : s ∉ l) : idxM l s = none := by simp [idxM, h]
theorem idxM_put {l : List (List UInt8)} {s : List UInt8} (h : s ∉ l) : putM (idxM l) s (l.length : Int) = idxM (l ++ [s]) := by
  funext y
  unfold putM idxM
  by_cases e : y = s
  · subst e
    rw [List.idxOf_append, if_neg h]
    simp [h]
  · by_cases h2 : y ∈ l
    · rw [List.idxOf_append, if_pos h2]; simp [e, h2]
    · simp [e, h2]
structure MoOk (N K : Nat) (m : Mo) : Prop where
  lo : below m.at_ N
  nk : N ≤ 64 * K
  met : m.met < 4294967296
  en : m.end_ < 4294967296
def keyMo (K : Nat) (m : Mo) : List UInt8 := keyL m.met m.end_ (wordsN m.at_ K)
theorem wordsN_lt (x K : Nat) : ∀ u ∈ wordsN x K, u < 18446744073709551616 := by
  intro u hu
  unfold wordsN at hu
  obtain ⟨i, _, rfl⟩ := List.mem_map.1 hu
  exact wordN_lt' x i
theorem keyMo_inj {N K : Nat} {a b : Mo} (ha : MoOk N K a) (hb : MoOk N K b) (h : keyMo K a = keyMo K b) : a = b := by
  have h1 := ha.met; have h2 := hb.met; have h3 := ha.en; have h4 := hb.en
  obtain ⟨e1, e2, e3⟩ := keyL_inj (by omega) (by omega) (by
    intro u hu
    rcases List.mem_cons.1 hu with rfl | hu
    · omega
    · exact wordsN_lt _ _ u hu) (by
    intro u hu
    rcases List.mem_cons.1 hu with rfl | hu
    · omega
    · exact wordsN_lt _ _ u hu) h
  have e4 := wordsN_inj (Nat.lt_of_lt_of_le (below_lt ha.lo) (Nat.pow_le_pow_right (by decide) ha.nk)) (Nat.lt_of_lt_of_le (below_lt hb.lo) (Nat.pow_le_pow_right (by decide) hb.nk)) e3
  cases a; cases b
  simp only at e1 e2 e4
  subst e1; subst e2; subst e4
  rfl
theorem keys_mem {N K : Nat} {Q : List Mo} {x : Mo} (hQ : ∀ y ∈ Q, MoOk N K y) (hx : MoOk N K x) : keyMo K x ∈ Q.map (keyMo K) ↔ x ∈ Q := by
  constructor
  · intro h
    obtain ⟨y, hy, e⟩ := List.mem_map.1 h
    rw [← keyMo_inj (hQ y hy) hx e]
    exact hy
  · exact fun h => List.mem_map.2 ⟨x, h, rfl⟩
theorem keys_idx {N K : Nat} {x : Mo} (hx : MoOk N K x) : ∀ {Q : List Mo}, (∀ y ∈ Q, MoOk N K y) → (Q.map (keyMo K)).idxOf (keyMo K x) = Q.idxOf x
  | [], _ => rfl
  | y :: Q, hQ => by
    rw [List.map_cons, List.idxOf_cons, List.idxOf_cons, keys_idx hx fun z hz => hQ z (List.mem_cons_of_mem _ hz)]
    by_cases e : y = x
    · subst e; simp
    · have e2 : ¬ keyMo K y = keyMo K x := fun h => e (keyMo_inj (hQ y (List.mem_cons_self ..)) hx h)
      have b1 : (y == x) = false := by simpa using e
      have b2 : (keyMo K y == keyMo K x) = false := by simpa using e2
      rw [b1, b2]
theorem keyMo_ok {K : Nat} {m : Mo} (hK : K ≤ 1048576) : okS (keyMo K m) := by
  unfold okS keyMo maxLen keyL
  rw [List.length_append]
  have h1 := dig36_len m.met
  have h2 := join36_len (m.end_ :: wordsN m.at_ K)
  rw [List.length_cons, wordsN_length] at h2
  omega
/-- a moment of the queue, and where its states lie -/
structure MQ where
  g : Nat
  c : Nat
  mo : Mo
def encM (K : Nat) (x : MQ) : Array Value := momC (some ⟨x.g, 0, none⟩) K x.c x.mo.met x.mo.end_
theorem encM_size (K : Nat) (x : MQ) : (encM K x).size = 3 := rfl
theorem encM_one (K : Nat) (x : MQ) : (encM K x).all (·.oneCell') = true := momC_one _ _ _ _ _
def addM (L : List MQ) (x : MQ) : List MQ := if x.mo ∈ L.map MQ.mo then L else L ++ [x]
theorem addM_old {L : List MQ} {x : MQ} (h : x.mo ∈ L.map MQ.mo) : addM L x = L := by simp [addM, h]
theorem addM_new {L : List MQ} {x : MQ} (h : x.mo ∉ L.map MQ.mo) : addM L x = L ++ [x] := by simp [addM, h]
structure FQ (b0 gd bm gq : Nat) (W W' : World) : Prop where
  os : W'.os = W.os
  tape : W'.tape = W.tape
  output : W'.output = W.output
  size : W.heap.size ≤ W'.heap.size
  block : ∀ k, k < W.heap.size → k ≠ gd → k ≠ bm → k ≠ gq → (k < b0 ∨ ∃ t cs, Blk W k t cs ∧ t ≠ 92 ∧ t ≠ 43) → W'.heap[k]? = W.heap[k]?
section
variable {b0 gd bm gq : Nat} {W W' W2 : World}
theorem FQ.refl (W : World) : FQ b0 gd bm gq W W := ⟨rfl, rfl, rfl, Nat.le_refl _, fun _ _ _ _ _ _ => rfl⟩
theorem FQ.of_below (h : Below W.heap.size W W') : FQ b0 gd bm gq W W' := ⟨h.os, h.tape, h.output, h.size, fun k hk _ _ _ _ => h.block k hk⟩
theorem FQ.trans (h : FQ b0 gd bm gq W W') (k : FQ b0 gd bm gq W' W2) : FQ b0 gd bm gq W W2 :=
  ⟨k.os.trans h.os, k.tape.trans h.tape, k.output.trans h.output, Nat.le_trans h.size k.size, fun i hi h1 h2 h3 h4 => by
    have e := h.block i hi h1 h2 h3 h4
    refine (k.block i (Nat.lt_of_lt_of_le hi h.size) h1 h2 h3 ?_).trans e
    rcases h4 with h4 | ⟨t, cs, hb, ht⟩
    · exact .inl h4
    · exact .inr ⟨t, cs, e.trans hb, ht⟩⟩
theorem FQ.then_ (h : FQ b0 gd bm gq W W') (k : Below W'.heap.size W' W2) : FQ b0 gd bm gq W W2 := h.trans (.of_below k)
theorem FQ.one {r : Nat} (hg : W.grownBy W' (some r)) (hr : r = gd ∨ r = bm ∨ r = gq) : FQ b0 gd bm gq W W' :=
  ⟨hg.os, hg.tape, hg.output, hg.size, fun i hi h1 h2 h3 _ => hg.block i hi (fun e => by injection e with e; omega)⟩
theorem FQ.own {α : Type} {enc : α → Array Value} {size : Nat} {e : TypeId} {v : Value} {ys : List α} (ho : Own W b0 e size enc v ys) (he : e = 92 ∨ e = 43) (hg : W.grownBy W' v.ownBlock) : FQ b0 gd bm gq W W' :=
  ⟨hg.os, hg.tape, hg.output, hg.size, fun i hi _ _ _ h4 => hg.block i hi (by
    intro e1
    rcases ho.2 with ⟨hv, _⟩ | ⟨g', cap, cur, hv, hge, hh, _⟩
    · rw [hv] at e1; cases e1
    · rw [hv] at e1
      have a1 : g' = i := by simpa [Value.ownBlock] using e1.symm
      subst a1
      rcases h4 with h4 | ⟨t, cs, hb, h5, h6⟩
      · omega
      · have h2 : some (Obj.cells cs t) = some _ := hb.symm.trans hh
        injection h2 with h2
        injection h2 with _ h3
        rcases he with he | he
        · exact h5 (h3.trans he)
        · exact h6 (h3.trans he))⟩
theorem blk_fq {g : Nat} {t : TypeId} {cs : Array Value} (h : Blk W g t cs) (hf : FQ b0 gd bm gq W W') (h1 : g ≠ gd) (h2 : g ≠ bm) (h3 : g ≠ gq) (ht : g < b0 ∨ (t ≠ 92 ∧ t ≠ 43)) : Blk W' g t cs :=
  (hf.block g h.lt h1 h2 h3 (ht.imp id fun h4 => ⟨t, cs, h, h4⟩)).trans h
theorem Own.fq {α : Type} {enc : α → Array Value} {size base : Nat} {e : TypeId} {v : Value} {ys : List α} (h : Own W base e size enc v ys) (hf : FQ b0 gd bm gq W W') (hb : ∀ k, v.ownBlock = some k → k ≠ gd ∧ k ≠ bm ∧ k ≠ gq) (he : e ≠ 92 ∧ e ≠ 43) : Own W' base e size enc v ys :=
  own_block h (fun j e1 => by
    have h1 := hb j e1
    have hl := (h.lt j e1).2
    rcases h.2 with ⟨hv, _⟩ | ⟨g', cap, cur, hv, hge, hh, _⟩
    · rw [hv] at e1; cases e1
    · rw [hv] at e1
      have a1 : g' = j := by simpa [Value.ownBlock] using e1
      subst a1
      exact hf.block g' hl h1.1 h1.2.1 h1.2.2 (.inr ⟨e, _, hh, he⟩))
theorem SMach.fq {nb gk N : Nat} {E : List Edg} {R : List Nat} (h : SMach nb W gk N E R) (hf : FQ b0 gd bm gq W W') (h1 : nb ≤ gd) (h2 : nb ≤ bm) (h3 : nb ≤ gq) (h4 : nb ≤ b0) : SMach nb W' gk N E R :=
  h.keep (fun k hk => hf.block k (by have := h.low; omega) (by omega) (by omega) (by omega) (.inl (by omega))) hf.size
end
/-- the closure's boxes: the map, the queue, the table -/
structure QSt (N K b0 gd bm gm gq : Nat) (f : Nat → Int) (AN : Option Addr) (nN cN : Nat) (L : List MQ) (W : World) : Prop where
  ord : gd < bm ∧ bm < gm ∧ gm < gq ∧ gq < b0 ∧ b0 ≤ W.heap.size
  m : Blk W gm 87 #[.map (some bm)]
  im : IntMap Tryd.prog 9 3 okS litK W bm L.length (idxM (L.map fun x => keyMo K x.mo)) L.length
  q : ∃ A c, Blk W gq 88 #[.slice A L.length c] ∧ Own W b0 92 3 (encM K) (.slice A L.length c) L
  ins : ∀ x ∈ L, Own W b0 50 1 encU (.slice (some ⟨x.g, 0, none⟩) K x.c) (wordsN x.mo.at_ K)
  d : ∃ AF cF AE cE, Blk W gd 33 (dfaC f AN nN cN AF L.length cF AE L.length cE) ∧ Own W b0 43 1 encR (.slice AF L.length cF) (L.map (·.mo.met)) ∧ Own W b0 43 1 encR (.slice AE L.length cE) (L.map (·.mo.end_)) ∧ ∀ a b, AF = some a → AE = some b → a.block ≠ b.block
  ok : ∀ x ∈ L, MoOk N K x.mo
theorem QSt.then_ {N K b0 gd bm gm gq : Nat} {f : Nat → Int} {AN : Option Addr} {nN cN : Nat} {L : List MQ} {W W' : World} (h : QSt N K b0 gd bm gm gq f AN nN cN L W) (hb : Below W.heap.size W W') : QSt N K b0 gd bm gm gq f AN nN cN L W' := by
  obtain ⟨A, c, q1, q2⟩ := h.q
  obtain ⟨AF, cF, AE, cE, d1, d2, d3, d4⟩ := h.d
  have o := h.ord
  exact ⟨⟨o.1, o.2.1, o.2.2.1, o.2.2.2.1, Nat.le_trans o.2.2.2.2 hb.size⟩, blk_then h.m hb, h.im.then_ hb, ⟨A, c, blk_then q1 hb, q2.then_ hb⟩, fun x hx => (h.ins x hx).then_ hb, ⟨AF, cF, AE, cE, blk_then d1 hb, d2.then_ hb, d3.then_ hb, d4⟩, h.ok⟩
end Go.Proofs.YtkedgombccdamaaDoor
namespace Go.Proofs.YtkedgombccdamaaDoor
open Go.RowKit Go.Maps Go.WideMaps
set_option linter.unusedVariables false
set_option linter.unusedSimpArgs false

section
variable {P : Program} {ops : Array Oper} {S : Nat → GSpec} {Q : Exit → Act → World → Prop} {i : Nat} {o : Oper} {a : Act} {w : World}
end
section
variable {ops : Array Oper} {S : Nat → GSpec} {Q : Exit → Act → World → Prop} {i : Nat} {o : Oper} {a : Act} {w : World}
end
theorem eqNI {p q : Int} (h : ¬ p = q) : Value.bool (p == q) = .bool false := by rw [beq_eq_false_iff_ne.2 h]
theorem arrK_set : ArrKey Tryd.prog 52 50 4 := ⟨Tryd.underlying52, by kernel_rfl, by kernel_rfl, by kernel_rfl⟩
theorem wf_word (x : BSet) (k : Nat) : (Lit.int .u64 (word x k : Int)).wf = true := by
  have h := word_lt' x k
  have h2 : IntKind.u64.min = 0 := by decide
  have h3 : IntKind.u64.max = 18446744073709551615 := by decide
  simp only [Lit.wf, Bool.and_eq_true, decide_eq_true_eq]
  exact ⟨by omega, by omega⟩
def litS (x : BSet) : Lit := .string (keyBytes ((words x).map (Lit.int .u64)))
theorem keySet : KeyEnc Tryd.prog 52 BSet (fun _ => True) (fun x => .agg (setC x)) litS where
  law := Keyed.of_law (deep_law_laid laid_out (m := 2) (by omega) (of_decide_eq_true (by kernel_rfl)) (by kernel_rfl) (by rw [Tryd.underlying52]))
  key y _ := keyOf_ints arrK_set Tryd.underlying50 types_pos (words y) rfl (fun x hx => by
    simp only [words, List.mem_cons, List.not_mem_nil, or_false] at hx
    rcases hx with rfl | rfl | rfl | rfl <;> exact wf_word _ _)
  inj x y h := setC_inj (by injection h)
def mapSt (xs : List BSet) (x : BSet) : Option Int := if x ∈ xs then some 1 else none
theorem mapSt_nil : mapSt [] = fun _ => none := by funext x; simp [mapSt]
theorem mapSt_old {xs : List BSet} {x : BSet} (h : x ∈ xs) : (mapSt xs x).getD 0 = 1 := by simp [mapSt, h]
theorem mapSt_new {xs : List BSet} {x : BSet} (h : x ∉ xs) : (mapSt xs x).getD 0 = 0 := by simp [mapSt, h]
theorem mapSt_none {xs : List BSet} {x : BSet} (h : x ∉ xs) : (mapSt xs x).isSome = false := by simp [mapSt, h]
theorem mapSt_put {xs : List BSet} {x : BSet} : putM (mapSt xs) x 1 = mapSt (xs ++ [x]) := by
  funext y
  unfold putM mapSt
  by_cases h : y = x <;> by_cases h2 : y ∈ xs <;> simp [h, h2]
theorem IntMap.grown' {P : Program} {k e : TypeId} {κ : Type} {ok : κ → Prop} {lit : κ → Lit} {w w' : World} {b n cnt : Nat} {m : κ → Option Int} {row : Option Nat} (h : IntMap P k e ok lit w b n m cnt) (hg : w.grownBy w' row) (hne : some b ≠ row) : IntMap P k e ok lit w' b n m cnt := by
  obtain ⟨D, h1, h2⟩ := h
  exact ⟨D, h1.kept hg hne, h2⟩
abbrev SMap (w : World) (b n : Nat) (xs : List BSet) : Prop := IntMap Tryd.prog 52 3 (fun _ => True) litS w b n (mapSt xs) xs.length
section
variable {ops : Array Oper} {S : Nat → GSpec} {Q : Exit → Act → World → Prop} {i : Nat} {o : Oper} {a : Act} {w : World}
theorem gs_lookup_set (hw : Region.wanted o (yielded ops a.tmps) = true) (m x : Operand) (ho : o.op = .lookup 136 m x false) (b n : Nat) (xs : List BSet) (h : SMap w b n xs) (hm : a.eval m = .map (some b)) (y : BSet) (hx : a.eval x = .agg (setC y))
    (z : Int) (hz : (mapSt xs y).getD 0 = z) (hp : (S i).p (.int .i64 z) w) : GStep Tryd.prog ops S Q i o a w := by
  obtain ⟨D, h1, h2, h3, h4⟩ := h
  obtain ⟨c, hrun, hat, _⟩ := h1.lookup_int keySet.law Tryd.underlying136 Tryd.underlying3 (zero_int w) (keySet.key y trivial)
  rw [h3 y trivial, hz] at hat
  injection hat with hat
  injection hat with _ hat
  subst hat
  exact gs_run hw (v := .int .i64 z) (by unfold execOp; simp only [ho, hm, hx, Sem.run_bind, hrun, Result.andThen_ok, Sem.run_pure]) (Below.refl _ _) hp
end

end Go.Proofs.YtkedgombccdamaaDoor
namespace Go.Proofs.YtkedgombccdamaaDoor
open Go.RowKit Go.Shelf Go.Maps
set_option linter.unusedVariables false
set_option linter.unusedSimpArgs false
attribute [local go_sem] Oper.semAt_some

theorem run_bsM (A : Option Addr) (k c r e : Nat) (w : World) : (Instr.buildSlice 88 1 #[(0, .agg (momC A k c r e))]).run Tryd.prog w = .ok (.slice (some ⟨w.heap.size, 0, none⟩) 1 1) (w.alloc (.cells (momC A k c r e) 92)) := by kernel_rfl
theorem run_bs32 (y : Int) (w : World) : (Instr.buildSlice 23 1 #[(0, .int .u32 y)]).run Tryd.prog w = .ok (.slice (some ⟨w.heap.size, 0, none⟩) 1 1) (w.alloc (.cells #[.int .u32 y] 43)) := by kernel_rfl
theorem info_mom3 : (Tryd.prog.info? 92).map (fun i => (i.zero, i.size, i.bytes)) = some (some (.agg #[.slice none 0 0, .int .u32 0, .int .u32 0]), 3, 32) := by kernel_rfl
theorem info_u32z3 : (Tryd.prog.info? 43).map (fun i => (i.zero, i.size, i.bytes)) = some (some (.int .u32 0), 1, 4) := by kernel_rfl
theorem info_moms1 : (Tryd.prog.info? 88).map (·.size) = some 1 := by kernel_rfl
theorem info_u32s1 : (Tryd.prog.info? 23).map (·.size) = some 1 := by kernel_rfl
theorem encR_one1 (y : Nat) : (encR y).all (·.oneCell') = true := by simp [encR, Value.oneCell']
theorem enter_key (args : Array Value) (w : World) : (callFunc 37 args).run Tryd.prog w = .ok (.enter 37 args) w := by kernel_rfl
section
variable {ops : Array Oper} {rest : List Oper} {o : Oper} {a : Act} {w : World} {Q : Exit → Act → World → Prop}
theorem wl_bsM (hgd : o.guard = none) (x : Operand) (ho : o.op = .buildSlice 88 1 #[(0, x)]) (A : Option Addr) (k c r e : Nat) (hx : a.eval x = .agg (momC A k c r e))
    (h : wpList Tryd.prog ops Q rest (a.put o.dst (.slice (some ⟨w.heap.size, 0, none⟩) 1 1)) (w.alloc (.cells (momC A k c r e) 92))) : wpList Tryd.prog ops Q (o :: rest) a w :=
  wpList_plain hgd fun _ hK => by
    unfold Oper.wp execOp
    simp only [ho, List.map_toArray, List.map_cons, List.map_nil, hx, Sem.run_bind, run_bsM, Result.andThen_ok, Sem.run_pure]
    exact hK _ _ h
theorem wl_bs32 (hgd : o.guard = none) (x : Operand) (ho : o.op = .buildSlice 23 1 #[(0, x)]) (y : Int) (hx : a.eval x = .int .u32 y)
    (h : wpList Tryd.prog ops Q rest (a.put o.dst (.slice (some ⟨w.heap.size, 0, none⟩) 1 1)) (w.alloc (.cells #[.int .u32 y] 43))) : wpList Tryd.prog ops Q (o :: rest) a w :=
  wpList_plain hgd fun _ hK => by
    unfold Oper.wp execOp
    simp only [ho, List.map_toArray, List.map_cons, List.map_nil, hx, Sem.run_bind, run_bs32, Result.andThen_ok, Sem.run_pure]
    exact hK _ _ h
/-- a moment appended to a queue of the call's own -/
theorem wl_pushM (hgd : o.guard = none) (s x : Operand) (ho : o.op = .call { callee := .builtin .append, args := #[s, x], argTypes := #[88, 88] })
    (base K : Nat) (l : List MQ) (z : MQ) {A : Option Addr} {n c g : Nat} (hs : a.eval s = .slice A n c) (hx : a.eval x = .slice (some ⟨g, 0, none⟩) 1 1) (hb1 : Blk w g 92 (encM K z)) (hown : Own w base 92 3 (encM K) (.slice A n c) l) (hn : n = l.length) (hl : l.length ≤ 1099511627) (hbase : base ≤ w.heap.size)
    (h : ∀ A' c' w', Own w' base 92 3 (encM K) (.slice A' (n + 1) c') (l ++ [z]) → w.grownBy w' (Value.slice A n c).ownBlock → wpList Tryd.prog ops Q rest (a.put o.dst (.slice A' (n + 1) c')) w') : wpList Tryd.prog ops Q (o :: rest) a w := by
  obtain ⟨ii, hii, hz0, hz1, hz2⟩ := info_parts info_mom3
  subst hn
  refine wl_append _ hgd _ _ 88 ho base 92 ii _ 3 32 Tryd.underlying88 hii hz0 hz1 hz2 rfl (by decide) (encM_size K) (encM_one K) (.slice A l.length c) l hs hown _ _ 1 1 [z] hx rfl (slice_one (enc := encM K) hb1) (by unfold maxLen; omega) (by omega) hbase ?_
  intro v' w' ho' hg hv
  obtain ⟨A', c', rfl, _, _⟩ := ho'.shape
  have hl8 : (l ++ [z]).length = l.length + 1 := by simp
  rw [hl8] at ho' hv ⊢
  exact h _ _ _ ho' hg
/-- a word appended to a list of the call's own; where the list lies then -/
theorem wl_push32 (hgd : o.guard = none) (s x : Operand) (ho : o.op = .call { callee := .builtin .append, args := #[s, x], argTypes := #[23, 23] })
    (base : Nat) (l : List Nat) (z : Nat) {A : Option Addr} {n c g : Nat} (hs : a.eval s = .slice A n c) (hx : a.eval x = .slice (some ⟨g, 0, none⟩) 1 1) (hb1 : Blk w g 43 (encR z)) (hown : Own w base 43 1 encR (.slice A n c) l) (hn : n = l.length) (hl : l.length ≤ 1099511627) (hbase : base ≤ w.heap.size)
    (h : ∀ A' c' w', Own w' base 43 1 encR (.slice A' (n + 1) c') (l ++ [z]) → w.grownBy w' (Value.slice A n c).ownBlock → (∀ b, A' = some b → A.map (·.block) = some b.block ∨ b.block = w.heap.size) → wpList Tryd.prog ops Q rest (a.put o.dst (.slice A' (n + 1) c')) w') : wpList Tryd.prog ops Q (o :: rest) a w := by
  obtain ⟨ii, hii, hz0, hz1, hz2⟩ := info_parts info_u32z3
  subst hn
  refine wl_append _ hgd _ _ 23 ho base 43 ii _ 1 4 Tryd.underlying23 hii hz0 hz1 hz2 rfl (by decide) encR_size encR_one1 (.slice A l.length c) l hs hown _ _ 1 1 [z] hx rfl (slice_one (enc := encR) hb1) (by unfold maxLen; omega) (by omega) hbase ?_
  intro v' w' ho' hg hv
  obtain ⟨A', c', rfl, _, _⟩ := ho'.shape
  have hl8 : (l ++ [z]).length = l.length + 1 := by simp
  rw [hl8] at ho' hv ⊢
  refine h _ _ _ ho' hg fun b hb => ?_
  subst hb
  rcases hv with hv | hv
  · cases A with
    | none => simp [Value.ownBlock] at hv
    | some a => simp [Value.ownBlock] at hv; simp [hv]
  · simp [Value.ownBlock] at hv
    exact .inr hv
end
section
variable {ops : Array Oper} {S : Nat → GSpec} {Q : Exit → Act → World → Prop} {i : Nat} {o : Oper} {a : Act} {w : World}
theorem gs_load_mom (hw : Region.wanted o (yielded ops a.tmps) = true) (x : Operand) (ho : o.op = .load 92 x) (g : Nat) (hx : a.eval x = .pointer (some ⟨g, 0, none⟩)) {A : Option Addr} {k c r e : Nat} (hg : Blk w g 92 (momC A k c r e))
    (hp : (S i).p (.agg (momC A k c r e)) w) : GStep Tryd.prog ops S Q i o a w :=
  gs_load hw _ x ho g hx _ _ hg _ Tryd.underlying92 rfl (info_mom.trans rfl) hp
theorem gs_lookup_str (hw : Region.wanted o (yielded ops a.tmps) = true) (m x : Operand) (ho : o.op = .lookup 87 m x true) (b n cnt : Nat) (mf : List UInt8 → Option Int) (h : IntMap Tryd.prog 9 3 okS litK w b n mf cnt) (hm : a.eval m = .map (some b)) (y : List UInt8) (hy : okS y) (hx : a.eval x = .string (bs y))
    (hp : (S i).p (.tuple #[.int .i64 ((mf y).getD 0), .bool (mf y).isSome]) w) : GStep Tryd.prog ops S Q i o a w := by
  obtain ⟨D, h1, h2, h3, h4⟩ := h
  obtain ⟨v, ps, hrun, hv⟩ := h1.look_ok keyStr.law Tryd.underlying87 (zero_int w) (plainElem_int Tryd.underlying3 (a := 0) (by decide)) (keyStr.key y hy)
  obtain ⟨c, rfl, hc, hwc⟩ := plainElem_int_inv Tryd.underlying3 hv
  have hat := congrArg Prod.fst hc
  simp only at hat
  rw [h3 y hy] at hat
  injection hat with hat
  injection hat with _ hat
  rw [h2 y hy] at hrun
  rw [hat] at hp
  exact gs_run hw (v := .tuple #[.int .i64 c, .bool (mf y).isSome]) (by unfold execOp; simp only [ho, hm, hx, Sem.run_bind, hrun, Result.andThen_ok, Sem.run_pure]) (Below.refl _ _) hp
end
theorem own_aside {α : Type} {enc : α → Array Value} {base size n c n2 c2 : Nat} {e : TypeId} {W W' : World} {A B : Option Addr} {ys : List α} (h : Own W base e size enc (.slice A n c) ys) (hab : ∀ a b, A = some a → B = some b → a.block ≠ b.block) (hg : W.grownBy W' (Value.slice B n2 c2).ownBlock) : Own W' base e size enc (.slice A n c) ys :=
  h.kept_ hg (fun j e1 e3 => by
    rcases A with _ | a
    · simp [Value.ownBlock] at e1
    · rcases B with _ | b
      · simp [Value.ownBlock] at e3
      · have h1 := hab a b rfl rfl
        simp [Value.ownBlock] at e1 e3
        omega)
theorem blk_aside {α : Type} {enc : α → Array Value} {base size g : Nat} {e t : TypeId} {W W' : World} {v : Value} {ys : List α} {cs : Array Value} (h : Blk W g t cs) (ho : Own W base e size enc v ys) (hg : W.grownBy W' v.ownBlock) (hne : e ≠ t) : Blk W' g t cs :=
  h.grown hg (fun e1 => own_blk_ne ho h hne e1.symm)
theorem apart_new {A A' B : Option Addr} {M : Nat} (hv : ∀ b, A' = some b → A.map (·.block) = some b.block ∨ b.block = M) (h : ∀ a b, A = some a → B = some b → a.block ≠ b.block) (hB : ∀ b, B = some b → b.block < M) : ∀ a b, A' = some a → B = some b → a.block ≠ b.block := by
  intro a b ha hb
  rcases hv a ha with h1 | h1
  · cases hA : A with
    | none => rw [hA] at h1; simp at h1
    | some a0 =>
      rw [hA] at h1
      have e : a0.block = a.block := by simpa using h1
      rw [← e]
      exact h a0 b hA hb
  · have := hB b hb
    omega
theorem own_blk_lt {α : Type} {enc : α → Array Value} {base size n c : Nat} {e : TypeId} {W : World} {B : Option Addr} {ys : List α} (h : Own W base e size enc (.slice B n c) ys) : ∀ b, B = some b → b.block < W.heap.size := fun b hb => by
  subst hb
  rcases h.2 with ⟨hv, _⟩ | ⟨g', cap, cur, hv, hge, hh, _⟩
  · cases hv
  · injection hv with hv
    injection hv with hv
    rw [hv]
    exact (Array.getElem?_eq_some_iff.1 hh).1
set_option maxRecDepth 100000 in
set_option maxHeartbeats 8000000 in
theorem state_any (nb gk N K b0 gd bm gm gq : Nat) (f : Nat → Int) (AN : Option Addr) (nN cN : Nat) (L : List MQ) (x : MQ) (hK : K ≤ 1048576) (hL : L.length ≤ 10000) (w : World) (h : QSt N K b0 gd bm gm gq f AN nN cN L w) (hx : MoOk N K x.mo) (hI : Own w b0 50 1 encU (.slice (some ⟨x.g, 0, none⟩) K x.c) (wordsN x.mo.at_ K)) :
    Calls Tryd.prog 36 #[.agg (momC (some ⟨x.g, 0, none⟩) K x.c x.mo.met x.mo.end_), .pointer (some ⟨gm, 0, none⟩), .pointer (some ⟨gq, 0, none⟩), .pointer (some ⟨gd, 0, none⟩)] w fun e w' => e = .returned (.int .i64 (((addM L x).map MQ.mo).idxOf x.mo : Nat)) ∧ QSt N K b0 gd bm gm gq f AN nN cN (addM L x) w' ∧ FQ b0 gd bm gq w w' := by
  obtain ⟨⟨o1, o2, o3, o4, o5⟩, hm, him, ⟨A, c, hq1, hq2⟩, hins, ⟨AF, cF, AE, cE, hd1, hd2, hd3, hd4⟩, hok⟩ := h
  have hkey := keyMo_ok (m := x.mo) hK
  have hmem := keys_mem (Q := L.map MQ.mo) (fun y hy => by obtain ⟨z, hz, rfl⟩ := List.mem_map.1 hy; exact hok z hz) hx
  have hidx := keys_idx (Q := L.map MQ.mo) hx (fun y hy => by obtain ⟨z, hz, rfl⟩ := List.mem_map.1 hy; exact hok z hz)
  rw [List.map_map] at hmem hidx
  have kK : ∀ W, Below w.heap.size w W → Calls Tryd.prog 37 #[.agg (momC (some ⟨x.g, 0, none⟩) K x.c x.mo.met x.mo.end_)] W fun en w' => en = .returned (.string (bs (keyMo K x.mo))) ∧ Below W.heap.size W w' := fun W hW =>
    key_any _ K x.c x.mo.met x.mo.end_ (wordsN x.mo.at_ K) (wordsN_length _ _).symm hK hx.met hx.en (wordsN_lt _ _) W ((hI.then_ hW).slice_all encU_size)
  obtain ⟨key, hkk⟩ : ∃ k, k = keyMo K x.mo := ⟨_, rfl⟩
  rw [← hkk] at kK hkey hmem hidx
  have hkeys : (L.map fun x => keyMo K x.mo) = List.map (keyMo K ∘ MQ.mo) L := rfl
  rw [← hkeys] at hmem hidx
  obtain ⟨ks, hks⟩ : ∃ ks, ks = L.map fun x => keyMo K x.mo := ⟨_, rfl⟩
  have hkl : ks.length = L.length := by rw [hks, List.length_map]
  rw [← hks] at him hmem hidx
  have Hks := Lib.hid hks
  have Hkk := Lib.hid hkk
  have Hok := Lib.hid hok
  have Hins := Lib.hid hins
  have Hx := Lib.hid hx
  have Hd4 := Lib.hid hd4
  have Hkey := Lib.hid hkey
  have Hmem := Lib.hid hmem
  have Hidx := Lib.hid hidx
  obtain ⟨lq, hlq⟩ : ∃ q, q = L.length := ⟨_, rfl⟩
  rw [← hlq] at hL him hq1 hq2 hd1 hd2 hd3 hkl
  have Hlq := Lib.hid hlq
  have Hkl := Lib.hid hkl
  clear hkeys hks hkk hok hins hx hd4 hkey hmem hidx hlq hkl
  go_enter Tryd.func36, Tryd.ntmps36
  go_upto_region 1 with (fail)
  have h4 : Blk (w.alloc (.cells (momC (some ⟨x.g, 0, none⟩) K x.c x.mo.met x.mo.end_) 92)) w.heap.size 92 (momC (some ⟨x.g, 0, none⟩) K x.c x.mo.met x.mo.end_) := Blk.new w _ _
  have hB1 : Below w.heap.size w (w.alloc (.cells (momC (some ⟨x.g, 0, none⟩) K x.c x.mo.met x.mo.end_) 92)) := below_alloc (Below.refl _ _) _
  obtain ⟨w1, hw1⟩ : ∃ y, y = w.alloc (.cells (momC (some ⟨x.g, 0, none⟩) K x.c x.mo.met x.mo.end_) 92) := ⟨_, rfl⟩
  have hs1 : w1.heap.size = w.heap.size + 1 := by rw [hw1]; exact Array.size_push ..
  rw [← hw1] at h4 hB1 ⊢
  obtain ⟨gx, hgx⟩ : ∃ y, y = w.heap.size := ⟨_, rfl⟩
  rw [← hgx] at h4 ⊢
  have Hgx := Lib.hid hgx
  have hAlt : ∀ r, (Value.slice A lq c).ownBlock = some r → r < gx := fun r e => by have := (hq2.lt r e).2; omega
  replace hm := blk_then hm hB1
  replace hq1 := blk_then hq1 hB1
  replace hd1 := blk_then hd1 hB1
  replace him := him.then_ hB1
  clear hw1 hgx
  obtain ⟨V, hV⟩ : ∃ V, V = (idxM ks key).getD 0 := ⟨_, rfl⟩
  obtain ⟨b, hb⟩ : ∃ b, b = (idxM ks key).isSome := ⟨_, rfl⟩
  refine wp_region_steps 9 [eqS (.map (some bm)), eqS (.agg (momC (some ⟨x.g, 0, none⟩) K x.c x.mo.met x.mo.end_)), eqS (.string (bs key)), eqS (.tuple #[.int .i64 V, .bool b]), eqS (.tuple #[.int .i64 V, .bool b]), eqS (.int .i64 V), eqS (.bool b), eqS (.int .i64 V), eqS (.bool b)] [9, 10, 11, 12, 8, 13, 14, 6, 7] follows_mixed (by kernel_rfl) (by kernel_rfl) ?_ ?_
  · skip
    refine Steps.cons (fun a' w' hG hB dep => gs_load1 (want_none rfl) _ _ rfl gm 0 (hG.other 1 rfl) (.map (some bm)) ((blk_then hm hB).cellv rfl) _ Tryd.underlying87 rfl rfl) ?_
    refine Steps.cons (fun a' w' hG hB dep => gs_load_mom (want_none rfl) _ rfl gx (hG.other 4 rfl) (blk_then h4 hB) rfl) ?_
    refine Steps.cons (fun a' w' hG hB dep => gs_call (want_none rfl) _ _ _ rfl enter_key #[.agg (momC (some ⟨x.g, 0, none⟩) K x.c x.mo.met x.mo.end_)] (map1 (dep 1 rfl 10 rfl)) (ret_step (kK _ (below_then hB1 hB)) (fun _ => rfl))) ?_
    refine Steps.cons (fun a' w' hG hB dep => gs_lookup_str (want_none rfl) _ _ rfl bm lq lq (idxM ks) (him.then_ hB) (dep 0 rfl 9 rfl) key Hkey.out (dep 2 rfl 11 rfl) (by rw [← hV, ← hb]; rfl)) ?_
    refine Steps.cons (fun a' w' hG hB dep => gs_move (want_none rfl) _ rfl (id (dep 3 rfl 12 rfl))) ?_
    refine Steps.cons (fun a' w' hG hB dep => gs_extract (want_none rfl) _ _ rfl #[.int .i64 V, .bool b] (dep 4 rfl 8 rfl) (.int .i64 V) rfl rfl) ?_
    refine Steps.cons (fun a' w' hG hB dep => gs_extract (want_none rfl) _ _ rfl #[.int .i64 V, .bool b] (dep 4 rfl 8 rfl) (.bool b) rfl rfl) ?_
    refine Steps.cons (fun a' w' hG hB dep => gs_assign (want_none rfl) _ rfl (id (dep 5 rfl 13 rfl))) ?_
    refine Steps.cons (fun a' w' hG hB dep => gs_assign (want_none rfl) _ rfl (id (dep 6 rfl 14 rfl))) ?_
    exact Steps.nil
  intro uu w2 hB2 ans
  have u9 : uu 9 = .map (some bm) := ans 0 9 (by decide) rfl
  have u6 : uu 6 = .int .i64 V := ans 7 6 (by decide) rfl
  have u7 : uu 7 = .bool b := ans 8 7 (by decide) rfl
  clear ans
  simp only [putAll, List.foldl_cons, List.foldl_nil, Act.put, List.setIfInBounds_toArray, List.set_cons_zero, List.set_cons_succ, u6, u7, u9]
  clear u6 u7 u9
  simp only [List.drop]
  refine wpList_nil ?_
  replace hm := blk_then hm hB2
  replace hq1 := blk_then hq1 hB2
  replace hd1 := blk_then hd1 hB2
  replace him := him.then_ hB2
  replace h4 := blk_then h4 hB2
  have hB := below_then hB1 hB2
  have hs2 : w.heap.size + 1 ≤ w2.heap.size := by have := hB2.size; omega
  clear hB1 hB2 hs1
  have hQ0 : Hid (QSt N K b0 gd bm gm gq f AN nN cN L w2) := Lib.hid ⟨⟨o1, o2, o3, o4, Nat.le_trans o5 hB.size⟩, hm, by rw [← Hlq.out, ← Hks.out]; exact him, ⟨A, c, by rw [← Hlq.out]; exact hq1, by rw [← Hlq.out]; exact hq2.then_ hB⟩, fun x hx => (Hins.out x hx).then_ hB, ⟨AF, cF, AE, cE, by rw [← Hlq.out]; exact hd1, by rw [← Hlq.out]; exact hd2.then_ hB, by rw [← Hlq.out]; exact hd3.then_ hB, Hd4.out⟩, Hok.out⟩
  by_cases hin : key ∈ ks
  · have hb1 : b = true := by rw [hb, idxM_old hin]; rfl
    have hV1 : V = (ks.idxOf key : Int) := by rw [hV, idxM_old hin]; rfl
    subst hb1
    have hm2 := Hmem.out.1 hin
    have HV := Lib.hid (And.intro hV1 hm2)
    clear hV hb hV1 hm2 hin
    go_wp2_with (fail)
    go_ret
    rw [addM_old HV.out.2]
    exact ⟨by rw [HV.out.1, Hidx.out]; rfl, hQ0.out, .of_below hB⟩
  · have hb1 : b = false := by rw [hb, idxM_new hin]; rfl
    subst hb1
    have Hin := Lib.hid hin
    clear hV hb hin
    have cq : w2.cell? ⟨gq, 0, none⟩ = some (.slice A lq c) := hq1.cellv rfl
    have hno : x.mo ∉ L.map MQ.mo := fun h => Hin.out (Hmem.out.2 h)
    have Hno := Lib.hid hno
    clear hQ0 hno
    go_upto_region 4 with (fail)
    clear cq
    refine wp_region_steps 4 [eqS (.map (some bm)), eqS (.agg (momC (some ⟨x.g, 0, none⟩) K x.c x.mo.met x.mo.end_)), eqS (.string (bs key)), eqS (.int .i64 (lq : Int))] [19, 20, 21, 22] follows_mixed (by kernel_rfl) (by kernel_rfl) ?_ ?_
    · skip
      refine Steps.cons (fun a' w' hG hB dep => gs_load1 (want_none rfl) _ _ rfl gm 0 (hG.other 1 rfl) (.map (some bm)) ((blk_then hm hB).cellv rfl) _ Tryd.underlying87 rfl rfl) ?_
      refine Steps.cons (fun a' w' hG hB dep => gs_load_mom (want_none rfl) _ rfl gx (hG.other 4 rfl) (blk_then h4 hB) rfl) ?_
      refine Steps.cons (fun a' w' hG hB3 dep => gs_call (want_none rfl) _ _ _ rfl enter_key #[.agg (momC (some ⟨x.g, 0, none⟩) K x.c x.mo.met x.mo.end_)] (map1 (dep 1 rfl 20 rfl)) (ret_step (kK _ (below_then hB hB3)) (fun _ => rfl))) ?_
      refine Steps.cons (fun a' w' hG hB dep => gs_move (want_none rfl) _ rfl (id (hG.other 6 rfl))) ?_
      exact Steps.nil
    intro uu2 w3 hB3 ans
    have u19 : uu2 19 = .map (some bm) := ans 0 19 (by decide) rfl
    have u21 : uu2 21 = .string (bs key) := ans 2 21 (by decide) rfl
    have u22 : uu2 22 = .int .i64 (lq : Int) := ans 3 22 (by decide) rfl
    clear ans
    simp only [putAll, List.foldl_cons, List.foldl_nil, Act.put, List.setIfInBounds_toArray, List.set_cons_zero, List.set_cons_succ, u19, u21, u22]
    clear u19 u21 u22
    simp only [List.drop]
    replace hm := blk_then hm hB3
    replace hq1 := blk_then hq1 hB3
    replace hd1 := blk_then hd1 hB3
    replace him := him.then_ hB3
    replace h4 := blk_then h4 hB3
    replace hB := below_then hB hB3
    replace hs2 : w.heap.size + 1 ≤ w3.heap.size := by have := hB3.size; omega
    clear hB3 kK
    refine wl_map_put keyStr Tryd.underlying87 Tryd.underlying3 him (by unfold maxLen; omega) rfl _ _ _ rfl rfl key Hkey.out rfl lq rfl (by rw [show ((lq : Int)) = (lq : Nat) from rfl]; exact wf_small (by omega) (by omega)) ?_
    intro w4 him4 hg4
    refine wpList_nil ?_
    have him5 : IntMap Tryd.prog 9 3 okS litK w4 bm (lq + 1) (idxM (ks ++ [key])) (lq + 1) := by
      have e := him4
      rw [idxM_new Hin.out, ← Hkl.out, idxM_put Hin.out, Hkl.out] at e
      exact e
    have hgt : ∀ {α : Type} {enc : α → Array Value} {size : Nat} {e : TypeId} {v : Value} {ys : List α}, Own w b0 e size enc v ys → Own w4 b0 e size enc v ys := fun h => (h.then_ hB).grown hg4 (fun e => by have := (h.lt _ e).1; omega)
    replace hq2 := hgt hq2
    replace hd2 := hgt hd2
    replace hd3 := hgt hd3
    have Hins4 := Lib.hid (fun y hy => hgt (Hins.out y hy))
    have HI4 := Lib.hid (hgt hI)
    have hF4 : FQ b0 gd bm gq w w4 := (FQ.of_below hB).trans (.one hg4 (.inr (.inl rfl)))
    replace hm := blk_grown hm hg4 (by omega)
    replace hq1 := blk_grown hq1 hg4 (by omega)
    replace hd1 := blk_grown hd1 hg4 (by omega)
    replace h4 := blk_grown h4 hg4 (by have := Hgx.out; omega)
    replace hs2 : w.heap.size + 1 ≤ w4.heap.size := by have := hg4.size; omega
    clear him4 him hgt hg4 hB hI Hins
    have cq : w4.cell? ⟨gq, 0, none⟩ = some (.slice A lq c) := hq1.cellv rfl
    go_upto_region 6 with (first
      | (refine wl_load_mom rfl _ rfl gx rfl (some ⟨x.g, 0, none⟩) K x.c x.mo.met x.mo.end_ h4 ?_)
      | (refine wl_bsM rfl _ rfl (some ⟨x.g, 0, none⟩) K x.c x.mo.met x.mo.end_ rfl ?_)
      | (at_builtin; refine wl_pushM rfl _ _ rfl b0 K L x rfl rfl (Blk.new _ _ _) (hq2.then_ (below_alloc (Below.refl _ _) _)) Hlq.out (by have := Hlq.out; omega) (by have := Hgx.out; simp; omega) ?_; intro A' c' w6 hq6 hg6; have hq16 := blk_own (blk_then hq1 (below_alloc (Below.refl _ _) _)) (hq2.then_ (below_alloc (Below.refl _ _) _)) hg6 o4)
      | (refine wl_store_cell rfl _ _ _ rfl gq 0 rfl 88 _ #[.slice A' (lq + 1) c'] hq16 (Nat.lt_succ_self 0) info_moms1 rfl rfl rfl ?_; intro w7 hq17 hg7))
    have Ba : Below w4.heap.size w4 (w4.alloc (.cells (momC (some ⟨x.g, 0, none⟩) K x.c x.mo.met x.mo.end_) 92)) := below_alloc (Below.refl _ _) _
    have hqa := hq2.then_ Ba
    have gt7 : ∀ {α : Type} {enc : α → Array Value} {size : Nat} {e : TypeId} {v : Value} {ys : List α}, 92 ≠ e → Own w4 b0 e size enc v ys → Own w7 b0 e size enc v ys := fun hne h => own_low (own_own (h.then_ Ba) hqa hg6 hne) hg7 o4
    replace hd2 := gt7 (by decide) hd2
    replace hd3 := gt7 (by decide) hd3
    have HI7 := Lib.hid (gt7 (by decide) HI4.out)
    have Hins7 := Lib.hid (fun y hy => gt7 (by decide) (Hins4.out y hy))
    have hq7 := own_low hq6 hg7 o4
    replace hm := blk_grown (blk_own (blk_then hm Ba) hqa hg6 (by omega)) hg7 (by omega)
    replace hd1 := blk_grown (blk_own (blk_then hd1 Ba) hqa hg6 (by omega)) hg7 (by omega)
    have h47 := blk_grown ((blk_then h4 Ba).grown hg6 (fun e => by have := hAlt _ e.symm; omega)) hg7 (by have := Hgx.out; omega)
    have him7 := ((him5.then_ Ba).grown' hg6 (fun e => by have := (hqa.lt _ e.symm).1; omega)).grown hg7 (by omega)
    have hF7 := ((hF4.then_ Ba).trans (.own hqa (.inl rfl) hg6)).trans (.one hg7 (.inr (.inr rfl)))
    have hs7 : w.heap.size + 1 ≤ w7.heap.size := by have h1 := Ba.size; have h2 := hg6.size; have h3 := hg7.size; omega
    clear gt7 hqa Ba hq2 hq6 hq16 hq1 h4 him5 hg6 hg7 hF4 hs2 cq HI4 Hins4 hAlt
    have cF7 : w7.cell? ⟨gd, 257, none⟩ = some (.slice AF lq cF) := blk_d2 hd1
    have cm7 : w7.cell? ⟨gx, 1, none⟩ = some (.int .u32 (x.mo.met : Int)) := h47.cellv (i := 1) rfl
    go_upto_region 7 with (first
      | (refine wl_bs32 rfl _ rfl (x.mo.met : Int) rfl ?_)
      | (at_builtin; refine wl_push32 rfl _ _ rfl b0 (L.map (·.mo.met)) x.mo.met rfl rfl (Blk.new _ _ _) (hd2.then_ (below_alloc (Below.refl _ _) _)) (by rw [List.length_map]; exact Hlq.out) (by rw [List.length_map]; have := Hlq.out; omega) (by have := Hgx.out; simp; omega) ?_; intro AF' cF' w8 hd8 hg8 hv8; have hd18 := blk_own (blk_then hd1 (below_alloc (Below.refl _ _) _)) (hd2.then_ (below_alloc (Below.refl _ _) _)) hg8 (show gd < b0 by omega))
      | (refine wl_store_cell rfl _ _ _ rfl gd 257 rfl 33 _ (dfaC f AN nN cN AF' (lq + 1) cF' AE lq cE) hd18 (by rw [dfaC_size]; omega) info_u32s1 rfl rfl (dfaC_set2 _ _ _ _ _ _ _ _ _ _ _ _ _) ?_; intro w9 hd19 hg9))
    have Bb : Below w7.heap.size w7 (w7.alloc (.cells (encR x.mo.met) 43)) := below_alloc (Below.refl _ _) _
    have hfa := hd2.then_ Bb
    have gt9 : ∀ {α : Type} {enc : α → Array Value} {size : Nat} {e : TypeId} {v : Value} {ys : List α}, 43 ≠ e → Own w7 b0 e size enc v ys → Own w9 b0 e size enc v ys := fun hne h => own_low (own_own (h.then_ Bb) hfa hg8 hne) hg9 (by omega)
    have HI9 := Lib.hid (gt9 (by decide) HI7.out)
    have Hins9 := Lib.hid (fun y hy => gt9 (by decide) (Hins7.out y hy))
    have hq9 := gt9 (by decide) hq7
    have hd4b := apart_new hv8 Hd4.out (fun b hb => Nat.lt_of_lt_of_le (own_blk_lt hd3 b hb) Bb.size)
    have Hd4b := Lib.hid hd4b
    have hd39 := own_low (own_aside (hd3.then_ Bb) (fun a b ha hb => (Hd4.out b a hb ha).symm) hg8) hg9 (show gd < b0 by omega)
    have hd29 := own_low hd8 hg9 (show gd < b0 by omega)
    replace hm := blk_grown (blk_own (blk_then hm Bb) hfa hg8 (by omega)) hg9 (by omega)
    have hq19 := blk_grown (blk_own (blk_then hq17 Bb) hfa hg8 o4) hg9 (by omega)
    have h49 := blk_grown (blk_aside (blk_then h47 Bb) hfa hg8 (by decide)) hg9 (by have := Hgx.out; omega)
    have him9 := ((him7.then_ Bb).grown' hg8 (fun e => by have := (hfa.lt _ e.symm).1; omega)).grown hg9 (by omega)
    have hF9 := ((hF7.then_ Bb).trans (.own hfa (.inr rfl) hg8)).trans (.one hg9 (.inl rfl))
    have hs9 : w.heap.size + 1 ≤ w9.heap.size := Nat.le_trans hs7 (Nat.le_trans Bb.size (Nat.le_trans hg8.size hg9.size))
    clear gt9 hfa Bb hd2 hd3 hd8 hv8 hd18 hd1 h47 him7 hg8 hg9 hF7 hs7 cF7 cm7 HI7 Hins7 hq7 hq17 hd4b Hd4
    have cE9 : w9.cell? ⟨gd, 258, none⟩ = some (.slice AE lq cE) := blk_d3 hd19
    have cm9 : w9.cell? ⟨gx, 2, none⟩ = some (.int .u32 (x.mo.end_ : Int)) := h49.cellv (i := 2) rfl
    go_wp2_with (first
      | (refine wl_bs32 rfl _ rfl (x.mo.end_ : Int) rfl ?_)
      | (at_builtin; refine wl_push32 rfl _ _ rfl b0 (L.map (·.mo.end_)) x.mo.end_ rfl rfl (Blk.new _ _ _) (hd39.then_ (below_alloc (Below.refl _ _) _)) (by rw [List.length_map]; exact Hlq.out) (by rw [List.length_map]; have := Hlq.out; omega) (by have := Hgx.out; simp; omega) ?_; intro AE' cE' wa hda hga hva; have hd1a := blk_own (blk_then hd19 (below_alloc (Below.refl _ _) _)) (hd39.then_ (below_alloc (Below.refl _ _) _)) hga (show gd < b0 by omega))
      | (refine wl_store_cell rfl _ _ _ rfl gd 258 rfl 33 _ (dfaC f AN nN cN AF' (lq + 1) cF' AE' (lq + 1) cE') hd1a (by rw [dfaC_size]; omega) info_u32s1 rfl rfl (dfaC_set3 _ _ _ _ _ _ _ _ _ _ _ _ _) ?_; intro wb hd1b hgb))
    have Bc : Below w9.heap.size w9 (w9.alloc (.cells (encR x.mo.end_) 43)) := below_alloc (Below.refl _ _) _
    have hfa := hd39.then_ Bc
    have gtb : ∀ {α : Type} {enc : α → Array Value} {size : Nat} {e : TypeId} {v : Value} {ys : List α}, 43 ≠ e → Own w9 b0 e size enc v ys → Own wb b0 e size enc v ys := fun hne h => own_low (own_own (h.then_ Bc) hfa hga hne) hgb (by omega)
    have HIb := gtb (by decide) HI9.out
    have Hinsb := fun y hy => gtb (by decide) (Hins9.out y hy)
    have hqb := gtb (by decide) hq9
    have hd2b := own_low (own_aside (hd29.then_ Bc) Hd4b.out hga) hgb (show gd < b0 by omega)
    have hd3b := own_low hda hgb (show gd < b0 by omega)
    have hd5 : ∀ a b, AF' = some a → AE' = some b → a.block ≠ b.block := fun a b ha hb => (apart_new hva (fun a b ha hb => (Hd4b.out b a hb ha).symm) (fun b hb => Nat.lt_of_lt_of_le (own_blk_lt hd29 b hb) Bc.size) b a hb ha).symm
    replace hm := blk_grown (blk_own (blk_then hm Bc) hfa hga (by omega)) hgb (by omega)
    have hq1b := blk_grown (blk_own (blk_then hq19 Bc) hfa hga o4) hgb (by omega)
    have himb := ((him9.then_ Bc).grown' hga (fun e => by have := (hfa.lt _ e.symm).1; omega)).grown hgb (by omega)
    have hFb := ((hF9.then_ Bc).trans (.own hfa (.inr rfl) hga)).trans (.one hgb (.inl rfl))
    have hl1 : (L ++ [x]).length = lq + 1 := by rw [List.length_append, ← Hlq.out]; rfl
    go_ret
    rw [addM_new Hno.out]
    refine ⟨?_, ⟨⟨o1, o2, o3, o4, Nat.le_trans o5 hFb.size⟩, hm, ?_, ⟨A', c', by rw [hl1]; exact hq1b, by rw [hl1]; exact hqb⟩, ?_, ⟨AF', cF', AE', cE', by rw [hl1]; exact hd1b, ?_, ?_, hd5⟩, ?_⟩, hFb⟩
    · rw [List.map_append, List.idxOf_append, if_neg Hno.out]
      simp [← Hlq.out]
    · rw [hl1, List.map_append, ← Hks.out, List.map_cons, List.map_nil, ← Hkk.out]
      exact himb
    · intro y hy
      rcases List.mem_append.1 hy with hy | hy
      · exact Hinsb y hy
      · rw [List.mem_singleton] at hy
        subst hy
        exact HIb
    · rw [hl1, List.map_append]
      exact hd2b
    · rw [hl1, List.map_append]
      exact hd3b
    · intro y hy
      rcases List.mem_append.1 hy with hy | hy
      · exact Hok.out y hy
      · rw [List.mem_singleton] at hy
        subst hy
        exact Hx.out
end Go.Proofs.YtkedgombccdamaaDoor
namespace Go.Proofs.YtkedgombccdamaaDoor
set_option linter.unusedVariables false
set_option linter.unusedSimpArgs false

section
variable {α : Type} [DecidableEq α] (step : α → Nat → α) (bs : List Nat)
def addQ (Q : List α) (x : α) : List α := if x ∈ Q then Q else Q ++ [x]
def rowQ (q : α) (bs : List Nat) (Q : List α) : List α := bs.foldl (fun Q b => addQ Q (step q b)) Q
def bfsN (a0 : α) : Nat → List α
  | 0 => [a0]
  | i + 1 => match (bfsN a0 i)[i]? with
    | some q => rowQ step q bs (bfsN a0 i)
    | none => bfsN a0 i
variable {step bs}
theorem addQ_prefix (Q : List α) (x : α) : ∃ r, addQ Q x = Q ++ r := by
  unfold addQ
  split
  · exact ⟨[], by simp⟩
  · exact ⟨[x], rfl⟩
theorem addQ_mem (Q : List α) (x : α) : x ∈ addQ Q x := by
  unfold addQ
  split
  · assumption
  · simp
theorem rowQ_prefix (q : α) : ∀ (bs : List Nat) (Q : List α), ∃ r, rowQ step q bs Q = Q ++ r
  | [], Q => ⟨[], by simp [rowQ]⟩
  | b :: bs, Q => by
    obtain ⟨r, hr⟩ := addQ_prefix Q (step q b)
    obtain ⟨s, hs⟩ := rowQ_prefix q bs (addQ Q (step q b))
    exact ⟨r ++ s, by rw [show rowQ step q (b :: bs) Q = rowQ step q bs (addQ Q (step q b)) from rfl, hs, hr, List.append_assoc]⟩
theorem rowQ_snoc (q : α) (bs : List Nat) (b : Nat) (Q : List α) : rowQ step q (bs ++ [b]) Q = addQ (rowQ step q bs Q) (step q b) := by
  unfold rowQ
  rw [List.foldl_append]
  rfl
theorem rowQ_mem (q : α) : ∀ (bs : List Nat) (Q : List α) (b : Nat), b ∈ bs → step q b ∈ rowQ step q bs Q
  | c :: bs, Q, b, h => by
    rw [show rowQ step q (c :: bs) Q = rowQ step q bs (addQ Q (step q c)) from rfl]
    rcases List.mem_cons.1 h with rfl | h
    · obtain ⟨r, hr⟩ := rowQ_prefix (step := step) q bs (addQ Q (step q b))
      rw [hr]
      exact List.mem_append_left _ (addQ_mem _ _)
    · exact rowQ_mem q bs _ b h
theorem rowQ_all {p : α → Prop} (q : α) : ∀ (bs : List Nat) (Q : List α), (∀ x ∈ Q, p x) → (∀ b ∈ bs, p (step q b)) → ∀ x ∈ rowQ step q bs Q, p x
  | [], Q, h, _ => h
  | b :: bs, Q, h, h2 => rowQ_all q bs (addQ Q (step q b)) (by
      intro x hx
      unfold addQ at hx
      split at hx
      · exact h x hx
      · rcases List.mem_append.1 hx with hx | hx
        · exact h x hx
        · rw [List.mem_singleton.1 hx]
          exact h2 b (List.mem_cons_self ..)) (fun b hb => h2 b (List.mem_cons_of_mem _ hb))
theorem bfs_succ {a0 : α} {i : Nat} (h : i < (bfsN step bs a0 i).length) : bfsN step bs a0 (i + 1) = rowQ step (bfsN step bs a0 i)[i] bs (bfsN step bs a0 i) := by
  rw [bfsN, List.getElem?_eq_getElem h]
theorem bfs_stay {a0 : α} {i : Nat} (h : (bfsN step bs a0 i).length ≤ i) : bfsN step bs a0 (i + 1) = bfsN step bs a0 i := by
  rw [bfsN, List.getElem?_eq_none h]
theorem bfs_prefix1 (a0 : α) (i : Nat) : ∃ r, bfsN step bs a0 (i + 1) = bfsN step bs a0 i ++ r := by
  by_cases h : i < (bfsN step bs a0 i).length
  · rw [bfs_succ h]
    exact rowQ_prefix _ _ _
  · rw [bfs_stay (by omega)]
    exact ⟨[], by simp⟩
theorem bfs_prefix (a0 : α) {i j : Nat} (h : i ≤ j) : ∃ r, bfsN step bs a0 j = bfsN step bs a0 i ++ r := by
  induction j with
  | zero => rw [show i = 0 by omega]; exact ⟨[], by simp⟩
  | succ j ih =>
    by_cases e : i = j + 1
    · rw [e]; exact ⟨[], by simp⟩
    · obtain ⟨r, hr⟩ := ih (by omega)
      obtain ⟨s, hs⟩ := bfs_prefix1 (step := step) (bs := bs) a0 j
      exact ⟨r ++ s, by rw [hs, hr, List.append_assoc]⟩
theorem bfs_len (a0 : α) {i j : Nat} (h : i ≤ j) : (bfsN step bs a0 i).length ≤ (bfsN step bs a0 j).length := by
  obtain ⟨r, hr⟩ := bfs_prefix (step := step) (bs := bs) a0 h
  rw [hr]; simp
/-- gone through -/
def Done (step : α → Nat → α) (bs : List Nat) (a0 : α) (i : Nat) : Prop := (bfsN step bs a0 i).length = i
theorem Done.stay {a0 : α} {i : Nat} (h : Done step bs a0 i) : ∀ j, i ≤ j → bfsN step bs a0 j = bfsN step bs a0 i := by
  intro j
  induction j with
  | zero => intro hj; rw [show i = 0 by omega]
  | succ j ih =>
    intro hj
    by_cases e : i = j + 1
    · rw [e]
    · have := ih (by omega)
      rw [bfs_stay (by rw [this, h]; omega), this]
theorem Done.one {a0 : α} {i j : Nat} (h : Done step bs a0 i) (k : Done step bs a0 j) : i = j := by
  rcases Nat.le_total i j with e | e
  · have := h.stay j e
    have h2 : (bfsN step bs a0 j).length = j := k
    rw [this] at h2
    exact h.symm.trans h2
  · have := k.stay i e
    have h2 : (bfsN step bs a0 i).length = i := h
    rw [this] at h2
    exact h2.symm.trans k
/-- a queue that is part of what comes behind tells a bound -/
theorem Done.gt {a0 : α} {i k m : Nat} (hk : Done step bs a0 k) (hi : i < (bfsN step bs a0 i).length) (hm : m ≤ (bfsN step bs a0 (i + 1)).length) : m ≤ k := by
  have h1 : (bfsN step bs a0 k).length = k := hk
  rcases Nat.lt_or_ge i k with e | e
  · have := bfs_len (step := step) (bs := bs) a0 (show i + 1 ≤ k from e)
    omega
  · have := hk.stay i e
    rw [this, h1] at hi
    omega
theorem bfs_all {p : α → Prop} {a0 : α} (h0 : p a0) (hs : ∀ q b, p q → b ∈ bs → p (step q b)) : ∀ i, ∀ x ∈ bfsN step bs a0 i, p x
  | 0, x, hx => by rw [show x = a0 by simpa [bfsN] using hx]; exact h0
  | i + 1, x, hx => by
    have ih := bfs_all h0 hs i
    by_cases h : i < (bfsN step bs a0 i).length
    · rw [bfs_succ h] at hx
      exact rowQ_all _ _ _ ih (fun b hb => hs _ b (ih _ (List.getElem_mem h)) hb) x hx
    · rw [bfs_stay (by omega)] at hx
      exact ih x hx
/-- the entries of a state's row, by a queue -/
def entsQ (step : α → Nat → α) (bs : List Nat) (Q : List α) (q : α) : List Nat := bs.map fun b => Q.idxOf (step q b)
theorem ents_grow {Q r : List α} {q : α} (h : ∀ b ∈ bs, step q b ∈ Q) : entsQ step bs (Q ++ r) q = entsQ step bs Q q := by
  unfold entsQ
  apply List.map_congr_left
  intro b hb
  rw [List.idxOf_append, if_pos (h b hb)]
/-- the rows of the first i states -/
def rowsQ (step : α → Nat → α) (bs : List Nat) (a0 : α) (i : Nat) : List (List Nat) := ((bfsN step bs a0 i).take i).map (entsQ step bs (bfsN step bs a0 i))
theorem bfs_closed (a0 : α) : ∀ i, ∀ x ∈ (bfsN step bs a0 i).take i, ∀ b ∈ bs, step x b ∈ bfsN step bs a0 i
  | 0, x, hx, b, hb => by simp at hx
  | i + 1, x, hx, b, hb => by
    by_cases h : i < (bfsN step bs a0 i).length
    · obtain ⟨r, hr⟩ := rowQ_prefix (step := step) (bfsN step bs a0 i)[i] bs (bfsN step bs a0 i)
      rw [bfs_succ h] at hx ⊢
      have ht : (rowQ step (bfsN step bs a0 i)[i] bs (bfsN step bs a0 i)).take (i + 1) = (bfsN step bs a0 i).take i ++ [(bfsN step bs a0 i)[i]] := by
        rw [hr, List.take_append_of_le_length (by omega), List.take_succ_eq_append_getElem h]
      rw [ht] at hx
      rcases List.mem_append.1 hx with hx | hx
      · have := bfs_closed a0 i x hx b hb
        rw [hr]
        exact List.mem_append_left _ this
      · rw [List.mem_singleton.1 hx]
        exact rowQ_mem _ _ _ b hb
    · have hs := bfs_stay (step := step) (bs := bs) (a0 := a0) (i := i) (by omega)
      rw [hs] at hx ⊢
      rw [List.take_of_length_le (by omega)] at hx
      exact bfs_closed a0 i x (by rw [List.take_of_length_le (by omega)]; exact hx) b hb
theorem rows_succ {a0 : α} {i : Nat} (h : i < (bfsN step bs a0 i).length) : rowsQ step bs a0 (i + 1) = rowsQ step bs a0 i ++ [entsQ step bs (bfsN step bs a0 (i + 1)) (bfsN step bs a0 i)[i]] := by
  obtain ⟨r, hr⟩ := bfs_prefix1 (step := step) (bs := bs) a0 i
  unfold rowsQ
  rw [hr, List.take_append_of_le_length (by omega), List.take_succ_eq_append_getElem h, List.map_append]
  congr 1
  apply List.map_congr_left
  intro x hx
  exact ents_grow fun b hb => bfs_closed a0 i x hx b hb
theorem rows_len {a0 : α} {i : Nat} (h : i ≤ (bfsN step bs a0 i).length) : (rowsQ step bs a0 i).length = i := by
  unfold rowsQ
  rw [List.length_map, List.length_take]
  omega
theorem ents_snoc {Q : List α} {q : α} {bs : List Nat} {b : Nat} (h : ∀ c ∈ bs, step q c ∈ Q) : entsQ step (bs ++ [b]) (addQ Q (step q b)) q = entsQ step bs Q q ++ [(addQ Q (step q b)).idxOf (step q b)] := by
  obtain ⟨r, hr⟩ := addQ_prefix Q (step q b)
  unfold entsQ
  rw [List.map_append]
  congr 1
  apply List.map_congr_left
  intro c hc
  rw [hr, List.idxOf_append, if_pos (h c hc)]
end
end Go.Proofs.YtkedgombccdamaaDoor
namespace Go.Proofs.YtkedgombccdamaaDoor
open Go.RowKit Go.Maps
set_option linter.unusedVariables false
set_option linter.unusedSimpArgs false
attribute [local go_sem] Oper.semAt_some

theorem getD_at {α : Type} (l : List α) (d : α) {i : Nat} (h : i < l.length) : l.getD i d = l[i] := by simp [h]
theorem nxt_at {x : TV} {s : Nat} {c : Nat} (hs : s < x.rs.length) (hc : c < x.rs[s].l.length) : x.T.nxt s (c : Nat) = x.rs[s].l[c] := by
  have hs2 : s < (x.rs.map (·.l)).length := by simpa using hs
  show (((x.rs.map (·.l)).getD s []).getD ((c : Nat) : Int).toNat 0) = _
  rw [getD_at _ _ hs2]
  simp only [List.getElem_map, Int.toNat_natCast]
  rw [getD_at _ _ hc]
theorem fits_row {x : TV} (hF : s_Fits x.T) {s : Nat} (hs : s < x.rs.length) : x.rs[s].l.length = x.T.many := by
  have := hF.row s (by show s < (x.rs.map (·.l)).length; simpa using hs)
  have hs2 : s < (x.rs.map (·.l)).length := by simpa using hs
  have e : (x.T.nx.getD s []) = x.rs[s].l := by
    show (x.rs.map (·.l)).getD s [] = _
    rw [getD_at _ _ hs2, List.getElem_map]
  rw [e] at this
  exact this
theorem fits_n {x : TV} : x.T.nx.length = x.rs.length := List.length_map _
theorem fits_au {x : TV} : x.T.au.n = x.rs.length := List.length_map _
/-- what lies in the row is where the state goes -/
theorem fits_go {x : TV} (hF : s_Fits x.T) {s b : Nat} (hs : s < x.rs.length) (hb : b < 256) : ∃ c : Nat, x.f b = (c : Int) ∧ c < x.T.many ∧ ∃ hc : c < x.rs[s].l.length, x.rs[s].l[c] = ((x.T.au.go s b : Nat) : Int) := by
  obtain ⟨h0, h1⟩ := hF.cl b hb
  obtain ⟨c, hc⟩ := Int.eq_ofNat_of_zero_le h0
  have hcf : x.f b = (c : Int) := hc
  have hcm : c < x.T.many := by omega
  have hcr : c < x.rs[s].l.length := by rw [fits_row hF hs]; exact hcm
  refine ⟨c, hcf, hcm, hcr, ?_⟩
  have h3 := (hF.tr s c (by rw [fits_n]; exact hs) hcm).1
  rw [nxt_at hs hcr] at h3
  show _ = (((x.T.nxt s (x.T.cls b)).toNat : Nat) : Int)
  rw [show x.T.cls b = ((c : Nat) : Int) from hc, nxt_at hs hcr, Int.toNat_of_nonneg h3]
end Go.Proofs.YtkedgombccdamaaDoor
