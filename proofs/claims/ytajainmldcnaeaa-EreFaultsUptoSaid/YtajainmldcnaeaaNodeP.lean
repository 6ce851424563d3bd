/- Trees of nodes, their places and how they are laid: plain laws. No condition beyond those named in each lemma. -/
import Derived.Test.YtajainmldcnaeaaEdge
namespace Go.Proofs.Ytajainmldcnaeaa
set_option linter.unusedVariables false
set_option linter.unusedSimpArgs false

inductive Nd where
  | mk (kd : Int) (st : BSet) (subs : List Nd) (mi ma : Int)
theorem Nd.ind {p : Nd → Prop} (h : ∀ k s l a b, (∀ x ∈ l, p x) → p (.mk k s l a b)) : ∀ n, p n
  | .mk k s l a b => h k s l a b (fun x hx => Nd.ind h x)
termination_by n => SizeOf.sizeOf n
decreasing_by
  have := List.sizeOf_lt_of_mem hx
  simp only [Nd.mk.sizeOf_spec]
  omega
/-- does a node's own part fit? -/
def headOk (k : Int) (st : BSet) (n : Nat) (a b : Int) : Bool :=
  if k = 1 ∨ k = 6 ∨ k = 7 then decide (st = 0) && decide (a = 0) && decide (b = 0) && decide (n = 0)
  else if k = 2 then !st.getLsbD 10 && decide (a = 0) && decide (b = 0) && decide (n = 0)
  else if k = 3 ∨ k = 4 then decide (st = 0) && decide (a = 0) && decide (b = 0) && decide (2 ≤ n)
  else if k = 5 then decide (st = 0) && decide (n = 1) && decide (0 ≤ a) && decide (a ≤ 255) && (decide (b = -1) || (decide (a ≤ b) && decide (b ≤ 255)))
  else false
theorem headOk_1 {k : Int} (h : k = 1 ∨ k = 6 ∨ k = 7) {st : BSet} {z : Bool} (hz : decide (st = 0) = z) (n : Nat) (a b : Int) : headOk k st n a b = (z && decide (a = 0) && decide (b = 0) && decide (n = 0)) := by
  unfold headOk; rw [if_pos h, hz]
theorem headOk_2 {st : BSet} {q : Bool} (hq : st.getLsbD 10 = q) (n : Nat) (a b : Int) : headOk 2 st n a b = (!q && decide (a = 0) && decide (b = 0) && decide (n = 0)) := by
  unfold headOk; rw [if_neg (by omega), if_pos rfl, hq]
theorem headOk_3 {k : Int} (h : k = 3 ∨ k = 4) {st : BSet} {z : Bool} (hz : decide (st = 0) = z) (n : Nat) (a b : Int) : headOk k st n a b = (z && decide (a = 0) && decide (b = 0) && decide (2 ≤ n)) := by
  unfold headOk; rw [if_neg (by omega), if_neg (by omega), if_pos h, hz]
theorem headOk_5 {st : BSet} {z : Bool} (hz : decide (st = 0) = z) (n : Nat) (a b : Int) : headOk 5 st n a b = (z && decide (n = 1) && decide (0 ≤ a) && decide (a ≤ 255) && (decide (b = -1) || (decide (a ≤ b) && decide (b ≤ 255)))) := by
  unfold headOk; rw [if_neg (by omega), if_neg (by omega), if_neg (by omega), if_pos rfl, hz]
mutual
def Nd.isT : Nd → Bool
  | .mk k st l a b => headOk k st l.length a b && Nd.areT l
def Nd.areT : List Nd → Bool
  | [] => true
  | x :: l => x.isT && Nd.areT l
end
theorem Nd.areT_all : ∀ l : List Nd, Nd.areT l = l.all Nd.isT
  | [] => rfl
  | x :: l => by simp [Nd.areT, Nd.areT_all l]
/-- the places of a tree that is repeated, of u places -/
def tU (u : Nat) (a b : Int) : Nat := if u = 0 then 0 else a.toNat * u + (if b = -1 then u + 2 else if a < b then (b - a).toNat * u + 1 else 0)
mutual
def Nd.U : Nd → Nat
  | .mk k _ l a b => if k = 2 ∨ k = 6 ∨ k = 7 then 1 else if k = 3 then Nd.Us l else if k = 4 then l.length + 1 + Nd.Us l else if k = 5 then tU (Nd.Us l) a b else 0
def Nd.Us : List Nd → Nat
  | [] => 0
  | x :: l => x.U + Nd.Us l
end
theorem Nd.Us_append (l m : List Nd) : Nd.Us (l ++ m) = Nd.Us l + Nd.Us m := by
  induction l with
  | nil => simp [Nd.Us]
  | cons x l ih => simp [Nd.Us, ih]; omega
theorem Nd.Us_step (l : List Nd) (k : Nat) (h : k < l.length) : Nd.Us (l.take (k + 1)) = Nd.Us (l.take k) + l[k].U := by
  rw [List.take_succ_eq_append_getElem h, Nd.Us_append]; simp [Nd.Us]
theorem Nd.Us_take (l : List Nd) (k : Nat) : Nd.Us (l.take k) ≤ Nd.Us l := by
  have := Nd.Us_append (l.take k) (l.drop k)
  rw [List.take_append_drop] at this
  omega
theorem tU_cap (C u : Nat) (a b : Int) (hC : 0 < C) : min (tU (min u C) a b) C = min (tU u a b) C := by
  by_cases h : u ≤ C
  · rw [Nat.min_eq_left h]
  have h1 : min u C = C := by omega
  have e1 : (if C = 0 then 0 else a.toNat * C + (if b = -1 then C + 2 else if a < b then (b - a).toNat * C + 1 else 0)) = a.toNat * C + (if b = -1 then C + 2 else if a < b then (b - a).toNat * C + 1 else 0) := if_neg (by omega)
  have e2 : (if u = 0 then 0 else a.toNat * u + (if b = -1 then u + 2 else if a < b then (b - a).toNat * u + 1 else 0)) = a.toNat * u + (if b = -1 then u + 2 else if a < b then (b - a).toNat * u + 1 else 0) := if_neg (by omega)
  unfold tU
  rw [h1, e1, e2]
  have k : ∀ n : Nat, 0 < n → C ≤ n * C ∧ C ≤ n * u := fun n hn => ⟨Nat.le_mul_of_pos_left C hn, Nat.le_trans (by omega) (Nat.le_mul_of_pos_left u hn)⟩
  rcases Nat.eq_zero_or_pos a.toNat with h0 | h0
  · rw [h0, Nat.zero_mul, Nat.zero_mul]
    by_cases hb : b = -1
    · rw [if_pos hb, if_pos hb]; omega
    · rw [if_neg hb, if_neg hb]
      by_cases hab : a < b
      · rw [if_pos hab, if_pos hab]
        have := k (b - a).toNat (by omega)
        omega
      · rw [if_neg hab, if_neg hab]
  · have := k _ h0
    omega
theorem tU_zero (u : Nat) (a b : Int) (h : tU u a b = 0) (h0 : 0 ≤ a) (hb : b = -1 ∨ a < b) : u = 0 := by
  unfold tU at h
  by_cases hu : u = 0
  · exact hu
  rw [if_neg hu] at h
  rcases hb with rfl | hb
  · rw [if_pos rfl] at h; omega
  · rw [if_pos hb] at h
    split at h <;> omega

theorem tU_int {q : Nat} {mi ma : Int} (h0 : 0 ≤ mi) (hq : ¬ q = 0) : ((tU q mi ma : Nat) : Int) = mi * (q : Int) + (if ma = -1 then (q : Int) + 2 else if mi < ma then (ma - mi) * (q : Int) + 1 else 0) := by
  unfold tU
  rw [if_neg hq]
  by_cases h1 : ma = -1
  · rw [if_pos h1, if_pos h1, Int.natCast_add, Int.natCast_mul, Int.toNat_of_nonneg h0]; rfl
  · rw [if_neg h1, if_neg h1]
    by_cases h2 : mi < ma
    · rw [if_pos h2, if_pos h2, Int.natCast_add, Int.natCast_mul, Int.toNat_of_nonneg h0, Int.natCast_add, Int.natCast_mul, Int.toNat_of_nonneg (by omega)]; rfl
    · rw [if_neg h2, if_neg h2, Int.natCast_add, Int.natCast_mul, Int.toNat_of_nonneg h0]; rfl
theorem mul_bound {q : Nat} {a : Int} (h0 : 0 ≤ a) (h1 : a ≤ 256) (hq : q ≤ 4096) : 0 ≤ a * (q : Int) ∧ a * (q : Int) ≤ 1048576 := by
  have := Int.mul_le_mul h1 (show (q : Int) ≤ 4096 by omega) (by omega) (by omega)
  exact ⟨Int.mul_nonneg h0 (by omega), by omega⟩

/-! ### laying -/
/-- what is laid: how many states, which edges -/
structure Ly where
  s : Nat
  e : List Edg
def Ly.new (m : Ly) : Ly := ⟨m.s + 1, m.e⟩
def Ly.edge (m : Ly) (kd : Int) (fr tt : Nat) (st : BSet) : Ly := ⟨m.s, m.e ++ [⟨kd, fr, tt, st⟩]⟩
def Ly.free (m : Ly) (fr tt : Nat) : Ly := m.edge 1 fr tt 0
def Ly.over (m : Ly) (kd : Int) (a : Nat) (st : BSet) : Ly × Nat := (m.new.edge kd a m.s st, m.s)
def Ly.frees (m : Ly) (z : Nat) (ends : List Nat) : Ly := ends.foldl (fun m s => m.free s z) m
def Ly.joined (m : Ly) (ends : List Nat) : Ly × Nat := (m.new.frees m.s ends, m.s)
theorem Ly.frees_snoc (m : Ly) (z : Nat) (l : List Nat) (k : Nat) (h : k < l.length) : m.frees z (l.take (k + 1)) = (m.frees z (l.take k)).free l[k] z := by
  unfold Ly.frees
  rw [List.take_succ_eq_append_getElem h, List.foldl_append]
  rfl
theorem Ly.frees_s (z : Nat) : ∀ (l : List Nat) (m : Ly), (m.frees z l).s = m.s
  | [], m => rfl
  | x :: l, m => (Ly.frees_s z l (m.free x z)).trans rfl
theorem Ly.frees_e (z : Nat) : ∀ (l : List Nat) (m : Ly), (m.frees z l).e.length = m.e.length + l.length
  | [], m => rfl
  | x :: l, m => by
    have := Ly.frees_e z l (m.free x z)
    have h2 : (m.free x z).e.length = m.e.length + 1 := by simp [Ly.free, Ly.edge]
    show ((m.free x z).frees z l).e.length = _
    rw [this, h2, List.length_cons]; omega
abbrev LayF := Ly → Nat → Ly × Nat
def altS (f : LayF) (a : Nat) (r : Ly × List Nat) : Ly × List Nat := ((f (r.1.new.free a r.1.s) r.1.s).1, r.2 ++ [(f (r.1.new.free a r.1.s) r.1.s).2])
def reps (f : LayF) : Nat → Ly × Nat → Ly × Nat
  | 0, r => r
  | n + 1, r => f (reps f n r).1 (reps f n r).2
def opts (f : LayF) : Nat → (Ly × Nat) × List Nat → (Ly × Nat) × List Nat
  | 0, r => r
  | n + 1, r => (f (opts f n r).1.1 (opts f n r).1.2, (opts f n r).2 ++ [(f (opts f n r).1.1 (opts f n r).1.2).2])
def timesP (f : LayF) (u : Nat) (mi ma : Int) (m : Ly) (a : Nat) : Ly × Nat :=
  if u = 0 then (m, a) else
  if ma = -1 then
    let q := reps f mi.toNat (m, a)
    let p := f (q.1.new.free q.2 q.1.s) q.1.s
    (p.1.free p.2 q.1.s).joined [q.1.s]
  else if mi < ma then
    let q := reps f mi.toNat (m, a)
    let o := opts f (ma - mi).toNat (q, [q.2])
    o.1.1.joined o.2
  else reps f mi.toNat (m, a)
mutual
def Nd.lay : Nd → LayF
  | .mk k st l mi ma => fun m a =>
    if k = 2 then m.over 2 a st else if k = 6 then m.over 3 a 0 else if k = 7 then m.over 4 a 0
    else if k = 3 then Nd.row l (m, a)
    else if k = 4 then (Nd.alt l a (m, [])).1.joined (Nd.alt l a (m, [])).2
    else if k = 5 then Nd.tim l mi ma m a
    else (m, a)
def Nd.row : List Nd → Ly × Nat → Ly × Nat
  | [] => fun r => r
  | x :: l => fun r => Nd.row l (x.lay r.1 r.2)
def Nd.alt : List Nd → Nat → Ly × List Nat → Ly × List Nat
  | [] => fun _ r => r
  | x :: l => fun a r => Nd.alt l a (altS x.lay a r)
def Nd.tim : List Nd → Int → Int → LayF
  | [] => fun _ _ m a => (m, a)
  | x :: _ => fun mi ma m a => timesP x.lay x.U mi ma m a
end
theorem Nd.row_append : ∀ (l k : List Nd) (r : Ly × Nat), Nd.row (l ++ k) r = Nd.row k (Nd.row l r)
  | [], k, r => by simp [Nd.row]
  | x :: l, k, r => by simp only [List.cons_append, Nd.row]; exact Nd.row_append l k _
theorem Nd.row_step (l : List Nd) (r : Ly × Nat) (k : Nat) (h : k < l.length) : Nd.row (l.take (k + 1)) r = l[k].lay (Nd.row (l.take k) r).1 (Nd.row (l.take k) r).2 := by
  rw [List.take_succ_eq_append_getElem h, Nd.row_append]
  simp only [Nd.row]
theorem Nd.alt_append : ∀ (l k : List Nd) (a : Nat) (r : Ly × List Nat), Nd.alt (l ++ k) a r = Nd.alt k a (Nd.alt l a r)
  | [], k, a, r => by simp [Nd.alt]
  | x :: l, k, a, r => by simp only [List.cons_append, Nd.alt]; exact Nd.alt_append l k a _
theorem Nd.alt_step (l : List Nd) (a : Nat) (r : Ly × List Nat) (k : Nat) (h : k < l.length) : Nd.alt (l.take (k + 1)) a r = altS l[k].lay a (Nd.alt (l.take k) a r) := by
  rw [List.take_succ_eq_append_getElem h, Nd.alt_append]
  simp only [Nd.alt]

/-- u states are made, of edges fewer than three times as many; a's number stays below -/
structure GoodF (f : LayF) (u : Nat) : Prop where
  st : ∀ m a, (f m a).1.s = m.s + u
  ed : ∀ m a, (f m a).1.e.length ≤ m.e.length + (3 * u - 1)
  at_ : ∀ m a, a < m.s → (f m a).2 < (f m a).1.s
theorem GoodF.nil : GoodF (fun m a => (m, a)) 0 := ⟨fun _ _ => rfl, fun _ _ => Nat.le_refl _, fun _ _ h => h⟩
theorem GoodF.over (kd : Int) (st : BSet) : GoodF (fun m a => m.over kd a st) 1 :=
  ⟨fun _ _ => rfl, fun m a => by simp [Ly.over, Ly.new, Ly.edge], fun m a h => by simp [Ly.over, Ly.new, Ly.edge]⟩
theorem joined_s (m : Ly) (l : List Nat) : (m.joined l).1.s = m.s + 1 := by unfold Ly.joined; rw [Ly.frees_s]; rfl
theorem joined_e (m : Ly) (l : List Nat) : (m.joined l).1.e.length = m.e.length + l.length := by unfold Ly.joined; rw [Ly.frees_e]; rfl
section
variable {f : LayF} {u : Nat}
theorem GoodF.reps_s (h : GoodF f u) (r : Ly × Nat) : ∀ n, (reps f n r).1.s = r.1.s + n * u
  | 0 => by simp [reps]
  | n + 1 => by rw [reps, h.st, h.reps_s r n, Nat.add_mul]; omega
theorem GoodF.reps_e (h : GoodF f u) (r : Ly × Nat) : ∀ n, (reps f n r).1.e.length ≤ r.1.e.length + n * (3 * u - 1)
  | 0 => by simp [reps]
  | n + 1 => by
    have h1 := h.ed (reps f n r).1 (reps f n r).2
    have h2 := h.reps_e r n
    rw [Nat.add_mul, Nat.one_mul]
    unfold reps
    omega
theorem GoodF.reps_at (h : GoodF f u) (r : Ly × Nat) (hr : r.2 < r.1.s) : ∀ n, (reps f n r).2 < (reps f n r).1.s
  | 0 => hr
  | n + 1 => h.at_ _ _ (h.reps_at r hr n)
theorem GoodF.opts_s (h : GoodF f u) (r : (Ly × Nat) × List Nat) : ∀ n, (opts f n r).1.1.s = r.1.1.s + n * u
  | 0 => by simp [opts]
  | n + 1 => by unfold opts; simp only; rw [h.st, h.opts_s r n, Nat.add_mul]; omega
theorem GoodF.opts_e (h : GoodF f u) (r : (Ly × Nat) × List Nat) : ∀ n, (opts f n r).1.1.e.length ≤ r.1.1.e.length + n * (3 * u - 1)
  | 0 => by simp [opts]
  | n + 1 => by
    have h1 := h.ed (opts f n r).1.1 (opts f n r).1.2
    have h2 := h.opts_e r n
    rw [Nat.add_mul, Nat.one_mul]
    unfold opts
    simp only
    omega
theorem opts_len (r : (Ly × Nat) × List Nat) : ∀ n, (opts f n r).2.length = r.2.length + n
  | 0 => by simp [opts]
  | n + 1 => by unfold opts; simp only [List.length_append, opts_len r n, List.length_cons, List.length_nil]; omega
theorem mul_three (n u : Nat) (hu : 0 < u) : n * (3 * u - 1) + n = 3 * (n * u) := by
  obtain ⟨v, rfl⟩ : ∃ v, u = v + 1 := ⟨u - 1, by omega⟩
  rw [show 3 * (v + 1) - 1 = 3 * v + 2 by omega, Nat.mul_add, Nat.mul_add, Nat.mul_left_comm n 3 v]
  omega
theorem GoodF.times (h : GoodF f u) (mi ma : Int) (h0 : 0 ≤ mi) (hm : ma = -1 ∨ mi ≤ ma) : GoodF (timesP f u mi ma) (tU u mi ma) := by
  by_cases hu : u = 0
  · have e1 : timesP f u mi ma = fun m a => (m, a) := by funext m a; unfold timesP; rw [if_pos hu]
    have e2 : tU u mi ma = 0 := by unfold tU; rw [if_pos hu]
    rw [e1, e2]
    exact .nil
  by_cases h1 : ma = -1
  · have e2 : tU u mi ma = mi.toNat * u + (u + 2) := by unfold tU; rw [if_neg hu, if_pos h1]
    have key : ∀ m a, (timesP f u mi ma m a).1.s = m.s + (mi.toNat * u + (u + 2)) ∧ (timesP f u mi ma m a).1.e.length ≤ m.e.length + (3 * (mi.toNat * u + (u + 2)) - 1) ∧ (timesP f u mi ma m a).2 < (timesP f u mi ma m a).1.s := by
      intro m a
      unfold timesP
      rw [if_neg hu, if_pos h1]
      simp only
      obtain ⟨q, hq⟩ : ∃ q, q = reps f mi.toNat (m, a) := ⟨_, rfl⟩
      rw [← hq]
      have q1 : q.1.s = m.s + mi.toNat * u := by rw [hq]; exact h.reps_s (m, a) _
      have q2 : q.1.e.length ≤ m.e.length + mi.toNat * (3 * u - 1) := by rw [hq]; exact h.reps_e (m, a) _
      have p1 := h.st (q.1.new.free q.2 q.1.s) q.1.s
      have p2 := h.ed (q.1.new.free q.2 q.1.s) q.1.s
      have n1 : (q.1.new.free q.2 q.1.s).s = q.1.s + 1 := rfl
      have n2 : (q.1.new.free q.2 q.1.s).e.length = q.1.e.length + 1 := by simp [Ly.free, Ly.edge, Ly.new]
      have n3 : ∀ (p : Ly) (x y : Nat), (p.free x y).s = p.s ∧ (p.free x y).e.length = p.e.length + 1 := fun p x y => ⟨rfl, by simp [Ly.free, Ly.edge]⟩
      have mt := mul_three mi.toNat u (by omega)
      refine ⟨?_, ?_, ?_⟩
      · rw [joined_s, (n3 _ _ _).1, p1, n1, q1]; omega
      · rw [joined_e, (n3 _ _ _).2, List.length_cons, List.length_nil]
        omega
      · rw [joined_s, (n3 _ _ _).1]
        unfold Ly.joined
        simp only [(n3 _ _ _).1]
        omega
    rw [e2]
    exact ⟨fun m a => (key m a).1, fun m a => (key m a).2.1, fun m a _ => (key m a).2.2⟩
  have hm2 : mi ≤ ma := by rcases hm with hm | hm <;> omega
  by_cases h2 : mi < ma
  · have e2 : tU u mi ma = mi.toNat * u + ((ma - mi).toNat * u + 1) := by unfold tU; rw [if_neg hu, if_neg h1, if_pos h2]
    have key : ∀ m a, (timesP f u mi ma m a).1.s = m.s + (mi.toNat * u + ((ma - mi).toNat * u + 1)) ∧ (timesP f u mi ma m a).1.e.length ≤ m.e.length + (3 * (mi.toNat * u + ((ma - mi).toNat * u + 1)) - 1) ∧ (timesP f u mi ma m a).2 < (timesP f u mi ma m a).1.s := by
      intro m a
      unfold timesP
      rw [if_neg hu, if_neg h1, if_pos h2]
      simp only
      obtain ⟨q, hq⟩ : ∃ q, q = reps f mi.toNat (m, a) := ⟨_, rfl⟩
      rw [← hq]
      have q1 : q.1.s = m.s + mi.toNat * u := by rw [hq]; exact h.reps_s (m, a) _
      have q2 : q.1.e.length ≤ m.e.length + mi.toNat * (3 * u - 1) := by rw [hq]; exact h.reps_e (m, a) _
      have p1 := h.opts_s (q, [q.2]) (ma - mi).toNat
      have p2 := h.opts_e (q, [q.2]) (ma - mi).toNat
      have p3 := opts_len (f := f) (q, [q.2]) (ma - mi).toNat
      simp only [List.length_cons, List.length_nil] at p1 p2 p3
      have mt := mul_three mi.toNat u (by omega)
      have mt2 := mul_three (ma - mi).toNat u (by omega)
      refine ⟨?_, ?_, ?_⟩
      · rw [joined_s, p1, q1]; omega
      · rw [joined_e, p3]
        omega
      · rw [joined_s]
        unfold Ly.joined
        simp only
        omega
    rw [e2]
    exact ⟨fun m a => (key m a).1, fun m a => (key m a).2.1, fun m a _ => (key m a).2.2⟩
  · have e1 : timesP f u mi ma = fun m a => reps f mi.toNat (m, a) := by funext m a; unfold timesP; rw [if_neg hu, if_neg h1, if_neg h2]
    have e2 : tU u mi ma = mi.toNat * u := by unfold tU; rw [if_neg hu, if_neg h1, if_neg h2]; rfl
    rw [e1, e2]
    refine ⟨fun m a => h.reps_s (m, a) _, fun m a => ?_, fun m a ha => h.reps_at (m, a) ha _⟩
    have := h.reps_e (m, a) mi.toNat
    simp only at this
    have mt := mul_three mi.toNat u (by omega)
    rcases Nat.eq_zero_or_pos mi.toNat with hz | hz
    · rw [hz] at this ⊢
      simp only [Nat.zero_mul] at this ⊢
      omega
    · omega
end
theorem row_good : ∀ (l : List Nd), (∀ x ∈ l, GoodF x.lay x.U) → GoodF (fun m a => Nd.row l (m, a)) (Nd.Us l)
  | [], _ => by simpa [Nd.row, Nd.Us] using GoodF.nil
  | x :: l, h => by
    have hx := h x (by simp)
    have ih := row_good l (fun y hy => h y (by simp [hy]))
    refine ⟨fun m a => ?_, fun m a => ?_, fun m a ha => ?_⟩
    · have h1 : (Nd.row l (x.lay m a)).1.s = (x.lay m a).1.s + Nd.Us l := ih.st (x.lay m a).1 (x.lay m a).2
      have h2 := hx.st m a
      simp only [Nd.row, Nd.Us]
      omega
    · have h1 : (Nd.row l (x.lay m a)).1.e.length ≤ (x.lay m a).1.e.length + (3 * Nd.Us l - 1) := ih.ed (x.lay m a).1 (x.lay m a).2
      have h2 := hx.ed m a
      simp only [Nd.row, Nd.Us]
      omega
    · have h2 := ih.at_ _ _ (hx.at_ m a ha)
      simp only [Nd.row] at h2 ⊢
      exact h2
theorem alt_good : ∀ (l : List Nd), (∀ x ∈ l, GoodF x.lay x.U) → ∀ a (r : Ly × List Nat), (Nd.alt l a r).1.s = r.1.s + l.length + Nd.Us l ∧ (Nd.alt l a r).1.e.length ≤ r.1.e.length + l.length + 3 * Nd.Us l ∧ (Nd.alt l a r).2.length = r.2.length + l.length
  | [], _, a, r => by simp [Nd.alt, Nd.Us]
  | x :: l, h, a, r => by
    have hx := h x (by simp)
    have ih := alt_good l (fun y hy => h y (by simp [hy])) a (altS x.lay a r)
    have h1 := hx.st (r.1.new.free a r.1.s) r.1.s
    have h2 := hx.ed (r.1.new.free a r.1.s) r.1.s
    have n1 : (r.1.new.free a r.1.s).s = r.1.s + 1 := rfl
    have n2 : (r.1.new.free a r.1.s).e.length = r.1.e.length + 1 := by simp [Ly.free, Ly.edge, Ly.new]
    have n3 : (altS x.lay a r).2.length = r.2.length + 1 := by simp [altS]
    have n4 : (altS x.lay a r).1 = (x.lay (r.1.new.free a r.1.s) r.1.s).1 := rfl
    rw [n4, n3] at ih
    simp only [Nd.alt, Nd.Us, List.length_cons]
    omega
theorem headOk_times {st : BSet} {n : Nat} {a b : Int} (h : headOk 5 st n a b = true) : st = 0 ∧ n = 1 ∧ 0 ≤ a ∧ a ≤ 255 ∧ (b = -1 ∨ (a ≤ b ∧ b ≤ 255)) := by
  unfold headOk at h
  rw [if_neg (by omega), if_neg (by omega), if_neg (by omega), if_pos rfl] at h
  simp only [Bool.and_eq_true, Bool.or_eq_true, decide_eq_true_eq] at h
  exact ⟨h.1.1.1.1, h.1.1.1.2, h.1.1.2, h.1.2, h.2⟩
theorem lay_good : ∀ n : Nd, n.isT = true → GoodF n.lay n.U := by
  intro n
  induction n using Nd.ind with
  | h k st l mi ma ih =>
    intro hT
    simp only [Nd.isT, Bool.and_eq_true, Nd.areT_all, List.all_eq_true] at hT
    obtain ⟨hh, hl⟩ := hT
    have ih' : ∀ x ∈ l, GoodF x.lay x.U := fun x hx => ih x hx (hl x hx)
    by_cases k2 : k = 2
    · have e1 : (Nd.mk k st l mi ma).lay = fun m a => m.over 2 a st := by funext m a; simp only [Nd.lay, if_pos k2]
      have e2 : (Nd.mk k st l mi ma).U = 1 := by simp only [Nd.U]; rw [if_pos (.inl k2)]
      rw [e1, e2]; exact .over _ _
    by_cases k6 : k = 6
    · have e1 : (Nd.mk k st l mi ma).lay = fun m a => m.over 3 a 0 := by funext m a; simp only [Nd.lay, if_neg k2, if_pos k6]
      have e2 : (Nd.mk k st l mi ma).U = 1 := by simp only [Nd.U]; rw [if_pos (.inr (.inl k6))]
      rw [e1, e2]; exact .over _ _
    by_cases k7 : k = 7
    · have e1 : (Nd.mk k st l mi ma).lay = fun m a => m.over 4 a 0 := by funext m a; simp only [Nd.lay, if_neg k2, if_neg k6, if_pos k7]
      have e2 : (Nd.mk k st l mi ma).U = 1 := by simp only [Nd.U]; rw [if_pos (.inr (.inr k7))]
      rw [e1, e2]; exact .over _ _
    have hk : ¬ (k = 2 ∨ k = 6 ∨ k = 7) := by omega
    by_cases k3 : k = 3
    · have e1 : (Nd.mk k st l mi ma).lay = fun m a => Nd.row l (m, a) := by funext m a; simp only [Nd.lay, if_neg k2, if_neg k6, if_neg k7, if_pos k3]
      have e2 : (Nd.mk k st l mi ma).U = Nd.Us l := by simp only [Nd.U]; rw [if_neg hk, if_pos k3]
      rw [e1, e2]; exact row_good l ih'
    by_cases k4 : k = 4
    · have e1 : (Nd.mk k st l mi ma).lay = fun m a => (Nd.alt l a (m, [])).1.joined (Nd.alt l a (m, [])).2 := by funext m a; simp only [Nd.lay, if_neg k2, if_neg k6, if_neg k7, if_neg k3, if_pos k4]
      have e2 : (Nd.mk k st l mi ma).U = l.length + 1 + Nd.Us l := by simp only [Nd.U]; rw [if_neg hk, if_neg k3, if_pos k4]
      rw [e1, e2]
      refine ⟨fun m a => ?_, fun m a => ?_, fun m a _ => ?_⟩
      · have := (alt_good l ih' a (m, [])).1
        rw [joined_s, this]; simp only; omega
      · have := alt_good l ih' a (m, [])
        rw [joined_e]
        simp only [List.length_nil] at this
        omega
      · rw [joined_s]; unfold Ly.joined; simp only; omega
    by_cases k5 : k = 5
    · subst k5
      obtain ⟨_, hn, h0, _, hb⟩ := headOk_times hh
      obtain ⟨x, rfl⟩ := List.length_eq_one_iff.1 hn
      have e1 : (Nd.mk 5 st [x] mi ma).lay = timesP x.lay x.U mi ma := by funext m a; simp only [Nd.lay, if_neg k2, if_neg k6, if_neg k7, if_neg k3, if_neg k4, if_true, Nd.tim]
      have e2 : (Nd.mk 5 st [x] mi ma).U = tU x.U mi ma := by simp only [Nd.U, Nd.Us]; rw [if_neg hk, if_neg k3, if_neg k4, if_pos trivial, Nat.add_zero]
      rw [e1, e2]
      exact (ih' x (by simp)).times mi ma h0 (by omega)
    · have e1 : (Nd.mk k st l mi ma).lay = fun m a => (m, a) := by funext m a; simp only [Nd.lay, if_neg k2, if_neg k6, if_neg k7, if_neg k3, if_neg k4, if_neg k5]
      have e2 : (Nd.mk k st l mi ma).U = 0 := by simp only [Nd.U]; rw [if_neg hk, if_neg k3, if_neg k4, if_neg k5]
      rw [e1, e2]; exact .nil
end Go.Proofs.Ytajainmldcnaeaa
