/- Part 4 of a proof; packed: the texts that it was made of follow one another. No condition beyond those named in each lemma. -/
import Derived.Test.YtajainmldcnaeaaPn2
import Derived.Test.YtajainmldcnaeaaPn3
namespace Go.Proofs.Ytajainmldcnaeaa
set_option linter.unusedVariables false
set_option linter.unusedSimpArgs false

namespace Mt
abbrev Rel := Nat → Nat → Prop
def rcomp (A B : Rel) : Rel := fun i j => ∃ k, A i k ∧ B k j
def riter (T : Rel) : Nat → Rel
  | 0 => fun i j => i = j
  | n + 1 => rcomp (riter T n) T
def InR (n : Nat) (T : Rel) : Prop := ∀ i j, i ≤ n → T i j → j ≤ n
/-- a labelling of states by places of a line -/
abbrev Lab := Nat → Nat → Prop
/-- an edge leads from labels to labels -/
structure EdgeOk (q : ByteArray) (L : Lab) (e : Edg) : Prop where
  free : e.kd = 1 → ∀ i, i ≤ q.size → L e.fr.toNat i → L e.tt.toNat i
  byte : e.kd = 2 → ∀ i, i < q.size → L e.fr.toNat i → e.st.getLsbD (Ere.chr q i) = true → L e.tt.toNat (i + 1)
  begin_ : e.kd = 3 → L e.fr.toNat 0 → L e.tt.toNat 0
  end_ : e.kd = 4 → L e.fr.toNat q.size → L e.tt.toNat q.size
theorem EdgeOk.agree {q : ByteArray} {L L' : Lab} {e : Edg} (h : EdgeOk q L e) (h1 : L' e.fr.toNat = L e.fr.toNat) (h2 : L' e.tt.toNat = L e.tt.toNat) : EdgeOk q L' e :=
  ⟨fun k => by rw [h1, h2]; exact h.free k, fun k => by rw [h1, h2]; exact h.byte k, fun k => by rw [h1, h2]; exact h.begin_ k, fun k => by rw [h1, h2]; exact h.end_ k⟩
/-- from state a on edges were laid that lead, by these relations, to these states and to nothing else -/
structure GS (q : ByteArray) (m : Ly) (a : Nat) (m' : Ly) (zs : List (Nat × Rel)) (new : List Edg) : Prop where
  grow : m.s ≤ m'.s
  e : m'.e = m.e ++ new
  at_ : ∀ p ∈ zs, p.1 < m'.s
  rg : ∀ p ∈ zs, InR q.size p.2
  bnd : ∀ e ∈ new, e.fr.toNat < m'.s ∧ e.tt.toNat < m'.s
  sound : ∀ L0 : Lab, (∀ s i, L0 s i → i ≤ q.size) → ∃ L : Lab, (∀ s i, L s i → i ≤ q.size) ∧ (∀ s, s < m.s → L s = L0 s) ∧ (∀ e ∈ new, EdgeOk q L e) ∧ ∀ p ∈ zs, ∀ j, L p.1 j → ∃ i, L0 a i ∧ p.2 i j
  comp : ∀ L : Lab, (∀ e ∈ new, EdgeOk q L e) → ∀ p ∈ zs, ∀ i j, i ≤ q.size → L a i → p.2 i j → L p.1 j
section
variable {q : ByteArray} {m m1 m2 m' : Ly} {a b z : Nat} {zs : List (Nat × Rel)} {new new2 : List Edg} {T U : Rel}
theorem GS.id (q : ByteArray) (m : Ly) (a : Nat) (ha : a < m.s) : GS q m a m [(a, fun i j => i = j)] [] := by
  refine ⟨Nat.le_refl _, by simp, fun p hp => ?_, fun p hp => ?_, fun e he => absurd he (by simp), fun L0 h0 => ⟨L0, h0, fun _ _ => rfl, fun e he => absurd he (by simp), fun p hp j hj => ?_⟩, fun L _ p hp i j _ hi hij => ?_⟩
  all_goals (rw [List.mem_singleton] at hp; subst hp)
  · exact ha
  · intro i j hi hij; simp only at hij; omega
  · exact ⟨j, hj, rfl⟩
  · simp only at hij ⊢; rw [← hij]; exact hi
theorem GS.sub (h : GS q m a m' zs new) {ys : List (Nat × Rel)} (hs : ∀ p ∈ ys, p ∈ zs) : GS q m a m' ys new :=
  ⟨h.grow, h.e, fun p hp => h.at_ p (hs p hp), fun p hp => h.rg p (hs p hp), h.bnd, fun L0 h0 => by
    obtain ⟨L, h1, h2, h3, h4⟩ := h.sound L0 h0
    exact ⟨L, h1, h2, h3, fun p hp => h4 p (hs p hp)⟩, fun L hL p hp => h.comp L hL p (hs p hp)⟩
/-- onwards from one of the states -/
theorem GS.then_ (h : GS q m a m1 zs new) (ha : a < m.s) {p : Nat × Rel} (hp : p ∈ zs) (k : GS q m1 p.1 m2 [(z, T)] new2) : GS q m a m2 (zs ++ [(z, rcomp p.2 T)]) (new ++ new2) := by
  refine ⟨Nat.le_trans h.grow k.grow, by rw [k.e, h.e, List.append_assoc], fun y hy => ?_, fun y hy => ?_, fun e he => ?_, fun L0 h0 => ?_, fun L hL y hy i j hi hai hij => ?_⟩
  · rcases List.mem_append.1 hy with hy | hy
    · exact Nat.lt_of_lt_of_le (h.at_ y hy) k.grow
    · rw [List.mem_singleton] at hy; subst hy; exact k.at_ (z, T) (by simp)
  · rcases List.mem_append.1 hy with hy | hy
    · exact h.rg y hy
    · rw [List.mem_singleton] at hy; subst hy
      rintro i j hi ⟨x, h1, h2⟩
      exact k.rg (z, T) (by simp) x j (h.rg p hp i x hi h1) h2
  · rcases List.mem_append.1 he with he | he
    · have := h.bnd e he; have := k.grow; omega
    · exact k.bnd e he
  · obtain ⟨L1, b1, b2, b3, b4⟩ := h.sound L0 h0
    obtain ⟨L2, c1, c2, c3, c4⟩ := k.sound L1 b1
    refine ⟨L2, c1, fun s hs => (c2 s (by have := h.grow; omega)).trans (b2 s hs), fun e he => ?_, fun y hy j hj => ?_⟩
    · rcases List.mem_append.1 he with he | he
      · have := h.bnd e he
        exact (b3 e he).agree (c2 _ this.1) (c2 _ this.2)
      · exact c3 e he
    · rcases List.mem_append.1 hy with hy | hy
      · rw [c2 _ (h.at_ y hy)] at hj
        exact b4 y hy j hj
      · rw [List.mem_singleton] at hy; subst hy
        obtain ⟨x, h1, h2⟩ := c4 (z, T) (by simp) j hj
        obtain ⟨i, h3, h4⟩ := b4 p hp x h1
        exact ⟨i, h3, x, h4, h2⟩
  · rcases List.mem_append.1 hy with hy | hy
    · exact h.comp L (fun e he => hL e (List.mem_append_left _ he)) y hy i j hi hai hij
    · rw [List.mem_singleton] at hy; subst hy
      obtain ⟨x, h1, h2⟩ := hij
      exact k.comp L (fun e he => hL e (List.mem_append_right _ he)) (z, T) (by simp) x j (h.rg p hp i x hi h1) (h.comp L (fun e he => hL e (List.mem_append_left _ he)) p hp i x hi hai h1) h2
/-- what an edge of a kind takes -/
def edgeT (q : ByteArray) (kd : Int) (st : BSet) : Rel := fun i j => (kd = 1 ∧ i = j) ∨ (kd = 2 ∧ j = i + 1 ∧ i < q.size ∧ st.getLsbD (Ere.chr q i) = true) ∨ (kd = 3 ∧ i = 0 ∧ j = 0) ∨ (kd = 4 ∧ i = q.size ∧ j = q.size)
theorem edgeT_in (q : ByteArray) (kd : Int) (st : BSet) : InR q.size (edgeT q kd st) := by
  rintro i j hi (h | h | h | h) <;> omega
/-- one edge to a new state -/
theorem GS.over (q : ByteArray) (m : Ly) (a : Nat) (ha : a < m.s) (kd : Int) (st : BSet) : GS q m a (m.over kd a st).1 [((m.over kd a st).2, edgeT q kd st)] [⟨kd, a, m.s, st⟩] := by
  refine ⟨by simp [Ly.over, Ly.new, Ly.edge], rfl, fun p hp => ?_, fun p hp => ?_, fun e he => ?_, fun L0 h0 => ?_, fun L hL p hp i j hi hai hij => ?_⟩
  · rw [List.mem_singleton] at hp; subst hp; simp [Ly.over, Ly.new, Ly.edge]
  · rw [List.mem_singleton] at hp; subst hp; exact edgeT_in q kd st
  · rw [List.mem_singleton] at he; subst he; simp [Ly.over, Ly.new, Ly.edge]; omega
  · have hne : a ≠ m.s := by omega
    obtain ⟨L, hLn, hLo⟩ : ∃ L : Lab, (∀ j, L m.s j ↔ ∃ i, L0 a i ∧ edgeT q kd st i j) ∧ ∀ s, s ≠ m.s → L s = L0 s := ⟨fun s j => if s = m.s then ∃ i, L0 a i ∧ edgeT q kd st i j else L0 s j, fun j => by simp, fun s hs => by funext j; simp [hs]⟩
    have hLa := hLo a hne
    refine ⟨L, fun s i hs => ?_, fun s hs => hLo s (by omega), fun e he => ?_, fun p hp j hj => ?_⟩
    · by_cases e : s = m.s
      · rw [e] at hs
        obtain ⟨x, h1, h2⟩ := (hLn i).1 hs
        exact edgeT_in q kd st x i (h0 a x h1) h2
      · rw [hLo s e] at hs
        exact h0 s i hs
    · rw [List.mem_singleton] at he
      subst he
      refine ⟨fun k i hi hL => (hLn i).2 ?_, fun k i hi hL hb => (hLn (i + 1)).2 ?_, fun k hL => (hLn 0).2 ?_, fun k hL => (hLn q.size).2 ?_⟩
      all_goals
        have hL' : L a _ := hL
        rw [hLa] at hL'
      · exact ⟨i, hL', .inl ⟨k, rfl⟩⟩
      · exact ⟨i, hL', .inr (.inl ⟨k, rfl, hi, hb⟩)⟩
      · exact ⟨0, hL', .inr (.inr (.inl ⟨k, rfl, rfl⟩))⟩
      · exact ⟨q.size, hL', .inr (.inr (.inr ⟨k, rfl, rfl⟩))⟩
    · rw [List.mem_singleton] at hp
      subst hp
      exact (hLn j).1 hj
  · rw [List.mem_singleton] at hp
    subst hp
    have h := hL _ (List.mem_singleton.2 rfl)
    rcases hij with ⟨k, rfl⟩ | ⟨k, rfl, h1, h2⟩ | ⟨k, rfl, rfl⟩ | ⟨k, rfl, rfl⟩
    · exact h.free k i hi (by simpa using hai)
    · exact h.byte k i h1 (by simpa using hai) h2
    · exact h.begin_ k (by simpa using hai)
    · exact h.end_ k (by simpa using hai)
def unionR (zs : List (Nat × Rel)) : Rel := fun i j => ∃ p ∈ zs, p.2 i j
theorem frees_list (z : Nat) : ∀ (ends : List Nat) (m : Ly), (m.frees z ends).e = m.e ++ ends.map (fun (s : Nat) => (⟨1, s, z, 0⟩ : Edg))
  | [], m => by simp [Ly.frees]
  | x :: l, m => by
    have := frees_list z l (m.free x z)
    show ((m.free x z).frees z l).e = _
    rw [this]
    simp [Ly.free, Ly.edge]
/-- the ends joined in one new state -/
theorem GS.join (h : GS q m a m1 zs new) (ha : a < m.s) : GS q m a (m1.joined (zs.map (·.1))).1 [((m1.joined (zs.map (·.1))).2, unionR zs)] (new ++ zs.map (fun p => (⟨1, p.1, m1.s, 0⟩ : Edg))) := by
  have hs : (m1.joined (zs.map (·.1))).1.s = m1.s + 1 := joined_s _ _
  have hz : (m1.joined (zs.map (·.1))).2 = m1.s := rfl
  have he : (m1.joined (zs.map (·.1))).1.e = m.e ++ (new ++ zs.map (fun p => (⟨1, p.1, m1.s, 0⟩ : Edg))) := by
    unfold Ly.joined
    rw [frees_list]
    show m1.e ++ _ = _
    rw [h.e, List.append_assoc, List.map_map]
    rfl
  rw [hz]
  have hru : InR q.size (unionR zs) := by
    rintro i j hi ⟨p, hp, h1⟩
    exact h.rg p hp i j hi h1
  refine ⟨by rw [hs]; have := h.grow; omega, he, fun p hp => ?_, fun p hp => ?_, fun e he => ?_, fun L0 h0 => ?_, fun L hL p hp i j hi hai hij => ?_⟩
  · rw [List.mem_singleton] at hp; subst hp; rw [hs]; simp
  · rw [List.mem_singleton] at hp; subst hp; exact hru
  · rw [hs]
    rcases List.mem_append.1 he with he | he
    · have := h.bnd e he; omega
    · obtain ⟨p, hp, rfl⟩ := List.mem_map.1 he
      have := h.at_ p hp
      simp
      omega
  · obtain ⟨L1, b1, b2, b3, b4⟩ := h.sound L0 h0
    obtain ⟨L, hLn, hLo⟩ : ∃ L : Lab, (∀ j, L m1.s j ↔ ∃ i, L0 a i ∧ unionR zs i j) ∧ ∀ s, s ≠ m1.s → L s = L1 s := ⟨fun s j => if s = m1.s then ∃ i, L0 a i ∧ unionR zs i j else L1 s j, fun j => by simp, fun s hs => by funext j; simp [hs]⟩
    have hg := h.grow
    refine ⟨L, fun s i hs => ?_, fun s hs => (hLo s (by omega)).trans (b2 s hs), fun e he => ?_, fun p hp j hj => ?_⟩
    · by_cases e : s = m1.s
      · rw [e] at hs
        obtain ⟨x, h1, h2⟩ := (hLn i).1 hs
        exact hru x i (h0 a x h1) h2
      · rw [hLo s e] at hs
        exact b1 s i hs
    · rcases List.mem_append.1 he with he | he
      · have := h.bnd e he
        exact (b3 e he).agree (hLo _ (by omega)) (hLo _ (by omega))
      · obtain ⟨p, hp, rfl⟩ := List.mem_map.1 he
        have hpl := h.at_ p hp
        refine ⟨fun _ i hi hL => (hLn i).2 ?_, fun k => by simp at k, fun k => by simp at k, fun k => by simp at k⟩
        have hL' : L p.1 i := hL
        rw [hLo p.1 (by omega)] at hL'
        obtain ⟨x, h1, h2⟩ := b4 p hp i hL'
        exact ⟨x, h1, p, hp, h2⟩
    · rw [List.mem_singleton] at hp
      subst hp
      exact (hLn j).1 hj
  · rw [List.mem_singleton] at hp
    subst hp
    obtain ⟨y, hy, h1⟩ := hij
    have h2 := h.comp L (fun e he => hL e (List.mem_append_left _ he)) y hy i j hi hai h1
    exact (hL _ (List.mem_append_right _ (List.mem_map_of_mem hy))).free rfl j (h.rg y hy i j hi h1) h2
/-- a laying that takes T -/
def LayOk (q : ByteArray) (f : LayF) (T : Rel) : Prop := ∀ (m : Ly) (a : Nat), a < m.s → ∃ new, GS q m a (f m a).1 [((f m a).2, T)] new
variable {f : LayF}
theorem LayOk.reps_ (hf : LayOk q f T) (n : Nat) : LayOk q (fun m a => reps f n (m, a)) (riter T n) := by
  induction n with
  | zero => exact fun m a ha => ⟨[], GS.id q m a ha⟩
  | succ n ih =>
    intro m a ha
    obtain ⟨n1, h1⟩ := ih m a ha
    obtain ⟨n2, h2⟩ := hf (reps f n (m, a)).1 (reps f n (m, a)).2 (h1.at_ _ (List.mem_singleton.2 rfl))
    exact ⟨n1 ++ n2, (h1.then_ ha (List.mem_singleton.2 rfl) h2).sub (fun p hp => List.mem_append_right _ hp)⟩
def chain (U T : Rel) : Nat → Rel
  | 0 => U
  | n + 1 => rcomp (chain U T n) T
theorem LayOk.opts_ (hf : LayOk q f T) (h : GS q m a m1 [(z, U)] new) (ha : a < m.s) : ∀ n, ∃ zs new, GS q m a (opts f n ((m1, z), [z])).1.1 zs new ∧ zs.map (·.1) = (opts f n ((m1, z), [z])).2 ∧ ((opts f n ((m1, z), [z])).1.2, chain U T n) ∈ zs ∧ ∀ i j, unionR zs i j ↔ ∃ k, k ≤ n ∧ chain U T k i j
  | 0 => by
    refine ⟨[(z, U)], new, h, rfl, List.mem_singleton.2 rfl, fun i j => ⟨?_, ?_⟩⟩
    · rintro ⟨p, hp, h1⟩
      rw [List.mem_singleton] at hp
      subst hp
      exact ⟨0, Nat.le_refl _, h1⟩
    · rintro ⟨k, hk, h1⟩
      obtain rfl : k = 0 := by omega
      exact ⟨(z, U), List.mem_singleton.2 rfl, h1⟩
  | n + 1 => by
    obtain ⟨zs, nw, g, e1, e2, e3⟩ := LayOk.opts_ hf h ha n
    obtain ⟨n2, h2⟩ := hf (opts f n ((m1, z), [z])).1.1 (opts f n ((m1, z), [z])).1.2 (g.at_ _ e2)
    refine ⟨_, _, g.then_ ha e2 h2, ?_, List.mem_append_right _ (List.mem_singleton.2 rfl), fun i j => ⟨?_, ?_⟩⟩
    · rw [List.map_append, e1]
      rfl
    · rintro ⟨p, hp, h1⟩
      rcases List.mem_append.1 hp with hp | hp
      · obtain ⟨k, hk, h2⟩ := (e3 i j).1 ⟨p, hp, h1⟩
        exact ⟨k, by omega, h2⟩
      · rw [List.mem_singleton] at hp
        subst hp
        exact ⟨n + 1, Nat.le_refl _, h1⟩
    · rintro ⟨k, hk, h1⟩
      by_cases hkn : k ≤ n
      · obtain ⟨p, hp, h2⟩ := (e3 i j).2 ⟨k, hkn, h1⟩
        exact ⟨p, List.mem_append_left _ hp, h2⟩
      · obtain rfl : k = n + 1 := by omega
        exact ⟨_, List.mem_append_right _ (List.mem_singleton.2 rfl), h1⟩
def star (T : Rel) : Rel := fun i j => ∃ k, riter T k i j
theorem riter_in {n : Nat} {T : Rel} (h : InR n T) : ∀ k, InR n (riter T k)
  | 0 => fun i j hi e => by simp only [riter] at e; omega
  | k + 1 => fun i j hi ⟨x, h1, h2⟩ => h x j (riter_in h k i x hi h1) h2
/-- a loop behind a state -/
theorem LayOk.loop (hf : LayOk q f T) (h : GS q m a m1 [(z, U)] new) (ha : a < m.s) : ∃ new', GS q m a (((f (m1.new.free z m1.s) m1.s).1.free (f (m1.new.free z m1.s) m1.s).2 m1.s).joined [m1.s]).1 [((((f (m1.new.free z m1.s) m1.s).1.free (f (m1.new.free z m1.s) m1.s).2 m1.s).joined [m1.s]).2, rcomp U (star T))] new' := by
  obtain ⟨n2, h2⟩ := hf (m1.new.free z m1.s) m1.s (by show m1.s < m1.s + 1; omega)
  obtain ⟨P, hP⟩ : ∃ P, f (m1.new.free z m1.s) m1.s = P := ⟨_, rfl⟩
  rw [hP] at h2 ⊢
  obtain ⟨m2, z2⟩ := P
  simp only at h2 ⊢
  have hzl : z < m1.s := h.at_ (z, U) (by simp)
  have hz2 : z2 < m2.s := h2.at_ (z2, T) (by simp)
  have hg1 := h.grow
  have hg2 : m1.s + 1 ≤ m2.s := h2.grow
  have hrT : InR q.size T := h2.rg (z2, T) (by simp)
  have hrU : InR q.size U := h.rg (z, U) (by simp)
  have hrS : InR q.size (rcomp U (star T)) := fun i j hi ⟨x, k1, k, k2⟩ => riter_in hrT k x j (hrU i x hi k1) k2
  have hs : ((m2.free z2 m1.s).joined [m1.s]).1.s = m2.s + 1 := joined_s _ _
  have he : ((m2.free z2 m1.s).joined [m1.s]).1.e = m.e ++ (new ++ ⟨1, z, m1.s, 0⟩ :: (n2 ++ [⟨1, z2, m1.s, 0⟩, ⟨1, m1.s, m2.s, 0⟩])) := by
    unfold Ly.joined
    rw [frees_list]
    show (m2.e ++ [(⟨1, z2, m1.s, 0⟩ : Edg)]) ++ _ = _
    rw [h2.e]
    show ((m1.e ++ [(⟨1, z, m1.s, 0⟩ : Edg)]) ++ n2 ++ _) ++ _ = _
    rw [h.e]
    simp [Ly.free, Ly.edge]
  have hz3 : ((m2.free z2 m1.s).joined [m1.s]).2 = m2.s := rfl
  rw [hz3]
  refine ⟨_, by rw [hs]; omega, he, fun p hp => ?_, fun p hp => ?_, fun e he => ?_, fun L0 h0 => ?_, fun L hL p hp i j hi hai hij => ?_⟩
  · rw [List.mem_singleton] at hp; subst hp; rw [hs]; simp
  · rw [List.mem_singleton] at hp; subst hp; exact hrS
  · rw [hs]
    rcases List.mem_append.1 he with he | he
    · have := h.bnd e he; omega
    rcases List.mem_cons.1 he with he | he
    · subst he; simp; omega
    rcases List.mem_append.1 he with he | he
    · have := h2.bnd e he; omega
    simp only [List.mem_cons, List.not_mem_nil, or_false] at he
    rcases he with he | he
    · subst he; simp; omega
    · subst he; simp; omega
  · obtain ⟨L1, b1, b2, b3, b4⟩ := h.sound L0 h0
    obtain ⟨K, hKn, hKo⟩ : ∃ L : Lab, (∀ j, L m1.s j ↔ ∃ i, L0 a i ∧ rcomp U (star T) i j) ∧ ∀ s, s ≠ m1.s → L s = L1 s := ⟨fun s j => if s = m1.s then ∃ i, L0 a i ∧ rcomp U (star T) i j else L1 s j, fun j => by simp, fun s hs => by funext j; simp [hs]⟩
    obtain ⟨L2, c1, c2, c3, c4⟩ := h2.sound K (fun s i hs => by
      by_cases e : s = m1.s
      · rw [e] at hs
        obtain ⟨x, k1, k2⟩ := (hKn i).1 hs
        exact hrS x i (h0 a x k1) k2
      · rw [hKo s e] at hs
        exact b1 s i hs)
    have c2' : ∀ s, s < m1.s + 1 → L2 s = K s := c2
    obtain ⟨L, hLn, hLo⟩ : ∃ L : Lab, (∀ j, L m2.s j ↔ ∃ i, L0 a i ∧ rcomp U (star T) i j) ∧ ∀ s, s ≠ m2.s → L s = L2 s := ⟨fun s j => if s = m2.s then ∃ i, L0 a i ∧ rcomp U (star T) i j else L2 s j, fun j => by simp, fun s hs => by funext j; simp [hs]⟩
    have old : ∀ s, s < m1.s → L s = L1 s := fun s hs => (hLo s (by omega)).trans ((c2' s (by omega)).trans (hKo s (by omega)))
    have mid : L m1.s = K m1.s := (hLo _ (by omega)).trans (c2' _ (by omega))
    refine ⟨L, fun s i hs => ?_, fun s hs => (old s (by omega)).trans (b2 s hs), fun e he => ?_, fun p hp j hj => ?_⟩
    · by_cases e : s = m2.s
      · rw [e] at hs
        obtain ⟨x, k1, k2⟩ := (hLn i).1 hs
        exact hrS x i (h0 a x k1) k2
      · rw [hLo s e] at hs
        exact c1 s i hs
    · rcases List.mem_append.1 he with he | he
      · have := h.bnd e he
        exact (b3 e he).agree (old _ this.1) (old _ this.2)
      rcases List.mem_cons.1 he with he | he
      · subst he
        refine ⟨fun _ i hi hL => ?_, fun k => by simp at k, fun k => by simp at k, fun k => by simp at k⟩
        have hL' : L z i := hL
        show L m1.s i
        rw [old z hzl] at hL'
        rw [mid]
        obtain ⟨x, k1, k2⟩ := b4 (z, U) (by simp) i hL'
        exact (hKn i).2 ⟨x, k1, i, k2, 0, rfl⟩
      rcases List.mem_append.1 he with he | he
      · have := h2.bnd e he
        exact (c3 e he).agree (hLo _ (by omega)) (hLo _ (by omega))
      simp only [List.mem_cons, List.not_mem_nil, or_false] at he
      rcases he with he | he
      · subst he
        refine ⟨fun _ i hi hL => ?_, fun k => by simp at k, fun k => by simp at k, fun k => by simp at k⟩
        have hL' : L z2 i := hL
        show L m1.s i
        rw [hLo z2 (by omega)] at hL'
        rw [mid]
        obtain ⟨x, k1, k2⟩ := c4 (z2, T) (by simp) i hL'
        obtain ⟨y, k3, v, k4, k, k5⟩ := (hKn x).1 k1
        exact (hKn i).2 ⟨y, k3, v, k4, k + 1, x, k5, k2⟩
      · subst he
        refine ⟨fun _ i hi hL => ?_, fun k => by simp at k, fun k => by simp at k, fun k => by simp at k⟩
        have hL' : L m1.s i := hL
        show L m2.s i
        rw [mid] at hL'
        exact (hLn i).2 ((hKn i).1 hL')
    · rw [List.mem_singleton] at hp
      subst hp
      exact (hLn j).1 hj
  · rw [List.mem_singleton] at hp
    subst hp
    obtain ⟨x, k1, k, k2⟩ := hij
    have e1 := h.comp L (fun e he => hL e (List.mem_append_left _ he)) (z, U) (by simp) i x hi hai k1
    have hx := hrU i x hi k1
    have e2 : L m1.s x := (hL ⟨1, z, m1.s, 0⟩ (by simp)).free rfl x hx e1
    have key : ∀ k j, riter T k x j → L m1.s j := by
      intro k
      induction k with
      | zero => intro j hj; simp only [riter] at hj; rw [← hj]; exact e2
      | succ k ih =>
        rintro j ⟨y, y1, y2⟩
        have hy := riter_in hrT k x y hx y1
        have e3 := h2.comp L (fun e he => hL e (List.mem_append_right _ (List.mem_cons_of_mem _ (List.mem_append_left _ he)))) (z2, T) (by simp) y j hy (ih y y1) y2
        exact (hL ⟨1, z2, m1.s, 0⟩ (by simp)).free rfl j (hrT y j hy y2) e3
    have hj := riter_in hrT k x j hx k2
    exact (hL ⟨1, m1.s, m2.s, 0⟩ (by simp)).free rfl j hj (key k j k2)
end
end Mt
end Go.Proofs.Ytajainmldcnaeaa
namespace Go.Proofs.Ytajainmldcnaeaa
open Go.RowKit Go.Maps
set_option linter.unusedVariables false
set_option linter.unusedSimpArgs false
set_option linter.unnecessarySimpa false
section
variable {rw : Option Nat} {i0 : Nat}
def GKR (rw : Option Nat) (i0 : Nat) (S : Nat → GSpec) (i : Nat) (o : Oper) (a : Act) (w : World) : Act → World → Prop := fun a' w' => ∃ v, a' = a.put o.dst v ∧ (w.grownBy w' rw ∧ (i ≠ i0 → Below w.heap.size w w')) ∧ (S i).p v w'
def GStepR (rw : Option Nat) (i0 : Nat) (P : Program) (ops : Array Oper) (S : Nat → GSpec) (Q : Exit → Act → World → Prop) (i : Nat) (o : Oper) (a : Act) (w : World) : Prop :=
  if Region.wanted o (yielded ops a.tmps) = true then o.wp P a w (GKR rw i0 S i o a w) Q else (S i).p undef w

theorem getD_set_same' {l : Array Bool} {i : Nat} (h : i < l.size) : (l.setIfInBounds i true).getD i false = true := by simp [h]
structure GInvR (rw : Option Nat) (i0 : Nat) (ops : Array Oper) (n : Nat) (S : Nat → GSpec) (a0 : Act) (W0 : World) (listed : Array Bool) (a : Act) (w : World) : Prop where
  head : HeadInv .any ops n listed
  base : GBase ops n a0 a
  below : W0.grownBy w rw
  pure_ : listed.getD i0 false = false → Below W0.heap.size W0 w
  done : ∀ j, j < n → listed.getD j false = true → opOk ops S a w j

theorem wpAny_growR {P : Program} {ops : Array Oper} {n : Nat} {S : Nat → GSpec} {Q : Exit → Act → World → Prop} {a0 : Act} {W0 : World} (hkp : ∀ j, j ≠ i0 → ∀ v w w', (S j).p v w → w.grownBy w' rw → (S j).p v w') (hB : growB ops n a0.tmps.size = true)
    (hstep : ∀ i o, i < n → ops[i]? = some o → ∀ a w, GBase ops n a0 a → W0.grownBy w rw → (i = i0 → Below W0.heap.size W0 w) → (∀ e ∈ o.after, Region.binds .any e = true → opOk ops S a w e.on) → GStepR rw i0 P ops S Q i o a w)
    (hend : ∀ a w, GBase ops n a0 a → W0.grownBy w rw → (∀ j, j < n → opOk ops S a w j) → wpList P ops Q (ops.toList.drop n) a w) :
    ∀ (m : Nat) (listed : Array Bool) (a : Act) (w : World), GInvR rw i0 ops n S a0 W0 listed a w → unl n listed = m → wpAny P .any ops Q (m + (ops.size - n)) listed a w := by
  simp only [growB, Bool.and_eq_true, Bool.or_eq_true, decide_eq_true_eq] at hB
  obtain ⟨⟨⟨⟨⟨hn, hdup⟩, hlt⟩, hedge⟩, htail⟩, hseq⟩ := hB
  have hedge' : ∀ i o, i < n → ops[i]? = some o → ∀ e ∈ o.after, Region.binds .any e = true → e.on < i := by
    intro i o hi ho e he hb
    have h1 := List.all_eq_true.1 hedge i (List.mem_range.2 hi)
    simp only [ho] at h1
    have h2 := (Array.all_eq_true_iff_forall_mem.1 h1) e he
    simpa [hb] using h2
  have hready : ∀ (listed : Array Bool) (a : Act) (w : World), GInvR rw i0 ops n S a0 W0 listed a w → 0 < unl n listed → ∀ j ∈ Region.ready .any ops listed, j < n := by
    intro listed a w inv hpos j hj
    rcases htail with he | ⟨hs, hc⟩
    · obtain ⟨_, o, ho, _⟩ := mem_ready.1 hj
      have := (Array.getElem?_eq_some_iff.1 ho).1
      omega
    · rcases Nat.lt_or_ge n ops.size with hlt' | hge
      · unfold unl at hpos
        obtain ⟨i, hi⟩ := List.exists_mem_of_length_pos hpos
        simp only [List.mem_filter, List.mem_range, Bool.not_eq_true'] at hi
        have hun : listed.getD i true = false := getD_in (by rw [inv.head.size]; omega) hi.2
        rcases Nat.lt_or_ge j n with h | h
        · exact h
        · exact absurd hj (tail_waits hs hc hlt' inv.head _ i rfl hi.1 hun j h)
      · obtain ⟨_, o, ho, _⟩ := mem_ready.1 hj
        have := (Array.getElem?_eq_some_iff.1 ho).1
        omega
  have hne : ∀ (listed : Array Bool) (a : Act) (w : World), GInvR rw i0 ops n S a0 W0 listed a w → 0 < unl n listed → Region.ready .any ops listed ≠ [] := by
    intro listed a w inv hpos hnil
    have hex : ∃ i, i < n ∧ listed.getD i false = false := by
      unfold unl at hpos
      obtain ⟨i, hi⟩ := List.exists_mem_of_length_pos hpos
      simp only [List.mem_filter, List.mem_range, Bool.not_eq_true'] at hi
      exact ⟨i, hi.1, hi.2⟩
    have hmin : ∃ i, i < n ∧ listed.getD i false = false ∧ ∀ k, k < i → listed.getD k false = true := by
      obtain ⟨i, hi, hf⟩ := hex
      clear hpos
      induction i using Nat.strongRecOn with
      | _ i ih =>
        by_cases h : ∃ k, k < i ∧ listed.getD k false = false
        · obtain ⟨k, hk, hkf⟩ := h
          exact ih k hk (by omega) hkf
        · refine ⟨i, hi, hf, fun k hk => ?_⟩
          cases hc : listed.getD k false with
          | true => rfl
          | false => exact absurd ⟨k, hk, hc⟩ h
    obtain ⟨i, hi, hf, hall⟩ := hmin
    have ho : ops[i]? = some ops[i] := Array.getElem?_eq_getElem (by omega)
    have hmem : i ∈ Region.ready .any ops listed := mem_ready.2 ⟨getD_in (by rw [inv.head.size]; omega) hf, _, ho, fun e he hb => hall _ (hedge' i _ hi ho e he hb)⟩
    rw [hnil] at hmem
    cases hmem
  intro m
  induction m with
  | zero =>
    intro listed a w inv hm
    have hall : ∀ j, j < n → listed.getD j false = true := by
      intro j hj
      cases hc : listed.getD j false with
      | true => rfl
      | false => have := unl_pos hj hc; omega
    have hlist : listed = headTrue n (ops.size - n) := by
      have hsz := inv.head.size
      apply Array.ext
      · simp [headTrue, hsz]; omega
      · intro j h1 h2
        have hj : j < ops.size := by rw [← hsz]; exact h1
        simp only [headTrue, List.getElem_toArray, List.getElem_append, List.length_replicate, List.getElem_replicate]
        by_cases hjn : j < n
        · have := hall j hjn
          simp [h1] at this
          simp [hjn, this]
        · have := inv.head.tail j (by omega) hj
          simp [h1] at this
          simp [hjn, this]
    have hw := hend a w inv.base inv.below (fun j hj => inv.done j hj (hall j hj))
    have hdl : (ops.toList.drop n).length = ops.size - n := by simp
    have := wpAny_of_seq (md := .any) (Q' := Q) (ops.toList.drop n) n listed a w (fun j => by simp [List.getElem?_drop]) (by rw [hdl, hlist]; exact hseq) hw
    rw [hdl] at this
    rw [Nat.zero_add]
    exact this
  | succ m ih =>
    intro listed a w inv hm
    rw [show m + 1 + (ops.size - n) = (m + (ops.size - n)) + 1 by omega]
    refine ⟨fun h => absurd h (hne listed a w inv (by omega)), fun i hi => ?_⟩
    have hin := hready listed a w inv (by omega) i hi
    obtain ⟨hun, o, ho, hall⟩ := mem_ready.1 hi
    have hlisted : listed.getD i false = false := getD_both hun
    have hg := hstep i o hin ho a w inv.base inv.below (fun e => inv.pure_ (e ▸ hlisted)) (fun e he hb => inv.done e.on (by have := hedge' i o hin ho e he hb; omega) (hall e he hb))
    have hsz : i < listed.size := by rw [inv.head.size]; omega
    have hnext : ∀ a' w', GKR rw i0 S i o a w a' w' → wpAny P .any ops Q (m + (ops.size - n)) (listed.setIfInBounds i true) a' w' := by
      rintro a' w' ⟨v, rfl, hb, hp⟩
      refine ih _ _ _ ⟨inv.head.set hi hin, ⟨by rw [put_defers]; exact inv.base.defers, by rw [put_size]; exact inv.base.size, fun t ht => ?_⟩, inv.below.trans hb.1, fun hl0 => (by
        have hne : i ≠ i0 := fun e => by
          subst e
          rw [getD_set_same' hsz] at hl0
          cases hl0
        rw [getD_set_ne false hne] at hl0
        have k1 := inv.pure_ hl0
        exact k1.trans ((hb.2 hne).mono k1.size)), fun j hj hl d hd => ?_⟩ (by have := unl_set hin hsz hlisted; omega)
      · cases hd : o.dst with
        | none => exact inv.base.other t ht
        | some d =>
          have hmem : d ∈ headDsts ops n := List.mem_filterMap.2 ⟨o, by
            rw [List.mem_iff_getElem?]
            exact ⟨i, by rw [List.getElem?_take]; simp [hin, ho]⟩, hd⟩
          have hne : d ≠ t := by
            rintro rfl
            rw [List.contains_eq_mem] at ht
            simp [hmem] at ht
          rw [put_getD_ne hne]
          exact inv.base.other t ht
      · by_cases hij : i = j
        · subst hij
          rw [ho] at hd
          simp only [Option.bind_some] at hd
          rw [hd]
          have hmem : d ∈ headDsts ops n := List.mem_filterMap.2 ⟨o, by
            rw [List.mem_iff_getElem?]
            exact ⟨i, by rw [List.getElem?_take]; simp [hin, ho]⟩, hd⟩
          have hdl : d < a.tmps.size := by
            have := List.all_eq_true.1 hlt d hmem
            rw [inv.base.size]; simpa using this
          rw [put_getD_same hdl]
          exact hp
        · rw [getD_set_ne false hij] at hl
          have hold := inv.done j hj hl d hd
          have hkeep : (a.put o.dst v).tmps.getD d undef = a.tmps.getD d undef := by
            cases hod : o.dst with
            | none => rfl
            | some e =>
              apply put_getD_ne
              rintro rfl
              cases hoj : ops[j]? with
              | none => rw [hoj] at hd; cases hd
              | some oj =>
                rw [hoj] at hd
                simp only [Option.bind_some] at hd
                exact hij (noDup_spec _ hdup i j o oj e (by rw [List.getElem?_take]; simp [hin, ho]) (by rw [List.getElem?_take]; simp [hj, hoj]) hod hd)
          rw [hkeep]
          by_cases hj0 : j = i0
          · exact (S j).st _ _ _ hold (hb.2 (by omega))
          · exact hkp j hj0 _ _ _ hold hb.1
    unfold wpOp
    simp only [ho]
    unfold GStepR at hg
    split
    · rename_i hw
      rw [if_pos hw] at hg
      exact .inl (Oper.wp_mono hnext hg)
    · rename_i hw
      rw [if_neg hw] at hg
      exact hnext _ _ ⟨undef, rfl, ⟨World.grownBy.refl _ _, fun _ => Below.refl _ _⟩, hg⟩

/-- THE LAW. -/
theorem wp_region_growR {P : Program} {id : Nat} {l : List Oper} {Q : Exit → Act → World → Prop} {a : Act} {w : World} (n : Nat) (S : List GSpec) (hm : P.follows .mixedOrders = true) (hkp : ∀ j, j ≠ i0 → ∀ v w w', (specAt S j).p v w → w.grownBy w' rw → (specAt S j).p v w') (hB : growB l.toArray n a.tmps.size = true)
    (hstep : ∀ i o, i < n → l[i]? = some o → ∀ a' w', GBase l.toArray n a a' → w.grownBy w' rw → (i = i0 → Below w.heap.size w w') → (∀ e ∈ o.after, Region.binds .any e = true → opOk l.toArray (specAt S) a' w' e.on) → GStepR rw i0 P l.toArray (specAt S) Q i o a' w')
    (hend : ∀ (u : Nat → Value) w', w.grownBy w' rw → (∀ j d, j < n → (l[j]?).bind (·.dst) = some d → (specAt S j).p (u d) w') → wpList P l.toArray Q (l.drop n) (putAll a (headDsts l.toArray n) u) w') :
    (Code.region id l.toArray true).wp P Q a w := by
  refine wp_region_any hm ?_
  have hdr : ∀ {x : World}, w.grownBy x rw → w.drew.grownBy x rw := fun h => ⟨h.os, h.tape, h.output, h.size, h.block⟩
  have hrd : ∀ {x : World}, w.drew.grownBy x rw → w.grownBy x rw := fun h => ⟨h.os, h.tape, h.output, h.size, h.block⟩
  have hn : n ≤ l.length := by
    simp only [growB, Bool.and_eq_true, decide_eq_true_eq] at hB
    simpa using hB.1.1.1.1.1
  have key := wpAny_growR (P := P) (ops := l.toArray) (n := n) (S := specAt S) (Q := Q) (a0 := a) (W0 := w.drew) hkp hB
    (fun i o hi ho a' w' hb hw hp hd => hstep i o hi (by simpa using ho) a' w' hb (hrd hw) (fun e => ⟨(hp e).os, (hp e).tape, (hp e).output, (hp e).size, (hp e).block⟩) hd)
    (fun a' w' hb hw hd => by
      rw [act_eq hb]
      have := hend (fun d => a'.tmps.getD d undef) w' (hrd hw) (fun j d hj hd' => hd j hj d (by simpa using hd'))
      simpa using this)
    n (Array.replicate l.toArray.size false) a w.drew
    ⟨⟨by simp, fun j oj _ hl => (by rw [getD_replicate_false] at hl; cases hl), fun t _ ht => getD_in (by simpa using ht) (getD_replicate_false _ _)⟩, ⟨rfl, rfl, fun _ _ => rfl⟩, World.grownBy.refl _ _, fun _ => Below.refl _ _, fun j _ hl => (by rw [getD_replicate_false] at hl; cases hl)⟩
    (by
      unfold unl
      rw [List.filter_eq_self.2 (fun j _ => by rw [getD_replicate_false]; rfl), List.length_range])
  rw [show n + (l.toArray.size - n) = l.toArray.size by simp; omega] at key
  exact key

/-- the steps, one behind the other -/
def StepsR (rw : Option Nat) (i0 : Nat) (P : Program) (ops : Array Oper) (S : Nat → GSpec) (Q : Exit → Act → World → Prop) (n : Nat) (a : Act) (w : World) : List Oper → Nat → Prop
  | [], _ => True
  | o :: l, i => (∀ a' w', GBase ops n a a' → w.grownBy w' rw → (i = i0 → Below w.heap.size w w') → (∀ j, (o.after.toList.any fun e => Region.binds .any e && e.on == j) = true → opOk ops S a' w' j) → GStepR rw i0 P ops S Q i o a' w') ∧ StepsR rw i0 P ops S Q n a w l (i + 1)
theorem StepsR.nil {P : Program} {ops : Array Oper} {S : Nat → GSpec} {Q : Exit → Act → World → Prop} {n : Nat} {a : Act} {w : World} {i : Nat} : StepsR rw i0 P ops S Q n a w [] i := trivial
theorem StepsR.cons {P : Program} {ops : Array Oper} {S : Nat → GSpec} {Q : Exit → Act → World → Prop} {n : Nat} {a : Act} {w : World} {o : Oper} {l : List Oper} {i : Nat}
    (h : ∀ a' w', GBase ops n a a' → w.grownBy w' rw → (i = i0 → Below w.heap.size w w') → (∀ j, (o.after.toList.any fun e => Region.binds .any e && e.on == j) = true → opOk ops S a' w' j) → GStepR rw i0 P ops S Q i o a' w')
    (hl : StepsR rw i0 P ops S Q n a w l (i + 1)) : StepsR rw i0 P ops S Q n a w (o :: l) i := ⟨h, hl⟩
theorem StepsR.at_ {P : Program} {ops : Array Oper} {S : Nat → GSpec} {Q : Exit → Act → World → Prop} {n : Nat} {a : Act} {w : World} : ∀ {l : List Oper} {i : Nat}, StepsR rw i0 P ops S Q n a w l i → ∀ (k : Nat) (o : Oper), l[k]? = some o →
    ∀ a' w', GBase ops n a a' → w.grownBy w' rw → (i + k = i0 → Below w.heap.size w w') → (∀ j, (o.after.toList.any fun e => Region.binds .any e && e.on == j) = true → opOk ops S a' w' j) → GStepR rw i0 P ops S Q (i + k) o a' w'
  | [], _, _, k, o, hk => by simp at hk
  | o' :: l, i, h, k, o, hk => by
    rcases k with _ | k
    · simp only [List.getElem?_cons_zero, Option.some.injEq] at hk
      subst hk
      exact h.1
    · rw [List.getElem?_cons_succ] at hk
      have := StepsR.at_ h.2 k o hk
      rw [show i + (k + 1) = i + 1 + k by omega]
      exact this

/-- THE LAW, as it is used: S the answers, ds the head's slots. -/
theorem wp_region_stepsR {P : Program} {id : Nat} {l : List Oper} {Q : Exit → Act → World → Prop} {a : Act} {w : World} (n : Nat) (S : List GSpec) (ds : List Nat) (hm : P.follows .mixedOrders = true) (hkp : ∀ j, j ≠ i0 → ∀ v w w', (specAt S j).p v w → w.grownBy w' rw → (specAt S j).p v w') (hB : growB l.toArray n a.tmps.size = true)
    (hds : headDsts l.toArray n = ds) (hstep : StepsR rw i0 P l.toArray (specAt S) Q n a w (l.take n) 0)
    (hend : ∀ (u : Nat → Value) w', w.grownBy w' rw → (∀ j d, j < n → (l[j]?).bind (·.dst) = some d → (specAt S j).p (u d) w') → wpList P l.toArray Q (l.drop n) (putAll a ds u) w') :
    (Code.region id l.toArray true).wp P Q a w := by
  subst hds
  refine wp_region_growR n S hm hkp hB (fun i o hi ho a' w' hb hw hp hd => ?_) hend
  have := hstep.at_ i o (by rw [List.getElem?_take, if_pos hi]; exact ho) a' w' hb hw (by rw [Nat.zero_add]; exact hp) (fun j hj => by
    obtain ⟨e, he, hh⟩ := List.any_eq_true.1 hj
    simp only [Bool.and_eq_true, beq_iff_eq] at hh
    rw [← hh.2]
    exact hd e (Array.mem_toList_iff.1 he) hh.1)
  rw [Nat.zero_add] at this
  exact this

/-- a step that turns nothing -/
theorem GStepR.of {P : Program} {ops : Array Oper} {S : Nat → GSpec} {Q : Exit → Act → World → Prop} {i : Nat} {o : Oper} {a : Act} {w : World} (h : GStep P ops S Q i o a w) : GStepR rw i0 P ops S Q i o a w := by
  unfold GStep at h
  unfold GStepR
  split
  · rename_i hw
    rw [if_pos hw] at h
    refine Oper.wp_mono ?_ h
    rintro a' w' ⟨v, h1, h2, h3⟩
    exact ⟨v, h1, ⟨only_of_below h2 _, fun _ => h2⟩, h3⟩
  · rename_i hw
    rw [if_neg hw] at h
    exact h
/-- the step that turns the block -/
theorem GStepR.run {P : Program} {ops : Array Oper} {S : Nat → GSpec} {Q : Exit → Act → World → Prop} {o : Oper} {a : Act} {w : World} (hw : Region.wanted o (yielded ops a.tmps) = true) {v : Value} {w' : World} (hr : (execOp a.eval o).run P w = .ok (.value v) w') (hg : w.grownBy w' rw) (hp : (S i0).p v w') : GStepR rw i0 P ops S Q i0 o a w := by
  unfold GStepR
  rw [if_pos hw]
  unfold Oper.wp
  rw [hr]
  exact ⟨v, rfl, ⟨hg, fun h => (h rfl).elim⟩, hp⟩
end
end Go.Proofs.Ytajainmldcnaeaa
namespace Go.Proofs.Ytajainmldcnaeaa
open Go.RowKit Go.Maps
set_option linter.unusedVariables false
set_option linter.unusedSimpArgs false
attribute [local go_sem] Oper.semAt_some

theorem bare_any (kd : Int) (st : BSet) (A : Option Addr) (n c : Nat) (mi ma : Int) (w : World) :
    Calls Try.prog 61 #[.agg (nodeC kd st A n c mi ma)] w fun e w' => e = .returned (.bool (decide (mi = 0) && decide (ma = 0))) ∧ Below w.heap.size w w' := by
  go_enter Try.func61, Try.ntmps61
  have h1 := Blk.new w 27 (nodeC kd st A n c mi ma)
  have hB1 : Below w.heap.size w (w.alloc (.cells (nodeC kd st A n c mi ma) 27)) := below_alloc (Below.refl _ _) _
  go_upto_region 1 with (fail)
  obtain ⟨W1, hW1⟩ : ∃ y, y = w.alloc (.cells (nodeC kd st A n c mi ma) 27) := ⟨_, rfl⟩
  rw [← hW1] at h1 hB1 ⊢
  clear hW1
  have c6 : W1.cell? ⟨w.heap.size, 6, none⟩ = some (.int .i64 mi) := h1.cellv (i := 6) rfl
  have c7 : W1.cell? ⟨w.heap.size, 7, none⟩ = some (.int .i64 ma) := h1.cellv (i := 7) rfl
  by_cases e1 : mi = 0
  · subst e1
    by_cases e2 : ma = 0
    · subst e2
      go_wp2_with (fail)
      go_ret
      exact ⟨rfl, hB1⟩
    · have e3 : (ma == 0) = false := by simpa using e2
      go_wp2_with (fail)
      go_ret
      exact ⟨by simp [e2], hB1⟩
  · have e3 : (mi == 0) = false := by simpa using e1
    go_wp2_with (fail)
    go_ret
    exact ⟨by simp [e1], hB1⟩
theorem five_t {st : BSet} {n : Nat} {mi ma : Int} {z a1 a2 a3 a4 a5 a6 : Bool} (hz : decide (st = 0) = z) (g1 : (((n : Nat) : Int) == 1) = a1) (g2 : decide ((0 : Int) ≤ mi) = a2) (g3 : decide (mi ≤ (255 : Int)) = a3) (g4 : decide (ma ≤ (255 : Int)) = a4) (g5 : (ma == (-1 : Int)) = a5) (g6 : decide (mi ≤ ma) = a6) :
    (((((z && a1) && a2) && a3) && a4) && (a5 || a6)) = headOk 5 st n mi ma := by
  rw [headOk_5 hz, Bool.eq_iff_iff]
  subst g1 g2 g3 g4 g5 g6
  simp only [Bool.and_eq_true, Bool.or_eq_true, beq_iff_eq, decide_eq_true_eq]
  constructor
  · rintro ⟨⟨⟨⟨⟨h0, h1⟩, h2⟩, h3⟩, h4⟩, h5⟩
    exact ⟨⟨⟨⟨h0, by omega⟩, h2⟩, h3⟩, by omega⟩
  · rintro ⟨⟨⟨⟨h0, h1⟩, h2⟩, h3⟩, h4⟩
    exact ⟨⟨⟨⟨⟨h0, by omega⟩, h2⟩, h3⟩, by omega⟩, by omega⟩
set_option maxRecDepth 100000 in
set_option maxHeartbeats 40000000 in
theorem isTree_any (nd : Nd) : ∀ (B : Nat) (w : World) (cs : Array Value), NdIn w B nd cs → B ≤ w.heap.size →
    Calls Try.prog 43 #[.agg cs] w fun e w' => e = .returned (.bool nd.isT) ∧ Below w.heap.size w w' := by
  induction nd using Nd.ind with
  | h kd st l mi ma ih =>
  intro B w cs hin hB
  obtain ⟨A, n, c, cl, rfl, hn, hcl, hmax, hs, hr⟩ := hin.inv
  have hh : (Nd.mk kd st l mi ma).isT = (headOk kd st n mi ma && l.all Nd.isT) := by rw [hn]; simp only [Nd.isT, Nd.areT_all]
  rw [hh]
  have Hn := Lib.hid hn
  have Hcl := Lib.hid hcl
  have Hr := Lib.hid hr
  have Ih := Lib.hid ih
  clear hn hcl hr ih hh hin
  go_enter Try.func43, Try.ntmps43
  have h1 := Blk.new w 27 (nodeC kd st A n c mi ma)
  have hB1 : Below w.heap.size w (w.alloc (.cells (nodeC kd st A n c mi ma) 27)) := below_alloc (Below.refl _ _) _
  go_upto_region 1 with (fail)
  obtain ⟨W1, hW1⟩ : ∃ y, y = w.alloc (.cells (nodeC kd st A n c mi ma) 27) := ⟨_, rfl⟩
  rw [← hW1] at h1 hB1 ⊢
  clear hW1
  have hl1 := h1.lt
  have c0 : W1.cell? ⟨w.heap.size, 0, none⟩ = some (.int .i64 kd) := h1.cellv (i := 0) rfl
  obtain ⟨z, hz⟩ : ∃ z, decide (st = (0 : BSet)) = z := ⟨_, rfl⟩
  have Hz := Lib.hid hz
  clear hz
  go_upto_block 0 with (first | (refine wl_load_set_at rfl _ rfl _ _ rfl _ (node_st h1) ?_) | (refine wl_build_set0 rfl rfl ?_) | (refine wl_eql_setz rfl _ _ _ rfl _ _ rfl rfl z Hz.out ?_))
  go_cut [4] from 13 to 93 (fun v wx => v = .bool (headOk kd st n mi ma) ∧ Below W1.heap.size W1 wx)
  case first =>
    have c5 : W1.cell? ⟨w.heap.size, 5, none⟩ = some (.slice A n c) := h1.cellv (i := 5) rfl
    have c6 : W1.cell? ⟨w.heap.size, 6, none⟩ = some (.int .i64 mi) := h1.cellv (i := 6) rfl
    have c7 : W1.cell? ⟨w.heap.size, 7, none⟩ = some (.int .i64 ma) := h1.cellv (i := 7) rfl
    by_cases k167 : kd = 1 ∨ kd = 6 ∨ kd = 7
    · rcases k167 with rfl | rfl | rfl
      · go_upto_region 7 with (fail)
        cases z
        · go_wp2_with (first | (refine wl_load_node_g (want_yes rfl rfl rfl) _ rfl _ rfl _ _ _ _ _ _ _ h1 ?_) | (refine wl_load_set_at rfl _ rfl _ _ rfl _ (node_st h1) ?_) | (go_at_call 61; refine (bare_any _ _ _ _ _ _ _ _).mono ?_; rintro e w5 ⟨rfl, hB5⟩) | (go_at_call 62; refine (HH.out _).mono ?_; rintro e w5 ⟨rfl, hB5⟩))
          go_meet
          exact ⟨congrArg Value.bool (Eq.trans (by simp) (headOk_1 (by omega) Hz.out _ _ _).symm), Below.refl _ _⟩
        · by_cases hn0 : n = 0
          · subst hn0
            go_wp2_with (first | (refine wl_load_node_g (want_yes rfl rfl rfl) _ rfl _ rfl _ _ _ _ _ _ _ h1 ?_) | (refine wl_load_set_at rfl _ rfl _ _ rfl _ (node_st h1) ?_) | (go_at_call 61; refine (bare_any _ _ _ _ _ _ _ _).mono ?_; rintro e w5 ⟨rfl, hB5⟩) | (go_at_call 62; refine (HH.out _).mono ?_; rintro e w5 ⟨rfl, hB5⟩))
            go_meet
            exact ⟨congrArg Value.bool (Eq.trans (by simp) (headOk_1 (by omega) Hz.out _ _ _).symm), hB5⟩
          · have hnI : ((n : Int) == 0) = false := by simpa using hn0
            go_wp2_with (first | (refine wl_load_node_g (want_yes rfl rfl rfl) _ rfl _ rfl _ _ _ _ _ _ _ h1 ?_) | (refine wl_load_set_at rfl _ rfl _ _ rfl _ (node_st h1) ?_) | (go_at_call 61; refine (bare_any _ _ _ _ _ _ _ _).mono ?_; rintro e w5 ⟨rfl, hB5⟩) | (go_at_call 62; refine (HH.out _).mono ?_; rintro e w5 ⟨rfl, hB5⟩))
            go_meet
            exact ⟨congrArg Value.bool (Eq.trans (by simp [hn0]) (headOk_1 (by omega) Hz.out _ _ _).symm), Below.refl _ _⟩
      · go_upto_region 7 with (fail)
        cases z
        · go_wp2_with (first | (refine wl_load_node_g (want_yes rfl rfl rfl) _ rfl _ rfl _ _ _ _ _ _ _ h1 ?_) | (refine wl_load_set_at rfl _ rfl _ _ rfl _ (node_st h1) ?_) | (go_at_call 61; refine (bare_any _ _ _ _ _ _ _ _).mono ?_; rintro e w5 ⟨rfl, hB5⟩) | (go_at_call 62; refine (HH.out _).mono ?_; rintro e w5 ⟨rfl, hB5⟩))
          go_meet
          exact ⟨congrArg Value.bool (Eq.trans (by simp) (headOk_1 (by omega) Hz.out _ _ _).symm), Below.refl _ _⟩
        · by_cases hn0 : n = 0
          · subst hn0
            go_wp2_with (first | (refine wl_load_node_g (want_yes rfl rfl rfl) _ rfl _ rfl _ _ _ _ _ _ _ h1 ?_) | (refine wl_load_set_at rfl _ rfl _ _ rfl _ (node_st h1) ?_) | (go_at_call 61; refine (bare_any _ _ _ _ _ _ _ _).mono ?_; rintro e w5 ⟨rfl, hB5⟩) | (go_at_call 62; refine (HH.out _).mono ?_; rintro e w5 ⟨rfl, hB5⟩))
            go_meet
            exact ⟨congrArg Value.bool (Eq.trans (by simp) (headOk_1 (by omega) Hz.out _ _ _).symm), hB5⟩
          · have hnI : ((n : Int) == 0) = false := by simpa using hn0
            go_wp2_with (first | (refine wl_load_node_g (want_yes rfl rfl rfl) _ rfl _ rfl _ _ _ _ _ _ _ h1 ?_) | (refine wl_load_set_at rfl _ rfl _ _ rfl _ (node_st h1) ?_) | (go_at_call 61; refine (bare_any _ _ _ _ _ _ _ _).mono ?_; rintro e w5 ⟨rfl, hB5⟩) | (go_at_call 62; refine (HH.out _).mono ?_; rintro e w5 ⟨rfl, hB5⟩))
            go_meet
            exact ⟨congrArg Value.bool (Eq.trans (by simp [hn0]) (headOk_1 (by omega) Hz.out _ _ _).symm), Below.refl _ _⟩
      · go_upto_region 7 with (fail)
        cases z
        · go_wp2_with (first | (refine wl_load_node_g (want_yes rfl rfl rfl) _ rfl _ rfl _ _ _ _ _ _ _ h1 ?_) | (refine wl_load_set_at rfl _ rfl _ _ rfl _ (node_st h1) ?_) | (go_at_call 61; refine (bare_any _ _ _ _ _ _ _ _).mono ?_; rintro e w5 ⟨rfl, hB5⟩) | (go_at_call 62; refine (HH.out _).mono ?_; rintro e w5 ⟨rfl, hB5⟩))
          go_meet
          exact ⟨congrArg Value.bool (Eq.trans (by simp) (headOk_1 (by omega) Hz.out _ _ _).symm), Below.refl _ _⟩
        · by_cases hn0 : n = 0
          · subst hn0
            go_wp2_with (first | (refine wl_load_node_g (want_yes rfl rfl rfl) _ rfl _ rfl _ _ _ _ _ _ _ h1 ?_) | (refine wl_load_set_at rfl _ rfl _ _ rfl _ (node_st h1) ?_) | (go_at_call 61; refine (bare_any _ _ _ _ _ _ _ _).mono ?_; rintro e w5 ⟨rfl, hB5⟩) | (go_at_call 62; refine (HH.out _).mono ?_; rintro e w5 ⟨rfl, hB5⟩))
            go_meet
            exact ⟨congrArg Value.bool (Eq.trans (by simp) (headOk_1 (by omega) Hz.out _ _ _).symm), hB5⟩
          · have hnI : ((n : Int) == 0) = false := by simpa using hn0
            go_wp2_with (first | (refine wl_load_node_g (want_yes rfl rfl rfl) _ rfl _ rfl _ _ _ _ _ _ _ h1 ?_) | (refine wl_load_set_at rfl _ rfl _ _ rfl _ (node_st h1) ?_) | (go_at_call 61; refine (bare_any _ _ _ _ _ _ _ _).mono ?_; rintro e w5 ⟨rfl, hB5⟩) | (go_at_call 62; refine (HH.out _).mono ?_; rintro e w5 ⟨rfl, hB5⟩))
            go_meet
            exact ⟨congrArg Value.bool (Eq.trans (by simp [hn0]) (headOk_1 (by omega) Hz.out _ _ _).symm), Below.refl _ _⟩
    by_cases k2 : kd = 2
    · subst k2
      have hh := fun W => has_any st 10 (by omega) W
      obtain ⟨q, hq⟩ : ∃ q, st.getLsbD 10 = q := ⟨_, rfl⟩
      rw [hq] at hh
      have HH := Lib.hid hh
      have Hq := Lib.hid hq
      clear hh hq
      have hc5 := fun w' (hb : Below W1.heap.size W1 w') => (blk_then h1 hb).cellv (i := 5) (v := .slice A n c) rfl
      have Hc5 := Lib.hid hc5
      clear hc5 c5
      go_upto_region 9 with (fail)
      cases q
      · by_cases hn0 : n = 0
        · subst hn0
          go_wp2_with (first | (refine wl_load_set_at rfl _ rfl _ _ rfl _ (node_st h1) ?_) | (go_at_call 62; refine (HH.out _).mono ?_; rintro e w5 ⟨rfl, hB5⟩; have c5 := Hc5.out _ hB5; replace h1 := blk_then h1 hB5) | (refine wl_load_node_g (want_yes rfl rfl rfl) _ rfl _ rfl _ _ _ _ _ _ _ h1 ?_) | (go_at_call 61; refine (bare_any _ _ _ _ _ _ _ _).mono ?_; rintro e w6 ⟨rfl, hB6⟩))
          go_meet
          exact ⟨congrArg Value.bool (Eq.trans (by simp) (headOk_2 Hq.out _ _ _).symm), below_then hB5 hB6⟩
        · have hnI : ((n : Int) == 0) = false := by simpa using hn0
          go_wp2_with (first | (refine wl_load_set_at rfl _ rfl _ _ rfl _ (node_st h1) ?_) | (go_at_call 62; refine (HH.out _).mono ?_; rintro e w5 ⟨rfl, hB5⟩; have c5 := Hc5.out _ hB5; replace h1 := blk_then h1 hB5) | (refine wl_load_node_g (want_yes rfl rfl rfl) _ rfl _ rfl _ _ _ _ _ _ _ h1 ?_) | (go_at_call 61; refine (bare_any _ _ _ _ _ _ _ _).mono ?_; rintro e w6 ⟨rfl, hB6⟩))
          go_meet
          exact ⟨congrArg Value.bool (Eq.trans (by simp [hn0]) (headOk_2 Hq.out _ _ _).symm), hB5⟩
      · go_wp2_with (first | (refine wl_load_set_at rfl _ rfl _ _ rfl _ (node_st h1) ?_) | (go_at_call 62; refine (HH.out _).mono ?_; rintro e w5 ⟨rfl, hB5⟩; have c5 := Hc5.out _ hB5; replace h1 := blk_then h1 hB5) | (refine wl_load_node_g (want_yes rfl rfl rfl) _ rfl _ rfl _ _ _ _ _ _ _ h1 ?_) | (go_at_call 61; refine (bare_any _ _ _ _ _ _ _ _).mono ?_; rintro e w6 ⟨rfl, hB6⟩))
        go_meet
        exact ⟨congrArg Value.bool (Eq.trans (by simp) (headOk_2 Hq.out _ _ _).symm), hB5⟩
    by_cases k34 : kd = 3 ∨ kd = 4
    · rcases k34 with rfl | rfl
      · go_upto_region 12 with (fail)
        cases z
        · go_wp2_with (first | (refine wl_load_node_g (want_yes rfl rfl rfl) _ rfl _ rfl _ _ _ _ _ _ _ h1 ?_) | (refine wl_load_set_at rfl _ rfl _ _ rfl _ (node_st h1) ?_) | (go_at_call 61; refine (bare_any _ _ _ _ _ _ _ _).mono ?_; rintro e w5 ⟨rfl, hB5⟩) | (go_at_call 62; refine (HH.out _).mono ?_; rintro e w5 ⟨rfl, hB5⟩))
          go_meet
          exact ⟨congrArg Value.bool (Eq.trans (by simp) (headOk_3 (by omega) Hz.out _ _ _).symm), Below.refl _ _⟩
        · by_cases hn2 : 2 ≤ n
          · have hnI : decide (2 ≤ (n : Int)) = true := by simp; omega
            go_wp2_with (first | (refine wl_load_node_g (want_yes rfl rfl rfl) _ rfl _ rfl _ _ _ _ _ _ _ h1 ?_) | (refine wl_load_set_at rfl _ rfl _ _ rfl _ (node_st h1) ?_) | (go_at_call 61; refine (bare_any _ _ _ _ _ _ _ _).mono ?_; rintro e w5 ⟨rfl, hB5⟩) | (go_at_call 62; refine (HH.out _).mono ?_; rintro e w5 ⟨rfl, hB5⟩))
            go_meet
            exact ⟨congrArg Value.bool (Eq.trans (by simp [hn2]) (headOk_3 (by omega) Hz.out _ _ _).symm), hB5⟩
          · have hnI : decide (2 ≤ (n : Int)) = false := by simp; omega
            go_wp2_with (first | (refine wl_load_node_g (want_yes rfl rfl rfl) _ rfl _ rfl _ _ _ _ _ _ _ h1 ?_) | (refine wl_load_set_at rfl _ rfl _ _ rfl _ (node_st h1) ?_) | (go_at_call 61; refine (bare_any _ _ _ _ _ _ _ _).mono ?_; rintro e w5 ⟨rfl, hB5⟩) | (go_at_call 62; refine (HH.out _).mono ?_; rintro e w5 ⟨rfl, hB5⟩))
            go_meet
            exact ⟨congrArg Value.bool (Eq.trans (by simp [hn2]) (headOk_3 (by omega) Hz.out _ _ _).symm), Below.refl _ _⟩
      · go_upto_region 12 with (fail)
        cases z
        · go_wp2_with (first | (refine wl_load_node_g (want_yes rfl rfl rfl) _ rfl _ rfl _ _ _ _ _ _ _ h1 ?_) | (refine wl_load_set_at rfl _ rfl _ _ rfl _ (node_st h1) ?_) | (go_at_call 61; refine (bare_any _ _ _ _ _ _ _ _).mono ?_; rintro e w5 ⟨rfl, hB5⟩) | (go_at_call 62; refine (HH.out _).mono ?_; rintro e w5 ⟨rfl, hB5⟩))
          go_meet
          exact ⟨congrArg Value.bool (Eq.trans (by simp) (headOk_3 (by omega) Hz.out _ _ _).symm), Below.refl _ _⟩
        · by_cases hn2 : 2 ≤ n
          · have hnI : decide (2 ≤ (n : Int)) = true := by simp; omega
            go_wp2_with (first | (refine wl_load_node_g (want_yes rfl rfl rfl) _ rfl _ rfl _ _ _ _ _ _ _ h1 ?_) | (refine wl_load_set_at rfl _ rfl _ _ rfl _ (node_st h1) ?_) | (go_at_call 61; refine (bare_any _ _ _ _ _ _ _ _).mono ?_; rintro e w5 ⟨rfl, hB5⟩) | (go_at_call 62; refine (HH.out _).mono ?_; rintro e w5 ⟨rfl, hB5⟩))
            go_meet
            exact ⟨congrArg Value.bool (Eq.trans (by simp [hn2]) (headOk_3 (by omega) Hz.out _ _ _).symm), hB5⟩
          · have hnI : decide (2 ≤ (n : Int)) = false := by simp; omega
            go_wp2_with (first | (refine wl_load_node_g (want_yes rfl rfl rfl) _ rfl _ rfl _ _ _ _ _ _ _ h1 ?_) | (refine wl_load_set_at rfl _ rfl _ _ rfl _ (node_st h1) ?_) | (go_at_call 61; refine (bare_any _ _ _ _ _ _ _ _).mono ?_; rintro e w5 ⟨rfl, hB5⟩) | (go_at_call 62; refine (HH.out _).mono ?_; rintro e w5 ⟨rfl, hB5⟩))
            go_meet
            exact ⟨congrArg Value.bool (Eq.trans (by simp [hn2]) (headOk_3 (by omega) Hz.out _ _ _).symm), Below.refl _ _⟩
    by_cases k5 : kd = 5
    · subst k5
      go_upto_region 14 with (fail)
      obtain ⟨a1, g1⟩ : ∃ q, (((n : Nat) : Int) == 1) = q := ⟨_, rfl⟩
      obtain ⟨a2, g2⟩ : ∃ q, (decide ((0 : Int) ≤ mi)) = q := ⟨_, rfl⟩
      obtain ⟨a3, g3⟩ : ∃ q, (decide (mi ≤ (255 : Int))) = q := ⟨_, rfl⟩
      obtain ⟨a4, g4⟩ : ∃ q, (decide (ma ≤ (255 : Int))) = q := ⟨_, rfl⟩
      obtain ⟨a5, g5⟩ : ∃ q, (ma == (-1 : Int)) = q := ⟨_, rfl⟩
      obtain ⟨a6, g6⟩ : ∃ q, (decide (mi ≤ ma)) = q := ⟨_, rfl⟩
      have hfive : (((((z && a1) && a2) && a3) && a4) && (a5 || a6)) = headOk 5 st n mi ma := five_t Hz.out g1 g2 g3 g4 g5 g6
      refine wp_region_text 35 [eqS (.bool z), eqS (.bool z), eqS (vF (true && (z == true)) (.pointer (some ⟨w.heap.size, 5, none⟩))), eqS (vF (true && (z == true)) (.slice A n c)), eqS (vF (true && (z == true)) (.int .i64 (((n : Nat) : Int)))), eqS (vF (true && (z == true)) (.bool a1)), eqS (.bool (z && a1)), eqS (.bool (z && a1)), eqS (vF (true && ((z && a1) == true)) (.pointer (some ⟨w.heap.size, 6, none⟩))), eqS (vF (true && ((z && a1) == true)) (.int .i64 (mi))), eqS (vF (true && ((z && a1) == true)) (.bool a2)), eqS (.bool ((z && a1) && a2)), eqS (.bool ((z && a1) && a2)), eqS (vF (true && (((z && a1) && a2) == true)) (.pointer (some ⟨w.heap.size, 6, none⟩))), eqS (vF (true && (((z && a1) && a2) == true)) (.int .i64 (mi))), eqS (vF (true && (((z && a1) && a2) == true)) (.bool a3)), eqS (.bool (((z && a1) && a2) && a3)), eqS (.bool (((z && a1) && a2) && a3)), eqS (vF (true && ((((z && a1) && a2) && a3) == true)) (.pointer (some ⟨w.heap.size, 7, none⟩))), eqS (vF (true && ((((z && a1) && a2) && a3) == true)) (.int .i64 (ma))), eqS (vF (true && ((((z && a1) && a2) && a3) == true)) (.bool a4)), eqS (.bool ((((z && a1) && a2) && a3) && a4)), eqS (.bool ((((z && a1) && a2) && a3) && a4)), eqS (vF (true && (((((z && a1) && a2) && a3) && a4) == true)) (.pointer (some ⟨w.heap.size, 7, none⟩))), eqS (vF (true && (((((z && a1) && a2) && a3) && a4) == true)) (.int .i64 (ma))), eqS (vF (true && (((((z && a1) && a2) && a3) && a4) == true)) (.bool a5)), eqS (vF (true && (((((z && a1) && a2) && a3) && a4) == true)) (.bool a5)), eqS (vF ((true && (((((z && a1) && a2) && a3) && a4) == true)) && (a5 == false)) (.pointer (some ⟨w.heap.size, 7, none⟩))), eqS (vF ((true && (((((z && a1) && a2) && a3) && a4) == true)) && (a5 == false)) (.int .i64 (ma))), eqS (vF ((true && (((((z && a1) && a2) && a3) && a4) == true)) && (a5 == false)) (.pointer (some ⟨w.heap.size, 6, none⟩))), eqS (vF ((true && (((((z && a1) && a2) && a3) && a4) == true)) && (a5 == false)) (.int .i64 (mi))), eqS (vF ((true && (((((z && a1) && a2) && a3) && a4) == true)) && (a5 == false)) (.bool a6)), eqS (vF (true && (((((z && a1) && a2) && a3) && a4) == true)) (.bool (a5 || a6))), eqS (.bool (((((z && a1) && a2) && a3) && a4) && (a5 || a6))), eqS (.bool (((((z && a1) && a2) && a3) && a4) && (a5 || a6)))] [60, 61, 62, 63, 64, 65, 66, 67, 68, 69, 70, 71, 72, 73, 74, 75, 76, 77, 78, 79, 80, 81, 82, 83, 84, 85, 86, 87, 88, 89, 90, 91, 92, 93, 4] (by kernel_rfl) rfl ?_ ?_
      · skip
        refine Steps.cons (fun a' w' hG hB dep => gs_move (want_none rfl) _ rfl (id (hG.other 3 rfl))) ?_
        refine Steps.cons (fun a' w' hG hB dep => gs_move (want_none rfl) _ rfl (id (dep 0 rfl 60 rfl))) ?_
        refine Steps.cons (fun a' w' hG hB dep => gs_guard (c := true) (b' := z) rfl rfl (dep 1 rfl 61 rfl) (fun hc he hw => gs_field hw _ _ _ rfl w.heap.size (0) (5) (hG.other 1 rfl) (fun wz => field_node_2 w.heap.size (0) wz) (vF_yes (on_g hc he) _).symm) (fun hn => vF_no hn _)) ?_
        refine Steps.cons (fun a' w' hG hB dep => gs_guard (c := true) (b' := z) rfl rfl (dep 1 rfl 61 rfl) (fun hc he hw => gs_load1 hw _ _ rfl w.heap.size (5) (Eq.trans (dep 2 rfl 62 rfl) (vF_yes (on_g hc he) _)) (.slice A n c) ((blk_then h1 hB).cellv (i := 5) rfl) _ Try.underlying25 rfl (vF_yes (on_g hc he) _).symm) (fun hn => vF_no hn _)) ?_
        refine Steps.cons (fun a' w' hG hB dep => gs_guard (c := true) (b' := z) rfl rfl (dep 1 rfl 61 rfl) (fun hc he hw => gs_len hw _ _ rfl under_nodes _ n c (Eq.trans (dep 3 rfl 63 rfl) (vF_yes (on_g hc he) _)) (vF_yes (on_g hc he) _).symm) (fun hn => vF_no hn _)) ?_
        refine Steps.cons (fun a' w' hG hB dep => gs_guard (c := true) (b' := z) rfl rfl (dep 1 rfl 61 rfl) (fun hc he hw => gs_eql_int hw _ _ _ _ rfl _ _ _ (Eq.trans (dep 4 rfl 64 rfl) (vF_yes (on_g hc he) _)) rfl (Eq.trans (congrArg Value.bool g1) (vF_yes (on_g hc he) _).symm)) (fun hn => vF_no hn _)) ?_
        refine Steps.cons (fun a' w' hG hB dep => gs_pick (want_none rfl) _ _ _ rfl z (dep 1 rfl 61 rfl) (id (pick_and2 (c := true) rfl (dep 5 rfl 65 rfl)))) ?_
        refine Steps.cons (fun a' w' hG hB dep => gs_move (want_none rfl) _ rfl (id (dep 6 rfl 66 rfl))) ?_
        refine Steps.cons (fun a' w' hG hB dep => gs_guard (c := true) (b' := (z && a1)) rfl rfl (dep 7 rfl 67 rfl) (fun hc he hw => gs_field hw _ _ _ rfl w.heap.size (0) (6) (hG.other 1 rfl) (fun wz => field_node_3 w.heap.size (0) wz) (vF_yes (on_g hc he) _).symm) (fun hn => vF_no hn _)) ?_
        refine Steps.cons (fun a' w' hG hB dep => gs_guard (c := true) (b' := (z && a1)) rfl rfl (dep 7 rfl 67 rfl) (fun hc he hw => gs_load1 hw _ _ rfl w.heap.size (6) (Eq.trans (dep 8 rfl 68 rfl) (vF_yes (on_g hc he) _)) (.int .i64 (mi)) ((blk_then h1 hB).cellv (i := 6) rfl) _ Try.underlying3 rfl (vF_yes (on_g hc he) _).symm) (fun hn => vF_no hn _)) ?_
        refine Steps.cons (fun a' w' hG hB dep => gs_guard (c := true) (b' := (z && a1)) rfl rfl (dep 7 rfl 67 rfl) (fun hc he hw => gs_geq_int hw _ _ _ _ rfl _ _ _ (Eq.trans (dep 9 rfl 69 rfl) (vF_yes (on_g hc he) _)) rfl (Eq.trans (congrArg Value.bool g2) (vF_yes (on_g hc he) _).symm)) (fun hn => vF_no hn _)) ?_
        refine Steps.cons (fun a' w' hG hB dep => gs_pick (want_none rfl) _ _ _ rfl (z && a1) (dep 7 rfl 67 rfl) (id (pick_and2 (c := true) rfl (dep 10 rfl 70 rfl)))) ?_
        refine Steps.cons (fun a' w' hG hB dep => gs_move (want_none rfl) _ rfl (id (dep 11 rfl 71 rfl))) ?_
        refine Steps.cons (fun a' w' hG hB dep => gs_guard (c := true) (b' := ((z && a1) && a2)) rfl rfl (dep 12 rfl 72 rfl) (fun hc he hw => gs_field hw _ _ _ rfl w.heap.size (0) (6) (hG.other 1 rfl) (fun wz => field_node_3 w.heap.size (0) wz) (vF_yes (on_g hc he) _).symm) (fun hn => vF_no hn _)) ?_
        refine Steps.cons (fun a' w' hG hB dep => gs_guard (c := true) (b' := ((z && a1) && a2)) rfl rfl (dep 12 rfl 72 rfl) (fun hc he hw => gs_load1 hw _ _ rfl w.heap.size (6) (Eq.trans (dep 13 rfl 73 rfl) (vF_yes (on_g hc he) _)) (.int .i64 (mi)) ((blk_then h1 hB).cellv (i := 6) rfl) _ Try.underlying3 rfl (vF_yes (on_g hc he) _).symm) (fun hn => vF_no hn _)) ?_
        refine Steps.cons (fun a' w' hG hB dep => gs_guard (c := true) (b' := ((z && a1) && a2)) rfl rfl (dep 12 rfl 72 rfl) (fun hc he hw => gs_leq_int hw _ _ _ _ rfl _ _ _ (Eq.trans (dep 14 rfl 74 rfl) (vF_yes (on_g hc he) _)) rfl (Eq.trans (congrArg Value.bool g3) (vF_yes (on_g hc he) _).symm)) (fun hn => vF_no hn _)) ?_
        refine Steps.cons (fun a' w' hG hB dep => gs_pick (want_none rfl) _ _ _ rfl ((z && a1) && a2) (dep 12 rfl 72 rfl) (id (pick_and2 (c := true) rfl (dep 15 rfl 75 rfl)))) ?_
        refine Steps.cons (fun a' w' hG hB dep => gs_move (want_none rfl) _ rfl (id (dep 16 rfl 76 rfl))) ?_
        refine Steps.cons (fun a' w' hG hB dep => gs_guard (c := true) (b' := (((z && a1) && a2) && a3)) rfl rfl (dep 17 rfl 77 rfl) (fun hc he hw => gs_field hw _ _ _ rfl w.heap.size (0) (7) (hG.other 1 rfl) (fun wz => field_node_4 w.heap.size (0) wz) (vF_yes (on_g hc he) _).symm) (fun hn => vF_no hn _)) ?_
        refine Steps.cons (fun a' w' hG hB dep => gs_guard (c := true) (b' := (((z && a1) && a2) && a3)) rfl rfl (dep 17 rfl 77 rfl) (fun hc he hw => gs_load1 hw _ _ rfl w.heap.size (7) (Eq.trans (dep 18 rfl 78 rfl) (vF_yes (on_g hc he) _)) (.int .i64 (ma)) ((blk_then h1 hB).cellv (i := 7) rfl) _ Try.underlying3 rfl (vF_yes (on_g hc he) _).symm) (fun hn => vF_no hn _)) ?_
        refine Steps.cons (fun a' w' hG hB dep => gs_guard (c := true) (b' := (((z && a1) && a2) && a3)) rfl rfl (dep 17 rfl 77 rfl) (fun hc he hw => gs_leq_int hw _ _ _ _ rfl _ _ _ (Eq.trans (dep 19 rfl 79 rfl) (vF_yes (on_g hc he) _)) rfl (Eq.trans (congrArg Value.bool g4) (vF_yes (on_g hc he) _).symm)) (fun hn => vF_no hn _)) ?_
        refine Steps.cons (fun a' w' hG hB dep => gs_pick (want_none rfl) _ _ _ rfl (((z && a1) && a2) && a3) (dep 17 rfl 77 rfl) (id (pick_and2 (c := true) rfl (dep 20 rfl 80 rfl)))) ?_
        refine Steps.cons (fun a' w' hG hB dep => gs_move (want_none rfl) _ rfl (id (dep 21 rfl 81 rfl))) ?_
        refine Steps.cons (fun a' w' hG hB dep => gs_guard (c := true) (b' := ((((z && a1) && a2) && a3) && a4)) rfl rfl (dep 22 rfl 82 rfl) (fun hc he hw => gs_field hw _ _ _ rfl w.heap.size (0) (7) (hG.other 1 rfl) (fun wz => field_node_4 w.heap.size (0) wz) (vF_yes (on_g hc he) _).symm) (fun hn => vF_no hn _)) ?_
        refine Steps.cons (fun a' w' hG hB dep => gs_guard (c := true) (b' := ((((z && a1) && a2) && a3) && a4)) rfl rfl (dep 22 rfl 82 rfl) (fun hc he hw => gs_load1 hw _ _ rfl w.heap.size (7) (Eq.trans (dep 23 rfl 83 rfl) (vF_yes (on_g hc he) _)) (.int .i64 (ma)) ((blk_then h1 hB).cellv (i := 7) rfl) _ Try.underlying3 rfl (vF_yes (on_g hc he) _).symm) (fun hn => vF_no hn _)) ?_
        refine Steps.cons (fun a' w' hG hB dep => gs_guard (c := true) (b' := ((((z && a1) && a2) && a3) && a4)) rfl rfl (dep 22 rfl 82 rfl) (fun hc he hw => gs_eql_int hw _ _ _ _ rfl _ _ _ (Eq.trans (dep 24 rfl 84 rfl) (vF_yes (on_g hc he) _)) rfl (Eq.trans (congrArg Value.bool g5) (vF_yes (on_g hc he) _).symm)) (fun hn => vF_no hn _)) ?_
        refine Steps.cons (fun a' w' hG hB dep => gs_guard (c := true) (b' := ((((z && a1) && a2) && a3) && a4)) rfl rfl (dep 22 rfl 82 rfl) (fun hc he hw => gs_move hw _ rfl (Eq.trans (Eq.trans (dep 25 rfl 85 rfl) (vF_yes (on_g hc he) _)) (vF_yes (on_g hc he) _).symm)) (fun hn => vF_no hn _)) ?_
        refine Steps.cons (fun a' w' hG hB dep => gs_guard (c := (true && (((((z && a1) && a2) && a3) && a4) == true))) (b' := a5) rfl rfl (dep 26 rfl 86 rfl) (fun hc he hw => gs_field hw _ _ _ rfl w.heap.size (0) (7) (hG.other 1 rfl) (fun wz => field_node_4 w.heap.size (0) wz) (vF_yes (on_g hc he) _).symm) (fun hn => vF_no hn _)) ?_
        refine Steps.cons (fun a' w' hG hB dep => gs_guard (c := (true && (((((z && a1) && a2) && a3) && a4) == true))) (b' := a5) rfl rfl (dep 26 rfl 86 rfl) (fun hc he hw => gs_load1 hw _ _ rfl w.heap.size (7) (Eq.trans (dep 27 rfl 87 rfl) (vF_yes (on_g hc he) _)) (.int .i64 (ma)) ((blk_then h1 hB).cellv (i := 7) rfl) _ Try.underlying3 rfl (vF_yes (on_g hc he) _).symm) (fun hn => vF_no hn _)) ?_
        refine Steps.cons (fun a' w' hG hB dep => gs_guard (c := (true && (((((z && a1) && a2) && a3) && a4) == true))) (b' := a5) rfl rfl (dep 26 rfl 86 rfl) (fun hc he hw => gs_field hw _ _ _ rfl w.heap.size (0) (6) (hG.other 1 rfl) (fun wz => field_node_3 w.heap.size (0) wz) (vF_yes (on_g hc he) _).symm) (fun hn => vF_no hn _)) ?_
        refine Steps.cons (fun a' w' hG hB dep => gs_guard (c := (true && (((((z && a1) && a2) && a3) && a4) == true))) (b' := a5) rfl rfl (dep 26 rfl 86 rfl) (fun hc he hw => gs_load1 hw _ _ rfl w.heap.size (6) (Eq.trans (dep 29 rfl 89 rfl) (vF_yes (on_g hc he) _)) (.int .i64 (mi)) ((blk_then h1 hB).cellv (i := 6) rfl) _ Try.underlying3 rfl (vF_yes (on_g hc he) _).symm) (fun hn => vF_no hn _)) ?_
        refine Steps.cons (fun a' w' hG hB dep => gs_guard (c := (true && (((((z && a1) && a2) && a3) && a4) == true))) (b' := a5) rfl rfl (dep 26 rfl 86 rfl) (fun hc he hw => gs_geq_int hw _ _ _ _ rfl _ _ _ (Eq.trans (dep 28 rfl 88 rfl) (vF_yes (on_g hc he) _)) (Eq.trans (dep 30 rfl 90 rfl) (vF_yes (on_g hc he) _)) (Eq.trans (congrArg Value.bool g6) (vF_yes (on_g hc he) _).symm)) (fun hn => vF_no hn _)) ?_
        refine Steps.cons (fun a' w' hG hB dep => gs_guard (c := true) (b' := ((((z && a1) && a2) && a3) && a4)) rfl rfl (dep 22 rfl 82 rfl) (fun hc he hw => gs_pick hw _ _ _ rfl a5 (Eq.trans (dep 26 rfl 86 rfl) (vF_yes (on_g hc he) _)) (Eq.trans (pick_or2 (c := (true && (((((z && a1) && a2) && a3) && a4) == true))) (on_g hc he) (dep 31 rfl 91 rfl)) (vF_yes (on_g hc he) _).symm)) (fun hn => vF_no hn _)) ?_
        refine Steps.cons (fun a' w' hG hB dep => gs_pick (want_none rfl) _ _ _ rfl ((((z && a1) && a2) && a3) && a4) (dep 22 rfl 82 rfl) (id (pick_and2 (c := true) rfl (dep 32 rfl 92 rfl)))) ?_
        refine Steps.cons (fun a' w' hG hB dep => gs_assign (want_none rfl) _ rfl (id (dep 33 rfl 93 rfl))) ?_
        exact Steps.nil
      intro u w2 hB2 ans
      have hu4 : u 4 = .bool (headOk 5 st n mi ma) := (ans 34 4 (by decide) rfl).trans (congrArg Value.bool hfive)
      clear ans hfive g1 g2 g3 g4 g5 g6
      simp only [putAll, List.foldl_cons, List.foldl_nil, Act.put, List.setIfInBounds_toArray, List.set_cons_zero, List.set_cons_succ, hu4]
      clear hu4
      simp only [List.drop]
      refine wpList_nil ?_
      go_wp2_with (fail)
      go_meet
      exact ⟨rfl, hB2⟩
    have e1 : (kd == 1) = false := by simp; omega
    have e2 : (kd == 2) = false := by simp; omega
    have e3 : (kd == 3) = false := by simp; omega
    have e4 : (kd == 4) = false := by simp; omega
    have e5 : (kd == 5) = false := by simp; omega
    have e6 : (kd == 6) = false := by simp; omega
    have e7 : (kd == 7) = false := by simp; omega
    go_wp2_with (fail)
    go_meet
    exact ⟨congrArg Value.bool (by unfold headOk; rw [if_neg k167, if_neg k2, if_neg k34, if_neg k5]), Below.refl _ _⟩
  case rest =>
    obtain ⟨rfl, hBc⟩ := hcut
    obtain ⟨b, hb⟩ : ∃ b, headOk kd st n mi ma = b := ⟨_, rfl⟩
    rw [hb]
    have h2 := blk_then h1 hBc
    have hB2 := below_then hB1 hBc
    have c5 : wc.cell? ⟨w.heap.size, 5, none⟩ = some (.slice A n c) := h2.cellv (i := 5) rfl
    have Hb := Lib.hid hb
    clear hb h1 hB1 hl1 c0 hBc Hz
    go_wp2_with (fail)
    go_loopw [4, 97] (fun v i wr => ∃ k : Nat, k ≤ n ∧ i = .int .i64 k ∧ v = .bool (b && (l.take k).all Nd.isT) ∧ Below w.heap.size w wr) (fun _ i _ => n - (intOf i).toNat)
    case atStart => exact ⟨0, by omega, rfl, by simp, hB2⟩
    case round =>
      clear hB2 h2 c5
      obtain ⟨k, hk, rfl, rfl, hBw⟩ := hrel
      by_cases hkn : k < n
      · have hkI : (k : Int) < n := by omega
        have hkl : k < l.length := by rw [← Hn.out]; exact hkn
        have hkc : k < cl.length := by rw [Hcl.out]; exact hkl
        obtain ⟨ba, off, rfl, hba, hrows⟩ := hs.at_ (by omega)
        have hrow := (hrows k hkc).keep (hBw.block ba (by omega))
        have hsub := Hr.out k hkl hkc
        obtain ⟨⟨kd', st', l', mi', ma'⟩, hx⟩ : ∃ x, x = l[k] := ⟨_, rfl⟩
        rw [← hx] at hsub
        obtain ⟨A', n', c', cl', hce, -⟩ := hsub.inv
        rw [hce] at hrow hsub
        have hst : (l.take (k + 1)).all Nd.isT = ((l.take k).all Nd.isT && (Nd.mk kd' st' l' mi' ma').isT) := by
          rw [List.take_succ_eq_append_getElem hkl, List.all_append, ← hx]
          simp
        have hmem : Nd.mk kd' st' l' mi' ma' ∈ l := by rw [hx]; exact List.getElem_mem hkl
        obtain ⟨y, hy⟩ : ∃ y, (b && (l.take k).all Nd.isT) = y := ⟨_, rfl⟩
        obtain ⟨u, hu⟩ : ∃ u, (Nd.mk kd' st' l' mi' ma').isT = u := ⟨_, rfl⟩
        have hst2 : (b && (l.take (k + 1)).all Nd.isT) = (y && u) := by rw [hst, ← Bool.and_assoc, hy, hu]
        rw [hy]
        have hcall := fun W h => Ih.out _ hmem B W _ (hsub.keep (w' := W) h)
        rw [hu] at hcall
        have Hcall := Lib.hid hcall
        have Hst := Lib.hid hst2
        have hkb : k < 1099511628000 := by omega
        clear hcall hst2 hst hy hu hx hce hsub
        go_upto_region 18 with (first | (refine wl_load_node_at rfl _ rfl _ _ rfl _ _ _ _ _ _ _ hrow ?_) | (refine wl_store_node rfl _ _ rfl _ _ _ _ _ _ _ _ rfl rfl (nodeC 0 0 none 0 0 0 0) rfl (Blk.new _ _ _) ?_; intro w3 h5 hg3))
        have hB3 := below_grown (below_alloc (Below.refl _ wr) (.cells (nodeC 0 0 none 0 0 0 0) 27)) hg3 (Nat.le_refl _)
        replace hBw := below_then hBw hB3
        clear hrow hrows hB3 hg3
        cases y
        · go_wp2_with (fail)
          exact ⟨⟨k + 1, by omega, rfl, by rw [Hst.out]; rfl, hBw⟩, by simp only [intOf]; omega⟩
        · go_wp2_with (first | (refine wl_load_node_g (want_yes rfl rfl rfl) _ rfl _ rfl _ _ _ _ _ _ _ h5 ?_) | (go_at_call 43; refine (Hcall.out _ (fun j hj => hBw.block j (by omega)) (by have := hBw.size; omega)).mono ?_; rintro e w5 ⟨rfl, hB5⟩))
          exact ⟨⟨k + 1, by omega, rfl, by rw [Hst.out]; rfl, below_then hBw hB5⟩, by simp only [intOf]; omega⟩
      · have hkI : ¬ (k : Int) < n := by omega
        have hke : l.take k = l := List.take_of_length_le (by have := Hn.out; omega)
        rw [hke]
        go_wp2_with (fail)
        go_ret
        exact ⟨by rw [Hb.out]; rfl, hBw⟩
end Go.Proofs.Ytajainmldcnaeaa
namespace Go.Proofs.Ytajainmldcnaeaa
open Go.RowKit Go.Maps
set_option linter.unusedVariables false
set_option linter.unusedSimpArgs false
attribute [local go_sem] Oper.semAt_some

set_option maxRecDepth 100000 in
set_option maxHeartbeats 40000000 in
theorem places_any (nd : Nd) : nd.isT = true → ∀ (B : Nat) (w : World) (cs : Array Value), NdIn w B nd cs → B ≤ w.heap.size →
    Calls Try.prog 44 #[.agg cs] w fun e w' => e = .returned (.int .i64 ((min nd.U 2049 : Nat) : Int)) ∧ Below w.heap.size w w' := by
  induction nd using Nd.ind with
  | h kd st l mi ma ih =>
  intro hT B w cs hin hB
  obtain ⟨A, n, c, cl, rfl, hn, hcl, hmax, hs, hr⟩ := hin.inv
  simp only [Nd.isT, Bool.and_eq_true, Nd.areT_all, List.all_eq_true] at hT
  obtain ⟨hh, hl⟩ := hT
  obtain ⟨V, hV⟩ : ∃ V, min (Nd.mk kd st l mi ma).U 2049 = V := ⟨_, rfl⟩
  rw [hV]
  have Hn := Lib.hid hn
  have Hcl := Lib.hid hcl
  have Hr := Lib.hid hr
  have Ih := Lib.hid ih
  have Hl := Lib.hid hl
  have Hh := Lib.hid hh
  clear hn hcl hr ih hh hin hl
  go_enter Try.func44, Try.ntmps44
  have h1 := Blk.new w 27 (nodeC kd st A n c mi ma)
  have hB1 : Below w.heap.size w (w.alloc (.cells (nodeC kd st A n c mi ma) 27)) := below_alloc (Below.refl _ _) _
  go_upto_region 1 with (fail)
  obtain ⟨W1, hW1⟩ : ∃ y, y = w.alloc (.cells (nodeC kd st A n c mi ma) 27) := ⟨_, rfl⟩
  rw [← hW1] at h1 hB1 ⊢
  clear hW1
  have hl1 := h1.lt
  have c0 : W1.cell? ⟨w.heap.size, 0, none⟩ = some (.int .i64 kd) := h1.cellv (i := 0) rfl
  have c5 : W1.cell? ⟨w.heap.size, 5, none⟩ = some (.slice A n c) := h1.cellv (i := 5) rfl
  by_cases k267 : kd = 2 ∨ kd = 6 ∨ kd = 7
  · have hU : (Nd.mk kd st l mi ma).U = 1 := by simp only [Nd.U]; rw [if_pos k267]
    rw [hU] at hV
    have HV := Lib.hid hV
    clear hV hU
    rcases k267 with rfl | rfl | rfl
    · go_wp2_with (fail)
      go_ret
      exact ⟨congrArg (fun v => Ending.returned (.int .i64 v)) (by have := HV.out; omega), hB1⟩
    · go_wp2_with (fail)
      go_ret
      exact ⟨congrArg (fun v => Ending.returned (.int .i64 v)) (by have := HV.out; omega), hB1⟩
    · go_wp2_with (fail)
      go_ret
      exact ⟨congrArg (fun v => Ending.returned (.int .i64 v)) (by have := HV.out; omega), hB1⟩
  by_cases k1 : kd = 1
  · subst k1
    have hU : (Nd.mk 1 st l mi ma).U = 0 := by simp [Nd.U]
    rw [hU] at hV
    have HV := Lib.hid hV
    clear hV hU
    go_wp2_with (fail)
    go_ret
    exact ⟨congrArg (fun v => Ending.returned (.int .i64 v)) (by have := HV.out; omega), hB1⟩
  by_cases k34 : kd = 3 ∨ kd = 4
  · rcases k34 with rfl | rfl
    · skip
      obtain ⟨b0, hb0⟩ : ∃ b0 : Nat, b0 = 0 := ⟨_, rfl⟩
      have hb0m : b0 ≤ n + 1 := by omega
      have hU : (Nd.mk 3 st l mi ma).U = b0 + Nd.Us l := by rw [hb0]; simp [Nd.U]
      rw [hU] at hV
      have HV := Lib.hid hV
      clear hV hU
      have Hb0 := Lib.hid hb0
      clear hb0
      go_wp2_with (fail)
      go_loopw [3, 26] (fun v i wr => ∃ k m : Nat, k ≤ n ∧ i = .int .i64 k ∧ v = .int .i64 m ∧ min m 2049 = min (b0 + Nd.Us (l.take k)) 2049 ∧ m ≤ b0 + 2049 ∧ Below w.heap.size w wr) (fun _ i _ => n - (intOf i).toNat)
      case atStart => exact ⟨0, b0, by omega, rfl, by rw [Hb0.out]; rfl, by simp [Nd.Us], by omega, hB1⟩
      case round =>
        clear h1 hB1 hl1 c0 c5
        obtain ⟨k, m, hk, rfl, rfl, hm, hmb, hBw⟩ := hrel
        by_cases hkn : k < n
        · have hkI : (k : Int) < n := by omega
          have hkl : k < l.length := by rw [← Hn.out]; exact hkn
          have hkc : k < cl.length := by rw [Hcl.out]; exact hkl
          obtain ⟨ba, off, rfl, hba, hrows⟩ := hs.at_ (by omega)
          have hrow := (hrows k hkc).keep (hBw.block ba (by omega))
          have hsub := Hr.out k hkl hkc
          have hmem : l[k] ∈ l := List.getElem_mem hkl
          have hUs := Nd.Us_step l k hkl
          have hT := Hl.out _ hmem
          obtain ⟨⟨kd', st', l', mi', ma'⟩, hx⟩ : ∃ x, x = l[k] := ⟨_, rfl⟩
          rw [← hx] at hsub hUs hmem hT
          obtain ⟨A', n', c', cl', hce, -⟩ := hsub.inv
          rw [hce] at hrow hsub

          obtain ⟨q, hq⟩ : ∃ q, min (Nd.mk kd' st' l' mi' ma').U 2049 = q := ⟨_, rfl⟩
          have hm2 : min (min (m + q) 2049) 2049 = min (b0 + Nd.Us (l.take (k + 1))) 2049 := by rw [hUs]; omega
          have hqb : q ≤ 2049 := by omega
          have hcall := fun W h => Ih.out _ hmem hT B W _ (hsub.keep (w' := W) h)
          rw [hq] at hcall
          have Hcall := Lib.hid hcall
          have Hm2 := Lib.hid hm2
          clear hcall hm2 hq hx hce hsub hUs hm hT hmem
          have hkb : k < 1099511628000 := by omega
          go_upto_region 14 with (first | (refine wl_load_node_at rfl _ rfl _ _ rfl _ _ _ _ _ _ _ hrow ?_) | (refine wl_store_node rfl _ _ rfl _ _ _ _ _ _ _ _ rfl rfl (nodeC 0 0 none 0 0 0 0) rfl (Blk.new _ _ _) ?_; intro w3 h5 hg3))
          have hB3 := below_grown (below_alloc (Below.refl _ wr) (.cells (nodeC 0 0 none 0 0 0 0) 27)) hg3 (Nat.le_refl _)
          replace hBw := below_then hBw hB3
          clear hrow hrows hB3 hg3
          go_wp2_with (first | (refine wl_load_node rfl _ rfl _ rfl _ _ _ _ _ _ _ h5 ?_) | (go_at_call 44; refine (Hcall.out _ (fun j hj => hBw.block j (by omega)) (by have := hBw.size; omega)).mono ?_; rintro e w5 ⟨rfl, hB5⟩) | (go_at_call 44; refine park ?_))
          all_goals exact ⟨⟨k + 1, min (m + q) 2049, by omega, rfl, congrArg (Value.int .i64) (by omega), Hm2.out, by omega, below_then hBw hB5⟩, by simp only [intOf]; omega⟩
        · have hkI : ¬ (k : Int) < n := by omega
          have hke : l.take k = l := List.take_of_length_le (by have := Hn.out; omega)
          rw [hke] at hm
          have Hm := Lib.hid hm
          clear hm hke
          go_wp2_with (fail)
          all_goals
            go_ret
            exact ⟨congrArg (fun v => Ending.returned (.int .i64 v)) (by have := HV.out; have := Hm.out; omega), hBw⟩
    · skip
      obtain ⟨b0, hb0⟩ : ∃ b0 : Nat, b0 = n + 1 := ⟨_, rfl⟩
      have hb0m : b0 ≤ n + 1 := by omega
      have hU : (Nd.mk 4 st l mi ma).U = b0 + Nd.Us l := by rw [hb0]; simp [Nd.U, Hn.out]
      rw [hU] at hV
      have HV := Lib.hid hV
      clear hV hU
      have Hb0 := Lib.hid hb0
      clear hb0
      go_wp2_with (fail)
      go_loopw [3, 26] (fun v i wr => ∃ k m : Nat, k ≤ n ∧ i = .int .i64 k ∧ v = .int .i64 m ∧ min m 2049 = min (b0 + Nd.Us (l.take k)) 2049 ∧ m ≤ b0 + 2049 ∧ Below w.heap.size w wr) (fun _ i _ => n - (intOf i).toNat)
      case atStart => exact ⟨0, b0, by omega, rfl, by rw [Hb0.out]; simp, by simp [Nd.Us], by omega, hB1⟩
      case round =>
        clear h1 hB1 hl1 c0 c5
        obtain ⟨k, m, hk, rfl, rfl, hm, hmb, hBw⟩ := hrel
        by_cases hkn : k < n
        · have hkI : (k : Int) < n := by omega
          have hkl : k < l.length := by rw [← Hn.out]; exact hkn
          have hkc : k < cl.length := by rw [Hcl.out]; exact hkl
          obtain ⟨ba, off, rfl, hba, hrows⟩ := hs.at_ (by omega)
          have hrow := (hrows k hkc).keep (hBw.block ba (by omega))
          have hsub := Hr.out k hkl hkc
          have hmem : l[k] ∈ l := List.getElem_mem hkl
          have hUs := Nd.Us_step l k hkl
          have hT := Hl.out _ hmem
          obtain ⟨⟨kd', st', l', mi', ma'⟩, hx⟩ : ∃ x, x = l[k] := ⟨_, rfl⟩
          rw [← hx] at hsub hUs hmem hT
          obtain ⟨A', n', c', cl', hce, -⟩ := hsub.inv
          rw [hce] at hrow hsub

          obtain ⟨q, hq⟩ : ∃ q, min (Nd.mk kd' st' l' mi' ma').U 2049 = q := ⟨_, rfl⟩
          have hm2 : min (min (m + q) 2049) 2049 = min (b0 + Nd.Us (l.take (k + 1))) 2049 := by rw [hUs]; omega
          have hqb : q ≤ 2049 := by omega
          have hcall := fun W h => Ih.out _ hmem hT B W _ (hsub.keep (w' := W) h)
          rw [hq] at hcall
          have Hcall := Lib.hid hcall
          have Hm2 := Lib.hid hm2
          clear hcall hm2 hq hx hce hsub hUs hm hT hmem
          have hkb : k < 1099511628000 := by omega
          go_upto_region 14 with (first | (refine wl_load_node_at rfl _ rfl _ _ rfl _ _ _ _ _ _ _ hrow ?_) | (refine wl_store_node rfl _ _ rfl _ _ _ _ _ _ _ _ rfl rfl (nodeC 0 0 none 0 0 0 0) rfl (Blk.new _ _ _) ?_; intro w3 h5 hg3))
          have hB3 := below_grown (below_alloc (Below.refl _ wr) (.cells (nodeC 0 0 none 0 0 0 0) 27)) hg3 (Nat.le_refl _)
          replace hBw := below_then hBw hB3
          clear hrow hrows hB3 hg3
          go_wp2_with (first | (refine wl_load_node rfl _ rfl _ rfl _ _ _ _ _ _ _ h5 ?_) | (go_at_call 44; refine (Hcall.out _ (fun j hj => hBw.block j (by omega)) (by have := hBw.size; omega)).mono ?_; rintro e w5 ⟨rfl, hB5⟩) | (go_at_call 44; refine park ?_))
          all_goals exact ⟨⟨k + 1, min (m + q) 2049, by omega, rfl, congrArg (Value.int .i64) (by omega), Hm2.out, by omega, below_then hBw hB5⟩, by simp only [intOf]; omega⟩
        · have hkI : ¬ (k : Int) < n := by omega
          have hke : l.take k = l := List.take_of_length_le (by have := Hn.out; omega)
          rw [hke] at hm
          have Hm := Lib.hid hm
          clear hm hke
          go_wp2_with (fail)
          all_goals
            go_ret
            exact ⟨congrArg (fun v => Ending.returned (.int .i64 v)) (by have := HV.out; have := Hm.out; omega), hBw⟩
  by_cases k5 : kd = 5
  · subst k5
    obtain ⟨_, hn1, hmi0, hmi1, hma⟩ := headOk_times Hh.out
    obtain ⟨x, rfl⟩ := List.length_eq_one_iff.1 hn1
    have hkc : 0 < cl.length := by rw [Hcl.out]; exact Nat.zero_lt_one
    obtain ⟨ba, off, rfl, hba, hrows⟩ := hs.at_ hkc
    have hrow := (hrows 0 hkc).keep (hB1.block ba (by omega))
    have hsub := Hr.out 0 (by simp) hkc
    have hT := Hl.out x (by simp)
    have hih := fun W h1 h2 => Ih.out x (by simp) hT B W _ (NdIn.keep (w' := W) h1 hsub) h2
    obtain ⟨⟨kd', st', l', mi', ma'⟩, hx⟩ : ∃ y, y = x := ⟨_, rfl⟩
    simp only [List.getElem_cons_zero] at hsub
    rw [← hx] at hsub hih hV
    obtain ⟨A', n', c', cl', hce, -⟩ := hsub.inv
    rw [hce] at hrow hih
    have hU : (Nd.mk 5 st [Nd.mk kd' st' l' mi' ma'] mi ma).U = tU (Nd.mk kd' st' l' mi' ma').U mi ma := by simp [Nd.U, Nd.Us]
    rw [hU, ← tU_cap 2049 _ _ _ (by omega)] at hV
    obtain ⟨q, hq⟩ : ∃ q, min (Nd.mk kd' st' l' mi' ma').U 2049 = q := ⟨_, rfl⟩
    rw [hq] at hV hih
    have hqb : q ≤ 2049 := by omega
    have Hih := Lib.hid hih
    have hn1' : 0 < n := by have := Hn.out; simp at this; omega
    clear hih hx hce hq hsub hT
    go_upto_region 17 with (first | (refine wl_load_node_at rfl _ rfl _ _ rfl _ _ _ _ _ _ _ hrow ?_) | (go_at_call 44; refine (Hih.out _ (fun j hj => hB1.block j (by omega)) (by have := hB1.size; omega)).mono ?_; rintro e w5 ⟨rfl, hB5⟩) | (go_at_call 44; refine park ?_))
    replace hB1 := below_then hB1 hB5
    replace h1 := blk_then h1 hB5
    have c6 : w5.cell? ⟨w.heap.size, 6, none⟩ = some (.int .i64 mi) := h1.cellv (i := 6) rfl
    have c7 : w5.cell? ⟨w.heap.size, 7, none⟩ = some (.int .i64 ma) := h1.cellv (i := 7) rfl
    clear hB5 hrow hrows c5 c0 hs Ih Hl Hr
    by_cases hq0 : q = 0
    · subst hq0
      have hV0 : V = 0 := by rw [← hV]; simp [tU]
      have HV := Lib.hid hV0
      clear hV hV0
      go_wp2_with (fail)
      all_goals
        go_ret
        exact ⟨congrArg (fun v => Ending.returned (.int .i64 v)) (by have := HV.out; omega), hB1⟩
    · have hq0I : ((q : Int) == 0) = false := by simpa using hq0
      have hti := tU_int (ma := ma) hmi0 hq0
      obtain ⟨b1, b2⟩ := mul_bound (q := q) hmi0 (by omega) (by omega)
      have HV := Lib.hid hV
      clear hV
      by_cases hm1 : ma = -1
      · subst hm1
        rw [if_pos rfl] at hti
        have Hti := Lib.hid hti
        clear hti
        go_wp2_with (fail)
        all_goals
          go_ret
          exact ⟨congrArg (fun v => Ending.returned (.int .i64 v)) (by have := HV.out; have := Hti.out; omega), hB1⟩
      · have hm1b : (ma == -1) = false := by simpa using hm1
        rw [if_neg hm1] at hti
        by_cases hm2 : mi < ma
        · rw [if_pos hm2] at hti
          have Hti := Lib.hid hti
          clear hti
          have hm2b : decide (mi < ma) = true := by simpa using hm2
          obtain ⟨b3, b4⟩ := mul_bound (q := q) (a := ma - mi) (by omega) (by omega) (by omega)
          go_wp2_with (fail)
          all_goals
            go_ret
            exact ⟨congrArg (fun v => Ending.returned (.int .i64 v)) (by have := HV.out; have := Hti.out; omega), hB1⟩
        · rw [if_neg hm2] at hti
          have Hti := Lib.hid hti
          clear hti
          have hm2b : decide (mi < ma) = false := by simpa using hm2
          go_wp2_with (fail)
          all_goals
            go_ret
            exact ⟨congrArg (fun v => Ending.returned (.int .i64 v)) (by have := HV.out; have := Hti.out; omega), hB1⟩
  exfalso
  have := Hh.out
  unfold headOk at this
  rw [if_neg (by omega), if_neg (by omega), if_neg k34, if_neg k5] at this
  cases this
/-- what both programs tell of a tree's places -/
def placesN (nd : Nd) : Nat := if nd.isT then min (nd.U + 1) 2049 else 0
set_option maxRecDepth 100000 in
set_option maxHeartbeats 4000000 in
theorem placesE_any (nd : Nd) (B : Nat) (w : World) (cs : Array Value) (hin : NdIn w B nd cs) (hB : B ≤ w.heap.size) :
    Calls Try.prog 16 #[.agg cs] w fun e w' => e = .returned (.int .i64 (placesN nd : Int)) ∧ Below w.heap.size w w' := by
  obtain ⟨kd, st, l, mi, ma⟩ := nd
  obtain ⟨A, n, c, cl, rfl, -⟩ := hin.inv
  have hi := fun W h1 h2 => isTree_any (Nd.mk kd st l mi ma) B W _ (NdIn.keep (w' := W) h1 hin) h2
  have hp := fun hT W h1 h2 => places_any (Nd.mk kd st l mi ma) hT B W _ (NdIn.keep (w' := W) h1 hin) h2
  obtain ⟨t, ht⟩ : ∃ t, (Nd.mk kd st l mi ma).isT = t := ⟨_, rfl⟩
  obtain ⟨V, hV⟩ : ∃ V, placesN (Nd.mk kd st l mi ma) = V := ⟨_, rfl⟩
  obtain ⟨q, hq⟩ : ∃ q, min (Nd.mk kd st l mi ma).U 2049 = q := ⟨_, rfl⟩
  have hVq : V = if t = true then min (q + 1) 2049 else 0 := by
    rw [← hV, ← ht, ← hq]
    unfold placesN
    split <;> omega
  have hqb : q ≤ 2049 := by omega
  rw [hV]
  rw [ht] at hi hp
  rw [hq] at hp
  have Hi := Lib.hid hi
  have Hp := Lib.hid hp
  have HV := Lib.hid hVq
  clear hi hp hVq hV hq ht hin
  go_enter Try.func16, Try.ntmps16
  have h1 := Blk.new w 27 (nodeC kd st A n c mi ma)
  have hB1 : Below w.heap.size w (w.alloc (.cells (nodeC kd st A n c mi ma) 27)) := below_alloc (Below.refl _ _) _
  go_upto_region 1 with (fail)
  obtain ⟨W1, hW1⟩ : ∃ y, y = w.alloc (.cells (nodeC kd st A n c mi ma) 27) := ⟨_, rfl⟩
  rw [← hW1] at h1 hB1 ⊢
  clear hW1
  cases t
  · go_wp2_with (first | (refine wl_load_node rfl _ rfl _ rfl _ _ _ _ _ _ _ h1 ?_) | (go_at_call 43; refine (Hi.out _ (fun j hj => hB1.block j (by omega)) (by have := hB1.size; omega)).mono ?_; rintro e w5 ⟨rfl, hB5⟩) | (go_at_call 43; refine park ?_))
    go_ret
    exact ⟨congrArg (fun v => Ending.returned (.int .i64 v)) (by rw [HV.out]; rfl), below_then hB1 hB5⟩
  · go_wp2_with (first | (refine wl_load_node rfl _ rfl _ rfl _ _ _ _ _ _ _ h1 ?_) | (go_at_call 43; refine (Hi.out _ (fun j hj => hB1.block j (by omega)) (by have := hB1.size; omega)).mono ?_; rintro e w5 ⟨rfl, hB5⟩; replace h1 := blk_then h1 hB5; replace hB1 := below_then hB1 hB5) | (go_at_call 44; refine (Hp.out (by first | rfl | trivial) _ (fun j hj => hB1.block j (by omega)) (by have := hB1.size; omega)).mono ?_; rintro e w6 ⟨rfl, hB6⟩) | (go_at_call 43; refine park ?_) | (go_at_call 44; refine park ?_))
    all_goals
      go_ret
      exact ⟨congrArg (fun v => Ending.returned (.int .i64 v)) (by have h := HV.out; simp only [if_true] at h; omega), below_then hB1 hB6⟩
end Go.Proofs.Ytajainmldcnaeaa
namespace Go.Proofs.Ytajainmldcnaeaa
open Go.RowKit Go.Maps
set_option linter.unusedVariables false
set_option linter.unusedSimpArgs false
attribute [local go_sem] Oper.semAt_some

section
variable {α β : Type} {enc : α → Array Value} {enc2 : β → Array Value} {size size2 base base2 B g r : Nat} {e e2 t : TypeId} {W W' : World} {v v2 : Value} {ys : List α} {zs : List β} {cs : Array Value} {row : Option Nat}
theorem own_box (h : Own W base e size enc v ys) (hb : Blk W r t cs) (hg : W.grownBy W' (some r)) (hne : e ≠ t) : Own W' base e size enc v ys :=
  h.kept_ hg (fun j e1 e2 => by
    injection e2 with e2
    rcases h.2 with ⟨hv, _⟩ | ⟨g', cap, cur, hv, hge, hh, _⟩
    · rw [hv] at e1; cases e1
    · rw [hv] at e1
      have a1 : g' = j := by simpa [Value.ownBlock] using e1
      subst a1; subst e2
      unfold Blk at hb
      rw [hh] at hb
      injection hb with hb
      injection hb with _ hb
      exact hne hb)
theorem own_own (h : Own W base2 e2 size2 enc2 v2 zs) (ho : Own W base e size enc v ys) (hg : W.grownBy W' v.ownBlock) (hne : e ≠ e2) : Own W' base2 e2 size2 enc2 v2 zs :=
  h.kept_ hg (fun j e1 e3 => by
    rcases h.2 with ⟨hv, _⟩ | ⟨g', cap, cur, hv, hge, hh, _⟩
    · rw [hv] at e1; cases e1
    · rcases ho.2 with ⟨hv2, _⟩ | ⟨g2, cap2, cur2, hv2, hge2, hh2, _⟩
      · rw [hv2] at e3; cases e3
      · rw [hv] at e1; rw [hv2] at e3
        have a1 : g' = j := by simpa [Value.ownBlock] using e1
        have a2 : g2 = j := by simpa [Value.ownBlock] using e3
        subst a1; subst a2
        rw [hh] at hh2
        injection hh2 with hh2
        injection hh2 with _ hh2
        exact hne hh2.symm)
end
theorem run_edge1 (w : World) (y : Edg) : (Instr.buildSlice 49 1 #[(0, .agg (edgC y))]).run Try.prog w = .ok (.slice (some ⟨w.heap.size, 0, none⟩) 1 1) (w.alloc (.cells (edgC y) 67)) := by kernel_rfl
theorem build_edge (x : Edg) (w : World) : (Instr.build 67 #[(0, .int .i64 x.kd), (1, .int .i64 x.fr), (2, .int .i64 x.tt), (3, .agg (setC x.st))]).run Try.prog w = .ok (.agg (edgC x)) w := by kernel_rfl
theorem gs_build_edge {ops : Array Oper} {S : Nat → GSpec} {Q : Exit → Act → World → Prop} {i : Nat} {o : Oper} {a : Act} {w : World} (hw : Region.wanted o (yielded ops a.tmps) = true) (x0 x1 x2 x3 : Operand) (ho : o.op = .build 67 #[(0, x0), (1, x1), (2, x2), (3, x3)]) (x : Edg)
    (h0 : a.eval x0 = .int .i64 x.kd) (h1 : a.eval x1 = .int .i64 x.fr) (h2 : a.eval x2 = .int .i64 x.tt) (h3 : a.eval x3 = .agg (setC x.st)) (hp : (S i).p (.agg (edgC x)) w) : GStep Try.prog ops S Q i o a w :=
  gs_run hw (v := .agg (edgC x))
    (by
      have e : (#[(0, x0), (1, x1), (2, x2), (3, x3)] : Array (Nat × Operand)).map (fun (i, x) => (i, a.eval x)) = #[(0, .int .i64 x.kd), (1, .int .i64 x.fr), (2, .int .i64 x.tt), (3, .agg (setC x.st))] := by simp [h0, h1, h2, h3]
      unfold execOp; simp only [ho, e, Sem.run_bind, build_edge, Result.andThen_ok, Sem.run_pure])
    (Below.refl _ _) hp
/-- one edge, laid into a block of its own -/
def oneS (lo : Nat) (d : Edg) : GSpec := ⟨fun v w => ∃ g, v = .slice (some ⟨g, 0, none⟩) 1 1 ∧ lo ≤ g ∧ Blk w g 67 (edgC d), fun v w w' ⟨g, h1, h2, h3⟩ hb => ⟨g, h1, h2, blk_then h3 hb⟩⟩
/-- the row with one edge more -/
def moreS (lo k0 : Nat) (rw : Option Nat) (es : List Edg) : GSpec := ⟨fun v w => Own w lo 67 7 edgC v es ∧ (v.ownBlock = rw ∨ ∃ k, v.ownBlock = some k ∧ k0 ≤ k), fun v w w' ⟨h1, h2⟩ hb => ⟨h1.then_ hb, h2⟩⟩
theorem gs_one {ops : Array Oper} {S : Nat → GSpec} {Q : Exit → Act → World → Prop} {i : Nat} {o : Oper} {a : Act} {w : World} (hw : Region.wanted o (yielded ops a.tmps) = true) (x : Operand) (ho : o.op = .buildSlice 49 1 #[(0, x)]) {lo : Nat} (hlo : lo ≤ w.heap.size) (d : Edg) (hx : a.eval x = .agg (edgC d))
    (hp : ∀ v w', (oneS lo d).p v w' → (S i).p v w') : GStep Try.prog ops S Q i o a w :=
  gs_run hw (v := .slice (some ⟨w.heap.size, 0, none⟩) 1 1) (by unfold execOp; simp only [ho, List.map_toArray, List.map_cons, List.map_nil, hx, Sem.run_bind, run_edge1, Result.andThen_ok, Sem.run_pure]) (below_alloc (Below.refl _ _) _) (hp _ _ ⟨_, rfl, hlo, Blk.new _ _ _⟩)
theorem gs_more {rw : Option Nat} {i0 : Nat} {ops : Array Oper} {S : Nat → GSpec} {Q : Exit → Act → World → Prop} {o : Oper} {a : Act} {w : World} (hw : Region.wanted o (yielded ops a.tmps) = true) (x y : Operand) (ho : o.op = .call { callee := .builtin .append, args := #[x, y], argTypes := #[49, 49] })
    {lo k0 : Nat} (hlo : lo ≤ w.heap.size) (hk0 : k0 ≤ w.heap.size) (v : Value) (es : List Edg) (d : Edg) (hv : a.eval x = v) (hrw : v.ownBlock = rw) (hown : Own w lo 67 7 edgC v es) (hl : es.length ≤ 1099511627776) (lo2 : Nat) (hy : (oneS lo2 d).p (a.eval y) w)
    (hp : ∀ v w', (moreS lo k0 rw (es ++ [d])).p v w' → (S i0).p v w') : GStepR rw i0 Try.prog ops S Q i0 o a w := by
  obtain ⟨g, hy, _, hb⟩ := hy
  obtain ⟨i1, hi1, hz0, hz1, hz2⟩ := info_parts info_edge3
  obtain ⟨v', w', hrun, h2, h3, h4⟩ := run_append_slice (P := Try.prog) w lo 49 o.type 67 i1 _ 7 56 Try.underlying49 hi1 hz0 hz1 hz2 rfl (by decide) edgC_size edgC_one v es hown w.heap.size (some ⟨g, 0, none⟩) 1 1 [d] rfl (slice_one (enc := edgC) (size := 7) hb) (by unfold maxLen; omega) (by omega) hlo
  refine GStepR.run hw (v := v') (w' := w') ?_ (hrw ▸ h3) (hp _ _ ⟨h2, ?_⟩)
  · unfold execOp
    simp only [ho, resolve, invoke, builtin, Sem.run_bind, Sem.run_pure, Result.andThen_ok, List.map_toArray, List.map_cons, List.map_nil, hv, hy, hrun]
  · rcases h4 with h4 | h4
    · exact .inl (h4.trans hrw)
    · exact .inr ⟨_, h4, hk0⟩

/-- all blocks stay but those, from lo on, of the types t1 and t2 -/
structure Fr (t1 t2 : TypeId) (gk : Nat) (W W' : World) : Prop where
  os : W'.os = W.os
  tape : W'.tape = W.tape
  output : W'.output = W.output
  size : W.heap.size ≤ W'.heap.size
  block : ∀ i, i < W.heap.size → (i < gk ∨ ∀ t cs, Blk W i t cs → t ≠ t1 ∧ t ≠ t2) → W'.heap[i]? = W.heap[i]?
section
variable {t1 t2 : TypeId} {gk g : Nat} {W W' W2 : World} {t : TypeId} {cs : Array Value}
theorem Fr.below (h : Below W.heap.size W W') : Fr t1 t2 gk W W' := ⟨h.os, h.tape, h.output, h.size, fun i hi _ => h.block i hi⟩
theorem Fr.trans (h : Fr t1 t2 gk W W') (k : Fr t1 t2 gk W' W2) : Fr t1 t2 gk W W2 :=
  ⟨k.os.trans h.os, k.tape.trans h.tape, k.output.trans h.output, Nat.le_trans h.size k.size, fun i hi hd => by
    have h1 := h.block i hi hd
    refine (k.block i (Nat.lt_of_lt_of_le hi h.size) ?_).trans h1
    rcases hd with hd | hd
    · exact .inl hd
    · exact .inr fun t cs hb => hd t cs (h1.symm.trans hb)⟩
theorem Fr.blk (hg : W.grownBy W' (some g)) (hb : Blk W g t cs) (hk : gk ≤ g) (ht : t = t1 ∨ t = t2) : Fr t1 t2 gk W W' :=
  ⟨hg.os, hg.tape, hg.output, hg.size, fun i hi hd => hg.block i hi (by
    intro e
    injection e with e
    subst e
    rcases hd with hd | hd
    · omega
    · have := hd t cs hb
      rcases ht with ht | ht
      · exact this.1 ht
      · exact this.2 ht)⟩
theorem Fr.own {α : Type} {enc : α → Array Value} {size : Nat} {v : Value} {ys : List α} (ho : Own W gk t2 size enc v ys) (hg : W.grownBy W' v.ownBlock) : Fr t1 t2 gk W W' :=
  ⟨hg.os, hg.tape, hg.output, hg.size, fun i hi hd => hg.block i hi (by
    intro e
    rcases ho.2 with ⟨hv, _⟩ | ⟨g', cap, cur, hv, hge, hh, _⟩
    · rw [hv] at e; cases e
    · rw [hv] at e
      have a1 : g' = i := by simpa [Value.ownBlock] using e.symm
      subst a1
      rcases hd with hd | hd
      · omega
      · exact (hd _ _ hh).2 rfl)⟩
theorem blk_fr (h : Blk W g t cs) (hf : Fr t1 t2 gk W W') (ht : g < gk ∨ (t ≠ t1 ∧ t ≠ t2)) : Blk W' g t cs :=
  (hf.block g h.lt (by
    rcases ht with ht | ht
    · exact .inl ht
    · refine .inr fun t2 cs2 hb => ?_
      have h2 : some (Obj.cells cs t) = some (Obj.cells cs2 t2) := h.symm.trans hb
      injection h2 with h2
      injection h2 with _ h3
      rw [← h3]
      exact ht)).trans h
theorem Own.fr {α : Type} {enc : α → Array Value} {size base : Nat} {e : TypeId} {v : Value} {ys : List α} (h : Own W base e size enc v ys) (hf : Fr t1 t2 gk W W') (he : e ≠ t1 ∧ e ≠ t2) : Own W' base e size enc v ys := by
  obtain ⟨h1, h2⟩ := h
  refine ⟨h1, ?_⟩
  rcases h2 with h2 | ⟨g', cap, cur, hv, hge, hh, r⟩
  · exact .inl h2
  · exact .inr ⟨g', cap, cur, hv, hge, blk_fr (t := e) (cs := cur) hh hf (.inr he), r⟩
theorem Below.fr {b0 : Nat} {w : World} (h : Below b0 w W) (hf : Fr t1 t2 gk W W') (hb : b0 ≤ gk) (h0 : b0 ≤ W.heap.size) : Below b0 w W' :=
  ⟨hf.os.trans h.os, hf.tape.trans h.tape, hf.output.trans h.output, Nat.le_trans h.size hf.size, fun i hi => (hf.block i (by omega) (.inl (by omega))).trans (h.block i hi)⟩
theorem NdIn.fr {B : Nat} {nd : Nd} {cs : Array Value} (h : NdIn W B nd cs) (hf : Fr t1 t2 gk W W') (hb : B ≤ gk) (h0 : B ≤ W.heap.size) : NdIn W' B nd cs := h.keep fun k hk => hf.block k (by omega) (.inl (by omega))
end
/-- a maker at block gk, its edges from block lo on -/
def MkIs (t : TypeId) (mc : Int → Value → Array Value) (W : World) (gk lo : Nat) (m : Ly) : Prop :=
  ∃ v, Blk W gk t (mc m.s v) ∧ Own W lo 67 7 edgC v m.e ∧ lo ≤ gk
def mkP (s : Int) (v : Value) : Array Value := #[.int .i64 s, v, .slice none 0 0]
theorem MkIs.then_ {t : TypeId} {mc : Int → Value → Array Value} {W W' : World} {gk lo : Nat} {m : Ly} (h : MkIs t mc W gk lo m) (hb : Below W.heap.size W W') : MkIs t mc W' gk lo m := by
  obtain ⟨v, h1, h2, h3⟩ := h
  exact ⟨v, blk_then h1 hb, h2.then_ hb, h3⟩
theorem MkIs.lt {t : TypeId} {mc : Int → Value → Array Value} {W : World} {gk lo : Nat} {m : Ly} (h : MkIs t mc W gk lo m) : lo ≤ gk ∧ gk < W.heap.size := by
  obtain ⟨v, h1, h2, h3⟩ := h
  exact ⟨h3, h1.lt⟩
theorem field_maker_0 (b off : Nat) (w : World) : (Instr.fieldAt 90 (.pointer (some ⟨b, off, none⟩)) 0).run Try.prog w = .ok (.pointer (some ⟨b, off, none⟩)) w := by kernel_rfl
theorem info_edges1 : (Try.prog.info? 49).map (·.size) = some 1 := by kernel_rfl

set_option maxRecDepth 100000 in
set_option maxHeartbeats 4000000 in
theorem pstate_any (gk lo : Nat) (m : Ly) (w : World) (h : MkIs 90 mkP w gk lo m) (hm : m.s ≤ 1048576) :
    Calls Try.prog 50 #[.pointer (some ⟨gk, 0, none⟩)] w fun e w' => e = .returned (.int .i64 (m.s : Int)) ∧ MkIs 90 mkP w' gk lo m.new ∧ Fr 90 67 lo w w' := by
  obtain ⟨v, h1, h2, h3⟩ := h
  obtain ⟨s, es⟩ := m
  simp only at h1 h2 hm
  have hfb := Fr.blk (t1 := 90) (t2 := 67) (gk := lo) (only_setCell (only_refl w (some gk)) (p := ⟨gk, 0, none⟩) (.inl rfl) (.int .i64 ((s : Int) + 1))) h1 h3 (.inl rfl)
  have hg := only_setCell (only_refl w (some gk)) (p := ⟨gk, 0, none⟩) (.inl rfl) (.int .i64 ((s : Int) + 1))
  have c0 : w.cell? ⟨gk, 0, none⟩ = some (.int .i64 (s : Int)) := h1.cellv (i := 0) rfl
  have f0 := h1.frozen 0
  go_enter Try.func50, Try.ntmps50
  go_upto_region 2 with (fail)
  have h4 : Blk (w.setCell ⟨gk, 0, none⟩ (.int .i64 ((s : Int) + 1))) gk 90 (mkP ((s + 1 : Nat) : Int) v) := h1.set_eq rfl
  have h5 := own_box h2 h1 hg (by decide)
  obtain ⟨w2, hw2⟩ : ∃ y, y = w.setCell ⟨gk, 0, none⟩ (.int .i64 ((s : Int) + 1)) := ⟨_, rfl⟩
  rw [← hw2] at h4 h5 hfb ⊢
  clear hw2 c0 f0 hg h2 h1
  have c0 : w2.cell? ⟨gk, 0, none⟩ = some (.int .i64 ((s : Int) + 1)) := h4.cellv (i := 0) rfl
  go_wp2_with (fail)
  go_ret
  exact ⟨congrArg (fun v => Ending.returned (.int .i64 v)) (by omega), ⟨v, h4, h5, h3⟩, hfb⟩
set_option maxRecDepth 100000 in
set_option maxHeartbeats 4000000 in
theorem pedge_any (gk lo : Nat) (m : Ly) (kd : Int) (fr tt : Nat) (st : BSet) (w : World) (h : MkIs 90 mkP w gk lo m) (hm : m.e.length ≤ 1048576) :
    Calls Try.prog 99 #[.pointer (some ⟨gk, 0, none⟩), .int .i64 kd, .int .i64 (fr : Int), .int .i64 (tt : Int), .agg (setC st)] w fun e w' => e = .returned (.tuple #[]) ∧ MkIs 90 mkP w' gk lo (m.edge kd fr tt st) ∧ Fr 90 67 lo w w' := by
  obtain ⟨v, hk1, hk2, hlo⟩ := h
  obtain ⟨s, es⟩ := m
  simp only at hk1 hk2 hm
  have hgl := hk1.lt
  go_enter Try.func99, Try.ntmps99
  have h9 := Blk.new w 24 (setC st)
  have hB1 : Below w.heap.size w (w.alloc (.cells (setC st) 24)) := below_alloc (Below.refl _ _) _
  go_upto_region 1 with (fail)
  obtain ⟨w1, hw1⟩ : ∃ y, y = w.alloc (.cells (setC st) 24) := ⟨_, rfl⟩
  rw [← hw1] at h9 hB1 ⊢
  clear hw1
  replace hk1 := blk_then hk1 hB1
  replace hk2 := hk2.then_ hB1
  have hl1 := h9.lt
  have hlt0 := hk2.lt
  have hne_9 : some w.heap.size ≠ v.ownBlock := fun e => own_blk_ne hk2 h9 (by decide) e.symm
  have hne_gk : some gk ≠ v.ownBlock := fun e => own_blk_ne hk2 hk1 (by decide) e.symm
  obtain ⟨rw0, hrw⟩ : ∃ y, v.ownBlock = y := ⟨_, rfl⟩
  rw [hrw] at hne_9 hne_gk hlt0
  refine wp_region_stepsR (rw := rw0) (i0 := 12) 16 [eqS (.pointer (some ⟨gk, 0, none⟩)), eqS (.pointer (some ⟨gk, 0, none⟩)), eqS (.pointer (some ⟨gk, 0, none⟩)), eqS (.pointer (some ⟨gk, 0, none⟩)), eqS (.pointer (some ⟨gk, 1, none⟩)), eqS v, eqS (.int .i64 kd), eqS (.int .i64 (fr : Int)), eqS (.int .i64 (tt : Int)), eqS (.agg (setC st)), eqS (.agg (edgC ⟨kd, fr, tt, st⟩)), oneS w1.heap.size ⟨kd, fr, tt, st⟩, moreS lo w1.heap.size rw0 (es ++ [⟨kd, fr, tt, st⟩]), eqS (.pointer (some ⟨gk, 0, none⟩)), eqS (.pointer (some ⟨gk, 0, none⟩)), eqS (.pointer (some ⟨gk, 1, none⟩))] [10, 11, 12, 13, 14, 15, 16, 17, 18, 19, 20, 21, 22, 23, 24, 25] rfl ?_ (by kernel_rfl) rfl ?_ ?_
  · intro j hj v wa wb hp hg
    match j, hj, hp with
    | 0, _, hp => exact hp
    | 1, _, hp => exact hp
    | 2, _, hp => exact hp
    | 3, _, hp => exact hp
    | 4, _, hp => exact hp
    | 5, _, hp => exact hp
    | 6, _, hp => exact hp
    | 7, _, hp => exact hp
    | 8, _, hp => exact hp
    | 9, _, hp => exact hp
    | 10, _, hp => exact hp
    | 11, _, hp =>
      obtain ⟨g, q1, q2, q3⟩ := hp
      exact ⟨g, q1, q2, q3.grown hg (fun e => by have := (hlt0 g e.symm).2; omega)⟩
    | 12, hj, _ => exact absurd rfl hj
    | 13, _, hp => exact hp
    | 14, _, hp => exact hp
    | 15, _, hp => exact hp
    | j + 16, _, hp => exact hp
  · skip
    refine StepsR.cons (fun a' w' hG hW hP dep => GStepR.of (gs_move (want_none rfl) _ rfl (hG.other 0 rfl))) ?_
    refine StepsR.cons (fun a' w' hG hW hP dep => GStepR.of (gs_move (want_none rfl) _ rfl (hG.other 0 rfl))) ?_
    refine StepsR.cons (fun a' w' hG hW hP dep => GStepR.of (gs_nil (want_none rfl) _ rfl _ (dep 1 rfl 11 rfl) rfl)) ?_
    refine StepsR.cons (fun a' w' hG hW hP dep => GStepR.of (gs_field (want_none rfl) _ _ _ rfl gk 0 0 (dep 2 rfl 12 rfl) (fun wz => field_maker_0 gk 0 wz) rfl)) ?_
    refine StepsR.cons (fun a' w' hG hW hP dep => GStepR.of (gs_field (want_none rfl) _ _ _ rfl gk 0 1 (dep 3 rfl 13 rfl) (fun wz => field_nfa_1 gk 0 wz) rfl)) ?_
    refine StepsR.cons (fun a' w' hG hW hP dep => GStepR.of (gs_load1 (want_none rfl) _ _ rfl gk 1 (dep 4 rfl 14 rfl) v ((hk1.grown hW hne_gk).cellv (i := 1) rfl) _ Try.underlying49 rfl rfl)) ?_
    refine StepsR.cons (fun a' w' hG hW hP dep => GStepR.of (gs_move (want_none rfl) _ rfl (hG.other 1 rfl))) ?_
    refine StepsR.cons (fun a' w' hG hW hP dep => GStepR.of (gs_move (want_none rfl) _ rfl (hG.other 2 rfl))) ?_
    refine StepsR.cons (fun a' w' hG hW hP dep => GStepR.of (gs_move (want_none rfl) _ rfl (hG.other 3 rfl))) ?_
    refine StepsR.cons (fun a' w' hG hW hP dep => GStepR.of (gs_load_set_at (want_none rfl) _ rfl w.heap.size 0 (hG.other 9 rfl) st (RowAt.of_blk (h9.grown hW hne_9)) rfl)) ?_
    refine StepsR.cons (fun a' w' hG hW hP dep => GStepR.of (gs_build_edge (want_none rfl) _ _ _ _ rfl ⟨kd, fr, tt, st⟩ (dep 6 rfl 16 rfl) (dep 7 rfl 17 rfl) (dep 8 rfl 18 rfl) (dep 9 rfl 19 rfl) rfl)) ?_
    refine StepsR.cons (fun a' w' hG hW hP dep => GStepR.of (gs_one (want_none rfl) _ rfl (lo := w1.heap.size) hW.size ⟨kd, fr, tt, st⟩ (dep 10 rfl 20 rfl) (fun _ _ h => h))) ?_
    refine StepsR.cons (fun a' w' hG hW hP dep => gs_more (want_none rfl) _ _ rfl (lo := lo) (k0 := w1.heap.size) (by have := hW.size; omega) hW.size v _ ⟨kd, fr, tt, st⟩ (dep 5 rfl 15 rfl) hrw (hk2.then_ (hP rfl)) (by omega) w1.heap.size (dep 11 rfl 21 rfl) (fun _ _ h => h)) ?_
    refine StepsR.cons (fun a' w' hG hW hP dep => GStepR.of (gs_nil (want_none rfl) _ rfl _ (dep 0 rfl 10 rfl) rfl)) ?_
    refine StepsR.cons (fun a' w' hG hW hP dep => GStepR.of (gs_field (want_none rfl) _ _ _ rfl gk 0 0 (dep 13 rfl 23 rfl) (fun wz => field_maker_0 gk 0 wz) rfl)) ?_
    refine StepsR.cons (fun a' w' hG hW hP dep => GStepR.of (gs_field (want_none rfl) _ _ _ rfl gk 0 1 (dep 14 rfl 24 rfl) (fun wz => field_nfa_1 gk 0 wz) rfl)) ?_
    exact StepsR.nil
  intro uf w7 hW7 ans
  obtain ⟨hv7, hat7⟩ := ans 12 22 (by decide) rfl
  have hf : uf 25 = .pointer (some ⟨gk, 1, none⟩) := ans 15 25 (by decide) rfl
  obtain ⟨v7, hv8⟩ : ∃ v7, v7 = uf 22 := ⟨_, rfl⟩
  rw [← hv8] at hv7
  clear ans hat7
  simp only [putAll, List.foldl_cons, List.foldl_nil, Act.put, List.setIfInBounds_toArray, List.set_cons_zero, List.set_cons_succ, hf, ← hv8]
  clear hf hv8
  obtain ⟨A7, k7, rfl, _, _⟩ := hv7.shape
  simp only [List.drop]
  have hk7 : Blk w7 gk _ _ := hk1.grown hW7 hne_gk
  refine wl_store_cell rfl _ _ _ rfl gk 1 rfl _ _ (mkP (s : Int) (.slice A7 _ k7)) hk7 (by simp [mkP]) info_edges1 rfl rfl rfl ?_
  intro w8 h8 hg8
  have hF1 : Fr 90 67 lo w w1 := Fr.below hB1
  have hF2 : Fr 90 67 lo w1 w7 := Fr.own hk2 (hrw ▸ hW7)
  have hF3 : Fr 90 67 lo w7 w8 := Fr.blk hg8 hk7 hlo (.inl rfl)
  have hv8 := own_box hv7 hk7 hg8 (by decide)
  clear hk2 hk7 hv7 hg8 hW7 h9 hlt0 hrw
  refine wpList_nil ?_
  go_wp2_with (fail)
  first | (refine bodyPost_end (results_none rfl _ _ _) rfl ?_) | (refine bodyPost_ret (results_none rfl _ _ _) rfl ?_)
  exact ⟨rfl, ⟨_, h8, hv8, hlo⟩, (hF1.trans hF2).trans hF3⟩
set_option maxRecDepth 100000 in
set_option maxHeartbeats 4000000 in
theorem pfree_any (gk lo : Nat) (m : Ly) (fr tt : Nat) (w : World) (h : MkIs 90 mkP w gk lo m) (hm : m.e.length ≤ 1048576) :
    Calls Try.prog 86 #[.pointer (some ⟨gk, 0, none⟩), .int .i64 (fr : Int), .int .i64 (tt : Int)] w fun e w' => e = .returned (.tuple #[]) ∧ MkIs 90 mkP w' gk lo (m.free fr tt) ∧ Fr 90 67 lo w w' := by
  have hc := pedge_any gk lo m 1 fr tt 0 w h hm
  go_enter Try.func86, Try.ntmps86
  go_wp2_with (first | (refine wl_build_set0 rfl rfl ?_) | (go_at_call 99; refine hc.mono ?_; rintro e w5 ⟨rfl, h5, hf5⟩) | (go_at_call 99; refine park ?_))
  first | (refine bodyPost_end (results_none rfl _ _ _) rfl ?_) | (refine bodyPost_ret (results_none rfl _ _ _) rfl ?_)
  exact ⟨rfl, h5, hf5⟩

end Go.Proofs.Ytajainmldcnaeaa
