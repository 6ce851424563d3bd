/- A line with one part more; what a line that is read holds. Plain; no condition beyond those named in each lemma. -/
import Derived.Test.YtjplgcmfifoefaaDoorQtW
namespace Go.Proofs.YtjplgcmfifoefaaDoor
set_option linter.unusedVariables false
set_option linter.unusedSimpArgs false

theorem nib_ord {p : UInt8} {x : Nat} (h : nib p = some x) : p.toNat ≠ 34 ∧ p.toNat ≠ 92 := by
  unfold nib at h
  constructor <;> intro e <;> simp [e] at h
def esc3 : Bs → Option (UInt8 × Nat)
  | p :: q :: _ => (match nib p, nib q with
    | some x, some y => some (UInt8.ofNat (16 * x + y), 3)
    | _, _ => none)
  | _ => none
theorem escL_cons (a : UInt8) (u : Bs) : escL (a :: u) = if a.toNat = 34 ∨ a.toNat = 92 then some (a, 1) else if a.toNat = 110 then some (10, 1) else if a.toNat = 116 then some (9, 1) else if a.toNat = 120 then esc3 u else none := by
  cases u with
  | nil => rfl
  | cons p u =>
    cases u with
    | nil => rfl
    | cons q u => rfl
theorem esc3_form {u : Bs} {b : UInt8} {n : Nat} (h : esc3 u = some (b, n)) : ∃ p q v, u = p :: q :: v ∧ n = 3 ∧ p.toNat ≠ 34 ∧ p.toNat ≠ 92 ∧ q.toNat ≠ 34 ∧ q.toNat ≠ 92 := by
  cases u with
  | nil => cases h
  | cons p u =>
    cases u with
    | nil => cases h
    | cons q u =>
      have h2 : (match nib p, nib q with
        | some x, some y => some (UInt8.ofNat (16 * x + y), 3)
        | _, _ => none) = some (b, n) := h
      cases hp : nib p with
      | none => rw [hp] at h2; cases h2
      | some x =>
        cases hq : nib q with
        | none => rw [hp, hq] at h2; cases h2
        | some y =>
          rw [hp, hq] at h2
          have h3 := (Prod.mk.inj (Option.some.inj h2)).2
          exact ⟨p, q, u, rfl, h3.symm, (nib_ord hp).1, (nib_ord hp).2, (nib_ord hq).1, (nib_ord hq).2⟩
theorem esc_form {t : Bs} {b : UInt8} {n : Nat} (h : escL t = some (b, n)) : (∃ a u, t = a :: u ∧ n = 1) ∨ (∃ a p q u, t = a :: p :: q :: u ∧ n = 3 ∧ p.toNat ≠ 34 ∧ p.toNat ≠ 92 ∧ q.toNat ≠ 34 ∧ q.toNat ≠ 92) := by
  cases t with
  | nil => cases h
  | cons a u =>
    rw [escL_cons] at h
    split at h
    · exact .inl ⟨a, u, rfl, ((Prod.mk.inj (Option.some.inj h)).2).symm⟩
    · split at h
      · exact .inl ⟨a, u, rfl, ((Prod.mk.inj (Option.some.inj h)).2).symm⟩
      · split at h
        · exact .inl ⟨a, u, rfl, ((Prod.mk.inj (Option.some.inj h)).2).symm⟩
        · split at h
          · obtain ⟨p, q, v, rfl, hr⟩ := esc3_form h
            exact .inr ⟨a, p, q, v, rfl, hr⟩
          · cases h
theorem sc_ord (c : UInt8) (t : Bs) (f : Nat) (h1 : c.toNat ≠ 34) (h2 : c.toNat ≠ 92) : sc (f + 1) (c :: t) = 1 + sc f t := by
  rw [sc, if_neg h1, if_neg h2]
/-- what is read as a quoted word's inside ends where the scan says -/
theorem unq_sc : ∀ (g : Nat) (u : Bs), (unqG g u).isSome = true → ∀ (R : Bs) (f : Nat), u.length < f → sc f (u ++ 34 :: R) = u.length
  | g, [], _, R, f, _ => sc_34 f R
  | 0, _ :: _, h, _, _, _ => by cases h
  | g + 1, c :: t, h, R, f, hf => by
    obtain ⟨f, rfl⟩ : ∃ e, f = e + 1 := ⟨f - 1, by simp at hf; omega⟩
    rw [unqG] at h
    split at h
    · rename_i hc
      cases he : escL t with
      | none => rw [he] at h; cases h
      | some bn =>
        obtain ⟨b, n⟩ := bn
        rw [he] at h
        simp only [Option.isSome_map] at h
        show sc (f + 1) (c :: (t ++ 34 :: R)) = _
        rw [sc, if_neg (by omega), if_pos hc]
        rcases esc_form he with ⟨a, u, rfl, rfl⟩ | ⟨a, p, q, u, rfl, rfl, h1, h2, h3, h4⟩
        · show 2 + sc f (u ++ 34 :: R) = _
          rw [unq_sc g u h R f (by simp at hf ⊢; omega)]
          simp only [List.length_cons]
          omega
        · obtain ⟨f, rfl⟩ : ∃ e, f = e + 1 + 1 := ⟨f - 2, by simp at hf; omega⟩
          show 2 + sc (f + 1 + 1) (p :: q :: (u ++ 34 :: R)) = _
          rw [sc_ord p _ _ h1 h2, sc_ord q _ _ h3 h4, unq_sc g u h R f (by simp at hf ⊢; omega)]
          simp only [List.length_cons]
          omega
    · rename_i hc
      split at h
      · cases h
      · rename_i hc2
        simp only [Option.isSome_map] at h
        show sc (f + 1) (c :: (t ++ 34 :: R)) = _
        rw [sc_ord c _ _ (fun e => hc2 (.inr (.inr e))) hc, unq_sc g t h R f (by simp at hf ⊢; omega)]
        simp only [List.length_cons]
        omega
theorem unq_form {w : Bs} (h : (unq w).isSome = true) (h0 : w.getD 0 0 = 34) : ∃ u g, w = 34 :: (u ++ [34]) ∧ (unqG g u).isSome = true := by
  have hne : isPl w = false := by
    cases w with
    | nil => cases h0
    | cons a t =>
      have : a = 34 := h0
      rw [this]
      exact isPl_34 t
  unfold unq at h
  rw [if_neg (by simp [hne])] at h
  split at h
  · cases h
  · rename_i hc
    have h1 : 2 ≤ w.length := by omega
    have h2 : w.getD (w.length - 1) 0 = 34 := Classical.byContradiction fun e => hc (.inr (.inr e))
    refine ⟨(w.drop 1).take (w.length - 2), _, ?_, h⟩
    cases w with
    | nil => simp at h1
    | cons a t =>
      have e0 : a = 34 := h0
      subst e0
      congr 1
      have hl : 1 ≤ t.length := by simpa using h1
      have e1 : (34 :: t).length - 2 = t.length - 1 := by simp
      rw [e1]
      show t = t.take (t.length - 1) ++ [34]
      have e2 : t.getD (t.length - 1) 0 = 34 := by
        have e3 : (34 :: t).length - 1 = (t.length - 1) + 1 := by simp; omega
        rw [e3] at h2
        exact h2
      have e4 := List.take_append_drop (t.length - 1) t
      rw [List.drop_eq_getElem_cons (show t.length - 1 < t.length by omega), List.drop_eq_nil_of_le (by omega)] at e4
      rw [List.getD_eq_getElem?_getD, List.getElem?_eq_getElem (show t.length - 1 < t.length by omega)] at e2
      simp only [Option.getD_some] at e2
      rw [e2] at e4
      exact e4.symm
theorem cut_app (m R : Bs) (hne : m ≠ []) (hR : ∃ t, R = 32 :: t) (hu : (unq (m.take (cutN m))).isSome = true) : cutN (m ++ R) = cutN m := by
  obtain ⟨a, t, rfl⟩ := List.exists_cons_of_ne_nil hne
  by_cases ha : a = 34
  · subst ha
    have hn1 : 1 ≤ cutN (34 :: t) := cutN_pos (by decide)
    have hn2 : cutN (34 :: t) ≤ (34 :: t).length := cutN_le _
    obtain ⟨u, g, hw, hug⟩ := unq_form hu (by
      obtain ⟨k, hk⟩ : ∃ k, cutN (34 :: t) = k + 1 := ⟨cutN (34 :: t) - 1, by omega⟩
      rw [hk]
      rfl)
    have hm := List.take_append_drop (cutN (34 :: t)) (34 :: t)
    rw [hw] at hm
    obtain ⟨r, hr⟩ : ∃ r, (34 :: t).drop (cutN (34 :: t)) = r := ⟨_, rfl⟩
    rw [hr] at hm
    have ht : t = u ++ 34 :: r := by
      have h9 := (List.cons.inj hm).2
      rw [← h9]
      simp
    have hlen : t.length = u.length + 1 + r.length := by rw [ht]; simp; omega
    have e1 : cutN (34 :: t) = min (2 + sc (34 :: t).length t) (34 :: t).length := if_pos rfl
    have e2 : cutN ((34 :: t) ++ R) = min (2 + sc ((34 :: t) ++ R).length (t ++ R)) ((34 :: t) ++ R).length := if_pos rfl
    rw [e1, e2]
    have s1 : sc (34 :: t).length t = u.length := by
      have h9 := unq_sc g u hug r ((34 :: t).length) (by simp; omega)
      rw [← ht] at h9
      exact h9
    have s2 : sc ((34 :: t) ++ R).length (t ++ R) = u.length := by
      have h9 := unq_sc g u hug (r ++ R) (((34 :: t) ++ R).length) (by simp; omega)
      rw [← List.cons_append, ← List.append_assoc, ← ht] at h9
      exact h9
    rw [s1, s2]
    simp only [List.length_append, List.length_cons]
    omega
  · have e1 : ∀ l, cutN (a :: l) = (a :: l).findIdx (· == 32) := fun l => if_neg ha
    rw [List.cons_append, e1, e1, ← List.cons_append, List.findIdx_append]
    obtain ⟨t2, rfl⟩ := hR
    split
    · rfl
    · rename_i h
      have h2 := List.findIdx_le_length (p := (· == 32)) (xs := a :: t)
      rw [List.findIdx_cons (p := (· == 32)) (b := 32)]
      simp only [beq_self_eq_true, cond_true, if_true]
      omega
theorem dw_app : ∀ (L R : Bs), L.dropWhile (· == 32) ≠ [] → (L ++ R).dropWhile (· == 32) = L.dropWhile (· == 32) ++ R
  | [], R, h => absurd rfl h
  | b :: L, R, h => by
    by_cases hb : (b == 32) = true
    · rw [List.dropWhile_cons_of_pos (p := fun y => y == 32) hb] at h
      rw [List.cons_append, List.dropWhile_cons_of_pos (p := fun y => y == 32) hb, List.dropWhile_cons_of_pos (p := fun y => y == 32) hb]
      exact dw_app L R h
    · rw [List.cons_append, List.dropWhile_cons_of_neg (p := fun y => y == 32) hb, List.dropWhile_cons_of_neg (p := fun y => y == 32) hb, List.cons_append]
theorem dw_nil : ∀ (L : Bs), L.dropWhile (· == 32) = [] → blank L
  | [], _ => by intro b hb; cases hb
  | b :: L, h => by
    by_cases hb : (b == 32) = true
    · rw [List.dropWhile_cons_of_pos (p := fun y => y == 32) hb] at h
      intro c hc
      rcases List.mem_cons.1 hc with rfl | hc
      · exact beq_iff_eq.1 hb
      · exact dw_nil L h c hc
    · rw [List.dropWhile_cons_of_neg (p := fun y => y == 32) hb] at h
      cases h
theorem parts_one (g : Nat) (hg : 2 ≤ g) : partsG g [32, 49] = some [[49]] := by
  obtain ⟨g, rfl⟩ : ∃ e, g = e + 2 := ⟨g - 2, by omega⟩
  rfl
/-- one part more -/
theorem parts_app : ∀ (f : Nat) (L : Bs) (ws : List Bs), partsG f L = some ws → ∀ g, L.length + 2 < g → partsG g (L ++ [32, 49]) = some (ws ++ [[49]])
  | 0, L, ws, h, _, _ => by cases h
  | f + 1, L, ws, h, g, hg => by
    obtain ⟨g, rfl⟩ : ∃ e, g = e + 1 := ⟨g - 1, by omega⟩
    rw [partsG] at h
    split at h
    · rename_i hm
      injection h with h
      subst h
      rw [parts_blank _ _ _ (dw_nil L hm)]
      exact parts_one _ (by omega)
    · rename_i hm
      split at h
      · rename_i hc
        obtain ⟨vs, hv, rfl⟩ := Option.map_eq_some_iff.1 h
        obtain ⟨m, hmm⟩ : ∃ m, L.dropWhile (· == 32) = m := ⟨_, rfl⟩
        have hdl := (List.dropWhile_sublist (l := L) (· == 32)).length_le
        have hda := dw_app L [32, 49] hm
        rw [hmm] at hv hm hc hdl hda ⊢
        obtain ⟨k, hk⟩ : ∃ k, cutN m = k := ⟨_, rfl⟩
        have hk1 : 1 ≤ k := by
          obtain ⟨x, t, hx⟩ := List.exists_cons_of_ne_nil hm
          rw [← hk, hx]
          exact cutN_pos (dw_head _ _ _ (hmm.trans hx))
        have hk2 : k ≤ m.length := by rw [← hk]; exact cutN_le m
        have hca := cut_app m [32, 49] hm ⟨_, rfl⟩ hc.2
        rw [hk] at hv hc hca ⊢
        have hih := parts_app f (m.drop k) vs hv g (by rw [List.length_drop]; omega)
        have hcond : (k = (m ++ [32, 49]).length ∨ (m ++ [32, 49]).getD k 0 = 32) ∧ (unq (m.take k)).isSome = true := by
          refine ⟨.inr ?_, hc.2⟩
          rcases hc.1 with h1 | h1
          · rw [List.getD_eq_getElem?_getD, h1, List.getElem?_append_right (Nat.le_refl _), Nat.sub_self]
            rfl
          · have hlt : k < m.length := by
              rcases Nat.lt_or_ge k m.length with h2 | h2
              · exact h2
              · rw [List.getD_eq_getElem?_getD, List.getElem?_eq_none h2] at h1
                cases h1
            rw [List.getD_eq_getElem?_getD, List.getElem?_append_left hlt, ← List.getD_eq_getElem?_getD]
            exact h1
        rw [partsG, hda, if_neg (by simp), hca, List.take_append_of_le_length hk2, List.drop_append_of_le_length hk2, hih, if_pos hcond]
        simp
      · cases h
/-- a reading leaves alone what no letter names -/
theorem read_keeps : ∀ (cs : Bs) (ws : List Bs) (e e' : Ev), readG cs ws e = some e' → e'.kind = e.kind ∧ (110 ∉ cs → e'.name = e.name) ∧ (111 ∉ cs → e'.other = e.other) ∧ (100 ∉ cs → e'.data = e.data) ∧ (121 ∉ cs → e'.yes = e.yes) ∧ (107 ∉ cs → e'.keep = e.keep) ∧
    ((∀ c ∈ cs, c = 110 ∨ c = 111 ∨ c = 100 ∨ c = 121 ∨ c = 107) → e'.n = e.n)
  | [], [], e, e', h => by
    injection h with h
    subst h
    exact ⟨rfl, fun _ => rfl, fun _ => rfl, fun _ => rfl, fun _ => rfl, fun _ => rfl, fun _ => rfl⟩
  | [], _ :: _, _, _, h => by cases h
  | _ :: _, [], _, _, h => by cases h
  | c :: cs, w :: ws, e, e', h => by
    rw [readG] at h
    obtain ⟨e1, h1, h2⟩ := Option.bind_eq_some_iff.1 h
    obtain ⟨i1, i2, i3, i4, i5, i6, i7⟩ := read_keeps cs ws e1 e' h2
    have key : e1.kind = e.kind ∧ (c ≠ 110 → e1.name = e.name) ∧ (c ≠ 111 → e1.other = e.other) ∧ (c ≠ 100 → e1.data = e.data) ∧ (c ≠ 121 → e1.yes = e.yes) ∧ (c ≠ 107 → e1.keep = e.keep) ∧ ((c = 110 ∨ c = 111 ∨ c = 100 ∨ c = 121 ∨ c = 107) → e1.n = e.n) := by
      unfold takeC' at h1
      by_cases a1 : c = 110
      · rw [if_pos a1] at h1
        injection h1 with h1
        subst h1
        exact ⟨rfl, fun h => absurd a1 h, fun _ => rfl, fun _ => rfl, fun _ => rfl, fun _ => rfl, fun _ => rfl⟩
      rw [if_neg a1] at h1
      by_cases a2 : c = 111
      · rw [if_pos a2] at h1
        injection h1 with h1
        subst h1
        exact ⟨rfl, fun _ => rfl, fun h => absurd a2 h, fun _ => rfl, fun _ => rfl, fun _ => rfl, fun _ => rfl⟩
      rw [if_neg a2] at h1
      by_cases a3 : c = 100
      · rw [if_pos a3] at h1
        injection h1 with h1
        subst h1
        exact ⟨rfl, fun _ => rfl, fun _ => rfl, fun h => absurd a3 h, fun _ => rfl, fun _ => rfl, fun _ => rfl⟩
      rw [if_neg a3] at h1
      by_cases a4 : c = 121
      · rw [if_pos a4] at h1
        split at h1
        · injection h1 with h1
          subst h1
          exact ⟨rfl, fun _ => rfl, fun _ => rfl, fun _ => rfl, fun h => absurd a4 h, fun _ => rfl, fun _ => rfl⟩
        · split at h1
          · injection h1 with h1
            subst h1
            exact ⟨rfl, fun _ => rfl, fun _ => rfl, fun _ => rfl, fun h => absurd a4 h, fun _ => rfl, fun _ => rfl⟩
          · cases h1
      rw [if_neg a4] at h1
      by_cases a5 : c = 107
      · rw [if_pos a5] at h1
        obtain ⟨v, _, h1⟩ := Option.map_eq_some_iff.1 h1
        subst h1
        exact ⟨rfl, fun _ => rfl, fun _ => rfl, fun _ => rfl, fun _ => rfl, fun h => absurd a5 h, fun _ => rfl⟩
      rw [if_neg a5] at h1
      obtain ⟨v, _, h1⟩ := Option.map_eq_some_iff.1 h1
      subst h1
      exact ⟨rfl, fun _ => rfl, fun _ => rfl, fun _ => rfl, fun _ => rfl, fun _ => rfl, fun h => by
        rcases h with h | h | h | h | h
        · exact absurd h a1
        · exact absurd h a2
        · exact absurd h a3
        · exact absurd h a4
        · exact absurd h a5⟩
    obtain ⟨j1, j2, j3, j4, j5, j6, j7⟩ := key
    have nm : ∀ x : UInt8, x ∉ c :: cs → c ≠ x ∧ x ∉ cs := fun x h => ⟨fun e => h (by rw [e]; exact List.mem_cons_self), fun m => h (List.mem_cons_of_mem _ m)⟩
    exact ⟨i1.trans j1, fun h => (i2 (nm _ h).2).trans (j2 (nm _ h).1), fun h => (i3 (nm _ h).2).trans (j3 (nm _ h).1), fun h => (i4 (nm _ h).2).trans (j4 (nm _ h).1), fun h => (i5 (nm _ h).2).trans (j5 (nm _ h).1), fun h => (i6 (nm _ h).2).trans (j6 (nm _ h).1),
      fun h => (i7 fun d hd => h d (List.mem_cons_of_mem _ hd)).trans (j7 (h c List.mem_cons_self))⟩
/-- an event that is read has nothing but what its kind uses -/
theorem read_used (k : Nat) (h1 : 1 ≤ k) (h2 : k ≤ 12) (ws : List Bs) (e' : Ev) (h : readE k ws = some e') : usedE e' = e' ∧ e'.kind = k := by
  obtain ⟨q0, q1, q2, q3, q4, q5, q6⟩ := read_keeps _ _ _ _ h
  refine ⟨?_, q0⟩
  obtain ⟨kind, name, other, data, n, yes, keep⟩ := e'
  simp only [ev0] at q0 q1 q2 q3 q4 q5 q6
  subst q0
  rcases (by omega : k = 1 ∨ k = 2 ∨ k = 3 ∨ k = 4 ∨ k = 5 ∨ k = 6 ∨ k = 7 ∨ k = 8 ∨ k = 9 ∨ k = 10 ∨ k = 11 ∨ k = 12) with rfl | rfl | rfl | rfl | rfl | rfl | rfl | rfl | rfl | rfl | rfl | rfl
  · rw [show letsOf 1 ws.length = [110] from rfl] at q2 q3 q4 q5 q6
    rw [q2 (by decide), q3 (by decide), q4 (by decide), q5 (by decide), q6 (by decide)]; rfl
  · rw [show letsOf 2 ws.length = [110, 100] from rfl] at q2 q4 q5 q6
    rw [q2 (by decide), q4 (by decide), q5 (by decide), q6 (by decide)]; rfl
  · rw [show letsOf 3 ws.length = [110] from rfl] at q2 q3 q4 q5 q6
    rw [q2 (by decide), q3 (by decide), q4 (by decide), q5 (by decide), q6 (by decide)]; rfl
  · rw [show letsOf 4 ws.length = [110, 111] from rfl] at q3 q4 q5 q6
    rw [q3 (by decide), q4 (by decide), q5 (by decide), q6 (by decide)]; rfl
  · rw [show letsOf 5 ws.length = [110] from rfl] at q2 q3 q4 q5 q6
    rw [q2 (by decide), q3 (by decide), q4 (by decide), q5 (by decide), q6 (by decide)]; rfl
  · rw [show letsOf 6 ws.length = [110] from rfl] at q2 q3 q4 q5 q6
    rw [q2 (by decide), q3 (by decide), q4 (by decide), q5 (by decide), q6 (by decide)]; rfl
  · rw [show letsOf 7 ws.length = [105] from rfl] at q1 q2 q3 q4 q5
    rw [q1 (by decide), q2 (by decide), q3 (by decide), q4 (by decide), q5 (by decide)]; rfl
  · rw [show letsOf 8 ws.length = [] from rfl] at q1 q2 q3 q4 q5 q6
    rw [q1 (by decide), q2 (by decide), q3 (by decide), q4 (by decide), q5 (by decide), q6 (by decide)]; rfl
  · rw [show letsOf 9 ws.length = [121, 105] from rfl] at q1 q2 q3 q5
    rw [q1 (by decide), q2 (by decide), q3 (by decide), q5 (by decide)]; rfl
  · rw [show letsOf 10 ws.length = [105] from rfl] at q1 q2 q3 q4 q5
    rw [q1 (by decide), q2 (by decide), q3 (by decide), q4 (by decide), q5 (by decide)]; rfl
  · rw [show letsOf 11 ws.length = [] from rfl] at q1 q2 q3 q4 q5 q6
    rw [q1 (by decide), q2 (by decide), q3 (by decide), q4 (by decide), q5 (by decide), q6 (by decide)]; rfl
  · rw [show letsOf 12 ws.length = List.replicate ws.length 107 from rfl] at q1 q2 q3 q4 q6
    have no : ∀ x : UInt8, x ≠ 107 → x ∉ List.replicate ws.length (107 : UInt8) := fun x hx hm => hx (List.eq_of_mem_replicate hm)
    rw [q1 (no _ (by decide)), q2 (no _ (by decide)), q3 (no _ (by decide)), q4 (no _ (by decide)), q6 (fun c hc => .inr (.inr (.inr (.inr (List.eq_of_mem_replicate hc)))))]; rfl
theorem find_k (k : Nat) (h1 : 1 ≤ k) (h2 : k ≤ 12) (vs : List Bs) : (List.range 13).findSome? (tryK (firsts.getD k []) vs) = readE k vs := by
  have key : ∀ l : List Nat, (∀ j ∈ l, j < 13) → l.findSome? (tryK (firsts.getD k []) vs) = if k ∈ l then readE k vs else none := by
    intro l
    induction l with
    | nil => intro _; rfl
    | cons j l ih =>
      intro hl
      have ih2 := ih fun i hi => hl i (List.mem_cons_of_mem _ hi)
      rw [List.findSome?_cons]
      by_cases hj : j = k
      · subst hj
        have ht : tryK (firsts.getD j []) vs j = readE j vs := by
          unfold tryK
          rw [if_neg (by simp; omega)]
        rw [ht, if_pos List.mem_cons_self]
        cases hr : readE j vs with
        | some e => rfl
        | none =>
          simp only
          rw [ih2, hr]
          split <;> rfl
      · have ht : tryK (firsts.getD k []) vs j = none := by
          unfold tryK
          rw [if_pos (.inr fun h => hj (firsts_inj j (hl j List.mem_cons_self) k (by omega) h))]
        rw [ht]
        simp only
        rw [ih2]
        by_cases hm : k ∈ l
        · rw [if_pos hm, if_pos (List.mem_cons_of_mem _ hm)]
        · rw [if_neg hm, if_neg (fun h => (List.mem_cons.1 h).elim (fun e => hj e.symm) hm)]
  rw [key _ (fun j hj => by simpa using hj), if_pos (by simp; omega)]
theorem parse_eq (line : Bs) (w : Bs) (ws : List Bs) (h : partsG (line.length + 1) line = some (w :: ws)) : parseE line = (List.range 13).findSome? (tryK w ws) := by
  unfold parseE
  rw [h]
  rfl
theorem parse_inv {line : Bs} {e' : Ev} (h : parseE line = some e') : ∃ k ws, 1 ≤ k ∧ k ≤ 12 ∧ partsG (line.length + 1) line = some (firsts.getD k [] :: ws) ∧ readE k ws = some e' := by
  cases hp : partsG (line.length + 1) line with
  | none =>
    unfold parseE at h
    rw [hp] at h
    cases h
  | some l =>
    cases l with
    | nil =>
      unfold parseE at h
      rw [hp] at h
      cases h
    | cons w ws =>
      rw [parse_eq line w ws hp] at h
      obtain ⟨k, hk, ht⟩ := List.exists_of_findSome?_eq_some h
      unfold tryK at ht
      split at ht
      · cases ht
      · rename_i hc
        have hk0 : k ≠ 0 := fun e => hc (.inl e)
        have hf : firsts.getD k [] = w := Classical.byContradiction fun e => hc (.inr e)
        have hk13 : k < 13 := by simpa using hk
        exact ⟨k, ws, by omega, by omega, by rw [hf], ht⟩
theorem readG_app : ∀ (cs : Bs) (ws : List Bs) (c : UInt8) (w : Bs) (e : Ev), cs.length = ws.length → readG (cs ++ [c]) (ws ++ [w]) e = (readG cs ws e).bind (takeC' c w)
  | [], [], c, w, e, _ => by
    show (takeC' c w e).bind (readG [] []) = takeC' c w e
    cases takeC' c w e <;> rfl
  | [], _ :: _, _, _, _, h => by simp at h
  | _ :: _, [], _, _, _, h => by simp at h
  | d :: cs, v :: ws, c, w, e, h => by
    show (takeC' d v e).bind (readG (cs ++ [c]) (ws ++ [w])) = ((takeC' d v e).bind (readG cs ws)).bind (takeC' c w)
    cases takeC' d v e with
    | none => rfl
    | some e1 => exact readG_app cs ws c w e1 (by simpa using h)
theorem one_int : intW [49] = some 1 := by decide +kernel
/-- with one part more behind it a line is none, but of a crash -/
theorem parse_more {line : Bs} {e' : Ev} (h : parseE line = some e') : usedE e' = e' ∧ kindOk e'.kind ∧ ((e'.kind ≠ 12 → parseE (line ++ [32, 49]) = none) ∧ (e'.kind = 12 → ∃ e2, parseE (line ++ [32, 49]) = some e2)) := by
  obtain ⟨k, ws, h1, h2, hp, hr⟩ := parse_inv h
  obtain ⟨hu, hk⟩ := read_used k h1 h2 ws e' hr
  have hp2 := parts_app _ _ _ hp ((line ++ [32, 49]).length + 1) (by simp)
  have hq : parseE (line ++ [32, 49]) = readE k (ws ++ [[49]]) := by
    rw [parse_eq _ _ (ws ++ [[49]]) hp2, find_k k h1 h2]
  have hl : (letsOf k ws.length).length = ws.length := Classical.byContradiction fun hne => by
    unfold readE at hr
    rw [readG_len _ _ _ hne] at hr
    cases hr
  refine ⟨hu, by unfold kindOk; omega, fun hne => ?_, fun he => ?_⟩
  · rw [hq]
    unfold readE
    refine readG_len _ _ _ ?_
    have hlt : ∀ n, letsOf k n = letters.getD k [] := fun n => by
      have hk12 : ∀ j, j < 12 → letters.getD j [] ≠ [107] := by decide
      unfold letsOf
      rw [if_neg (hk12 k (by omega))]
    rw [hlt] at hl ⊢
    rw [List.length_append, List.length_singleton]
    omega
  · obtain rfl : k = 12 := by omega
    rw [hq]
    unfold readE at hr ⊢
    have hlt : ∀ n, letsOf 12 n = List.replicate n 107 := fun n => rfl
    rw [hlt] at hr ⊢
    rw [List.length_append, List.length_singleton, List.replicate_succ', readG_app _ _ _ _ _ (by simp), hr]
    refine ⟨{ e' with keep := e'.keep ++ [1] }, ?_⟩
    show takeC' 107 [49] e' = _
    unfold takeC'
    rw [one_int]
    rfl
end Go.Proofs.YtjplgcmfifoefaaDoor
