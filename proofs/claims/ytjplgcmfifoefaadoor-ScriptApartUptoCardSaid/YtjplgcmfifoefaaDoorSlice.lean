/- Slices that the call itself makes: rows of multi-cell elements, appended to, stored into, handed on. No condition beyond those named in each lemma. -/
import Derived.Test.YtjplgcmfifoefaaDoorBase
namespace Go.Proofs.YtjplgcmfifoefaaDoor
open Go.RowKit
set_option linter.unusedVariables false
set_option linter.unusedSimpArgs false

theorem addr_add (b off j : Nat) : (⟨b, off, none⟩ : Addr).add j = ⟨b, off + j, none⟩ := by unfold Addr.add; split <;> simp_all
def flat {α : Type} (enc : α → Array Value) (ys : List α) : List Value := ys.flatMap fun y => (enc y).toList
section
variable {α : Type} {enc : α → Array Value} {size : Nat}
theorem flat_nil : flat enc [] = [] := rfl
theorem flat_append (xs ys : List α) : flat enc (xs ++ ys) = flat enc xs ++ flat enc ys := by simp [flat]
theorem flat_length (hs : ∀ y, (enc y).size = size) (ys : List α) : (flat enc ys).length = ys.length * size := by
  induction ys with
  | nil => simp [flat]
  | cons y ys ih =>
    have : flat enc (y :: ys) = (enc y).toList ++ flat enc ys := rfl
    rw [this, List.length_append, ih, List.length_cons, Nat.add_mul]
    simp [hs]; omega
theorem flat_at (hs : ∀ y, (enc y).size = size) : ∀ (ys : List α) (i q : Nat) (hi : i < ys.length), q < size → (flat enc ys)[i * size + q]? = (enc ys[i])[q]? := by
  intro ys
  induction ys with
  | nil => intro i q hi; simp at hi
  | cons y ys ih =>
    intro i q hi hq
    have hf : flat enc (y :: ys) = (enc y).toList ++ flat enc ys := rfl
    have hy : (enc y).toList.length = size := by simp [hs]
    rw [hf]
    rcases i with _ | i
    · rw [List.getElem?_append_left (by simp [hs]; omega)]
      simp
    · have e1 : (i + 1) * size + q = size + (i * size + q) := by rw [Nat.add_mul]; omega
      rw [e1, List.getElem?_append_right (by omega), hy, show size + (i * size + q) - size = i * size + q by omega, ih i q (by simpa using hi) hq]
      simp
theorem flat_set (hs : ∀ y, (enc y).size = size) : ∀ (ys : List α) (i q : Nat) (u : Value) (y' : α) (hi : i < ys.length), q < size → (enc y').toList = (enc ys[i]).toList.set q u → (flat enc ys).set (i * size + q) u = flat enc (ys.set i y') := by
  intro ys
  induction ys with
  | nil => intro i q u y' hi; simp at hi
  | cons y ys ih =>
    intro i q u y' hi hq he
    have hf : flat enc (y :: ys) = (enc y).toList ++ flat enc ys := rfl
    have hy : (enc y).toList.length = size := by simp [hs]
    rw [hf]
    rcases i with _ | i
    · simp only [List.getElem_cons_zero] at he
      rw [List.set_append_left _ _ (by simp [hs]; omega), List.set_cons_zero]
      have : flat enc (y' :: ys) = (enc y').toList ++ flat enc ys := rfl
      rw [this, he]
      simp
    · have e1 : (i + 1) * size + q = size + (i * size + q) := by rw [Nat.add_mul]; omega
      rw [e1, List.set_append_right _ _ (by omega), hy, show size + (i * size + q) - size = i * size + q by omega, List.set_cons_succ]
      have : flat enc (y :: ys.set i y') = (enc y).toList ++ flat enc (ys.set i y') := rfl
      rw [this, ih i q u y' (by simpa using hi) hq (by simpa using he)]
theorem flat_take (hs : ∀ y, (enc y).size = size) (ys : List α) (m : Nat) : (flat enc ys).take (m * size) = flat enc (ys.take m) := by
  rcases Nat.lt_or_ge m ys.length with h | h
  · have hl : (flat enc (ys.take m)).length = m * size := by rw [flat_length hs, List.length_take, Nat.min_eq_left (by omega)]
    have e : flat enc ys = flat enc (ys.take m) ++ flat enc (ys.drop m) := by rw [← flat_append, List.take_append_drop]
    rw [e, ← hl, List.take_left']
    rfl
  · rw [List.take_of_length_le h, List.take_of_length_le]
    rw [flat_length hs]
    exact Nat.mul_le_mul_right _ h
end

/-- The slice value v owns, in a block from base on, the elements ys. -/
def Own {α : Type} (w : World) (base : Nat) (e : TypeId) (size : Nat) (enc : α → Array Value) (v : Value) (ys : List α) : Prop := w.ownsRow base e size v ys.length (flat enc ys)

section
variable {α : Type} {enc : α → Array Value} {size base : Nat} {e : TypeId} {w w' : World} {v : Value} {ys : List α}
theorem Own.nil_ (w : World) (base : Nat) (e : TypeId) (size : Nat) (enc : α → Array Value) : Own w base e size enc (.slice none 0 0) ([] : List α) := World.ownsRow_nil _ _ _ _
theorem Own.then_ (h : Own w base e size enc v ys) (hb : Below w.heap.size w w') : Own w' base e size enc v ys :=
  World.ownsRow.kept h (only_of_below hb none) (by cases hv : v.ownBlock <;> simp)
theorem Own.drew (h : Own w base e size enc v ys) : Own w.drew base e size enc v ys := World.ownsRow.drew h
theorem Own.alloc (h : Own w base e size enc v ys) (o : Obj) : Own (w.alloc o) base e size enc v ys := World.ownsRow.alloc h o
theorem Own.grown {k : Nat} (h : Own w base e size enc v ys) (hg : w.grownBy w' (some k)) (hne : v.ownBlock ≠ some k) : Own w' base e size enc v ys :=
  World.ownsRow.kept h hg (.inr hne)
theorem Own.mono {base' : Nat} (h : Own w base e size enc v ys) (hb : base' ≤ base) : Own w base' e size enc v ys := by
  obtain ⟨h1, h2⟩ := h
  refine ⟨h1, ?_⟩
  rcases h2 with h2 | ⟨g, cap, cur, hv, hg, r⟩
  · exact .inl h2
  · exact .inr ⟨g, cap, cur, hv, by omega, r⟩
theorem Own.lt (h : Own w base e size enc v ys) : ∀ k, v.ownBlock = some k → base ≤ k ∧ k < w.heap.size := World.ownsRow.lt h
/-- what it looks like where it holds an element -/
theorem Own.form (h : Own w base e size enc v ys) (hn : 0 < ys.length) : ∃ g cap, v = .slice (some ⟨g, 0, none⟩) ys.length cap ∧ base ≤ g ∧ g < w.heap.size ∧ ys.length ≤ cap ∧ cap ≤ maxLen := by
  rcases h.2 with ⟨_, h0⟩ | ⟨g, cap, cur, hv, hb, hh, hc, hm, _⟩
  · omega
  · refine ⟨g, cap, hv, hb, ?_, hc, hm⟩
    rcases Nat.lt_or_ge g w.heap.size with h1 | h1
    · exact h1
    · rw [Array.getElem?_eq_none h1] at hh; cases hh
/-- nil or not: as a slice value of this length -/
theorem Own.shape (h : Own w base e size enc v ys) : ∃ A c, v = .slice A ys.length c ∧ ys.length ≤ c ∧ c ≤ maxLen := by
  rcases h.2 with ⟨hv, h0⟩ | ⟨g, cap, cur, hv, hb, hh, hc, hm, _⟩
  · exact ⟨none, 0, by rw [hv, h0], by omega, by unfold maxLen; omega⟩
  · exact ⟨_, cap, hv, hc, hm⟩
theorem Own.len {a : Addr} {n cap : Nat} (h : Own w base e size enc (.slice (some a) n cap) ys) : n = ys.length := by
  rcases h.2 with ⟨hv, _⟩ | ⟨g, cap', cur, hv, _⟩
  · cases hv
  · injection hv
theorem Own.cap {a : Addr} {n cap : Nat} (h : Own w base e size enc (.slice (some a) n cap) ys) : n ≤ cap ∧ cap ≤ maxLen := by
  rcases h.2 with ⟨hv, _⟩ | ⟨g, cap', cur, hv, _, _, hc, hm, _⟩
  · cases hv
  · injection hv with _ h1 h2
    subst h2
    exact ⟨by omega, hm⟩
theorem Own.row {g n cap : Nat} (hs : ∀ y, (enc y).size = size) (h : Own w base e size enc (.slice (some ⟨g, 0, none⟩) n cap) ys) (i : Nat) (hi : i < ys.length) : RowAt w g (i * size) (enc ys[i]) := by
  obtain rfl := h.len
  intro q u hu
  have hq : q < size := by
    rw [← hs ys[i]]
    rcases Nat.lt_or_ge q (enc ys[i]).size with h1 | h1
    · exact h1
    · rw [Array.getElem?_eq_none h1] at hu; cases hu
  have hlt : i * size + q < ys.length * size := by
    have : (i + 1) * size ≤ ys.length * size := Nat.mul_le_mul_right _ (by omega)
    rw [Nat.add_mul] at this; omega
  rw [World.ownsRow.cellAt h (i * size + q) hlt, flat_at hs ys i q hi hq, hu]
theorem Own.frozen {g n cap : Nat} (h : Own w base e size enc (.slice (some ⟨g, 0, none⟩) n cap) ys) (j : Nat) : w.frozen? ⟨g, j, none⟩ = false := by
  obtain rfl := h.len
  exact World.ownsRow.frozenAt h j
theorem Own.slice {A : Option Addr} {n cap : Nat} (hs : ∀ y, (enc y).size = size) (h : Own w base e size enc (.slice A n cap) ys) (m : Nat) : SliceOf w w.heap.size size enc A (ys.take m) := by
  rcases Nat.eq_zero_or_pos ys.length with h0 | hp
  · exact .inl (by rw [List.eq_nil_of_length_eq_zero h0, List.take_nil])
  · obtain ⟨g, cap', hv, _, hlt, _⟩ := h.form hp
    injection hv with hA hn hc
    subst hA hn hc
    refine .inr ⟨g, 0, rfl, hlt, fun i hi => ?_⟩
    simp only [List.length_take] at hi
    rw [List.getElem_take, Nat.zero_add]
    exact h.row hs i (by omega)
theorem Own.slice_all {A : Option Addr} {n cap : Nat} (hs : ∀ y, (enc y).size = size) (h : Own w base e size enc (.slice A n cap) ys) : SliceOf w w.heap.size size enc A ys := by
  have := h.slice hs ys.length
  rwa [List.take_of_length_le (Nat.le_refl _)] at this
theorem Own.setCell {g n cap i q : Nat} {u : Value} {y' : α} (hs : ∀ y, (enc y).size = size) (h : Own w base e size enc (.slice (some ⟨g, 0, none⟩) n cap) ys) (hi : i < ys.length) (hq : q < size)
    (he : (enc y').toList = (enc ys[i]).toList.set q u) : Own (w.setCell ⟨g, i * size + q, none⟩ u) base e size enc (.slice (some ⟨g, 0, none⟩) n cap) (ys.set i y') := by
  obtain rfl := h.len
  have h1 := World.ownsRow.stored h (i * size + q) u
  rw [flat_set hs ys i q u y' hi hq he] at h1
  unfold Own
  rw [List.length_set]
  exact h1.1
end

section
variable {P : Program} (w : World)
theorem run_append_none (base : Nat) (t ty e : TypeId) (i : TypeInfo) (ht : P.underlying t = some (.slice e)) (hi : P.info? e = some i) (size : Nat)
    (v : Value) (n : Nat) (xs : List Value) (hown : w.ownsRow base e size v n xs) (c : Nat) : (Builtin.append_ #[t, t] ty #[v, .slice none 0 c]).run P w = .ok v w := by
  rcases hown.2 with ⟨rfl, rfl⟩ | ⟨g, cap, cur, rfl, _, _, hnc, _⟩
  · simp [Builtin.append_, run_underlying ht, sizeOf, typeInfo, hi, Builtin.lenOf, Builtin.firstCells]
  · simp [Builtin.append_, run_underlying ht, sizeOf, typeInfo, hi, Builtin.lenOf, Builtin.firstCells, hnc, storeCells]

/-- append of a slice (nil, empty or not) onto a row of the call's own -/
theorem run_append_slice {α : Type} {enc : α → Array Value} (base : Nat) (t ty e : TypeId) (i : TypeInfo) (z : Value) (size bytes : Nat) (ht : P.underlying t = some (.slice e)) (hi : P.info? e = some i) (hz : i.zero = some z)
    (hsize : i.size = size) (hby : i.bytes = bytes) (hzs : z.cells.size = size) (hsz : 0 < size) (hs : ∀ y, (enc y).size = size) (h1 : ∀ y, (enc y).all (·.oneCell') = true)
    (v : Value) (xs : List α) (hown : Own w base e size enc v xs) (B : Nat) (A : Option Addr) (m c : Nat) (ys : List α) (hm : m = ys.length) (hr : SliceOf w B size enc A ys)
    (h63 : xs.length + m ≤ maxLen) (hbytes : (xs.length + m) * bytes ≤ 140737488355328) (hbase : base ≤ w.heap.size) :
    ∃ v' w', (Builtin.append_ #[t, t] ty #[v, .slice A m c]).run P w = .ok v' w' ∧ Own w' base e size enc v' (xs ++ ys) ∧ w.grownBy w' v.ownBlock ∧ (v'.ownBlock = v.ownBlock ∨ v'.ownBlock = some w.heap.size) := by
  subst hm
  rcases A with _ | ad
  · have hm : ys = [] := by
      rcases hr with h | ⟨b, off, h, _⟩
      · exact h
      · cases h
    subst hm
    exact ⟨v, w, run_append_none w base t ty e i ht hi size v _ _ hown c, by simpa using hown, World.grownBy.refl w _, .inl rfl⟩
  · have hcells : ∀ j u, (flat enc ys)[j]? = some u → w.cell? (ad.add j) = some u := by
      intro j u hu
      have hj : j < ys.length * size := by
        rw [← flat_length hs]
        rcases Nat.lt_or_ge j (flat enc ys).length with h | h
        · exact h
        · rw [List.getElem?_eq_none h] at hu; cases hu
      have hpos : 0 < ys.length := by
        rcases Nat.eq_zero_or_pos ys.length with h0 | h0
        · rw [h0, Nat.zero_mul] at hj; omega
        · exact h0
      obtain ⟨b, off, e1, _, hrow⟩ := hr.at_ hpos
      injection e1 with e1
      subst e1
      have hdm : j = j / size * size + j % size := by rw [Nat.mul_comm]; exact (Nat.div_add_mod _ _).symm
      have hi2 : j / size < ys.length := Nat.div_lt_of_lt_mul (by rw [Nat.mul_comm]; exact hj)
      have hq : j % size < size := Nat.mod_lt _ hsz
      have hu' : (enc ys[j / size])[j % size]? = some u := by
        rw [← flat_at hs ys _ _ hi2 hq, ← hdm]; exact hu
      have := hrow _ hi2 _ _ hu'
      rw [addr_add]
      rw [show off + j / size * size + j % size = off + j by omega] at this
      exact this
    have hone : ∀ u ∈ flat enc ys, u.oneCell' = true := by
      intro u hu
      simp only [flat, List.mem_flatMap] at hu
      obtain ⟨y, _, hy⟩ := hu
      exact (Array.all_eq_true_iff_forall_mem.1 (h1 y)) u (by simpa using hy)
    obtain ⟨v', w', hrun, h2, h3, _, h5⟩ := run_append_own_at (P := P) w base t ty e i z size bytes ht hi hz hsize hby hzs hsz v xs.length (flat enc xs) hown ad ys.length c (flat enc ys) (flat_length hs ys) hcells hone h63 hbytes hbase
    refine ⟨v', w', hrun, ?_, h3, h5⟩
    unfold Own
    rw [flat_append, List.length_append]
    exact h2

theorem wl_append {α : Type} {enc : α → Array Value} {ops : Array Oper} {rest : List Oper} {o : Oper} {a : Act} {Q : Exit → Act → World → Prop} (hgd : o.guard = none) (s x : Operand) (t : TypeId)
    (ho : o.op = .call { callee := .builtin .append, args := #[s, x], argTypes := #[t, t] })
    (base : Nat) (e : TypeId) (i : TypeInfo) (z : Value) (size bytes : Nat) (ht : P.underlying t = some (.slice e)) (hi : P.info? e = some i) (hz : i.zero = some z)
    (hsize : i.size = size) (hby : i.bytes = bytes) (hzs : z.cells.size = size) (hsz : 0 < size) (hs : ∀ y, (enc y).size = size) (h1 : ∀ y, (enc y).all (·.oneCell') = true)
    (v : Value) (xs : List α) (hv : a.eval s = v) (hown : Own w base e size enc v xs) (B : Nat) (A : Option Addr) (m c : Nat) (ys : List α) (hx : a.eval x = .slice A m c) (hm : m = ys.length) (hr : SliceOf w B size enc A ys)
    (h63 : xs.length + m ≤ maxLen) (hbytes : (xs.length + m) * bytes ≤ 140737488355328) (hbase : base ≤ w.heap.size)
    (h : ∀ v' w', Own w' base e size enc v' (xs ++ ys) → w.grownBy w' v.ownBlock → (v'.ownBlock = v.ownBlock ∨ v'.ownBlock = some w.heap.size) → wpList P ops Q rest (a.put o.dst v') w') : wpList P ops Q (o :: rest) a w := by
  obtain ⟨v', w', hrun, h2, h3, h4⟩ := run_append_slice (P := P) w base t o.type e i z size bytes ht hi hz hsize hby hzs hsz hs h1 v xs hown B A m c ys hm hr h63 hbytes hbase
  refine wpList_plain hgd fun _ hK => ?_
  unfold Oper.wp execOp
  simp only [ho, resolve, invoke, builtin, Sem.run_bind, Sem.run_pure, Result.andThen_ok, List.map_toArray, List.map_cons, List.map_nil, hv, hx, hrun]
  exact hK _ _ (h v' w' h2 h3 h4)
end
theorem below_own {a w w' : World} {v : Value} (h : Below a.heap.size a w) (hg : w.grownBy w' v.ownBlock) (hb : ∀ k, v.ownBlock = some k → a.heap.size ≤ k) : Below a.heap.size a w' :=
  h.grown hg h.size hb
theorem own_nil_lt {B : Nat} : ∀ k, (Value.slice none 0 0).ownBlock = some k → B ≤ k := fun _ h => by cases h
/-- one element in a block of its own -/
theorem slice_one {α : Type} {enc : α → Array Value} {w : World} {t : TypeId} {g size : Nat} {y : α} (h : Blk w g t (enc y)) : SliceOf w w.heap.size size enc (some ⟨g, 0, none⟩) [y] := by
  refine .inr ⟨g, 0, rfl, h.lt, fun i hi => ?_⟩
  have : i = 0 := by simpa using hi
  subst this
  rw [Nat.zero_mul]
  exact RowAt.of_blk h

end Go.Proofs.YtjplgcmfifoefaaDoor
