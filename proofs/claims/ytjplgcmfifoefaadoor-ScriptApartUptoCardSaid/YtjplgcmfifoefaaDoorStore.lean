/- Storing a whole element into a slice of the call's own; machines built, loaded and stored; literals of edges. No condition beyond those named in each lemma. -/
import Derived.Test.YtjplgcmfifoefaaDoorEdge
import Derived.Test.YtjplgcmfifoefaaDoorGs
namespace Go.Proofs.YtjplgcmfifoefaaDoor
open Go.RowKit Go.Maps Go.WideMaps
set_option linter.unusedVariables false
set_option linter.unusedSimpArgs false

section
variable {α : Type} {enc : α → Array Value} {size : Nat}
theorem flat_put (hs : ∀ y, (enc y).size = size) : ∀ (ys : List α) (k : Nat) (y' : α) (hk : k < ys.length), flat enc (ys.set k y') = (flat enc ys).take (k * size) ++ (enc y').toList ++ (flat enc ys).drop (k * size + size)
  | [], k, y', hk => by simp at hk
  | y :: ys, 0, y', hk => by
    have hf : flat enc (y :: ys) = (enc y).toList ++ flat enc ys := rfl
    have hf2 : flat enc (y' :: ys) = (enc y').toList ++ flat enc ys := rfl
    have hy : (enc y).toList.length = size := by simp [hs]
    rw [List.set_cons_zero, hf, hf2, Nat.zero_mul, List.take_zero, List.nil_append, Nat.zero_add, List.drop_left' hy]
  | y :: ys, k + 1, y', hk => by
    have hf : flat enc (y :: ys) = (enc y).toList ++ flat enc ys := rfl
    have hf2 : flat enc (y :: ys.set k y') = (enc y).toList ++ flat enc (ys.set k y') := rfl
    have hy : (enc y).toList.length = size := by simp [hs]
    have e1 : (k + 1) * size = size + k * size := by rw [Nat.add_mul]; omega
    have t1 : ((enc y).toList ++ flat enc ys).take (size + k * size) = (enc y).toList ++ (flat enc ys).take (k * size) := by
      have := List.take_length_add_append (l₁ := (enc y).toList) (l₂ := flat enc ys) (i := k * size)
      rwa [hy] at this
    have t2 : ((enc y).toList ++ flat enc ys).drop (size + k * size + size) = (flat enc ys).drop (k * size + size) := by
      have := List.drop_length_add_append (l₁ := (enc y).toList) (l₂ := flat enc ys) (i := k * size + size)
      rw [hy] at this
      rwa [Nat.add_assoc]
    rw [List.set_cons_succ, hf2, flat_put hs ys k y' (by simpa using hk), hf, e1, t1, t2]
    simp [List.append_assoc]
theorem take_put {β : Type} (l m : List β) (a b N : Nat) (h1 : a + b ≤ N) (hm : m.length = b) (hl : N ≤ l.length) : (l.take a ++ m ++ l.drop (a + b)).take N = (l.take N).take a ++ m ++ (l.take N).drop (a + b) := by
  obtain ⟨A, hA⟩ : ∃ A, A = l.take a := ⟨_, rfl⟩
  have hAl : A.length = a := by rw [hA, List.length_take]; omega
  have e1 : (l.take N).take a = A := by rw [List.take_take, Nat.min_eq_left (by omega), hA]
  have e2 : (l.take N).drop (a + b) = (l.drop (a + b)).take (N - (a + b)) := by rw [List.drop_take]
  have e3 : (A ++ m).length = a + b := by rw [List.length_append, hAl, hm]
  rw [e1, e2, ← hA]
  have := List.take_length_add_append (l₁ := A ++ m) (l₂ := l.drop (a + b)) (i := N - (a + b))
  rw [e3, show a + b + (N - (a + b)) = N by omega] at this
  exact this
theorem wl_store_own {P : Program} {base : Nat} {e : TypeId} {w : World} {ys : List α} {ops : Array Oper} {rest : List Oper} {o : Oper} {a : Act} {Q : Exit → Act → World → Prop} (hgd : o.guard = none) (ty : TypeId) (x y : Operand) (ho : o.op = .store ty x y)
    (g k n cap : Nat) (hx : a.eval x = .pointer (some ⟨g, k * size, none⟩)) (z : α) (hy : a.eval y = .agg (enc z)) (hs : ∀ y, (enc y).size = size) (h1 : ∀ y, (enc y).all (·.oneCell') = true) (hi : (P.info? ty).map (·.size) = some size)
    (hown : Own w base e size enc (.slice (some ⟨g, 0, none⟩) n cap) ys) (hk : k < ys.length)
    (h : ∀ w', Own w' base e size enc (.slice (some ⟨g, 0, none⟩) n cap) (ys.set k z) → w.grownBy w' (some g) → wpList P ops Q rest (a.put o.dst undef) w') : wpList P ops Q (o :: rest) a w := by
  rcases hown.2 with ⟨hv, _⟩ | ⟨g', cap', cur, hv, hbg, hg, hnc, hcm, hcs, htake⟩
  · cases hv
  · injection hv with e1 e2 e3
    injection e1 with e1
    injection e1 with e1
    subst e1 e2 e3
    have hlt : k * size + size ≤ ys.length * size := by
      have : (k + 1) * size ≤ ys.length * size := Nat.mul_le_mul_right _ (by omega)
      rw [Nat.add_mul] at this; omega
    have hle : ys.length * size ≤ cap * size := Nat.mul_le_mul_right _ hnc
    have hz : (enc z).toList.length = size := by simp [hs]
    have hone : ∀ u ∈ (enc z).toList, u.oneCell' = true := fun u hu => (Array.all_eq_true_iff_forall_mem.1 (h1 z)) u (by simpa using hu)
    have hst := run_storeCells_at P g (k * size) e (enc z).toList 0 cur w hg (by omega) hone
    simp only [Nat.add_zero] at hst
    have hrun : (storeVar ty ⟨g, k * size, none⟩ (.agg (enc z))).run P w = .ok () (w.setRow g (cur.toList.take (k * size) ++ (enc z).toList ++ cur.toList.drop (k * size + (enc z).toList.length)).toArray) := by
      cases hq : P.info? ty with
      | none => simp [hq] at hi
      | some j =>
        have hj : j.size = size := by simpa [hq] using hi
        have hsz : (enc z).size = size := hs z
        simp [storeVar, sizeOf, typeInfo, hq, hj, Value.cells, hsz]
        simpa [hsz] using hst
    refine wpList_plain hgd fun _ hK => ?_
    unfold Oper.wp execOp
    simp only [ho, hx, hy, Instr.storeAt, Instr.sureAddr, Sem.run_bind, Sem.run_pure, Result.andThen_ok, hrun]
    refine hK _ _ (h _ ?_ (only_setRow (only_refl _ _) _))
    unfold Own
    rw [List.length_set]
    refine ⟨by rw [flat_length hs, List.length_set], .inr ⟨g, cap, _, rfl, hbg, setRow_heap w g cur _ e _ hg, hnc, hcm, ?_, ?_⟩⟩
    · simp only [List.size_toArray, List.length_append, List.length_take, List.length_drop, Array.length_toList, hz]
      omega
    · have hcl : cur.toList.length = cap * size := by simpa using hcs
      rw [flat_put hs ys k z hk, ← htake, hz]
      exact take_put cur.toList (enc z).toList (k * size) size _ hlt hz (by omega)
end

/-! ### machines -/
section
variable {ops : Array Oper} {rest : List Oper} {o : Oper} {a : Act} {w : World} {Q : Exit → Act → World → Prop}
end
def e77 : Edg := ⟨-77, 0, 0, 0⟩
def m5 : BSet := 5 + 5 * 2 ^ 64 + 5 * 2 ^ 128 + 5 * 2 ^ 192
def m6 : BSet := 6 + 6 * 2 ^ 64 + 6 * 2 ^ 128 + 6 * 2 ^ 192
theorem m5_eq : setC m5 = #[.int .u64 5, .int .u64 5, .int .u64 5, .int .u64 5] := by kernel_rfl
theorem m6_eq : setC m6 = #[.int .u64 6, .int .u64 6, .int .u64 6, .int .u64 6] := by kernel_rfl
section
variable {ops : Array Oper} {S : Nat → GSpec} {Q : Exit → Act → World → Prop} {i : Nat} {o : Oper} {a : Act} {w : World}
end
/-- a block made by the region, from block b0 on -/
def newS (b0 : Nat) (t : TypeId) (cs : Array Value) : GSpec :=
  ⟨fun v w => ∃ g, v = .pointer (some ⟨g, 0, none⟩) ∧ b0 ≤ g ∧ Blk w g t cs, fun v w w' ⟨g, h1, h2, h3⟩ hb => ⟨g, h1, h2, blk_then h3 hb⟩⟩
section
variable {ops : Array Oper} {S : Nat → GSpec} {Q : Exit → Act → World → Prop} {i : Nat} {o : Oper} {a : Act} {w : World}
end
theorem grown_on {a b c : World} {row row2 : Option Nat} (h : a.grownBy b row) (k : b.grownBy c row2) (hr : row2 = row ∨ ∀ j, row2 = some j → a.heap.size ≤ j) : a.grownBy c row :=
  ⟨k.os.trans h.os, k.tape.trans h.tape, k.output.trans h.output, Nat.le_trans h.size k.size, fun i hi hne => (k.block i (Nat.lt_of_lt_of_le hi h.size) (fun e => by
    rcases hr with hr | hr
    · exact hne (e.trans hr)
    · have := hr _ e.symm; omega)).trans (h.block i hi hne)⟩
theorem Own.kept_ {α : Type} {enc : α → Array Value} {size base : Nat} {e : TypeId} {w w' : World} {v : Value} {ys : List α} {row : Option Nat} (h : Own w base e size enc v ys) (hg : w.grownBy w' row) (hne : ∀ j, v.ownBlock = some j → row = some j → False) : Own w' base e size enc v ys := by
  cases hv : v.ownBlock with
  | none => exact World.ownsRow.kept h hg (by simp [hv])
  | some j =>
    refine World.ownsRow.kept h hg (.inr ?_)
    rw [hv]
    intro e
    exact hne j hv e.symm
theorem repl_set {α : Type} (L : List α) (x : α) (k : Nat) (h : k < L.length) : (List.replicate k x ++ L.drop k).set k x = List.replicate (k + 1) x ++ L.drop (k + 1) := by
  rw [List.set_append_right _ _ (by simp), List.length_replicate, Nat.sub_self, List.drop_eq_getElem_cons h, List.set_cons_zero, List.replicate_succ']
  simp
theorem repl_len {α : Type} (L : List α) (x : α) (k : Nat) (h : k ≤ L.length) : (List.replicate k x ++ L.drop k).length = L.length := by simp; omega
theorem repl_all {α : Type} (L : List α) (x : α) (k : Nat) (h : k = L.length) : List.replicate k x ++ L.drop k = List.replicate k x := by subst h; simp
theorem edg_set (e : Edg) (v : Int) (h0 : 0 ≤ v) (h1 : v < 18446744073709551616) : ∃ e' : Edg, (edgC e').toList = (edgC e).toList.set (3 + 2) (.int .u64 v) := by
  obtain ⟨y, hy⟩ := setWord_any e.st 2 (by omega) v h0 h1
  refine ⟨⟨e.kd, e.fr, e.tt, y⟩, ?_⟩
  simp [setC] at hy
  simp [edgC, hy]
theorem edg_kd (e : Edg) (v : Int) : ∃ e' : Edg, (edgC e').toList = (edgC e).toList.set 0 (.int .i64 v) := ⟨⟨v, e.fr, e.tt, e.st⟩, rfl⟩
theorem grown_alloc {a b : World} {row : Option Nat} (h : a.grownBy b row) (o : Obj) : a.grownBy (b.alloc o) row := only_alloc h o

end Go.Proofs.YtjplgcmfifoefaaDoor
