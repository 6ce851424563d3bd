/- The steps of the law on regions (wp_region_grow), one lemma for each kind of operation. -/
import Derived.Test.YtjpiebapemalfaaGrow
import Derived.Test.YtjpiebapemalfaaEq
import Derived.Test.YtjpiebapemalfaaOnes
namespace Go.Proofs.Ytjpiebapemalfaa
open Go.RowKit
set_option linter.unusedVariables false
set_option linter.unusedSimpArgs false

section
variable {P : Program} {ops : Array Oper} {S : Nat → GSpec} {Q : Exit → Act → World → Prop} {i : Nat} {o : Oper} {a : Act} {w : World}

theorem want_none (h : o.guard = none) : Region.wanted o (yielded ops a.tmps) = true := by simp [Region.wanted, h]
theorem want_yes {g : Nat} {b : Bool} {d : Nat} (h : o.guard = some (g, b)) (hd : (ops[g]?).bind (·.dst) = some d) (hv : a.tmps.getD d undef = .bool b) : Region.wanted o (yielded ops a.tmps) = true := by
  have h1 : a.tmps[d]? = some (.bool b) := by
    cases hh : a.tmps[d]? with
    | none => simp [hh] at hv; cases hv
    | some v => simp [hh] at hv; rw [hv]
  simp [Region.wanted, h, yielded, hd, h1]
theorem want_no {g : Nat} {b : Bool} {d : Nat} (h : o.guard = some (g, !b)) (hd : (ops[g]?).bind (·.dst) = some d) (hv : a.tmps.getD d undef = .bool b) : Region.wanted o (yielded ops a.tmps) = false := by
  have h1 : a.tmps[d]? = some (.bool b) := by
    cases hh : a.tmps[d]? with
    | none => simp [hh] at hv; cases hv
    | some v => simp [hh] at hv; rw [hv]
  simp [Region.wanted, h, yielded, hd, h1]
theorem gs_skip (hw : Region.wanted o (yielded ops a.tmps) = false) (hp : (S i).p undef w) : GStep P ops S Q i o a w := by
  unfold GStep; rw [hw]; exact hp
theorem gs_run (hw : Region.wanted o (yielded ops a.tmps) = true) {v : Value} {w' : World} (hr : (execOp a.eval o).run P w = .ok (.value v) w') (hb : Below w.heap.size w w') (hp : (S i).p v w') : GStep P ops S Q i o a w := by
  unfold GStep
  rw [if_pos hw]
  unfold Oper.wp
  rw [hr]
  exact ⟨v, rfl, hb, hp⟩
theorem gs_move (hw : Region.wanted o (yielded ops a.tmps) = true) (x : Operand) (ho : o.op = .move x) (hp : (S i).p (a.eval x) w) : GStep P ops S Q i o a w :=
  gs_run hw (v := a.eval x) (by unfold execOp; rw [ho]; rfl) (Below.refl _ _) hp
theorem gs_pick (hw : Region.wanted o (yielded ops a.tmps) = true) (c x y : Operand) (ho : o.op = .pick c x y) (b : Bool) (hc : a.eval c = .bool b) (hp : (S i).p (if b then a.eval x else a.eval y) w) : GStep P ops S Q i o a w :=
  gs_run hw (v := if b then a.eval x else a.eval y) (by unfold execOp; rw [ho]; simp only [hc]; rfl) (Below.refl _ _) hp
theorem gs_load (hw : Region.wanted o (yielded ops a.tmps) = true) (ty : TypeId) (x : Operand) (ho : o.op = .load ty x) (g : Nat) (hx : a.eval x = .pointer (some ⟨g, 0, none⟩)) (t : TypeId) (cs : Array Value) (hg : Blk w g t cs) (d : TypeDesc)
    (hu : P.underlying ty = some d) (hd : (match d with | .struct _ | .array _ _ => true | _ => false) = true) (hi : (P.info? ty).map (·.size) = some cs.size) (hp : (S i).p (.agg cs) w) : GStep P ops S Q i o a w :=
  gs_run hw (v := .agg cs) (by unfold execOp; simp only [ho, hx, Instr.loadAt, Instr.sureAddr, Sem.run_bind, Sem.run_pure, Result.andThen_ok, run_loadVar_row w g t ty cs (0, 0) d hg hu hd hi]) (Below.refl _ _) hp
theorem gs_call (hw : Region.wanted o (yielded ops a.tmps) = true) (f : FuncId) (xs : Array Operand) (ats : Array TypeId) (ho : o.op = .call { callee := .value (.func f), args := xs, argTypes := ats })
    (hf : ∀ args w, (callFunc f args).run P w = .ok (.enter f args) w) (vs : Array Value) (hv : xs.map a.eval = vs)
    (hc : Calls P f vs w fun e w' => ∃ v, e = .returned v ∧ Below w.heap.size w w' ∧ (S i).p v w') : GStep P ops S Q i o a w := by
  unfold GStep
  rw [if_pos hw]
  unfold Oper.wp
  have hr : (execOp a.eval o).run P w = .ok (.enter f vs) w := by
    have he : execOp a.eval o = callFunc f (#[] ++ xs.map a.eval ++ #[]) := by
      unfold execOp; rw [ho]; rfl
    rw [he, hv]
    simpa using hf vs w
  rw [hr, Oper.upon_enter]
  refine hc.mono ?_
  rintro e w' ⟨v, rfl, hb, hp⟩
  exact ⟨v, rfl, hb, hp⟩
theorem gs_bin (hw : Region.wanted o (yielded ops a.tmps) = true) (op : BinOp) (t t2 : TypeId) (x y : Operand) (ho : o.op = .binOp op t x y t2) (vx vy v : Value) (hx : a.eval x = vx) (hy : a.eval y = vy)
    (hgd : (eqGuard op t x y vx vy).run P w = .ok () w) (hr : (binOp op t vx vy).run P w = .ok v w) (hp : (S i).p v w) : GStep P ops S Q i o a w :=
  gs_run hw (v := v) (by unfold execOp; simp only [ho, hx, hy, Sem.run_bind, hgd, Result.andThen_ok, hr, Sem.run_pure]) (Below.refl _ _) hp
end

section
variable {ops : Array Oper} {S : Nat → GSpec} {Q : Exit → Act → World → Prop} {i : Nat} {o : Oper} {a : Act} {w : World}
theorem gs_load_set (hw : Region.wanted o (yielded ops a.tmps) = true) (x : Operand) (ho : o.op = .load 31 x) (g : Nat) (hx : a.eval x = .pointer (some ⟨g, 0, none⟩)) (y : BSet) (hg : Blk w g 31 (setC y))
    (hp : (S i).p (.agg (setC y)) w) : GStep Try.prog ops S Q i o a w :=
  gs_load hw _ x ho g hx _ _ hg _ Try.underlying31 rfl (info_set.trans (by rw [setC_size])) hp
theorem gs_neq_set (hw : Region.wanted o (yielded ops a.tmps) = true) (x y : Operand) (t2 : TypeId) (ho : o.op = .binOp .neq 31 x y t2) (p q : BSet) (hx : a.eval x = .agg (setC p)) (hy : a.eval y = .agg (setC q))
    (hp : (S i).p (.bool (!decide (p = q))) w) : GStep Try.prog ops S Q i o a w :=
  gs_bin hw _ _ _ x y ho _ _ _ hx hy (run_eqGuard_agg w _ _ _ _ _ _ guard_set) (run_neq_set p q w) hp
theorem gs_eql_set (hw : Region.wanted o (yielded ops a.tmps) = true) (x y : Operand) (t2 : TypeId) (ho : o.op = .binOp .eql 31 x y t2) (p q : BSet) (hx : a.eval x = .agg (setC p)) (hy : a.eval y = .agg (setC q))
    (hp : (S i).p (.bool (decide (p = q))) w) : GStep Try.prog ops S Q i o a w :=
  gs_bin hw _ _ _ x y ho _ _ _ hx hy (run_eqGuard_agg w _ _ _ _ _ _ guard_set) (run_eql_set p q w) hp
end

/-- a slice of sets that the call itself made -/
def setsS (xs : List BSet) : GSpec :=
  ⟨fun v w => ∃ A n c, v = .slice A n c ∧ n = xs.length ∧ SliceOf w w.heap.size 4 setC A xs,
   fun v w w' ⟨A, n, c, h1, h2, h3⟩ hb => ⟨A, n, c, h1, h2, (h3.below hb).more hb.size⟩⟩
def bytesS (xs : List UInt8) : GSpec :=
  ⟨fun v w => ∃ A n c, v = .slice A n c ∧ n = xs.length ∧ SliceOf w w.heap.size 1 enc8 A xs,
   fun v w w' ⟨A, n, c, h1, h2, h3⟩ hb => ⟨A, n, c, h1, h2, (h3.below hb).more hb.size⟩⟩

theorem eqF {p q : BSet} (h : p = q) : Value.bool (!decide (p = q)) = .bool false := by rw [decide_eq_true h]; rfl
theorem eqT {p q : BSet} (h : p = q) : Value.bool (decide (p = q)) = .bool true := by rw [decide_eq_true h]
theorem map1 {a : Act} {x : Operand} {v : Value} (h : a.eval x = v) : #[x].map a.eval = #[v] := by simp [h]
theorem map2 {a : Act} {x y : Operand} {v u : Value} (h : a.eval x = v) (h2 : a.eval y = u) : #[x, y].map a.eval = #[v, u] := by simp [h, h2]
theorem map3 {a : Act} {x y z : Operand} {v u t : Value} (h : a.eval x = v) (h2 : a.eval y = u) (h3 : a.eval z = t) : #[x, y, z].map a.eval = #[v, u, t] := by simp [h, h2, h3]

theorem enter_join (args : Array Value) (w : World) : (callFunc 24 args).run Try.prog w = .ok (.enter 24 args) w := by kernel_rfl
theorem enter_meet (args : Array Value) (w : World) : (callFunc 23 args).run Try.prog w = .ok (.enter 23 args) w := by kernel_rfl
theorem enter_not (args : Array Value) (w : World) : (callFunc 36 args).run Try.prog w = .ok (.enter 36 args) w := by kernel_rfl
theorem enter_has (args : Array Value) (w : World) : (callFunc 22 args).run Try.prog w = .ok (.enter 22 args) w := by kernel_rfl
theorem enter_count (args : Array Value) (w : World) : (callFunc 26 args).run Try.prog w = .ok (.enter 26 args) w := by kernel_rfl

theorem build_sets2 (x y : BSet) (w : World) : (Instr.buildSlice 27 2 #[(0, .agg (setC x)), (1, .agg (setC y))]).run Try.prog w = .ok (.slice (some ⟨w.heap.size, 0, none⟩) 2 2) (w.alloc (.cells (setC x ++ setC y) 31)) := by kernel_rfl
theorem build_sets3 (x y z : BSet) (w : World) : (Instr.buildSlice 27 3 #[(0, .agg (setC x)), (1, .agg (setC y)), (2, .agg (setC z))]).run Try.prog w = .ok (.slice (some ⟨w.heap.size, 0, none⟩) 3 3) (w.alloc (.cells (setC x ++ setC y ++ setC z) 31)) := by kernel_rfl
theorem row_of_append {w : World} {g : Nat} {t : TypeId} {A B C : Array Value} (h : Blk w g t (A ++ B ++ C)) : RowAt w g A.size B := by
  intro j v hv
  have hj : j < B.size := by
    rcases Nat.lt_or_ge j B.size with h1 | h1
    · exact h1
    · rw [Array.getElem?_eq_none h1] at hv; cases hv
  apply h.cellv
  rw [Array.getElem?_append_left (by simp; omega), Array.getElem?_append_right (by omega)]
  rw [show A.size + j - A.size = j by omega]
  exact hv
theorem sets2_of (x y : BSet) (w : World) : SliceOf (w.alloc (.cells (setC x ++ setC y) 31)) (w.alloc (.cells (setC x ++ setC y) 31)).heap.size 4 setC (some ⟨w.heap.size, 0, none⟩) [x, y] := by
  refine .inr ⟨w.heap.size, 0, rfl, by simp, fun i hi => ?_⟩
  have hb := Blk.new w 31 (setC x ++ setC y)
  match i, hi with
  | 0, _ => exact row_of_append (A := #[]) (C := setC y) (by simpa using hb)
  | 1, _ => exact row_of_append (A := setC x) (C := #[]) (by simpa using hb)
theorem sets3_of (x y z : BSet) (w : World) : SliceOf (w.alloc (.cells (setC x ++ setC y ++ setC z) 31)) (w.alloc (.cells (setC x ++ setC y ++ setC z) 31)).heap.size 4 setC (some ⟨w.heap.size, 0, none⟩) [x, y, z] := by
  refine .inr ⟨w.heap.size, 0, rfl, by simp, fun i hi => ?_⟩
  have hb := Blk.new w 31 (setC x ++ setC y ++ setC z)
  match i, hi with
  | 0, _ => exact row_of_append (A := #[]) (C := setC y ++ setC z) (by simpa [Array.append_assoc] using hb)
  | 1, _ => exact row_of_append (A := setC x) (C := setC z) hb
  | 2, _ => exact row_of_append (A := setC x ++ setC y) (C := #[]) (by simpa using hb)
section
variable {ops : Array Oper} {S : Nat → GSpec} {Q : Exit → Act → World → Prop} {i : Nat} {o : Oper} {a : Act} {w : World}
theorem gs_sets2 (hw : Region.wanted o (yielded ops a.tmps) = true) (x y : Operand) (ho : o.op = .buildSlice 27 2 #[(0, x), (1, y)]) (p q : BSet) (hx : a.eval x = .agg (setC p)) (hy : a.eval y = .agg (setC q))
    (hp : ∀ v w', (setsS [p, q]).p v w' → (S i).p v w') : GStep Try.prog ops S Q i o a w :=
  gs_run hw (v := .slice (some ⟨w.heap.size, 0, none⟩) 2 2) (w' := w.alloc (.cells (setC p ++ setC q) 31))
    (by
      have e : (#[(0, x), (1, y)] : Array (Nat × Operand)).map (fun (i, x) => (i, a.eval x)) = #[(0, .agg (setC p)), (1, .agg (setC q))] := by simp [hx, hy]
      unfold execOp; simp only [ho, e, Sem.run_bind, build_sets2, Result.andThen_ok, Sem.run_pure])
    (below_alloc (Below.refl _ _) _) (hp _ _ ⟨_, _, _, rfl, rfl, sets2_of p q w⟩)
theorem gs_sets3 (hw : Region.wanted o (yielded ops a.tmps) = true) (x y z : Operand) (ho : o.op = .buildSlice 27 3 #[(0, x), (1, y), (2, z)]) (p q r : BSet) (hx : a.eval x = .agg (setC p)) (hy : a.eval y = .agg (setC q)) (hz : a.eval z = .agg (setC r))
    (hp : ∀ v w', (setsS [p, q, r]).p v w' → (S i).p v w') : GStep Try.prog ops S Q i o a w :=
  gs_run hw (v := .slice (some ⟨w.heap.size, 0, none⟩) 3 3) (w' := w.alloc (.cells (setC p ++ setC q ++ setC r) 31))
    (by
      have e : (#[(0, x), (1, y), (2, z)] : Array (Nat × Operand)).map (fun (i, x) => (i, a.eval x)) = #[(0, .agg (setC p)), (1, .agg (setC q)), (2, .agg (setC r))] := by simp [hx, hy, hz]
      unfold execOp; simp only [ho, e, Sem.run_bind, build_sets3, Result.andThen_ok, Sem.run_pure])
    (below_alloc (Below.refl _ _) _) (hp _ _ ⟨_, _, _, rfl, rfl, sets3_of p q r w⟩)
theorem gs_join (hw : Region.wanted o (yielded ops a.tmps) = true) (x : Operand) (ats : Array TypeId) (ho : o.op = .call { callee := .value (.func 24), args := #[x], argTypes := ats }) (xs : List BSet)
    (hx : (setsS xs).p (a.eval x) w) (hl : xs.length ≤ maxLen) (hp : ∀ w', (S i).p (.agg (setC (joinL xs))) w') : GStep Try.prog ops S Q i o a w := by
  obtain ⟨A, n, c, hv, hn, hs⟩ := hx
  exact gs_call hw _ _ _ ho enter_join _ (map1 hv) ((join_any A n c xs w hn (by omega) hs).mono fun e w' ⟨he, hb⟩ => ⟨_, he, hb, hp _⟩)
theorem gs_meet (hw : Region.wanted o (yielded ops a.tmps) = true) (x y : Operand) (ats : Array TypeId) (ho : o.op = .call { callee := .value (.func 23), args := #[x, y], argTypes := ats }) (p q : BSet)
    (hx : a.eval x = .agg (setC p)) (hy : a.eval y = .agg (setC q)) (hp : ∀ w', (S i).p (.agg (setC (p &&& q))) w') : GStep Try.prog ops S Q i o a w :=
  gs_call hw _ _ _ ho enter_meet _ (map2 hx hy) ((meet_any p q w).mono fun e w' ⟨he, hb⟩ => ⟨_, he, hb, hp _⟩)
theorem gs_not (hw : Region.wanted o (yielded ops a.tmps) = true) (x : Operand) (ats : Array TypeId) (ho : o.op = .call { callee := .value (.func 36), args := #[x], argTypes := ats }) (p : BSet)
    (hx : a.eval x = .agg (setC p)) (hp : ∀ w', (S i).p (.agg (setC (notB p))) w') : GStep Try.prog ops S Q i o a w :=
  gs_call hw _ _ _ ho enter_not _ (map1 hx) ((not_any p w).mono fun e w' ⟨he, hb⟩ => ⟨_, he, hb, hp _⟩)
theorem gs_count (hw : Region.wanted o (yielded ops a.tmps) = true) (x : Operand) (ats : Array TypeId) (ho : o.op = .call { callee := .value (.func 26), args := #[x], argTypes := ats }) (p : BSet)
    (hx : a.eval x = .agg (setC p)) (hp : ∀ w', (S i).p (.int .i64 (cnt p)) w') : GStep Try.prog ops S Q i o a w :=
  gs_call hw _ _ _ ho enter_count _ (map1 hx) ((count_any p w).mono fun e w' ⟨he, hb⟩ => ⟨_, he, hb, hp _⟩)
theorem gs_has (hw : Region.wanted o (yielded ops a.tmps) = true) (x y : Operand) (ats : Array TypeId) (ho : o.op = .call { callee := .value (.func 22), args := #[x, y], argTypes := ats }) (p : BSet) (b : Nat) (hb : b < 256)
    (hx : a.eval x = .agg (setC p)) (hy : a.eval y = .int .u8 b) (hp : ∀ w', (S i).p (.bool (p.getLsbD b)) w') : GStep Try.prog ops S Q i o a w :=
  gs_call hw _ _ _ ho enter_has _ (map2 hx hy) ((has_any p b hb w).mono fun e w' ⟨he, hb⟩ => ⟨_, he, hb, hp _⟩)
end

end Go.Proofs.Ytjpiebapemalfaa
