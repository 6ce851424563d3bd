/- Part 2 of a proof; packed: the texts that it was made of follow one another. No condition beyond those named in each lemma. -/
import Derived.Test.YtajainmldcnaeaaPn1
namespace Go.Proofs.Ytajainmldcnaeaa
open Go.RowKit Go.Maps Go.WideMaps
set_option linter.unusedVariables false
set_option linter.unusedSimpArgs false

section
variable {P : Program} {ops : Array Oper} {S : Nat → GSpec} {Q : Exit → Act → World → Prop} {i : Nat} {o : Oper} {a : Act} {w : World}

theorem want_none (h : o.guard = none) : Region.wanted o (yielded ops a.tmps) = true := by simp [Region.wanted, h]
theorem want_yes {g : Nat} {b : Bool} {d : Nat} (h : o.guard = some (g, b)) (hd : (ops[g]?).bind (·.dst) = some d) (hv : a.tmps.getD d undef = .bool b) : Region.wanted o (yielded ops a.tmps) = true := by
  have h1 : a.tmps[d]? = some (.bool b) := by
    cases hh : a.tmps[d]? with
    | none => simp [hh] at hv; cases hv
    | some v => simp [hh] at hv; rw [hv]
  simp [Region.wanted, h, yielded, hd, h1]
theorem want_no {g : Nat} {b : Bool} {d : Nat} (h : o.guard = some (g, !b)) (hd : (ops[g]?).bind (·.dst) = some d) (hv : a.tmps.getD d undef = .bool b) : Region.wanted o (yielded ops a.tmps) = false := by
  have h1 : a.tmps[d]? = some (.bool b) := by
    cases hh : a.tmps[d]? with
    | none => simp [hh] at hv; cases hv
    | some v => simp [hh] at hv; rw [hv]
  simp [Region.wanted, h, yielded, hd, h1]
theorem gs_skip (hw : Region.wanted o (yielded ops a.tmps) = false) (hp : (S i).p undef w) : GStep P ops S Q i o a w := by
  unfold GStep; rw [hw]; exact hp
theorem gs_run (hw : Region.wanted o (yielded ops a.tmps) = true) {v : Value} {w' : World} (hr : (execOp a.eval o).run P w = .ok (.value v) w') (hb : Below w.heap.size w w') (hp : (S i).p v w') : GStep P ops S Q i o a w := by
  unfold GStep
  rw [if_pos hw]
  unfold Oper.wp
  rw [hr]
  exact ⟨v, rfl, hb, hp⟩
theorem gs_move (hw : Region.wanted o (yielded ops a.tmps) = true) (x : Operand) (ho : o.op = .move x) (hp : (S i).p (a.eval x) w) : GStep P ops S Q i o a w :=
  gs_run hw (v := a.eval x) (by unfold execOp; rw [ho]; rfl) (Below.refl _ _) hp
theorem gs_pick (hw : Region.wanted o (yielded ops a.tmps) = true) (c x y : Operand) (ho : o.op = .pick c x y) (b : Bool) (hc : a.eval c = .bool b) (hp : (S i).p (if b then a.eval x else a.eval y) w) : GStep P ops S Q i o a w :=
  gs_run hw (v := if b then a.eval x else a.eval y) (by unfold execOp; rw [ho]; simp only [hc]; rfl) (Below.refl _ _) hp
theorem gs_load (hw : Region.wanted o (yielded ops a.tmps) = true) (ty : TypeId) (x : Operand) (ho : o.op = .load ty x) (g : Nat) (hx : a.eval x = .pointer (some ⟨g, 0, none⟩)) (t : TypeId) (cs : Array Value) (hg : Blk w g t cs) (d : TypeDesc)
    (hu : P.underlying ty = some d) (hd : (match d with | .struct _ | .array _ _ => true | _ => false) = true) (hi : (P.info? ty).map (·.size) = some cs.size) (hp : (S i).p (.agg cs) w) : GStep P ops S Q i o a w :=
  gs_run hw (v := .agg cs) (by unfold execOp; simp only [ho, hx, Instr.loadAt, Instr.sureAddr, Sem.run_bind, Sem.run_pure, Result.andThen_ok, run_loadVar_row w g t ty cs (0, 0) d hg hu hd hi]) (Below.refl _ _) hp
theorem gs_call (hw : Region.wanted o (yielded ops a.tmps) = true) (f : FuncId) (xs : Array Operand) (ats : Array TypeId) (ho : o.op = .call { callee := .value (.func f), args := xs, argTypes := ats })
    (hf : ∀ args w, (callFunc f args).run P w = .ok (.enter f args) w) (vs : Array Value) (hv : xs.map a.eval = vs)
    (hc : Calls P f vs w fun e w' => ∃ v, e = .returned v ∧ Below w.heap.size w w' ∧ (S i).p v w') : GStep P ops S Q i o a w := by
  unfold GStep
  rw [if_pos hw]
  unfold Oper.wp
  have hr : (execOp a.eval o).run P w = .ok (.enter f vs) w := by
    have he : execOp a.eval o = callFunc f (#[] ++ xs.map a.eval ++ #[]) := by
      unfold execOp; rw [ho]; rfl
    rw [he, hv]
    simpa using hf vs w
  rw [hr, Oper.upon_enter]
  refine hc.mono ?_
  rintro e w' ⟨v, rfl, hb, hp⟩
  exact ⟨v, rfl, hb, hp⟩
theorem gs_bin (hw : Region.wanted o (yielded ops a.tmps) = true) (op : BinOp) (t t2 : TypeId) (x y : Operand) (ho : o.op = .binOp op t x y t2) (vx vy v : Value) (hx : a.eval x = vx) (hy : a.eval y = vy)
    (hgd : (eqGuard op t x y vx vy).run P w = .ok () w) (hr : (binOp op t vx vy).run P w = .ok v w) (hp : (S i).p v w) : GStep P ops S Q i o a w :=
  gs_run hw (v := v) (by unfold execOp; simp only [ho, hx, hy, Sem.run_bind, hgd, Result.andThen_ok, hr, Sem.run_pure]) (Below.refl _ _) hp
end

section
variable {ops : Array Oper} {S : Nat → GSpec} {Q : Exit → Act → World → Prop} {i : Nat} {o : Oper} {a : Act} {w : World}
theorem gs_load_set (hw : Region.wanted o (yielded ops a.tmps) = true) (x : Operand) (ho : o.op = .load 24 x) (g : Nat) (hx : a.eval x = .pointer (some ⟨g, 0, none⟩)) (y : BSet) (hg : Blk w g 24 (setC y))
    (hp : (S i).p (.agg (setC y)) w) : GStep Try.prog ops S Q i o a w :=
  gs_load hw _ x ho g hx _ _ hg _ Try.underlying24 rfl (info_set.trans (by rw [setC_size])) hp
theorem gs_neq_set (hw : Region.wanted o (yielded ops a.tmps) = true) (x y : Operand) (t2 : TypeId) (ho : o.op = .binOp .neq 24 x y t2) (p q : BSet) (hx : a.eval x = .agg (setC p)) (hy : a.eval y = .agg (setC q))
    (hp : (S i).p (.bool (!decide (p = q))) w) : GStep Try.prog ops S Q i o a w :=
  gs_bin hw _ _ _ x y ho _ _ _ hx hy (run_eqGuard_agg w _ _ _ _ _ _ guard_set) (run_neq_set p q w) hp
end

theorem map1 {a : Act} {x : Operand} {v : Value} (h : a.eval x = v) : #[x].map a.eval = #[v] := by simp [h]
theorem map2 {a : Act} {x y : Operand} {v u : Value} (h : a.eval x = v) (h2 : a.eval y = u) : #[x, y].map a.eval = #[v, u] := by simp [h, h2]
theorem map3 {a : Act} {x y z : Operand} {v u t : Value} (h : a.eval x = v) (h2 : a.eval y = u) (h3 : a.eval z = t) : #[x, y, z].map a.eval = #[v, u, t] := by simp [h, h2, h3]

section
variable {P : Program} {ops : Array Oper} {S : Nat → GSpec} {Q : Exit → Act → World → Prop} {i : Nat} {o : Oper} {a : Act} {w : World}
theorem gs_assign (hw : Region.wanted o (yielded ops a.tmps) = true) (x : Operand) (ho : o.op = .assign x) (hp : (S i).p (a.eval x) w) : GStep P ops S Q i o a w :=
  gs_run hw (v := a.eval x) (by unfold execOp; rw [ho]; rfl) (Below.refl _ _) hp
theorem gs_not_bool (hw : Region.wanted o (yielded ops a.tmps) = true) (t : TypeId) (x : Operand) (ho : o.op = .unOp .not t x) (b : Bool) (hx : a.eval x = .bool b) (hp : (S i).p (.bool (!b)) w) : GStep P ops S Q i o a w :=
  gs_run hw (v := .bool (!b)) (by unfold execOp; simp only [ho, hx]; rfl) (Below.refl _ _) hp
theorem gs_eql_int (hw : Region.wanted o (yielded ops a.tmps) = true) (t t2 : TypeId) (x y : Operand) (ho : o.op = .binOp .eql t x y t2) (k : IntKind) (p q : Int) (hx : a.eval x = .int k p) (hy : a.eval y = .int k q)
    (hp : (S i).p (.bool (p == q)) w) : GStep P ops S Q i o a w :=
  gs_bin hw _ _ _ x y ho _ _ _ hx hy (by rw [eqGuard_at_int]; rfl) (by rw [binOp_eql]; rfl) hp
theorem gs_neq_int (hw : Region.wanted o (yielded ops a.tmps) = true) (t t2 : TypeId) (x y : Operand) (ho : o.op = .binOp .neq t x y t2) (k : IntKind) (p q : Int) (hx : a.eval x = .int k p) (hy : a.eval y = .int k q)
    (hp : (S i).p (.bool (p != q)) w) : GStep P ops S Q i o a w :=
  gs_bin hw _ _ _ x y ho _ _ _ hx hy (by rw [eqGuard_at_int]; rfl) (by rw [binOp_neq]; rfl) hp
end
section
variable {P : Program} {ops : Array Oper} {S : Nat → GSpec} {Q : Exit → Act → World → Prop} {i : Nat} {o : Oper} {a : Act} {w : World}
theorem gs_len (hw : Region.wanted o (yielded ops a.tmps) = true) (x : Operand) (t : TypeId) (ho : o.op = .call { callee := .builtin .len, args := #[x], argTypes := #[t] }) (ht : P.underlying t = some (.slice (P.elem t)))
    (A : Option Addr) (n c : Nat) (hx : a.eval x = .slice A n c) (hp : (S i).p (.int .i64 n) w) : GStep P ops S Q i o a w :=
  gs_run hw (v := .int .i64 n) (by
    unfold execOp
    simp only [ho, resolve, invoke, builtin, Sem.run_bind, Sem.run_pure, Result.andThen_ok, List.map_toArray, List.map_cons, List.map_nil, hx, run_len_slice w t o.type A n c ht]
    rfl) (Below.refl _ _) hp
theorem gs_index (hw : Region.wanted o (yielded ops a.tmps) = true) (x ix : Operand) (t : TypeId) (ho : o.op = .indexAddr t x ix) (ht : P.underlying t = some (.slice (P.elem t))) (size : Nat) (hsz : ∀ w, (sizeOf (P.elem t)).run P w = .ok size w)
    (b off n c m : Nat) (hx : a.eval x = .slice (some ⟨b, off, none⟩) n c) (hi : a.eval ix = .int .i64 m) (hm : m < n) (hp : (S i).p (.pointer (some ⟨b, off + m * size, none⟩)) w) : GStep P ops S Q i o a w :=
  gs_run hw (v := .pointer (some ⟨b, off + m * size, none⟩)) (by
    unfold execOp
    have e := run_indexAt_slice (P := P) w t ⟨b, off, none⟩ n c .i64 (m : Int) ht
    rw [if_pos ⟨by omega, by omega⟩, hsz] at e
    simp only [Int.toNat_natCast, Result.andThen_ok, addr_add] at e
    simp only [ho, hx, hi, Sem.run_bind, e, Result.andThen_ok, Sem.run_pure]) (Below.refl _ _) hp
end
section
variable {ops : Array Oper} {S : Nat → GSpec} {Q : Exit → Act → World → Prop} {i : Nat} {o : Oper} {a : Act} {w : World}
end

theorem run_load1 {P : Program} (w : World) (a : Addr) (ty : TypeId) (d : TypeDesc) (v : Value) (hc : w.cell? a = some v) (hu : P.underlying ty = some d) (hd : (match d with | .struct _ | .array _ _ => true | _ => false) = false) :
    (loadVar ty a).run P w = .ok v w := by
  have hagg : (isAgg ty).run P w = .ok false w := by
    unfold isAgg
    rw [Sem.run_bind, run_underlying hu w]
    cases d <;> simp_all
  simp [loadVar, Sem.run_bind, hagg, hc]
theorem field_nfa_0 (b off : Nat) (w : World) : (Instr.fieldAt 52 (.pointer (some ⟨b, off, none⟩)) 0).run Try.prog w = .ok (.pointer (some ⟨b, off, none⟩)) w := by kernel_rfl
theorem field_nfa_1 (b off : Nat) (w : World) : (Instr.fieldAt 52 (.pointer (some ⟨b, off, none⟩)) 1).run Try.prog w = .ok (.pointer (some ⟨b, off + 1, none⟩)) w := by kernel_rfl
theorem field_nfa_2 (b off : Nat) (w : World) : (Instr.fieldAt 52 (.pointer (some ⟨b, off, none⟩)) 2).run Try.prog w = .ok (.pointer (some ⟨b, off + 2, none⟩)) w := by kernel_rfl
theorem field_edge_0 (b off : Nat) (w : World) : (Instr.fieldAt 67 (.pointer (some ⟨b, off, none⟩)) 0).run Try.prog w = .ok (.pointer (some ⟨b, off, none⟩)) w := by kernel_rfl
theorem field_edge_1 (b off : Nat) (w : World) : (Instr.fieldAt 67 (.pointer (some ⟨b, off, none⟩)) 1).run Try.prog w = .ok (.pointer (some ⟨b, off + 1, none⟩)) w := by kernel_rfl
theorem field_edge_2 (b off : Nat) (w : World) : (Instr.fieldAt 67 (.pointer (some ⟨b, off, none⟩)) 2).run Try.prog w = .ok (.pointer (some ⟨b, off + 2, none⟩)) w := by kernel_rfl
theorem field_edge_3 (b off : Nat) (w : World) : (Instr.fieldAt 67 (.pointer (some ⟨b, off, none⟩)) 3).run Try.prog w = .ok (.pointer (some ⟨b, off + 3, none⟩)) w := by kernel_rfl
section
variable {P : Program} {ops : Array Oper} {S : Nat → GSpec} {Q : Exit → Act → World → Prop} {i : Nat} {o : Oper} {a : Act} {w : World}
theorem gs_field (hw : Region.wanted o (yielded ops a.tmps) = true) (t : TypeId) (x : Operand) (f : Nat) (ho : o.op = .fieldAddr t x f) (b off off' : Nat) (hx : a.eval x = .pointer (some ⟨b, off, none⟩))
    (hr : ∀ w, (Instr.fieldAt t (.pointer (some ⟨b, off, none⟩)) f).run P w = .ok (.pointer (some ⟨b, off', none⟩)) w) (hp : (S i).p (.pointer (some ⟨b, off', none⟩)) w) : GStep P ops S Q i o a w :=
  gs_run hw (v := .pointer (some ⟨b, off', none⟩)) (by unfold execOp; simp only [ho, hx, Sem.run_bind, hr, Result.andThen_ok, Sem.run_pure]) (Below.refl _ _) hp
theorem gs_load1 (hw : Region.wanted o (yielded ops a.tmps) = true) (ty : TypeId) (x : Operand) (ho : o.op = .load ty x) (b off : Nat) (hx : a.eval x = .pointer (some ⟨b, off, none⟩)) (v : Value) (hc : w.cell? ⟨b, off, none⟩ = some v)
    (d : TypeDesc) (hu : P.underlying ty = some d) (hd : (match d with | .struct _ | .array _ _ => true | _ => false) = false) (hp : (S i).p v w) : GStep P ops S Q i o a w :=
  gs_run hw (v := v) (by unfold execOp; simp only [ho, hx, Instr.loadAt, Instr.sureAddr, Sem.run_bind, Sem.run_pure, Result.andThen_ok, run_load1 w _ ty d v hc hu hd]) (Below.refl _ _) hp
end
section
variable {ops : Array Oper} {S : Nat → GSpec} {Q : Exit → Act → World → Prop} {i : Nat} {o : Oper} {a : Act} {w : World}
end

theorem under_rules : Try.prog.underlying 50 = some (.slice (Try.prog.elem 50)) := by kernel_rfl
theorem size_ruleE (w : World) : (sizeOf (Try.prog.elem 50)).run Try.prog w = .ok 1 w := by kernel_rfl
section
variable {P : Program} {ops : Array Oper} {S : Nat → GSpec} {Q : Exit → Act → World → Prop} {i : Nat} {o : Oper} {a : Act} {w : World}
theorem gs_nil (hw : Region.wanted o (yielded ops a.tmps) = true) (x : Operand) (ho : o.op = .nilCheck x) (p : Addr) (hx : a.eval x = .pointer (some p)) (hp : (S i).p (.pointer (some p)) w) : GStep P ops S Q i o a w :=
  gs_run hw (v := .pointer (some p)) (by unfold execOp; simp only [ho, hx]; rfl) (Below.refl _ _) hp
end

/-- a value that is there under a condition -/
def vF : Bool → Value → Value
  | true, v => v
  | false, _ => undef
theorem vF_true (v : Value) : vF true v = v := rfl
theorem vF_false (v : Value) : vF false v = undef := rfl
theorem vF_no {c : Bool} (e : c = false) (v : Value) : undef = vF c v := by rw [e]; rfl
theorem vF_yes {c : Bool} (e : c = true) (v : Value) : vF c v = v := by rw [e]; rfl
theorem vF_and {c b : Bool} (h1 : c = true) (h2 : b = true) (v : Value) : vF (c && b) v = v := by rw [h1, h2]; rfl
theorem off_not {k : Bool} (e : (true && (k == false)) = false) : (!k) = false := by cases k <;> simp_all
theorem off_and {c b : Bool} (e : (c && (b == true)) = false) : (c && b) = false := by cases c <;> cases b <;> simp_all
theorem on_not {k : Bool} (e : k = false) : (!k) = true := by rw [e]; rfl
/-- 'a && b' and 'a || b', as they are picked -/
theorem pick_and {a b : Bool} {v : Value} (h : v = vF a (.bool b)) : (if a = true then v else .bool false) = .bool (a && b) := by cases a <;> simp_all [vF]
theorem pick_or {a b : Bool} {v : Value} (h : v = vF (!a) (.bool b)) : (if a = true then .bool true else v) = .bool (a || b) := by cases a <;> simp_all [vF]
section
variable {P : Program} {ops : Array Oper} {S : Nat → GSpec} {Q : Exit → Act → World → Prop} {i : Nat} {o : Oper} {a : Act} {w : World}
/-- a guarded operation: both ways -/
theorem gs_guard {g d : Nat} {b c b' : Bool} (ho : o.guard = some (g, b)) (hd : (ops[g]?).bind (·.dst) = some d) (hv : a.tmps.getD d undef = vF c (.bool b'))
    (h1 : c = true → b' = b → Region.wanted o (yielded ops a.tmps) = true → GStep P ops S Q i o a w) (h2 : (c && (b' == b)) = false → (S i).p undef w) : GStep P ops S Q i o a w := by
  cases c
  · refine gs_skip ?_ (h2 rfl)
    rw [vF_false] at hv
    have h1 : a.tmps[d]? ≠ some (.bool b) := by
      intro hh
      simp [hh] at hv
      cases hv
    simp only [Region.wanted, ho, yielded, hd, Option.bind_some]
    rcases hh : a.tmps[d]? with _ | v
    · simp
    · have hv2 : v = undef := by simpa [hh] using hv
      rw [hv2]
      rfl
  · rw [vF_true] at hv
    by_cases e : b' = b
    · exact h1 rfl e (want_yes ho hd (e ▸ hv))
    · have e2 : b = !b' := by cases b <;> cases b' <;> simp_all
      refine gs_skip (want_no (b := b') ?_ hd hv) (h2 (by simp [e]))
      rw [ho, e2]
end

section
variable {P : Program} {ops : Array Oper} {S : Nat → GSpec} {Q : Exit → Act → World → Prop} {i : Nat} {o : Oper} {a : Act} {w : World}
theorem gs_geq_int (hw : Region.wanted o (yielded ops a.tmps) = true) (t t2 : TypeId) (x y : Operand) (ho : o.op = .binOp .geq t x y t2) (k : IntKind) (p q : Int) (hx : a.eval x = .int k p) (hy : a.eval y = .int k q)
    (hp : (S i).p (.bool (decide (q ≤ p))) w) : GStep P ops S Q i o a w :=
  gs_bin hw _ _ _ x y ho _ _ _ hx hy (by rw [eqGuard_at_int]; rfl) (by rw [binOp_geq]; rfl) hp
theorem gs_leq_int (hw : Region.wanted o (yielded ops a.tmps) = true) (t t2 : TypeId) (x y : Operand) (ho : o.op = .binOp .leq t x y t2) (k : IntKind) (p q : Int) (hx : a.eval x = .int k p) (hy : a.eval y = .int k q)
    (hp : (S i).p (.bool (decide (p ≤ q))) w) : GStep P ops S Q i o a w :=
  gs_bin hw _ _ _ x y ho _ _ _ hx hy (by rw [eqGuard_at_int]; rfl) (by rw [binOp_leq]; rfl) hp
end
theorem on_g {c x b : Bool} (h1 : c = true) (h2 : x = b) : (c && (x == b)) = true := by rw [h1, h2]; simp
theorem pick_or2 {c x y : Bool} {v : Value} (hc : c = true) (h : v = vF (c && (x == false)) (.bool y)) : (if x = true then .bool true else v) = .bool (x || y) := by
  subst hc
  cases x
  · exact h
  · rfl
theorem pick_and2 {c x y : Bool} {v : Value} (hc : c = true) (h : v = vF (c && (x == true)) (.bool y)) : (if x = true then v else .bool false) = .bool (x && y) := by
  subst hc
  cases x
  · rfl
  · exact h
section
variable {P : Program} {ops : Array Oper} {S : Nat → GSpec} {Q : Exit → Act → World → Prop} {i : Nat} {o : Oper} {a : Act} {w : World}
theorem gs_lss_int (hw : Region.wanted o (yielded ops a.tmps) = true) (t t2 : TypeId) (x y : Operand) (ho : o.op = .binOp .lss t x y t2) (k : IntKind) (p q : Int) (hx : a.eval x = .int k p) (hy : a.eval y = .int k q)
    (hp : (S i).p (.bool (decide (p < q))) w) : GStep P ops S Q i o a w :=
  gs_bin hw _ _ _ x y ho _ _ _ hx hy (by rw [eqGuard_at_int]; rfl) (by rw [binOp_lss]; rfl) hp
theorem gs_gtr_int (hw : Region.wanted o (yielded ops a.tmps) = true) (t t2 : TypeId) (x y : Operand) (ho : o.op = .binOp .gtr t x y t2) (k : IntKind) (p q : Int) (hx : a.eval x = .int k p) (hy : a.eval y = .int k q)
    (hp : (S i).p (.bool (decide (q < p))) w) : GStep P ops S Q i o a w :=
  gs_bin hw _ _ _ x y ho _ _ _ hx hy (by rw [eqGuard_at_int]; rfl) (by rw [binOp_gtr]; rfl) hp
/-- a closure's call -/
theorem gs_callv (hw : Region.wanted o (yielded ops a.tmps) = true) (f : FuncId) (c : Operand) (cap : Array Value) (xs : Array Operand) (ats : Array TypeId) (ho : o.op = .call { callee := .value c, args := xs, argTypes := ats })
    (he : a.eval c = .func (.func f) #[] cap) (hf : ∀ args w, (callFunc f args).run P w = .ok (.enter f args) w) (vs : Array Value) (hv : xs.map a.eval ++ cap = vs)
    (hc : Calls P f vs w fun e w' => ∃ v, e = .returned v ∧ Below w.heap.size w w' ∧ (S i).p v w') : GStep P ops S Q i o a w := by
  unfold GStep
  rw [if_pos hw]
  unfold Oper.wp
  have hr : (execOp a.eval o).run P w = .ok (.enter f vs) w := by
    have he2 : execOp a.eval o = callFunc f (#[] ++ xs.map a.eval ++ cap) := by
      unfold execOp; rw [ho]; simp only [resolve, he]; rfl
    rw [he2, Array.empty_append, hv]
    exact hf vs w
  rw [hr, Oper.upon_enter]
  refine hc.mono ?_
  rintro e w' ⟨v, rfl, hb, hp⟩
  exact ⟨v, rfl, hb, hp⟩
end
section
variable {ops : Array Oper} {S : Nat → GSpec} {Q : Exit → Act → World → Prop} {i : Nat} {o : Oper} {a : Act} {w : World}
theorem gs_load_set_at (hw : Region.wanted o (yielded ops a.tmps) = true) (x : Operand) (ho : o.op = .load 24 x) (b off : Nat) (hx : a.eval x = .pointer (some ⟨b, off, none⟩)) (y : BSet) (hr : RowAt w b off (setC y))
    (hp : (S i).p (.agg (setC y)) w) : GStep Try.prog ops S Q i o a w :=
  gs_run hw (v := .agg (setC y)) (by unfold execOp; simp only [ho, hx, Instr.loadAt, Instr.sureAddr, Sem.run_bind, Sem.run_pure, Result.andThen_ok, run_loadVar_at w b off _ _ _ hr Try.underlying24 rfl (info_set.trans (by rw [setC_size]))]) (Below.refl _ _) hp
theorem build_set0 (w : World) : (Instr.build 24 #[]).run Try.prog w = .ok (.agg (setC 0)) w := by kernel_rfl
theorem gs_build_set0 (hw : Region.wanted o (yielded ops a.tmps) = true) (ho : o.op = .build 24 #[]) (hp : (S i).p (.agg (setC 0)) w) : GStep Try.prog ops S Q i o a w :=
  gs_run hw (v := .agg (setC 0)) (by unfold execOp; simp only [ho, List.map_toArray, List.map_nil, Sem.run_bind, build_set0, Result.andThen_ok, Sem.run_pure]) (Below.refl _ _) hp
end
/-- a call, in a list -/
theorem wl_call {P : Program} {ops : Array Oper} {rest : List Oper} {o : Oper} {a : Act} {w : World} {Q : Exit → Act → World → Prop} (hgd : o.guard = none) (f : FuncId) (xs : Array Operand) (ats : Array TypeId) (ho : o.op = .call { callee := .value (.func f), args := xs, argTypes := ats })
    (hf : ∀ args w, (callFunc f args).run P w = .ok (.enter f args) w) (vs : Array Value) (hv : xs.map a.eval = vs)
    (hc : Calls P f vs w fun e w' => ∃ v, e = .returned v ∧ wpList P ops Q rest (a.put o.dst v) w') : wpList P ops Q (o :: rest) a w := by
  refine wpList_plain hgd fun K hK => ?_
  unfold Oper.wp
  have hr : (execOp a.eval o).run P w = .ok (.enter f vs) w := by
    have he : execOp a.eval o = callFunc f (#[] ++ xs.map a.eval ++ #[]) := by
      unfold execOp; rw [ho]; rfl
    rw [he, hv]
    simpa using hf vs w
  rw [hr, Oper.upon_enter]
  refine hc.mono ?_
  rintro e w' ⟨v, rfl, h⟩
  exact hK _ _ h
theorem wpList_w {P : Program} {ops : Array Oper} {rest : List Oper} {o : Oper} {a : Act} {w : World} {Q : Exit → Act → World → Prop} (hw : Region.wanted o (yielded ops a.tmps) = true) (h : wpList P ops Q ({ o with guard := none } :: rest) a w) : wpList P ops Q (o :: rest) a w := by
  unfold wpList at h ⊢
  rw [if_pos (by simp [Region.wanted])] at h
  rw [if_pos hw]
  exact h
theorem map1c {a : Act} {x : Operand} {v : Value} (p : Value) (h : a.eval x = v) : #[x].map a.eval ++ #[p] = #[v, p] := by simp [h]
/-- a goal at which a walk stands still -/
structure Parked (p : Prop) : Prop where
  h : p
theorem park {p : Prop} (h : Parked p) : p := h.h
theorem info_int3 : (Try.prog.info? 3).map (fun i => (i.zero, i.size, i.bytes)) = some (some (.int .i64 0), 1, 8) := by kernel_rfl
end Go.Proofs.Ytajainmldcnaeaa
namespace Go.Proofs.Ytajainmldcnaeaa
open Go.RowKit Go.Maps
set_option linter.unusedVariables false
set_option linter.unusedSimpArgs false

def setsS (xs : List BSet) : GSpec :=
  ⟨fun v w => ∃ A n c, v = .slice A n c ∧ n = xs.length ∧ SliceOf w w.heap.size 4 setC A xs,
   fun v w w' ⟨A, n, c, h1, h2, h3⟩ hb => ⟨A, n, c, h1, h2, (h3.below hb).more hb.size⟩⟩
def bytesS (xs : List UInt8) : GSpec :=
  ⟨fun v w => ∃ A n c, v = .slice A n c ∧ n = xs.length ∧ SliceOf w w.heap.size 1 enc8 A xs,
   fun v w w' ⟨A, n, c, h1, h2, h3⟩ hb => ⟨A, n, c, h1, h2, (h3.below hb).more hb.size⟩⟩

theorem enter_join (args : Array Value) (w : World) : (callFunc 89 args).run Try.prog w = .ok (.enter 89 args) w := by kernel_rfl
theorem enter_meet (args : Array Value) (w : World) : (callFunc 91 args).run Try.prog w = .ok (.enter 91 args) w := by kernel_rfl
theorem enter_not (args : Array Value) (w : World) : (callFunc 80 args).run Try.prog w = .ok (.enter 80 args) w := by kernel_rfl
theorem build_sets2 (x y : BSet) (w : World) : (Instr.buildSlice 123 2 #[(0, .agg (setC x)), (1, .agg (setC y))]).run Try.prog w = .ok (.slice (some ⟨w.heap.size, 0, none⟩) 2 2) (w.alloc (.cells (setC x ++ setC y) 24)) := by kernel_rfl
theorem row_of_append {w : World} {g : Nat} {t : TypeId} {A B C : Array Value} (h : Blk w g t (A ++ B ++ C)) : RowAt w g A.size B := by
  intro j v hv
  have hj : j < B.size := by
    rcases Nat.lt_or_ge j B.size with h1 | h1
    · exact h1
    · rw [Array.getElem?_eq_none h1] at hv; cases hv
  apply h.cellv
  rw [Array.getElem?_append_left (by simp; omega), Array.getElem?_append_right (by omega)]
  rw [show A.size + j - A.size = j by omega]
  exact hv
theorem sets2_of (x y : BSet) (w : World) : SliceOf (w.alloc (.cells (setC x ++ setC y) 24)) (w.alloc (.cells (setC x ++ setC y) 24)).heap.size 4 setC (some ⟨w.heap.size, 0, none⟩) [x, y] := by
  refine .inr ⟨w.heap.size, 0, rfl, by simp, fun i hi => ?_⟩
  have hb := Blk.new w 24 (setC x ++ setC y)
  match i, hi with
  | 0, _ => exact row_of_append (A := #[]) (C := setC y) (by simpa using hb)
  | 1, _ => exact row_of_append (A := setC x) (C := #[]) (by simpa using hb)
theorem enter_of (args : Array Value) (w : World) : (callFunc 82 args).run Try.prog w = .ok (.enter 82 args) w := by kernel_rfl
theorem build_byte1 (b : Int) (w : World) : (Instr.buildSlice 86 1 #[(0, .int .u8 b)]).run Try.prog w = .ok (.slice (some ⟨w.heap.size, 0, none⟩) 1 1) (w.alloc (.cells #[.int .u8 b] 5)) := by kernel_rfl
theorem enter_span (args : Array Value) (w : World) : (callFunc 102 args).run Try.prog w = .ok (.enter 102 args) w := by kernel_rfl
theorem build_byte2 (b c : Int) (w : World) : (Instr.buildSlice 86 2 #[(0, .int .u8 b), (1, .int .u8 c)]).run Try.prog w = .ok (.slice (some ⟨w.heap.size, 0, none⟩) 2 2) (w.alloc (.cells #[.int .u8 b, .int .u8 c] 5)) := by kernel_rfl
theorem bytes_of_blk {w : World} {g : Nat} {t : TypeId} {l : List UInt8} (h : Blk w g t (l.map fun b => Value.int .u8 b.toNat).toArray) : SliceOf w w.heap.size 1 enc8 (some ⟨g, 0, none⟩) l := by
  refine .inr ⟨g, 0, rfl, h.lt, fun i hi j v hv => ?_⟩
  have hj : j = 0 := by
    rcases Nat.eq_zero_or_pos j with h0 | h0
    · exact h0
    · rw [Array.getElem?_eq_none (by simp [enc8]; omega)] at hv; cases hv
  subst hj
  apply h.cellv
  simp only [enc8, List.getElem?_toArray, List.getElem?_cons_zero, Option.some.injEq] at hv
  subst hv
  simp [hi]

theorem bytes_of_two {w : World} {g : Nat} {t : TypeId} (b c : UInt8) (h : Blk w g t #[.int .u8 b.toNat, .int .u8 c.toNat]) : SliceOf w w.heap.size 1 enc8 (some ⟨g, 0, none⟩) [b, c] := by
  have := bytes_of_blk (l := [b, c]) (w := w) (g := g) (t := t) h
  exact this
section
variable {ops : Array Oper} {S : Nat → GSpec} {Q : Exit → Act → World → Prop} {i : Nat} {o : Oper} {a : Act} {w : World}
theorem gs_sets2 (hw : Region.wanted o (yielded ops a.tmps) = true) (x y : Operand) (ho : o.op = .buildSlice 123 2 #[(0, x), (1, y)]) (p q : BSet) (hx : a.eval x = .agg (setC p)) (hy : a.eval y = .agg (setC q))
    (hp : ∀ v w', (setsS [p, q]).p v w' → (S i).p v w') : GStep Try.prog ops S Q i o a w :=
  gs_run hw (v := .slice (some ⟨w.heap.size, 0, none⟩) 2 2) (w' := w.alloc (.cells (setC p ++ setC q) 24))
    (by
      have e : (#[(0, x), (1, y)] : Array (Nat × Operand)).map (fun (i, x) => (i, a.eval x)) = #[(0, .agg (setC p)), (1, .agg (setC q))] := by simp [hx, hy]
      unfold execOp; simp only [ho, e, Sem.run_bind, build_sets2, Result.andThen_ok, Sem.run_pure])
    (below_alloc (Below.refl _ _) _) (hp _ _ ⟨_, _, _, rfl, rfl, sets2_of p q w⟩)
theorem gs_join (hw : Region.wanted o (yielded ops a.tmps) = true) (x : Operand) (ats : Array TypeId) (ho : o.op = .call { callee := .value (.func 89), args := #[x], argTypes := ats }) (xs : List BSet)
    (hx : (setsS xs).p (a.eval x) w) (hl : xs.length ≤ maxLen) (hp : ∀ w', (S i).p (.agg (setC (joinL xs))) w') : GStep Try.prog ops S Q i o a w := by
  obtain ⟨A, n, c, hv, hn, hs⟩ := hx
  exact gs_call hw _ _ _ ho enter_join _ (map1 hv) ((join_any A n c xs w hn (by omega) hs).mono fun e w' ⟨he, hb⟩ => ⟨_, he, hb, hp _⟩)
theorem gs_meet (hw : Region.wanted o (yielded ops a.tmps) = true) (x y : Operand) (ats : Array TypeId) (ho : o.op = .call { callee := .value (.func 91), args := #[x, y], argTypes := ats }) (p q : BSet)
    (hx : a.eval x = .agg (setC p)) (hy : a.eval y = .agg (setC q)) (hp : ∀ w', (S i).p (.agg (setC (p &&& q))) w') : GStep Try.prog ops S Q i o a w :=
  gs_call hw _ _ _ ho enter_meet _ (map2 hx hy) ((meet_any p q w).mono fun e w' ⟨he, hb⟩ => ⟨_, he, hb, hp _⟩)
theorem gs_not (hw : Region.wanted o (yielded ops a.tmps) = true) (x : Operand) (ats : Array TypeId) (ho : o.op = .call { callee := .value (.func 80), args := #[x], argTypes := ats }) (p : BSet)
    (hx : a.eval x = .agg (setC p)) (hp : ∀ w', (S i).p (.agg (setC (notB p))) w') : GStep Try.prog ops S Q i o a w :=
  gs_call hw _ _ _ ho enter_not _ (map1 hx) ((not_any p w).mono fun e w' ⟨he, hb⟩ => ⟨_, he, hb, hp _⟩)
theorem gs_byte1 (hw : Region.wanted o (yielded ops a.tmps) = true) (x : Operand) (ho : o.op = .buildSlice 86 1 #[(0, x)]) (b : UInt8) (hx : a.eval x = .int .u8 b.toNat)
    (hp : ∀ v w', (bytesS [b]).p v w' → (S i).p v w') : GStep Try.prog ops S Q i o a w :=
  gs_run hw (v := .slice (some ⟨w.heap.size, 0, none⟩) 1 1) (w' := w.alloc (.cells #[.int .u8 b.toNat] 5))
    (by
      have e : (#[(0, x)] : Array (Nat × Operand)).map (fun (i, x) => (i, a.eval x)) = #[(0, .int .u8 b.toNat)] := by simp [hx]
      unfold execOp; simp only [ho, e, Sem.run_bind, build_byte1, Result.andThen_ok, Sem.run_pure])
    (below_alloc (Below.refl _ _) _) (hp _ _ ⟨_, _, _, rfl, rfl, bytes_of_blk (l := [b]) (Blk.new w 5 #[.int .u8 b.toNat])⟩)
theorem gs_of (hw : Region.wanted o (yielded ops a.tmps) = true) (x : Operand) (ats : Array TypeId) (ho : o.op = .call { callee := .value (.func 82), args := #[x], argTypes := ats }) (xs : List UInt8)
    (hx : (bytesS xs).p (a.eval x) w) (hl : xs.length ≤ maxLen) (hp : ∀ w', (S i).p (.agg (setC (ofB xs))) w') : GStep Try.prog ops S Q i o a w := by
  obtain ⟨A, n, c, hv, hn, hs⟩ := hx
  exact gs_call hw _ _ _ ho enter_of _ (map1 hv) ((of_any A n c xs w hn (by omega) hs).mono fun e w' ⟨he, hb⟩ => ⟨_, he, hb, hp _⟩)
theorem gs_span (hw : Region.wanted o (yielded ops a.tmps) = true) (x y : Operand) (ats : Array TypeId) (ho : o.op = .call { callee := .value (.func 102), args := #[x, y], argTypes := ats }) (p q : Nat)
    (hx : a.eval x = .int .u8 (p : Int)) (hy : a.eval y = .int .u8 (q : Int)) (hp0 : p < 256) (hq0 : q < 256) (hp : ∀ w', (S i).p (.agg (setC (spanB p q))) w') : GStep Try.prog ops S Q i o a w :=
  gs_call hw _ _ _ ho enter_span _ (map2 hx hy) ((span_any p q w hp0 hq0).mono fun e w' ⟨he, hb⟩ => ⟨_, he, hb, hp _⟩)
theorem gs_byte2 (hw : Region.wanted o (yielded ops a.tmps) = true) (x y : Operand) (ho : o.op = .buildSlice 86 2 #[(0, x), (1, y)]) (b c : UInt8) (hx : a.eval x = .int .u8 b.toNat) (hy : a.eval y = .int .u8 c.toNat)
    (hp : ∀ v w', (bytesS [b, c]).p v w' → (S i).p v w') : GStep Try.prog ops S Q i o a w :=
  gs_run hw (v := .slice (some ⟨w.heap.size, 0, none⟩) 2 2) (w' := w.alloc (.cells #[.int .u8 b.toNat, .int .u8 c.toNat] 5))
    (by
      have e : (#[(0, x), (1, y)] : Array (Nat × Operand)).map (fun (i, x) => (i, a.eval x)) = #[(0, .int .u8 b.toNat), (1, .int .u8 c.toNat)] := by simp [hx, hy]
      unfold execOp; simp only [ho, e, Sem.run_bind, build_byte2, Result.andThen_ok, Sem.run_pure])
    (below_alloc (Below.refl _ _) _) (hp _ _ ⟨_, _, _, rfl, rfl, bytes_of_two b c (Blk.new w 5 #[.int .u8 b.toNat, .int .u8 c.toNat])⟩)
theorem ret_set2 {fn : Func} {p u : Tmp} {g : Nat} {x : BSet} (hres : fn.results = #[.cell p 24, .tmp u])
    (hp : a.tmps.getD p undef = .pointer (some ⟨g, 0, none⟩)) (hb : Blk w g 24 (setC x))
    (hdf : a.defers = []) {R : Ending → World → Prop} (hR : R (.returned (.tuple #[.agg (setC x), a.tmps.getD u undef])) w) : bodyPost Try.prog fn R .ret a w :=
  ret_cell2 hres _ hp hb Try.underlying24 rfl (info_set.trans (by rw [setC_size])) hdf hR
end
end Go.Proofs.Ytajainmldcnaeaa
namespace Go.Proofs.Ytajainmldcnaeaa
open Go.RowKit
set_option linter.unusedVariables false
set_option linter.unusedSimpArgs false
theorem alnum_l : (⟨#[97, 108, 110, 117, 109]⟩ : ByteArray).toList = [97, 108, 110, 117, 109] := by rw [ByteArray.toList_eq]

def cls_alnum : BSet := (joinL [(joinL [(spanB 48 57), (spanB 65 90)]), (spanB 97 122)])
set_option maxRecDepth 100000 in
set_option maxHeartbeats 1000000 in
theorem class_alnum (s : ByteArray) (w : World) (hs : Hid (s.toList = [97, 108, 110, 117, 109])) : Calls Try.prog 105 #[.string s] w fun e w' => e = .returned (.tuple #[.agg (setC cls_alnum), .int .i64 0]) ∧ Below w.heap.size w w' := by
  have hb2 := (Blk.new w 24 (setC 0)).alloc (.cells (setC 0) 24)
  have hb4 := Blk.new' (w.alloc (.cells (setC 0) 24)) 24 (setC 0) (World.size_alloc _ _).symm
  have hB := below_alloc (below_alloc (Below.refl w.heap.size w) (.cells (setC 0) 24)) (.cells (setC 0) 24)
  unfold cls_alnum
  have q_alnum : (s.toList == [97, 108, 110, 117, 109]) = true := by rw [hs.out]; decide
  go_enter Try.func105, Try.ntmps105
  go_upto_region 15 with (fail)
  refine wp_region_text 1 [eqS (.agg (setC (spanB 48 57)))] [32] (by kernel_rfl) rfl ?_ ?_
  · refine Steps.cons (fun a' w' hG hB dep => gs_span (want_none rfl) _ _ _ rfl 48 57 rfl rfl (by decide) (by decide) (fun _ => rfl)) ?_
    exact Steps.nil
  intro u w3 hB3 ans
  have ux : u 32 = .agg (setC (spanB 48 57)) := ans 0 32 (by decide) rfl
  clear ans
  simp only [putAll, List.foldl_cons, List.foldl_nil, Act.put, List.setIfInBounds_toArray, List.set_cons_zero, List.set_cons_succ, ux]
  clear ux
  go_upto_region 16 with (refine wl_store_set rfl _ _ rfl _ _ rfl rfl _ (blk_then hb4 hB3) ?_; intro w4 hb4' hg4)
  replace hb2 := blk_grown (blk_then hb2 hB3) hg4 (by omega)
  replace hB := below_grown (below_then hB hB3) hg4 (by omega)
  replace hb4 := hb4'
  clear hb4' hg4 hB3
  obtain ⟨wv, hwv⟩ : ∃ x, x = w4 := ⟨_, rfl⟩
  rw [← hwv] at hb2 hb4 hB ⊢
  clear hwv w4
  go_upto_region 16 with (fail)
  refine wp_region_steps 4 [eqS (.agg (setC (spanB 48 57))), eqS (.agg (setC (spanB 65 90))), setsS [(spanB 48 57), (spanB 65 90)], eqS (.agg (setC (joinL [(spanB 48 57), (spanB 65 90)])))] [33, 34, 35, 36] follows_mixed (by kernel_rfl) rfl ?_ ?_
  · refine Steps.cons (fun a' w' hG hB dep => gs_load_set (want_none rfl) _ rfl _ (hG.other 4 rfl) _ (blk_then hb4 hB) rfl) ?_
    refine Steps.cons (fun a' w' hG hB dep => gs_span (want_none rfl) _ _ _ rfl 65 90 rfl rfl (by decide) (by decide) (fun _ => rfl)) ?_
    refine Steps.cons (fun a' w' hG hB dep => gs_sets2 (want_none rfl) _ _  rfl _ _ (dep 0 rfl 33 rfl) (dep 1 rfl 34 rfl) (fun _ _ h => h)) ?_
    refine Steps.cons (fun a' w' hG hB dep => gs_join (want_none rfl) _ _ rfl _ (dep 2 rfl 35 rfl) (Nat.le_of_ble_eq_true rfl) (fun _ => rfl)) ?_
    exact Steps.nil
  intro u w3 hB3 ans
  have ux : u 36 = .agg (setC (joinL [(spanB 48 57), (spanB 65 90)])) := ans 3 36 (by decide) rfl
  clear ans
  simp only [putAll, List.foldl_cons, List.foldl_nil, Act.put, List.setIfInBounds_toArray, List.set_cons_zero, List.set_cons_succ, ux]
  clear ux
  go_upto_region 17 with (refine wl_store_set rfl _ _ rfl _ _ rfl rfl _ (blk_then hb4 hB3) ?_; intro w4 hb4' hg4)
  replace hb2 := blk_grown (blk_then hb2 hB3) hg4 (by omega)
  replace hB := below_grown (below_then hB hB3) hg4 (by omega)
  replace hb4 := hb4'
  clear hb4' hg4 hB3
  obtain ⟨wv, hwv⟩ : ∃ x, x = w4 := ⟨_, rfl⟩
  rw [← hwv] at hb2 hb4 hB ⊢
  clear hwv w4
  go_upto_region 17 with (fail)
  refine wp_region_steps 4 [eqS (.agg (setC (joinL [(spanB 48 57), (spanB 65 90)]))), eqS (.agg (setC (spanB 97 122))), setsS [(joinL [(spanB 48 57), (spanB 65 90)]), (spanB 97 122)], eqS (.agg (setC (joinL [(joinL [(spanB 48 57), (spanB 65 90)]), (spanB 97 122)])))] [37, 38, 39, 40] follows_mixed (by kernel_rfl) rfl ?_ ?_
  · refine Steps.cons (fun a' w' hG hB dep => gs_load_set (want_none rfl) _ rfl _ (hG.other 4 rfl) _ (blk_then hb4 hB) rfl) ?_
    refine Steps.cons (fun a' w' hG hB dep => gs_span (want_none rfl) _ _ _ rfl 97 122 rfl rfl (by decide) (by decide) (fun _ => rfl)) ?_
    refine Steps.cons (fun a' w' hG hB dep => gs_sets2 (want_none rfl) _ _  rfl _ _ (dep 0 rfl 37 rfl) (dep 1 rfl 38 rfl) (fun _ _ h => h)) ?_
    refine Steps.cons (fun a' w' hG hB dep => gs_join (want_none rfl) _ _ rfl _ (dep 2 rfl 39 rfl) (Nat.le_of_ble_eq_true rfl) (fun _ => rfl)) ?_
    exact Steps.nil
  intro u w3 hB3 ans
  have ux : u 40 = .agg (setC (joinL [(joinL [(spanB 48 57), (spanB 65 90)]), (spanB 97 122)])) := ans 3 40 (by decide) rfl
  clear ans
  simp only [putAll, List.foldl_cons, List.foldl_nil, Act.put, List.setIfInBounds_toArray, List.set_cons_zero, List.set_cons_succ, ux]
  clear ux
  go_upto_region 29 with (refine wl_store_set rfl _ _ rfl _ _ rfl rfl _ (blk_then hb4 hB3) ?_; intro w4 hb4' hg4)
  replace hb2 := blk_grown (blk_then hb2 hB3) hg4 (by omega)
  replace hB := below_grown (below_then hB hB3) hg4 (by omega)
  replace hb4 := hb4'
  clear hb4' hg4 hB3
  obtain ⟨wv, hwv⟩ : ∃ x, x = w4 := ⟨_, rfl⟩
  rw [← hwv] at hb2 hb4 hB ⊢
  clear hwv w4
  go_wp2_with (first | (refine wl_load_set rfl _ rfl _ rfl _ hb4 ?_) | (refine wl_store_set rfl _ _ rfl _ _ rfl rfl _ hb2 ?_; intro w9 hb9 hg9))
  exact ret_set2 rfl rfl hb9 rfl ⟨rfl, below_grown hB hg9 (Nat.le_refl _)⟩

def cls_punct : BSet := ((spanB 33 126) &&& (notB (cls_alnum)))
set_option maxRecDepth 100000 in
set_option maxHeartbeats 1000000 in
theorem class_punct (s : ByteArray) (w : World) (hs : Hid (s.toList = [112, 117, 110, 99, 116])) : Calls Try.prog 105 #[.string s] w fun e w' => e = .returned (.tuple #[.agg (setC cls_punct), .int .i64 0]) ∧ Below w.heap.size w w' := by
  have hb2 := (Blk.new w 24 (setC 0)).alloc (.cells (setC 0) 24)
  have hb4 := Blk.new' (w.alloc (.cells (setC 0) 24)) 24 (setC 0) (World.size_alloc _ _).symm
  have hB := below_alloc (below_alloc (Below.refl w.heap.size w) (.cells (setC 0) 24)) (.cells (setC 0) 24)
  unfold cls_punct
  have q_alnum : (s.toList == [97, 108, 110, 117, 109]) = false := by rw [hs.out]; decide
  have q_alpha : (s.toList == [97, 108, 112, 104, 97]) = false := by rw [hs.out]; decide
  have q_lower : (s.toList == [108, 111, 119, 101, 114]) = false := by rw [hs.out]; decide
  have q_upper : (s.toList == [117, 112, 112, 101, 114]) = false := by rw [hs.out]; decide
  have q_xdigit : (s.toList == [120, 100, 105, 103, 105, 116]) = false := by rw [hs.out]; decide
  have q_digit : (s.toList == [100, 105, 103, 105, 116]) = false := by rw [hs.out]; decide
  have q_space : (s.toList == [115, 112, 97, 99, 101]) = false := by rw [hs.out]; decide
  have q_blank : (s.toList == [98, 108, 97, 110, 107]) = false := by rw [hs.out]; decide
  have q_cntrl : (s.toList == [99, 110, 116, 114, 108]) = false := by rw [hs.out]; decide
  have q_print : (s.toList == [112, 114, 105, 110, 116]) = false := by rw [hs.out]; decide
  have q_graph : (s.toList == [103, 114, 97, 112, 104]) = false := by rw [hs.out]; decide
  have q_punct : (s.toList == [112, 117, 110, 99, 116]) = true := by rw [hs.out]; decide
  go_enter Try.func105, Try.ntmps105
  go_upto_region 27 with (first | (go_at_call 105; refine (class_alnum ⟨#[97, 108, 110, 117, 109]⟩ _ (Lib.hid alnum_l)).mono ?_; rintro e w8 ⟨rfl, hB8⟩) | (refine wl_store_set rfl _ _ rfl _ _ rfl rfl 0 (Blk.new _ _ _) ?_; intro w9 hb5 hg9))
  have hK := below_then hB8 (below_grown (below_alloc (Below.refl w8.heap.size w8) (.cells (setC 0) 24)) hg9 (Nat.le_refl _))
  replace hb4 := blk_then hb4 hK
  replace hb2 := blk_then hb2 hK
  replace hB := below_then hB hK
  clear hK hB8 hg9
  go_upto_region 27 with (fail)
  refine wp_region_steps 4 [eqS (.agg (setC (spanB 33 126))), eqS (.agg (setC (cls_alnum))), eqS (.agg (setC (notB (cls_alnum)))), eqS (.agg (setC ((spanB 33 126) &&& (notB (cls_alnum)))))] [71, 72, 73, 74] follows_mixed (by kernel_rfl) rfl ?_ ?_
  · refine Steps.cons (fun a' w' hG hB dep => gs_span (want_none rfl) _ _ _ rfl 33 126 rfl rfl (by decide) (by decide) (fun _ => rfl)) ?_
    refine Steps.cons (fun a' w' hG hB dep => gs_load_set (want_none rfl) _ rfl _ (hG.other 5 rfl) _ (blk_then hb5 hB) rfl) ?_
    refine Steps.cons (fun a' w' hG hB dep => gs_not (want_none rfl) _ _ rfl _ (dep 1 rfl 72 rfl) (fun _ => rfl)) ?_
    refine Steps.cons (fun a' w' hG hB dep => gs_meet (want_none rfl) _ _ _ rfl _ _ (dep 0 rfl 71 rfl) (dep 2 rfl 73 rfl) (fun _ => rfl)) ?_
    exact Steps.nil
  intro u w3 hB3 ans
  have ux : u 74 = .agg (setC ((spanB 33 126) &&& (notB (cls_alnum)))) := ans 3 74 (by decide) rfl
  clear ans
  simp only [putAll, List.foldl_cons, List.foldl_nil, Act.put, List.setIfInBounds_toArray, List.set_cons_zero, List.set_cons_succ, ux]
  clear ux
  go_upto_region 29 with (refine wl_store_set rfl _ _ rfl _ _ rfl rfl _ (blk_then hb4 hB3) ?_; intro w4 hb4' hg4)
  replace hb2 := blk_grown (blk_then hb2 hB3) hg4 (by omega)
  replace hB := below_grown (below_then hB hB3) hg4 (by omega)
  replace hb4 := hb4'
  clear hb4' hg4 hB3
  obtain ⟨wv, hwv⟩ : ∃ x, x = w4 := ⟨_, rfl⟩
  rw [← hwv] at hb2 hb4 hB ⊢
  clear hwv w4
  go_wp2_with (first | (refine wl_load_set rfl _ rfl _ rfl _ hb4 ?_) | (refine wl_store_set rfl _ _ rfl _ _ rfl rfl _ hb2 ?_; intro w9 hb9 hg9))
  exact ret_set2 rfl rfl hb9 rfl ⟨rfl, below_grown hB hg9 (Nat.le_refl _)⟩

def cls_graph : BSet := (joinL [0, (spanB 33 126)])
set_option maxRecDepth 100000 in
set_option maxHeartbeats 1000000 in
theorem class_graph (s : ByteArray) (w : World) (hs : Hid (s.toList = [103, 114, 97, 112, 104])) : Calls Try.prog 105 #[.string s] w fun e w' => e = .returned (.tuple #[.agg (setC cls_graph), .int .i64 0]) ∧ Below w.heap.size w w' := by
  have hb2 := (Blk.new w 24 (setC 0)).alloc (.cells (setC 0) 24)
  have hb4 := Blk.new' (w.alloc (.cells (setC 0) 24)) 24 (setC 0) (World.size_alloc _ _).symm
  have hB := below_alloc (below_alloc (Below.refl w.heap.size w) (.cells (setC 0) 24)) (.cells (setC 0) 24)
  unfold cls_graph
  have q_alnum : (s.toList == [97, 108, 110, 117, 109]) = false := by rw [hs.out]; decide
  have q_alpha : (s.toList == [97, 108, 112, 104, 97]) = false := by rw [hs.out]; decide
  have q_lower : (s.toList == [108, 111, 119, 101, 114]) = false := by rw [hs.out]; decide
  have q_upper : (s.toList == [117, 112, 112, 101, 114]) = false := by rw [hs.out]; decide
  have q_xdigit : (s.toList == [120, 100, 105, 103, 105, 116]) = false := by rw [hs.out]; decide
  have q_digit : (s.toList == [100, 105, 103, 105, 116]) = false := by rw [hs.out]; decide
  have q_space : (s.toList == [115, 112, 97, 99, 101]) = false := by rw [hs.out]; decide
  have q_blank : (s.toList == [98, 108, 97, 110, 107]) = false := by rw [hs.out]; decide
  have q_cntrl : (s.toList == [99, 110, 116, 114, 108]) = false := by rw [hs.out]; decide
  have q_print : (s.toList == [112, 114, 105, 110, 116]) = false := by rw [hs.out]; decide
  have q_graph : (s.toList == [103, 114, 97, 112, 104]) = true := by rw [hs.out]; decide
  go_enter Try.func105, Try.ntmps105
  go_upto_region 25 with (fail)
  refine wp_region_steps 4 [eqS (.agg (setC 0)), eqS (.agg (setC (spanB 33 126))), setsS [0, (spanB 33 126)], eqS (.agg (setC (joinL [0, (spanB 33 126)])))] [63, 64, 65, 66] follows_mixed (by kernel_rfl) rfl ?_ ?_
  · refine Steps.cons (fun a' w' hG hB dep => gs_load_set (want_none rfl) _ rfl _ (hG.other 4 rfl) _ (blk_then hb4 hB) rfl) ?_
    refine Steps.cons (fun a' w' hG hB dep => gs_span (want_none rfl) _ _ _ rfl 33 126 rfl rfl (by decide) (by decide) (fun _ => rfl)) ?_
    refine Steps.cons (fun a' w' hG hB dep => gs_sets2 (want_none rfl) _ _  rfl _ _ (dep 0 rfl 63 rfl) (dep 1 rfl 64 rfl) (fun _ _ h => h)) ?_
    refine Steps.cons (fun a' w' hG hB dep => gs_join (want_none rfl) _ _ rfl _ (dep 2 rfl 65 rfl) (Nat.le_of_ble_eq_true rfl) (fun _ => rfl)) ?_
    exact Steps.nil
  intro u w3 hB3 ans
  have ux : u 66 = .agg (setC (joinL [0, (spanB 33 126)])) := ans 3 66 (by decide) rfl
  clear ans
  simp only [putAll, List.foldl_cons, List.foldl_nil, Act.put, List.setIfInBounds_toArray, List.set_cons_zero, List.set_cons_succ, ux]
  clear ux
  go_upto_region 29 with (refine wl_store_set rfl _ _ rfl _ _ rfl rfl _ (blk_then hb4 hB3) ?_; intro w4 hb4' hg4)
  replace hb2 := blk_grown (blk_then hb2 hB3) hg4 (by omega)
  replace hB := below_grown (below_then hB hB3) hg4 (by omega)
  replace hb4 := hb4'
  clear hb4' hg4 hB3
  obtain ⟨wv, hwv⟩ : ∃ x, x = w4 := ⟨_, rfl⟩
  rw [← hwv] at hb2 hb4 hB ⊢
  clear hwv w4
  go_wp2_with (first | (refine wl_load_set rfl _ rfl _ rfl _ hb4 ?_) | (refine wl_store_set rfl _ _ rfl _ _ rfl rfl _ hb2 ?_; intro w9 hb9 hg9))
  exact ret_set2 rfl rfl hb9 rfl ⟨rfl, below_grown hB hg9 (Nat.le_refl _)⟩

end Go.Proofs.Ytajainmldcnaeaa
namespace Go.Proofs.Ytajainmldcnaeaa
open Go.RowKit
set_option linter.unusedVariables false
set_option linter.unusedSimpArgs false

def cls_alpha : BSet := (joinL [(joinL [0, (spanB 65 90)]), (spanB 97 122)])
set_option maxRecDepth 100000 in
set_option maxHeartbeats 1000000 in
theorem class_alpha (s : ByteArray) (w : World) (hs : Hid (s.toList = [97, 108, 112, 104, 97])) : Calls Try.prog 105 #[.string s] w fun e w' => e = .returned (.tuple #[.agg (setC cls_alpha), .int .i64 0]) ∧ Below w.heap.size w w' := by
  have hb2 := (Blk.new w 24 (setC 0)).alloc (.cells (setC 0) 24)
  have hb4 := Blk.new' (w.alloc (.cells (setC 0) 24)) 24 (setC 0) (World.size_alloc _ _).symm
  have hB := below_alloc (below_alloc (Below.refl w.heap.size w) (.cells (setC 0) 24)) (.cells (setC 0) 24)
  unfold cls_alpha
  have q_alnum : (s.toList == [97, 108, 110, 117, 109]) = false := by rw [hs.out]; decide
  have q_alpha : (s.toList == [97, 108, 112, 104, 97]) = true := by rw [hs.out]; decide
  go_enter Try.func105, Try.ntmps105
  go_upto_region 16 with (fail)
  refine wp_region_steps 4 [eqS (.agg (setC 0)), eqS (.agg (setC (spanB 65 90))), setsS [0, (spanB 65 90)], eqS (.agg (setC (joinL [0, (spanB 65 90)])))] [33, 34, 35, 36] follows_mixed (by kernel_rfl) rfl ?_ ?_
  · refine Steps.cons (fun a' w' hG hB dep => gs_load_set (want_none rfl) _ rfl _ (hG.other 4 rfl) _ (blk_then hb4 hB) rfl) ?_
    refine Steps.cons (fun a' w' hG hB dep => gs_span (want_none rfl) _ _ _ rfl 65 90 rfl rfl (by decide) (by decide) (fun _ => rfl)) ?_
    refine Steps.cons (fun a' w' hG hB dep => gs_sets2 (want_none rfl) _ _  rfl _ _ (dep 0 rfl 33 rfl) (dep 1 rfl 34 rfl) (fun _ _ h => h)) ?_
    refine Steps.cons (fun a' w' hG hB dep => gs_join (want_none rfl) _ _ rfl _ (dep 2 rfl 35 rfl) (Nat.le_of_ble_eq_true rfl) (fun _ => rfl)) ?_
    exact Steps.nil
  intro u w3 hB3 ans
  have ux : u 36 = .agg (setC (joinL [0, (spanB 65 90)])) := ans 3 36 (by decide) rfl
  clear ans
  simp only [putAll, List.foldl_cons, List.foldl_nil, Act.put, List.setIfInBounds_toArray, List.set_cons_zero, List.set_cons_succ, ux]
  clear ux
  go_upto_region 17 with (refine wl_store_set rfl _ _ rfl _ _ rfl rfl _ (blk_then hb4 hB3) ?_; intro w4 hb4' hg4)
  replace hb2 := blk_grown (blk_then hb2 hB3) hg4 (by omega)
  replace hB := below_grown (below_then hB hB3) hg4 (by omega)
  replace hb4 := hb4'
  clear hb4' hg4 hB3
  obtain ⟨wv, hwv⟩ : ∃ x, x = w4 := ⟨_, rfl⟩
  rw [← hwv] at hb2 hb4 hB ⊢
  clear hwv w4
  go_upto_region 17 with (fail)
  refine wp_region_steps 4 [eqS (.agg (setC (joinL [0, (spanB 65 90)]))), eqS (.agg (setC (spanB 97 122))), setsS [(joinL [0, (spanB 65 90)]), (spanB 97 122)], eqS (.agg (setC (joinL [(joinL [0, (spanB 65 90)]), (spanB 97 122)])))] [37, 38, 39, 40] follows_mixed (by kernel_rfl) rfl ?_ ?_
  · refine Steps.cons (fun a' w' hG hB dep => gs_load_set (want_none rfl) _ rfl _ (hG.other 4 rfl) _ (blk_then hb4 hB) rfl) ?_
    refine Steps.cons (fun a' w' hG hB dep => gs_span (want_none rfl) _ _ _ rfl 97 122 rfl rfl (by decide) (by decide) (fun _ => rfl)) ?_
    refine Steps.cons (fun a' w' hG hB dep => gs_sets2 (want_none rfl) _ _  rfl _ _ (dep 0 rfl 37 rfl) (dep 1 rfl 38 rfl) (fun _ _ h => h)) ?_
    refine Steps.cons (fun a' w' hG hB dep => gs_join (want_none rfl) _ _ rfl _ (dep 2 rfl 39 rfl) (Nat.le_of_ble_eq_true rfl) (fun _ => rfl)) ?_
    exact Steps.nil
  intro u w3 hB3 ans
  have ux : u 40 = .agg (setC (joinL [(joinL [0, (spanB 65 90)]), (spanB 97 122)])) := ans 3 40 (by decide) rfl
  clear ans
  simp only [putAll, List.foldl_cons, List.foldl_nil, Act.put, List.setIfInBounds_toArray, List.set_cons_zero, List.set_cons_succ, ux]
  clear ux
  go_upto_region 29 with (refine wl_store_set rfl _ _ rfl _ _ rfl rfl _ (blk_then hb4 hB3) ?_; intro w4 hb4' hg4)
  replace hb2 := blk_grown (blk_then hb2 hB3) hg4 (by omega)
  replace hB := below_grown (below_then hB hB3) hg4 (by omega)
  replace hb4 := hb4'
  clear hb4' hg4 hB3
  obtain ⟨wv, hwv⟩ : ∃ x, x = w4 := ⟨_, rfl⟩
  rw [← hwv] at hb2 hb4 hB ⊢
  clear hwv w4
  go_wp2_with (first | (refine wl_load_set rfl _ rfl _ rfl _ hb4 ?_) | (refine wl_store_set rfl _ _ rfl _ _ rfl rfl _ hb2 ?_; intro w9 hb9 hg9))
  exact ret_set2 rfl rfl hb9 rfl ⟨rfl, below_grown hB hg9 (Nat.le_refl _)⟩

def cls_lower : BSet := (joinL [0, (spanB 97 122)])
set_option maxRecDepth 100000 in
set_option maxHeartbeats 1000000 in
theorem class_lower (s : ByteArray) (w : World) (hs : Hid (s.toList = [108, 111, 119, 101, 114])) : Calls Try.prog 105 #[.string s] w fun e w' => e = .returned (.tuple #[.agg (setC cls_lower), .int .i64 0]) ∧ Below w.heap.size w w' := by
  have hb2 := (Blk.new w 24 (setC 0)).alloc (.cells (setC 0) 24)
  have hb4 := Blk.new' (w.alloc (.cells (setC 0) 24)) 24 (setC 0) (World.size_alloc _ _).symm
  have hB := below_alloc (below_alloc (Below.refl w.heap.size w) (.cells (setC 0) 24)) (.cells (setC 0) 24)
  unfold cls_lower
  have q_alnum : (s.toList == [97, 108, 110, 117, 109]) = false := by rw [hs.out]; decide
  have q_alpha : (s.toList == [97, 108, 112, 104, 97]) = false := by rw [hs.out]; decide
  have q_lower : (s.toList == [108, 111, 119, 101, 114]) = true := by rw [hs.out]; decide
  go_enter Try.func105, Try.ntmps105
  go_upto_region 17 with (fail)
  refine wp_region_steps 4 [eqS (.agg (setC 0)), eqS (.agg (setC (spanB 97 122))), setsS [0, (spanB 97 122)], eqS (.agg (setC (joinL [0, (spanB 97 122)])))] [37, 38, 39, 40] follows_mixed (by kernel_rfl) rfl ?_ ?_
  · refine Steps.cons (fun a' w' hG hB dep => gs_load_set (want_none rfl) _ rfl _ (hG.other 4 rfl) _ (blk_then hb4 hB) rfl) ?_
    refine Steps.cons (fun a' w' hG hB dep => gs_span (want_none rfl) _ _ _ rfl 97 122 rfl rfl (by decide) (by decide) (fun _ => rfl)) ?_
    refine Steps.cons (fun a' w' hG hB dep => gs_sets2 (want_none rfl) _ _  rfl _ _ (dep 0 rfl 37 rfl) (dep 1 rfl 38 rfl) (fun _ _ h => h)) ?_
    refine Steps.cons (fun a' w' hG hB dep => gs_join (want_none rfl) _ _ rfl _ (dep 2 rfl 39 rfl) (Nat.le_of_ble_eq_true rfl) (fun _ => rfl)) ?_
    exact Steps.nil
  intro u w3 hB3 ans
  have ux : u 40 = .agg (setC (joinL [0, (spanB 97 122)])) := ans 3 40 (by decide) rfl
  clear ans
  simp only [putAll, List.foldl_cons, List.foldl_nil, Act.put, List.setIfInBounds_toArray, List.set_cons_zero, List.set_cons_succ, ux]
  clear ux
  go_upto_region 29 with (refine wl_store_set rfl _ _ rfl _ _ rfl rfl _ (blk_then hb4 hB3) ?_; intro w4 hb4' hg4)
  replace hb2 := blk_grown (blk_then hb2 hB3) hg4 (by omega)
  replace hB := below_grown (below_then hB hB3) hg4 (by omega)
  replace hb4 := hb4'
  clear hb4' hg4 hB3
  obtain ⟨wv, hwv⟩ : ∃ x, x = w4 := ⟨_, rfl⟩
  rw [← hwv] at hb2 hb4 hB ⊢
  clear hwv w4
  go_wp2_with (first | (refine wl_load_set rfl _ rfl _ rfl _ hb4 ?_) | (refine wl_store_set rfl _ _ rfl _ _ rfl rfl _ hb2 ?_; intro w9 hb9 hg9))
  exact ret_set2 rfl rfl hb9 rfl ⟨rfl, below_grown hB hg9 (Nat.le_refl _)⟩

def cls_upper : BSet := (spanB 65 90)
set_option maxRecDepth 100000 in
set_option maxHeartbeats 1000000 in
theorem class_upper (s : ByteArray) (w : World) (hs : Hid (s.toList = [117, 112, 112, 101, 114])) : Calls Try.prog 105 #[.string s] w fun e w' => e = .returned (.tuple #[.agg (setC cls_upper), .int .i64 0]) ∧ Below w.heap.size w w' := by
  have hb2 := (Blk.new w 24 (setC 0)).alloc (.cells (setC 0) 24)
  have hb4 := Blk.new' (w.alloc (.cells (setC 0) 24)) 24 (setC 0) (World.size_alloc _ _).symm
  have hB := below_alloc (below_alloc (Below.refl w.heap.size w) (.cells (setC 0) 24)) (.cells (setC 0) 24)
  unfold cls_upper
  have q_alnum : (s.toList == [97, 108, 110, 117, 109]) = false := by rw [hs.out]; decide
  have q_alpha : (s.toList == [97, 108, 112, 104, 97]) = false := by rw [hs.out]; decide
  have q_lower : (s.toList == [108, 111, 119, 101, 114]) = false := by rw [hs.out]; decide
  have q_upper : (s.toList == [117, 112, 112, 101, 114]) = true := by rw [hs.out]; decide
  go_enter Try.func105, Try.ntmps105
  go_upto_region 18 with (fail)
  refine wp_region_text 1 [eqS (.agg (setC (spanB 65 90)))] [41] (by kernel_rfl) rfl ?_ ?_
  · refine Steps.cons (fun a' w' hG hB dep => gs_span (want_none rfl) _ _ _ rfl 65 90 rfl rfl (by decide) (by decide) (fun _ => rfl)) ?_
    exact Steps.nil
  intro u w3 hB3 ans
  have ux : u 41 = .agg (setC (spanB 65 90)) := ans 0 41 (by decide) rfl
  clear ans
  simp only [putAll, List.foldl_cons, List.foldl_nil, Act.put, List.setIfInBounds_toArray, List.set_cons_zero, List.set_cons_succ, ux]
  clear ux
  go_upto_region 29 with (refine wl_store_set rfl _ _ rfl _ _ rfl rfl _ (blk_then hb4 hB3) ?_; intro w4 hb4' hg4)
  replace hb2 := blk_grown (blk_then hb2 hB3) hg4 (by omega)
  replace hB := below_grown (below_then hB hB3) hg4 (by omega)
  replace hb4 := hb4'
  clear hb4' hg4 hB3
  obtain ⟨wv, hwv⟩ : ∃ x, x = w4 := ⟨_, rfl⟩
  rw [← hwv] at hb2 hb4 hB ⊢
  clear hwv w4
  go_wp2_with (first | (refine wl_load_set rfl _ rfl _ rfl _ hb4 ?_) | (refine wl_store_set rfl _ _ rfl _ _ rfl rfl _ hb2 ?_; intro w9 hb9 hg9))
  exact ret_set2 rfl rfl hb9 rfl ⟨rfl, below_grown hB hg9 (Nat.le_refl _)⟩

end Go.Proofs.Ytajainmldcnaeaa
namespace Go.Proofs.Ytajainmldcnaeaa
open Go.RowKit
set_option linter.unusedVariables false
set_option linter.unusedSimpArgs false

def cls_xdigit : BSet := (joinL [(joinL [(spanB 65 70), (spanB 97 102)]), (spanB 48 57)])
set_option maxRecDepth 100000 in
set_option maxHeartbeats 1000000 in
theorem class_xdigit (s : ByteArray) (w : World) (hs : Hid (s.toList = [120, 100, 105, 103, 105, 116])) : Calls Try.prog 105 #[.string s] w fun e w' => e = .returned (.tuple #[.agg (setC cls_xdigit), .int .i64 0]) ∧ Below w.heap.size w w' := by
  have hb2 := (Blk.new w 24 (setC 0)).alloc (.cells (setC 0) 24)
  have hb4 := Blk.new' (w.alloc (.cells (setC 0) 24)) 24 (setC 0) (World.size_alloc _ _).symm
  have hB := below_alloc (below_alloc (Below.refl w.heap.size w) (.cells (setC 0) 24)) (.cells (setC 0) 24)
  unfold cls_xdigit
  have q_alnum : (s.toList == [97, 108, 110, 117, 109]) = false := by rw [hs.out]; decide
  have q_alpha : (s.toList == [97, 108, 112, 104, 97]) = false := by rw [hs.out]; decide
  have q_lower : (s.toList == [108, 111, 119, 101, 114]) = false := by rw [hs.out]; decide
  have q_upper : (s.toList == [117, 112, 112, 101, 114]) = false := by rw [hs.out]; decide
  have q_xdigit : (s.toList == [120, 100, 105, 103, 105, 116]) = true := by rw [hs.out]; decide
  go_enter Try.func105, Try.ntmps105
  go_upto_region 19 with (fail)
  refine wp_region_text 4 [eqS (.agg (setC (spanB 65 70))), eqS (.agg (setC (spanB 97 102))), setsS [(spanB 65 70), (spanB 97 102)], eqS (.agg (setC (joinL [(spanB 65 70), (spanB 97 102)])))] [42, 43, 44, 45] (by kernel_rfl) rfl ?_ ?_
  · refine Steps.cons (fun a' w' hG hB dep => gs_span (want_none rfl) _ _ _ rfl 65 70 rfl rfl (by decide) (by decide) (fun _ => rfl)) ?_
    refine Steps.cons (fun a' w' hG hB dep => gs_span (want_none rfl) _ _ _ rfl 97 102 rfl rfl (by decide) (by decide) (fun _ => rfl)) ?_
    refine Steps.cons (fun a' w' hG hB dep => gs_sets2 (want_none rfl) _ _  rfl _ _ (dep 0 rfl 42 rfl) (dep 1 rfl 43 rfl) (fun _ _ h => h)) ?_
    refine Steps.cons (fun a' w' hG hB dep => gs_join (want_none rfl) _ _ rfl _ (dep 2 rfl 44 rfl) (Nat.le_of_ble_eq_true rfl) (fun _ => rfl)) ?_
    exact Steps.nil
  intro u w3 hB3 ans
  have ux : u 45 = .agg (setC (joinL [(spanB 65 70), (spanB 97 102)])) := ans 3 45 (by decide) rfl
  clear ans
  simp only [putAll, List.foldl_cons, List.foldl_nil, Act.put, List.setIfInBounds_toArray, List.set_cons_zero, List.set_cons_succ, ux]
  clear ux
  go_upto_region 20 with (refine wl_store_set rfl _ _ rfl _ _ rfl rfl _ (blk_then hb4 hB3) ?_; intro w4 hb4' hg4)
  replace hb2 := blk_grown (blk_then hb2 hB3) hg4 (by omega)
  replace hB := below_grown (below_then hB hB3) hg4 (by omega)
  replace hb4 := hb4'
  clear hb4' hg4 hB3
  obtain ⟨wv, hwv⟩ : ∃ x, x = w4 := ⟨_, rfl⟩
  rw [← hwv] at hb2 hb4 hB ⊢
  clear hwv w4
  go_upto_region 20 with (fail)
  refine wp_region_steps 4 [eqS (.agg (setC (joinL [(spanB 65 70), (spanB 97 102)]))), eqS (.agg (setC (spanB 48 57))), setsS [(joinL [(spanB 65 70), (spanB 97 102)]), (spanB 48 57)], eqS (.agg (setC (joinL [(joinL [(spanB 65 70), (spanB 97 102)]), (spanB 48 57)])))] [46, 47, 48, 49] follows_mixed (by kernel_rfl) rfl ?_ ?_
  · refine Steps.cons (fun a' w' hG hB dep => gs_load_set (want_none rfl) _ rfl _ (hG.other 4 rfl) _ (blk_then hb4 hB) rfl) ?_
    refine Steps.cons (fun a' w' hG hB dep => gs_span (want_none rfl) _ _ _ rfl 48 57 rfl rfl (by decide) (by decide) (fun _ => rfl)) ?_
    refine Steps.cons (fun a' w' hG hB dep => gs_sets2 (want_none rfl) _ _  rfl _ _ (dep 0 rfl 46 rfl) (dep 1 rfl 47 rfl) (fun _ _ h => h)) ?_
    refine Steps.cons (fun a' w' hG hB dep => gs_join (want_none rfl) _ _ rfl _ (dep 2 rfl 48 rfl) (Nat.le_of_ble_eq_true rfl) (fun _ => rfl)) ?_
    exact Steps.nil
  intro u w3 hB3 ans
  have ux : u 49 = .agg (setC (joinL [(joinL [(spanB 65 70), (spanB 97 102)]), (spanB 48 57)])) := ans 3 49 (by decide) rfl
  clear ans
  simp only [putAll, List.foldl_cons, List.foldl_nil, Act.put, List.setIfInBounds_toArray, List.set_cons_zero, List.set_cons_succ, ux]
  clear ux
  go_upto_region 29 with (refine wl_store_set rfl _ _ rfl _ _ rfl rfl _ (blk_then hb4 hB3) ?_; intro w4 hb4' hg4)
  replace hb2 := blk_grown (blk_then hb2 hB3) hg4 (by omega)
  replace hB := below_grown (below_then hB hB3) hg4 (by omega)
  replace hb4 := hb4'
  clear hb4' hg4 hB3
  obtain ⟨wv, hwv⟩ : ∃ x, x = w4 := ⟨_, rfl⟩
  rw [← hwv] at hb2 hb4 hB ⊢
  clear hwv w4
  go_wp2_with (first | (refine wl_load_set rfl _ rfl _ rfl _ hb4 ?_) | (refine wl_store_set rfl _ _ rfl _ _ rfl rfl _ hb2 ?_; intro w9 hb9 hg9))
  exact ret_set2 rfl rfl hb9 rfl ⟨rfl, below_grown hB hg9 (Nat.le_refl _)⟩

def cls_digit : BSet := (joinL [0, (spanB 48 57)])
set_option maxRecDepth 100000 in
set_option maxHeartbeats 1000000 in
theorem class_digit (s : ByteArray) (w : World) (hs : Hid (s.toList = [100, 105, 103, 105, 116])) : Calls Try.prog 105 #[.string s] w fun e w' => e = .returned (.tuple #[.agg (setC cls_digit), .int .i64 0]) ∧ Below w.heap.size w w' := by
  have hb2 := (Blk.new w 24 (setC 0)).alloc (.cells (setC 0) 24)
  have hb4 := Blk.new' (w.alloc (.cells (setC 0) 24)) 24 (setC 0) (World.size_alloc _ _).symm
  have hB := below_alloc (below_alloc (Below.refl w.heap.size w) (.cells (setC 0) 24)) (.cells (setC 0) 24)
  unfold cls_digit
  have q_alnum : (s.toList == [97, 108, 110, 117, 109]) = false := by rw [hs.out]; decide
  have q_alpha : (s.toList == [97, 108, 112, 104, 97]) = false := by rw [hs.out]; decide
  have q_lower : (s.toList == [108, 111, 119, 101, 114]) = false := by rw [hs.out]; decide
  have q_upper : (s.toList == [117, 112, 112, 101, 114]) = false := by rw [hs.out]; decide
  have q_xdigit : (s.toList == [120, 100, 105, 103, 105, 116]) = false := by rw [hs.out]; decide
  have q_digit : (s.toList == [100, 105, 103, 105, 116]) = true := by rw [hs.out]; decide
  go_enter Try.func105, Try.ntmps105
  go_upto_region 20 with (fail)
  refine wp_region_steps 4 [eqS (.agg (setC 0)), eqS (.agg (setC (spanB 48 57))), setsS [0, (spanB 48 57)], eqS (.agg (setC (joinL [0, (spanB 48 57)])))] [46, 47, 48, 49] follows_mixed (by kernel_rfl) rfl ?_ ?_
  · refine Steps.cons (fun a' w' hG hB dep => gs_load_set (want_none rfl) _ rfl _ (hG.other 4 rfl) _ (blk_then hb4 hB) rfl) ?_
    refine Steps.cons (fun a' w' hG hB dep => gs_span (want_none rfl) _ _ _ rfl 48 57 rfl rfl (by decide) (by decide) (fun _ => rfl)) ?_
    refine Steps.cons (fun a' w' hG hB dep => gs_sets2 (want_none rfl) _ _  rfl _ _ (dep 0 rfl 46 rfl) (dep 1 rfl 47 rfl) (fun _ _ h => h)) ?_
    refine Steps.cons (fun a' w' hG hB dep => gs_join (want_none rfl) _ _ rfl _ (dep 2 rfl 48 rfl) (Nat.le_of_ble_eq_true rfl) (fun _ => rfl)) ?_
    exact Steps.nil
  intro u w3 hB3 ans
  have ux : u 49 = .agg (setC (joinL [0, (spanB 48 57)])) := ans 3 49 (by decide) rfl
  clear ans
  simp only [putAll, List.foldl_cons, List.foldl_nil, Act.put, List.setIfInBounds_toArray, List.set_cons_zero, List.set_cons_succ, ux]
  clear ux
  go_upto_region 29 with (refine wl_store_set rfl _ _ rfl _ _ rfl rfl _ (blk_then hb4 hB3) ?_; intro w4 hb4' hg4)
  replace hb2 := blk_grown (blk_then hb2 hB3) hg4 (by omega)
  replace hB := below_grown (below_then hB hB3) hg4 (by omega)
  replace hb4 := hb4'
  clear hb4' hg4 hB3
  obtain ⟨wv, hwv⟩ : ∃ x, x = w4 := ⟨_, rfl⟩
  rw [← hwv] at hb2 hb4 hB ⊢
  clear hwv w4
  go_wp2_with (first | (refine wl_load_set rfl _ rfl _ rfl _ hb4 ?_) | (refine wl_store_set rfl _ _ rfl _ _ rfl rfl _ hb2 ?_; intro w9 hb9 hg9))
  exact ret_set2 rfl rfl hb9 rfl ⟨rfl, below_grown hB hg9 (Nat.le_refl _)⟩

def cls_space : BSet := (joinL [(spanB 9 13), (ofB [9, 32])])
set_option maxRecDepth 100000 in
set_option maxHeartbeats 1000000 in
theorem class_space (s : ByteArray) (w : World) (hs : Hid (s.toList = [115, 112, 97, 99, 101])) : Calls Try.prog 105 #[.string s] w fun e w' => e = .returned (.tuple #[.agg (setC cls_space), .int .i64 0]) ∧ Below w.heap.size w w' := by
  have hb2 := (Blk.new w 24 (setC 0)).alloc (.cells (setC 0) 24)
  have hb4 := Blk.new' (w.alloc (.cells (setC 0) 24)) 24 (setC 0) (World.size_alloc _ _).symm
  have hB := below_alloc (below_alloc (Below.refl w.heap.size w) (.cells (setC 0) 24)) (.cells (setC 0) 24)
  unfold cls_space
  have q_alnum : (s.toList == [97, 108, 110, 117, 109]) = false := by rw [hs.out]; decide
  have q_alpha : (s.toList == [97, 108, 112, 104, 97]) = false := by rw [hs.out]; decide
  have q_lower : (s.toList == [108, 111, 119, 101, 114]) = false := by rw [hs.out]; decide
  have q_upper : (s.toList == [117, 112, 112, 101, 114]) = false := by rw [hs.out]; decide
  have q_xdigit : (s.toList == [120, 100, 105, 103, 105, 116]) = false := by rw [hs.out]; decide
  have q_digit : (s.toList == [100, 105, 103, 105, 116]) = false := by rw [hs.out]; decide
  have q_space : (s.toList == [115, 112, 97, 99, 101]) = true := by rw [hs.out]; decide
  go_enter Try.func105, Try.ntmps105
  go_upto_region 21 with (fail)
  refine wp_region_text 1 [eqS (.agg (setC (spanB 9 13)))] [50] (by kernel_rfl) rfl ?_ ?_
  · refine Steps.cons (fun a' w' hG hB dep => gs_span (want_none rfl) _ _ _ rfl 9 13 rfl rfl (by decide) (by decide) (fun _ => rfl)) ?_
    exact Steps.nil
  intro u w3 hB3 ans
  have ux : u 50 = .agg (setC (spanB 9 13)) := ans 0 50 (by decide) rfl
  clear ans
  simp only [putAll, List.foldl_cons, List.foldl_nil, Act.put, List.setIfInBounds_toArray, List.set_cons_zero, List.set_cons_succ, ux]
  clear ux
  go_upto_region 22 with (refine wl_store_set rfl _ _ rfl _ _ rfl rfl _ (blk_then hb4 hB3) ?_; intro w4 hb4' hg4)
  replace hb2 := blk_grown (blk_then hb2 hB3) hg4 (by omega)
  replace hB := below_grown (below_then hB hB3) hg4 (by omega)
  replace hb4 := hb4'
  clear hb4' hg4 hB3
  obtain ⟨wv, hwv⟩ : ∃ x, x = w4 := ⟨_, rfl⟩
  rw [← hwv] at hb2 hb4 hB ⊢
  clear hwv w4
  go_upto_region 22 with (fail)
  refine wp_region_steps 5 [eqS (.agg (setC (spanB 9 13))), bytesS [9, 32], eqS (.agg (setC (ofB [9, 32]))), setsS [(spanB 9 13), (ofB [9, 32])], eqS (.agg (setC (joinL [(spanB 9 13), (ofB [9, 32])])))] [51, 52, 53, 54, 55] follows_mixed (by kernel_rfl) rfl ?_ ?_
  · refine Steps.cons (fun a' w' hG hB dep => gs_load_set (want_none rfl) _ rfl _ (hG.other 4 rfl) _ (blk_then hb4 hB) rfl) ?_
    refine Steps.cons (fun a' w' hG hB dep => gs_byte2 (want_none rfl) _ _  rfl 9 32 rfl rfl (fun _ _ h => h)) ?_
    refine Steps.cons (fun a' w' hG hB dep => gs_of (want_none rfl) _ _ rfl _ (dep 1 rfl 52 rfl) (Nat.le_of_ble_eq_true rfl) (fun _ => rfl)) ?_
    refine Steps.cons (fun a' w' hG hB dep => gs_sets2 (want_none rfl) _ _  rfl _ _ (dep 0 rfl 51 rfl) (dep 2 rfl 53 rfl) (fun _ _ h => h)) ?_
    refine Steps.cons (fun a' w' hG hB dep => gs_join (want_none rfl) _ _ rfl _ (dep 3 rfl 54 rfl) (Nat.le_of_ble_eq_true rfl) (fun _ => rfl)) ?_
    exact Steps.nil
  intro u w3 hB3 ans
  have ux : u 55 = .agg (setC (joinL [(spanB 9 13), (ofB [9, 32])])) := ans 4 55 (by decide) rfl
  clear ans
  simp only [putAll, List.foldl_cons, List.foldl_nil, Act.put, List.setIfInBounds_toArray, List.set_cons_zero, List.set_cons_succ, ux]
  clear ux
  go_upto_region 29 with (refine wl_store_set rfl _ _ rfl _ _ rfl rfl _ (blk_then hb4 hB3) ?_; intro w4 hb4' hg4)
  replace hb2 := blk_grown (blk_then hb2 hB3) hg4 (by omega)
  replace hB := below_grown (below_then hB hB3) hg4 (by omega)
  replace hb4 := hb4'
  clear hb4' hg4 hB3
  obtain ⟨wv, hwv⟩ : ∃ x, x = w4 := ⟨_, rfl⟩
  rw [← hwv] at hb2 hb4 hB ⊢
  clear hwv w4
  go_wp2_with (first | (refine wl_load_set rfl _ rfl _ rfl _ hb4 ?_) | (refine wl_store_set rfl _ _ rfl _ _ rfl rfl _ hb2 ?_; intro w9 hb9 hg9))
  exact ret_set2 rfl rfl hb9 rfl ⟨rfl, below_grown hB hg9 (Nat.le_refl _)⟩

end Go.Proofs.Ytajainmldcnaeaa
namespace Go.Proofs.Ytajainmldcnaeaa
open Go.RowKit
set_option linter.unusedVariables false
set_option linter.unusedSimpArgs false

def cls_blank : BSet := (joinL [0, (ofB [9, 32])])
set_option maxRecDepth 100000 in
set_option maxHeartbeats 1000000 in
theorem class_blank (s : ByteArray) (w : World) (hs : Hid (s.toList = [98, 108, 97, 110, 107])) : Calls Try.prog 105 #[.string s] w fun e w' => e = .returned (.tuple #[.agg (setC cls_blank), .int .i64 0]) ∧ Below w.heap.size w w' := by
  have hb2 := (Blk.new w 24 (setC 0)).alloc (.cells (setC 0) 24)
  have hb4 := Blk.new' (w.alloc (.cells (setC 0) 24)) 24 (setC 0) (World.size_alloc _ _).symm
  have hB := below_alloc (below_alloc (Below.refl w.heap.size w) (.cells (setC 0) 24)) (.cells (setC 0) 24)
  unfold cls_blank
  have q_alnum : (s.toList == [97, 108, 110, 117, 109]) = false := by rw [hs.out]; decide
  have q_alpha : (s.toList == [97, 108, 112, 104, 97]) = false := by rw [hs.out]; decide
  have q_lower : (s.toList == [108, 111, 119, 101, 114]) = false := by rw [hs.out]; decide
  have q_upper : (s.toList == [117, 112, 112, 101, 114]) = false := by rw [hs.out]; decide
  have q_xdigit : (s.toList == [120, 100, 105, 103, 105, 116]) = false := by rw [hs.out]; decide
  have q_digit : (s.toList == [100, 105, 103, 105, 116]) = false := by rw [hs.out]; decide
  have q_space : (s.toList == [115, 112, 97, 99, 101]) = false := by rw [hs.out]; decide
  have q_blank : (s.toList == [98, 108, 97, 110, 107]) = true := by rw [hs.out]; decide
  go_enter Try.func105, Try.ntmps105
  go_upto_region 22 with (fail)
  refine wp_region_steps 5 [eqS (.agg (setC 0)), bytesS [9, 32], eqS (.agg (setC (ofB [9, 32]))), setsS [0, (ofB [9, 32])], eqS (.agg (setC (joinL [0, (ofB [9, 32])])))] [51, 52, 53, 54, 55] follows_mixed (by kernel_rfl) rfl ?_ ?_
  · refine Steps.cons (fun a' w' hG hB dep => gs_load_set (want_none rfl) _ rfl _ (hG.other 4 rfl) _ (blk_then hb4 hB) rfl) ?_
    refine Steps.cons (fun a' w' hG hB dep => gs_byte2 (want_none rfl) _ _  rfl 9 32 rfl rfl (fun _ _ h => h)) ?_
    refine Steps.cons (fun a' w' hG hB dep => gs_of (want_none rfl) _ _ rfl _ (dep 1 rfl 52 rfl) (Nat.le_of_ble_eq_true rfl) (fun _ => rfl)) ?_
    refine Steps.cons (fun a' w' hG hB dep => gs_sets2 (want_none rfl) _ _  rfl _ _ (dep 0 rfl 51 rfl) (dep 2 rfl 53 rfl) (fun _ _ h => h)) ?_
    refine Steps.cons (fun a' w' hG hB dep => gs_join (want_none rfl) _ _ rfl _ (dep 3 rfl 54 rfl) (Nat.le_of_ble_eq_true rfl) (fun _ => rfl)) ?_
    exact Steps.nil
  intro u w3 hB3 ans
  have ux : u 55 = .agg (setC (joinL [0, (ofB [9, 32])])) := ans 4 55 (by decide) rfl
  clear ans
  simp only [putAll, List.foldl_cons, List.foldl_nil, Act.put, List.setIfInBounds_toArray, List.set_cons_zero, List.set_cons_succ, ux]
  clear ux
  go_upto_region 29 with (refine wl_store_set rfl _ _ rfl _ _ rfl rfl _ (blk_then hb4 hB3) ?_; intro w4 hb4' hg4)
  replace hb2 := blk_grown (blk_then hb2 hB3) hg4 (by omega)
  replace hB := below_grown (below_then hB hB3) hg4 (by omega)
  replace hb4 := hb4'
  clear hb4' hg4 hB3
  obtain ⟨wv, hwv⟩ : ∃ x, x = w4 := ⟨_, rfl⟩
  rw [← hwv] at hb2 hb4 hB ⊢
  clear hwv w4
  go_wp2_with (first | (refine wl_load_set rfl _ rfl _ rfl _ hb4 ?_) | (refine wl_store_set rfl _ _ rfl _ _ rfl rfl _ hb2 ?_; intro w9 hb9 hg9))
  exact ret_set2 rfl rfl hb9 rfl ⟨rfl, below_grown hB hg9 (Nat.le_refl _)⟩

def cls_cntrl : BSet := (joinL [(spanB 0 31), (ofB [127])])
set_option maxRecDepth 100000 in
set_option maxHeartbeats 1000000 in
theorem class_cntrl (s : ByteArray) (w : World) (hs : Hid (s.toList = [99, 110, 116, 114, 108])) : Calls Try.prog 105 #[.string s] w fun e w' => e = .returned (.tuple #[.agg (setC cls_cntrl), .int .i64 0]) ∧ Below w.heap.size w w' := by
  have hb2 := (Blk.new w 24 (setC 0)).alloc (.cells (setC 0) 24)
  have hb4 := Blk.new' (w.alloc (.cells (setC 0) 24)) 24 (setC 0) (World.size_alloc _ _).symm
  have hB := below_alloc (below_alloc (Below.refl w.heap.size w) (.cells (setC 0) 24)) (.cells (setC 0) 24)
  unfold cls_cntrl
  have q_alnum : (s.toList == [97, 108, 110, 117, 109]) = false := by rw [hs.out]; decide
  have q_alpha : (s.toList == [97, 108, 112, 104, 97]) = false := by rw [hs.out]; decide
  have q_lower : (s.toList == [108, 111, 119, 101, 114]) = false := by rw [hs.out]; decide
  have q_upper : (s.toList == [117, 112, 112, 101, 114]) = false := by rw [hs.out]; decide
  have q_xdigit : (s.toList == [120, 100, 105, 103, 105, 116]) = false := by rw [hs.out]; decide
  have q_digit : (s.toList == [100, 105, 103, 105, 116]) = false := by rw [hs.out]; decide
  have q_space : (s.toList == [115, 112, 97, 99, 101]) = false := by rw [hs.out]; decide
  have q_blank : (s.toList == [98, 108, 97, 110, 107]) = false := by rw [hs.out]; decide
  have q_cntrl : (s.toList == [99, 110, 116, 114, 108]) = true := by rw [hs.out]; decide
  go_enter Try.func105, Try.ntmps105
  go_upto_region 23 with (fail)
  refine wp_region_text 5 [eqS (.agg (setC (spanB 0 31))), bytesS [127], eqS (.agg (setC (ofB [127]))), setsS [(spanB 0 31), (ofB [127])], eqS (.agg (setC (joinL [(spanB 0 31), (ofB [127])])))] [56, 57, 58, 59, 60] (by kernel_rfl) rfl ?_ ?_
  · refine Steps.cons (fun a' w' hG hB dep => gs_span (want_none rfl) _ _ _ rfl 0 31 rfl rfl (by decide) (by decide) (fun _ => rfl)) ?_
    refine Steps.cons (fun a' w' hG hB dep => gs_byte1 (want_none rfl) _  rfl 127 rfl (fun _ _ h => h)) ?_
    refine Steps.cons (fun a' w' hG hB dep => gs_of (want_none rfl) _ _ rfl _ (dep 1 rfl 57 rfl) (Nat.le_of_ble_eq_true rfl) (fun _ => rfl)) ?_
    refine Steps.cons (fun a' w' hG hB dep => gs_sets2 (want_none rfl) _ _  rfl _ _ (dep 0 rfl 56 rfl) (dep 2 rfl 58 rfl) (fun _ _ h => h)) ?_
    refine Steps.cons (fun a' w' hG hB dep => gs_join (want_none rfl) _ _ rfl _ (dep 3 rfl 59 rfl) (Nat.le_of_ble_eq_true rfl) (fun _ => rfl)) ?_
    exact Steps.nil
  intro u w3 hB3 ans
  have ux : u 60 = .agg (setC (joinL [(spanB 0 31), (ofB [127])])) := ans 4 60 (by decide) rfl
  clear ans
  simp only [putAll, List.foldl_cons, List.foldl_nil, Act.put, List.setIfInBounds_toArray, List.set_cons_zero, List.set_cons_succ, ux]
  clear ux
  go_upto_region 29 with (refine wl_store_set rfl _ _ rfl _ _ rfl rfl _ (blk_then hb4 hB3) ?_; intro w4 hb4' hg4)
  replace hb2 := blk_grown (blk_then hb2 hB3) hg4 (by omega)
  replace hB := below_grown (below_then hB hB3) hg4 (by omega)
  replace hb4 := hb4'
  clear hb4' hg4 hB3
  obtain ⟨wv, hwv⟩ : ∃ x, x = w4 := ⟨_, rfl⟩
  rw [← hwv] at hb2 hb4 hB ⊢
  clear hwv w4
  go_wp2_with (first | (refine wl_load_set rfl _ rfl _ rfl _ hb4 ?_) | (refine wl_store_set rfl _ _ rfl _ _ rfl rfl _ hb2 ?_; intro w9 hb9 hg9))
  exact ret_set2 rfl rfl hb9 rfl ⟨rfl, below_grown hB hg9 (Nat.le_refl _)⟩

def cls_print : BSet := (joinL [(ofB [32]), (spanB 33 126)])
set_option maxRecDepth 100000 in
set_option maxHeartbeats 1000000 in
theorem class_print (s : ByteArray) (w : World) (hs : Hid (s.toList = [112, 114, 105, 110, 116])) : Calls Try.prog 105 #[.string s] w fun e w' => e = .returned (.tuple #[.agg (setC cls_print), .int .i64 0]) ∧ Below w.heap.size w w' := by
  have hb2 := (Blk.new w 24 (setC 0)).alloc (.cells (setC 0) 24)
  have hb4 := Blk.new' (w.alloc (.cells (setC 0) 24)) 24 (setC 0) (World.size_alloc _ _).symm
  have hB := below_alloc (below_alloc (Below.refl w.heap.size w) (.cells (setC 0) 24)) (.cells (setC 0) 24)
  unfold cls_print
  have q_alnum : (s.toList == [97, 108, 110, 117, 109]) = false := by rw [hs.out]; decide
  have q_alpha : (s.toList == [97, 108, 112, 104, 97]) = false := by rw [hs.out]; decide
  have q_lower : (s.toList == [108, 111, 119, 101, 114]) = false := by rw [hs.out]; decide
  have q_upper : (s.toList == [117, 112, 112, 101, 114]) = false := by rw [hs.out]; decide
  have q_xdigit : (s.toList == [120, 100, 105, 103, 105, 116]) = false := by rw [hs.out]; decide
  have q_digit : (s.toList == [100, 105, 103, 105, 116]) = false := by rw [hs.out]; decide
  have q_space : (s.toList == [115, 112, 97, 99, 101]) = false := by rw [hs.out]; decide
  have q_blank : (s.toList == [98, 108, 97, 110, 107]) = false := by rw [hs.out]; decide
  have q_cntrl : (s.toList == [99, 110, 116, 114, 108]) = false := by rw [hs.out]; decide
  have q_print : (s.toList == [112, 114, 105, 110, 116]) = true := by rw [hs.out]; decide
  go_enter Try.func105, Try.ntmps105
  go_upto_region 24 with (fail)
  refine wp_region_text 2 [bytesS [32], eqS (.agg (setC (ofB [32])))] [61, 62] (by kernel_rfl) rfl ?_ ?_
  · refine Steps.cons (fun a' w' hG hB dep => gs_byte1 (want_none rfl) _  rfl 32 rfl (fun _ _ h => h)) ?_
    refine Steps.cons (fun a' w' hG hB dep => gs_of (want_none rfl) _ _ rfl _ (dep 0 rfl 61 rfl) (Nat.le_of_ble_eq_true rfl) (fun _ => rfl)) ?_
    exact Steps.nil
  intro u w3 hB3 ans
  have ux : u 62 = .agg (setC (ofB [32])) := ans 1 62 (by decide) rfl
  clear ans
  simp only [putAll, List.foldl_cons, List.foldl_nil, Act.put, List.setIfInBounds_toArray, List.set_cons_zero, List.set_cons_succ, ux]
  clear ux
  go_upto_region 25 with (refine wl_store_set rfl _ _ rfl _ _ rfl rfl _ (blk_then hb4 hB3) ?_; intro w4 hb4' hg4)
  replace hb2 := blk_grown (blk_then hb2 hB3) hg4 (by omega)
  replace hB := below_grown (below_then hB hB3) hg4 (by omega)
  replace hb4 := hb4'
  clear hb4' hg4 hB3
  obtain ⟨wv, hwv⟩ : ∃ x, x = w4 := ⟨_, rfl⟩
  rw [← hwv] at hb2 hb4 hB ⊢
  clear hwv w4
  go_upto_region 25 with (fail)
  refine wp_region_steps 4 [eqS (.agg (setC (ofB [32]))), eqS (.agg (setC (spanB 33 126))), setsS [(ofB [32]), (spanB 33 126)], eqS (.agg (setC (joinL [(ofB [32]), (spanB 33 126)])))] [63, 64, 65, 66] follows_mixed (by kernel_rfl) rfl ?_ ?_
  · refine Steps.cons (fun a' w' hG hB dep => gs_load_set (want_none rfl) _ rfl _ (hG.other 4 rfl) _ (blk_then hb4 hB) rfl) ?_
    refine Steps.cons (fun a' w' hG hB dep => gs_span (want_none rfl) _ _ _ rfl 33 126 rfl rfl (by decide) (by decide) (fun _ => rfl)) ?_
    refine Steps.cons (fun a' w' hG hB dep => gs_sets2 (want_none rfl) _ _  rfl _ _ (dep 0 rfl 63 rfl) (dep 1 rfl 64 rfl) (fun _ _ h => h)) ?_
    refine Steps.cons (fun a' w' hG hB dep => gs_join (want_none rfl) _ _ rfl _ (dep 2 rfl 65 rfl) (Nat.le_of_ble_eq_true rfl) (fun _ => rfl)) ?_
    exact Steps.nil
  intro u w3 hB3 ans
  have ux : u 66 = .agg (setC (joinL [(ofB [32]), (spanB 33 126)])) := ans 3 66 (by decide) rfl
  clear ans
  simp only [putAll, List.foldl_cons, List.foldl_nil, Act.put, List.setIfInBounds_toArray, List.set_cons_zero, List.set_cons_succ, ux]
  clear ux
  go_upto_region 29 with (refine wl_store_set rfl _ _ rfl _ _ rfl rfl _ (blk_then hb4 hB3) ?_; intro w4 hb4' hg4)
  replace hb2 := blk_grown (blk_then hb2 hB3) hg4 (by omega)
  replace hB := below_grown (below_then hB hB3) hg4 (by omega)
  replace hb4 := hb4'
  clear hb4' hg4 hB3
  obtain ⟨wv, hwv⟩ : ∃ x, x = w4 := ⟨_, rfl⟩
  rw [← hwv] at hb2 hb4 hB ⊢
  clear hwv w4
  go_wp2_with (first | (refine wl_load_set rfl _ rfl _ rfl _ hb4 ?_) | (refine wl_store_set rfl _ _ rfl _ _ rfl rfl _ hb2 ?_; intro w9 hb9 hg9))
  exact ret_set2 rfl rfl hb9 rfl ⟨rfl, below_grown hB hg9 (Nat.le_refl _)⟩

end Go.Proofs.Ytajainmldcnaeaa
namespace Go.Proofs.Ytajainmldcnaeaa
open Go.RowKit
set_option linter.unusedVariables false
set_option linter.unusedSimpArgs false

set_option maxRecDepth 100000 in
set_option maxHeartbeats 2000000 in
theorem class_none (s : ByteArray) (w : World) (h_alnum : ¬ s.toList = [97, 108, 110, 117, 109]) (h_alpha : ¬ s.toList = [97, 108, 112, 104, 97]) (h_lower : ¬ s.toList = [108, 111, 119, 101, 114]) (h_upper : ¬ s.toList = [117, 112, 112, 101, 114]) (h_xdigit : ¬ s.toList = [120, 100, 105, 103, 105, 116]) (h_digit : ¬ s.toList = [100, 105, 103, 105, 116]) (h_space : ¬ s.toList = [115, 112, 97, 99, 101]) (h_blank : ¬ s.toList = [98, 108, 97, 110, 107]) (h_cntrl : ¬ s.toList = [99, 110, 116, 114, 108]) (h_print : ¬ s.toList = [112, 114, 105, 110, 116]) (h_graph : ¬ s.toList = [103, 114, 97, 112, 104]) (h_punct : ¬ s.toList = [112, 117, 110, 99, 116]) : Calls Try.prog 105 #[.string s] w fun e w' => e = .returned (.tuple #[.agg (setC 0), .int .i64 30]) ∧ Below w.heap.size w w' := by
  have q_alnum : (s.toList == [97, 108, 110, 117, 109]) = false := by rw [beq_eq_false_iff_ne]; exact h_alnum
  have q_alpha : (s.toList == [97, 108, 112, 104, 97]) = false := by rw [beq_eq_false_iff_ne]; exact h_alpha
  have q_lower : (s.toList == [108, 111, 119, 101, 114]) = false := by rw [beq_eq_false_iff_ne]; exact h_lower
  have q_upper : (s.toList == [117, 112, 112, 101, 114]) = false := by rw [beq_eq_false_iff_ne]; exact h_upper
  have q_xdigit : (s.toList == [120, 100, 105, 103, 105, 116]) = false := by rw [beq_eq_false_iff_ne]; exact h_xdigit
  have q_digit : (s.toList == [100, 105, 103, 105, 116]) = false := by rw [beq_eq_false_iff_ne]; exact h_digit
  have q_space : (s.toList == [115, 112, 97, 99, 101]) = false := by rw [beq_eq_false_iff_ne]; exact h_space
  have q_blank : (s.toList == [98, 108, 97, 110, 107]) = false := by rw [beq_eq_false_iff_ne]; exact h_blank
  have q_cntrl : (s.toList == [99, 110, 116, 114, 108]) = false := by rw [beq_eq_false_iff_ne]; exact h_cntrl
  have q_print : (s.toList == [112, 114, 105, 110, 116]) = false := by rw [beq_eq_false_iff_ne]; exact h_print
  have q_graph : (s.toList == [103, 114, 97, 112, 104]) = false := by rw [beq_eq_false_iff_ne]; exact h_graph
  have q_punct : (s.toList == [112, 117, 110, 99, 116]) = false := by rw [beq_eq_false_iff_ne]; exact h_punct
  have h_alnum' := Lib.hid h_alnum
  clear h_alnum
  have h_alpha' := Lib.hid h_alpha
  clear h_alpha
  have h_lower' := Lib.hid h_lower
  clear h_lower
  have h_upper' := Lib.hid h_upper
  clear h_upper
  have h_xdigit' := Lib.hid h_xdigit
  clear h_xdigit
  have h_digit' := Lib.hid h_digit
  clear h_digit
  have h_space' := Lib.hid h_space
  clear h_space
  have h_blank' := Lib.hid h_blank
  clear h_blank
  have h_cntrl' := Lib.hid h_cntrl
  clear h_cntrl
  have h_print' := Lib.hid h_print
  clear h_print
  have h_graph' := Lib.hid h_graph
  clear h_graph
  have h_punct' := Lib.hid h_punct
  clear h_punct
  have hb2 := (Blk.new w 24 (setC 0)).alloc (.cells (setC 0) 24)
  have hb4 := Blk.new' (w.alloc (.cells (setC 0) 24)) 24 (setC 0) (World.size_alloc _ _).symm
  have hB := below_alloc (below_alloc (Below.refl w.heap.size w) (.cells (setC 0) 24)) (.cells (setC 0) 24)
  go_enter Try.func105, Try.ntmps105
  go_wp2_with (first | (refine wl_load_set rfl _ rfl _ rfl _ hb4 ?_) | (refine wl_store_set rfl _ _ rfl _ _ rfl rfl _ hb2 ?_; intro w9 hb9 hg9))
  exact ret_set2 rfl rfl hb9 rfl ⟨rfl, below_grown hB hg9 (Nat.le_refl _)⟩

end Go.Proofs.Ytajainmldcnaeaa
namespace Go.Proofs.Ytajainmldcnaeaa
set_option linter.unusedVariables false
set_option linter.unusedSimpArgs false

inductive Nd where
  | mk (kd : Int) (st : BSet) (subs : List Nd) (mi ma : Int)
theorem Nd.ind {p : Nd → Prop} (h : ∀ k s l a b, (∀ x ∈ l, p x) → p (.mk k s l a b)) : ∀ n, p n
  | .mk k s l a b => h k s l a b (fun x hx => Nd.ind h x)
termination_by n => SizeOf.sizeOf n
decreasing_by
  have := List.sizeOf_lt_of_mem hx
  simp only [Nd.mk.sizeOf_spec]
  omega
/-- does a node's own part fit? -/
def headOk (k : Int) (st : BSet) (n : Nat) (a b : Int) : Bool :=
  if k = 1 ∨ k = 6 ∨ k = 7 then decide (st = 0) && decide (a = 0) && decide (b = 0) && decide (n = 0)
  else if k = 2 then !st.getLsbD 10 && decide (a = 0) && decide (b = 0) && decide (n = 0)
  else if k = 3 ∨ k = 4 then decide (st = 0) && decide (a = 0) && decide (b = 0) && decide (2 ≤ n)
  else if k = 5 then decide (st = 0) && decide (n = 1) && decide (0 ≤ a) && decide (a ≤ 255) && (decide (b = -1) || (decide (a ≤ b) && decide (b ≤ 255)))
  else false
theorem headOk_1 {k : Int} (h : k = 1 ∨ k = 6 ∨ k = 7) {st : BSet} {z : Bool} (hz : decide (st = 0) = z) (n : Nat) (a b : Int) : headOk k st n a b = (z && decide (a = 0) && decide (b = 0) && decide (n = 0)) := by
  unfold headOk; rw [if_pos h, hz]
theorem headOk_2 {st : BSet} {q : Bool} (hq : st.getLsbD 10 = q) (n : Nat) (a b : Int) : headOk 2 st n a b = (!q && decide (a = 0) && decide (b = 0) && decide (n = 0)) := by
  unfold headOk; rw [if_neg (by omega), if_pos rfl, hq]
theorem headOk_3 {k : Int} (h : k = 3 ∨ k = 4) {st : BSet} {z : Bool} (hz : decide (st = 0) = z) (n : Nat) (a b : Int) : headOk k st n a b = (z && decide (a = 0) && decide (b = 0) && decide (2 ≤ n)) := by
  unfold headOk; rw [if_neg (by omega), if_neg (by omega), if_pos h, hz]
theorem headOk_5 {st : BSet} {z : Bool} (hz : decide (st = 0) = z) (n : Nat) (a b : Int) : headOk 5 st n a b = (z && decide (n = 1) && decide (0 ≤ a) && decide (a ≤ 255) && (decide (b = -1) || (decide (a ≤ b) && decide (b ≤ 255)))) := by
  unfold headOk; rw [if_neg (by omega), if_neg (by omega), if_neg (by omega), if_pos rfl, hz]
mutual
def Nd.isT : Nd → Bool
  | .mk k st l a b => headOk k st l.length a b && Nd.areT l
def Nd.areT : List Nd → Bool
  | [] => true
  | x :: l => x.isT && Nd.areT l
end
theorem Nd.areT_all : ∀ l : List Nd, Nd.areT l = l.all Nd.isT
  | [] => rfl
  | x :: l => by simp [Nd.areT, Nd.areT_all l]
/-- the places of a tree that is repeated, of u places -/
def tU (u : Nat) (a b : Int) : Nat := if u = 0 then 0 else a.toNat * u + (if b = -1 then u + 2 else if a < b then (b - a).toNat * u + 1 else 0)
mutual
def Nd.U : Nd → Nat
  | .mk k _ l a b => if k = 2 ∨ k = 6 ∨ k = 7 then 1 else if k = 3 then Nd.Us l else if k = 4 then l.length + 1 + Nd.Us l else if k = 5 then tU (Nd.Us l) a b else 0
def Nd.Us : List Nd → Nat
  | [] => 0
  | x :: l => x.U + Nd.Us l
end
theorem Nd.Us_append (l m : List Nd) : Nd.Us (l ++ m) = Nd.Us l + Nd.Us m := by
  induction l with
  | nil => simp [Nd.Us]
  | cons x l ih => simp [Nd.Us, ih]; omega
theorem Nd.Us_step (l : List Nd) (k : Nat) (h : k < l.length) : Nd.Us (l.take (k + 1)) = Nd.Us (l.take k) + l[k].U := by
  rw [List.take_succ_eq_append_getElem h, Nd.Us_append]; simp [Nd.Us]
theorem Nd.Us_take (l : List Nd) (k : Nat) : Nd.Us (l.take k) ≤ Nd.Us l := by
  have := Nd.Us_append (l.take k) (l.drop k)
  rw [List.take_append_drop] at this
  omega
theorem tU_cap (C u : Nat) (a b : Int) (hC : 0 < C) : min (tU (min u C) a b) C = min (tU u a b) C := by
  by_cases h : u ≤ C
  · rw [Nat.min_eq_left h]
  have h1 : min u C = C := by omega
  have e1 : (if C = 0 then 0 else a.toNat * C + (if b = -1 then C + 2 else if a < b then (b - a).toNat * C + 1 else 0)) = a.toNat * C + (if b = -1 then C + 2 else if a < b then (b - a).toNat * C + 1 else 0) := if_neg (by omega)
  have e2 : (if u = 0 then 0 else a.toNat * u + (if b = -1 then u + 2 else if a < b then (b - a).toNat * u + 1 else 0)) = a.toNat * u + (if b = -1 then u + 2 else if a < b then (b - a).toNat * u + 1 else 0) := if_neg (by omega)
  unfold tU
  rw [h1, e1, e2]
  have k : ∀ n : Nat, 0 < n → C ≤ n * C ∧ C ≤ n * u := fun n hn => ⟨Nat.le_mul_of_pos_left C hn, Nat.le_trans (by omega) (Nat.le_mul_of_pos_left u hn)⟩
  rcases Nat.eq_zero_or_pos a.toNat with h0 | h0
  · rw [h0, Nat.zero_mul, Nat.zero_mul]
    by_cases hb : b = -1
    · rw [if_pos hb, if_pos hb]; omega
    · rw [if_neg hb, if_neg hb]
      by_cases hab : a < b
      · rw [if_pos hab, if_pos hab]
        have := k (b - a).toNat (by omega)
        omega
      · rw [if_neg hab, if_neg hab]
  · have := k _ h0
    omega
theorem tU_zero (u : Nat) (a b : Int) (h : tU u a b = 0) (h0 : 0 ≤ a) (hb : b = -1 ∨ a < b) : u = 0 := by
  unfold tU at h
  by_cases hu : u = 0
  · exact hu
  rw [if_neg hu] at h
  rcases hb with rfl | hb
  · rw [if_pos rfl] at h; omega
  · rw [if_pos hb] at h
    split at h <;> omega

theorem tU_int {q : Nat} {mi ma : Int} (h0 : 0 ≤ mi) (hq : ¬ q = 0) : ((tU q mi ma : Nat) : Int) = mi * (q : Int) + (if ma = -1 then (q : Int) + 2 else if mi < ma then (ma - mi) * (q : Int) + 1 else 0) := by
  unfold tU
  rw [if_neg hq]
  by_cases h1 : ma = -1
  · rw [if_pos h1, if_pos h1, Int.natCast_add, Int.natCast_mul, Int.toNat_of_nonneg h0]; rfl
  · rw [if_neg h1, if_neg h1]
    by_cases h2 : mi < ma
    · rw [if_pos h2, if_pos h2, Int.natCast_add, Int.natCast_mul, Int.toNat_of_nonneg h0, Int.natCast_add, Int.natCast_mul, Int.toNat_of_nonneg (by omega)]; rfl
    · rw [if_neg h2, if_neg h2, Int.natCast_add, Int.natCast_mul, Int.toNat_of_nonneg h0]; rfl
theorem mul_bound {q : Nat} {a : Int} (h0 : 0 ≤ a) (h1 : a ≤ 256) (hq : q ≤ 4096) : 0 ≤ a * (q : Int) ∧ a * (q : Int) ≤ 1048576 := by
  have := Int.mul_le_mul h1 (show (q : Int) ≤ 4096 by omega) (by omega) (by omega)
  exact ⟨Int.mul_nonneg h0 (by omega), by omega⟩

/-- what is laid: how many states, which edges -/
structure Ly where
  s : Nat
  e : List Edg
def Ly.new (m : Ly) : Ly := ⟨m.s + 1, m.e⟩
def Ly.edge (m : Ly) (kd : Int) (fr tt : Nat) (st : BSet) : Ly := ⟨m.s, m.e ++ [⟨kd, fr, tt, st⟩]⟩
def Ly.free (m : Ly) (fr tt : Nat) : Ly := m.edge 1 fr tt 0
def Ly.over (m : Ly) (kd : Int) (a : Nat) (st : BSet) : Ly × Nat := (m.new.edge kd a m.s st, m.s)
def Ly.frees (m : Ly) (z : Nat) (ends : List Nat) : Ly := ends.foldl (fun m s => m.free s z) m
def Ly.joined (m : Ly) (ends : List Nat) : Ly × Nat := (m.new.frees m.s ends, m.s)
theorem Ly.frees_snoc (m : Ly) (z : Nat) (l : List Nat) (k : Nat) (h : k < l.length) : m.frees z (l.take (k + 1)) = (m.frees z (l.take k)).free l[k] z := by
  unfold Ly.frees
  rw [List.take_succ_eq_append_getElem h, List.foldl_append]
  rfl
theorem Ly.frees_s (z : Nat) : ∀ (l : List Nat) (m : Ly), (m.frees z l).s = m.s
  | [], m => rfl
  | x :: l, m => (Ly.frees_s z l (m.free x z)).trans rfl
theorem Ly.frees_e (z : Nat) : ∀ (l : List Nat) (m : Ly), (m.frees z l).e.length = m.e.length + l.length
  | [], m => rfl
  | x :: l, m => by
    have := Ly.frees_e z l (m.free x z)
    have h2 : (m.free x z).e.length = m.e.length + 1 := by simp [Ly.free, Ly.edge]
    show ((m.free x z).frees z l).e.length = _
    rw [this, h2, List.length_cons]; omega
abbrev LayF := Ly → Nat → Ly × Nat
def altS (f : LayF) (a : Nat) (r : Ly × List Nat) : Ly × List Nat := ((f (r.1.new.free a r.1.s) r.1.s).1, r.2 ++ [(f (r.1.new.free a r.1.s) r.1.s).2])
def reps (f : LayF) : Nat → Ly × Nat → Ly × Nat
  | 0, r => r
  | n + 1, r => f (reps f n r).1 (reps f n r).2
def opts (f : LayF) : Nat → (Ly × Nat) × List Nat → (Ly × Nat) × List Nat
  | 0, r => r
  | n + 1, r => (f (opts f n r).1.1 (opts f n r).1.2, (opts f n r).2 ++ [(f (opts f n r).1.1 (opts f n r).1.2).2])
def timesP (f : LayF) (u : Nat) (mi ma : Int) (m : Ly) (a : Nat) : Ly × Nat :=
  if u = 0 then (m, a) else
  if ma = -1 then
    let q := reps f mi.toNat (m, a)
    let p := f (q.1.new.free q.2 q.1.s) q.1.s
    (p.1.free p.2 q.1.s).joined [q.1.s]
  else if mi < ma then
    let q := reps f mi.toNat (m, a)
    let o := opts f (ma - mi).toNat (q, [q.2])
    o.1.1.joined o.2
  else reps f mi.toNat (m, a)
mutual
def Nd.lay : Nd → LayF
  | .mk k st l mi ma => fun m a =>
    if k = 2 then m.over 2 a st else if k = 6 then m.over 3 a 0 else if k = 7 then m.over 4 a 0
    else if k = 3 then Nd.row l (m, a)
    else if k = 4 then (Nd.alt l a (m, [])).1.joined (Nd.alt l a (m, [])).2
    else if k = 5 then Nd.tim l mi ma m a
    else (m, a)
def Nd.row : List Nd → Ly × Nat → Ly × Nat
  | [] => fun r => r
  | x :: l => fun r => Nd.row l (x.lay r.1 r.2)
def Nd.alt : List Nd → Nat → Ly × List Nat → Ly × List Nat
  | [] => fun _ r => r
  | x :: l => fun a r => Nd.alt l a (altS x.lay a r)
def Nd.tim : List Nd → Int → Int → LayF
  | [] => fun _ _ m a => (m, a)
  | x :: _ => fun mi ma m a => timesP x.lay x.U mi ma m a
end
theorem Nd.row_append : ∀ (l k : List Nd) (r : Ly × Nat), Nd.row (l ++ k) r = Nd.row k (Nd.row l r)
  | [], k, r => by simp [Nd.row]
  | x :: l, k, r => by simp only [List.cons_append, Nd.row]; exact Nd.row_append l k _
theorem Nd.row_step (l : List Nd) (r : Ly × Nat) (k : Nat) (h : k < l.length) : Nd.row (l.take (k + 1)) r = l[k].lay (Nd.row (l.take k) r).1 (Nd.row (l.take k) r).2 := by
  rw [List.take_succ_eq_append_getElem h, Nd.row_append]
  simp only [Nd.row]
theorem Nd.alt_append : ∀ (l k : List Nd) (a : Nat) (r : Ly × List Nat), Nd.alt (l ++ k) a r = Nd.alt k a (Nd.alt l a r)
  | [], k, a, r => by simp [Nd.alt]
  | x :: l, k, a, r => by simp only [List.cons_append, Nd.alt]; exact Nd.alt_append l k a _
theorem Nd.alt_step (l : List Nd) (a : Nat) (r : Ly × List Nat) (k : Nat) (h : k < l.length) : Nd.alt (l.take (k + 1)) a r = altS l[k].lay a (Nd.alt (l.take k) a r) := by
  rw [List.take_succ_eq_append_getElem h, Nd.alt_append]
  simp only [Nd.alt]

/-- u states are made, of edges fewer than three times as many; a's number stays below -/
structure GoodF (f : LayF) (u : Nat) : Prop where
  st : ∀ m a, (f m a).1.s = m.s + u
  ed : ∀ m a, (f m a).1.e.length ≤ m.e.length + (3 * u - 1)
  at_ : ∀ m a, a < m.s → (f m a).2 < (f m a).1.s
theorem GoodF.nil : GoodF (fun m a => (m, a)) 0 := ⟨fun _ _ => rfl, fun _ _ => Nat.le_refl _, fun _ _ h => h⟩
theorem GoodF.over (kd : Int) (st : BSet) : GoodF (fun m a => m.over kd a st) 1 :=
  ⟨fun _ _ => rfl, fun m a => by simp [Ly.over, Ly.new, Ly.edge], fun m a h => by simp [Ly.over, Ly.new, Ly.edge]⟩
theorem joined_s (m : Ly) (l : List Nat) : (m.joined l).1.s = m.s + 1 := by unfold Ly.joined; rw [Ly.frees_s]; rfl
theorem joined_e (m : Ly) (l : List Nat) : (m.joined l).1.e.length = m.e.length + l.length := by unfold Ly.joined; rw [Ly.frees_e]; rfl
section
variable {f : LayF} {u : Nat}
theorem GoodF.reps_s (h : GoodF f u) (r : Ly × Nat) : ∀ n, (reps f n r).1.s = r.1.s + n * u
  | 0 => by simp [reps]
  | n + 1 => by rw [reps, h.st, h.reps_s r n, Nat.add_mul]; omega
theorem GoodF.reps_e (h : GoodF f u) (r : Ly × Nat) : ∀ n, (reps f n r).1.e.length ≤ r.1.e.length + n * (3 * u - 1)
  | 0 => by simp [reps]
  | n + 1 => by
    have h1 := h.ed (reps f n r).1 (reps f n r).2
    have h2 := h.reps_e r n
    rw [Nat.add_mul, Nat.one_mul]
    unfold reps
    omega
theorem GoodF.reps_at (h : GoodF f u) (r : Ly × Nat) (hr : r.2 < r.1.s) : ∀ n, (reps f n r).2 < (reps f n r).1.s
  | 0 => hr
  | n + 1 => h.at_ _ _ (h.reps_at r hr n)
theorem GoodF.opts_s (h : GoodF f u) (r : (Ly × Nat) × List Nat) : ∀ n, (opts f n r).1.1.s = r.1.1.s + n * u
  | 0 => by simp [opts]
  | n + 1 => by unfold opts; simp only; rw [h.st, h.opts_s r n, Nat.add_mul]; omega
theorem GoodF.opts_e (h : GoodF f u) (r : (Ly × Nat) × List Nat) : ∀ n, (opts f n r).1.1.e.length ≤ r.1.1.e.length + n * (3 * u - 1)
  | 0 => by simp [opts]
  | n + 1 => by
    have h1 := h.ed (opts f n r).1.1 (opts f n r).1.2
    have h2 := h.opts_e r n
    rw [Nat.add_mul, Nat.one_mul]
    unfold opts
    simp only
    omega
theorem opts_len (r : (Ly × Nat) × List Nat) : ∀ n, (opts f n r).2.length = r.2.length + n
  | 0 => by simp [opts]
  | n + 1 => by unfold opts; simp only [List.length_append, opts_len r n, List.length_cons, List.length_nil]; omega
theorem mul_three (n u : Nat) (hu : 0 < u) : n * (3 * u - 1) + n = 3 * (n * u) := by
  obtain ⟨v, rfl⟩ : ∃ v, u = v + 1 := ⟨u - 1, by omega⟩
  rw [show 3 * (v + 1) - 1 = 3 * v + 2 by omega, Nat.mul_add, Nat.mul_add, Nat.mul_left_comm n 3 v]
  omega
theorem GoodF.times (h : GoodF f u) (mi ma : Int) (h0 : 0 ≤ mi) (hm : ma = -1 ∨ mi ≤ ma) : GoodF (timesP f u mi ma) (tU u mi ma) := by
  by_cases hu : u = 0
  · have e1 : timesP f u mi ma = fun m a => (m, a) := by funext m a; unfold timesP; rw [if_pos hu]
    have e2 : tU u mi ma = 0 := by unfold tU; rw [if_pos hu]
    rw [e1, e2]
    exact .nil
  by_cases h1 : ma = -1
  · have e2 : tU u mi ma = mi.toNat * u + (u + 2) := by unfold tU; rw [if_neg hu, if_pos h1]
    have key : ∀ m a, (timesP f u mi ma m a).1.s = m.s + (mi.toNat * u + (u + 2)) ∧ (timesP f u mi ma m a).1.e.length ≤ m.e.length + (3 * (mi.toNat * u + (u + 2)) - 1) ∧ (timesP f u mi ma m a).2 < (timesP f u mi ma m a).1.s := by
      intro m a
      unfold timesP
      rw [if_neg hu, if_pos h1]
      simp only
      obtain ⟨q, hq⟩ : ∃ q, q = reps f mi.toNat (m, a) := ⟨_, rfl⟩
      rw [← hq]
      have q1 : q.1.s = m.s + mi.toNat * u := by rw [hq]; exact h.reps_s (m, a) _
      have q2 : q.1.e.length ≤ m.e.length + mi.toNat * (3 * u - 1) := by rw [hq]; exact h.reps_e (m, a) _
      have p1 := h.st (q.1.new.free q.2 q.1.s) q.1.s
      have p2 := h.ed (q.1.new.free q.2 q.1.s) q.1.s
      have n1 : (q.1.new.free q.2 q.1.s).s = q.1.s + 1 := rfl
      have n2 : (q.1.new.free q.2 q.1.s).e.length = q.1.e.length + 1 := by simp [Ly.free, Ly.edge, Ly.new]
      have n3 : ∀ (p : Ly) (x y : Nat), (p.free x y).s = p.s ∧ (p.free x y).e.length = p.e.length + 1 := fun p x y => ⟨rfl, by simp [Ly.free, Ly.edge]⟩
      have mt := mul_three mi.toNat u (by omega)
      refine ⟨?_, ?_, ?_⟩
      · rw [joined_s, (n3 _ _ _).1, p1, n1, q1]; omega
      · rw [joined_e, (n3 _ _ _).2, List.length_cons, List.length_nil]
        omega
      · rw [joined_s, (n3 _ _ _).1]
        unfold Ly.joined
        simp only [(n3 _ _ _).1]
        omega
    rw [e2]
    exact ⟨fun m a => (key m a).1, fun m a => (key m a).2.1, fun m a _ => (key m a).2.2⟩
  have hm2 : mi ≤ ma := by rcases hm with hm | hm <;> omega
  by_cases h2 : mi < ma
  · have e2 : tU u mi ma = mi.toNat * u + ((ma - mi).toNat * u + 1) := by unfold tU; rw [if_neg hu, if_neg h1, if_pos h2]
    have key : ∀ m a, (timesP f u mi ma m a).1.s = m.s + (mi.toNat * u + ((ma - mi).toNat * u + 1)) ∧ (timesP f u mi ma m a).1.e.length ≤ m.e.length + (3 * (mi.toNat * u + ((ma - mi).toNat * u + 1)) - 1) ∧ (timesP f u mi ma m a).2 < (timesP f u mi ma m a).1.s := by
      intro m a
      unfold timesP
      rw [if_neg hu, if_neg h1, if_pos h2]
      simp only
      obtain ⟨q, hq⟩ : ∃ q, q = reps f mi.toNat (m, a) := ⟨_, rfl⟩
      rw [← hq]
      have q1 : q.1.s = m.s + mi.toNat * u := by rw [hq]; exact h.reps_s (m, a) _
      have q2 : q.1.e.length ≤ m.e.length + mi.toNat * (3 * u - 1) := by rw [hq]; exact h.reps_e (m, a) _
      have p1 := h.opts_s (q, [q.2]) (ma - mi).toNat
      have p2 := h.opts_e (q, [q.2]) (ma - mi).toNat
      have p3 := opts_len (f := f) (q, [q.2]) (ma - mi).toNat
      simp only [List.length_cons, List.length_nil] at p1 p2 p3
      have mt := mul_three mi.toNat u (by omega)
      have mt2 := mul_three (ma - mi).toNat u (by omega)
      refine ⟨?_, ?_, ?_⟩
      · rw [joined_s, p1, q1]; omega
      · rw [joined_e, p3]
        omega
      · rw [joined_s]
        unfold Ly.joined
        simp only
        omega
    rw [e2]
    exact ⟨fun m a => (key m a).1, fun m a => (key m a).2.1, fun m a _ => (key m a).2.2⟩
  · have e1 : timesP f u mi ma = fun m a => reps f mi.toNat (m, a) := by funext m a; unfold timesP; rw [if_neg hu, if_neg h1, if_neg h2]
    have e2 : tU u mi ma = mi.toNat * u := by unfold tU; rw [if_neg hu, if_neg h1, if_neg h2]; rfl
    rw [e1, e2]
    refine ⟨fun m a => h.reps_s (m, a) _, fun m a => ?_, fun m a ha => h.reps_at (m, a) ha _⟩
    have := h.reps_e (m, a) mi.toNat
    simp only at this
    have mt := mul_three mi.toNat u (by omega)
    rcases Nat.eq_zero_or_pos mi.toNat with hz | hz
    · rw [hz] at this ⊢
      simp only [Nat.zero_mul] at this ⊢
      omega
    · omega
end
theorem row_good : ∀ (l : List Nd), (∀ x ∈ l, GoodF x.lay x.U) → GoodF (fun m a => Nd.row l (m, a)) (Nd.Us l)
  | [], _ => by simpa [Nd.row, Nd.Us] using GoodF.nil
  | x :: l, h => by
    have hx := h x (by simp)
    have ih := row_good l (fun y hy => h y (by simp [hy]))
    refine ⟨fun m a => ?_, fun m a => ?_, fun m a ha => ?_⟩
    · have h1 : (Nd.row l (x.lay m a)).1.s = (x.lay m a).1.s + Nd.Us l := ih.st (x.lay m a).1 (x.lay m a).2
      have h2 := hx.st m a
      simp only [Nd.row, Nd.Us]
      omega
    · have h1 : (Nd.row l (x.lay m a)).1.e.length ≤ (x.lay m a).1.e.length + (3 * Nd.Us l - 1) := ih.ed (x.lay m a).1 (x.lay m a).2
      have h2 := hx.ed m a
      simp only [Nd.row, Nd.Us]
      omega
    · have h2 := ih.at_ _ _ (hx.at_ m a ha)
      simp only [Nd.row] at h2 ⊢
      exact h2
theorem alt_good : ∀ (l : List Nd), (∀ x ∈ l, GoodF x.lay x.U) → ∀ a (r : Ly × List Nat), (Nd.alt l a r).1.s = r.1.s + l.length + Nd.Us l ∧ (Nd.alt l a r).1.e.length ≤ r.1.e.length + l.length + 3 * Nd.Us l ∧ (Nd.alt l a r).2.length = r.2.length + l.length
  | [], _, a, r => by simp [Nd.alt, Nd.Us]
  | x :: l, h, a, r => by
    have hx := h x (by simp)
    have ih := alt_good l (fun y hy => h y (by simp [hy])) a (altS x.lay a r)
    have h1 := hx.st (r.1.new.free a r.1.s) r.1.s
    have h2 := hx.ed (r.1.new.free a r.1.s) r.1.s
    have n1 : (r.1.new.free a r.1.s).s = r.1.s + 1 := rfl
    have n2 : (r.1.new.free a r.1.s).e.length = r.1.e.length + 1 := by simp [Ly.free, Ly.edge, Ly.new]
    have n3 : (altS x.lay a r).2.length = r.2.length + 1 := by simp [altS]
    have n4 : (altS x.lay a r).1 = (x.lay (r.1.new.free a r.1.s) r.1.s).1 := rfl
    rw [n4, n3] at ih
    simp only [Nd.alt, Nd.Us, List.length_cons]
    omega
theorem headOk_times {st : BSet} {n : Nat} {a b : Int} (h : headOk 5 st n a b = true) : st = 0 ∧ n = 1 ∧ 0 ≤ a ∧ a ≤ 255 ∧ (b = -1 ∨ (a ≤ b ∧ b ≤ 255)) := by
  unfold headOk at h
  rw [if_neg (by omega), if_neg (by omega), if_neg (by omega), if_pos rfl] at h
  simp only [Bool.and_eq_true, Bool.or_eq_true, decide_eq_true_eq] at h
  exact ⟨h.1.1.1.1, h.1.1.1.2, h.1.1.2, h.1.2, h.2⟩
theorem lay_good : ∀ n : Nd, n.isT = true → GoodF n.lay n.U := by
  intro n
  induction n using Nd.ind with
  | h k st l mi ma ih =>
    intro hT
    simp only [Nd.isT, Bool.and_eq_true, Nd.areT_all, List.all_eq_true] at hT
    obtain ⟨hh, hl⟩ := hT
    have ih' : ∀ x ∈ l, GoodF x.lay x.U := fun x hx => ih x hx (hl x hx)
    by_cases k2 : k = 2
    · have e1 : (Nd.mk k st l mi ma).lay = fun m a => m.over 2 a st := by funext m a; simp only [Nd.lay, if_pos k2]
      have e2 : (Nd.mk k st l mi ma).U = 1 := by simp only [Nd.U]; rw [if_pos (.inl k2)]
      rw [e1, e2]; exact .over _ _
    by_cases k6 : k = 6
    · have e1 : (Nd.mk k st l mi ma).lay = fun m a => m.over 3 a 0 := by funext m a; simp only [Nd.lay, if_neg k2, if_pos k6]
      have e2 : (Nd.mk k st l mi ma).U = 1 := by simp only [Nd.U]; rw [if_pos (.inr (.inl k6))]
      rw [e1, e2]; exact .over _ _
    by_cases k7 : k = 7
    · have e1 : (Nd.mk k st l mi ma).lay = fun m a => m.over 4 a 0 := by funext m a; simp only [Nd.lay, if_neg k2, if_neg k6, if_pos k7]
      have e2 : (Nd.mk k st l mi ma).U = 1 := by simp only [Nd.U]; rw [if_pos (.inr (.inr k7))]
      rw [e1, e2]; exact .over _ _
    have hk : ¬ (k = 2 ∨ k = 6 ∨ k = 7) := by omega
    by_cases k3 : k = 3
    · have e1 : (Nd.mk k st l mi ma).lay = fun m a => Nd.row l (m, a) := by funext m a; simp only [Nd.lay, if_neg k2, if_neg k6, if_neg k7, if_pos k3]
      have e2 : (Nd.mk k st l mi ma).U = Nd.Us l := by simp only [Nd.U]; rw [if_neg hk, if_pos k3]
      rw [e1, e2]; exact row_good l ih'
    by_cases k4 : k = 4
    · have e1 : (Nd.mk k st l mi ma).lay = fun m a => (Nd.alt l a (m, [])).1.joined (Nd.alt l a (m, [])).2 := by funext m a; simp only [Nd.lay, if_neg k2, if_neg k6, if_neg k7, if_neg k3, if_pos k4]
      have e2 : (Nd.mk k st l mi ma).U = l.length + 1 + Nd.Us l := by simp only [Nd.U]; rw [if_neg hk, if_neg k3, if_pos k4]
      rw [e1, e2]
      refine ⟨fun m a => ?_, fun m a => ?_, fun m a _ => ?_⟩
      · have := (alt_good l ih' a (m, [])).1
        rw [joined_s, this]; simp only; omega
      · have := alt_good l ih' a (m, [])
        rw [joined_e]
        simp only [List.length_nil] at this
        omega
      · rw [joined_s]; unfold Ly.joined; simp only; omega
    by_cases k5 : k = 5
    · subst k5
      obtain ⟨_, hn, h0, _, hb⟩ := headOk_times hh
      obtain ⟨x, rfl⟩ := List.length_eq_one_iff.1 hn
      have e1 : (Nd.mk 5 st [x] mi ma).lay = timesP x.lay x.U mi ma := by funext m a; simp only [Nd.lay, if_neg k2, if_neg k6, if_neg k7, if_neg k3, if_neg k4, if_true, Nd.tim]
      have e2 : (Nd.mk 5 st [x] mi ma).U = tU x.U mi ma := by simp only [Nd.U, Nd.Us]; rw [if_neg hk, if_neg k3, if_neg k4, if_pos trivial, Nat.add_zero]
      rw [e1, e2]
      exact (ih' x (by simp)).times mi ma h0 (by omega)
    · have e1 : (Nd.mk k st l mi ma).lay = fun m a => (m, a) := by funext m a; simp only [Nd.lay, if_neg k2, if_neg k6, if_neg k7, if_neg k3, if_neg k4, if_neg k5]
      have e2 : (Nd.mk k st l mi ma).U = 0 := by simp only [Nd.U]; rw [if_neg hk, if_neg k3, if_neg k4, if_neg k5]
      rw [e1, e2]; exact .nil
end Go.Proofs.Ytajainmldcnaeaa
namespace Go.Proofs.Ytajainmldcnaeaa
set_option linter.unusedVariables false
set_option linter.unusedSimpArgs false

namespace Ere
/-- the byte at a place -/
def chr (q : ByteArray) (i : Nat) : Nat := if h : i < q.size then (q[i]).toNat else 0
/-- a fault: its number and its place; or an answer and the place behind it -/
inductive Res (α : Type) where
  | fault (e at_ : Nat)
  | got (x : α) (i : Nat)
def Res.bind {α β : Type} (r : Res α) (f : α → Nat → Res β) : Res β := match r with
  | .fault e i => .fault e i
  | .got x i => f x i
def isAt (p : ByteArray) (i c : Nat) : Bool := decide (i < p.size) && decide (chr p i = c)
def oneOf (p : ByteArray) (i : Nat) (l : List Nat) : Bool := decide (i < p.size) && l.contains (chr p i)
def zeroN : Nd := .mk 0 0 [] 0 0
def setN (s : BSet) : Nd := .mk 2 (s &&& notB 0) [] 0 0
def someN (k : Int) (l : List Nd) : Nd := match l with
  | [] => .mk 1 0 [] 0 0
  | [x] => x
  | _ => .mk k 0 l 0 0
/-- the named sets -/
def upperB : BSet := spanB 65 90
def lowerB : BSet := spanB 97 122
def digitB : BSet := spanB 48 57
def nameB (l : List Nat) : Option BSet :=
  if l = [117, 112, 112, 101, 114] then some upperB
  else if l = [108, 111, 119, 101, 114] then some lowerB
  else if l = [100, 105, 103, 105, 116] then some digitB
  else if l = [97, 108, 112, 104, 97] then some (upperB ||| lowerB)
  else if l = [97, 108, 110, 117, 109] then some (upperB ||| lowerB ||| digitB)
  else if l = [120, 100, 105, 103, 105, 116] then some (digitB ||| spanB 65 70 ||| spanB 97 102)
  else if l = [98, 108, 97, 110, 107] then some (bit 9 ||| bit 32)
  else if l = [115, 112, 97, 99, 101] then some (spanB 9 13 ||| bit 32)
  else if l = [99, 110, 116, 114, 108] then some (spanB 0 31 ||| bit 127)
  else if l = [103, 114, 97, 112, 104] then some (spanB 33 126)
  else if l = [112, 114, 105, 110, 116] then some (spanB 32 126)
  else if l = [112, 117, 110, 99, 116] then some (spanB 33 47 ||| spanB 58 64 ||| spanB 91 96 ||| spanB 123 126)
  else none
/-- the bytes from one place up to another -/
def sub (p : ByteArray) (i j : Nat) : List Nat := (List.range (j - i)).map fun k => chr p (i + k)
/-- where the next ':]' stands -/
def endAt (p : ByteArray) : Nat → Nat → Option Nat
  | 0, _ => none
  | n + 1, i => if p.size ≤ i + 1 then none else if chr p i = 58 ∧ chr p (i + 1) = 93 then some i else endAt p n (i + 1)
/-- a '[:', a name, ':]' at i, within the set at 'from_' -/
def classR (p : ByteArray) (from_ i : Nat) : Res BSet :=
  match endAt p p.size (i + 2) with
  | none => .fault 43 from_
  | some j => match nameB (sub p (i + 2) j) with
    | none => .fault 30 i
    | some s => .got s (j + 2)
def itemR (p : ByteArray) (from_ i : Nat) : Res BSet :=
  if isAt p i 91 && isAt p (i + 1) 58 then classR p from_ i
  else if isAt p i 91 && oneOf p (i + 1) [46, 61] then .fault 43 i
  else if !isAt p (i + 1) 45 || decide (p.size ≤ i + 2) || isAt p (i + 2) 93 then .got (bit (chr p i)) (i + 1)
  else if decide (chr p (i + 2) < chr p i) || (decide (chr p (i + 2) = 91) && oneOf p (i + 3) [58, 46, 61]) then .fault 43 i
  else .got (spanB (chr p i) (chr p (i + 2))) (i + 3)
def itemsR (p : ByteArray) (from_ : Nat) : Nat → Bool → Nat → BSet → Res BSet
  | 0, _, _, _ => .fault 0 0
  | n + 1, first, i, s => if !first && isAt p i 93 then .got s i else if p.size ≤ i then .fault 43 from_ else (itemR p from_ i).bind fun t j => itemsR p from_ n false j (s ||| t)
def setR (p : ByteArray) (from_ i : Nat) : Res Nd :=
  (itemsR p from_ (p.size + 2) true (if isAt p i 94 then i + 1 else i) 0).bind fun s j => .got (setN (if isAt p i 94 then notB s else s)) (j + 1)
/-- up to four digits: the number, the place behind, how many -/
def digits (p : ByteArray) : Nat → Nat → Nat → Nat → Nat × Nat × Nat
  | 0, i, n, m => (n, i, m)
  | k + 1, i, n, m => if decide (i < p.size) && decide (48 ≤ chr p i) && decide (chr p i ≤ 57) then digits p k (i + 1) (10 * n + (chr p i - 48)) (m + 1) else (n, i, m)
def cntOk (d : Nat × Nat × Nat) : Bool := decide (0 < d.2.2) && decide (d.2.2 < 4) && decide (d.1 ≤ 255)
/-- what stands behind a '{' at i: least, most, and the place of the '}' -/
def countsR (p : ByteArray) (i : Nat) : Res (Nat × Int) :=
  let d := digits p 4 (i + 1) 0 0
  if cntOk d && isAt p d.2.1 44 then
    if isAt p (d.2.1 + 1) 125 then .got (d.1, -1) (d.2.1 + 1)
    else
      let f := digits p 4 (d.2.1 + 1) 0 0
      if !cntOk f || !isAt p f.2.1 125 || decide (f.1 < d.1) then .fault 45 i else .got (d.1, (f.1 : Int)) f.2.1
  else if !cntOk d || !isAt p d.2.1 125 then .fault 45 i else .got (d.1, (d.1 : Int)) d.2.1
def timesN (t : Nd) (a b : Int) : Nd := .mk 5 0 [t] a b
def repeatR (p : ByteArray) (t : Nd) (i : Nat) : Res Nd :=
  if isAt p i 42 then .got (timesN t 0 (-1)) (i + 1)
  else if isAt p i 43 then .got (timesN t 1 (-1)) (i + 1)
  else if isAt p i 63 then .got (timesN t 0 1) (i + 1)
  else if isAt p i 123 then (countsR p i).bind fun c j => .got (timesN t (c.1 : Int) c.2) (j + 1)
  else .got t i
/-- the bytes that may stand behind a backslash -/
def marks : List Nat := [46, 91, 93, 40, 41, 42, 43, 63, 123, 125, 124, 94, 36, 92, 47, 45]
/-- a piece at i; 'inner': the pattern of a group, where one more is allowed -/
def pieceR (p : ByteArray) (inner : Option (Nat → Res Nd)) (i : Nat) : Res Nd :=
  let c := chr p i
  if c = 94 then .got (.mk 6 0 [] 0 0) (i + 1)
  else if c = 36 then .got (.mk 7 0 [] 0 0) (i + 1)
  else if c = 42 ∨ c = 43 ∨ c = 63 ∨ c = 123 then .fault 44 i
  else if c = 40 then match inner with
    | none => .fault 47 i
    | some f => (f (i + 1)).bind fun t j => if p.size ≤ j then .fault 42 i else repeatR p t (j + 1)
  else if c = 91 then (setR p i (i + 1)).bind fun t j => repeatR p t j
  else if c = 46 then repeatR p (setN (notB 0)) (i + 1)
  else if c = 92 then (if oneOf p (i + 1) marks then repeatR p (setN (bit (chr p (i + 1)))) (i + 2) else .fault 46 i)
  else repeatR p (setN (bit c)) (i + 1)
def altR (p : ByteArray) (top : Bool) (pc : Nat → Res Nd) : Nat → Nat → List Nd → Res Nd
  | 0, _, _ => .fault 0 0
  | n + 1, i, l => if decide (p.size ≤ i) || isAt p i 124 then .got (someN 3 l) i
    else if isAt p i 41 then (if top then .fault 42 i else .got (someN 3 l) i)
    else (pc i).bind fun t j => altR p top pc n j (l ++ [t])
def patL (p : ByteArray) (al : Nat → Res Nd) : Nat → Nat → List Nd → Res Nd
  | 0, _, _ => .fault 0 0
  | n + 1, i, l => (al i).bind fun t j => if isAt p j 124 then patL p al n (j + 1) (l ++ [t]) else .got (someN 4 (l ++ [t])) j
/-- a pattern at i, within which so many groups may stand in one another (64: none is open) -/
def patR (p : ByteArray) : Nat → Nat → Res Nd
  | 0, i => patL p (fun i => altR p false (pieceR p none) (p.size + 2) i []) (p.size + 2) i []
  | n + 1, i => patL p (fun i => altR p (decide (n + 1 = 64)) (pieceR p (some (patR p n))) (p.size + 2) i []) (p.size + 2) i []
def nlAt (p : ByteArray) : Nat → Nat → Option Nat
  | 0, _ => none
  | n + 1, i => if p.size ≤ i then none else if chr p i = 10 then some i else nlAt p n (i + 1)
/-- the places that are told of a tree -/
def placesN (t : Nd) : Nat := if t.isT then min t.U 2048 + 1 else 0
/-- what is answered of a pattern: the tree, the place, the error -/
def parseR (p : ByteArray) : Nd × Nat × Nat :=
  if 1024 < p.size then (zeroN, 1024, 40)
  else match nlAt p (p.size + 1) 0 with
    | some i => (zeroN, i, 41)
    | none => match patR p 64 0 with
      | .fault e i => (zeroN, i, e)
      | .got t _ => if 2048 < placesN t then (zeroN, 0, 48) else (t, 0, 0)
theorem isAt_lt {p : ByteArray} {i c : Nat} (h : isAt p i c = true) : i < p.size := by
  unfold isAt at h
  simp only [Bool.and_eq_true, decide_eq_true_eq] at h
  exact h.1
end Ere
end Go.Proofs.Ytajainmldcnaeaa
