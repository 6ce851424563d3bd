/- The steps of the law on regions (wp_region_steps), one lemma for each kind of operation (the part that asks for no function of octets but Has). -/
import Derived.Test.YtjplgcmfifoefaaDoorGrow
import Derived.Test.YtjplgcmfifoefaaDoorKeep
import Derived.Test.YtjplgcmfifoefaaDoorEdge
namespace Go.Proofs.YtjplgcmfifoefaaDoor
open Go.RowKit Go.Maps Go.WideMaps
set_option linter.unusedVariables false
set_option linter.unusedSimpArgs false

section
variable {P : Program} {ops : Array Oper} {S : Nat → GSpec} {Q : Exit → Act → World → Prop} {i : Nat} {o : Oper} {a : Act} {w : World}

theorem want_none (h : o.guard = none) : Region.wanted o (yielded ops a.tmps) = true := by simp [Region.wanted, h]
theorem want_yes {g : Nat} {b : Bool} {d : Nat} (h : o.guard = some (g, b)) (hd : (ops[g]?).bind (·.dst) = some d) (hv : a.tmps.getD d undef = .bool b) : Region.wanted o (yielded ops a.tmps) = true := by
  have h1 : a.tmps[d]? = some (.bool b) := by
    cases hh : a.tmps[d]? with
    | none => simp [hh] at hv; cases hv
    | some v => simp [hh] at hv; rw [hv]
  simp [Region.wanted, h, yielded, hd, h1]
theorem want_no {g : Nat} {b : Bool} {d : Nat} (h : o.guard = some (g, !b)) (hd : (ops[g]?).bind (·.dst) = some d) (hv : a.tmps.getD d undef = .bool b) : Region.wanted o (yielded ops a.tmps) = false := by
  have h1 : a.tmps[d]? = some (.bool b) := by
    cases hh : a.tmps[d]? with
    | none => simp [hh] at hv; cases hv
    | some v => simp [hh] at hv; rw [hv]
  simp [Region.wanted, h, yielded, hd, h1]
theorem gs_skip (hw : Region.wanted o (yielded ops a.tmps) = false) (hp : (S i).p undef w) : GStep P ops S Q i o a w := by
  unfold GStep; rw [hw]; exact hp
theorem gs_run (hw : Region.wanted o (yielded ops a.tmps) = true) {v : Value} {w' : World} (hr : (execOp a.eval o).run P w = .ok (.value v) w') (hb : Below w.heap.size w w') (hp : (S i).p v w') : GStep P ops S Q i o a w := by
  unfold GStep
  rw [if_pos hw]
  unfold Oper.wp
  rw [hr]
  exact ⟨v, rfl, hb, hp⟩
theorem gs_move (hw : Region.wanted o (yielded ops a.tmps) = true) (x : Operand) (ho : o.op = .move x) (hp : (S i).p (a.eval x) w) : GStep P ops S Q i o a w :=
  gs_run hw (v := a.eval x) (by unfold execOp; rw [ho]; rfl) (Below.refl _ _) hp
theorem gs_pick (hw : Region.wanted o (yielded ops a.tmps) = true) (c x y : Operand) (ho : o.op = .pick c x y) (b : Bool) (hc : a.eval c = .bool b) (hp : (S i).p (if b then a.eval x else a.eval y) w) : GStep P ops S Q i o a w :=
  gs_run hw (v := if b then a.eval x else a.eval y) (by unfold execOp; rw [ho]; simp only [hc]; rfl) (Below.refl _ _) hp
theorem gs_load (hw : Region.wanted o (yielded ops a.tmps) = true) (ty : TypeId) (x : Operand) (ho : o.op = .load ty x) (g : Nat) (hx : a.eval x = .pointer (some ⟨g, 0, none⟩)) (t : TypeId) (cs : Array Value) (hg : Blk w g t cs) (d : TypeDesc)
    (hu : P.underlying ty = some d) (hd : (match d with | .struct _ | .array _ _ => true | _ => false) = true) (hi : (P.info? ty).map (·.size) = some cs.size) (hp : (S i).p (.agg cs) w) : GStep P ops S Q i o a w :=
  gs_run hw (v := .agg cs) (by unfold execOp; simp only [ho, hx, Instr.loadAt, Instr.sureAddr, Sem.run_bind, Sem.run_pure, Result.andThen_ok, run_loadVar_row w g t ty cs (0, 0) d hg hu hd hi]) (Below.refl _ _) hp
theorem gs_call (hw : Region.wanted o (yielded ops a.tmps) = true) (f : FuncId) (xs : Array Operand) (ats : Array TypeId) (ho : o.op = .call { callee := .value (.func f), args := xs, argTypes := ats })
    (hf : ∀ args w, (callFunc f args).run P w = .ok (.enter f args) w) (vs : Array Value) (hv : xs.map a.eval = vs)
    (hc : Calls P f vs w fun e w' => ∃ v, e = .returned v ∧ Below w.heap.size w w' ∧ (S i).p v w') : GStep P ops S Q i o a w := by
  unfold GStep
  rw [if_pos hw]
  unfold Oper.wp
  have hr : (execOp a.eval o).run P w = .ok (.enter f vs) w := by
    have he : execOp a.eval o = callFunc f (#[] ++ xs.map a.eval ++ #[]) := by
      unfold execOp; rw [ho]; rfl
    rw [he, hv]
    simpa using hf vs w
  rw [hr, Oper.upon_enter]
  refine hc.mono ?_
  rintro e w' ⟨v, rfl, hb, hp⟩
  exact ⟨v, rfl, hb, hp⟩
theorem gs_bin (hw : Region.wanted o (yielded ops a.tmps) = true) (op : BinOp) (t t2 : TypeId) (x y : Operand) (ho : o.op = .binOp op t x y t2) (vx vy v : Value) (hx : a.eval x = vx) (hy : a.eval y = vy)
    (hgd : (eqGuard op t x y vx vy).run P w = .ok () w) (hr : (binOp op t vx vy).run P w = .ok v w) (hp : (S i).p v w) : GStep P ops S Q i o a w :=
  gs_run hw (v := v) (by unfold execOp; simp only [ho, hx, hy, Sem.run_bind, hgd, Result.andThen_ok, hr, Sem.run_pure]) (Below.refl _ _) hp
end

section
variable {ops : Array Oper} {S : Nat → GSpec} {Q : Exit → Act → World → Prop} {i : Nat} {o : Oper} {a : Act} {w : World}
end

theorem eqF {p q : BSet} (h : p = q) : Value.bool (!decide (p = q)) = .bool false := by rw [decide_eq_true h]; rfl
theorem eqT {p q : BSet} (h : p = q) : Value.bool (decide (p = q)) = .bool true := by rw [decide_eq_true h]
theorem map1 {a : Act} {x : Operand} {v : Value} (h : a.eval x = v) : #[x].map a.eval = #[v] := by simp [h]
theorem map2 {a : Act} {x y : Operand} {v u : Value} (h : a.eval x = v) (h2 : a.eval y = u) : #[x, y].map a.eval = #[v, u] := by simp [h, h2]
theorem map3 {a : Act} {x y z : Operand} {v u t : Value} (h : a.eval x = v) (h2 : a.eval y = u) (h3 : a.eval z = t) : #[x, y, z].map a.eval = #[v, u, t] := by simp [h, h2, h3]

section
variable {P : Program} {ops : Array Oper} {S : Nat → GSpec} {Q : Exit → Act → World → Prop} {i : Nat} {o : Oper} {a : Act} {w : World}
theorem gs_assign (hw : Region.wanted o (yielded ops a.tmps) = true) (x : Operand) (ho : o.op = .assign x) (hp : (S i).p (a.eval x) w) : GStep P ops S Q i o a w :=
  gs_run hw (v := a.eval x) (by unfold execOp; rw [ho]; rfl) (Below.refl _ _) hp
theorem gs_not_bool (hw : Region.wanted o (yielded ops a.tmps) = true) (t : TypeId) (x : Operand) (ho : o.op = .unOp .not t x) (b : Bool) (hx : a.eval x = .bool b) (hp : (S i).p (.bool (!b)) w) : GStep P ops S Q i o a w :=
  gs_run hw (v := .bool (!b)) (by unfold execOp; simp only [ho, hx]; rfl) (Below.refl _ _) hp
theorem gs_eql_int (hw : Region.wanted o (yielded ops a.tmps) = true) (t t2 : TypeId) (x y : Operand) (ho : o.op = .binOp .eql t x y t2) (k : IntKind) (p q : Int) (hx : a.eval x = .int k p) (hy : a.eval y = .int k q)
    (hp : (S i).p (.bool (p == q)) w) : GStep P ops S Q i o a w :=
  gs_bin hw _ _ _ x y ho _ _ _ hx hy (by rw [eqGuard_at_int]; rfl) (by rw [binOp_eql]; rfl) hp
theorem gs_neq_int (hw : Region.wanted o (yielded ops a.tmps) = true) (t t2 : TypeId) (x y : Operand) (ho : o.op = .binOp .neq t x y t2) (k : IntKind) (p q : Int) (hx : a.eval x = .int k p) (hy : a.eval y = .int k q)
    (hp : (S i).p (.bool (p != q)) w) : GStep P ops S Q i o a w :=
  gs_bin hw _ _ _ x y ho _ _ _ hx hy (by rw [eqGuard_at_int]; rfl) (by rw [binOp_neq]; rfl) hp
theorem gs_add_i64 (hw : Region.wanted o (yielded ops a.tmps) = true) (t t2 : TypeId) (x y : Operand) (ho : o.op = .binOp .add t x y t2) (p q : Int) (hx : a.eval x = .int .i64 p) (hy : a.eval y = .int .i64 q)
    (hr : IntKind.i64.wrap (p + q) = p + q) (hp : (S i).p (.int .i64 (p + q)) w) : GStep P ops S Q i o a w :=
  gs_bin hw _ _ _ x y ho _ _ _ hx hy (by rw [eqGuard_at_int]; rfl) (by rw [binOp_add]; show (Op.intArith .add .i64 p q).run P w = _; simp [Op.intArith, hr]) hp
end
section
variable {P : Program} {ops : Array Oper} {S : Nat → GSpec} {Q : Exit → Act → World → Prop} {i : Nat} {o : Oper} {a : Act} {w : World}
theorem gs_len (hw : Region.wanted o (yielded ops a.tmps) = true) (x : Operand) (t : TypeId) (ho : o.op = .call { callee := .builtin .len, args := #[x], argTypes := #[t] }) (ht : P.underlying t = some (.slice (P.elem t)))
    (A : Option Addr) (n c : Nat) (hx : a.eval x = .slice A n c) (hp : (S i).p (.int .i64 n) w) : GStep P ops S Q i o a w :=
  gs_run hw (v := .int .i64 n) (by
    unfold execOp
    simp only [ho, resolve, invoke, builtin, Sem.run_bind, Sem.run_pure, Result.andThen_ok, List.map_toArray, List.map_cons, List.map_nil, hx, run_len_slice w t o.type A n c ht]
    rfl) (Below.refl _ _) hp
theorem sliced_to (ad : Addr) (m c s : Nat) : sliced (some ad) 0 m c s = .slice (some ad) m c := by
  unfold sliced
  split <;> simp [Addr.add]
theorem gs_slice_to (hw : Region.wanted o (yielded ops a.tmps) = true) (x hi : Operand) (t : TypeId) (ho : o.op = .slice t x none (some hi) none) (ht : P.underlying t = some (.slice (P.elem t))) (size : Nat) (hsz : ∀ w, (sizeOf (P.elem t)).run P w = .ok size w)
    (ad : Addr) (n c m : Nat) (hx : a.eval x = .slice (some ad) n c) (hh : a.eval hi = .int .i64 m) (hm : m ≤ c) (hp : (S i).p (.slice (some ad) m c) w) : GStep P ops S Q i o a w :=
  gs_run hw (v := .slice (some ad) m c) (by
    unfold execOp
    have e := run_slice_h (P := P) w t (some ad) n c ht .i64 (m : Int) (by omega) (by omega)
    simp only [Int.toNat_natCast, hsz, Result.andThen_ok, sliced_to] at e
    simp only [ho, Option.map_none, Option.map_some, hx, hh, Sem.run_bind, run_sliceAt_slice (P := P) w t _ _ _ _ ht, e, Result.andThen_ok, Sem.run_pure]) (Below.refl _ _) hp
theorem gs_index (hw : Region.wanted o (yielded ops a.tmps) = true) (x ix : Operand) (t : TypeId) (ho : o.op = .indexAddr t x ix) (ht : P.underlying t = some (.slice (P.elem t))) (size : Nat) (hsz : ∀ w, (sizeOf (P.elem t)).run P w = .ok size w)
    (b off n c m : Nat) (hx : a.eval x = .slice (some ⟨b, off, none⟩) n c) (hi : a.eval ix = .int .i64 m) (hm : m < n) (hp : (S i).p (.pointer (some ⟨b, off + m * size, none⟩)) w) : GStep P ops S Q i o a w :=
  gs_run hw (v := .pointer (some ⟨b, off + m * size, none⟩)) (by
    unfold execOp
    have e := run_indexAt_slice (P := P) w t ⟨b, off, none⟩ n c .i64 (m : Int) ht
    rw [if_pos ⟨by omega, by omega⟩, hsz] at e
    simp only [Int.toNat_natCast, Result.andThen_ok, addr_add] at e
    simp only [ho, hx, hi, Sem.run_bind, e, Result.andThen_ok, Sem.run_pure]) (Below.refl _ _) hp
end
section
variable {ops : Array Oper} {S : Nat → GSpec} {Q : Exit → Act → World → Prop} {i : Nat} {o : Oper} {a : Act} {w : World}
theorem gs_neq_bool (hw : Region.wanted o (yielded ops a.tmps) = true) (t2 : TypeId) (x y : Operand) (ho : o.op = .binOp .neq 4 x y t2) (p q : Bool) (hx : a.eval x = .bool p) (hy : a.eval y = .bool q)
    (hp : (S i).p (.bool (p != q)) w) : GStep Tryd.prog ops S Q i o a w :=
  gs_bin hw _ _ _ x y ho _ _ _ hx hy (by rfl) (run_neq_bool _ _ p q Tryd.underlying4) hp
end

theorem run_load1 {P : Program} (w : World) (a : Addr) (ty : TypeId) (d : TypeDesc) (v : Value) (hc : w.cell? a = some v) (hu : P.underlying ty = some d) (hd : (match d with | .struct _ | .array _ _ => true | _ => false) = false) :
    (loadVar ty a).run P w = .ok v w := by
  have hagg : (isAgg ty).run P w = .ok false w := by
    unfold isAgg
    rw [Sem.run_bind, run_underlying hu w]
    cases d <;> simp_all
  simp [loadVar, Sem.run_bind, hagg, hc]
section
variable {P : Program} {ops : Array Oper} {S : Nat → GSpec} {Q : Exit → Act → World → Prop} {i : Nat} {o : Oper} {a : Act} {w : World}
theorem gs_field (hw : Region.wanted o (yielded ops a.tmps) = true) (t : TypeId) (x : Operand) (f : Nat) (ho : o.op = .fieldAddr t x f) (b off off' : Nat) (hx : a.eval x = .pointer (some ⟨b, off, none⟩))
    (hr : ∀ w, (Instr.fieldAt t (.pointer (some ⟨b, off, none⟩)) f).run P w = .ok (.pointer (some ⟨b, off', none⟩)) w) (hp : (S i).p (.pointer (some ⟨b, off', none⟩)) w) : GStep P ops S Q i o a w :=
  gs_run hw (v := .pointer (some ⟨b, off', none⟩)) (by unfold execOp; simp only [ho, hx, Sem.run_bind, hr, Result.andThen_ok, Sem.run_pure]) (Below.refl _ _) hp
theorem gs_load1 (hw : Region.wanted o (yielded ops a.tmps) = true) (ty : TypeId) (x : Operand) (ho : o.op = .load ty x) (b off : Nat) (hx : a.eval x = .pointer (some ⟨b, off, none⟩)) (v : Value) (hc : w.cell? ⟨b, off, none⟩ = some v)
    (d : TypeDesc) (hu : P.underlying ty = some d) (hd : (match d with | .struct _ | .array _ _ => true | _ => false) = false) (hp : (S i).p v w) : GStep P ops S Q i o a w :=
  gs_run hw (v := v) (by unfold execOp; simp only [ho, hx, Instr.loadAt, Instr.sureAddr, Sem.run_bind, Sem.run_pure, Result.andThen_ok, run_load1 w _ ty d v hc hu hd]) (Below.refl _ _) hp
end
section
variable {ops : Array Oper} {S : Nat → GSpec} {Q : Exit → Act → World → Prop} {i : Nat} {o : Oper} {a : Act} {w : World}
end

section
variable {P : Program} {ops : Array Oper} {S : Nat → GSpec} {Q : Exit → Act → World → Prop} {i : Nat} {o : Oper} {a : Act} {w : World}
theorem gs_nil (hw : Region.wanted o (yielded ops a.tmps) = true) (x : Operand) (ho : o.op = .nilCheck x) (p : Addr) (hx : a.eval x = .pointer (some p)) (hp : (S i).p (.pointer (some p)) w) : GStep P ops S Q i o a w :=
  gs_run hw (v := .pointer (some p)) (by unfold execOp; simp only [ho, hx]; rfl) (Below.refl _ _) hp
theorem gs_or_u32 (hw : Region.wanted o (yielded ops a.tmps) = true) (t t2 : TypeId) (x y : Operand) (ho : o.op = .binOp .or t x y t2) (p q : Int) (hx : a.eval x = .int .u32 p) (hy : a.eval y = .int .u32 q) (r : Int)
    (hr : bits .or .u32 p q = r) (hp : (S i).p (.int .u32 r) w) : GStep P ops S Q i o a w :=
  gs_bin hw _ _ _ x y ho _ _ _ hx hy (by rw [eqGuard_at_int]; rfl) (by rw [← hr]; rfl) hp
end

/-- a value that is there under a condition -/
def vF : Bool → Value → Value
  | true, v => v
  | false, _ => undef
theorem vF_true (v : Value) : vF true v = v := rfl
theorem vF_false (v : Value) : vF false v = undef := rfl
theorem vF_no {c : Bool} (e : c = false) (v : Value) : undef = vF c v := by rw [e]; rfl
theorem vF_yes {c : Bool} (e : c = true) (v : Value) : vF c v = v := by rw [e]; rfl
theorem vF_and {c b : Bool} (h1 : c = true) (h2 : b = true) (v : Value) : vF (c && b) v = v := by rw [h1, h2]; rfl
theorem off_not {k : Bool} (e : (true && (k == false)) = false) : (!k) = false := by cases k <;> simp_all
theorem off_and {c b : Bool} (e : (c && (b == true)) = false) : (c && b) = false := by cases c <;> cases b <;> simp_all
theorem on_not {k : Bool} (e : k = false) : (!k) = true := by rw [e]; rfl
/-- 'a && b' and 'a || b', as they are picked -/
theorem pick_and {a b : Bool} {v : Value} (h : v = vF a (.bool b)) : (if a = true then v else .bool false) = .bool (a && b) := by cases a <;> simp_all [vF]
theorem pick_or {a b : Bool} {v : Value} (h : v = vF (!a) (.bool b)) : (if a = true then .bool true else v) = .bool (a || b) := by cases a <;> simp_all [vF]
section
variable {P : Program} {ops : Array Oper} {S : Nat → GSpec} {Q : Exit → Act → World → Prop} {i : Nat} {o : Oper} {a : Act} {w : World}
/-- a guarded operation: both ways -/
theorem gs_guard {g d : Nat} {b c b' : Bool} (ho : o.guard = some (g, b)) (hd : (ops[g]?).bind (·.dst) = some d) (hv : a.tmps.getD d undef = vF c (.bool b'))
    (h1 : c = true → b' = b → Region.wanted o (yielded ops a.tmps) = true → GStep P ops S Q i o a w) (h2 : (c && (b' == b)) = false → (S i).p undef w) : GStep P ops S Q i o a w := by
  cases c
  · refine gs_skip ?_ (h2 rfl)
    rw [vF_false] at hv
    have h1 : a.tmps[d]? ≠ some (.bool b) := by
      intro hh
      simp [hh] at hv
      cases hv
    simp only [Region.wanted, ho, yielded, hd, Option.bind_some]
    rcases hh : a.tmps[d]? with _ | v
    · simp
    · have hv2 : v = undef := by simpa [hh] using hv
      rw [hv2]
      rfl
  · rw [vF_true] at hv
    by_cases e : b' = b
    · exact h1 rfl e (want_yes ho hd (e ▸ hv))
    · have e2 : b = !b' := by cases b <;> cases b' <;> simp_all
      refine gs_skip (want_no (b := b') ?_ hd hv) (h2 (by simp [e]))
      rw [ho, e2]
end

section
variable {P : Program} {ops : Array Oper} {S : Nat → GSpec} {Q : Exit → Act → World → Prop} {i : Nat} {o : Oper} {a : Act} {w : World}
theorem gs_geq_int (hw : Region.wanted o (yielded ops a.tmps) = true) (t t2 : TypeId) (x y : Operand) (ho : o.op = .binOp .geq t x y t2) (k : IntKind) (p q : Int) (hx : a.eval x = .int k p) (hy : a.eval y = .int k q)
    (hp : (S i).p (.bool (decide (q ≤ p))) w) : GStep P ops S Q i o a w :=
  gs_bin hw _ _ _ x y ho _ _ _ hx hy (by rw [eqGuard_at_int]; rfl) (by rw [binOp_geq]; rfl) hp
theorem gs_leq_int (hw : Region.wanted o (yielded ops a.tmps) = true) (t t2 : TypeId) (x y : Operand) (ho : o.op = .binOp .leq t x y t2) (k : IntKind) (p q : Int) (hx : a.eval x = .int k p) (hy : a.eval y = .int k q)
    (hp : (S i).p (.bool (decide (p ≤ q))) w) : GStep P ops S Q i o a w :=
  gs_bin hw _ _ _ x y ho _ _ _ hx hy (by rw [eqGuard_at_int]; rfl) (by rw [binOp_leq]; rfl) hp
theorem gs_sub_nat (hw : Region.wanted o (yielded ops a.tmps) = true) (t t2 : TypeId) (x y : Operand) (ho : o.op = .binOp .sub t x y t2) (p q r : Nat) (hx : a.eval x = .int .i64 p) (hy : a.eval y = .int .i64 q) (hr : r + q = p) (hp64 : p < 9223372036854775808)
    (hp : (S i).p (.int .i64 (r : Nat)) w) : GStep P ops S Q i o a w :=
  gs_bin hw _ _ _ x y ho _ _ _ hx hy (by rw [eqGuard_at_int]; rfl) (by
    have e : (p : Int) - q = r := by omega
    have e2 : IntKind.i64.wrap (r : Int) = r := by rw [IntKind.wrap_i64]; omega
    rw [binOp_sub]
    simp [Op.intArith, e, e2]) hp
end
theorem under_ints : Tryd.prog.underlying 22 = some (.slice (Tryd.prog.elem 22)) := by kernel_rfl
theorem size_intE (w : World) : (sizeOf (Tryd.prog.elem 22)).run Tryd.prog w = .ok 1 w := by kernel_rfl
theorem and_l {a b : Bool} (h : (a && b) = true) : a = true := by cases a <;> simp_all
theorem on_g {c x b : Bool} (h1 : c = true) (h2 : x = b) : (c && (x == b)) = true := by rw [h1, h2]; simp
theorem pick_or2 {c x y : Bool} {v : Value} (hc : c = true) (h : v = vF (c && (x == false)) (.bool y)) : (if x = true then .bool true else v) = .bool (x || y) := by
  subst hc
  cases x
  · exact h
  · rfl
theorem pick_and2 {c x y : Bool} {v : Value} (hc : c = true) (h : v = vF (c && (x == true)) (.bool y)) : (if x = true then v else .bool false) = .bool (x && y) := by
  subst hc
  cases x
  · rfl
  · exact h
section
variable {P : Program} {ops : Array Oper} {S : Nat → GSpec} {Q : Exit → Act → World → Prop} {i : Nat} {o : Oper} {a : Act} {w : World}
theorem gs_lss_int (hw : Region.wanted o (yielded ops a.tmps) = true) (t t2 : TypeId) (x y : Operand) (ho : o.op = .binOp .lss t x y t2) (k : IntKind) (p q : Int) (hx : a.eval x = .int k p) (hy : a.eval y = .int k q)
    (hp : (S i).p (.bool (decide (p < q))) w) : GStep P ops S Q i o a w :=
  gs_bin hw _ _ _ x y ho _ _ _ hx hy (by rw [eqGuard_at_int]; rfl) (by rw [binOp_lss]; rfl) hp
theorem gs_gtr_int (hw : Region.wanted o (yielded ops a.tmps) = true) (t t2 : TypeId) (x y : Operand) (ho : o.op = .binOp .gtr t x y t2) (k : IntKind) (p q : Int) (hx : a.eval x = .int k p) (hy : a.eval y = .int k q)
    (hp : (S i).p (.bool (decide (q < p))) w) : GStep P ops S Q i o a w :=
  gs_bin hw _ _ _ x y ho _ _ _ hx hy (by rw [eqGuard_at_int]; rfl) (by rw [binOp_gtr]; rfl) hp
/-- a closure's call -/
theorem gs_callv (hw : Region.wanted o (yielded ops a.tmps) = true) (f : FuncId) (c : Operand) (cap : Array Value) (xs : Array Operand) (ats : Array TypeId) (ho : o.op = .call { callee := .value c, args := xs, argTypes := ats })
    (he : a.eval c = .func (.func f) #[] cap) (hf : ∀ args w, (callFunc f args).run P w = .ok (.enter f args) w) (vs : Array Value) (hv : xs.map a.eval ++ cap = vs)
    (hc : Calls P f vs w fun e w' => ∃ v, e = .returned v ∧ Below w.heap.size w w' ∧ (S i).p v w') : GStep P ops S Q i o a w := by
  unfold GStep
  rw [if_pos hw]
  unfold Oper.wp
  have hr : (execOp a.eval o).run P w = .ok (.enter f vs) w := by
    have he2 : execOp a.eval o = callFunc f (#[] ++ xs.map a.eval ++ cap) := by
      unfold execOp; rw [ho]; simp only [resolve, he]; rfl
    rw [he2, Array.empty_append, hv]
    exact hf vs w
  rw [hr, Oper.upon_enter]
  refine hc.mono ?_
  rintro e w' ⟨v, rfl, hb, hp⟩
  exact ⟨v, rfl, hb, hp⟩
end
section
variable {ops : Array Oper} {S : Nat → GSpec} {Q : Exit → Act → World → Prop} {i : Nat} {o : Oper} {a : Act} {w : World}
end
theorem map4 {a : Act} {x y z s : Operand} {v u t r : Value} (h : a.eval x = v) (h2 : a.eval y = u) (h3 : a.eval z = t) (h4 : a.eval s = r) : #[x, y, z, s].map a.eval = #[v, u, t, r] := by simp [h, h2, h3, h4]
/-- a call, in a list -/
theorem wl_call {P : Program} {ops : Array Oper} {rest : List Oper} {o : Oper} {a : Act} {w : World} {Q : Exit → Act → World → Prop} (hgd : o.guard = none) (f : FuncId) (xs : Array Operand) (ats : Array TypeId) (ho : o.op = .call { callee := .value (.func f), args := xs, argTypes := ats })
    (hf : ∀ args w, (callFunc f args).run P w = .ok (.enter f args) w) (vs : Array Value) (hv : xs.map a.eval = vs)
    (hc : Calls P f vs w fun e w' => ∃ v, e = .returned v ∧ wpList P ops Q rest (a.put o.dst v) w') : wpList P ops Q (o :: rest) a w := by
  refine wpList_plain hgd fun K hK => ?_
  unfold Oper.wp
  have hr : (execOp a.eval o).run P w = .ok (.enter f vs) w := by
    have he : execOp a.eval o = callFunc f (#[] ++ xs.map a.eval ++ #[]) := by
      unfold execOp; rw [ho]; rfl
    rw [he, hv]
    simpa using hf vs w
  rw [hr, Oper.upon_enter]
  refine hc.mono ?_
  rintro e w' ⟨v, rfl, h⟩
  exact hK _ _ h
theorem wpList_w {P : Program} {ops : Array Oper} {rest : List Oper} {o : Oper} {a : Act} {w : World} {Q : Exit → Act → World → Prop} (hw : Region.wanted o (yielded ops a.tmps) = true) (h : wpList P ops Q ({ o with guard := none } :: rest) a w) : wpList P ops Q (o :: rest) a w := by
  unfold wpList at h ⊢
  rw [if_pos (by simp [Region.wanted])] at h
  rw [if_pos hw]
  exact h
theorem map1c {a : Act} {x : Operand} {v : Value} (p : Value) (h : a.eval x = v) : #[x].map a.eval ++ #[p] = #[v, p] := by simp [h]
/-- a goal at which a walk stands still -/
structure Parked (p : Prop) : Prop where
  h : p
theorem park {p : Prop} (h : Parked p) : p := h.h
theorem info_int3 : (Tryd.prog.info? 3).map (fun i => (i.zero, i.size, i.bytes)) = some (some (.int .i64 0), 1, 8) := by kernel_rfl
theorem info_ints1 : (Tryd.prog.info? 22).map (·.size) = some 1 := by kernel_rfl
end Go.Proofs.YtjplgcmfifoefaaDoor
