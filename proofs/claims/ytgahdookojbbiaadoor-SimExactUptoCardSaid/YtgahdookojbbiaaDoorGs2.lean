/- Steps under guards, for the printed regions (gen/gsteps.py). No condition beyond those named in each lemma. -/
import Derived.Test.YtgahdookojbbiaaDoorSimQ
import Derived.Deep.CutRange
import Derived.Test.YtgahdookojbbiaaDoorRefA
namespace Go.Proofs.YtgahdookojbbiaaDoor
open Go.RowKit
set_option linter.unusedVariables false
set_option linter.unusedSimpArgs false

section
variable {P : Program} {ops : Array Oper} {S : Nat → GSpec} {Q : Exit → Act → World → Prop} {i : Nat} {o : Oper} {a : Act} {w : World}
theorem gs_geq_int (hw : Region.wanted o (yielded ops a.tmps) = true) (t t2 : TypeId) (x y : Operand) (ho : o.op = .binOp .geq t x y t2) (k : IntKind) (p q : Int) (hx : a.eval x = .int k p) (hy : a.eval y = .int k q)
    (hp : (S i).p (.bool (decide (q ≤ p))) w) : GStep P ops S Q i o a w :=
  gs_bin hw _ _ _ x y ho _ _ _ hx hy (by rw [eqGuard_at_int]; rfl) (by rw [binOp_geq]; rfl) hp
theorem gs_leq_int (hw : Region.wanted o (yielded ops a.tmps) = true) (t t2 : TypeId) (x y : Operand) (ho : o.op = .binOp .leq t x y t2) (k : IntKind) (p q : Int) (hx : a.eval x = .int k p) (hy : a.eval y = .int k q)
    (hp : (S i).p (.bool (decide (p ≤ q))) w) : GStep P ops S Q i o a w :=
  gs_bin hw _ _ _ x y ho _ _ _ hx hy (by rw [eqGuard_at_int]; rfl) (by rw [binOp_leq]; rfl) hp
theorem gs_sub_nat (hw : Region.wanted o (yielded ops a.tmps) = true) (t t2 : TypeId) (x y : Operand) (ho : o.op = .binOp .sub t x y t2) (p q r : Nat) (hx : a.eval x = .int .i64 p) (hy : a.eval y = .int .i64 q) (hr : r + q = p) (hp64 : p < 9223372036854775808)
    (hp : (S i).p (.int .i64 (r : Nat)) w) : GStep P ops S Q i o a w :=
  gs_bin hw _ _ _ x y ho _ _ _ hx hy (by rw [eqGuard_at_int]; rfl) (by
    have e : (p : Int) - q = r := by omega
    have e2 : IntKind.i64.wrap (r : Int) = r := by rw [IntKind.wrap_i64]; omega
    rw [binOp_sub]
    simp [Op.intArith, e, e2]) hp
end
theorem under_ints : Tryd.prog.underlying 54 = some (.slice (Tryd.prog.elem 54)) := by kernel_rfl
theorem size_intE (w : World) : (sizeOf (Tryd.prog.elem 54)).run Tryd.prog w = .ok 1 w := by kernel_rfl
/-- a store of one cell into a row of the call's own -/
theorem wl_store_rule {base : Nat} {w : World} {ys : List Nat} {ops : Array Oper} {rest : List Oper} {o : Oper} {a : Act} {Q : Exit → Act → World → Prop} (hgd : o.guard = none) (x y : Operand) (ho : o.op = .store 28 x y)
    (g k n cap : Nat) (hx : a.eval x = .pointer (some ⟨g, k, none⟩)) (z : Nat) (hy : a.eval y = .int .u32 (z : Int)) (hown : Own w base 28 1 encR (.slice (some ⟨g, 0, none⟩) n cap) ys) (hk : k < ys.length)
    (h : ∀ w', Own w' base 28 1 encR (.slice (some ⟨g, 0, none⟩) n cap) (ys.set k z) → w.grownBy w' (some g) → wpList Tryd.prog ops Q rest (a.put o.dst undef) w') : wpList Tryd.prog ops Q (o :: rest) a w := by
  have hcell : w.cell? ⟨g, k, none⟩ = some (.int .u32 (ys[k] : Nat)) := by
    have := hown.row encR_size k hk 0 _ rfl
    rw [Nat.mul_one] at this
    exact this
  have hfr := hown.frozen k
  have hrun : (storeVar 28 ⟨g, k, none⟩ (.int .u32 (z : Int))).run Tryd.prog w = .ok () (w.setCell ⟨g, k, none⟩ (.int .u32 (z : Int))) := by
    have hsz := info_u32
    cases hq : Tryd.prog.info? 28 with
    | none => rw [hq] at hsz; cases hsz
    | some j =>
      have hs : j.size = 1 := by rw [hq] at hsz; simpa using hsz
      have e := run_store Tryd.prog w ⟨g, k, none⟩ (.int .u32 (z : Int)) .plain rfl
      simp only [hcell, hfr, Bool.false_eq_true, if_false] at e
      have e0 : (⟨g, k, none⟩ : Addr).add 0 = ⟨g, k, none⟩ := rfl
      simp [storeVar, sizeOf, typeInfo, hq, hs, Value.cells, storeCells, e0, e]
  refine wpList_plain hgd fun _ hK => ?_
  unfold Oper.wp execOp
  simp only [ho, hx, hy, Instr.storeAt, Instr.sureAddr, Sem.run_bind, Sem.run_pure, Result.andThen_ok, hrun]
  have o1 := hown.setCell (i := k) (q := 0) (y' := z) (u := .int .u32 (z : Int)) encR_size hk (by decide) rfl
  rw [Nat.mul_one, Nat.add_zero] at o1
  exact hK _ _ (h _ o1 (only_setCell (only_refl _ _) (.inl rfl) _))
theorem wl_store_nfa {ops : Array Oper} {rest : List Oper} {o : Oper} {a : Act} {w : World} {Q : Exit → Act → World → Prop} (hgd : o.guard = none) (x y : Operand) (ho : o.op = .store 25 x y)
    (g : Nat) (s : Int) (A : Option Addr) (n c : Nat) (B : Option Addr) (m d : Nat) (hx : a.eval x = .pointer (some ⟨g, 0, none⟩)) (hy : a.eval y = .agg (nfaC s A n c B m d))
    (s0 : Int) (A0 : Option Addr) (n0 c0 : Nat) (B0 : Option Addr) (m0 d0 : Nat) (hb : Blk w g 25 (nfaC s0 A0 n0 c0 B0 m0 d0))
    (h : ∀ w', Blk w' g 25 (nfaC s A n c B m d) → w.grownBy w' (some g) → wpList Tryd.prog ops Q rest (a.put o.dst undef) w') : wpList Tryd.prog ops Q (o :: rest) a w :=
  wpList_store_row hgd _ x y ho g _ hx hy _ _ hb (info_nfa1.trans rfl) rfl (by simp [nfaC, Value.oneCell']) (h _ (hb.setRow_same _) (only_setRow (only_refl _ _) _))
theorem info_edges1 : (Tryd.prog.info? 22).map (·.size) = some 1 := by kernel_rfl
theorem wl_one {ops : Array Oper} {rest : List Oper} {o : Oper} {a : Act} {w : World} {Q : Exit → Act → World → Prop} (hgd : o.guard = none) (x : Operand) (ho : o.op = .buildSlice 22 1 #[(0, x)]) (d : Edg) (hx : a.eval x = .agg (edgC d))
    (h : wpList Tryd.prog ops Q rest (a.put o.dst (.slice (some ⟨w.heap.size, 0, none⟩) 1 1)) (w.alloc (.cells (edgC d) 53))) : wpList Tryd.prog ops Q (o :: rest) a w := by
  refine wpList_plain hgd fun _ hK => ?_
  unfold Oper.wp execOp
  simp only [ho, List.map_toArray, List.map_cons, List.map_nil, hx, Sem.run_bind, run_edge1, Result.andThen_ok, Sem.run_pure]
  exact hK _ _ h
theorem WalkOk.other2 {lo nb gw gm N lo' nb' gw' gm' N' : Nat} {W W' : World} {E E' : List Edg} {R R' : List Nat} {k k' : Wk} (h : WalkOk lo nb W gw gm N E R k) (h' : WalkOk lo' nb' W gw' gm' N' E' R' k') (hg : W.grownBy W' (some gw')) (hr : gw' < lo ∨ nb ≤ gw') (hne : gw' ≠ gw) : WalkOk lo nb W' gw gm N E R k := by
  obtain ⟨_, _, _, _, g, c, _, h6, _⟩ := h'
  exact h.other hg hr hne h6

theorem and_l {a b : Bool} (h : (a && b) = true) : a = true := by cases a <;> simp_all
theorem on_g {c x b : Bool} (h1 : c = true) (h2 : x = b) : (c && (x == b)) = true := by rw [h1, h2]; simp
theorem pick_or2 {c x y : Bool} {v : Value} (hc : c = true) (h : v = vF (c && (x == false)) (.bool y)) : (if x = true then .bool true else v) = .bool (x || y) := by
  subst hc
  cases x
  · exact h
  · rfl
theorem pick_and2 {c x y : Bool} {v : Value} (hc : c = true) (h : v = vF (c && (x == true)) (.bool y)) : (if x = true then v else .bool false) = .bool (x && y) := by
  subst hc
  cases x
  · rfl
  · exact h
theorem field_rwalk_0 (b off : Nat) (w : World) : (Instr.fieldAt 61 (.pointer (some ⟨b, off, none⟩)) 0).run Tryd.prog w = .ok (.pointer (some ⟨b, off, none⟩)) w := by kernel_rfl
theorem field_rwalk_1 (b off : Nat) (w : World) : (Instr.fieldAt 61 (.pointer (some ⟨b, off, none⟩)) 1).run Tryd.prog w = .ok (.pointer (some ⟨b, off + 3, none⟩)) w := by kernel_rfl
theorem field_rwalk_2 (b off : Nat) (w : World) : (Instr.fieldAt 61 (.pointer (some ⟨b, off, none⟩)) 2).run Tryd.prog w = .ok (.pointer (some ⟨b, off + 4, none⟩)) w := by kernel_rfl
theorem field_rwalk_3 (b off : Nat) (w : World) : (Instr.fieldAt 61 (.pointer (some ⟨b, off, none⟩)) 3).run Tryd.prog w = .ok (.pointer (some ⟨b, off + 5, none⟩)) w := by kernel_rfl
end Go.Proofs.YtgahdookojbbiaaDoor
