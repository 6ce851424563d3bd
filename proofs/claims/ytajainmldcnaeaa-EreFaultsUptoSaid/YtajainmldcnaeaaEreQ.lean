/- Steps of ere's regions that draw. No condition beyond those named in each lemma. -/
import Derived.Test.YtajainmldcnaeaaEreK
import Derived.Test.YtajainmldcnaeaaGrowR
namespace Go.Proofs.Ytajainmldcnaeaa
open Go.RowKit Go.Maps
set_option linter.unusedVariables false
set_option linter.unusedSimpArgs false

theorem field_reader_0 (b off : Nat) (w : World) : (Instr.fieldAt 76 (.pointer (some ⟨b, off, none⟩)) 0).run Try.prog w = .ok (.pointer (some ⟨b, off, none⟩)) w := by kernel_rfl
theorem field_reader_1 (b off : Nat) (w : World) : (Instr.fieldAt 76 (.pointer (some ⟨b, off, none⟩)) 1).run Try.prog w = .ok (.pointer (some ⟨b, off + 1, none⟩)) w := by kernel_rfl
theorem gs_add_nat {P : Program} {ops : Array Oper} {S : Nat → GSpec} {Q : Exit → Act → World → Prop} {i : Nat} {o : Oper} {a : Act} {w : World} (hw : Region.wanted o (yielded ops a.tmps) = true) (t t2 : TypeId) (x y : Operand) (ho : o.op = .binOp .add t x y t2) (p q r : Nat) (hx : a.eval x = .int .i64 p) (hy : a.eval y = .int .i64 q) (hr : p + q = r) (hr64 : r < 9223372036854775808)
    (hp : (S i).p (.int .i64 (r : Nat)) w) : GStep P ops S Q i o a w :=
  gs_bin hw _ _ _ x y ho _ _ _ hx hy (by rw [eqGuard_at_int]; rfl) (by
    have e : (p : Int) + q = r := by omega
    have e2 : IntKind.i64.wrap (r : Int) = r := by rw [IntKind.wrap_i64]; omega
    rw [binOp_add]
    simp [Op.intArith, e, e2]) hp
theorem gs_len_str {ops : Array Oper} {S : Nat → GSpec} {Q : Exit → Act → World → Prop} {i : Nat} {o : Oper} {a : Act} {w : World} (hw : Region.wanted o (yielded ops a.tmps) = true) (x : Operand) (ho : o.op = .call { callee := .builtin .len, args := #[x], argTypes := #[9] })
    (p : ByteArray) (hx : a.eval x = .string p) (hp : (S i).p (.int .i64 (p.size : Int)) w) : GStep Try.prog ops S Q i o a w :=
  gs_run hw (v := .int .i64 (p.size : Int)) (w' := w) (by
    unfold execOp
    simp only [ho, resolve, invoke, builtin, Sem.run_bind, Sem.run_pure, Result.andThen_ok, List.map_toArray, List.map_cons, List.map_nil, hx, run_len_string w 9 o.type p Try.underlying9]
    rfl) (Below.refl _ _) hp
/-- a call that turns one block, or ends in a panic -/
theorem GStepR.call_or {rw : Option Nat} {i0 : Nat} {P : Program} {ops : Array Oper} {S : Nat → GSpec} {Q : Exit → Act → World → Prop} {o : Oper} {a : Act} {w : World} (hw : Region.wanted o (yielded ops a.tmps) = true) (f : FuncId) (xs : Array Operand) (ats : Array TypeId) (ho : o.op = .call { callee := .value (.func f), args := xs, argTypes := ats })
    (hf : ∀ args w, (callFunc f args).run P w = .ok (.enter f args) w) (vs : Array Value) (hv : xs.map a.eval = vs)
    (hc : Calls P f vs w fun e w' => (∃ v, e = .returned v ∧ w.grownBy w' rw ∧ (S i0).p v w') ∨ ∃ ch, e = .panicked ch ∧ Q (.panic ch) a w') : GStepR rw i0 P ops S Q i0 o a w := by
  unfold GStepR
  rw [if_pos hw]
  unfold Oper.wp
  have hr : (execOp a.eval o).run P w = .ok (.enter f vs) w := by
    have he : execOp a.eval o = callFunc f (#[] ++ xs.map a.eval ++ #[]) := by
      unfold execOp; rw [ho]; rfl
    rw [he, hv]
    simpa using hf vs w
  rw [hr, Oper.upon_enter]
  refine hc.mono ?_
  rintro e w' (⟨v, rfl, hb, hp⟩ | ⟨ch, rfl, hq⟩)
  · exact ⟨v, rfl, ⟨hb, fun h => (h rfl).elim⟩, hp⟩
  · exact hq
theorem Turn.one {g : Nat} {w w' : World} (h : Turn g (g + 1) w w') : w.grownBy w' (some g) := ⟨h.os, h.tape, h.output, h.size, fun k hk hn => h.block k hk (by
  rcases Nat.lt_trichotomy k g with h1 | h1 | h1
  · exact .inl h1
  · exact absurd (by rw [h1]) hn
  · exact .inr h1)⟩
theorem Turn.of_one {g : Nat} {w w' : World} (h : w.grownBy w' (some g)) : Turn g (g + 1) w w' := ⟨h.os, h.tape, h.output, h.size, fun k hk hn => h.block k hk (fun e => by injection e with e; omega)⟩
/-- what a reader's item hands back, and where the reader stands then -/
def rdS (g : Nat) (p : ByteArray) (y : Value) (k : Nat) (r : Prop) : GSpec := ⟨fun v w => r → v = y ∧ Blk w g 76 (rdC p k), fun v w w' h hB hr => ⟨(h hr).1, blk_then (h hr).2 hB⟩⟩
theorem enter_item (args : Array Value) (w : World) : (callFunc 90 args).run Try.prog w = .ok (.enter 90 args) w := by kernel_rfl
/-- an operation that never answers -/
def noS : GSpec := ⟨fun _ _ => False, fun _ _ _ h _ => h⟩
theorem wl_sets2 {ops : Array Oper} {rest : List Oper} {o : Oper} {a : Act} {w : World} {Q : Exit → Act → World → Prop} (hgd : o.guard = none) (x y : Operand) (ho : o.op = .buildSlice 123 2 #[(0, x), (1, y)]) (p q : BSet) (hx : a.eval x = .agg (setC p)) (hy : a.eval y = .agg (setC q))
    (h : wpList Try.prog ops Q rest (a.put o.dst (.slice (some ⟨w.heap.size, 0, none⟩) 2 2)) (w.alloc (.cells (setC p ++ setC q) 24))) : wpList Try.prog ops Q (o :: rest) a w :=
  wpList_plain hgd fun _ hK => by
    have e : (#[(0, x), (1, y)] : Array (Nat × Operand)).map (fun (i, x) => (i, a.eval x)) = #[(0, .agg (setC p)), (1, .agg (setC q))] := by simp [hx, hy]
    unfold Oper.wp execOp
    simp only [ho, e, Sem.run_bind, build_sets2, Result.andThen_ok, Sem.run_pure]
    exact hK _ _ h
theorem ofB_one (b : UInt8) : ofB [b] = bit b.toNat := by simp [ofB]
theorem rd_cell {g : Nat} {p : ByteArray} {i : Nat} {w w' : World} (h : Blk w g 76 (rdC p i)) (hB : Below w.heap.size w w') : w'.cell? ⟨g, 0, none⟩ = some (.string p) ∧ w'.cell? ⟨g, 0 + 1, none⟩ = some (.int .i64 (i : Int)) := ⟨(blk_then h hB).cellv rfl, (blk_then h hB).cellv rfl⟩
end Go.Proofs.Ytajainmldcnaeaa
