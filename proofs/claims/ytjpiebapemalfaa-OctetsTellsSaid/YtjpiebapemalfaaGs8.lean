/- Further operations for regions that draw their order: Span, bytes of constants; a result of a set and a number. -/
import Derived.Test.YtjpiebapemalfaaGs4
namespace Go.Proofs.Ytjpiebapemalfaa
open Go.RowKit
set_option linter.unusedVariables false
set_option linter.unusedSimpArgs false

theorem enter_span (args : Array Value) (w : World) : (callFunc 32 args).run Try.prog w = .ok (.enter 32 args) w := by kernel_rfl
theorem build_byte2 (b c : Int) (w : World) : (Instr.buildSlice 58 2 #[(0, .int .u8 b), (1, .int .u8 c)]).run Try.prog w = .ok (.slice (some ⟨w.heap.size, 0, none⟩) 2 2) (w.alloc (.cells #[.int .u8 b, .int .u8 c] 5)) := by kernel_rfl
theorem bytes_of_two {w : World} {g : Nat} {t : TypeId} (b c : UInt8) (h : Blk w g t #[.int .u8 b.toNat, .int .u8 c.toNat]) : SliceOf w w.heap.size 1 enc8 (some ⟨g, 0, none⟩) [b, c] := by
  have := bytes_of_blk (l := [b, c]) (w := w) (g := g) (t := t) h
  exact this
section
variable {ops : Array Oper} {S : Nat → GSpec} {Q : Exit → Act → World → Prop} {i : Nat} {o : Oper} {a : Act} {w : World}
theorem gs_span (hw : Region.wanted o (yielded ops a.tmps) = true) (x y : Operand) (ats : Array TypeId) (ho : o.op = .call { callee := .value (.func 32), args := #[x, y], argTypes := ats }) (p q : Nat)
    (hx : a.eval x = .int .u8 (p : Int)) (hy : a.eval y = .int .u8 (q : Int)) (hp0 : p < 256) (hq0 : q < 256) (hp : ∀ w', (S i).p (.agg (setC (spanB p q))) w') : GStep Try.prog ops S Q i o a w :=
  gs_call hw _ _ _ ho enter_span _ (map2 hx hy) ((span_any p q w hp0 hq0).mono fun e w' ⟨he, hb⟩ => ⟨_, he, hb, hp _⟩)
theorem gs_byte2 (hw : Region.wanted o (yielded ops a.tmps) = true) (x y : Operand) (ho : o.op = .buildSlice 58 2 #[(0, x), (1, y)]) (b c : UInt8) (hx : a.eval x = .int .u8 b.toNat) (hy : a.eval y = .int .u8 c.toNat)
    (hp : ∀ v w', (bytesS [b, c]).p v w' → (S i).p v w') : GStep Try.prog ops S Q i o a w :=
  gs_run hw (v := .slice (some ⟨w.heap.size, 0, none⟩) 2 2) (w' := w.alloc (.cells #[.int .u8 b.toNat, .int .u8 c.toNat] 5))
    (by
      have e : (#[(0, x), (1, y)] : Array (Nat × Operand)).map (fun (i, x) => (i, a.eval x)) = #[(0, .int .u8 b.toNat), (1, .int .u8 c.toNat)] := by simp [hx, hy]
      unfold execOp; simp only [ho, e, Sem.run_bind, build_byte2, Result.andThen_ok, Sem.run_pure])
    (below_alloc (Below.refl _ _) _) (hp _ _ ⟨_, _, _, rfl, rfl, bytes_of_two b c (Blk.new w 5 #[.int .u8 b.toNat, .int .u8 c.toNat])⟩)
theorem ret_set2 {fn : Func} {p u : Tmp} {g : Nat} {x : BSet} (hres : fn.results = #[.cell p 31, .tmp u])
    (hp : a.tmps.getD p undef = .pointer (some ⟨g, 0, none⟩)) (hb : Blk w g 31 (setC x))
    (hdf : a.defers = []) {R : Ending → World → Prop} (hR : R (.returned (.tuple #[.agg (setC x), a.tmps.getD u undef])) w) : bodyPost Try.prog fn R .ret a w :=
  ret_cell2 hres _ hp hb Try.underlying31 rfl (info_set.trans (by rw [setC_size])) hdf hR
end

end Go.Proofs.Ytjpiebapemalfaa
