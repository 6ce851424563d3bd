/- Further operations for regions that draw their order: bytes. -/
import Derived.Test.YtjpiebapemalfaaGs3
namespace Go.Proofs.Ytjpiebapemalfaa
open Go.RowKit
set_option linter.unusedVariables false
set_option linter.unusedSimpArgs false

theorem enter_of (args : Array Value) (w : World) : (callFunc 33 args).run Try.prog w = .ok (.enter 33 args) w := by kernel_rfl
theorem build_byte1 (b : Int) (w : World) : (Instr.buildSlice 58 1 #[(0, .int .u8 b)]).run Try.prog w = .ok (.slice (some ⟨w.heap.size, 0, none⟩) 1 1) (w.alloc (.cells #[.int .u8 b] 5)) := by kernel_rfl
theorem conv_byte (b : Int) (w : World) : (Go.convert 3 5 (.int .i64 b)).run Try.prog w = .ok (.int .u8 (IntKind.u8.wrap b)) w := by kernel_rfl
section
variable {ops : Array Oper} {S : Nat → GSpec} {Q : Exit → Act → World → Prop} {i : Nat} {o : Oper} {a : Act} {w : World}
theorem gs_byte1 (hw : Region.wanted o (yielded ops a.tmps) = true) (x : Operand) (ho : o.op = .buildSlice 58 1 #[(0, x)]) (b : UInt8) (hx : a.eval x = .int .u8 b.toNat)
    (hp : ∀ v w', (bytesS [b]).p v w' → (S i).p v w') : GStep Try.prog ops S Q i o a w :=
  gs_run hw (v := .slice (some ⟨w.heap.size, 0, none⟩) 1 1) (w' := w.alloc (.cells #[.int .u8 b.toNat] 5))
    (by
      have e : (#[(0, x)] : Array (Nat × Operand)).map (fun (i, x) => (i, a.eval x)) = #[(0, .int .u8 b.toNat)] := by simp [hx]
      unfold execOp; simp only [ho, e, Sem.run_bind, build_byte1, Result.andThen_ok, Sem.run_pure])
    (below_alloc (Below.refl _ _) _) (hp _ _ ⟨_, _, _, rfl, rfl, bytes_of_blk (l := [b]) (Blk.new w 5 #[.int .u8 b.toNat])⟩)
theorem gs_of (hw : Region.wanted o (yielded ops a.tmps) = true) (x : Operand) (ats : Array TypeId) (ho : o.op = .call { callee := .value (.func 33), args := #[x], argTypes := ats }) (xs : List UInt8)
    (hx : (bytesS xs).p (a.eval x) w) (hl : xs.length ≤ maxLen) (hp : ∀ w', (S i).p (.agg (setC (ofB xs))) w') : GStep Try.prog ops S Q i o a w := by
  obtain ⟨A, n, c, hv, hn, hs⟩ := hx
  exact gs_call hw _ _ _ ho enter_of _ (map1 hv) ((of_any A n c xs w hn (by omega) hs).mono fun e w' ⟨he, hb⟩ => ⟨_, he, hb, hp _⟩)
theorem gs_byte (hw : Region.wanted o (yielded ops a.tmps) = true) (x : Operand) (ho : o.op = .convert 3 5 x) (b : Int) (h0 : 0 ≤ b) (h1 : b < 256) (hx : a.eval x = .int .i64 b)
    (hp : (S i).p (.int .u8 b) w) : GStep Try.prog ops S Q i o a w :=
  gs_run hw (v := .int .u8 b) (w' := w)
    (by
      have e : IntKind.u8.wrap b = b := by simp [IntKind.wrap, IntKind.bits, IntKind.signed]; omega
      unfold execOp; simp only [ho, hx, Sem.run_bind, conv_byte, Result.andThen_ok, Sem.run_pure, e])
    (Below.refl _ _) hp
end

end Go.Proofs.Ytjpiebapemalfaa
