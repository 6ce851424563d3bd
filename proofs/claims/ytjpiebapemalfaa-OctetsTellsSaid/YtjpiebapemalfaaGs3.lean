/- More steps of the law on regions: slices, their lengths, their elements; the document's Join, Meet, Not. -/
import Derived.Test.YtjpiebapemalfaaGs2
import Derived.Test.YtjpiebapemalfaaSlice
import Derived.Test.YtjpiebapemalfaaRefC
namespace Go.Proofs.Ytjpiebapemalfaa
open Go.RowKit
set_option linter.unusedVariables false
set_option linter.unusedSimpArgs false

section
variable {P : Program} {ops : Array Oper} {S : Nat → GSpec} {Q : Exit → Act → World → Prop} {i : Nat} {o : Oper} {a : Act} {w : World}
theorem gs_len (hw : Region.wanted o (yielded ops a.tmps) = true) (x : Operand) (t : TypeId) (ho : o.op = .call { callee := .builtin .len, args := #[x], argTypes := #[t] }) (ht : P.underlying t = some (.slice (P.elem t)))
    (A : Option Addr) (n c : Nat) (hx : a.eval x = .slice A n c) (hp : (S i).p (.int .i64 n) w) : GStep P ops S Q i o a w :=
  gs_run hw (v := .int .i64 n) (by
    unfold execOp
    simp only [ho, resolve, invoke, builtin, Sem.run_bind, Sem.run_pure, Result.andThen_ok, List.map_toArray, List.map_cons, List.map_nil, hx, run_len_slice w t o.type A n c ht]
    rfl) (Below.refl _ _) hp
theorem sliced_to (ad : Addr) (m c s : Nat) : sliced (some ad) 0 m c s = .slice (some ad) m c := by
  unfold sliced
  split <;> simp [Addr.add]
theorem gs_slice_to (hw : Region.wanted o (yielded ops a.tmps) = true) (x hi : Operand) (t : TypeId) (ho : o.op = .slice t x none (some hi) none) (ht : P.underlying t = some (.slice (P.elem t))) (size : Nat) (hsz : ∀ w, (sizeOf (P.elem t)).run P w = .ok size w)
    (ad : Addr) (n c m : Nat) (hx : a.eval x = .slice (some ad) n c) (hh : a.eval hi = .int .i64 m) (hm : m ≤ c) (hp : (S i).p (.slice (some ad) m c) w) : GStep P ops S Q i o a w :=
  gs_run hw (v := .slice (some ad) m c) (by
    unfold execOp
    have e := run_slice_h (P := P) w t (some ad) n c ht .i64 (m : Int) (by omega) (by omega)
    simp only [Int.toNat_natCast, hsz, Result.andThen_ok, sliced_to] at e
    simp only [ho, Option.map_none, Option.map_some, hx, hh, Sem.run_bind, run_sliceAt_slice (P := P) w t _ _ _ _ ht, e, Result.andThen_ok, Sem.run_pure]) (Below.refl _ _) hp
theorem gs_index (hw : Region.wanted o (yielded ops a.tmps) = true) (x ix : Operand) (t : TypeId) (ho : o.op = .indexAddr t x ix) (ht : P.underlying t = some (.slice (P.elem t))) (size : Nat) (hsz : ∀ w, (sizeOf (P.elem t)).run P w = .ok size w)
    (b off n c m : Nat) (hx : a.eval x = .slice (some ⟨b, off, none⟩) n c) (hi : a.eval ix = .int .i64 m) (hm : m < n) (hp : (S i).p (.pointer (some ⟨b, off + m * size, none⟩)) w) : GStep P ops S Q i o a w :=
  gs_run hw (v := .pointer (some ⟨b, off + m * size, none⟩)) (by
    unfold execOp
    have e := run_indexAt_slice (P := P) w t ⟨b, off, none⟩ n c .i64 (m : Int) ht
    rw [if_pos ⟨by omega, by omega⟩, hsz] at e
    simp only [Int.toNat_natCast, Result.andThen_ok, addr_add] at e
    simp only [ho, hx, hi, Sem.run_bind, e, Result.andThen_ok, Sem.run_pure]) (Below.refl _ _) hp
end
theorem under_sets : Try.prog.underlying 27 = some (.slice (Try.prog.elem 27)) := by kernel_rfl
theorem size_setE (w : World) : (sizeOf (Try.prog.elem 27)).run Try.prog w = .ok 4 w := by kernel_rfl
section
variable {ops : Array Oper} {S : Nat → GSpec} {Q : Exit → Act → World → Prop} {i : Nat} {o : Oper} {a : Act} {w : World}
theorem gs_load_set_at (hw : Region.wanted o (yielded ops a.tmps) = true) (x : Operand) (ho : o.op = .load 31 x) (b off : Nat) (hx : a.eval x = .pointer (some ⟨b, off, none⟩)) (y : BSet) (hr : RowAt w b off (setC y))
    (hp : (S i).p (.agg (setC y)) w) : GStep Try.prog ops S Q i o a w :=
  gs_run hw (v := .agg (setC y)) (by unfold execOp; simp only [ho, hx, Instr.loadAt, Instr.sureAddr, Sem.run_bind, Sem.run_pure, Result.andThen_ok, run_loadVar_at w b off _ _ _ hr Try.underlying31 rfl (info_set.trans (by rw [setC_size]))]) (Below.refl _ _) hp
theorem enter_rjoin (args : Array Value) (w : World) : (callFunc 34 args).run Try.prog w = .ok (.enter 34 args) w := by kernel_rfl
theorem enter_rmeet (args : Array Value) (w : World) : (callFunc 35 args).run Try.prog w = .ok (.enter 35 args) w := by kernel_rfl
theorem enter_rnot (args : Array Value) (w : World) : (callFunc 37 args).run Try.prog w = .ok (.enter 37 args) w := by kernel_rfl
theorem gs_join_at (hw : Region.wanted o (yielded ops a.tmps) = true) (x : Operand) (ats : Array TypeId) (ho : o.op = .call { callee := .value (.func 24), args := #[x], argTypes := ats }) (A : Option Addr) (n c : Nat) (xs : List BSet)
    (hx : a.eval x = .slice A n c) (hn : n = xs.length) (hl : n ≤ maxLen) (hs : SliceOf w w.heap.size 4 setC A xs) (hp : ∀ w', (S i).p (.agg (setC (joinL xs))) w') : GStep Try.prog ops S Q i o a w :=
  gs_call hw _ _ _ ho enter_join _ (map1 hx) ((join_any A n c xs w hn hl hs).mono fun e w' ⟨he, hb⟩ => ⟨_, he, hb, hp _⟩)
theorem gs_rjoin_at (hw : Region.wanted o (yielded ops a.tmps) = true) (x : Operand) (ats : Array TypeId) (ho : o.op = .call { callee := .value (.func 34), args := #[x], argTypes := ats }) (A : Option Addr) (n c : Nat) (xs : List BSet)
    (hx : a.eval x = .slice A n c) (hn : n = xs.length) (hl : n ≤ maxLen) (hs : SliceOf w w.heap.size 4 setC A xs) (hp : ∀ w', (S i).p (.agg (setC (joinL xs))) w') : GStep Try.prog ops S Q i o a w :=
  gs_call hw _ _ _ ho enter_rjoin _ (map1 hx) ((rjoin_any A n c xs w hn hl hs).mono fun e w' ⟨he, hb⟩ => ⟨_, he, hb, hp _⟩)
theorem gs_rmeet (hw : Region.wanted o (yielded ops a.tmps) = true) (x y : Operand) (ats : Array TypeId) (ho : o.op = .call { callee := .value (.func 35), args := #[x, y], argTypes := ats }) (p q : BSet)
    (hx : a.eval x = .agg (setC p)) (hy : a.eval y = .agg (setC q)) (hp : ∀ w', (S i).p (.agg (setC (p &&& q))) w') : GStep Try.prog ops S Q i o a w :=
  gs_call hw _ _ _ ho enter_rmeet _ (map2 hx hy) ((rmeet_any p q w).mono fun e w' ⟨he, hb⟩ => ⟨_, he, hb, hp _⟩)
theorem gs_rnot (hw : Region.wanted o (yielded ops a.tmps) = true) (x : Operand) (ats : Array TypeId) (ho : o.op = .call { callee := .value (.func 37), args := #[x], argTypes := ats }) (p : BSet)
    (hx : a.eval x = .agg (setC p)) (hp : ∀ w', (S i).p (.agg (setC (notB p))) w') : GStep Try.prog ops S Q i o a w :=
  gs_call hw _ _ _ ho enter_rnot _ (map1 hx) ((rnot_any p w).mono fun e w' ⟨he, hb⟩ => ⟨_, he, hb, hp _⟩)
end
theorem info_set3 : (Try.prog.info? 31).map (fun i => (i.zero, i.size, i.bytes)) = some (some (.agg #[.int .u64 0, .int .u64 0, .int .u64 0, .int .u64 0]), 4, 32) := by kernel_rfl
def s77 : BSet := 77
theorem s77_eq : setC s77 = #[.int .u64 77, .int .u64 0, .int .u64 0, .int .u64 0] := by kernel_rfl

end Go.Proofs.Ytjpiebapemalfaa
