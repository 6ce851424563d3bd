/- The walks of package octets' functions on sets: each returns the document's set and writes nothing that was there. -/
import Derived.Test.YtgahdookojbbiaaProg
import Derived.Test.YtgahdookojbbiaaBase
import Derived.Test.YtgahdookojbbiaaSet
namespace Go.Proofs.Ytgahdookojbbiaa
open Go.RowKit
set_option linter.unusedVariables false
set_option linter.unusedSimpArgs false

theorem info_set : (Try.prog.info? 24).map (·.size) = some 4 := by kernel_rfl
theorem follows_mixed : Try.prog.follows .mixedOrders = true := by kernel_rfl
theorem info_u64 : (Try.prog.info? 22).map (·.size) = some 1 := by kernel_rfl
theorem info_int : (Try.prog.info? 3).map (·.size) = some 1 := by kernel_rfl
section
variable {ops : Array Oper} {rest : List Oper} {o : Oper} {a : Act} {w : World} {Q : Exit → Act → World → Prop}
theorem ret_set {fn : Func} {p : Tmp} {g : Nat} {x : BSet} (hres : fn.results = #[.cell p 24])
    (hp : a.tmps.getD p undef = .pointer (some ⟨g, 0, none⟩)) (hb : Blk w g 24 (setC x))
    (hdf : a.defers = []) {R : Ending → World → Prop} (hR : R (.returned (.agg (setC x))) w) : bodyPost Try.prog fn R .ret a w :=
  ret_cell hres _ hp hb Try.underlying24 rfl (info_set.trans (by rw [setC_size])) hdf hR
theorem wl_load_set (hgd : o.guard = none) (x : Operand) (ho : o.op = .load 24 x)
    (g : Nat) (hx : a.eval x = .pointer (some ⟨g, 0, none⟩)) (y : BSet) (hb : Blk w g 24 (setC y))
    (h : wpList Try.prog ops Q rest (a.put o.dst (.agg (setC y))) w) : wpList Try.prog ops Q (o :: rest) a w :=
  wpList_load_row hgd _ x ho g hx _ _ _ _ hb Try.underlying24 rfl (info_set.trans (by rw [setC_size])) h
theorem wl_load_set_at (hgd : o.guard = none) (x : Operand) (ho : o.op = .load 24 x)
    (b off : Nat) (hx : a.eval x = .pointer (some ⟨b, off, none⟩)) (y : BSet) (hr : RowAt w b off (setC y))
    (h : wpList Try.prog ops Q rest (a.put o.dst (.agg (setC y))) w) : wpList Try.prog ops Q (o :: rest) a w :=
  wpList_load_at hgd _ x ho b off hx _ _ hr Try.underlying24 rfl (info_set.trans (by rw [setC_size])) h
theorem wst_load_set {Q : Act → Prop} (hgd : o.guard = none) (x : Operand) (ho : o.op = .load 24 x)
    (g : Nat) (hx : a.eval x = .pointer (some ⟨g, 0, none⟩)) (y : BSet) (hb : Blk w g 24 (setC y))
    (h : wpStill Try.prog ops w Q rest (a.put o.dst (.agg (setC y)))) : wpStill Try.prog ops w Q (o :: rest) a :=
  wst_load_row hgd _ x ho g hx _ _ hb _ Try.underlying24 rfl (info_set.trans (by rw [setC_size])) h
theorem wst_load_set_at {Q : Act → Prop} (hgd : o.guard = none) (x : Operand) (ho : o.op = .load 24 x)
    (b off : Nat) (hx : a.eval x = .pointer (some ⟨b, off, none⟩)) (y : BSet) (hr : RowAt w b off (setC y))
    (h : wpStill Try.prog ops w Q rest (a.put o.dst (.agg (setC y)))) : wpStill Try.prog ops w Q (o :: rest) a :=
  wst_load_at hgd _ x ho b off hx _ hr _ Try.underlying24 rfl (info_set.trans (by rw [setC_size])) h
theorem wl_store_set (hgd : o.guard = none) (x y : Operand) (ho : o.op = .store 24 x y)
    (g : Nat) (new : BSet) (hx : a.eval x = .pointer (some ⟨g, 0, none⟩)) (hy : a.eval y = .agg (setC new)) (old : BSet) (hb : Blk w g 24 (setC old))
    (h : ∀ w', Blk w' g 24 (setC new) → w.grownBy w' (some g) → wpList Try.prog ops Q rest (a.put o.dst undef) w') : wpList Try.prog ops Q (o :: rest) a w :=
  wpList_store_row hgd _ x y ho g _ hx hy _ _ hb (info_set.trans (by rw [setC_size])) (setC_sz2 _ _) (setC_one _) (h _ (hb.setRow_same _) (only_setRow (only_refl _ _) _))
end

set_option maxHeartbeats 400000 in
theorem has_any (x : BSet) (b : Nat) (h0 : b < 256) (w : World) :
    Calls Try.prog 74 #[.agg (setC x), .int .u8 b] w fun e w' => e = .returned (.bool (x.getLsbD b)) ∧ Below w.heap.size w w' := by
  have hc := (Blk.new w 24 (setC x)).cellv (setC_at x (b / 64) (by omega))
  go_enter Try.func74, Try.ntmps74
  go_wp2
  go_ret
  refine ⟨?_, (Below.refl _ _).alloc (Nat.le_refl _) _⟩
  exact congrArg (fun v => Ending.returned (.bool v)) (hasB h0)
theorem has_int (x : BSet) (b : Int) (h0 : 0 ≤ b) (h1 : b < 256) (w : World) :
    Calls Try.prog 74 #[.agg (setC x), .int .u8 b] w fun e w' => e = .returned (.bool (x.getLsbD b.toNat)) ∧ Below w.heap.size w w' := by
  obtain ⟨n, rfl⟩ := Int.eq_ofNat_of_zero_le h0
  exact has_any x n (by omega) w

end Go.Proofs.Ytgahdookojbbiaa
