/- The walks of package octets' functions on sets: each returns the document's set and writes nothing that was there. -/
import Derived.Test.YtajainmldcnaeaaProg
import Derived.Test.YtajainmldcnaeaaBase
import Derived.Test.YtajainmldcnaeaaSet
namespace Go.Proofs.Ytajainmldcnaeaa
open Go.RowKit
set_option linter.unusedVariables false
set_option linter.unusedSimpArgs false

theorem info_set : (Try.prog.info? 24).map (·.size) = some 4 := by kernel_rfl
theorem follows_mixed : Try.prog.follows .mixedOrders = true := by kernel_rfl
theorem info_u64 : (Try.prog.info? 22).map (·.size) = some 1 := by kernel_rfl
theorem info_int : (Try.prog.info? 3).map (·.size) = some 1 := by kernel_rfl
section
variable {ops : Array Oper} {rest : List Oper} {o : Oper} {a : Act} {w : World} {Q : Exit → Act → World → Prop}
theorem ret_set {fn : Func} {p : Tmp} {g : Nat} {x : BSet} (hres : fn.results = #[.cell p 24])
    (hp : a.tmps.getD p undef = .pointer (some ⟨g, 0, none⟩)) (hb : Blk w g 24 (setC x))
    (hdf : a.defers = []) {R : Ending → World → Prop} (hR : R (.returned (.agg (setC x))) w) : bodyPost Try.prog fn R .ret a w :=
  ret_cell hres _ hp hb Try.underlying24 rfl (info_set.trans (by rw [setC_size])) hdf hR
theorem wl_load_set (hgd : o.guard = none) (x : Operand) (ho : o.op = .load 24 x)
    (g : Nat) (hx : a.eval x = .pointer (some ⟨g, 0, none⟩)) (y : BSet) (hb : Blk w g 24 (setC y))
    (h : wpList Try.prog ops Q rest (a.put o.dst (.agg (setC y))) w) : wpList Try.prog ops Q (o :: rest) a w :=
  wpList_load_row hgd _ x ho g hx _ _ _ _ hb Try.underlying24 rfl (info_set.trans (by rw [setC_size])) h
theorem wl_load_set_at (hgd : o.guard = none) (x : Operand) (ho : o.op = .load 24 x)
    (b off : Nat) (hx : a.eval x = .pointer (some ⟨b, off, none⟩)) (y : BSet) (hr : RowAt w b off (setC y))
    (h : wpList Try.prog ops Q rest (a.put o.dst (.agg (setC y))) w) : wpList Try.prog ops Q (o :: rest) a w :=
  wpList_load_at hgd _ x ho b off hx _ _ hr Try.underlying24 rfl (info_set.trans (by rw [setC_size])) h
theorem wst_load_set {Q : Act → Prop} (hgd : o.guard = none) (x : Operand) (ho : o.op = .load 24 x)
    (g : Nat) (hx : a.eval x = .pointer (some ⟨g, 0, none⟩)) (y : BSet) (hb : Blk w g 24 (setC y))
    (h : wpStill Try.prog ops w Q rest (a.put o.dst (.agg (setC y)))) : wpStill Try.prog ops w Q (o :: rest) a :=
  wst_load_row hgd _ x ho g hx _ _ hb _ Try.underlying24 rfl (info_set.trans (by rw [setC_size])) h
theorem wst_load_set_at {Q : Act → Prop} (hgd : o.guard = none) (x : Operand) (ho : o.op = .load 24 x)
    (b off : Nat) (hx : a.eval x = .pointer (some ⟨b, off, none⟩)) (y : BSet) (hr : RowAt w b off (setC y))
    (h : wpStill Try.prog ops w Q rest (a.put o.dst (.agg (setC y)))) : wpStill Try.prog ops w Q (o :: rest) a :=
  wst_load_at hgd _ x ho b off hx _ hr _ Try.underlying24 rfl (info_set.trans (by rw [setC_size])) h
theorem wl_store_set (hgd : o.guard = none) (x y : Operand) (ho : o.op = .store 24 x y)
    (g : Nat) (new : BSet) (hx : a.eval x = .pointer (some ⟨g, 0, none⟩)) (hy : a.eval y = .agg (setC new)) (old : BSet) (hb : Blk w g 24 (setC old))
    (h : ∀ w', Blk w' g 24 (setC new) → w.grownBy w' (some g) → wpList Try.prog ops Q rest (a.put o.dst undef) w') : wpList Try.prog ops Q (o :: rest) a w :=
  wpList_store_row hgd _ x y ho g _ hx hy _ _ hb (info_set.trans (by rw [setC_size])) (setC_sz2 _ _) (setC_one _) (h _ (hb.setRow_same _) (only_setRow (only_refl _ _) _))
end

set_option maxHeartbeats 400000 in
theorem put_any (x : BSet) (b : Nat) (hb : b < 256) (g : Nat) (w : World) (h : Blk w g 24 (setC x)) :
    Calls Try.prog 92 #[.pointer (some ⟨g, 0, none⟩), .int .u8 b] w fun e w' => e = .returned (.tuple #[]) ∧ Blk w' g 24 (setC (x ||| bit b)) ∧ w.grownBy w' (some g) := by
  have c1 := h.cellv (setC_at _ (b / 64) (by omega))
  have f1 := h.frozen (b / 64)
  go_enter Try.func92, Try.ntmps92
  go_region
  go_end0
  refine ⟨rfl, ?_, ?_⟩
  · rw [putB hb]; exact (h.set_eq (put_set hb)).drew
  · exact only_drew (only_setCell (only_refl _ _) (.inl rfl) _)
theorem put_int (x : BSet) (b : Int) (h0 : 0 ≤ b) (h1 : b < 256) (g : Nat) (w : World) (h : Blk w g 24 (setC x)) :
    Calls Try.prog 92 #[.pointer (some ⟨g, 0, none⟩), .int .u8 b] w fun e w' => e = .returned (.tuple #[]) ∧ Blk w' g 24 (setC (x ||| bit b.toNat)) ∧ w.grownBy w' (some g) := by
  obtain ⟨n, rfl⟩ := Int.eq_ofNat_of_zero_le h0
  exact put_any x n (by omega) g w h

set_option maxHeartbeats 400000 in
theorem has_any (x : BSet) (b : Nat) (h0 : b < 256) (w : World) :
    Calls Try.prog 62 #[.agg (setC x), .int .u8 b] w fun e w' => e = .returned (.bool (x.getLsbD b)) ∧ Below w.heap.size w w' := by
  have hc := (Blk.new w 24 (setC x)).cellv (setC_at x (b / 64) (by omega))
  go_enter Try.func62, Try.ntmps62
  go_wp2
  go_ret
  refine ⟨?_, (Below.refl _ _).alloc (Nat.le_refl _) _⟩
  exact congrArg (fun v => Ending.returned (.bool v)) (hasB h0)
theorem has_int (x : BSet) (b : Int) (h0 : 0 ≤ b) (h1 : b < 256) (w : World) :
    Calls Try.prog 62 #[.agg (setC x), .int .u8 b] w fun e w' => e = .returned (.bool (x.getLsbD b.toNat)) ∧ Below w.heap.size w w' := by
  obtain ⟨n, rfl⟩ := Int.eq_ofNat_of_zero_le h0
  exact has_any x n (by omega) w

set_option maxHeartbeats 400000 in
theorem meet_any (x y : BSet) (w : World) :
    Calls Try.prog 91 #[.agg (setC x), .agg (setC y)] w fun e w' => e = .returned (.agg (setC (x &&& y))) ∧ Below w.heap.size w w' := by
  go_enter Try.func91, Try.ntmps91
  go_wp2
  go_loopw [6] (fun i wr => ∃ k : Nat, k ≤ 4 ∧ i = .int .i64 k ∧ Blk wr w.heap.size 24 (setC (mix k (x &&& y) x)) ∧ Blk wr (w.heap.size + 1) 24 (setC y) ∧ Blk wr (w.heap.size + 1 + 1) 24 (setC 0) ∧ Below w.heap.size w wr) (fun i _ => 4 - (intOf i).toNat)
  case atStart =>
    refine ⟨0, by omega, rfl, ?_, ?_, ?_, ?_⟩
    · rw [mix_zero]; exact ((Blk.new _ _ _).alloc _).alloc _
    · exact (Blk.new' _ _ _ (by simp)).alloc _
    · exact Blk.new' _ _ _ (by simp)
    · exact (((Below.refl _ _).alloc (Nat.le_refl _) _).alloc (by simp) _).alloc (by simp; omega) _
  case round =>
    obtain ⟨k, hk, rfl, hb1, hb2, hb3, hB⟩ := hrel
    by_cases hlt : k < 4
    · have c1 := hb1.cellv (setC_at _ k hlt)
      have c2 := hb2.cellv (setC_at _ k hlt)
      have f1 := hb1.frozen k
      go_wp2
      go_region
      go_wp2
      go_roundw
      case rel =>
        refine ⟨k + 1, by omega, by go_num, ?_, (hb2.far (by simp) _).drew, (hb3.far (by simp; omega) _).drew, (hB.setCell (Nat.le_refl _) _).drew⟩
        rw [word_mix_ge _ _ (Nat.le_refl _) hlt, u64_and_nat _ _ (word_lt' _ _) (word_lt' _ _)]
        exact (hb1.set_eq (mix_set hlt (word_and _ _ _))).drew
      case measure => simp [intOf]; omega
    · have hs2 : w.heap.size ≤ w.heap.size + 1 + 1 := by omega
      obtain rfl : k = 4 := by omega
      rw [mix_four] at hb1
      go_wp2_with (first | (refine wl_load_set rfl _ rfl _ rfl _ hb1 ?_) | (refine wl_store_set rfl _ _ rfl _ _ rfl rfl _ hb3 ?_; intro w1 hb4 hg4))
      exact ret_set rfl rfl hb4 rfl ⟨rfl, hB.grown hg4 hB.size (by rintro k ⟨⟩; exact hs2)⟩

end Go.Proofs.Ytajainmldcnaeaa
