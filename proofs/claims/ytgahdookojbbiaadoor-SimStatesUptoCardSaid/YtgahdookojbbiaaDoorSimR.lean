/- SimStates: the turned machine while it is made; steps. No condition beyond those named in each lemma. -/
import Derived.Test.YtgahdookojbbiaaDoorTurn
namespace Go.Proofs.YtgahdookojbbiaaDoor
open Go.RowKit Go.Shelf Go.Maps
set_option linter.unusedVariables false
set_option linter.unusedSimpArgs false

/-- the turned rules while k of them are laid -/
def rtL (N : Nat) (R : List Nat) (k : Nat) : List Nat := (List.range N).map fun p => if mirror p N < k then R.getD (mirror p N) 0 else 0
theorem rtL_length (N : Nat) (R : List Nat) (k : Nat) : (rtL N R k).length = N := by simp [rtL]
theorem rtL_zero (N : Nat) (R : List Nat) : rtL N R 0 = List.replicate N 0 := by
  apply List.ext_getElem
  · simp [rtL]
  · intro i h1 h2
    simp [rtL]
theorem rtL_all (N : Nat) (R : List Nat) : rtL N R N = turnedR N R := by
  apply List.ext_getElem
  · simp [rtL, turnedR]
  · intro i h1 h2
    have hi : i < N := by simpa [rtL] using h1
    simp only [rtL, turnedR, List.getElem_map, List.getElem_range]
    rw [if_pos (mirror_lt hi)]
theorem rtL_set {N k : Nat} (R : List Nat) (hk : k < N) : (rtL N R k).set (mirror k N) (R.getD k 0) = rtL N R (k + 1) := by
  apply List.ext_getElem
  · simp [rtL]
  · intro i h1 h2
    have hi : i < N := by simpa [rtL] using h2
    rw [List.getElem_set]
    simp only [rtL, List.getElem_map, List.getElem_range]
    by_cases e : mirror k N = i
    · rw [if_pos e, ← e, mirror_mirror hk, if_pos (by omega)]
    · rw [if_neg e]
      have : mirror i N ≠ k := fun h => e (by rw [← h, mirror_mirror hi])
      by_cases h : mirror i N < k
      · rw [if_pos h, if_pos (by omega)]
      · rw [if_neg h, if_neg (by omega)]
theorem rtL_lt {N k : Nat} {R : List Nat} (hR : ∀ r ∈ R, r < 4294967296) : ∀ r ∈ rtL N R k, r < 4294967296 := by
  intro r hr
  simp only [rtL, List.mem_map] at hr
  obtain ⟨p, _, rfl⟩ := hr
  split
  · exact ruleD_lt hR _
  · decide
theorem twice_get {α : Type} (E : List α) (i : Nat) (h : i < (E ++ E).length) (h2 : i % E.length < E.length) : (E ++ E)[i] = E[i % E.length] := by
  rw [List.getElem_append]
  split
  · rename_i h1
    congr 1
    exact (Nat.mod_eq_of_lt h1).symm
  · rename_i h1
    congr 1
    rw [List.length_append] at h
    rw [Nat.mod_eq_sub_mod (by omega), Nat.mod_eq_of_lt (by omega)]
def turnL (N : Nat) (E : List Edg) (k : Nat) : List Edg := ((E ++ E).take k).map (turnE N)
theorem turnL_succ (N : Nat) (E : List Edg) (k : Nat) (h : k < (E ++ E).length) (h2 : k % E.length < E.length) : turnL N E (k + 1) = turnL N E k ++ [turnE N E[k % E.length]] := by
  unfold turnL
  rw [List.take_succ_eq_append_getElem h, List.map_append, twice_get E k h h2]
  rfl
theorem turnL_all (N : Nat) (E : List Edg) (k : Nat) (h : (E ++ E).length ≤ k) : turnL N E k = turnedE N E := by
  unfold turnL turnedE
  rw [List.take_of_length_le h]
theorem turnL_length (N : Nat) (E : List Edg) (k : Nat) (h : k ≤ 2 * E.length) : (turnL N E k).length = k := by
  unfold turnL
  rw [List.length_map, List.length_take, List.length_append]
  omega

/-- a store of one cell into a row of the call's own -/
theorem wl_store_rule {base : Nat} {w : World} {ys : List Nat} {ops : Array Oper} {rest : List Oper} {o : Oper} {a : Act} {Q : Exit → Act → World → Prop} (hgd : o.guard = none) (x y : Operand) (ho : o.op = .store 28 x y)
    (g k n cap : Nat) (hx : a.eval x = .pointer (some ⟨g, k, none⟩)) (z : Nat) (hy : a.eval y = .int .u32 (z : Int)) (hown : Own w base 28 1 encR (.slice (some ⟨g, 0, none⟩) n cap) ys) (hk : k < ys.length)
    (h : ∀ w', Own w' base 28 1 encR (.slice (some ⟨g, 0, none⟩) n cap) (ys.set k z) → w.grownBy w' (some g) → wpList Tryd.prog ops Q rest (a.put o.dst undef) w') : wpList Tryd.prog ops Q (o :: rest) a w := by
  have hcell : w.cell? ⟨g, k, none⟩ = some (.int .u32 (ys[k] : Nat)) := by
    have := hown.row encR_size k hk 0 _ rfl
    rw [Nat.mul_one] at this
    exact this
  have hfr := hown.frozen k
  have hrun : (storeVar 28 ⟨g, k, none⟩ (.int .u32 (z : Int))).run Tryd.prog w = .ok () (w.setCell ⟨g, k, none⟩ (.int .u32 (z : Int))) := by
    have hsz := info_u32
    cases hq : Tryd.prog.info? 28 with
    | none => rw [hq] at hsz; cases hsz
    | some j =>
      have hs : j.size = 1 := by rw [hq] at hsz; simpa using hsz
      have e := run_store Tryd.prog w ⟨g, k, none⟩ (.int .u32 (z : Int)) .plain rfl
      simp only [hcell, hfr, Bool.false_eq_true, if_false] at e
      have e0 : (⟨g, k, none⟩ : Addr).add 0 = ⟨g, k, none⟩ := rfl
      simp [storeVar, sizeOf, typeInfo, hq, hs, Value.cells, storeCells, e0, e]
  refine wpList_plain hgd fun _ hK => ?_
  unfold Oper.wp execOp
  simp only [ho, hx, hy, Instr.storeAt, Instr.sureAddr, Sem.run_bind, Sem.run_pure, Result.andThen_ok, hrun]
  have o1 := hown.setCell (i := k) (q := 0) (y' := z) (u := .int .u32 (z : Int)) encR_size hk (by decide) rfl
  rw [Nat.mul_one, Nat.add_zero] at o1
  exact hK _ _ (h _ o1 (only_setCell (only_refl _ _) (.inl rfl) _))
/-- the turned machine's first value -/
def fstS (lo N : Nat) : GSpec := ⟨fun v w => ∃ A c, v = .agg (nfaC N none 0 0 A N c) ∧ Own w lo 28 1 encR (.slice A N c) (List.replicate N 0), fun v w w' ⟨A, c, h1, h2⟩ hb => ⟨A, c, h1, h2.then_ hb⟩⟩
def zerosS (lo N : Nat) : GSpec := ⟨fun v w => ∃ A c, v = .slice A N c ∧ Own w lo 28 1 encR (.slice A N c) (List.replicate N 0), fun v w w' ⟨A, c, h1, h2⟩ hb => ⟨A, c, h1, h2.then_ hb⟩⟩
def blkS (lo : Nat) (t : TypeId) (cs : Array Value) : GSpec := ⟨fun v w => ∃ g, v = .pointer (some ⟨g, 0, none⟩) ∧ lo ≤ g ∧ Blk w g t cs, fun v w w' ⟨g, h1, h2, h3⟩ hb => ⟨g, h1, h2, blk_then h3 hb⟩⟩
theorem run_buildN (w : World) (s : Int) (A : Option Addr) (n c : Nat) : (Instr.build 25 #[(0, .int .i64 s), (2, .slice A n c)]).run Tryd.prog w = .ok (.agg (nfaC s none 0 0 A n c)) w := by kernel_rfl
theorem run_allocN (w : World) : (Instr.alloc 25 true (.tuple #[])).run Tryd.prog w = .ok (.pointer (some ⟨w.heap.size, 0, none⟩)) (w.alloc (.cells (nfaC 0 none 0 0 none 0 0) 25)) := by kernel_rfl
theorem run_allocE (w : World) : (Instr.alloc 53 true (.tuple #[])).run Tryd.prog w = .ok (.pointer (some ⟨w.heap.size, 0, none⟩)) (w.alloc (.cells (edgC edge0) 53)) := by kernel_rfl
section
variable {ops : Array Oper} {S : Nat → GSpec} {Q : Exit → Act → World → Prop} {i : Nat} {o : Oper} {a : Act} {w : World}
theorem gs_makeR (hw : Region.wanted o (yielded ops a.tmps) = true) (x y : Operand) (ho : o.op = .makeSlice 23 x y) {lo : Nat} (hlo : lo ≤ w.heap.size) (N : Nat) (hx : a.eval x = .int .i64 N) (hy : a.eval y = .int .i64 N) (hN : N ≤ 1099511627776)
    (hp : ∀ v w', (zerosS lo N).p v w' → (S i).p v w') : GStep Tryd.prog ops S Q i o a w := by
  obtain ⟨i0, hi0, hz0, hz1, hz2⟩ := info_parts info_r3
  obtain ⟨w', hrun, r1, r2⟩ := run_make_full (P := Tryd.prog) w lo 23 28 i0 _ 1 Tryd.underlying23 hi0 hz0 hz1 .i64 .i64 N (by rw [hz2]; omega) (by unfold maxLen; omega) hlo
  have e1 : (madeCells (Value.int .u32 0).cells (N * 1)).toList = flat encR (List.replicate N 0) := by
    apply List.ext_getElem
    · rw [Array.length_toList, size_madeCells]
      simp [flat, encR]
    · intro j h1 h2
      simp [madeCells, Value.cells, flat, encR, List.flatMap_replicate]
      rw [Nat.mod_one]
      rfl
  refine gs_run hw (v := .slice (some ⟨w.heap.size, 0, none⟩) N N) (w' := w') ?_ ⟨r2.os, r2.tape, r2.output, r2.size, fun k hk => r2.block k hk (by simp)⟩ (hp _ _ ⟨_, _, rfl, ?_⟩)
  · unfold execOp
    simp only [ho, hx, hy, Sem.run_bind, hrun, Result.andThen_ok, Sem.run_pure]
  · rw [e1] at r1
    unfold Own
    rw [List.length_replicate]
    exact r1
theorem gs_buildN (hw : Region.wanted o (yielded ops a.tmps) = true) (x y : Operand) (ho : o.op = .build 25 #[(0, x), (2, y)]) {lo N : Nat} (hx : a.eval x = .int .i64 N) (hy : (zerosS lo N).p (a.eval y) w) (hp : ∀ v w', (fstS lo N).p v w' → (S i).p v w') : GStep Tryd.prog ops S Q i o a w := by
  obtain ⟨A, c, hv, hown⟩ := hy
  refine gs_run hw (v := .agg (nfaC N none 0 0 A N c)) ?_ (Below.refl _ _) (hp _ _ ⟨A, c, rfl, hown⟩)
  unfold execOp
  simp only [ho, List.map_toArray, List.map_cons, List.map_nil, hx, hv, Sem.run_bind, run_buildN, Result.andThen_ok, Sem.run_pure]
theorem gs_allocN (hw : Region.wanted o (yielded ops a.tmps) = true) (ho : o.op = .alloc 25) {lo : Nat} (hlo : lo ≤ w.heap.size) (hp : ∀ v w', (blkS lo 25 (nfaC 0 none 0 0 none 0 0)).p v w' → (S i).p v w') : GStep Tryd.prog ops S Q i o a w :=
  gs_run hw (v := .pointer (some ⟨w.heap.size, 0, none⟩)) (by unfold execOp; simp only [ho, Sem.run_bind, run_allocN, Result.andThen_ok, Sem.run_pure]) (below_alloc (Below.refl _ _) _) (hp _ _ ⟨_, rfl, hlo, Blk.new _ _ _⟩)
theorem gs_allocE (hw : Region.wanted o (yielded ops a.tmps) = true) (ho : o.op = .alloc 53) {lo : Nat} (hlo : lo ≤ w.heap.size) (hp : ∀ v w', (blkS lo 53 (edgC edge0)).p v w' → (S i).p v w') : GStep Tryd.prog ops S Q i o a w :=
  gs_run hw (v := .pointer (some ⟨w.heap.size, 0, none⟩)) (by unfold execOp; simp only [ho, Sem.run_bind, run_allocE, Result.andThen_ok, Sem.run_pure]) (below_alloc (Below.refl _ _) _) (hp _ _ ⟨_, rfl, hlo, Blk.new _ _ _⟩)
theorem gs_rem_nat (hw : Region.wanted o (yielded ops a.tmps) = true) (t t2 : TypeId) (x y : Operand) (ho : o.op = .binOp .rem t x y t2) (p q : Nat) (hx : a.eval x = .int .i64 p) (hy : a.eval y = .int .i64 q) (hq : 0 < q) (hp64 : p < 9223372036854775808)
    (hp : (S i).p (.int .i64 (p % q : Nat)) w) : GStep Tryd.prog ops S Q i o a w :=
  gs_bin hw _ _ _ x y ho _ _ _ hx hy (by rw [eqGuard_at_int]; rfl) (by
    have h1 : ¬ (q : Int) = 0 := by omega
    have h2 : Int.tmod (p : Int) (q : Int) = ((p % q : Nat) : Int) := rfl
    rw [binOp_rem]
    unfold Op.intDiv
    rw [if_neg h1, h2]
    rfl) hp
end
end Go.Proofs.YtgahdookojbbiaaDoor
