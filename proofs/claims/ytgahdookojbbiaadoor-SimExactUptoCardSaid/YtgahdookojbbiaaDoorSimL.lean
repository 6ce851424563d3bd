/- sim.Begin: the machine's parts, as steps. No condition beyond those named in each lemma. -/
import Derived.Test.YtgahdookojbbiaaDoorSimK
namespace Go.Proofs.YtgahdookojbbiaaDoor
open Go.RowKit Go.Shelf Go.Maps
set_option linter.unusedVariables false
set_option linter.unusedSimpArgs false

theorem ValMap.then_ {w w' : World} {b n : Nat} {m : Int → Option Value} (h : ValMap w b n m) (hb : Below w.heap.size w w') : ValMap w' b n m := h.keep (hb.block b h.lt)
def noKeys : Int → Option Value := fun _ => none
def mapS (lo : Nat) : GSpec := ⟨fun v w => ∃ b, v = .map (some b) ∧ lo ≤ b ∧ ValMap w b 0 noKeys, fun v w w' ⟨b, h1, h2, h3⟩ hb => ⟨b, h1, h2, h3.then_ hb⟩⟩
def emptyS (lo : Nat) : GSpec := ⟨fun v w => ∃ g, v = .slice (some ⟨g, 0, none⟩) 0 0 ∧ Own w lo 28 1 encR v ([] : List Nat), fun v w w' ⟨g, h1, h2⟩ hb => ⟨g, h1, h2.then_ hb⟩⟩
def rowS (lo : Nat) (R : List Nat) : GSpec := ⟨fun v w => Own w lo 28 1 encR v R, fun v w w' h hb => h.then_ hb⟩
def machS (lo : Nat) (s : Int) (R : List Nat) : GSpec := ⟨fun v w => ∃ b u, v = .agg #[.int .i64 s, .map (some b), u] ∧ lo ≤ b ∧ ValMap w b 0 noKeys ∧ Own w lo 28 1 encR u R, fun v w w' ⟨b, u, h1, h2, h3, h4⟩ hb => ⟨b, u, h1, h2, h3.then_ hb, h4.then_ hb⟩⟩
def boxS (lo : Nat) (s : Int) (R : List Nat) : GSpec := ⟨fun v w => ∃ gm b u, v = .pointer (some ⟨gm, 0, none⟩) ∧ lo ≤ gm ∧ Blk w gm 67 #[.int .i64 s, .map (some b), u] ∧ lo ≤ b ∧ ValMap w b 0 noKeys ∧ Own w lo 28 1 encR u R,
  fun v w w' ⟨gm, b, u, h1, h2, h3, h4, h5, h6⟩ hb => ⟨gm, b, u, h1, h2, blk_then h3 hb, h4, h5.then_ hb, h6.then_ hb⟩⟩
theorem run_makeMap (w : World) : (Instr.makeMap 65 none).run Tryd.prog w = .ok (.map (some w.heap.size)) (w.alloc (.map #[] 0)) := by kernel_rfl
theorem run_build0 (w : World) : (Instr.buildSlice 23 0 #[]).run Tryd.prog w = .ok (.slice (some ⟨w.heap.size, 0, none⟩) 0 0) (w.alloc (.cells #[] 28)) := by kernel_rfl
theorem run_buildM (w : World) (s : Int) (b : Nat) (A : Option Addr) (n c : Nat) : (Instr.build 67 #[(0, .int .i64 s), (1, .map (some b)), (2, .slice A n c)]).run Tryd.prog w = .ok (.agg #[.int .i64 s, .map (some b), .slice A n c]) w := by kernel_rfl
theorem run_boxM (w : World) (s : Int) (b : Nat) (A : Option Addr) (n c : Nat) : (Instr.box 67 (.agg #[.int .i64 s, .map (some b), .slice A n c])).run Tryd.prog w = .ok (.pointer (some ⟨w.heap.size, 0, none⟩)) (w.alloc (.cells #[.int .i64 s, .map (some b), .slice A n c] 67)) := by kernel_rfl
theorem run_edge1 (w : World) (y : Edg) : (Instr.buildSlice 22 1 #[(0, .agg (edgC y))]).run Tryd.prog w = .ok (.slice (some ⟨w.heap.size, 0, none⟩) 1 1) (w.alloc (.cells (edgC y) 53)) := by kernel_rfl
theorem run_buildW (w : World) (gm : Nat) : (Instr.build 71 #[(0, .pointer (some ⟨gm, 0, none⟩)), (3, .bool true)]).run Tryd.prog w = .ok (.agg (walkC gm (.slice none 0 0) 0 true)) w := by kernel_rfl
theorem run_boxW (w : World) (gm : Nat) : (Instr.box 71 (.agg (walkC gm (.slice none 0 0) 0 true))).run Tryd.prog w = .ok (.pointer (some ⟨w.heap.size, 0, none⟩)) (w.alloc (.cells (walkC gm (.slice none 0 0) 0 true) 71)) := by kernel_rfl
theorem info_r3 : (Tryd.prog.info? 28).map (fun i => (i.zero, i.size, i.bytes)) = some (some (.int .u32 0), 1, 4) := by kernel_rfl
section
variable {ops : Array Oper} {S : Nat → GSpec} {Q : Exit → Act → World → Prop} {i : Nat} {o : Oper} {a : Act} {w : World}
theorem gs_makeMap (hw : Region.wanted o (yielded ops a.tmps) = true) (ho : o.op = .makeMap 65 none) {lo : Nat} (hlo : lo ≤ w.heap.size) (hp : ∀ v w', (mapS lo).p v w' → (S i).p v w') : GStep Tryd.prog ops S Q i o a w :=
  gs_run hw (v := .map (some w.heap.size)) (by unfold execOp; simp only [ho, Option.map_none, Sem.run_bind, run_makeMap, Result.andThen_ok, Sem.run_pure]) (below_alloc (Below.refl _ _) _) (hp _ _ ⟨_, rfl, hlo, ValMap.new w rfl⟩)
theorem gs_build0 (hw : Region.wanted o (yielded ops a.tmps) = true) (ho : o.op = .buildSlice 23 0 #[]) {lo : Nat} (hlo : lo ≤ w.heap.size) (hp : ∀ v w', (emptyS lo).p v w' → (S i).p v w') : GStep Tryd.prog ops S Q i o a w :=
  gs_run hw (v := .slice (some ⟨w.heap.size, 0, none⟩) 0 0) (by unfold execOp; simp only [ho, List.map_toArray, List.map_nil, Sem.run_bind, run_build0, Result.andThen_ok, Sem.run_pure]) (below_alloc (Below.refl _ _) _) (hp _ _ ⟨_, rfl, own_empty w _ _ _ hlo⟩)
theorem gs_append_row (hw : Region.wanted o (yielded ops a.tmps) = true) (x y : Operand) (ho : o.op = .call { callee := .builtin .append, args := #[x, y], argTypes := #[23, 23] }) {lo : Nat} (hlo : lo ≤ w.heap.size) (hx : (emptyS lo).p (a.eval x) w)
    (B : Nat) (A : Option Addr) (m c : Nat) (R : List Nat) (hy : a.eval y = .slice A m c) (hm : m = R.length) (hr : SliceOf w B 1 encR A R) (h0 : 0 < m) (hb : m ≤ 1099511627776) (hp : ∀ v w', (rowS lo R).p v w' → (S i).p v w') : GStep Tryd.prog ops S Q i o a w := by
  obtain ⟨g, hv, hown⟩ := hx
  obtain ⟨i0, hi0, hz0, hz1, hz2⟩ := info_parts info_r3
  rw [hv] at hown
  obtain ⟨v', w', hrun, h2, h3⟩ := run_append_new (P := Tryd.prog) w lo 23 o.type 28 i0 _ 1 4 Tryd.underlying23 hi0 hz0 hz1 hz2 rfl (by decide) encR_size encR_one g hown B A m c R hm hr h0 (by unfold maxLen; omega) (by omega) hlo
  refine gs_run hw (v := v') (w' := w') ?_ h3 (hp _ _ h2)
  unfold execOp
  simp only [ho, resolve, invoke, builtin, Sem.run_bind, Sem.run_pure, Result.andThen_ok, List.map_toArray, List.map_cons, List.map_nil, hv, hy, hrun]
theorem gs_buildM (hw : Region.wanted o (yielded ops a.tmps) = true) (x y z : Operand) (ho : o.op = .build 67 #[(0, x), (1, y), (2, z)]) {lo : Nat} (s : Int) (R : List Nat) (hx : a.eval x = .int .i64 s) (hy : (mapS lo).p (a.eval y) w) (hz : (rowS lo R).p (a.eval z) w)
    (hp : ∀ v w', (machS lo s R).p v w' → (S i).p v w') : GStep Tryd.prog ops S Q i o a w := by
  obtain ⟨b, hv, hlb, hm⟩ := hy
  have hz' : Own w lo 28 1 encR (a.eval z) R := hz
  obtain ⟨A, c, hu, _, _⟩ := hz'.shape
  refine gs_run hw (v := .agg #[.int .i64 s, .map (some b), a.eval z]) ?_ (Below.refl _ _) (hp _ _ ⟨b, _, rfl, hlb, hm, hz'⟩)
  unfold execOp
  simp only [ho, List.map_toArray, List.map_cons, List.map_nil, hx, hv, hu, Sem.run_bind, run_buildM, Result.andThen_ok, Sem.run_pure]
theorem gs_boxM (hw : Region.wanted o (yielded ops a.tmps) = true) (x : Operand) (ho : o.op = .box 67 x) {lo : Nat} (hlo : lo ≤ w.heap.size) (s : Int) (R : List Nat) (hx : (machS lo s R).p (a.eval x) w)
    (hp : ∀ v w', (boxS lo s R).p v w' → (S i).p v w') : GStep Tryd.prog ops S Q i o a w := by
  obtain ⟨b, u, hv, hlb, hm, ho2⟩ := hx
  obtain ⟨A, c, hu, _, _⟩ := ho2.shape
  subst hu
  have hB : Below w.heap.size w (w.alloc (.cells #[.int .i64 s, .map (some b), .slice A R.length c] 67)) := below_alloc (Below.refl _ _) _
  refine gs_run hw (v := .pointer (some ⟨w.heap.size, 0, none⟩)) ?_ hB (hp _ _ ⟨_, b, _, rfl, hlo, Blk.new _ _ _, hlb, hm.then_ hB, ho2.then_ hB⟩)
  unfold execOp
  simp only [ho, hv, Sem.run_bind, run_boxM, Result.andThen_ok, Sem.run_pure]
end
end Go.Proofs.YtgahdookojbbiaaDoor
