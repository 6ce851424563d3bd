/- Nodes in memory: their cells, loads and stores, a tree that stands below a block. No condition beyond those named in each lemma. -/
import Derived.Test.YtajainmldcnaeaaNodeP
import Derived.Test.YtajainmldcnaeaaStore
import Derived.Deep.CutBlock
namespace Go.Proofs.Ytajainmldcnaeaa
open Go.RowKit Go.Maps
set_option linter.unusedVariables false
set_option linter.unusedSimpArgs false

/-- a node's cells -/
def nodeC (kd : Int) (st : BSet) (A : Option Addr) (n c : Nat) (mi ma : Int) : Array Value :=
  #[.int .i64 kd, .int .u64 (word st 0), .int .u64 (word st 1), .int .u64 (word st 2), .int .u64 (word st 3), .slice A n c, .int .i64 mi, .int .i64 ma]
theorem nodeC_size (kd : Int) (st : BSet) (A : Option Addr) (n c : Nat) (mi ma : Int) : (nodeC kd st A n c mi ma).size = 8 := rfl
theorem nodeC_one (kd : Int) (st : BSet) (A : Option Addr) (n c : Nat) (mi ma : Int) : (nodeC kd st A n c mi ma).all (·.oneCell') = true := by unfold nodeC; simp [Value.oneCell']
theorem node_st {w : World} {g : Nat} {t : TypeId} {kd : Int} {st : BSet} {A : Option Addr} {n c : Nat} {mi ma : Int} (h : Blk w g t (nodeC kd st A n c mi ma)) : RowAt w g 1 (setC st) := by
  intro j v hv
  have hj : j < 4 := by
    rcases Nat.lt_or_ge j 4 with h1 | h1
    · exact h1
    · rw [Array.getElem?_eq_none (by rw [setC_size]; exact h1)] at hv; cases hv
  rw [setC_at st j hj] at hv
  refine (h.cell (1 + j)).trans (Eq.trans ?_ hv)
  match j, hj with
  | 0, _ => rfl
  | 1, _ => rfl
  | 2, _ => rfl
  | 3, _ => rfl
theorem info_node : (Try.prog.info? 27).map (·.size) = some 8 := by kernel_rfl
theorem zero_node (w : World) : (zeroValue 27).run Try.prog w = .ok (.agg (nodeC 0 0 none 0 0 0 0)) w := by kernel_rfl
theorem under_nodes : Try.prog.underlying 25 = some (.slice (Try.prog.elem 25)) := by kernel_rfl
theorem size_nodeE (w : World) : (sizeOf (Try.prog.elem 25)).run Try.prog w = .ok 8 w := by kernel_rfl
theorem field_node_0 (b off : Nat) (w : World) : (Instr.fieldAt 27 (.pointer (some ⟨b, off, none⟩)) 0).run Try.prog w = .ok (.pointer (some ⟨b, off, none⟩)) w := by kernel_rfl
theorem field_node_1 (b off : Nat) (w : World) : (Instr.fieldAt 27 (.pointer (some ⟨b, off, none⟩)) 1).run Try.prog w = .ok (.pointer (some ⟨b, off + 1, none⟩)) w := by kernel_rfl
theorem field_node_2 (b off : Nat) (w : World) : (Instr.fieldAt 27 (.pointer (some ⟨b, off, none⟩)) 2).run Try.prog w = .ok (.pointer (some ⟨b, off + 5, none⟩)) w := by kernel_rfl
theorem field_node_3 (b off : Nat) (w : World) : (Instr.fieldAt 27 (.pointer (some ⟨b, off, none⟩)) 3).run Try.prog w = .ok (.pointer (some ⟨b, off + 6, none⟩)) w := by kernel_rfl
theorem field_node_4 (b off : Nat) (w : World) : (Instr.fieldAt 27 (.pointer (some ⟨b, off, none⟩)) 4).run Try.prog w = .ok (.pointer (some ⟨b, off + 7, none⟩)) w := by kernel_rfl
section
variable {ops : Array Oper} {rest : List Oper} {o : Oper} {a : Act} {w : World} {Q : Exit → Act → World → Prop}
theorem wl_load_node (hgd : o.guard = none) (x : Operand) (ho : o.op = .load 27 x)
    (g : Nat) (hx : a.eval x = .pointer (some ⟨g, 0, none⟩)) (kd : Int) (st : BSet) (A : Option Addr) (n c : Nat) (mi ma : Int) (hb : Blk w g 27 (nodeC kd st A n c mi ma))
    (h : wpList Try.prog ops Q rest (a.put o.dst (.agg (nodeC kd st A n c mi ma))) w) : wpList Try.prog ops Q (o :: rest) a w :=
  wpList_load_row hgd _ x ho g hx _ _ _ _ hb Try.underlying27 rfl (info_node.trans (by rw [nodeC_size])) h
theorem wl_load_node_g (hw : Region.wanted o (yielded ops a.tmps) = true) (x : Operand) (ho : o.op = .load 27 x)
    (g : Nat) (hx : a.eval x = .pointer (some ⟨g, 0, none⟩)) (kd : Int) (st : BSet) (A : Option Addr) (n c : Nat) (mi ma : Int) (hb : Blk w g 27 (nodeC kd st A n c mi ma))
    (h : wpList Try.prog ops Q rest (a.put o.dst (.agg (nodeC kd st A n c mi ma))) w) : wpList Try.prog ops Q (o :: rest) a w :=
  wpList_w hw (wl_load_node (o := { o with guard := none }) rfl x ho g hx kd st A n c mi ma hb h)
theorem wl_load_node_at (hgd : o.guard = none) (x : Operand) (ho : o.op = .load 27 x)
    (b off : Nat) (hx : a.eval x = .pointer (some ⟨b, off, none⟩)) (kd : Int) (st : BSet) (A : Option Addr) (n c : Nat) (mi ma : Int) (hr : RowAt w b off (nodeC kd st A n c mi ma))
    (h : wpList Try.prog ops Q rest (a.put o.dst (.agg (nodeC kd st A n c mi ma))) w) : wpList Try.prog ops Q (o :: rest) a w :=
  wpList_load_at hgd _ x ho b off hx _ _ hr Try.underlying27 rfl (info_node.trans (by rw [nodeC_size])) h
theorem wl_store_node (hgd : o.guard = none) (x y : Operand) (ho : o.op = .store 27 x y)
    (g : Nat) (kd : Int) (st : BSet) (A : Option Addr) (n c : Nat) (mi ma : Int) (hx : a.eval x = .pointer (some ⟨g, 0, none⟩)) (hy : a.eval y = .agg (nodeC kd st A n c mi ma)) (old : Array Value) (ho2 : old.size = 8) (hb : Blk w g 27 old)
    (h : ∀ w', Blk w' g 27 (nodeC kd st A n c mi ma) → w.grownBy w' (some g) → wpList Try.prog ops Q rest (a.put o.dst undef) w') : wpList Try.prog ops Q (o :: rest) a w :=
  wpList_store_row hgd _ x y ho g _ hx hy _ _ hb (info_node.trans (by rw [nodeC_size])) (by rw [nodeC_size, ho2]) (nodeC_one _ _ _ _ _ _ _) (h _ (hb.setRow_same _) (only_setRow (only_refl _ _) _))
theorem wl_run {P : Program} (hgd : o.guard = none) {v : Value} {w' : World} (hr : (execOp a.eval o).run P w = .ok (.value v) w') (h : wpList P ops Q rest (a.put o.dst v) w') : wpList P ops Q (o :: rest) a w :=
  wpList_plain hgd fun _ hK => by
    unfold Oper.wp
    rw [hr]
    exact hK _ _ h
theorem wl_bin {P : Program} (hgd : o.guard = none) (op : BinOp) (t t2 : TypeId) (x y : Operand) (ho : o.op = .binOp op t x y t2) (vx vy v : Value) (hx : a.eval x = vx) (hy : a.eval y = vy)
    (hg : (eqGuard op t x y vx vy).run P w = .ok () w) (hr : (binOp op t vx vy).run P w = .ok v w) (h : wpList P ops Q rest (a.put o.dst v) w) : wpList P ops Q (o :: rest) a w :=
  wl_run hgd (v := v) (by unfold execOp; simp only [ho, hx, hy, Sem.run_bind, hg, Result.andThen_ok, hr, Sem.run_pure]) h
theorem wl_eql_set (hgd : o.guard = none) (x y : Operand) (t2 : TypeId) (ho : o.op = .binOp .eql 24 x y t2) (p q : BSet) (hx : a.eval x = .agg (setC p)) (hy : a.eval y = .agg (setC q))
    (h : wpList Try.prog ops Q rest (a.put o.dst (.bool (decide (p = q)))) w) : wpList Try.prog ops Q (o :: rest) a w :=
  wl_bin hgd _ _ _ x y ho _ _ _ hx hy (run_eqGuard_agg w _ _ _ _ _ _ guard_set) (run_eql_set p q w) h
theorem wl_neq_set (hgd : o.guard = none) (x y : Operand) (t2 : TypeId) (ho : o.op = .binOp .neq 24 x y t2) (p q : BSet) (hx : a.eval x = .agg (setC p)) (hy : a.eval y = .agg (setC q))
    (h : wpList Try.prog ops Q rest (a.put o.dst (.bool (!decide (p = q)))) w) : wpList Try.prog ops Q (o :: rest) a w :=
  wl_bin hgd _ _ _ x y ho _ _ _ hx hy (run_eqGuard_agg w _ _ _ _ _ _ guard_set) (run_neq_set p q w) h
theorem wl_eql_setz (hgd : o.guard = none) (x y : Operand) (t2 : TypeId) (ho : o.op = .binOp .eql 24 x y t2) (p q : BSet) (hx : a.eval x = .agg (setC p)) (hy : a.eval y = .agg (setC q)) (z : Bool) (hz : decide (p = q) = z)
    (h : wpList Try.prog ops Q rest (a.put o.dst (.bool z)) w) : wpList Try.prog ops Q (o :: rest) a w :=
  wl_eql_set hgd x y t2 ho p q hx hy (hz ▸ h)
theorem wl_neq_setz (hgd : o.guard = none) (x y : Operand) (t2 : TypeId) (ho : o.op = .binOp .neq 24 x y t2) (p q : BSet) (hx : a.eval x = .agg (setC p)) (hy : a.eval y = .agg (setC q)) (z : Bool) (hz : decide (p = q) = z)
    (h : wpList Try.prog ops Q rest (a.put o.dst (.bool (!z))) w) : wpList Try.prog ops Q (o :: rest) a w :=
  wl_neq_set hgd x y t2 ho p q hx hy (hz ▸ h)
theorem wl_build_set0 (hgd : o.guard = none) (ho : o.op = .build 24 #[]) (h : wpList Try.prog ops Q rest (a.put o.dst (.agg (setC 0))) w) : wpList Try.prog ops Q (o :: rest) a w :=
  wl_run hgd (v := .agg (setC 0)) (by unfold execOp; simp only [ho, List.map_toArray, List.map_nil, Sem.run_bind, build_set0, Result.andThen_ok, Sem.run_pure]) h
end
/-- a tree that stands below block B -/
inductive NdIn (w : World) (B : Nat) : Nd → Array Value → Prop
  | mk (kd : Int) (st : BSet) (l : List Nd) (mi ma : Int) (A : Option Addr) (n c : Nat) (cl : List (Array Value)) (hn : n = l.length) (hcl : cl.length = l.length) (hmax : n ≤ 1099511627776)
      (hs : SliceOf w B 8 (fun x => x) A cl) (hr : ∀ (i : Nat) (h : i < l.length) (h2 : i < cl.length), NdIn w B l[i] cl[i]) : NdIn w B (.mk kd st l mi ma) (nodeC kd st A n c mi ma)
theorem NdIn.inv {w : World} {B : Nat} {kd : Int} {st : BSet} {l : List Nd} {mi ma : Int} {cs : Array Value} (h : NdIn w B (.mk kd st l mi ma) cs) :
    ∃ (A : Option Addr) (n c : Nat) (cl : List (Array Value)), cs = nodeC kd st A n c mi ma ∧ n = l.length ∧ cl.length = l.length ∧ n ≤ 1099511627776 ∧ SliceOf w B 8 (fun x => x) A cl ∧ ∀ (i : Nat) (h : i < l.length) (h2 : i < cl.length), NdIn w B l[i] cl[i] := by
  cases h with
  | mk kd st l mi ma A n c cl hn hcl hmax hs hr => exact ⟨A, n, c, cl, rfl, hn, hcl, hmax, hs, hr⟩
theorem NdIn.keep {w w' : World} {B : Nat} (hk : ∀ k, k < B → w'.heap[k]? = w.heap[k]?) {nd : Nd} {cs : Array Value} (h : NdIn w B nd cs) : NdIn w' B nd cs := by
  induction h with
  | mk kd st l mi ma A n c cl hn hcl hmax hs hr ih => exact .mk kd st l mi ma A n c cl hn hcl hmax (hs.keep hk) ih
theorem NdIn.low {w w' : World} {B : Nat} {nd : Nd} {cs : Array Value} (h : NdIn w B nd cs) (hb : Below B w w') : NdIn w' B nd cs := h.keep hb.block
theorem NdIn.then_ {w w' : World} {B : Nat} {nd : Nd} {cs : Array Value} (h : NdIn w B nd cs) (hb : Below w.heap.size w w') (hB : B ≤ w.heap.size) : NdIn w' B nd cs := h.keep fun k hk => hb.block k (by omega)
end Go.Proofs.Ytajainmldcnaeaa
