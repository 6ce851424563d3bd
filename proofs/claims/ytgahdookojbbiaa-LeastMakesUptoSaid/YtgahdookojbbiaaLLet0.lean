/- heronlaw11.letter: the table that looks for one byte. No condition beyond those named in each lemma. -/
import Derived.Test.YtgahdookojbbiaaLSm
namespace Go.Proofs.Ytgahdookojbbiaa
open Go.RowKit Go.Maps
set_option linter.unusedVariables false
set_option linter.unusedSimpArgs false
attribute [local go_sem] Oper.semAt_some

theorem run_i2 (u v : Int) (w : World) : (Instr.buildSlice 57 2 #[(0, .int .i64 u), (1, .int .i64 v)]).run Try.prog w = .ok (.slice (some ⟨w.heap.size, 0, none⟩) 2 2) (w.alloc (.cells #[.int .i64 u, .int .i64 v] 3)) := by kernel_rfl
theorem wl_i2 {ops : Array Oper} {rest : List Oper} {o : Oper} {a : Act} {w : World} {Q : Exit → Act → World → Prop} (hgd : o.guard = none) (x0 x1 : Operand) (ho : o.op = .buildSlice 57 2 #[(0, x0), (1, x1)]) (u v : Int) (h0 : a.eval x0 = .int .i64 u) (h1 : a.eval x1 = .int .i64 v)
    (h : ∀ g w', Blk w' g 3 #[.int .i64 u, .int .i64 v] → w.heap.size ≤ g → Below w.heap.size w w' → wpList Try.prog ops Q rest (a.put o.dst (.slice (some ⟨g, 0, none⟩) 2 2)) w') : wpList Try.prog ops Q (o :: rest) a w :=
  wpList_plain hgd fun _ hK => by
    have e : (#[(0, x0), (1, x1)] : Array (Nat × Operand)).map (fun (i, x) => (i, a.eval x)) = #[(0, .int .i64 u), (1, .int .i64 v)] := by simp [h0, h1]
    unfold Oper.wp execOp
    simp only [ho, e, Sem.run_bind, run_i2, Result.andThen_ok, Sem.run_pure]
    exact hK _ _ (h _ _ (Blk.new _ _ _) (Nat.le_refl _) (below_alloc (Below.refl _ _) _))
theorem run_u2 (u v : Int) (w : World) : (Instr.buildSlice 32 2 #[(0, .int .u32 u), (1, .int .u32 v)]).run Try.prog w = .ok (.slice (some ⟨w.heap.size, 0, none⟩) 2 2) (w.alloc (.cells #[.int .u32 u, .int .u32 v] 55)) := by kernel_rfl
theorem wl_u2 {ops : Array Oper} {rest : List Oper} {o : Oper} {a : Act} {w : World} {Q : Exit → Act → World → Prop} (hgd : o.guard = none) (x0 x1 : Operand) (ho : o.op = .buildSlice 32 2 #[(0, x0), (1, x1)]) (u v : Int) (h0 : a.eval x0 = .int .u32 u) (h1 : a.eval x1 = .int .u32 v)
    (h : ∀ g w', Blk w' g 55 #[.int .u32 u, .int .u32 v] → w.heap.size ≤ g → Below w.heap.size w w' → wpList Try.prog ops Q rest (a.put o.dst (.slice (some ⟨g, 0, none⟩) 2 2)) w') : wpList Try.prog ops Q (o :: rest) a w :=
  wpList_plain hgd fun _ hK => by
    have e : (#[(0, x0), (1, x1)] : Array (Nat × Operand)).map (fun (i, x) => (i, a.eval x)) = #[(0, .int .u32 u), (1, .int .u32 v)] := by simp [h0, h1]
    unfold Oper.wp execOp
    simp only [ho, e, Sem.run_bind, run_u2, Result.andThen_ok, Sem.run_pure]
    exact hK _ _ (h _ _ (Blk.new _ _ _) (Nat.le_refl _) (below_alloc (Below.refl _ _) _))
theorem run_u3 (u v t : Int) (w : World) : (Instr.buildSlice 32 3 #[(0, .int .u32 u), (1, .int .u32 v), (2, .int .u32 t)]).run Try.prog w = .ok (.slice (some ⟨w.heap.size, 0, none⟩) 3 3) (w.alloc (.cells #[.int .u32 u, .int .u32 v, .int .u32 t] 55)) := by kernel_rfl
theorem wl_u3 {ops : Array Oper} {rest : List Oper} {o : Oper} {a : Act} {w : World} {Q : Exit → Act → World → Prop} (hgd : o.guard = none) (x0 x1 x2 : Operand) (ho : o.op = .buildSlice 32 3 #[(0, x0), (1, x1), (2, x2)]) (u v t : Int) (h0 : a.eval x0 = .int .u32 u) (h1 : a.eval x1 = .int .u32 v) (h2 : a.eval x2 = .int .u32 t)
    (h : ∀ g w', Blk w' g 55 #[.int .u32 u, .int .u32 v, .int .u32 t] → w.heap.size ≤ g → Below w.heap.size w w' → wpList Try.prog ops Q rest (a.put o.dst (.slice (some ⟨g, 0, none⟩) 3 3)) w') : wpList Try.prog ops Q (o :: rest) a w :=
  wpList_plain hgd fun _ hK => by
    have e : (#[(0, x0), (1, x1), (2, x2)] : Array (Nat × Operand)).map (fun (i, x) => (i, a.eval x)) = #[(0, .int .u32 u), (1, .int .u32 v), (2, .int .u32 t)] := by simp [h0, h1, h2]
    unfold Oper.wp execOp
    simp only [ho, e, Sem.run_bind, run_u3, Result.andThen_ok, Sem.run_pure]
    exact hK _ _ (h _ _ (Blk.new _ _ _) (Nat.le_refl _) (below_alloc (Below.refl _ _) _))
theorem run_r2 (u v : (Option Addr × Nat × Nat)) (w : World) : (Instr.buildSlice 45 2 #[(0, .slice u.1 u.2.1 u.2.2), (1, .slice v.1 v.2.1 v.2.2)]).run Try.prog w = .ok (.slice (some ⟨w.heap.size, 0, none⟩) 2 2) (w.alloc (.cells #[.slice u.1 u.2.1 u.2.2, .slice v.1 v.2.1 v.2.2] 57)) := by kernel_rfl
theorem wl_r2 {ops : Array Oper} {rest : List Oper} {o : Oper} {a : Act} {w : World} {Q : Exit → Act → World → Prop} (hgd : o.guard = none) (x0 x1 : Operand) (ho : o.op = .buildSlice 45 2 #[(0, x0), (1, x1)]) (u v : (Option Addr × Nat × Nat)) (h0 : a.eval x0 = .slice u.1 u.2.1 u.2.2) (h1 : a.eval x1 = .slice v.1 v.2.1 v.2.2)
    (h : ∀ g w', Blk w' g 57 #[.slice u.1 u.2.1 u.2.2, .slice v.1 v.2.1 v.2.2] → w.heap.size ≤ g → Below w.heap.size w w' → wpList Try.prog ops Q rest (a.put o.dst (.slice (some ⟨g, 0, none⟩) 2 2)) w') : wpList Try.prog ops Q (o :: rest) a w :=
  wpList_plain hgd fun _ hK => by
    have e : (#[(0, x0), (1, x1)] : Array (Nat × Operand)).map (fun (i, x) => (i, a.eval x)) = #[(0, .slice u.1 u.2.1 u.2.2), (1, .slice v.1 v.2.1 v.2.2)] := by simp [h0, h1]
    unfold Oper.wp execOp
    simp only [ho, e, Sem.run_bind, run_r2, Result.andThen_ok, Sem.run_pure]
    exact hK _ _ (h _ _ (Blk.new _ _ _) (Nat.le_refl _) (below_alloc (Below.refl _ _) _))
theorem run_r3 (u v t : (Option Addr × Nat × Nat)) (w : World) : (Instr.buildSlice 45 3 #[(0, .slice u.1 u.2.1 u.2.2), (1, .slice v.1 v.2.1 v.2.2), (2, .slice t.1 t.2.1 t.2.2)]).run Try.prog w = .ok (.slice (some ⟨w.heap.size, 0, none⟩) 3 3) (w.alloc (.cells #[.slice u.1 u.2.1 u.2.2, .slice v.1 v.2.1 v.2.2, .slice t.1 t.2.1 t.2.2] 57)) := by kernel_rfl
theorem wl_r3 {ops : Array Oper} {rest : List Oper} {o : Oper} {a : Act} {w : World} {Q : Exit → Act → World → Prop} (hgd : o.guard = none) (x0 x1 x2 : Operand) (ho : o.op = .buildSlice 45 3 #[(0, x0), (1, x1), (2, x2)]) (u v t : (Option Addr × Nat × Nat)) (h0 : a.eval x0 = .slice u.1 u.2.1 u.2.2) (h1 : a.eval x1 = .slice v.1 v.2.1 v.2.2) (h2 : a.eval x2 = .slice t.1 t.2.1 t.2.2)
    (h : ∀ g w', Blk w' g 57 #[.slice u.1 u.2.1 u.2.2, .slice v.1 v.2.1 v.2.2, .slice t.1 t.2.1 t.2.2] → w.heap.size ≤ g → Below w.heap.size w w' → wpList Try.prog ops Q rest (a.put o.dst (.slice (some ⟨g, 0, none⟩) 3 3)) w') : wpList Try.prog ops Q (o :: rest) a w :=
  wpList_plain hgd fun _ hK => by
    have e : (#[(0, x0), (1, x1), (2, x2)] : Array (Nat × Operand)).map (fun (i, x) => (i, a.eval x)) = #[(0, .slice u.1 u.2.1 u.2.2), (1, .slice v.1 v.2.1 v.2.2), (2, .slice t.1 t.2.1 t.2.2)] := by simp [h0, h1, h2]
    unfold Oper.wp execOp
    simp only [ho, e, Sem.run_bind, run_r3, Result.andThen_ok, Sem.run_pure]
    exact hK _ _ (h _ _ (Blk.new _ _ _) (Nat.le_refl _) (below_alloc (Below.refl _ _) _))
theorem build_dfa3 (a b c : Option Addr × Nat × Nat) (w : World) : (Instr.build 47 #[(1, .slice a.1 a.2.1 a.2.2), (2, .slice b.1 b.2.1 b.2.2), (3, .slice c.1 c.2.1 c.2.2)]).run Try.prog w = .ok (.agg (dfaC (fun _ => 0) a.1 a.2.1 a.2.2 b.1 b.2.1 b.2.2 c.1 c.2.1 c.2.2)) w := by unfold dfaC; kernel_rfl
theorem wl_build_dfa3 {ops : Array Oper} {rest : List Oper} {o : Oper} {a : Act} {w : World} {Q : Exit → Act → World → Prop} (hgd : o.guard = none) (x y z : Operand) (ho : o.op = .build 47 #[(1, x), (2, y), (3, z)]) (A B C : Option Addr) (n c m d k e : Nat) (hx : a.eval x = .slice A n c) (hy : a.eval y = .slice B m d) (hz : a.eval z = .slice C k e)
    (h : wpList Try.prog ops Q rest (a.put o.dst (.agg (dfaC (fun _ => 0) A n c B m d C k e))) w) : wpList Try.prog ops Q (o :: rest) a w :=
  wpList_plain hgd fun _ hK => by
    have e1 : (#[(1, x), (2, y), (3, z)] : Array (Nat × Operand)).map (fun (i, x) => (i, a.eval x)) = #[(1, .slice A n c), (2, .slice B m d), (3, .slice C k e)] := by simp [hx, hy, hz]
    unfold Oper.wp execOp
    simp only [ho, e1, Sem.run_bind, build_dfa3 (A, n, c) (B, m, d) (C, k, e), Result.andThen_ok, Sem.run_pure]
    exact hK _ _ h
theorem slice_two {α : Type} {enc : α → Array Value} {w : World} {t : TypeId} {g : Nat} {u v : α} {x y : Value} (h : Blk w g t #[x, y]) (hu : enc u = #[x]) (hv : enc v = #[y]) : SliceOf w w.heap.size 1 enc (some ⟨g, 0, none⟩) [u, v] :=
  .inr ⟨g, 0, rfl, h.lt, fun i hi => by
    simp only [List.length_cons, List.length_nil] at hi
    match i, hi with
    | 0, _ => intro j z hz; simp only [List.getElem_cons_zero, hu] at hz; match j, hz with | 0, hz => simp at hz; subst hz; exact h.cellv (i := 0) rfl
    | 1, _ => intro j z hz; simp only [List.getElem_cons_succ, List.getElem_cons_zero, hv] at hz; match j, hz with | 0, hz => simp at hz; subst hz; exact h.cellv (i := 1) rfl⟩
theorem slice_three {α : Type} {enc : α → Array Value} {w : World} {t : TypeId} {g : Nat} {u v s : α} {x y z0 : Value} (h : Blk w g t #[x, y, z0]) (hu : enc u = #[x]) (hv : enc v = #[y]) (hs : enc s = #[z0]) : SliceOf w w.heap.size 1 enc (some ⟨g, 0, none⟩) [u, v, s] :=
  .inr ⟨g, 0, rfl, h.lt, fun i hi => by
    simp only [List.length_cons, List.length_nil] at hi
    match i, hi with
    | 0, _ => intro j z hz; simp only [List.getElem_cons_zero, hu] at hz; match j, hz with | 0, hz => simp at hz; subst hz; exact h.cellv (i := 0) rfl
    | 1, _ => intro j z hz; simp only [List.getElem_cons_succ, List.getElem_cons_zero, hv] at hz; match j, hz with | 0, hz => simp at hz; subst hz; exact h.cellv (i := 1) rfl
    | 2, _ => intro j z hz; simp only [List.getElem_cons_succ, List.getElem_cons_zero, hs] at hz; match j, hz with | 0, hz => simp at hz; subst hz; exact h.cellv (i := 2) rfl⟩
/-- the table that looks for a byte -/
def letT (b : Nat) (wide : Bool) : Tb where
  cls i := if i = b then 1 else 0
  nx := if wide then [[0, 1], [2, 1], [2, 1]] else [[0, 1], [1, 1]]
  fo := if wide then [0, 1, 1] else [0, 1]
  en := if wide then [0, 1, 1] else [0, 1]
end Go.Proofs.Ytgahdookojbbiaa
