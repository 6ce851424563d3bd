/- heronlaw07.known. No condition beyond those named in each lemma. -/
import Derived.Test.YtgahdookojbbiaaNodes
namespace Go.Proofs.Ytgahdookojbbiaa
open Go.RowKit Go.Maps
set_option linter.unusedVariables false
set_option linter.unusedSimpArgs false
attribute [local go_sem] Oper.semAt_some

def x120 : BSet := bit 120
theorem x120_eq : (setC 0).setIfInBounds 1 (.int .u64 72057594037927936) = setC x120 := by kernel_rfl
def starN : Nd := .mk 5 0 [.mk 2 x120 [] 0 0] 0 (-1)
def starF : NF := ⟨4, [⟨1, 0, 1, 0⟩, ⟨2, 1, 2, x120⟩, ⟨1, 2, 1, 0⟩, ⟨1, 1, 3, 0⟩], [0, 0, 0, 8]⟩
theorem star_build : buildF starN 3 = (starF, 0) := by rfl
theorem star_union : (unionF [starF, starF]).2 = 0 ∧ (unionF [starF, starF]).1.s = 9 ∧ (unionF [starF, starF]).1.E.length = 10 ∧ rightF (unionF [starF, starF]).1 = true := by decide
theorem build_byte (w : World) : (Instr.build 27 #[(0, .int .i64 2), (1, .agg (setC x120))]).run Try.prog w = .ok (.agg (nodeC 2 x120 none 0 0 0 0)) w := by kernel_rfl
theorem build_star (w : World) (A : Option Addr) (n c : Nat) : (Instr.build 27 #[(0, .int .i64 5), (2, .slice A n c), (4, .int .i64 (-1))]).run Try.prog w = .ok (.agg (nodeC 5 0 A n c 0 (-1))) w := by kernel_rfl
theorem bs_node (w : World) : (Instr.buildSlice 25 1 #[(0, .agg (nodeC 2 x120 none 0 0 0 0))]).run Try.prog w = .ok (.slice (some ⟨w.heap.size, 0, none⟩) 1 1) (w.alloc (.cells (nodeC 2 x120 none 0 0 0 0) 27)) := by kernel_rfl
section
variable {ops : Array Oper} {rest : List Oper} {o : Oper} {a : Act} {w : World} {Q : Exit → Act → World → Prop}
theorem wl_build_byte (hgd : o.guard = none) (x : Operand) (ho : o.op = .build 27 #[(0, .const (.int .i64 2)), (1, x)]) (hx : a.eval x = .agg (setC x120)) (h : wpList Try.prog ops Q rest (a.put o.dst (.agg (nodeC 2 x120 none 0 0 0 0))) w) : wpList Try.prog ops Q (o :: rest) a w := by
  have e : (#[(0, Operand.const (Value.int .i64 2)), (1, x)].map fun p : Nat × Operand => (p.1, a.eval p.2)) = #[(0, Value.int .i64 2), (1, .agg (setC x120))] := by simp [hx]; rfl
  exact wl_run hgd (v := .agg (nodeC 2 x120 none 0 0 0 0)) (by unfold execOp; simp only [ho, e, Sem.run_bind, build_byte, Result.andThen_ok, Sem.run_pure]) h
theorem wl_build_star (hgd : o.guard = none) (x : Operand) (ho : o.op = .build 27 #[(0, .const (.int .i64 5)), (2, x), (4, .const (.int .i64 (-1)))]) (A : Option Addr) (n c : Nat) (hx : a.eval x = .slice A n c) (h : wpList Try.prog ops Q rest (a.put o.dst (.agg (nodeC 5 0 A n c 0 (-1)))) w) : wpList Try.prog ops Q (o :: rest) a w := by
  have e : (#[(0, Operand.const (Value.int .i64 5)), (2, x), (4, Operand.const (Value.int .i64 (-1)))].map fun p : Nat × Operand => (p.1, a.eval p.2)) = #[(0, Value.int .i64 5), (2, .slice A n c), (4, .int .i64 (-1))] := by simp [hx]; exact ⟨rfl, rfl⟩
  exact wl_run hgd (v := .agg (nodeC 5 0 A n c 0 (-1))) (by unfold execOp; simp only [ho, e, Sem.run_bind, build_star, Result.andThen_ok, Sem.run_pure]) h
theorem wl_bs_node (hgd : o.guard = none) (x : Operand) (ho : o.op = .buildSlice 25 1 #[(0, x)]) (hx : a.eval x = .agg (nodeC 2 x120 none 0 0 0 0)) (h : wpList Try.prog ops Q rest (a.put o.dst (.slice (some ⟨w.heap.size, 0, none⟩) 1 1)) (w.alloc (.cells (nodeC 2 x120 none 0 0 0 0) 27))) : wpList Try.prog ops Q (o :: rest) a w :=
  wl_run hgd (v := .slice (some ⟨w.heap.size, 0, none⟩) 1 1) (by unfold execOp; simp only [ho, List.map_toArray, List.map_cons, List.map_nil, hx, Sem.run_bind, bs_node, Result.andThen_ok, Sem.run_pure]) h
theorem ret_node {fn : Func} {p : Tmp} {g : Nat} {kd : Int} {st : BSet} {A : Option Addr} {n c : Nat} {mi ma : Int} (hres : fn.results = #[.cell p 27])
    (hp : a.tmps.getD p undef = .pointer (some ⟨g, 0, none⟩)) (hb : Blk w g 27 (nodeC kd st A n c mi ma))
    (hdf : a.defers = []) {R : Ending → World → Prop} (hR : R (.returned (.agg (nodeC kd st A n c mi ma))) w) : bodyPost Try.prog fn R .ret a w :=
  ret_cell hres _ hp hb Try.underlying27 rfl (info_node.trans rfl) hdf hR
end
theorem num_any (v : Int) (w : World) : Calls Try.prog 36 #[.int .i64 v] w fun e w' => e = .returned (.int .i64 v) ∧ w' = w := by
  go_enter Try.func36, Try.ntmps36
  go_wp2_with (fail)
  go_ret
  exact ⟨rfl, rfl⟩
set_option maxRecDepth 100000 in
set_option maxHeartbeats 4000000 in
theorem byteSet_any (w : World) : Calls Try.prog 35 #[.int .u8 120] w fun e w' => e = .returned (.agg (nodeC 2 x120 none 0 0 0 0)) ∧ Below w.heap.size w w' := by
  go_enter Try.func35, Try.ntmps35
  go_upto_region 3 with (fail)
  have h2 : Blk ((w.alloc (.cells #[.int .i64 0, .int .u64 0, .int .u64 0, .int .u64 0, .int .u64 0, .slice none 0 0, .int .i64 0, .int .i64 0] 27)).alloc (.cells #[.int .u64 0, .int .u64 72057594037927936, .int .u64 0, .int .u64 0] 24)) w.heap.size 27 (nodeC 0 0 none 0 0 0 0) := (Blk.new w _ _).alloc _
  have h3 : Blk ((w.alloc (.cells #[.int .i64 0, .int .u64 0, .int .u64 0, .int .u64 0, .int .u64 0, .slice none 0 0, .int .i64 0, .int .i64 0] 27)).alloc (.cells #[.int .u64 0, .int .u64 72057594037927936, .int .u64 0, .int .u64 0] 24)) (w.heap.size + 1) 24 (setC x120) := Blk.new' _ _ _ (by simp)
  have hB1 := below_alloc (below_alloc (Below.refl w.heap.size w) (.cells #[.int .i64 0, .int .u64 0, .int .u64 0, .int .u64 0, .int .u64 0, .slice none 0 0, .int .i64 0, .int .i64 0] 27)) (.cells #[.int .u64 0, .int .u64 72057594037927936, .int .u64 0, .int .u64 0] 24)
  obtain ⟨w1, hw1⟩ : ∃ y, y = (w.alloc (.cells #[.int .i64 0, .int .u64 0, .int .u64 0, .int .u64 0, .int .u64 0, .slice none 0 0, .int .i64 0, .int .i64 0] 27)).alloc (.cells #[.int .u64 0, .int .u64 72057594037927936, .int .u64 0, .int .u64 0] 24) := ⟨_, rfl⟩
  rw [← hw1] at h2 h3 hB1 ⊢
  clear hw1
  go_wp2_with (first | (refine wl_load_set rfl _ rfl _ rfl x120 h3 ?_) | (refine wl_build_byte rfl _ rfl rfl ?_) | (refine wl_store_node rfl _ _ rfl _ _ _ _ _ _ _ _ rfl rfl _ rfl h2 ?_; intro w2 h5 hg2))
  have hBe := hB1.grown hg2 hB1.size (fun j e => by injection e with e; omega)
  refine ret_node rfl rfl h5 rfl ?_
  exact ⟨rfl, hBe⟩
theorem bs_nfa2 (w : World) (A : Option Addr) (c : Nat) (B : Option Addr) (d : Nat) : (Instr.buildSlice 28 2 #[(0, .agg (nfaC 4 A 4 c B 4 d)), (1, .agg (nfaC 4 A 4 c B 4 d))]).run Try.prog w = .ok (.slice (some ⟨w.heap.size, 0, none⟩) 2 2) (w.alloc (.cells #[.int .i64 4, .slice A 4 c, .slice B 4 d, .int .i64 4, .slice A 4 c, .slice B 4 d] 34)) := by kernel_rfl
theorem wl_bs_nfa2 {ops : Array Oper} {rest : List Oper} {o : Oper} {a : Act} {w : World} {Q : Exit → Act → World → Prop} (hgd : o.guard = none) (x y : Operand) (ho : o.op = .buildSlice 28 2 #[(0, x), (1, y)]) (A : Option Addr) (c : Nat) (B : Option Addr) (d : Nat) (hx : a.eval x = .agg (nfaC 4 A 4 c B 4 d)) (hy : a.eval y = .agg (nfaC 4 A 4 c B 4 d))
    (h : wpList Try.prog ops Q rest (a.put o.dst (.slice (some ⟨w.heap.size, 0, none⟩) 2 2)) (w.alloc (.cells #[.int .i64 4, .slice A 4 c, .slice B 4 d, .int .i64 4, .slice A 4 c, .slice B 4 d] 34))) : wpList Try.prog ops Q (o :: rest) a w :=
  wl_run hgd (v := .slice (some ⟨w.heap.size, 0, none⟩) 2 2) (by unfold execOp; simp only [ho, List.map_toArray, List.map_cons, List.map_nil, hx, hy, Sem.run_bind, bs_nfa2, Result.andThen_ok, Sem.run_pure]) h
theorem two_rows {w : World} {g : Nat} {A : Option Addr} {c : Nat} {B : Option Addr} {d : Nat} (h : Blk w g 34 #[.int .i64 4, .slice A 4 c, .slice B 4 d, .int .i64 4, .slice A 4 c, .slice B 4 d]) : SliceOf w w.heap.size 3 MV.C (some ⟨g, 0, none⟩) [⟨starF, A, c, B, d⟩, ⟨starF, A, c, B, d⟩] := by
  refine .inr ⟨g, 0, rfl, h.lt, fun i hi => ?_⟩
  have key : ∀ j v, (nfaC 4 A 4 c B 4 d)[j]? = some v → j < 3 := fun j v hv => by
    rcases Nat.lt_or_ge j 3 with h1 | h1
    · exact h1
    · rw [Array.getElem?_eq_none (by exact h1)] at hv; cases hv
  match i, hi with
  | 0, _ =>
    intro j v hv
    have hj := key j v hv
    refine h.cellv ?_
    match j, hj, hv with
    | 0, _, hv => exact hv
    | 1, _, hv => exact hv
    | 2, _, hv => exact hv
  | 1, _ =>
    intro j v hv
    have hj := key j v hv
    refine h.cellv ?_
    match j, hj, hv with
    | 0, _, hv => exact hv
    | 1, _, hv => exact hv
    | 2, _, hv => exact hv
theorem build_edge3 (w : World) (x y z : Int) : (Instr.build 69 #[(0, .int .i64 x), (1, .int .i64 y), (2, .int .i64 z)]).run Try.prog w = .ok (.agg (edgC ⟨x, y, z, 0⟩)) w := by kernel_rfl
theorem build_nfa1 (w : World) (x : Int) : (Instr.build 34 #[(0, .int .i64 x)]).run Try.prog w = .ok (.agg (nfaC x none 0 0 none 0 0)) w := by kernel_rfl
section
variable {ops : Array Oper} {rest : List Oper} {o : Oper} {a : Act} {w : World} {Q : Exit → Act → World → Prop}
theorem wl_build_edge3 (hgd : o.guard = none) (x y z : Int) (ho : o.op = .build 69 #[(0, .const (.int .i64 x)), (1, .const (.int .i64 y)), (2, .const (.int .i64 z))]) (h : wpList Try.prog ops Q rest (a.put o.dst (.agg (edgC ⟨x, y, z, 0⟩))) w) : wpList Try.prog ops Q (o :: rest) a w := by
  have e : (#[(0, Operand.const (Value.int .i64 x)), (1, Operand.const (Value.int .i64 y)), (2, Operand.const (Value.int .i64 z))].map fun p : Nat × Operand => (p.1, a.eval p.2)) = #[(0, Value.int .i64 x), (1, .int .i64 y), (2, .int .i64 z)] := by simp; exact ⟨rfl, rfl, rfl⟩
  exact wl_run hgd (v := .agg (edgC ⟨x, y, z, 0⟩)) (by unfold execOp; simp only [ho, e, Sem.run_bind, build_edge3, Result.andThen_ok, Sem.run_pure]) h
theorem wl_build_edge3_g (hw : Region.wanted o (yielded ops a.tmps) = true) (x y z : Int) (ho : o.op = .build 69 #[(0, .const (.int .i64 x)), (1, .const (.int .i64 y)), (2, .const (.int .i64 z))]) (h : wpList Try.prog ops Q rest (a.put o.dst (.agg (edgC ⟨x, y, z, 0⟩))) w) : wpList Try.prog ops Q (o :: rest) a w :=
  wpList_w hw (wl_build_edge3 (o := { o with guard := none }) rfl x y z ho h)
theorem wl_build_nfa1 (hgd : o.guard = none) (x : Int) (ho : o.op = .build 34 #[(0, .const (.int .i64 x))]) (h : wpList Try.prog ops Q rest (a.put o.dst (.agg (nfaC x none 0 0 none 0 0))) w) : wpList Try.prog ops Q (o :: rest) a w := by
  have e : (#[(0, Operand.const (Value.int .i64 x))].map fun p : Nat × Operand => (p.1, a.eval p.2)) = #[(0, Value.int .i64 x)] := by simp; rfl
  exact wl_run hgd (v := .agg (nfaC x none 0 0 none 0 0)) (by unfold execOp; simp only [ho, e, Sem.run_bind, build_nfa1, Result.andThen_ok, Sem.run_pure]) h
theorem wl_build_nfa1_g (hw : Region.wanted o (yielded ops a.tmps) = true) (x : Int) (ho : o.op = .build 34 #[(0, .const (.int .i64 x))]) (h : wpList Try.prog ops Q rest (a.put o.dst (.agg (nfaC x none 0 0 none 0 0))) w) : wpList Try.prog ops Q (o :: rest) a w :=
  wpList_w hw (wl_build_nfa1 (o := { o with guard := none }) rfl x ho h)
theorem wl_eql_edge (hgd : o.guard = none) (x y : Operand) (t2 : TypeId) (ho : o.op = .binOp .eql 69 x y t2) (p q : Edg) (hx : a.eval x = .agg (edgC p)) (hy : a.eval y = .agg (edgC q)) (z : Bool) (hz : decide (p = q) = z)
    (h : wpList Try.prog ops Q rest (a.put o.dst (.bool z)) w) : wpList Try.prog ops Q (o :: rest) a w :=
  wl_bin hgd _ _ _ x y ho _ _ _ hx hy (run_eqGuard_agg w _ _ _ _ _ _ guard_edge) (run_eql_edge p q w) (hz ▸ h)
theorem wl_eql_edge_g (hw : Region.wanted o (yielded ops a.tmps) = true) (x y : Operand) (t2 : TypeId) (ho : o.op = .binOp .eql 69 x y t2) (p q : Edg) (hx : a.eval x = .agg (edgC p)) (hy : a.eval y = .agg (edgC q)) (z : Bool) (hz : decide (p = q) = z)
    (h : wpList Try.prog ops Q rest (a.put o.dst (.bool z)) w) : wpList Try.prog ops Q (o :: rest) a w :=
  wpList_w hw (wl_eql_edge (o := { o with guard := none }) rfl x y t2 ho p q hx hy z hz h)
theorem wl_load_edge_at_g (hw : Region.wanted o (yielded ops a.tmps) = true) (x : Operand) (ho : o.op = .load 69 x) (b off : Nat) (hx : a.eval x = .pointer (some ⟨b, off, none⟩)) (y : Edg) (hr : RowAt w b off (edgC y))
    (h : wpList Try.prog ops Q rest (a.put o.dst (.agg (edgC y))) w) : wpList Try.prog ops Q (o :: rest) a w :=
  wpList_w hw (wl_load_edge_at (o := { o with guard := none }) rfl x ho b off hx y hr h)
theorem wl_load_nfa_g (hw : Region.wanted o (yielded ops a.tmps) = true) (x : Operand) (ho : o.op = .load 34 x)
    (g : Nat) (hx : a.eval x = .pointer (some ⟨g, 0, none⟩)) (s : Int) (A : Option Addr) (n c : Nat) (B : Option Addr) (m d : Nat) (hb : Blk w g 34 (nfaC s A n c B m d))
    (h : wpList Try.prog ops Q rest (a.put o.dst (.agg (nfaC s A n c B m d))) w) : wpList Try.prog ops Q (o :: rest) a w :=
  wpList_w hw (wl_load_nfa (o := { o with guard := none }) rfl x ho g hx s A n c B m d hb h)
end
set_option maxRecDepth 100000 in
set_option maxHeartbeats 16000000 in
theorem known_any (w : World) : Calls Try.prog 8 #[] w fun e w' => e = .returned (.bool true) ∧ Below w.heap.size w w' := by
  go_enter Try.func8, Try.ntmps8
  go_upto_region 2 with (first | (go_at_call 35; refine (byteSet_any _).mono ?_; rintro e w1 ⟨rfl, hB1⟩) | (refine wl_bs_node rfl _ rfl rfl ?_) | (refine wl_build_star rfl _ rfl _ _ _ rfl ?_) | (refine wl_store_node rfl _ _ rfl _ _ _ _ _ _ _ _ rfl rfl (nodeC 0 0 none 0 0 0 0) rfl (Blk.new' _ _ _ (by simp)) ?_; intro w3 h1 hg3))
  have hl0 := Blk.new w1 27 (nodeC 2 x120 none 0 0 0 0)
  have hBa : Below w1.heap.size w1 (w1.alloc (.cells (nodeC 2 x120 none 0 0 0 0) 27)) := below_alloc (Below.refl _ _) _
  have hBb := below_grown (below_alloc (Below.refl _ (w1.alloc (.cells (nodeC 2 x120 none 0 0 0 0) 27))) (.cells #[.int .i64 0, .int .u64 0, .int .u64 0, .int .u64 0, .int .u64 0, .slice none 0 0, .int .i64 0, .int .i64 0] 27)) hg3 (by simp)
  have hl3 := blk_then hl0 hBb
  have hBw := below_then (below_then hB1 hBa) hBb
  have hsl := slice_one (enc := fun x : Array Value => x) (size := 8) (y := nodeC 2 x120 none 0 0 0 0) hl3
  have hin : NdIn w3 w3.heap.size starN (nodeC 5 0 (some ⟨w1.heap.size, 0, none⟩) 1 1 0 (-1)) :=
    .mk 5 0 [.mk 2 x120 [] 0 0] 0 (-1) _ 1 1 [nodeC 2 x120 none 0 0 0 0] rfl rfl (by omega) hsl (fun i h h2 => by
      have hi : i = 0 := by simp at h; exact h
      subst hi
      exact .mk 2 x120 [] 0 0 none 0 0 [] rfl rfl (by omega) (.inl rfl) (fun i h => by simp at h))
  have hb := build_any starN 3 w3.heap.size w3 _ hin (Nat.le_refl _)
  rw [star_build] at hb
  have Hb := Lib.hid hb
  clear hb hin hsl hl3 hBa hBb hl0 hg3
  go_upto_region 3 with (first | (refine wl_load_node rfl _ rfl _ rfl _ _ _ _ _ _ _ h1 ?_) | (go_at_call 10; refine Hb.out.mono ?_; rintro e w4 ⟨hB4, v, rfl, A, c, B, d, rfl, hsE, hsR⟩) | (refine wl_store_nfa rfl _ _ rfl _ 4 A 4 c B 4 d rfl rfl 0 none 0 0 none 0 0 (Blk.new _ _ _) ?_; intro w5 h2 hg5) | (go_at_call 10; refine park ?_))
  have hB5 := below_grown (below_alloc (Below.refl _ w4) (.cells #[.int .i64 0, .slice none 0 0, .slice none 0 0] 34)) hg5 (Nat.le_refl _)
  have hsE5 := (hsE.below hB5).more hB5.size
  have hsR5 := (hsR.below hB5).more hB5.size
  have hBw5 := below_then (below_then hBw hB4) hB5
  obtain ⟨g2, hg2⟩ : ∃ g, g = w4.heap.size := ⟨_, rfl⟩
  rw [← hg2] at h2
  rw [← hg2]
  clear hg2 hg5 hsE hsR hB5 hB4 h1 Hb hBw
  have hW := Blk.new w5 34 #[.int .i64 4, .slice A 4 c, .slice B 4 d, .int .i64 4, .slice A 4 c, .slice B 4 d]
  have hBa : Below w5.heap.size w5 (w5.alloc (.cells #[.int .i64 4, .slice A 4 c, .slice B 4 d, .int .i64 4, .slice A 4 c, .slice B 4 d] 34)) := below_alloc (Below.refl _ _) _
  have htwo := two_rows hW
  have hu := union_any (some ⟨w5.heap.size, 0, none⟩) 2 2 [⟨starF, A, c, B, d⟩, ⟨starF, A, c, B, d⟩] rfl (by omega) _ htwo (fun x hx => by
    have hx2 : x = ⟨starF, A, c, B, d⟩ := by simp at hx; exact hx
    subst hx2
    exact ⟨(hsE5.below hBa).more hBa.size, (hsR5.below hBa).more hBa.size, by show 4 ≤ 1048576; omega, by show 4 ≤ 1048576; omega⟩)
  obtain ⟨q0, q1, q2, q3⟩ := star_union
  have hmap : ([⟨starF, A, c, B, d⟩, ⟨starF, A, c, B, d⟩] : List MV).map MV.F = [starF, starF] := rfl
  rw [hmap, q0] at hu
  obtain ⟨U, hU⟩ : ∃ U, (unionF [starF, starF]).1 = U := ⟨_, rfl⟩
  rw [hU] at hu q1 q2 q3
  have q4 : U.R.length = 9 := by have := (right_parts q3).1; omega
  have hu2 := hu.mono (R' := fun e w' => Below (w5.alloc (.cells #[.int .i64 4, .slice A 4 c, .slice B 4 d, .int .i64 4, .slice A 4 c, .slice B 4 d] 34)).heap.size (w5.alloc (.cells #[.int .i64 4, .slice A 4 c, .slice B 4 d, .int .i64 4, .slice A 4 c, .slice B 4 d] 34)) w' ∧ ∃ A2 c2 B2 d2, e = .returned (.tuple #[.agg (nfaC 9 A2 10 c2 B2 9 d2), .int .i64 0]) ∧ SliceOf w' w'.heap.size 7 edgC A2 U.E) (by
    rintro e w' ⟨hb, v, rfl, A2, c2, B2, d2, rfl, h1, _⟩
    refine ⟨hb, A2, c2, B2, d2, ?_, h1⟩
    rw [q1, q2, q4])
  have Hu := Lib.hid hu2
  have Q2 := Lib.hid q2
  have Q3 := Lib.hid q3
  have Q1 := Lib.hid q1
  have Q4 := Lib.hid q4
  clear hu hu2 q0 q1 q2 q3 q4 hU hmap htwo
  go_upto_region 4 with (first | (refine wl_load_nfa rfl _ rfl _ rfl 4 A 4 c B 4 d h2 ?_) | (refine wl_bs_nfa2 rfl _ _ rfl A c B d rfl rfl ?_) | (go_at_call 14; refine Hu.out.mono ?_; rintro e w6 ⟨hB6, A2, c2, B2, d2, rfl, hsU⟩) | (refine wl_store_nfa rfl _ _ rfl _ 9 A2 10 c2 B2 9 d2 rfl rfl 0 none 0 0 none 0 0 (Blk.new _ _ _) ?_; intro w7 h4 hg7) | (go_at_call 14; refine park ?_))
  have hB7 := below_grown (below_alloc (Below.refl _ w6) (.cells #[.int .i64 0, .slice none 0 0, .slice none 0 0] 34)) hg7 (Nat.le_refl _)
  have hB57 := below_then (below_then hBa hB6) hB7
  have h27 := blk_then h2 hB57
  have hsE7 := (hsE5.below hB57).more hB57.size
  have hsR7 := (hsR5.below hB57).more hB57.size
  have hsU7 := (hsU.below hB7).more hB7.size
  have hBw7 := below_then hBw5 hB57
  obtain ⟨g4, hg4⟩ : ∃ g, g = w6.heap.size := ⟨_, rfl⟩
  rw [← hg4] at h4
  try rw [← hg4]
  clear hg4 hg7 hB7 hB57 hsU hB6 h2 hsE5 hsR5 hBa hW Hu hBw5
  obtain ⟨be, oe, rfl, hbe, hre⟩ := hsE7.at_ (by decide)
  obtain ⟨bR, oR, rfl, hbR, hrR⟩ := hsR7.at_ (by decide)
  have e0 : RowAt w7 be oe (edgC ⟨1, 0, 1, 0⟩) := by
    have := hre 0 (by decide)
    rw [Nat.zero_mul, Nat.add_zero] at this
    exact this
  have e2 : RowAt w7 be (oe + 14) (edgC ⟨1, 2, 1, 0⟩) := hre 2 (by decide)
  have hright := right_any 9 A2 10 c2 B2 9 d2 U.E Q2.out.symm (by rw [Q2.out]; omega) w7 hsU7
  have hrb : rightB 9 U.E 9 = true := by have := Q3.out; unfold rightF at this; rw [Q1.out, Q4.out] at this; exact this
  rw [hrb] at hright
  have Hright := Lib.hid hright
  have c20 : w7.cell? ⟨g2, 0, none⟩ = some (.int .i64 4) := h27.cellv (i := 0) rfl
  have c21 : w7.cell? ⟨g2, 1, none⟩ = some (.slice (some ⟨be, oe, none⟩) 4 c) := h27.cellv (i := 1) rfl
  have c22 : w7.cell? ⟨g2, 2, none⟩ = some (.slice (some ⟨bR, oR, none⟩) 4 d) := h27.cellv (i := 2) rfl
  have c40 : w7.cell? ⟨g4, 0, none⟩ = some (.int .i64 9) := h4.cellv (i := 0) rfl
  have c41 : w7.cell? ⟨g4, 1, none⟩ = some (.slice A2 10 c2) := h4.cellv (i := 1) rfl
  have cr3 : w7.cell? ⟨bR, oR + 3, none⟩ = some (.int .u32 8) := hrR 3 (by decide) 0 _ rfl
  clear hright hrb hre hrR hsU7 hsE7 hsR7
  go_upto_region 6 with (first | (go_at_call 36; refine (num_any _ _).mono ?_; rintro e w9 ⟨rfl, rfl⟩) | (refine wl_load_nfa_g (want_yes rfl rfl rfl) _ rfl _ rfl 9 A2 10 c2 B2 9 d2 h4 ?_) | (go_at_call 16; refine Hright.out.mono ?_; rintro e w8 ⟨rfl, hB8⟩) | (go_at_call 16; refine park ?_))
  have f0 := e0.keep (hB8.block be hbe)
  have f2 := e2.keep (hB8.block be hbe)
  have k21 : w8.cell? ⟨g2, 1, none⟩ = some (.slice (some ⟨be, oe, none⟩) 4 c) := (blk_then h27 hB8).cellv (i := 1) rfl
  have hBw8 := below_then hBw7 hB8
  have hright1 := right_any 1 none 0 0 none 0 0 [] rfl (by simp) w8 (.inl rfl)
  have hrb1 : rightB 1 [] 0 = false := by decide
  rw [hrb1] at hright1
  have Hright1 := Lib.hid hright1
  clear hright1 hrb1 c20 c21 c22 c40 c41 cr3 e0 e2 h27 h4 hB8 hBw7 Hright
  go_wp2_with (first | (refine wl_load_edge_at rfl _ rfl _ _ rfl _ f0 ?_) | (refine wl_load_edge_at_g (want_yes rfl rfl rfl) _ rfl _ _ rfl _ f2 ?_) | (refine wl_build_edge3 rfl 1 0 1 rfl ?_) | (refine wl_build_edge3_g (want_yes rfl rfl rfl) 1 2 1 rfl ?_) | (refine wl_eql_edge rfl _ _ _ rfl _ _ rfl rfl true (decide_eq_true rfl) ?_) | (refine wl_eql_edge_g (want_yes rfl rfl rfl) _ _ _ rfl _ _ rfl rfl true (decide_eq_true rfl) ?_) | (refine wl_build_nfa1_g (want_yes rfl rfl rfl) 1 rfl ?_) | (go_at_call 16; refine Hright1.out.mono ?_; rintro e w10 ⟨rfl, hB10⟩) | (go_at_call 16; refine park ?_))
  go_ret
  exact ⟨rfl, below_then hBw8 hB10⟩
end Go.Proofs.Ytgahdookojbbiaa
