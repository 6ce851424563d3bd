/- heronlaw04.known: what the document gives. No condition beyond those named in each lemma. -/
import Derived.Test.YtajainmldcnaeaaLwB
namespace Go.Proofs.Ytajainmldcnaeaa
open Go.RowKit Go.Maps
set_option linter.unusedVariables false
set_option linter.unusedSimpArgs false
attribute [local go_sem] Oper.semAt_some

theorem NdIn.more {w : World} {B B' : Nat} (hB : B ≤ B') {nd : Nd} {cs : Array Value} (h : NdIn w B nd cs) : NdIn w B' nd cs := by
  induction h with
  | mk kd st l mi ma A n c cl hn hcl hmax hs hr ih => exact .mk kd st l mi ma A n c cl hn hcl hmax (hs.more hB) ih
theorem NdIn.leaf (w : World) (B : Nat) (kd : Int) (st : BSet) (mi ma : Int) : NdIn w B (.mk kd st [] mi ma) (nodeC kd st none 0 0 mi ma) :=
  .mk kd st [] mi ma none 0 0 [] rfl rfl (by omega) (.inl rfl) (fun i h => absurd h (by simp))
theorem NdIn.list1 {w : World} {B g : Nat} {a : Nd} {x : Array Value} (ha : NdIn w B a x) (hb : Blk w g 27 x) (hg : g < B) (kd : Int) (st : BSet) (mi ma : Int) : NdIn w B (.mk kd st [a] mi ma) (nodeC kd st (some ⟨g, 0, none⟩) 1 1 mi ma) := by
  refine .mk kd st [a] mi ma _ 1 1 [x] rfl rfl (by omega) (.inr ⟨g, 0, rfl, hg, fun i hi => ?_⟩) (fun i h h2 => ?_)
  · have e : i = 0 := by simpa using hi
    subst e
    exact RowAt.of_blk hb
  · have e : i = 0 := by simpa using h
    subst e
    exact ha
theorem NdIn.list2 {w : World} {B g : Nat} {a b : Nd} {x y : NV} (ha : NdIn w B a x.C) (hb : NdIn w B b y.C) (hg : Blk w g 27 (x.C ++ y.C)) (hgB : g < B) (kd : Int) (st : BSet) (mi ma : Int) : NdIn w B (.mk kd st [a, b] mi ma) (nodeC kd st (some ⟨g, 0, none⟩) 2 2 mi ma) := by
  refine .mk kd st [a, b] mi ma _ 2 2 [x.C, y.C] rfl rfl (by omega) (.inr ⟨g, 0, rfl, hgB, fun i hi => ?_⟩) (fun i h h2 => ?_)
  · match i, hi with
    | 0, _ => exact row_of_append (A := #[]) (C := y.C) (by simpa using hg)
    | 1, _ => exact row_of_append (A := x.C) (C := #[]) (by simpa using hg)
  · match i, h with
    | 0, _ => exact ha
    | 1, _ => exact hb
theorem build_nodes2 (x y : NV) (w : World) : (Instr.buildSlice 25 2 #[(0, .agg x.C), (1, .agg y.C)]).run Try.prog w = .ok (.slice (some ⟨w.heap.size, 0, none⟩) 2 2) (w.alloc (.cells (x.C ++ y.C) 27)) := by kernel_rfl
theorem build_nmax (kd ma : Int) (A : Option Addr) (n c : Nat) (w : World) : (Instr.build 27 #[(0, .int .i64 kd), (2, .slice A n c), (4, .int .i64 ma)]).run Try.prog w = .ok (.agg (NV.mk kd 0 A n c 0 ma).C) w := by kernel_rfl
section
variable {ops : Array Oper} {rest : List Oper} {o : Oper} {a : Act} {w : World} {Q : Exit → Act → World → Prop}
theorem wl_build2n (hgd : o.guard = none) (p q : Operand) (ho : o.op = .buildSlice 25 2 #[(0, p), (1, q)]) (x y : NV) (hx : a.eval p = .agg x.C) (hy : a.eval q = .agg y.C)
    (h : wpList Try.prog ops Q rest (a.put o.dst (.slice (some ⟨w.heap.size, 0, none⟩) 2 2)) (w.alloc (.cells (x.C ++ y.C) 27))) : wpList Try.prog ops Q (o :: rest) a w :=
  wpList_plain hgd fun _ hK => by
    have e : (#[(0, p), (1, q)] : Array (Nat × Operand)).map (fun (i, x) => (i, a.eval x)) = #[(0, .agg x.C), (1, .agg y.C)] := by simp [hx, hy]
    unfold Oper.wp execOp
    simp only [ho, e, Sem.run_bind, build_nodes2, Result.andThen_ok, Sem.run_pure]
    exact hK _ _ h
end
theorem wl_load_nv_g {ops : Array Oper} {rest : List Oper} {o : Oper} {a : Act} {w : World} {Q : Exit → Act → World → Prop} (hw : Region.wanted o (yielded ops a.tmps) = true) (x : Operand) (ho : o.op = .load 27 x) (g : Nat) (hx : a.eval x = .pointer (some ⟨g, 0, none⟩)) (y : NV) (hb : Blk w g 27 y.C)
    (h : wpList Try.prog ops Q rest (a.put o.dst (.agg y.C)) w) : wpList Try.prog ops Q (o :: rest) a w := wl_load_node_g hw x ho g hx _ _ _ _ _ _ _ hb h
/-- a slice of two nodes, and what is built on it -/
def two_nS (x y : NV) : GSpec := ⟨fun v w => ∃ g, v = .slice (some ⟨g, 0, none⟩) 2 2 ∧ Blk w g 27 (x.C ++ y.C), fun v w w' ⟨g, h1, h2⟩ hB => ⟨g, h1, blk_then h2 hB⟩⟩
def seq_nS (x y : NV) : GSpec := ⟨fun v w => ∃ g, v = .agg (NV.mk 3 0 (some ⟨g, 0, none⟩) 2 2 0 0).C ∧ Blk w g 27 (x.C ++ y.C), fun v w w' ⟨g, h1, h2⟩ hB => ⟨g, h1, blk_then h2 hB⟩⟩
theorem alloc_nodeN (w : World) : (Instr.alloc 27 true (.tuple #[])).run Try.prog w = .ok (.pointer (some ⟨w.heap.size, 0, none⟩)) (w.alloc (.cells zeroV.C 27)) := by kernel_rfl
/-- the tree of 'a[b-d]*|' -/
def wantN : Nd := .mk 4 0 [.mk 3 0 [.mk 2 (ofB [97]) [] 0 0, .mk 5 0 [.mk 2 (ofB [98, 99, 100]) [] 0 0] 0 (-1)] 0 0, .mk 1 0 [] 0 0] 0 0
theorem known_parse1 : Ere.parseR ⟨#[97, 91, 98, 45, 100, 93, 42, 124]⟩ = (wantN, 0, 0) := by kernel_rfl
theorem known_parse2 : Ere.parseR ⟨#[40, 97, 40, 98]⟩ = (Ere.zeroN, 2, 42) := by kernel_rfl
theorem known_places : placesN wantN = 8 := by kernel_rfl
theorem enter_set4 (args : Array Value) (w : World) : (callFunc 36 args).run Try.prog w = .ok (.enter 36 args) w := by kernel_rfl
section
variable {ops : Array Oper} {S : Nat → GSpec} {Q : Exit → Act → World → Prop} {i : Nat} {o : Oper} {a : Act} {w : World}
theorem gs_two_n (hw : Region.wanted o (yielded ops a.tmps) = true) (p q : Operand) (ho : o.op = .buildSlice 25 2 #[(0, p), (1, q)]) (x y : NV) (hx : a.eval p = .agg x.C) (hy : a.eval q = .agg y.C) (hp : ∀ v w', (two_nS x y).p v w' → (S i).p v w') : GStep Try.prog ops S Q i o a w :=
  gs_run hw (v := .slice (some ⟨w.heap.size, 0, none⟩) 2 2) (w' := w.alloc (.cells (x.C ++ y.C) 27)) (by
    have e : (#[(0, p), (1, q)] : Array (Nat × Operand)).map (fun (i, x) => (i, a.eval x)) = #[(0, .agg x.C), (1, .agg y.C)] := by simp [hx, hy]
    unfold execOp
    simp only [ho, e, Sem.run_bind, build_nodes2, Result.andThen_ok, Sem.run_pure]) (below_alloc (Below.refl _ _) _) (hp _ _ ⟨_, rfl, Blk.new _ _ _⟩)
theorem gs_seq_n (hw : Region.wanted o (yielded ops a.tmps) = true) (p : Operand) (ho : o.op = .build 27 #[(0, .const (.int .i64 3)), (2, p)]) (x y : NV) (hx : (two_nS x y).p (a.eval p) w) (hp : ∀ v w', (seq_nS x y).p v w' → (S i).p v w') : GStep Try.prog ops S Q i o a w := by
  obtain ⟨g, hv, hb⟩ := hx
  exact gs_run hw (v := .agg (NV.mk 3 0 (some ⟨g, 0, none⟩) 2 2 0 0).C) (w' := w) (by
    have e : (#[(0, Operand.const (.int .i64 3)), (2, p)] : Array (Nat × Operand)).map (fun (i, x) => (i, a.eval x)) = #[(0, .int .i64 3), (2, .slice (some ⟨g, 0, none⟩) 2 2)] := by simp [hv]; rfl
    unfold execOp
    simp only [ho, e, Sem.run_bind, build_nlist, Result.andThen_ok, Sem.run_pure]) (Below.refl _ _) (hp _ _ ⟨g, rfl, hb⟩)
theorem gs_alloc_node (hw : Region.wanted o (yielded ops a.tmps) = true) (ho : o.op = .alloc 27) (b0 : Nat) (hb : b0 ≤ w.heap.size) (hp : ∀ v w', (newS b0 27 zeroV.C).p v w' → (S i).p v w') : GStep Try.prog ops S Q i o a w :=
  gs_run hw (v := .pointer (some ⟨w.heap.size, 0, none⟩)) (w' := w.alloc (.cells zeroV.C 27)) (by unfold execOp; simp only [ho, Sem.run_bind, alloc_nodeN, Result.andThen_ok, Sem.run_pure]) (below_alloc (Below.refl _ _) _) (hp _ _ ⟨_, rfl, hb, Blk.new _ _ _⟩)
end
set_option maxRecDepth 100000 in
set_option maxHeartbeats 8000000 in
theorem known4_any (w : World) (hM : Mx w) : Calls Try.prog 11 #[] w fun e w' => e = .returned (.bool true) ∧ Below w.heap.size w w' := by
  have kP1 := parse_any ⟨#[97, 91, 98, 45, 100, 93, 42, 124]⟩ w hM
  have kP2 := parse_any ⟨#[40, 97, 40, 98]⟩
  rw [known_parse1] at kP1
  rw [known_parse2] at kP2
  simp only at kP1 kP2
  replace kP2 := Lib.hid kP2
  go_enter Try.func11, Try.ntmps11
  go_upto_region 2 with (first
    | (go_at_call 12; refine kP1.mono ?_; rintro e w1 ⟨hB1, x1, bs1, rfl, hO1⟩)
    | (refine wl_store_nv rfl _ _ rfl _ x1 rfl rfl _ rfl (Blk.new _ _ zeroC) ?_; intro w2 k1 hg2))
  have hB2 : Below w.heap.size w w2 := below_grown (below_alloc hB1 _) hg2 hB1.size
  have hO2 := hO1.keep (w' := w2) (fun b hb => (hg2.block b (by have := (hO1.lt b hb).2; simp; omega) (fun e => by injection e with e; have := (hO1.lt b hb).2; omega)).trans (Below.heap_alloc w1 _ b (hO1.lt b hb).2))
  obtain ⟨gA, hgA⟩ : ∃ y, y = w1.heap.size := ⟨_, rfl⟩
  rw [← hgA] at k1 ⊢
  have i1 := hO2.toIn
  clear hgA hg2 hB1 hO1 kP1 hO2
  have kS := set4_any ⟨#[98, 99, 100]⟩ w2 (by decide)
  rw [show ofB (⟨#[98, 99, 100]⟩ : ByteArray).data.toList = ofB [98, 99, 100] from rfl] at kS
  go_upto_region 3 with (first
    | (go_at_call 36; refine kS.mono ?_; rintro e w3 ⟨rfl, hB3⟩)
    | (refine wl_build1n rfl _ rfl (NV.mk 2 (ofB [98, 99, 100]) none 0 0 0 0) rfl ?_)
    | (refine wl_build_node rfl _ rfl (NV.mk 5 0 (some ⟨w3.heap.size, 0, none⟩) 1 1 0 (-1)) #[(0, .int .i64 5), (2, .slice (some ⟨w3.heap.size, 0, none⟩) 1 1), (4, .int .i64 (-1))] rfl (fun w => build_nmax 5 (-1) _ 1 1 w) ?_)
    | (refine wl_store_nv rfl _ _ rfl _ (NV.mk 5 0 (some ⟨w3.heap.size, 0, none⟩) 1 1 0 (-1)) rfl rfl _ rfl (Blk.new' _ _ zeroC (by simp)) ?_; intro w4 k4 hg4))
  have hBc := below_alloc (below_alloc (Below.refl w3.heap.size w3) (.cells (NV.mk 2 (ofB [98, 99, 100]) none 0 0 0 0).C 27)) (.cells zeroC 27)
  have hB4 : Below w3.heap.size w3 w4 := below_grown hBc hg4 (by simp)
  have kb : Blk w4 w3.heap.size 27 (NV.mk 2 (ofB [98, 99, 100]) none 0 0 0 0).C := ((Blk.new w3 27 (NV.mk 2 (ofB [98, 99, 100]) none 0 0 0 0).C).alloc _).grown hg4 (fun e => by injection e with e; omega)
  have i4 : NdIn w4 w4.heap.size (.mk 5 0 [.mk 2 (ofB [98, 99, 100]) [] 0 0] 0 (-1)) (NV.mk 5 0 (some ⟨w3.heap.size, 0, none⟩) 1 1 0 (-1)).C := NdIn.list1 (NdIn.leaf _ _ _ _ _ _) kb kb.lt _ _ _ _
  have hB34 := below_then hB3 hB4
  replace k1 := blk_then k1 hB34
  replace i1 := (i1.then_ hB34 (Nat.le_refl _)).more hB34.size
  replace hB2 := below_then hB2 hB34
  obtain ⟨gB, hgB⟩ : ∃ y, y = w3.heap.size + 1 := ⟨_, rfl⟩
  rw [← hgB] at k4 ⊢
  obtain ⟨vT, hvT⟩ : ∃ v, v = NV.mk 5 0 (some ⟨w3.heap.size, 0, none⟩) 1 1 0 (-1) := ⟨_, rfl⟩
  rw [← hvT] at k4 i4
  try rw [← hvT]
  clear hgB hg4 hBc hB3 hB4 hB34 kb kS
  simp only [Act.put]
  have kS := fun W => set4_any ⟨#[97]⟩ W (by decide)
  rw [show ofB (⟨#[97]⟩ : ByteArray).data.toList = ofB [97] from rfl] at kS
  refine wp_region_steps 5 [eqS (.agg (NV.mk 2 (ofB [97]) none 0 0 0 0).C), eqS (.agg vT.C), two_nS (NV.mk 2 (ofB [97]) none 0 0 0 0) vT, seq_nS (NV.mk 2 (ofB [97]) none 0 0 0 0) vT, newS w4.heap.size 27 zeroV.C] [18, 19, 20, 21, 5] follows_mixed (by kernel_rfl) (by kernel_rfl) ?_ ?_
  · refine Steps.cons (fun a' w' hG hB dep => gs_call (want_none rfl) _ _ _ rfl enter_set4 #[.string ⟨#[97]⟩] (map1 rfl) (ret_step (kS _) (fun _ => rfl))) ?_
    refine Steps.cons (fun a' w' hG hB dep => gs_load_nd (want_none rfl) _ rfl gB 0 (hG.other 4 rfl) vT.C ⟨RowAt.of_blk (blk_then k4 hB), rfl⟩ rfl) ?_
    refine Steps.cons (fun a' w' hG hB dep => gs_two_n (want_none rfl) _ _ rfl (NV.mk 2 (ofB [97]) none 0 0 0 0) vT (dep 0 rfl 18 rfl) (dep 1 rfl 19 rfl) (fun _ _ h => h)) ?_
    refine Steps.cons (fun a' w' hG hB dep => gs_seq_n (want_none rfl) _ rfl (NV.mk 2 (ofB [97]) none 0 0 0 0) vT (dep 2 rfl 20 rfl) (fun _ _ h => h)) ?_
    refine Steps.cons (fun a' w' hG hB dep => gs_alloc_node (want_none rfl) rfl w4.heap.size hB.size (fun _ _ h => h)) ?_
    exact Steps.nil
  intro u w5 hB5 ans
  obtain ⟨gs, u21, ks⟩ := (ans 3 21 (by decide) rfl : (seq_nS (NV.mk 2 (ofB [97]) none 0 0 0 0) vT).p (u 21) w5)
  obtain ⟨g5, u5, hg5, k5⟩ := (ans 4 5 (by decide) rfl : (newS w4.heap.size 27 zeroV.C).p (u 5) w5)
  clear ans
  simp only [putAll, List.foldl_cons, List.foldl_nil, Act.put, List.setIfInBounds_toArray, List.set_cons_zero, List.set_cons_succ, u21, u5]
  clear u21 u5
  simp only [List.drop]
  refine wl_store_nv rfl _ _ rfl g5 (NV.mk 3 0 (some ⟨gs, 0, none⟩) 2 2 0 0) rfl rfl _ rfl k5 ?_
  intro w6 k6 hg6
  refine wpList_nil ?_
  have hB6 : Below w4.heap.size w4 w6 := below_grown hB5 hg6 hg5
  have hgs : gs ≠ g5 := by
    rintro rfl
    unfold Blk at ks k5
    rw [ks] at k5
    injection k5 with k5
    injection k5 with k5
    have := congrArg Array.size k5
    simp [NV.size] at this
  have ks6 := ks.grown hg6 (fun e => by injection e with e; exact hgs e)
  have i6 : NdIn w6 w6.heap.size (.mk 3 0 [.mk 2 (ofB [97]) [] 0 0, .mk 5 0 [.mk 2 (ofB [98, 99, 100]) [] 0 0] 0 (-1)] 0 0) (NV.mk 3 0 (some ⟨gs, 0, none⟩) 2 2 0 0).C :=
    NdIn.list2 (x := (NV.mk 2 (ofB [97]) none 0 0 0 0)) (y := vT) (NdIn.leaf _ _ _ _ _ _) ((i4.then_ hB6 (Nat.le_refl _)).more hB6.size) ks6 ks6.lt _ _ _ _
  replace k1 := blk_then k1 hB6
  replace i1 := (i1.then_ hB6 (Nat.le_refl _)).more hB6.size
  replace hB2 := below_then hB2 hB6
  obtain ⟨vS, hvS⟩ : ∃ v, v = NV.mk 3 0 (some ⟨gs, 0, none⟩) 2 2 0 0 := ⟨_, rfl⟩
  rw [← hvS] at k6 i6
  try rw [← hvS]
  clear k5 hvS hvT ks ks6 hgs hB5 hB6 hg6 hg5 i4 k4 kS
  simp only [Act.put]
  go_upto_region 5 with (first
    | (refine wl_load_nv rfl _ rfl g5 rfl vS k6 ?_)
    | (refine wl_build_node rfl _ rfl (NV.mk 1 0 none 0 0 0 0) #[(0, .int .i64 1)] rfl (fun w => build_leaf 1 w) ?_)
    | (refine wl_build2n rfl _ _ rfl vS (NV.mk 1 0 none 0 0 0 0) rfl rfl ?_)
    | (refine wl_build_node rfl _ rfl (NV.mk 4 0 (some ⟨w6.heap.size, 0, none⟩) 2 2 0 0) #[(0, .int .i64 4), (2, .slice (some ⟨w6.heap.size, 0, none⟩) 2 2)] rfl (fun w => build_nlist 4 _ 2 2 w) ?_)
    | (refine wl_store_nv rfl _ _ rfl _ (NV.mk 4 0 (some ⟨w6.heap.size, 0, none⟩) 2 2 0 0) rfl rfl _ rfl (Blk.new' _ _ zeroC (by simp)) ?_; intro w8 k8 hg8))
  have hBc := below_alloc (below_alloc (Below.refl w6.heap.size w6) (.cells (vS.C ++ (NV.mk 1 0 none 0 0 0 0).C) 27)) (.cells zeroC 27)
  have hB8 : Below w6.heap.size w6 w8 := below_grown hBc hg8 (by omega)
  have kb : Blk w8 w6.heap.size 27 (vS.C ++ (NV.mk 1 0 none 0 0 0 0).C) := ((Blk.new w6 27 (vS.C ++ (NV.mk 1 0 none 0 0 0 0).C)).alloc _).grown hg8 (fun e => by injection e with e; omega)
  have i8 : NdIn w8 w8.heap.size wantN (NV.mk 4 0 (some ⟨w6.heap.size, 0, none⟩) 2 2 0 0).C := NdIn.list2 (x := vS) (y := NV.mk 1 0 none 0 0 0 0) ((i6.then_ hB8 (Nat.le_refl _)).more hB8.size) (NdIn.leaf _ _ _ _ _ _) kb kb.lt _ _ _ _
  replace k1 := blk_then k1 hB8
  replace i1 := (i1.then_ hB8 (Nat.le_refl _)).more hB8.size
  replace hB2 := below_then hB2 hB8
  obtain ⟨g6, hg6⟩ : ∃ y, y = w6.heap.size + 1 := ⟨_, rfl⟩
  obtain ⟨vW, hvW⟩ : ∃ v, v = NV.mk 4 0 (some ⟨w6.heap.size, 0, none⟩) 2 2 0 0 := ⟨_, rfl⟩
  rw [← hg6] at k8 ⊢
  rw [← hvW] at k8 i8
  clear hg6 hvW hg8 hBc hB8 kb i6 k6
  have kP := kP2.out w8 (hM.then_ hB2)
  clear kP2
  go_upto_region 6 with (first
    | (go_at_call 12; refine kP.mono ?_; rintro e w9 ⟨hB9, x9, bs9, rfl, hO9⟩)
    | (refine wl_store_nv rfl _ _ rfl _ x9 rfl rfl _ rfl (Blk.new' _ _ zeroC (by simp)) ?_; intro w10 k10 hg10))
  have hBd : Below w8.heap.size w8 w10 := below_grown (below_alloc hB9 (.cells zeroC 27)) hg10 (by have := hB9.size; omega)
  replace k1 := blk_then k1 hBd
  replace k8 := blk_then k8 hBd
  replace i1 := (i1.then_ hBd (Nat.le_refl _)).more hBd.size
  replace i8 := (i8.then_ hBd (Nat.le_refl _)).more hBd.size
  replace hB2 := below_then hB2 hBd
  clear hBd hB9 hg10 hO9 k10 kP
  have kSame := same4_any wantN wantN w10.heap.size w10 x1.C vW.C i1 i8 (Nat.le_refl _)
  rw [sameB_self] at kSame
  have kPl := fun W (hB : Below w10.heap.size w10 W) => placesE_any wantN W.heap.size W vW.C ((i8.then_ hB (Nat.le_refl _)).more hB.size) (Nat.le_refl _)
  rw [known_places] at kPl
  have k8w := fun W (hB : Below w10.heap.size w10 W) => blk_then k8 hB
  replace kPl := Lib.hid kPl
  replace k8w := Lib.hid k8w
  have kN0 := num4_any 0 w10
  have kN42 := fun W => num4_any 42 W
  replace kN42 := Lib.hid kN42
  clear i1 i8
  go_wp2_with (first
    | (go_at_call 18; refine kN0.mono ?_; rintro e w11 ⟨rfl, hw11⟩; rw [hw11]; clear hw11 kN0)
    | (refine wl_load_nv_g (want_yes rfl rfl rfl) _ rfl _ rfl x1 k1 ?_; clear k1)
    | (refine wl_load_nv_g (want_yes rfl rfl rfl) _ rfl _ rfl vW k8 ?_; clear k8)
    | (go_at_call 14; refine kSame.mono ?_; rintro e w12 ⟨rfl, hB12⟩; have k8b := k8w.out w12 hB12; clear kSame)
    | (go_at_call 18; refine (kN42.out _).mono ?_; rintro e w13 ⟨rfl, hw13⟩; rw [hw13]; clear hw13)
    | (refine wl_load_nv_g (want_yes rfl rfl rfl) _ rfl _ rfl vW k8b ?_; clear k8b)
    | (go_at_call 16; refine (kPl.out w12 hB12).mono ?_; rintro e w14 ⟨rfl, hB14⟩))
  go_ret
  exact ⟨rfl, below_then (below_then hB2 hB12) hB14⟩
end Go.Proofs.Ytajainmldcnaeaa
