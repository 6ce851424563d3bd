/- heronlaw07.copied. No condition beyond those named in each lemma. -/
import Derived.Test.YtgahdookojbbiaaSame
namespace Go.Proofs.Ytgahdookojbbiaa
open Go.RowKit Go.Maps
set_option linter.unusedVariables false
set_option linter.unusedSimpArgs false
attribute [local go_sem] Oper.semAt_some

def edge77 : Edg := { edge0 with kd := 77 }
theorem own_empty {α : Type} {enc : α → Array Value} {size base : Nat} {e : TypeId} {w : World} (hb : base ≤ w.heap.size) : Own (w.alloc (.cells #[] e)) base e size enc (.slice (some ⟨w.heap.size, 0, none⟩) 0 0) ([] : List α) :=
  ⟨by simp [flat], .inr ⟨w.heap.size, 0, #[], rfl, hb, heap_alloc_new w _, Nat.le_refl _, by unfold maxLen; omega, by simp, by simp [flat]⟩⟩
theorem run_b0e (w : World) : (Instr.buildSlice 31 0 #[]).run Try.prog w = .ok (.slice (some ⟨w.heap.size, 0, none⟩) 0 0) (w.alloc (.cells #[] 69)) := by kernel_rfl
theorem run_b0r (w : World) : (Instr.buildSlice 32 0 #[]).run Try.prog w = .ok (.slice (some ⟨w.heap.size, 0, none⟩) 0 0) (w.alloc (.cells #[] 55)) := by kernel_rfl
theorem run_buildE77 (w : World) : (Instr.build 69 #[(0, .int .i64 77)]).run Try.prog w = .ok (.agg (edgC edge77)) w := by kernel_rfl
theorem run_bs77 (w : World) : (Instr.buildSlice 32 1 #[(0, .int .u32 77)]).run Try.prog w = .ok (.slice (some ⟨w.heap.size, 0, none⟩) 1 1) (w.alloc (.cells (encR 77) 55)) := by kernel_rfl
section
variable {ops : Array Oper} {rest : List Oper} {o : Oper} {a : Act} {w : World} {Q : Exit → Act → World → Prop}
theorem wl_b0e (hgd : o.guard = none) (ho : o.op = .buildSlice 31 0 #[]) (h : wpList Try.prog ops Q rest (a.put o.dst (.slice (some ⟨w.heap.size, 0, none⟩) 0 0)) (w.alloc (.cells #[] 69))) : wpList Try.prog ops Q (o :: rest) a w :=
  wl_run hgd (v := .slice (some ⟨w.heap.size, 0, none⟩) 0 0) (by unfold execOp; simp only [ho, List.map_toArray, List.map_nil, Sem.run_bind, run_b0e, Result.andThen_ok, Sem.run_pure]) h
theorem wl_b0r (hgd : o.guard = none) (ho : o.op = .buildSlice 32 0 #[]) (h : wpList Try.prog ops Q rest (a.put o.dst (.slice (some ⟨w.heap.size, 0, none⟩) 0 0)) (w.alloc (.cells #[] 55))) : wpList Try.prog ops Q (o :: rest) a w :=
  wl_run hgd (v := .slice (some ⟨w.heap.size, 0, none⟩) 0 0) (by unfold execOp; simp only [ho, List.map_toArray, List.map_nil, Sem.run_bind, run_b0r, Result.andThen_ok, Sem.run_pure]) h
theorem wl_build77 (hgd : o.guard = none) (ho : o.op = .build 69 #[(0, .const (.int .i64 77))])
    (h : wpList Try.prog ops Q rest (a.put o.dst (.agg (edgC edge77))) w) : wpList Try.prog ops Q (o :: rest) a w := by
  refine wpList_plain hgd fun _ hK => ?_
  unfold Oper.wp execOp
  have e : (#[(0, Operand.const (Value.int .i64 77))].map fun p : Nat × Operand => (p.1, a.eval p.2)) = #[(0, Value.int .i64 77)] := by simp; rfl
  simp only [ho, e, Sem.run_bind, run_buildE77, Result.andThen_ok, Sem.run_pure]
  exact hK _ _ h
theorem wl_bs77 (hgd : o.guard = none) (ho : o.op = .buildSlice 32 1 #[(0, .const (.int .u32 77))])
    (h : wpList Try.prog ops Q rest (a.put o.dst (.slice (some ⟨w.heap.size, 0, none⟩) 1 1)) (w.alloc (.cells (encR 77) 55))) : wpList Try.prog ops Q (o :: rest) a w := by
  refine wpList_plain hgd fun _ hK => ?_
  unfold Oper.wp execOp
  have e : (#[(0, Operand.const (Value.int .u32 77))].map fun p : Nat × Operand => (p.1, a.eval p.2)) = #[(0, Value.int .u32 77)] := by simp; rfl
  simp only [ho, e, Sem.run_bind, run_bs77, Result.andThen_ok, Sem.run_pure]
  exact hK _ _ h
theorem wl_one {d : Edg} (hgd : o.guard = none) (x : Operand) (ho : o.op = .buildSlice 31 1 #[(0, x)]) (hx : a.eval x = .agg (edgC d))
    (h : wpList Try.prog ops Q rest (a.put o.dst (.slice (some ⟨w.heap.size, 0, none⟩) 1 1)) (w.alloc (.cells (edgC d) 69))) : wpList Try.prog ops Q (o :: rest) a w :=
  wl_run hgd (v := .slice (some ⟨w.heap.size, 0, none⟩) 1 1) (by unfold execOp; simp only [ho, List.map_toArray, List.map_cons, List.map_nil, hx, Sem.run_bind, run_edge1, Result.andThen_ok, Sem.run_pure]) h
end
/-- a machine in memory, with room behind its lists -/
structure CP where
  F : NF
  ge : Nat
  ce : Nat
  gu : Nat
  cu : Nat
def CP.C (x : CP) : Array Value := nfaC x.F.s (some ⟨x.ge, 0, none⟩) x.F.E.length x.ce (some ⟨x.gu, 0, none⟩) x.F.R.length x.cu
def CP.In (W : World) (base : Nat) (x : CP) : Prop :=
  Own W base 69 7 edgC (.slice (some ⟨x.ge, 0, none⟩) (x.F.E.length + 1) x.ce) (x.F.E ++ [edge77]) ∧ Own W base 55 1 encR (.slice (some ⟨x.gu, 0, none⟩) (x.F.R.length + 1) x.cu) (x.F.R ++ [77])
theorem CP.In.then_ {W W' : World} {base : Nat} {x : CP} (h : x.In W base) (hb : Below W.heap.size W W') : x.In W' base := ⟨h.1.then_ hb, h.2.then_ hb⟩
set_option maxRecDepth 100000 in
set_option maxHeartbeats 8000000 in
theorem copied_any (F : NF) (A : Option Addr) (n c : Nat) (B : Option Addr) (m d : Nat) (hn : n = F.E.length) (hm : m = F.R.length) (hE : F.E.length ≤ 1048576) (hRl : F.R.length ≤ 1048576) (w : World)
    (hsE : SliceOf w w.heap.size 7 edgC A F.E) (hsR : SliceOf w w.heap.size 1 encR B F.R) :
    Calls Try.prog 13 #[.agg (nfaC F.s A n c B m d)] w fun e w' => Below w.heap.size w w' ∧ ∃ x : CP, x.F = F ∧ e = .returned (.agg x.C) ∧ x.In w' w.heap.size := by
  obtain ⟨s, E, R⟩ := F
  simp only at hn hm hE hRl hsE hsR
  have hn2 : n ≤ 1048576 := by omega
  have hm2 : m ≤ 1048576 := by omega
  have Hn := Lib.hid hn
  have Hm := Lib.hid hm
  clear hn hm
  go_enter Try.func13, Try.ntmps13
  have h1 := (Blk.new w 34 (nfaC s A n c B m d)).alloc (.cells #[.int .i64 0, .slice none 0 0, .slice none 0 0] 34)
  have h2 : Blk ((w.alloc (.cells (nfaC s A n c B m d) 34)).alloc (.cells #[.int .i64 0, .slice none 0 0, .slice none 0 0] 34)) (w.heap.size + 1) 34 (nfaC 0 none 0 0 none 0 0) := Blk.new' _ _ _ (by simp)
  have hB1 := below_alloc (below_alloc (Below.refl w.heap.size w) (.cells (nfaC s A n c B m d) 34)) (.cells #[.int .i64 0, .slice none 0 0, .slice none 0 0] 34)
  go_upto_region 1 with (fail)
  obtain ⟨w1, hw1⟩ : ∃ y, y = (w.alloc (.cells (nfaC s A n c B m d) 34)).alloc (.cells #[.int .i64 0, .slice none 0 0, .slice none 0 0] 34) := ⟨_, rfl⟩
  rw [← hw1] at h1 h2 hB1 ⊢
  clear hw1
  have hl2 := h2.lt
  obtain ⟨ie, hie, hye0, hye1, hye2⟩ := info_parts info_edge3
  obtain ⟨iu, hiu, hyu0, hyu1, hyu2⟩ := info_parts info_r3
  have hcells : ∀ X : World, Below w1.heap.size w1 X → X.cell? ⟨w.heap.size, 1, none⟩ = some (.slice A n c) := fun X hb => (blk_then h1 hb).cellv (i := 1) rfl
  have hcells2 : ∀ X : World, Below w1.heap.size w1 X → X.cell? ⟨w.heap.size, 2, none⟩ = some (.slice B m d) := fun X hb => (blk_then h1 hb).cellv (i := 2) rfl
  have HC1 := Lib.hid hcells
  have HC2 := Lib.hid hcells2
  clear hcells hcells2
  have hBa : Below w1.heap.size w1 (w1.alloc (.cells #[] 69)) := below_alloc (Below.refl _ _) _
  have c1 := HC1.out _ hBa
  have o1 := own_empty (α := Edg) (enc := edgC) (size := 7) (e := 69) (base := w1.heap.size) (w := w1) (Nat.le_refl _)
  go_upto_region 2 with (first | (refine wl_b0e rfl rfl ?_) | (at_builtin; refine park ?_))
  refine Parked.mk ?_
  have hsE2 := hsE.keep (w' := w1.alloc (.cells #[] 69)) (fun k hk => (hBa.block k (by have := hB1.size; omega)).trans (hB1.block k hk))
  refine wl_append _ rfl _ _ 31 rfl w1.heap.size 69 ie _ 7 56 Try.underlying31 hie hye0 hye1 hye2 rfl (by decide) edgC_size edgC_one _ [] rfl o1 _ A n c E rfl Hn.out hsE2 (by simp only [List.length_nil]; unfold maxLen; omega) (by simp only [List.length_nil]; omega) hBa.size ?_
  intro v3 w3 hs3 hg3 _
  rw [List.nil_append] at hs3
  have hB3 : Below w1.heap.size w1 w3 := hBa.grown hg3 hBa.size (fun q e => (o1.lt q e).1)
  clear hg3 c1 hsE2 o1 hBa
  obtain ⟨A3, k3, rfl, _, _⟩ := hs3.shape
  simp only [Act.put, List.setIfInBounds_toArray, List.set_cons_zero, List.set_cons_succ]
  go_upto_region 2 with (first
    | (refine wl_build77 rfl rfl ?_)
    | (refine wl_one (d := edge77) rfl _ rfl rfl ?_)
    | (at_builtin; refine park ?_))
  refine Parked.mk ?_
  have hB4 : Below w3.heap.size w3 (w3.alloc (.cells (edgC edge77) 69)) := below_alloc (Below.refl _ _) _
  have hs4 := hs3.then_ hB4
  have hz3 := hB3.size
  have hz4 := hB4.size
  refine wl_append _ rfl _ _ 31 rfl w1.heap.size 69 ie _ 7 56 Try.underlying31 hie hye0 hye1 hye2 rfl (by decide) edgC_size edgC_one (.slice A3 _ k3) E rfl hs4 _ _ 1 1 [edge77] rfl rfl (slice_one (enc := edgC) (Blk.new w3 _ _)) (by unfold maxLen; omega) (by omega) (by omega) ?_
  intro v5 w5 hs5 hg5 _
  have hB5 : Below w1.heap.size w1 w5 := (below_then hB3 hB4).grown hg5 (by omega) (fun q e => (hs4.lt q e).1)
  clear hg5 hB4 hs4 hs3 hB3 hz3 hz4
  obtain ⟨ge, ce, rfl, hge, hgel, hce, _⟩ := hs5.form (by simp)
  have hlE : (E ++ [edge77]).length = n + 1 := by rw [List.length_append, ← Hn.out]; rfl
  rw [hlE] at hs5 hce ⊢
  have hz5 := hB5.size
  clear hlE
  simp only [Act.put, List.setIfInBounds_toArray, List.set_cons_zero, List.set_cons_succ]
  go_upto_region 2 with (fail)
  have hB6 : Below w5.heap.size w5 (w5.alloc (.cells #[] 55)) := below_alloc (Below.refl _ _) _
  have c2 := HC2.out _ (below_then hB5 hB6)
  have o2 := own_empty (α := Nat) (enc := encR) (size := 1) (e := 55) (base := w5.heap.size) (w := w5) (Nat.le_refl _)
  go_upto_region 3 with (first | (refine wl_b0r rfl rfl ?_) | (at_builtin; refine park ?_))
  refine Parked.mk ?_
  have hsR6 := hsR.keep (w' := w5.alloc (.cells #[] 55)) (fun k hk => (hB6.block k (by have := hB1.size; omega)).trans ((hB5.block k (by have := hB1.size; omega)).trans (hB1.block k hk)))
  refine wl_append _ rfl _ _ 32 rfl w5.heap.size 55 iu _ 1 4 Try.underlying32 hiu hyu0 hyu1 hyu2 rfl (by decide) encR_size encR_one _ [] rfl o2 _ B m d R rfl Hm.out hsR6 (by simp only [List.length_nil]; unfold maxLen; omega) (by simp only [List.length_nil]; omega) hB6.size ?_
  intro v7 w7 hr7 hg7 _
  rw [List.nil_append] at hr7
  have hB7 : Below w5.heap.size w5 w7 := hB6.grown hg7 hB6.size (fun q e => (o2.lt q e).1)
  clear hg7 c2 hsR6 o2 hB6
  obtain ⟨A7, k7, rfl, _, _⟩ := hr7.shape
  simp only [Act.put, List.setIfInBounds_toArray, List.set_cons_zero, List.set_cons_succ]
  go_upto_region 3 with (first
    | (refine wl_bs77 rfl rfl ?_)
    | (at_builtin; refine park ?_))
  refine Parked.mk ?_
  have hB8 : Below w7.heap.size w7 (w7.alloc (.cells (encR 77) 55)) := below_alloc (Below.refl _ _) _
  have hr8 := hr7.then_ hB8
  have hz7 := hB7.size
  have hz8 := hB8.size
  refine wl_append _ rfl _ _ 32 rfl w5.heap.size 55 iu _ 1 4 Try.underlying32 hiu hyu0 hyu1 hyu2 rfl (by decide) encR_size encR_one (.slice A7 _ k7) R rfl hr8 _ _ 1 1 [77] rfl rfl (slice_one (enc := encR) (Blk.new w7 _ _)) (by unfold maxLen; omega) (by omega) (by omega) ?_
  intro v9 w9 hr9 hg9 _
  have hB9 : Below w5.heap.size w5 w9 := (below_then hB7 hB8).grown hg9 (by omega) (fun q e => (hr8.lt q e).1)
  clear hg9 hB8 hr8 hr7 hB7 hz7 hz8
  obtain ⟨gu, cu, rfl, hgu, hgul, hcu, _⟩ := hr9.form (by simp)
  have hlR : (R ++ [77]).length = m + 1 := by rw [List.length_append, ← Hm.out]; rfl
  rw [hlR] at hr9 hcu ⊢
  clear hlR
  simp only [Act.put, List.setIfInBounds_toArray, List.set_cons_zero, List.set_cons_succ]
  have hB19 := below_then hB5 hB9
  have h19 := blk_then h1 hB19
  have h29 := blk_then h2 hB19
  have hs9 := hs5.then_ hB9
  have hBw9 := below_then hB1 hB19
  clear hs5 hB9 hB5 h1 h2 HC1 HC2 hB1
  go_upto_region 3 with (fail)
  refine wp_region_steps 13 [eqS (.pointer (some ⟨w.heap.size, 0, none⟩)), eqS (.int .i64 s), eqS (.slice (some ⟨ge, 0, none⟩) (n + 1) ce), eqS (.pointer (some ⟨w.heap.size, 1, none⟩)), eqS (.slice A n c), eqS (.int .i64 (n : Int)), eqS (.slice (some ⟨ge, 0, none⟩) n ce), eqS (.slice (some ⟨gu, 0, none⟩) (m + 1) cu), eqS (.pointer (some ⟨w.heap.size, 2, none⟩)), eqS (.slice B m d), eqS (.int .i64 (m : Int)), eqS (.slice (some ⟨gu, 0, none⟩) m cu), eqS (.agg (nfaC s (some ⟨ge, 0, none⟩) n ce (some ⟨gu, 0, none⟩) m cu))] [18, 19, 20, 21, 22, 23, 24, 25, 26, 27, 28, 29, 30] rfl (by kernel_rfl) rfl ?_ ?_
  · skip
    refine Steps.cons (fun a' w' hG hB dep => gs_field (want_none rfl) _ _ _ rfl w.heap.size 0 0 (hG.other 1 rfl) (fun wz => field_nfa_0 w.heap.size 0 wz) rfl) ?_
    refine Steps.cons (fun a' w' hG hB dep => gs_load1 (want_none rfl) _ _ rfl w.heap.size 0 (dep 0 rfl 18 rfl) (.int .i64 s) ((blk_then h19 hB).cellv (i := 0) rfl) _ Try.underlying3 rfl rfl) ?_
    refine Steps.cons (fun a' w' hG hB dep => gs_move (want_none rfl) _ rfl (hG.other 3 rfl)) ?_
    refine Steps.cons (fun a' w' hG hB dep => gs_field (want_none rfl) _ _ _ rfl w.heap.size 0 1 (hG.other 1 rfl) (fun wz => field_nfa_1 w.heap.size 0 wz) rfl) ?_
    refine Steps.cons (fun a' w' hG hB dep => gs_load1 (want_none rfl) _ _ rfl w.heap.size 1 (dep 3 rfl 21 rfl) (.slice A n c) ((blk_then h19 hB).cellv (i := 1) rfl) _ Try.underlying31 rfl rfl) ?_
    refine Steps.cons (fun a' w' hG hB dep => gs_len (want_none rfl) _ _ rfl under_edges _ n c (dep 4 rfl 22 rfl) rfl) ?_
    refine Steps.cons (fun a' w' hG hB dep => gs_slice_to (want_none rfl) _ _ _ rfl under_edges 7 size_edgeE ⟨ge, 0, none⟩ (n + 1) ce n (dep 2 rfl 20 rfl) (dep 5 rfl 23 rfl) (by omega) rfl) ?_
    refine Steps.cons (fun a' w' hG hB dep => gs_move (want_none rfl) _ rfl (hG.other 4 rfl)) ?_
    refine Steps.cons (fun a' w' hG hB dep => gs_field (want_none rfl) _ _ _ rfl w.heap.size 0 2 (hG.other 1 rfl) (fun wz => field_nfa_2 w.heap.size 0 wz) rfl) ?_
    refine Steps.cons (fun a' w' hG hB dep => gs_load1 (want_none rfl) _ _ rfl w.heap.size 2 (dep 8 rfl 26 rfl) (.slice B m d) ((blk_then h19 hB).cellv (i := 2) rfl) _ Try.underlying32 rfl rfl) ?_
    refine Steps.cons (fun a' w' hG hB dep => gs_len (want_none rfl) _ _ rfl under_rules _ m d (dep 9 rfl 27 rfl) rfl) ?_
    refine Steps.cons (fun a' w' hG hB dep => gs_slice_to (want_none rfl) _ _ _ rfl under_rules 1 size_ruleE ⟨gu, 0, none⟩ (m + 1) cu m (dep 7 rfl 25 rfl) (dep 10 rfl 28 rfl) (by omega) rfl) ?_
    refine Steps.cons (fun a' w' hG hB dep => gs_build_nfa (want_none rfl) _ _ _ rfl _ _ _ _ _ _ _ (dep 1 rfl 19 rfl) (dep 6 rfl 24 rfl) (dep 11 rfl 29 rfl) rfl) ?_
    exact Steps.nil
  intro uz w10 hB10 ans
  have v30 : uz 30 = .agg (nfaC s (some ⟨ge, 0, none⟩) n ce (some ⟨gu, 0, none⟩) m cu) := ans 12 30 (by decide) rfl
  clear ans
  simp only [putAll, List.foldl_cons, List.foldl_nil, Act.put, List.setIfInBounds_toArray, List.set_cons_zero, List.set_cons_succ, v30]
  clear v30
  simp only [List.drop]
  have h210 := blk_then h29 hB10
  refine wl_store_nfa rfl _ _ rfl (w.heap.size + 1) _ _ _ _ _ _ _ rfl rfl _ _ _ _ _ _ _ h210 ?_
  intro w11 h211 hg11
  have hsF := own_box (hs9.then_ hB10) h210 hg11 (by decide)
  have hrF := own_box (hr9.then_ hB10) h210 hg11 (by decide)
  have hBe := (below_then hBw9 hB10).grown hg11 (by have := hBw9.size; have := hB10.size; omega) (fun j e => by injection e with e; omega)
  clear hs9 hr9 h29 h210 h19 hB10 hg11
  refine wpList_nil ?_
  go_wp2_with (fail)
  refine ret_nfa1 rfl rfl h211 rfl ?_
  refine ⟨hBe, ⟨⟨s, E, R⟩, ge, ce, gu, cu⟩, rfl, ?_, ?_, ?_⟩
  · rw [Hn.out, Hm.out]; rfl
  · have := hsF.mono (base' := w.heap.size) (by omega)
    rw [Hn.out] at this
    exact this
  · have := hrF.mono (base' := w.heap.size) (by omega)
    rw [Hm.out] at this
    exact this
end Go.Proofs.Ytgahdookojbbiaa
