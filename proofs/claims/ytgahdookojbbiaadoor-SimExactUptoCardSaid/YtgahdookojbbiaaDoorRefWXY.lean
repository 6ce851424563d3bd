/- heronlaw08's copied, kept, spoil, sameInts. No condition beyond those named in each lemma. -/
import Derived.Test.YtgahdookojbbiaaDoorRefV
import Derived.Test.YtgahdookojbbiaaDoorSimQ
import Derived.Deep.CutRange
namespace Go.Proofs.YtgahdookojbbiaaDoor
open Go.RowKit Go.Shelf Go.Maps
set_option linter.unusedVariables false
set_option linter.unusedSimpArgs false
attribute [local go_sem] Oper.semAt_some

def edge77 : Edg := { edge0 with kd := 77 }
theorem run_buildE77 (w : World) : (Instr.build 53 #[(0, .int .i64 77)]).run Tryd.prog w = .ok (.agg (edgC edge77)) w := by kernel_rfl
theorem run_buildNs (w : World) (s : Int) : (Instr.build 25 #[(0, .int .i64 s)]).run Tryd.prog w = .ok (.agg (nfaC s none 0 0 none 0 0)) w := by kernel_rfl
theorem run_bs77 (w : World) : (Instr.buildSlice 23 1 #[(0, .int .u32 77)]).run Tryd.prog w = .ok (.slice (some ⟨w.heap.size, 0, none⟩) 1 1) (w.alloc (.cells #[.int .u32 77] 28)) := by kernel_rfl
section
variable {ops : Array Oper} {rest : List Oper} {o : Oper} {a : Act} {w : World} {Q : Exit → Act → World → Prop}
theorem wl_build77 (hgd : o.guard = none) (ho : o.op = .build 53 #[(0, .const (.int .i64 77))])
    (h : wpList Tryd.prog ops Q rest (a.put o.dst (.agg (edgC edge77))) w) : wpList Tryd.prog ops Q (o :: rest) a w := by
  refine wpList_plain hgd fun _ hK => ?_
  unfold Oper.wp execOp
  have e : (#[(0, Operand.const (Value.int .i64 77))].map fun p : Nat × Operand => (p.1, a.eval p.2)) = #[(0, Value.int .i64 77)] := by simp; rfl
  simp only [ho, e, Sem.run_bind, run_buildE77, Result.andThen_ok, Sem.run_pure]
  exact hK _ _ h
theorem wl_buildNs (hgd : o.guard = none) (x : Operand) (ho : o.op = .build 25 #[(0, x)]) (s : Int) (hx : a.eval x = .int .i64 s)
    (h : wpList Tryd.prog ops Q rest (a.put o.dst (.agg (nfaC s none 0 0 none 0 0))) w) : wpList Tryd.prog ops Q (o :: rest) a w := by
  refine wpList_plain hgd fun _ hK => ?_
  unfold Oper.wp execOp
  simp only [ho, List.map_toArray, List.map_cons, List.map_nil, hx, Sem.run_bind, run_buildNs, Result.andThen_ok, Sem.run_pure]
  exact hK _ _ h
theorem wl_bs77 (hgd : o.guard = none) (ho : o.op = .buildSlice 23 1 #[(0, .const (.int .u32 77))])
    (h : wpList Tryd.prog ops Q rest (a.put o.dst (.slice (some ⟨w.heap.size, 0, none⟩) 1 1)) (w.alloc (.cells #[.int .u32 77] 28))) : wpList Tryd.prog ops Q (o :: rest) a w := by
  refine wpList_plain hgd fun _ hK => ?_
  unfold Oper.wp execOp
  have e : (#[(0, Operand.const (Value.int .u32 77))].map fun p : Nat × Operand => (p.1, a.eval p.2)) = #[(0, Value.int .u32 77)] := by simp; rfl
  simp only [ho, e, Sem.run_bind, run_bs77, Result.andThen_ok, Sem.run_pure]
  exact hK _ _ h
end
theorem info_rules1 : (Tryd.prog.info? 23).map (·.size) = some 1 := by kernel_rfl
theorem wl_reslice {P : Program} {ops : Array Oper} {rest : List Oper} {o : Oper} {a : Act} {w : World} {Q : Exit → Act → World → Prop} (hgd : o.guard = none) (t : TypeId) (x y : Operand) (ho : o.op = .slice t x none (some y) none)
    (hu : P.underlying t = some (.slice (P.elem t))) (sz : Nat) (hsz : ∀ w, (sizeOf (P.elem t)).run P w = .ok sz w) (g n c k : Nat) (hx : a.eval x = .slice (some ⟨g, 0, none⟩) n c) (hy : a.eval y = .int .i64 (k : Int)) (hk : k ≤ c) (hc : 0 < c)
    (h : wpList P ops Q rest (a.put o.dst (.slice (some ⟨g, 0, none⟩) k c)) w) : wpList P ops Q (o :: rest) a w := by
  refine wpList_plain hgd fun _ hK => ?_
  unfold Oper.wp execOp
  have e : sliced (some ⟨g, 0, none⟩) 0 (k : Int).toNat c sz = .slice (some ⟨g, 0, none⟩) k c := by
    unfold sliced
    rw [if_neg (by omega), Int.toNat_natCast, Nat.zero_mul]
    rfl
  have e1 := run_sliceAt_slice (P := P) (w := w) (t := t) (x := .slice (some ⟨g, 0, none⟩) n c) (lo := none) (hi := some (.int .i64 (k : Int))) (mx := none) (h := hu)
  have e2 := run_slice_h (P := P) (w := w) (t := t) (a := some ⟨g, 0, none⟩) (len := n) (cap := c) (ht := hu) (kh := .i64) (h := (k : Int)) (h0 := by omega) (h2 := by omega)
  simp only [ho, Option.map_none, Option.map_some, hx, hy, e1, e2, Sem.run_bind, hsz, Result.andThen_ok, Sem.run_pure, e]
  exact hK _ _ h
set_option maxRecDepth 100000 in
set_option maxHeartbeats 4000000 in
theorem copied_any (s : Int) (A : Option Addr) (n c0 : Nat) (B : Option Addr) (m d0 : Nat) (E : List Edg) (R : List Nat) (hn : n = E.length) (hm : m = R.length) (hE : E.length ≤ 274877906944) (hRl : R.length ≤ 274877906944) (w : World)
    (hsE : SliceOf w w.heap.size 7 edgC A E) (hsR : SliceOf w w.heap.size 1 encR B R) :
    Calls Tryd.prog 6 #[.agg (nfaC s A n c0 B m d0)] w fun e w' => ∃ ge gu ce cu, e = .returned (.agg (nfaC s (some ⟨ge, 0, none⟩) n ce (some ⟨gu, 0, none⟩) m cu)) ∧ ge ≠ gu ∧ Own w' w.heap.size 53 7 edgC (.slice (some ⟨ge, 0, none⟩) (n + 1) ce) (E ++ [edge77]) ∧ Own w' w.heap.size 28 1 encR (.slice (some ⟨gu, 0, none⟩) (m + 1) cu) (R ++ [77]) ∧ Below w.heap.size w w' := by
  have hn2 : n ≤ 274877906944 := by omega
  have hm2 : m ≤ 274877906944 := by omega
  have Hn := Lib.hid hn
  have Hm := Lib.hid hm
  clear hn hm
  go_enter Tryd.func6, Tryd.ntmps6
  have h1 := (Blk.new w 25 (nfaC s A n c0 B m d0)).alloc (.cells (nfaC 0 none 0 0 none 0 0) 25)
  have h2 := Blk.new' (n := w.heap.size + 1) (w.alloc (.cells (nfaC s A n c0 B m d0) 25)) 25 (nfaC 0 none 0 0 none 0 0) (by simp)
  have hB1 : Below w.heap.size w ((w.alloc (.cells (nfaC s A n c0 B m d0) 25)).alloc (.cells (nfaC 0 none 0 0 none 0 0) 25)) := below_alloc (below_alloc (Below.refl _ _) _) _
  go_upto_region 1 with (fail)
  obtain ⟨W1, hW1⟩ : ∃ y, y = (w.alloc (.cells (nfaC s A n c0 B m d0) 25)).alloc (.cells (nfaC 0 none 0 0 none 0 0) 25) := ⟨_, rfl⟩
  have hz1 : Hid (W1.heap.size = w.heap.size + 1 + 1) := Lib.hid (by rw [hW1]; simp)
  have hz2 : w.heap.size + 1 + 1 = W1.heap.size := hz1.out.symm
  rw [← hW1] at h1 h2 hB1
  rw [show (Obj.cells #[Value.int IntKind.i64 0, Value.slice none 0 0, Value.slice none 0 0] 25) = Obj.cells (nfaC 0 none 0 0 none 0 0) 25 from rfl, ← hW1]
  clear hW1
  have c0' : W1.cell? ⟨w.heap.size, 0, none⟩ = some (.int .i64 s) := h1.cellv (i := 0) rfl
  go_upto_region 2 with (first
    | (refine wl_buildNs rfl _ rfl _ rfl ?_)
    | (refine wl_store_nfa rfl _ _ rfl W1.heap.size _ _ _ _ _ _ _ rfl rfl _ _ _ _ _ _ _ (Blk.new W1 25 (nfaC 0 none 0 0 none 0 0)) ?_; intro w2 h32 hg2))
  have hl1 := h1.lt
  have hg2' : w.grownBy w2 (some W1.heap.size) := by
    have hB1' := below_alloc hB1 (.cells (nfaC 0 none 0 0 none 0 0) 25)
    exact (only_of_below hB1' (some W1.heap.size)).trans hg2
  have hB2 : Below w.heap.size w w2 := ⟨hg2'.os, hg2'.tape, hg2'.output, hg2'.size, fun k hk => hg2'.block k hk (by simp; omega)⟩
  have h12 := blk_grown (h1.alloc (.cells (nfaC 0 none 0 0 none 0 0) 25)) hg2 (by omega)
  have h22 := blk_grown (h2.alloc (.cells (nfaC 0 none 0 0 none 0 0) 25)) hg2 (by omega)
  obtain ⟨b3, hb3⟩ : ∃ q, q = W1.heap.size := ⟨_, rfl⟩
  rw [← hb3] at h32 ⊢
  have hb3l : w.heap.size + 2 ≤ b3 := by omega
  clear h1 h2 hB1 hg2 hg2' hz1 hz2 c0' hl1 hb3
  have c1' : w2.cell? ⟨w.heap.size, 1, none⟩ = some (.slice A n c0) := h12.cellv (i := 1) rfl
  have c3' : w2.cell? ⟨b3, 1, none⟩ = some (.slice none 0 0) := h32.cellv (i := 1) rfl
  obtain ⟨ie, hie, hye0, hye1, hye2⟩ := info_parts info_edge3
  obtain ⟨iu, hiu, hyu0, hyu1, hyu2⟩ := info_parts info_r3
  go_upto_region 3 with (first
    | (refine wl_build77 rfl rfl ?_)
    | (refine wl_one rfl _ rfl edge77 rfl ?_)
    | (at_builtin; refine park ?_))
  refine Parked.mk ?_
  have hsE2 := hsE.keep (w' := w2) (fun k hk => hB2.block k hk)
  refine wl_append _ rfl _ _ 22 rfl w2.heap.size 53 ie _ 7 56 Tryd.underlying22 hie hye0 hye1 hye2 rfl (by decide) edgC_size edgC_one (.slice none 0 0) [] rfl (Own.nil_ w2 w2.heap.size 53 7 edgC) _ A n c0 E rfl Hn.out hsE2 (by simp only [List.length_nil]; unfold maxLen; omega) (by simp only [List.length_nil]; omega) (Nat.le_refl _) ?_
  intro v3 w3 hs3 hg3 _
  rw [List.nil_append] at hs3
  have hB3 : Below w2.heap.size w2 w3 := ⟨hg3.os, hg3.tape, hg3.output, hg3.size, fun k hk => hg3.block k hk (by simp [Value.ownBlock])⟩
  clear hg3 c1' c3' hsE2
  obtain ⟨A3, k3, rfl, _, _⟩ := hs3.shape
  simp only [Act.put, List.setIfInBounds_toArray, List.set_cons_zero, List.set_cons_succ]
  go_upto_region 3 with (first
    | (refine wl_build77 rfl rfl ?_)
    | (refine wl_one rfl _ rfl edge77 rfl ?_)
    | (at_builtin; refine park ?_))
  refine Parked.mk ?_
  have hB4 : Below w3.heap.size w3 (w3.alloc (.cells (edgC edge77) 53)) := below_alloc (Below.refl _ _) _
  have hs4 := hs3.then_ hB4
  have hz3 := hB3.size
  have hz4 := hB4.size
  refine wl_append _ rfl _ _ 22 rfl w2.heap.size 53 ie _ 7 56 Tryd.underlying22 hie hye0 hye1 hye2 rfl (by decide) edgC_size edgC_one (.slice A3 _ k3) E rfl hs4 _ _ 1 1 [edge77] rfl rfl (slice_one (enc := edgC) (Blk.new w3 _ _)) (by unfold maxLen; omega) (by omega) (by omega) ?_
  intro v5 w5 hs5 hg5 _
  have hB5 : Below w2.heap.size w2 w5 := (below_then hB3 hB4).grown hg5 (by omega) (fun q e => by have := (hs4.lt q e).1; omega)
  clear hg5 hB4 hs4 hs3 hB3 hz3 hz4
  obtain ⟨ge, ce, rfl, hge, hgel, hce, _⟩ := hs5.form (by simp)
  have hlE : (E ++ [edge77]).length = n + 1 := by rw [List.length_append, ← Hn.out]; rfl
  rw [hlE] at hs5 hce ⊢
  have h15 := blk_then h12 hB5
  have h25 := blk_then h22 hB5
  have h35 := blk_then h32 hB5
  have hl3 := h32.lt
  clear h12 h22 h32 hlE
  simp only [Act.put, List.setIfInBounds_toArray, List.set_cons_zero, List.set_cons_succ]
  go_upto_region 3 with (refine wl_store_cell rfl _ _ _ rfl _ _ rfl _ _ (nfaC s (some ⟨ge, 0, none⟩) (n + 1) ce none 0 0) h35 (by simp [nfaC]) info_edges1 rfl rfl rfl ?_; intro w6 h36 hg6)
  have h16 := blk_grown h15 hg6 (by omega)
  have h26 := blk_grown h25 hg6 (by omega)
  have hs6 := own_box hs5 h35 hg6 (by decide)
  have hB6 : Below w.heap.size w w6 := below_grown (below_then hB2 hB5) hg6 (by omega)
  have hz26 : w2.heap.size ≤ w6.heap.size := Nat.le_trans hB5.size hg6.size
  have hz2 := hB2.size
  clear h15 h25 h35 hs5 hg6 hB5
  have c1' : w6.cell? ⟨w.heap.size, 2, none⟩ = some (.slice B m d0) := h16.cellv (i := 2) rfl
  have c3' : w6.cell? ⟨b3, 2, none⟩ = some (.slice none 0 0) := h36.cellv (i := 2) rfl
  go_upto_region 4 with (first
    | (refine wl_bs77 rfl rfl ?_)
    | (at_builtin; refine park ?_))
  refine Parked.mk ?_
  have hsR6 := hsR.keep (w' := w6) (fun k hk => hB6.block k hk)
  refine wl_append _ rfl _ _ 23 rfl w6.heap.size 28 iu _ 1 4 Tryd.underlying23 hiu hyu0 hyu1 hyu2 rfl (by decide) encR_size encR_one (.slice none 0 0) [] rfl (Own.nil_ w6 w6.heap.size 28 1 encR) _ B m d0 R rfl Hm.out hsR6 (by simp only [List.length_nil]; unfold maxLen; omega) (by simp only [List.length_nil]; omega) (Nat.le_refl _) ?_
  intro v7 w7 hr7 hg7 _
  rw [List.nil_append] at hr7
  have hB7 : Below w6.heap.size w6 w7 := ⟨hg7.os, hg7.tape, hg7.output, hg7.size, fun k hk => hg7.block k hk (by simp [Value.ownBlock])⟩
  clear hg7 c1' c3' hsR6
  obtain ⟨A7, k7, rfl, _, _⟩ := hr7.shape
  simp only [Act.put, List.setIfInBounds_toArray, List.set_cons_zero, List.set_cons_succ]
  go_upto_region 4 with (first
    | (refine wl_bs77 rfl rfl ?_)
    | (at_builtin; refine park ?_))
  refine Parked.mk ?_
  have hB8 : Below w7.heap.size w7 (w7.alloc (.cells #[.int .u32 77] 28)) := below_alloc (Below.refl _ _) _
  have hr8 := hr7.then_ hB8
  have hz7 := hB7.size
  have hz8 := hB8.size
  refine wl_append _ rfl _ _ 23 rfl w6.heap.size 28 iu _ 1 4 Tryd.underlying23 hiu hyu0 hyu1 hyu2 rfl (by decide) encR_size encR_one (.slice A7 _ k7) R rfl hr8 _ _ 1 1 [77] rfl rfl (slice_one (enc := encR) (Blk.new w7 _ _)) (by unfold maxLen; omega) (by omega) (by omega) ?_
  intro v9 w9 hr9 hg9 _
  have hB9 : Below w6.heap.size w6 w9 := (below_then hB7 hB8).grown hg9 (by omega) (fun q e => by have := (hr8.lt q e).1; omega)
  clear hg9 hB8 hr8 hr7 hB7 hz7 hz8
  obtain ⟨gu, cu, rfl, hgu, hgul, hcu, _⟩ := hr9.form (by simp)
  have hlR : (R ++ [77]).length = m + 1 := by rw [List.length_append, ← Hm.out]; rfl
  rw [hlR] at hr9 hcu ⊢
  have hge2 := (hs6.lt ge rfl).2
  have h19 := blk_then h16 hB9
  have h29 := blk_then h26 hB9
  have h39 := blk_then h36 hB9
  have hs9 := hs6.then_ hB9
  clear h16 h26 h36 hs6 hlR
  simp only [Act.put, List.setIfInBounds_toArray, List.set_cons_zero, List.set_cons_succ]
  go_upto_region 4 with (refine wl_store_cell rfl _ _ _ rfl _ _ rfl _ _ (nfaC s (some ⟨ge, 0, none⟩) (n + 1) ce (some ⟨gu, 0, none⟩) (m + 1) cu) h39 (by simp [nfaC]) info_rules1 rfl rfl rfl ?_; intro w10 h3a hg10)
  have h1a := blk_grown h19 hg10 (by omega)
  have h2a := blk_grown h29 hg10 (by omega)
  have hsa := own_box hs9 h39 hg10 (by decide)
  have hra := own_box hr9 h39 hg10 (by decide)
  have hBa : Below w.heap.size w w10 := below_grown (below_then hB6 hB9) hg10 (by omega)
  clear h19 h29 h39 hs9 hr9 hg10 hB9 hB6
  have hgg : ge ≠ gu := by omega
  have c1' : w10.cell? ⟨w.heap.size, 1, none⟩ = some (.slice A n c0) := h1a.cellv (i := 1) rfl
  have c3' : w10.cell? ⟨b3, 1, none⟩ = some (.slice (some ⟨ge, 0, none⟩) (n + 1) ce) := h3a.cellv (i := 1) rfl
  have hfr := h3a.frozen 1
  go_upto_region 5 with (refine wl_reslice rfl _ _ _ rfl under_edges 7 size_edgeE ge _ ce n rfl rfl (by omega) (by omega) ?_)
  have h3b := h3a.set_eq (i := 1) (u := .slice (some ⟨ge, 0, none⟩) n ce) (cs' := nfaC s (some ⟨ge, 0, none⟩) n ce (some ⟨gu, 0, none⟩) (m + 1) cu) rfl
  have hgb := only_setCell (only_refl w10 (some b3)) (p := ⟨b3, 1, none⟩) (.inl rfl) (.slice (some ⟨ge, 0, none⟩) n ce)
  obtain ⟨w11, hw11⟩ : ∃ y, y = w10.setCell ⟨b3, 1, none⟩ (.slice (some ⟨ge, 0, none⟩) n ce) := ⟨_, rfl⟩
  rw [← hw11] at h3b hgb ⊢
  have h1b := blk_grown h1a hgb (by omega)
  have h2b := blk_grown h2a hgb (by omega)
  have hsb := own_box hsa h3a hgb (by decide)
  have hrb := own_box hra h3a hgb (by decide)
  have hBb : Below w.heap.size w w11 := below_grown hBa hgb (by omega)
  clear h1a h2a hsa hra h3a hgb hBa hfr c1' c3' hw11
  have c1' : w11.cell? ⟨w.heap.size, 2, none⟩ = some (.slice B m d0) := h1b.cellv (i := 2) rfl
  have c3' : w11.cell? ⟨b3, 2, none⟩ = some (.slice (some ⟨gu, 0, none⟩) (m + 1) cu) := h3b.cellv (i := 2) rfl
  have hfr := h3b.frozen 2
  go_upto_region 6 with (refine wl_reslice rfl _ _ _ rfl under_rules 1 size_ruleE gu _ cu m rfl rfl (by omega) (by omega) ?_)
  have h3c := h3b.set_eq (i := 2) (u := .slice (some ⟨gu, 0, none⟩) m cu) (cs' := nfaC s (some ⟨ge, 0, none⟩) n ce (some ⟨gu, 0, none⟩) m cu) rfl
  have hgc := only_setCell (only_refl w11 (some b3)) (p := ⟨b3, 2, none⟩) (.inl rfl) (.slice (some ⟨gu, 0, none⟩) m cu)
  obtain ⟨w12, hw12⟩ : ∃ y, y = w11.setCell ⟨b3, 2, none⟩ (.slice (some ⟨gu, 0, none⟩) m cu) := ⟨_, rfl⟩
  rw [← hw12] at h3c hgc ⊢
  have h2c := blk_grown h2b hgc (by omega)
  have hsc := own_box hsb h3b hgc (by decide)
  have hrc := own_box hrb h3b hgc (by decide)
  have hBc : Below w.heap.size w w12 := below_grown hBb hgc (by omega)
  clear h1b h2b hsb hrb h3b hgc hBb hfr c1' c3' hw12
  go_upto_region 7 with (first
    | (refine wl_load_nfa rfl _ rfl _ rfl _ _ _ _ _ _ _ h3c ?_)
    | (refine wl_store_nfa rfl _ _ rfl _ _ _ _ _ _ _ _ rfl rfl _ _ _ _ _ _ _ h2c ?_; intro w13 h2d hg13))
  refine ret_cell rfl _ rfl h2d Tryd.underlying25 rfl (by kernel_rfl) rfl ⟨ge, gu, ce, cu, rfl, hgg, ?_, ?_, ?_⟩
  · exact (own_box hsc h2c hg13 (by decide)).mono hz2
  · exact (own_box hrc h2c hg13 (by decide)).mono (by omega)
  · exact below_grown hBc hg13 (by omega)
section
variable {ops : Array Oper} {S : Nat → GSpec} {Q : Exit → Act → World → Prop} {i : Nat} {o : Oper} {a : Act} {w : World}
theorem gs_neq_edge (hw : Region.wanted o (yielded ops a.tmps) = true) (x y : Operand) (t2 : TypeId) (ho : o.op = .binOp .neq 53 x y t2) (p q : Edg) (hx : a.eval x = .agg (edgC p)) (hy : a.eval y = .agg (edgC q))
    (hp : (S i).p (.bool (!decide (p = q))) w) : GStep Tryd.prog ops S Q i o a w :=
  gs_bin hw _ _ _ x y ho _ _ _ hx hy (run_eqGuard_agg w _ _ _ _ _ _ guard_edge) (run_neq_edge p q w) hp
end
set_option maxRecDepth 100000 in
set_option maxHeartbeats 4000000 in
theorem sameInts_any (L : List Nat) (A B : Option Addr) (n cA cB : Nat) (hn : n = L.length) (hL : L.length ≤ 1099511627776) (w : World) (hA : SliceOf w w.heap.size 1 encN A L) (hB : SliceOf w w.heap.size 1 encN B L) :
    Calls Tryd.prog 30 #[.slice A n cA, .slice B n cB] w fun e w' => e = .returned (.bool true) ∧ Below w.heap.size w w' := by
  have hn2 : n ≤ 1099511627776 := by omega
  have Hn := Lib.hid hn
  clear hn
  go_enter Tryd.func30, Tryd.ntmps30
  go_wp2_with (fail)
  go_loopw [5] (fun iv wr => ∃ j : Nat, j ≤ n ∧ iv = .int .i64 j ∧ Below w.heap.size w wr) (fun iv _ => n - (intOf iv).toNat)
  case atStart => exact ⟨0, by omega, rfl, Below.refl _ _⟩
  case round =>
    obtain ⟨j, hj, rfl, hBw⟩ := hrel
    by_cases hjl : j < n
    · have hjI : (j : Int) < n := by omega
      have hjL : j < L.length := by rw [← Hn.out]; exact hjl
      obtain ⟨bA, offA, rfl, hbA, hrA⟩ := hA.at_ (by omega)
      obtain ⟨bB, offB, rfl, hbB, hrB⟩ := hB.at_ (by omega)
      have hcA : ∀ {X : World}, Below wr.heap.size wr X → X.cell? ⟨bA, offA + j * 1, none⟩ = some (.int .i64 (L[j] : Nat)) := fun hb => ((hrA j hjL).keep ((below_then hBw hb).block bA hbA)) 0 _ rfl
      have hcB : ∀ {X : World}, Below wr.heap.size wr X → X.cell? ⟨bB, offB + j * 1, none⟩ = some (.int .i64 (L[j] : Nat)) := fun hb => ((hrB j hjL).keep ((below_then hBw hb).block bB hbB)) 0 _ rfl
      go_upto_region 6 with (fail)
      refine wp_region_steps 9 [eqS (.slice (some ⟨bA, offA, none⟩) n cA), eqS (.int .i64 ((j : Int))), eqS (.pointer (some ⟨bA, offA + j * 1, none⟩)), eqS (.int .i64 ((L[j] : Nat))), eqS (.slice (some ⟨bB, offB, none⟩) n cB), eqS (.int .i64 ((j : Int))), eqS (.pointer (some ⟨bB, offB + j * 1, none⟩)), eqS (.int .i64 ((L[j] : Nat))), eqS (.bool false)] [17, 18, 19, 20, 21, 22, 23, 24, 25] rfl (by kernel_rfl) rfl ?_ ?_
      · skip
        refine Steps.cons (fun a' w' hG hB dep => gs_move (want_none rfl) _ rfl (id (hG.other 0 rfl))) ?_
        refine Steps.cons (fun a' w' hG hB dep => gs_move (want_none rfl) _ rfl (id (hG.other 5 rfl))) ?_
        refine Steps.cons (fun a' w' hG hB dep => gs_index (want_none rfl) _ _ _ rfl under_ints 1 size_intE bA offA n cA (j) (dep 0 rfl 17 rfl) (dep 1 rfl 18 rfl) hjl rfl) ?_
        refine Steps.cons (fun a' w' hG hB dep => gs_load1 (want_none rfl) _ _ rfl bA (offA + j * 1) (dep 2 rfl 19 rfl) (.int .i64 ((L[j] : Nat))) (hcA hB) _ Tryd.underlying3 rfl rfl) ?_
        refine Steps.cons (fun a' w' hG hB dep => gs_move (want_none rfl) _ rfl (id (hG.other 1 rfl))) ?_
        refine Steps.cons (fun a' w' hG hB dep => gs_move (want_none rfl) _ rfl (id (hG.other 5 rfl))) ?_
        refine Steps.cons (fun a' w' hG hB dep => gs_index (want_none rfl) _ _ _ rfl under_ints 1 size_intE bB offB n cB (j) (dep 4 rfl 21 rfl) (dep 5 rfl 22 rfl) hjl rfl) ?_
        refine Steps.cons (fun a' w' hG hB dep => gs_load1 (want_none rfl) _ _ rfl bB (offB + j * 1) (dep 6 rfl 23 rfl) (.int .i64 ((L[j] : Nat))) (hcB hB) _ Tryd.underlying3 rfl rfl) ?_
        refine Steps.cons (fun a' w' hG hB dep => gs_neq_int (want_none rfl) _ _ _ _ rfl _ _ _ (dep 3 rfl 20 rfl) (dep 7 rfl 24 rfl) (id (congrArg Value.bool (bne_self_eq_false _)))) ?_
        exact Steps.nil
      intro u w1 hB1 ans
      have u25 : u 25 = .bool false := ans 8 25 (by decide) rfl
      clear ans
      simp only [putAll, List.foldl_cons, List.foldl_nil, Act.put, List.setIfInBounds_toArray, List.set_cons_zero, List.set_cons_succ, u25]
      clear u25
      simp only [List.drop]
      refine wpList_nil ?_
      replace hBw := below_then hBw hB1
      clear hcA hcB hB1
      go_wp2_with (fail)
      exact ⟨⟨j + 1, by omega, rfl, hBw⟩, by simp only [intOf]; omega⟩
    · have hjI : ¬ (j : Int) < n := by omega
      go_wp2_with (fail)
      go_ret
      exact ⟨rfl, hBw⟩
set_option maxRecDepth 100000 in
set_option maxHeartbeats 4000000 in
theorem kept_any (s : Int) (A : Option Addr) (n c0 : Nat) (B : Option Addr) (m d0 ge ce gu cu Bx : Nat) (E : List Edg) (R : List Nat) (hn : n = E.length) (hm : m = R.length) (hE : E.length ≤ 274877906944) (hRl : R.length ≤ 274877906944) (w : World)
    (hsE : SliceOf w w.heap.size 7 edgC A E) (hsR : SliceOf w w.heap.size 1 encR B R)
    (hxE : Own w Bx 53 7 edgC (.slice (some ⟨ge, 0, none⟩) (n + 1) ce) (E ++ [edge77])) (hxR : Own w Bx 28 1 encR (.slice (some ⟨gu, 0, none⟩) (m + 1) cu) (R ++ [77])) :
    Calls Tryd.prog 9 #[.agg (nfaC s (some ⟨ge, 0, none⟩) n ce (some ⟨gu, 0, none⟩) m cu), .agg (nfaC s A n c0 B m d0)] w fun e w' => e = .returned (.bool true) ∧ Below w.heap.size w w' := by
  have hn2 : n ≤ 274877906944 := by omega
  have hm2 : m ≤ 274877906944 := by omega
  have hce := hxE.cap.1
  have hcu := hxR.cap.1
  have Hn := Lib.hid hn
  have Hm := Lib.hid hm
  clear hn hm
  go_enter Tryd.func9, Tryd.ntmps9
  have h2 := (Blk.new w 25 (nfaC s (some ⟨ge, 0, none⟩) n ce (some ⟨gu, 0, none⟩) m cu)).alloc (.cells (nfaC s A n c0 B m d0) 25)
  have h3 := Blk.new' (n := w.heap.size + 1) (w.alloc (.cells (nfaC s (some ⟨ge, 0, none⟩) n ce (some ⟨gu, 0, none⟩) m cu) 25)) 25 (nfaC s A n c0 B m d0) (by simp)
  have hB1 := below_alloc (below_alloc (Below.refl w.heap.size w) (.cells (nfaC s (some ⟨ge, 0, none⟩) n ce (some ⟨gu, 0, none⟩) m cu) 25)) (.cells (nfaC s A n c0 B m d0) 25)
  go_upto_region 1 with (fail)
  obtain ⟨W1, hW1⟩ : ∃ y, y = (w.alloc (.cells (nfaC s (some ⟨ge, 0, none⟩) n ce (some ⟨gu, 0, none⟩) m cu) 25)).alloc (.cells (nfaC s A n c0 B m d0) 25) := ⟨_, rfl⟩
  rw [← hW1] at h2 h3 hB1 ⊢
  clear hW1
  have c21 : W1.cell? ⟨w.heap.size, 1, none⟩ = some (.slice (some ⟨ge, 0, none⟩) n ce) := h2.cellv (i := 1) rfl
  have c22 : W1.cell? ⟨w.heap.size, 2, none⟩ = some (.slice (some ⟨gu, 0, none⟩) m cu) := h2.cellv (i := 2) rfl
  have c31 : W1.cell? ⟨w.heap.size + 1, 1, none⟩ = some (.slice A n c0) := h3.cellv (i := 1) rfl
  have c32 : W1.cell? ⟨w.heap.size + 1, 2, none⟩ = some (.slice B m d0) := h3.cellv (i := 2) rfl
  go_upto_region 2 with (refine wl_reslice rfl _ _ _ rfl under_edges 7 size_edgeE ge _ ce (n + 1) rfl rfl (by omega) (by omega) ?_)
  go_upto_region 3 with (refine wl_reslice rfl _ _ _ rfl under_rules 1 size_ruleE gu _ cu (m + 1) rfl rfl (by omega) (by omega) ?_)
  clear c21 c22 c31 c32
  go_wp2_with (fail)
  go_loopw [7] (fun iv wr => ∃ j : Nat, j ≤ n ∧ iv = .int .i64 j ∧ Below W1.heap.size W1 wr) (fun iv _ => n - (intOf iv).toNat)
  case atStart => exact ⟨0, by omega, rfl, Below.refl _ _⟩
  case round =>
    obtain ⟨j, hj, rfl, hBw⟩ := hrel
    replace h3 := blk_then h3 hBw
    have c31 : wr.cell? ⟨w.heap.size + 1, 1, none⟩ = some (.slice A n c0) := h3.cellv (i := 1) rfl
    by_cases hjl : j < n
    · have hjI : (j : Int) < n := by omega
      have hjE : j < E.length := by rw [← Hn.out]; exact hjl
      obtain ⟨bA, offA, rfl, hbA, hrA⟩ := hsE.at_ (by omega)
      obtain ⟨dd, hd⟩ : ∃ d, d = E[j] := ⟨_, rfl⟩
      have hgeb := (hxE.lt ge rfl).2
      have hx1 : ∀ {X : World}, Below wr.heap.size wr X → RowAt X ge (0 + j * 7) (edgC dd) := fun hb => by
        have := ((hxE.then_ ((below_then hB1 hBw))).then_ (below_then (Below.refl _ wr) hb)).row edgC_size j (by rw [List.length_append]; omega)
        rw [List.getElem_append_left hjE, ← hd] at this
        rw [Nat.zero_add]
        exact this
      have hx2 : ∀ {X : World}, Below wr.heap.size wr X → RowAt X bA (offA + j * 7) (edgC dd) := fun hb => by
        have := (hrA j hjE).keep ((below_then (below_then hB1 hBw) hb).block bA hbA)
        rw [← hd] at this
        exact this
      go_upto_region 6 with (fail)
      refine wp_region_steps 10 [eqS (.slice (some ⟨ge, 0, none⟩) (n + 1) ce), eqS (.int .i64 ((j : Int))), eqS (.pointer (some ⟨ge, 0 + j * 7, none⟩)), eqS (.agg (edgC dd)), eqS (.pointer (some ⟨(w.heap.size + 1), 1, none⟩)), eqS (.slice (some ⟨bA, offA, none⟩) n c0), eqS (.int .i64 ((j : Int))), eqS (.pointer (some ⟨bA, offA + j * 7, none⟩)), eqS (.agg (edgC dd)), eqS (.bool false)] [30, 31, 32, 33, 34, 35, 36, 37, 38, 39] rfl (by kernel_rfl) rfl ?_ ?_
      · skip
        refine Steps.cons (fun a' w' hG hB dep => gs_move (want_none rfl) _ rfl (id (hG.other 5 rfl))) ?_
        refine Steps.cons (fun a' w' hG hB dep => gs_move (want_none rfl) _ rfl (id (hG.other 7 rfl))) ?_
        refine Steps.cons (fun a' w' hG hB dep => gs_index (want_none rfl) _ _ _ rfl under_edges 7 size_edgeE ge 0 (n + 1) ce (j) (dep 0 rfl 30 rfl) (dep 1 rfl 31 rfl) (Nat.lt_succ_of_lt hjl) rfl) ?_
        refine Steps.cons (fun a' w' hG hB dep => gs_load_edge_at (want_none rfl) _ rfl ge (0 + j * 7) (dep 2 rfl 32 rfl) _ (hx1 hB) rfl) ?_
        refine Steps.cons (fun a' w' hG hB dep => gs_field (want_none rfl) _ _ _ rfl (w.heap.size + 1) (0) (1) (hG.other 3 rfl) (fun wz => field_nfa_1 (w.heap.size + 1) (0) wz) rfl) ?_
        refine Steps.cons (fun a' w' hG hB dep => gs_load1 (want_none rfl) _ _ rfl (w.heap.size + 1) (1) (dep 4 rfl 34 rfl) (.slice (some ⟨bA, offA, none⟩) n c0) ((blk_then h3 hB).cellv (i := 1) rfl) _ Tryd.underlying22 rfl rfl) ?_
        refine Steps.cons (fun a' w' hG hB dep => gs_move (want_none rfl) _ rfl (id (hG.other 7 rfl))) ?_
        refine Steps.cons (fun a' w' hG hB dep => gs_index (want_none rfl) _ _ _ rfl under_edges 7 size_edgeE bA offA n c0 (j) (dep 5 rfl 35 rfl) (dep 6 rfl 36 rfl) hjl rfl) ?_
        refine Steps.cons (fun a' w' hG hB dep => gs_load_edge_at (want_none rfl) _ rfl bA (offA + j * 7) (dep 7 rfl 37 rfl) _ (hx2 hB) rfl) ?_
        refine Steps.cons (fun a' w' hG hB dep => gs_neq_edge (want_none rfl) _ _ _ rfl _ _ (dep 3 rfl 33 rfl) (dep 8 rfl 38 rfl) (id (congrArg Value.bool (by rw [decide_eq_true rfl]; rfl)))) ?_
        exact Steps.nil
      intro u w2 hB2 ans
      have u39 : u 39 = .bool false := ans 9 39 (by decide) rfl
      clear ans
      simp only [putAll, List.foldl_cons, List.foldl_nil, Act.put, List.setIfInBounds_toArray, List.set_cons_zero, List.set_cons_succ, u39]
      clear u39
      simp only [List.drop]
      refine wpList_nil ?_
      have hBw2 := below_then hBw hB2
      clear hx1 hx2 hB2 c31
      go_wp2_with (fail)
      exact ⟨⟨j + 1, by omega, rfl, hBw2⟩, by simp only [intOf]; omega⟩
    · have hjI : ¬ (j : Int) < n := by omega
      go_wp2_with (fail)
      clear c31
      obtain ⟨W2, hW2⟩ : ∃ y, y = wr := ⟨_, rfl⟩
      rw [← hW2] at h3 hBw ⊢
      clear hW2
      go_loopw [8] (fun iv wr => ∃ j : Nat, j ≤ m ∧ iv = .int .i64 j ∧ Below W2.heap.size W2 wr) (fun iv _ => m - (intOf iv).toNat)
      case atStart => exact ⟨0, by omega, rfl, Below.refl _ _⟩
      case round =>
        clear hj hjl hjI
        obtain ⟨j, hj, rfl, hBq⟩ := hrel
        replace h3 := blk_then h3 hBq
        replace hBw := below_then hBw hBq
        have c32 : wr.cell? ⟨w.heap.size + 1, 2, none⟩ = some (.slice B m d0) := h3.cellv (i := 2) rfl
        by_cases hjl : j < m
        · have hjI : (j : Int) < m := by omega
          have hjE : j < R.length := by rw [← Hm.out]; exact hjl
          obtain ⟨bR, offR, rfl, hbA, hrA⟩ := hsR.at_ (by omega)
          obtain ⟨dd, hd⟩ : ∃ d, d = R[j] := ⟨_, rfl⟩
          have hx1 : ∀ {X : World}, Below wr.heap.size wr X → X.cell? ⟨gu, 0 + j * 1, none⟩ = some (.int .u32 (dd : Nat)) := fun hb => by
            have := ((hxR.then_ ((below_then hB1 hBw))).then_ (below_then (Below.refl _ wr) hb)).row encR_size j (by rw [List.length_append]; omega) 0 _ rfl
            rw [List.getElem_append_left hjE, ← hd] at this
            rw [Nat.zero_add]
            exact this
          have hx2 : ∀ {X : World}, Below wr.heap.size wr X → X.cell? ⟨bR, offR + j * 1, none⟩ = some (.int .u32 (dd : Nat)) := fun hb => by
            have := ((hrA j hjE).keep ((below_then (below_then hB1 hBw) hb).block bR hbA)) 0 _ rfl
            rw [← hd] at this
            exact this
          go_upto_region 11 with (fail)
          refine wp_region_steps 10 [eqS (.slice (some ⟨gu, 0, none⟩) (m + 1) cu), eqS (.int .i64 ((j : Int))), eqS (.pointer (some ⟨gu, 0 + j * 1, none⟩)), eqS (.int .u32 ((dd : Nat))), eqS (.pointer (some ⟨(w.heap.size + 1), 2, none⟩)), eqS (.slice (some ⟨bR, offR, none⟩) m d0), eqS (.int .i64 ((j : Int))), eqS (.pointer (some ⟨bR, offR + j * 1, none⟩)), eqS (.int .u32 ((dd : Nat))), eqS (.bool false)] [47, 48, 49, 50, 51, 52, 53, 54, 55, 56] rfl (by kernel_rfl) rfl ?_ ?_
          · skip
            refine Steps.cons (fun a' w' hG hB dep => gs_move (want_none rfl) _ rfl (id (hG.other 6 rfl))) ?_
            refine Steps.cons (fun a' w' hG hB dep => gs_move (want_none rfl) _ rfl (id (hG.other 8 rfl))) ?_
            refine Steps.cons (fun a' w' hG hB dep => gs_index (want_none rfl) _ _ _ rfl under_rules 1 size_ruleE gu 0 (m + 1) cu (j) (dep 0 rfl 47 rfl) (dep 1 rfl 48 rfl) (Nat.lt_succ_of_lt hjl) rfl) ?_
            refine Steps.cons (fun a' w' hG hB dep => gs_load1 (want_none rfl) _ _ rfl gu (0 + j * 1) (dep 2 rfl 49 rfl) (.int .u32 ((dd : Nat))) (hx1 hB) _ Tryd.underlying28 rfl rfl) ?_
            refine Steps.cons (fun a' w' hG hB dep => gs_field (want_none rfl) _ _ _ rfl (w.heap.size + 1) (0) (2) (hG.other 3 rfl) (fun wz => field_nfa_2 (w.heap.size + 1) (0) wz) rfl) ?_
            refine Steps.cons (fun a' w' hG hB dep => gs_load1 (want_none rfl) _ _ rfl (w.heap.size + 1) (2) (dep 4 rfl 51 rfl) (.slice (some ⟨bR, offR, none⟩) m d0) ((blk_then h3 hB).cellv (i := 2) rfl) _ Tryd.underlying23 rfl rfl) ?_
            refine Steps.cons (fun a' w' hG hB dep => gs_move (want_none rfl) _ rfl (id (hG.other 8 rfl))) ?_
            refine Steps.cons (fun a' w' hG hB dep => gs_index (want_none rfl) _ _ _ rfl under_rules 1 size_ruleE bR offR m d0 (j) (dep 5 rfl 52 rfl) (dep 6 rfl 53 rfl) hjl rfl) ?_
            refine Steps.cons (fun a' w' hG hB dep => gs_load1 (want_none rfl) _ _ rfl bR (offR + j * 1) (dep 7 rfl 54 rfl) (.int .u32 ((dd : Nat))) (hx2 hB) _ Tryd.underlying28 rfl rfl) ?_
            refine Steps.cons (fun a' w' hG hB dep => gs_neq_int (want_none rfl) _ _ _ _ rfl _ _ _ (dep 3 rfl 50 rfl) (dep 8 rfl 55 rfl) (id (congrArg Value.bool (bne_self_eq_false _)))) ?_
            exact Steps.nil
          intro u w2 hB2 ans
          have u56 : u 56 = .bool false := ans 9 56 (by decide) rfl
          clear ans
          simp only [putAll, List.foldl_cons, List.foldl_nil, Act.put, List.setIfInBounds_toArray, List.set_cons_zero, List.set_cons_succ, u56]
          clear u56
          simp only [List.drop]
          refine wpList_nil ?_
          have hBw2 := below_then hBq hB2
          clear hx1 hx2 hB2 c32
          go_wp2_with (fail)
          exact ⟨⟨j + 1, by omega, rfl, hBw2⟩, by simp only [intOf]; omega⟩
        · have hjI : ¬ (j : Int) < m := by omega
          have hl1 : ∀ {X : World}, Below wr.heap.size wr X → X.cell? ⟨ge, 0 + n * 7, none⟩ = some (.int .i64 77) := fun hb => by
            have h := (((hxE.then_ ((below_then hB1 hBw))).then_ (below_then (Below.refl _ wr) hb)).row edgC_size n (by rw [List.length_append, Hn.out]; simp)).kd
            rw [Nat.zero_add]
            refine h.trans ?_
            have : (E ++ [edge77])[n]'(by rw [List.length_append, Hn.out]; simp) = edge77 := by
              rw [List.getElem_append_right (by rw [Hn.out]; exact Nat.le_refl _)]
              simp
            rw [this]
            rfl
          have hl2 : ∀ {X : World}, Below wr.heap.size wr X → X.cell? ⟨gu, 0 + m * 1, none⟩ = some (.int .u32 77) := fun hb => by
            have h := ((hxR.then_ ((below_then hB1 hBw))).then_ (below_then (Below.refl _ wr) hb)).row encR_size m (by rw [List.length_append, Hm.out]; simp) 0 _ rfl
            rw [Nat.zero_add]
            refine h.trans ?_
            have : (R ++ [77])[m]'(by rw [List.length_append, Hm.out]; simp) = 77 := by
              rw [List.getElem_append_right (by rw [Hm.out]; exact Nat.le_refl _)]
              simp
            rw [this]
            rfl
          go_upto_region 13 with (fail)
          clear c32
          refine wp_region_text 17 [eqS (.slice (some ⟨ge, 0, none⟩) (n + 1) ce), eqS (.pointer (some ⟨(w.heap.size + 1), 1, none⟩)), eqS (.slice A n c0), eqS (.int .i64 (((n : Nat) : Int))), eqS (.pointer (some ⟨ge, 0 + n * 7, none⟩)), eqS (.pointer (some ⟨ge, 0 + n * 7, none⟩)), eqS (.int .i64 (77)), eqS (.bool true), eqS (.bool true), eqS (vF (true && (true == true)) (.slice (some ⟨gu, 0, none⟩) (m + 1) cu)), eqS (vF (true && (true == true)) (.pointer (some ⟨(w.heap.size + 1), 2, none⟩))), eqS (vF (true && (true == true)) (.slice B m d0)), eqS (vF (true && (true == true)) (.int .i64 (((m : Nat) : Int)))), eqS (vF (true && (true == true)) (.pointer (some ⟨gu, 0 + m * 1, none⟩))), eqS (vF (true && (true == true)) (.int .u32 (77))), eqS (vF (true && (true == true)) (.bool true)), eqS (.bool (true && true))] [57, 58, 59, 60, 61, 62, 63, 64, 65, 66, 67, 68, 69, 70, 71, 72, 73] (by kernel_rfl) rfl ?_ ?_
          · skip
            refine Steps.cons (fun a' w' hG hB dep => gs_move (want_none rfl) _ rfl (id (hG.other 5 rfl))) ?_
            refine Steps.cons (fun a' w' hG hB dep => gs_field (want_none rfl) _ _ _ rfl (w.heap.size + 1) (0) (1) (hG.other 3 rfl) (fun wz => field_nfa_1 (w.heap.size + 1) (0) wz) rfl) ?_
            refine Steps.cons (fun a' w' hG hB dep => gs_load1 (want_none rfl) _ _ rfl (w.heap.size + 1) (1) (dep 1 rfl 58 rfl) (.slice A n c0) ((blk_then h3 hB).cellv (i := 1) rfl) _ Tryd.underlying22 rfl rfl) ?_
            refine Steps.cons (fun a' w' hG hB dep => gs_len (want_none rfl) _ _ rfl under_edges _ n c0 (dep 2 rfl 59 rfl) rfl) ?_
            refine Steps.cons (fun a' w' hG hB dep => gs_index (want_none rfl) _ _ _ rfl under_edges 7 size_edgeE ge 0 (n + 1) ce (n) (dep 0 rfl 57 rfl) (dep 3 rfl 60 rfl) (Nat.lt_succ_self _) rfl) ?_
            refine Steps.cons (fun a' w' hG hB dep => gs_field (want_none rfl) _ _ _ rfl ge (0 + n * 7) (0 + n * 7) (dep 4 rfl 61 rfl) (fun wz => field_edge_0 ge (0 + n * 7) wz) rfl) ?_
            refine Steps.cons (fun a' w' hG hB dep => gs_load1 (want_none rfl) _ _ rfl ge (0 + n * 7) (dep 5 rfl 62 rfl) (.int .i64 (77)) (hl1 hB) _ Tryd.underlying3 rfl rfl) ?_
            refine Steps.cons (fun a' w' hG hB dep => gs_eql_int (want_none rfl) _ _ _ _ rfl _ _ _ (dep 6 rfl 63 rfl) rfl (id (congrArg Value.bool rfl))) ?_
            refine Steps.cons (fun a' w' hG hB dep => gs_move (want_none rfl) _ rfl (id (dep 7 rfl 64 rfl))) ?_
            refine Steps.cons (fun a' w' hG hB dep => gs_guard (c := true) (b' := true) rfl rfl (dep 8 rfl 65 rfl) (fun hc he hw => gs_move hw _ rfl (Eq.trans (hG.other 6 rfl) (vF_yes (on_g hc he) _).symm)) (fun hn => vF_no hn _)) ?_
            refine Steps.cons (fun a' w' hG hB dep => gs_guard (c := true) (b' := true) rfl rfl (dep 8 rfl 65 rfl) (fun hc he hw => gs_field hw _ _ _ rfl (w.heap.size + 1) (0) (2) (hG.other 3 rfl) (fun wz => field_nfa_2 (w.heap.size + 1) (0) wz) (vF_yes (on_g hc he) _).symm) (fun hn => vF_no hn _)) ?_
            refine Steps.cons (fun a' w' hG hB dep => gs_guard (c := true) (b' := true) rfl rfl (dep 8 rfl 65 rfl) (fun hc he hw => gs_load1 hw _ _ rfl (w.heap.size + 1) (2) (Eq.trans (dep 10 rfl 67 rfl) (vF_yes (on_g hc he) _)) (.slice B m d0) ((blk_then h3 hB).cellv (i := 2) rfl) _ Tryd.underlying23 rfl (vF_yes (on_g hc he) _).symm) (fun hn => vF_no hn _)) ?_
            refine Steps.cons (fun a' w' hG hB dep => gs_guard (c := true) (b' := true) rfl rfl (dep 8 rfl 65 rfl) (fun hc he hw => gs_len hw _ _ rfl under_rules _ m d0 (Eq.trans (dep 11 rfl 68 rfl) (vF_yes (on_g hc he) _)) (vF_yes (on_g hc he) _).symm) (fun hn => vF_no hn _)) ?_
            refine Steps.cons (fun a' w' hG hB dep => gs_guard (c := true) (b' := true) rfl rfl (dep 8 rfl 65 rfl) (fun hc he hw => gs_index hw _ _ _ rfl under_rules 1 size_ruleE gu 0 (m + 1) cu (m) (Eq.trans (dep 9 rfl 66 rfl) (vF_yes (on_g hc he) _)) (Eq.trans (dep 12 rfl 69 rfl) (vF_yes (on_g hc he) _)) (Nat.lt_succ_self _) (vF_yes (on_g hc he) _).symm) (fun hn => vF_no hn _)) ?_
            refine Steps.cons (fun a' w' hG hB dep => gs_guard (c := true) (b' := true) rfl rfl (dep 8 rfl 65 rfl) (fun hc he hw => gs_load1 hw _ _ rfl gu (0 + m * 1) (Eq.trans (dep 13 rfl 70 rfl) (vF_yes (on_g hc he) _)) (.int .u32 (77)) (hl2 hB) _ Tryd.underlying28 rfl (vF_yes (on_g hc he) _).symm) (fun hn => vF_no hn _)) ?_
            refine Steps.cons (fun a' w' hG hB dep => gs_guard (c := true) (b' := true) rfl rfl (dep 8 rfl 65 rfl) (fun hc he hw => gs_eql_int hw _ _ _ _ rfl _ _ _ (Eq.trans (dep 14 rfl 71 rfl) (vF_yes (on_g hc he) _)) rfl (Eq.trans (congrArg Value.bool rfl) (vF_yes (on_g hc he) _).symm)) (fun hn => vF_no hn _)) ?_
            refine Steps.cons (fun a' w' hG hB dep => gs_pick (want_none rfl) _ _ _ rfl true (dep 8 rfl 65 rfl) (id (pick_and2 (c := true) rfl (dep 15 rfl 72 rfl)))) ?_
            exact Steps.nil
          intro u w2 hB2 ans
          have u73 : u 73 = .bool true := ans 16 73 (by decide) rfl
          clear ans
          simp only [putAll, List.foldl_cons, List.foldl_nil, Act.put, List.setIfInBounds_toArray, List.set_cons_zero, List.set_cons_succ, u73]
          clear u73
          simp only [List.drop]
          have hBw2 := below_then (below_then hB1 hBw) hB2
          clear hl1 hl2 hB2
          go_wp2_with (fail)
          go_ret
          exact ⟨rfl, hBw2⟩
section
variable {α : Type} {enc : α → Array Value} {size : Nat}
theorem flat_put (hs : ∀ y, (enc y).size = size) : ∀ (ys : List α) (k : Nat) (y' : α) (hk : k < ys.length), flat enc (ys.set k y') = (flat enc ys).take (k * size) ++ (enc y').toList ++ (flat enc ys).drop (k * size + size)
  | [], k, y', hk => by simp at hk
  | y :: ys, 0, y', hk => by
    have hf : flat enc (y :: ys) = (enc y).toList ++ flat enc ys := rfl
    have hf2 : flat enc (y' :: ys) = (enc y').toList ++ flat enc ys := rfl
    have hy : (enc y).toList.length = size := by simp [hs]
    rw [List.set_cons_zero, hf, hf2, Nat.zero_mul, List.take_zero, List.nil_append, Nat.zero_add, List.drop_left' hy]
  | y :: ys, k + 1, y', hk => by
    have hf : flat enc (y :: ys) = (enc y).toList ++ flat enc ys := rfl
    have hf2 : flat enc (y :: ys.set k y') = (enc y).toList ++ flat enc (ys.set k y') := rfl
    have hy : (enc y).toList.length = size := by simp [hs]
    have e1 : (k + 1) * size = size + k * size := by rw [Nat.add_mul]; omega
    have t1 : ((enc y).toList ++ flat enc ys).take (size + k * size) = (enc y).toList ++ (flat enc ys).take (k * size) := by
      have := List.take_length_add_append (l₁ := (enc y).toList) (l₂ := flat enc ys) (i := k * size)
      rwa [hy] at this
    have t2 : ((enc y).toList ++ flat enc ys).drop (size + k * size + size) = (flat enc ys).drop (k * size + size) := by
      have := List.drop_length_add_append (l₁ := (enc y).toList) (l₂ := flat enc ys) (i := k * size + size)
      rw [hy] at this
      rwa [Nat.add_assoc]
    rw [List.set_cons_succ, hf2, flat_put hs ys k y' (by simpa using hk), hf, e1, t1, t2]
    simp [List.append_assoc]
theorem take_put {β : Type} (l m : List β) (a b N : Nat) (h1 : a + b ≤ N) (hm : m.length = b) (hl : N ≤ l.length) : (l.take a ++ m ++ l.drop (a + b)).take N = (l.take N).take a ++ m ++ (l.take N).drop (a + b) := by
  obtain ⟨A, hA⟩ : ∃ A, A = l.take a := ⟨_, rfl⟩
  have hAl : A.length = a := by rw [hA, List.length_take]; omega
  have e1 : (l.take N).take a = A := by rw [List.take_take, Nat.min_eq_left (by omega), hA]
  have e2 : (l.take N).drop (a + b) = (l.drop (a + b)).take (N - (a + b)) := by rw [List.drop_take]
  have e3 : (A ++ m).length = a + b := by rw [List.length_append, hAl, hm]
  rw [e1, e2, ← hA]
  have := List.take_length_add_append (l₁ := A ++ m) (l₂ := l.drop (a + b)) (i := N - (a + b))
  rw [e3, show a + b + (N - (a + b)) = N by omega] at this
  exact this
theorem wl_store_own {P : Program} {base : Nat} {e : TypeId} {w : World} {ys : List α} {ops : Array Oper} {rest : List Oper} {o : Oper} {a : Act} {Q : Exit → Act → World → Prop} (hgd : o.guard = none) (ty : TypeId) (x y : Operand) (ho : o.op = .store ty x y)
    (g k n cap : Nat) (hx : a.eval x = .pointer (some ⟨g, k * size, none⟩)) (z : α) (hy : a.eval y = .agg (enc z)) (hs : ∀ y, (enc y).size = size) (h1 : ∀ y, (enc y).all (·.oneCell') = true) (hi : (P.info? ty).map (·.size) = some size)
    (hown : Own w base e size enc (.slice (some ⟨g, 0, none⟩) n cap) ys) (hk : k < ys.length)
    (h : ∀ w', Own w' base e size enc (.slice (some ⟨g, 0, none⟩) n cap) (ys.set k z) → w.grownBy w' (some g) → wpList P ops Q rest (a.put o.dst undef) w') : wpList P ops Q (o :: rest) a w := by
  rcases hown.2 with ⟨hv, _⟩ | ⟨g', cap', cur, hv, hbg, hg, hnc, hcm, hcs, htake⟩
  · cases hv
  · injection hv with e1 e2 e3
    injection e1 with e1
    injection e1 with e1
    subst e1 e2 e3
    have hlt : k * size + size ≤ ys.length * size := by
      have : (k + 1) * size ≤ ys.length * size := Nat.mul_le_mul_right _ (by omega)
      rw [Nat.add_mul] at this; omega
    have hle : ys.length * size ≤ cap * size := Nat.mul_le_mul_right _ hnc
    have hz : (enc z).toList.length = size := by simp [hs]
    have hone : ∀ u ∈ (enc z).toList, u.oneCell' = true := fun u hu => (Array.all_eq_true_iff_forall_mem.1 (h1 z)) u (by simpa using hu)
    have hst := run_storeCells_at P g (k * size) e (enc z).toList 0 cur w hg (by omega) hone
    simp only [Nat.add_zero] at hst
    have hrun : (storeVar ty ⟨g, k * size, none⟩ (.agg (enc z))).run P w = .ok () (w.setRow g (cur.toList.take (k * size) ++ (enc z).toList ++ cur.toList.drop (k * size + (enc z).toList.length)).toArray) := by
      cases hq : P.info? ty with
      | none => simp [hq] at hi
      | some j =>
        have hj : j.size = size := by simpa [hq] using hi
        have hsz : (enc z).size = size := hs z
        simp [storeVar, sizeOf, typeInfo, hq, hj, Value.cells, hsz]
        simpa [hsz] using hst
    refine wpList_plain hgd fun _ hK => ?_
    unfold Oper.wp execOp
    simp only [ho, hx, hy, Instr.storeAt, Instr.sureAddr, Sem.run_bind, Sem.run_pure, Result.andThen_ok, hrun]
    refine hK _ _ (h _ ?_ (only_setRow (only_refl _ _) _))
    unfold Own
    rw [List.length_set]
    refine ⟨by rw [flat_length hs, List.length_set], .inr ⟨g, cap, _, rfl, hbg, setRow_heap w g cur _ e _ hg, hnc, hcm, ?_, ?_⟩⟩
    · simp only [List.size_toArray, List.length_append, List.length_take, List.length_drop, Array.length_toList, hz]
      omega
    · have hcl : cur.toList.length = cap * size := by simpa using hcs
      rw [flat_put hs ys k z hk, ← htake, hz]
      exact take_put cur.toList (enc z).toList (k * size) size _ hlt hz (by omega)
end
def edge1 : Edg := { edge0 with kd := 1 }
theorem run_buildE1 (w : World) : (Instr.build 53 #[(0, .int .i64 1)]).run Tryd.prog w = .ok (.agg (edgC edge1)) w := by kernel_rfl
theorem wl_buildE1 {ops : Array Oper} {rest : List Oper} {o : Oper} {a : Act} {w : World} {Q : Exit → Act → World → Prop} (hgd : o.guard = none) (ho : o.op = .build 53 #[(0, .const (.int .i64 1))])
    (h : wpList Tryd.prog ops Q rest (a.put o.dst (.agg (edgC edge1))) w) : wpList Tryd.prog ops Q (o :: rest) a w := by
  refine wpList_plain hgd fun _ hK => ?_
  unfold Oper.wp execOp
  have e : (#[(0, Operand.const (Value.int .i64 1))].map fun p : Nat × Operand => (p.1, a.eval p.2)) = #[(0, Value.int .i64 1)] := by simp; rfl
  simp only [ho, e, Sem.run_bind, run_buildE1, Result.andThen_ok, Sem.run_pure]
  exact hK _ _ h
theorem own_types_ne {α β : Type} {e1 : α → Array Value} {e2 : β → Array Value} {W : World} {b1 b2 s1 s2 : Nat} {t1 t2 : TypeId} {v1 v2 : Value} {y1 : List α} {y2 : List β} (h1 : Own W b1 t1 s1 e1 v1 y1) (h2 : Own W b2 t2 s2 e2 v2 y2) (hne : t1 ≠ t2) :
    ∀ j, v1.ownBlock = some j → v2.ownBlock = some j → False := by
  intro j hj1 hj2
  rcases h1.2 with ⟨hv, _⟩ | ⟨g, cap, cur, hv, _, hh, _⟩
  · rw [hv] at hj1; cases hj1
  rcases h2.2 with ⟨hv2, _⟩ | ⟨g2, cap2, cur2, hv2, _, hh2, _⟩
  · rw [hv2] at hj2; cases hj2
  rw [hv] at hj1
  rw [hv2] at hj2
  have a1 : g = j := by simpa [Value.ownBlock] using hj1
  have a2 : g2 = j := by simpa [Value.ownBlock] using hj2
  subst a1; subst a2
  rw [hh] at hh2
  injection hh2 with hh2
  injection hh2 with _ h3
  exact hne h3
set_option maxRecDepth 100000 in
set_option maxHeartbeats 4000000 in
theorem spoil_any (s : Int) (n m ge ce gu cu Bx : Nat) (E : List Edg) (R : List Nat) (hE : E.length = n + 1) (hRl : R.length = m + 1) (hn2 : n ≤ 274877906944) (hm2 : m ≤ 274877906944) (w : World)
    (hxE : Own w Bx 53 7 edgC (.slice (some ⟨ge, 0, none⟩) (n + 1) ce) E) (hxR : Own w Bx 28 1 encR (.slice (some ⟨gu, 0, none⟩) (m + 1) cu) R) (hgg : ge ≠ gu) :
    Calls Tryd.prog 12 #[.agg (nfaC s (some ⟨ge, 0, none⟩) n ce (some ⟨gu, 0, none⟩) m cu)] w fun e w' => e = .returned (.tuple #[]) ∧ Grown2 w w' ge gu := by
  have hel := (hxE.lt ge rfl).2
  have hul := (hxR.lt gu rfl).2
  have HE := Lib.hid hE
  have HR := Lib.hid hRl
  clear hE hRl
  go_enter Tryd.func12, Tryd.ntmps12
  have h1 := Blk.new w 25 (nfaC s (some ⟨ge, 0, none⟩) n ce (some ⟨gu, 0, none⟩) m cu)
  have hB1 : Below w.heap.size w (w.alloc (.cells (nfaC s (some ⟨ge, 0, none⟩) n ce (some ⟨gu, 0, none⟩) m cu) 25)) := below_alloc (Below.refl _ _) _
  go_upto_region 1 with (fail)
  obtain ⟨W1, hW1⟩ : ∃ y, y = w.alloc (.cells (nfaC s (some ⟨ge, 0, none⟩) n ce (some ⟨gu, 0, none⟩) m cu) 25) := ⟨_, rfl⟩
  rw [← hW1] at h1 hB1 ⊢
  clear hW1
  replace hxE := hxE.then_ hB1
  replace hxR := hxR.then_ hB1
  have hG1 : Grown2 w W1 ge gu := Grown2.below hB1
  clear hB1
  go_wp2_with (fail)
  go_loopw [2] (fun iv wr => ∃ j : Nat, j ≤ n ∧ iv = .int .i64 j ∧ (∃ ys : List Edg, ys.length = n + 1 ∧ Own wr Bx 53 7 edgC (.slice (some ⟨ge, 0, none⟩) (n + 1) ce) ys) ∧ Own wr Bx 28 1 encR (.slice (some ⟨gu, 0, none⟩) (m + 1) cu) R ∧ Blk wr w.heap.size 25 (nfaC s (some ⟨ge, 0, none⟩) n ce (some ⟨gu, 0, none⟩) m cu) ∧ Grown2 w wr ge gu) (fun iv _ => n - (intOf iv).toNat)
  case atStart => exact ⟨0, by omega, rfl, ⟨E, HE.out, hxE⟩, hxR, h1, hG1⟩
  case round =>
    clear hxE hxR h1 hG1
    obtain ⟨j, hj, rfl, ⟨ys, hys, hxE⟩, hxR, h1, hG1⟩ := hrel
    have c1 : wr.cell? ⟨w.heap.size, 1, none⟩ = some (.slice (some ⟨ge, 0, none⟩) n ce) := h1.cellv (i := 1) rfl
    have HY := Lib.hid hys
    clear hys
    by_cases hjl : j < n
    · have hjI : (j : Int) < n := by omega
      go_wp2_with (first
        | (refine wl_buildE1 rfl rfl ?_)
        | (refine wl_store_own (enc := edgC) (size := 7) rfl _ _ _ rfl ge j _ _ rfl edge1 rfl edgC_size edgC_one info_edge hxE (by rw [HY.out]; omega) ?_; intro w2 hx2 hg2))
      exact ⟨⟨j + 1, by omega, rfl, ⟨_, by rw [List.length_set, HY.out], hx2⟩, hxR.kept_ hg2 (fun q e1 e2 => own_types_ne hxE hxR (by decide) q (by injection e2 with e2; rw [e2]; rfl) e1), blk_grown h1 hg2 (by omega), hG1.trans (Grown2.fst hg2)⟩, by simp only [intOf]; omega⟩
    · have hjI : ¬ (j : Int) < n := by omega
      have c2 : wr.cell? ⟨w.heap.size, 2, none⟩ = some (.slice (some ⟨gu, 0, none⟩) m cu) := h1.cellv (i := 2) rfl
      go_wp2_with (fail)
      clear c1 c2 hxE
      go_loopw [3] (fun iv wr => ∃ j : Nat, j ≤ m ∧ iv = .int .i64 j ∧ (∃ ys : List Nat, ys.length = m + 1 ∧ Own wr Bx 28 1 encR (.slice (some ⟨gu, 0, none⟩) (m + 1) cu) ys) ∧ Blk wr w.heap.size 25 (nfaC s (some ⟨ge, 0, none⟩) n ce (some ⟨gu, 0, none⟩) m cu) ∧ Grown2 w wr ge gu) (fun iv _ => m - (intOf iv).toNat)
      case atStart => exact ⟨0, by omega, rfl, ⟨R, HR.out, hxR⟩, h1, hG1⟩
      case round =>
        clear hxR h1 hG1 hj hjl hjI
        obtain ⟨j, hj, rfl, ⟨zs, hzs, hxR⟩, h1, hG1⟩ := hrel
        have c2 : wr.cell? ⟨w.heap.size, 2, none⟩ = some (.slice (some ⟨gu, 0, none⟩) m cu) := h1.cellv (i := 2) rfl
        have HZ := Lib.hid hzs
        clear hzs
        by_cases hjl : j < m
        · have hjI : (j : Int) < m := by omega
          go_wp2_with (refine wl_store_rule rfl _ _ rfl gu j _ _ rfl 4294967295 rfl hxR (by rw [HZ.out]; omega) ?_; intro w2 hx2 hg2)
          exact ⟨⟨j + 1, by omega, rfl, ⟨_, by rw [List.length_set, HZ.out], hx2⟩, blk_grown h1 hg2 (by omega), hG1.trans (Grown2.snd hg2)⟩, by simp only [intOf]; omega⟩
        · have hjI : ¬ (j : Int) < m := by omega
          go_wp2_with (fail)
          first | (refine bodyPost_end (results_none rfl _ _ _) rfl ?_) | (refine bodyPost_ret (results_none rfl _ _ _) rfl ?_)
          exact ⟨rfl, hG1⟩
end Go.Proofs.YtgahdookojbbiaaDoor
