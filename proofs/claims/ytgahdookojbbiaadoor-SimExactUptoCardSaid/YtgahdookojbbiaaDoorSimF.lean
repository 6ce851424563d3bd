/- sim.Walk's at, Rules. No condition beyond those named in each lemma. -/
import Derived.Test.YtgahdookojbbiaaDoorSimE
namespace Go.Proofs.YtgahdookojbbiaaDoor
open Go.RowKit Go.Shelf Go.Maps
set_option linter.unusedVariables false
set_option linter.unusedSimpArgs false
attribute [local go_sem] Oper.semAt_some

/-- all but two blocks is as it was -/
structure Grown2 (W W' : World) (a b : Nat) : Prop where
  os : W'.os = W.os
  tape : W'.tape = W.tape
  output : W'.output = W.output
  size : W.heap.size ≤ W'.heap.size
  block : ∀ k, k < W.heap.size → k ≠ a → k ≠ b → W'.heap[k]? = W.heap[k]?
theorem Grown2.fst {W W' : World} {a b : Nat} (h : W.grownBy W' (some a)) : Grown2 W W' a b := ⟨h.os, h.tape, h.output, h.size, fun k hk h1 _ => h.block k hk (by simpa using h1)⟩
theorem Grown2.snd {W W' : World} {a b : Nat} (h : W.grownBy W' (some b)) : Grown2 W W' a b := ⟨h.os, h.tape, h.output, h.size, fun k hk _ h1 => h.block k hk (by simpa using h1)⟩
theorem Grown2.below {W W' : World} {a b : Nat} (h : Below W.heap.size W W') : Grown2 W W' a b := ⟨h.os, h.tape, h.output, h.size, fun k hk _ _ => h.block k hk⟩
theorem Grown2.trans {W W' W2 : World} {a b : Nat} (h : Grown2 W W' a b) (k : Grown2 W' W2 a b) : Grown2 W W2 a b := ⟨k.os.trans h.os, k.tape.trans h.tape, k.output.trans h.output, Nat.le_trans h.size k.size, fun i hi h1 h2 => (k.block i (Nat.lt_of_lt_of_le hi h.size) h1 h2).trans (h.block i hi h1 h2)⟩
/-- the cells of a walk -/
def walkC (gm : Nat) (v : Value) (r : Nat) (b : Bool) : Array Value := #[.pointer (some ⟨gm, 0, none⟩), v, .int .u32 (r : Int), .bool b]
theorem info_states1 : (Tryd.prog.info? 69).map (·.size) = some 1 := by kernel_rfl
theorem enter_met (args : Array Value) (w : World) : (callFunc 37 args).run Tryd.prog w = .ok (.enter 37 args) w := by kernel_rfl
theorem tab_grown {W W' : World} {r : Nat} (h : TabOk W) (hg : W.grownBy W' (some r)) (hr : 0 < r) : TabOk W' := fun i hi => (World.cell?_of_block (hg.block 0 h.size (by simp; omega))).trans (h i hi)
theorem enter_goes (args : Array Value) (w : World) : (callFunc 36 args).run Tryd.prog w = .ok (.enter 36 args) w := by kernel_rfl
theorem map4 {a : Act} {x y z s : Operand} {v u t r : Value} (h : a.eval x = v) (h2 : a.eval y = u) (h3 : a.eval z = t) (h4 : a.eval s = r) : #[x, y, z, s].map a.eval = #[v, u, t, r] := by simp [h, h2, h3, h4]
/-- a call, in a list -/
theorem wl_call {P : Program} {ops : Array Oper} {rest : List Oper} {o : Oper} {a : Act} {w : World} {Q : Exit → Act → World → Prop} (hgd : o.guard = none) (f : FuncId) (xs : Array Operand) (ats : Array TypeId) (ho : o.op = .call { callee := .value (.func f), args := xs, argTypes := ats })
    (hf : ∀ args w, (callFunc f args).run P w = .ok (.enter f args) w) (vs : Array Value) (hv : xs.map a.eval = vs)
    (hc : Calls P f vs w fun e w' => ∃ v, e = .returned v ∧ wpList P ops Q rest (a.put o.dst v) w') : wpList P ops Q (o :: rest) a w := by
  refine wpList_plain hgd fun K hK => ?_
  unfold Oper.wp
  have hr : (execOp a.eval o).run P w = .ok (.enter f vs) w := by
    have he : execOp a.eval o = callFunc f (#[] ++ xs.map a.eval ++ #[]) := by
      unfold execOp; rw [ho]; rfl
    rw [he, hv]
    simpa using hf vs w
  rw [hr, Oper.upon_enter]
  refine hc.mono ?_
  rintro e w' ⟨v, rfl, h⟩
  exact hK _ _ h
set_option maxRecDepth 100000 in
set_option maxHeartbeats 2000000 in
theorem at_any (nb gm N : Nat) (E : List Edg) (R : List Nat) (base gw g c x r : Nat) (b : Bool) (old : Value) (hx : below x N) (hr : r < 4294967296) (w : World) (hM : MachOk nb w gm N E R) (hw : Blk w gw 71 (walkC gm old r b)) (hnw : nb ≤ gw)
    (hs : Own w base 49 1 encU (.slice (some ⟨g, 0, none⟩) (wordsFor N) c) (wordsN x (wordsFor N))) (hnb : nb ≤ base) (hne : gw ≠ g) (hT : TabOk w) :
    Calls Tryd.prog 27 #[.pointer (some ⟨gw, 0, none⟩), .slice (some ⟨g, 0, none⟩) (wordsFor N) c] w fun e w' => e = .returned (.tuple #[]) ∧
      Blk w' gw 71 (walkC gm (.slice (some ⟨g, 0, none⟩) (wordsFor N) c) (r ||| metN R (spreadN E N b false (x ||| 1)) N) b) ∧
      Own w' base 49 1 encU (.slice (some ⟨g, 0, none⟩) (wordsFor N) c) (wordsN (spreadN E N b false (x ||| 1)) (wordsFor N)) ∧ Grown2 w w' gw g := by
  have hN := hM.2.1
  have hone := hM.1.one
  have hnb0 := hM.2.2.2.2.1
  have hkb : wordsFor N ≤ 1099511627776 := by unfold wordsFor; omega
  have h64 : 0 < 64 * wordsFor N := Nat.lt_of_lt_of_le hone (words_room N)
  have hgb := hs.lt g rfl
  have hx1 : below (x ||| 1) N := below_or hx (below_pow (show 0 < N from hone))
  obtain ⟨y, hy⟩ : ∃ y, y = spreadN E N b false (x ||| 1) := ⟨_, rfl⟩
  have hyN : below y N := by rw [hy]; exact spread_below _ _ _ _ _
  rw [← hy]
  have Hy := Lib.hid hy
  clear hy
  go_enter Tryd.func27, Tryd.ntmps27
  go_upto_region 1 with (go_at_call 33; refine (sadd_any g (wordsFor N) c x 0 base h64 hkb w hs).mono ?_; rintro e w1 ⟨rfl, hs1, hg1⟩)
  have hw1 := blk_grown hw hg1 hne
  have hM1 := hM.grown hg1 (by omega)
  have hT1 := tab_grown hT hg1 (by omega)
  refine wp_region_steps 9 [eqS (.pointer (some ⟨gw, 0, none⟩)), eqS (.pointer (some ⟨gw, 0, none⟩)), eqS (.pointer (some ⟨gw, 0, none⟩)), eqS (.pointer (some ⟨gm, 0, none⟩)), eqS (.slice (some ⟨g, 0, none⟩) (wordsFor N) c), eqS (.pointer (some ⟨gw, 0, none⟩)), eqS (.pointer (some ⟨gw, 0, none⟩)), eqS (.pointer (some ⟨gw, 3, none⟩)), eqS (.bool b)] [6, 7, 8, 9, 10, 11, 12, 13, 14] rfl (by kernel_rfl) rfl ?_ ?_
  · refine Steps.cons (fun a' w' hG hB dep => gs_move (want_none rfl) _ rfl (hG.other 0 rfl)) ?_
    refine Steps.cons (fun a' w' hG hB dep => gs_nil (want_none rfl) _ rfl _ (dep 0 rfl 6 rfl) rfl) ?_
    refine Steps.cons (fun a' w' hG hB dep => gs_field (want_none rfl) _ _ _ rfl gw 0 0 (dep 1 rfl 7 rfl) (field_walk_0 gw) rfl) ?_
    refine Steps.cons (fun a' w' hG hB dep => gs_load1 (want_none rfl) _ _ rfl gw 0 (dep 2 rfl 8 rfl) _ ((blk_then hw1 hB).cellv (i := 0) rfl) _ Tryd.underlying64 rfl rfl) ?_
    refine Steps.cons (fun a' w' hG hB dep => gs_move (want_none rfl) _ rfl (hG.other 1 rfl)) ?_
    refine Steps.cons (fun a' w' hG hB dep => gs_move (want_none rfl) _ rfl (hG.other 0 rfl)) ?_
    refine Steps.cons (fun a' w' hG hB dep => gs_nil (want_none rfl) _ rfl _ (dep 5 rfl 11 rfl) rfl) ?_
    refine Steps.cons (fun a' w' hG hB dep => gs_field (want_none rfl) _ _ _ rfl gw 0 3 (dep 6 rfl 12 rfl) (field_walk_3 gw) rfl) ?_
    refine Steps.cons (fun a' w' hG hB dep => gs_load1 (want_none rfl) _ _ rfl gw 3 (dep 7 rfl 13 rfl) _ ((blk_then hw1 hB).cellv (i := 3) rfl) _ Tryd.underlying4 rfl rfl) ?_
    exact Steps.nil
  intro u w2 hB2 ans
  have u9 : u 9 = .pointer (some ⟨gm, 0, none⟩) := ans 3 9 (by decide) rfl
  have u10 : u 10 = .slice (some ⟨g, 0, none⟩) (wordsFor N) c := ans 4 10 (by decide) rfl
  have u14 : u 14 = .bool b := ans 8 14 (by decide) rfl
  clear ans
  simp only [putAll, List.foldl_cons, List.foldl_nil, Act.put, List.setIfInBounds_toArray, List.set_cons_zero, List.set_cons_succ, u9, u10, u14]
  clear u9 u10 u14
  simp only [List.drop]
  have hs2 := hs1.then_ hB2
  refine wl_call rfl _ _ _ rfl enter_goes _ (map4 rfl rfl rfl rfl) ((goes_any nb gm N E R base g c (x ||| 1) b false hx1 w2 (hM1.below hB2 hM1.2.2.2.2.2.1) hs2 hnb (hT1.then_ hT1.size hB2)).mono ?_)
  rintro e w3 ⟨rfl, hs3, hg3⟩
  refine ⟨_, rfl, ?_⟩
  simp only [Act.put, List.setIfInBounds_toArray, List.set_cons_zero, List.set_cons_succ]
  refine wpList_nil ?_
  have hw3 := blk_grown (blk_then hw1 hB2) hg3 hne
  have hM3 := (hM1.below hB2 hM1.2.2.2.2.2.1).grown hg3 (by omega)
  have hT3 := tab_grown (hT1.then_ hT1.size hB2) hg3 (by omega)
  have G3 : Grown2 w w3 gw g := (Grown2.snd hg1).trans ((Grown2.below hB2).trans (Grown2.snd hg3))
  clear hs hs1 hs2 hw hw1 hM hM1 hT hT1 hg1 hB2 hg3
  rw [← Hy.out] at hs3
  go_upto_region 3 with (refine wl_store_cell rfl _ _ _ rfl _ _ rfl _ _ (walkC gm (.slice (some ⟨g, 0, none⟩) (wordsFor N) c) r b) hw3 (by simp [walkC]) info_states1 rfl rfl rfl ?_; intro w4 hw4 hg4)
  simp only [Act.put]
  have hs4 := own_box hs3 hw3 hg4 (by decide)
  have hM4 := hM3.grown hg4 hnw
  have hT4 := tab_grown hT3 hg4 (by omega)
  have G4 : Grown2 w w4 gw g := G3.trans (Grown2.fst hg4)
  clear hs3 hM3 hT3 G3 hw3
  have hgb4 := hs4.lt g rfl
  have hrw : ∀ {w' : World}, Below w4.heap.size w4 w' → ∀ i (h : i < (wordsN y (wordsFor N)).length), RowAt w' g (0 + i) (encU (wordsN y (wordsFor N))[i]) := fun hB i h => by
    have := (hs4.then_ hB).row encU_size i h
    rw [Nat.mul_one] at this
    rw [Nat.zero_add]
    exact this
  have hmet : metN R y N < 4294967296 := met_lt hM4.2.2.2.1 y N
  have hor := u32_or_nat r (metN R y N) hr hmet
  refine wp_region_steps 13 [eqS (.pointer (some ⟨gw, 0, none⟩)), eqS (.pointer (some ⟨gw, 0, none⟩)), eqS (.pointer (some ⟨gw, 2, none⟩)), eqS (.int .u32 (r : Int)), eqS (.pointer (some ⟨gw, 0, none⟩)), eqS (.pointer (some ⟨gw, 0, none⟩)), eqS (.pointer (some ⟨gw, 0, none⟩)), eqS (.pointer (some ⟨gm, 0, none⟩)), eqS (.slice (some ⟨g, 0, none⟩) (wordsFor N) c), eqS (.int .u32 (metN R y N : Nat)), eqS (.int .u32 (r ||| metN R y N : Nat)), eqS (.pointer (some ⟨gw, 0, none⟩)), eqS (.pointer (some ⟨gw, 2, none⟩))] [20, 21, 22, 23, 24, 25, 26, 27, 28, 29, 30, 31, 32] rfl (by kernel_rfl) rfl ?_ ?_
  · refine Steps.cons (fun a' w' hG hB dep => gs_move (want_none rfl) _ rfl (hG.other 0 rfl)) ?_
    refine Steps.cons (fun a' w' hG hB dep => gs_nil (want_none rfl) _ rfl _ (dep 0 rfl 20 rfl) rfl) ?_
    refine Steps.cons (fun a' w' hG hB dep => gs_field (want_none rfl) _ _ _ rfl gw 0 2 (dep 1 rfl 21 rfl) (field_walk_2 gw) rfl) ?_
    refine Steps.cons (fun a' w' hG hB dep => gs_load1 (want_none rfl) _ _ rfl gw 2 (dep 2 rfl 22 rfl) _ ((blk_then hw4 hB).cellv (i := 2) rfl) _ Tryd.underlying28 rfl rfl) ?_
    refine Steps.cons (fun a' w' hG hB dep => gs_move (want_none rfl) _ rfl (hG.other 0 rfl)) ?_
    refine Steps.cons (fun a' w' hG hB dep => gs_nil (want_none rfl) _ rfl _ (dep 4 rfl 24 rfl) rfl) ?_
    refine Steps.cons (fun a' w' hG hB dep => gs_field (want_none rfl) _ _ _ rfl gw 0 0 (dep 5 rfl 25 rfl) (field_walk_0 gw) rfl) ?_
    refine Steps.cons (fun a' w' hG hB dep => gs_load1 (want_none rfl) _ _ rfl gw 0 (dep 6 rfl 26 rfl) _ ((blk_then hw4 hB).cellv (i := 0) rfl) _ Tryd.underlying64 rfl rfl) ?_
    refine Steps.cons (fun a' w' hG hB dep => gs_move (want_none rfl) _ rfl (hG.other 1 rfl)) ?_
    refine Steps.cons (fun a' w' hG hB dep => gs_call (want_none rfl) _ _ _ rfl enter_met _ (map2 (dep 7 rfl 27 rfl) (dep 8 rfl 28 rfl)) ((met_any nb gm N E R g 0 c y hyN w' (hM4.below hB hM4.2.2.2.2.2.1) (hrw hB) (Nat.lt_of_lt_of_le hgb4.2 hB.size) (hT4.then_ hT4.size hB)).mono fun e w2 ⟨he, hb⟩ => ⟨_, he, hb, rfl⟩)) ?_
    refine Steps.cons (fun a' w' hG hB dep => gs_or_u32 (want_none rfl) _ _ _ _ rfl _ _ (dep 3 rfl 23 rfl) (dep 9 rfl 29 rfl) _ hor rfl) ?_
    refine Steps.cons (fun a' w' hG hB dep => gs_nil (want_none rfl) _ rfl _ (dep 0 rfl 20 rfl) rfl) ?_
    refine Steps.cons (fun a' w' hG hB dep => gs_field (want_none rfl) _ _ _ rfl gw 0 2 (dep 11 rfl 31 rfl) (field_walk_2 gw) rfl) ?_
    exact Steps.nil
  intro u w5 hB5 ans
  have u30 : u 30 = .int .u32 (r ||| metN R y N : Nat) := ans 10 30 (by decide) rfl
  have u32 : u 32 = .pointer (some ⟨gw, 2, none⟩) := ans 12 32 (by decide) rfl
  clear ans
  simp only [putAll, List.foldl_cons, List.foldl_nil, Act.put, List.setIfInBounds_toArray, List.set_cons_zero, List.set_cons_succ, u30, u32]
  clear u30 u32
  simp only [List.drop]
  have hw5 := blk_then hw4 hB5
  refine wl_store_cell rfl _ _ _ rfl _ _ rfl _ _ (walkC gm (.slice (some ⟨g, 0, none⟩) (wordsFor N) c) (r ||| metN R y N) b) hw5 (by simp [walkC]) info_u32 rfl rfl rfl ?_
  intro w6 hw6 hg6
  refine wpList_nil ?_
  have hs6 := own_box (hs4.then_ hB5) hw5 hg6 (by decide)
  have G6 : Grown2 w w6 gw g := G4.trans ((Grown2.below hB5).trans (Grown2.fst hg6))
  clear hw4 hw5 hs4 hM4 hT4 hg4 hB5 hg6 hrw
  go_wp2_with (fail)
  first | (refine bodyPost_end (results_none rfl _ _ _) rfl ?_) | (refine bodyPost_ret (results_none rfl _ _ _) rfl ?_)
  exact ⟨rfl, hw6, hs6, G6⟩

/-- the machine stands in the blocks from lo to nb, and in no other -/
def MachIn (lo nb : Nat) (W : World) (gm N : Nat) (E : List Edg) (R : List Nat) : Prop :=
  ∀ W', (∀ k, lo ≤ k → k < nb → W'.heap[k]? = W.heap[k]?) → W.heap.size ≤ W'.heap.size → MachOk nb W' gm N E R
theorem MachIn.ok {lo nb gm N : Nat} {W : World} {E : List Edg} {R : List Nat} (h : MachIn lo nb W gm N E R) : MachOk nb W gm N E R := h W (fun _ _ _ => rfl) (Nat.le_refl _)
theorem MachIn.keep {lo nb gm N : Nat} {W W' : World} {E : List Edg} {R : List Nat} (h : MachIn lo nb W gm N E R) (hk : ∀ k, lo ≤ k → k < nb → W'.heap[k]? = W.heap[k]?) (hs : W.heap.size ≤ W'.heap.size) : MachIn lo nb W' gm N E R :=
  fun W2 h1 h2 => h W2 (fun k a b => (h1 k a b).trans (hk k a b)) (Nat.le_trans hs h2)
theorem MachIn.grown {lo nb gm N r : Nat} {W W' : World} {E : List Edg} {R : List Nat} (h : MachIn lo nb W gm N E R) (hg : W.grownBy W' (some r)) (hr : r < lo ∨ nb ≤ r) : MachIn lo nb W' gm N E R :=
  h.keep (fun k h1 h2 => hg.block k (by have := h.ok.2.2.2.2.2.1; omega) (by intro e; injection e with e; omega)) hg.size
/-- a walk in memory -/
def WalkOk (lo nb : Nat) (W : World) (gw gm N : Nat) (E : List Edg) (R : List Nat) (k : Wk) : Prop :=
  MachIn lo nb W gm N E R ∧ nb ≤ gw ∧ k.met < 4294967296 ∧ below k.at_ N ∧ ∃ g c, gw ≠ g ∧ Blk W gw 71 (walkC gm (.slice (some ⟨g, 0, none⟩) (wordsFor N) c) k.met k.first) ∧
    Own W nb 49 1 encU (.slice (some ⟨g, 0, none⟩) (wordsFor N) c) (wordsN k.at_ (wordsFor N))
theorem WalkOk.lt {lo nb gw gm N : Nat} {W : World} {E : List Edg} {R : List Nat} {k : Wk} (h : WalkOk lo nb W gw gm N E R k) : gw < W.heap.size := by
  obtain ⟨_, _, _, _, g, c, _, h5, _⟩ := h
  exact h5.lt
/-- a walk is as it was where another block than its own has been turned -/
theorem WalkOk.other {lo nb gw gm N r : Nat} {W W' : World} {E : List Edg} {R : List Nat} {k : Wk} {cs : Array Value} (h : WalkOk lo nb W gw gm N E R k) (hg : W.grownBy W' (some r)) (hr : r < lo ∨ nb ≤ r) (hne : r ≠ gw) (hb : Blk W r 71 cs) : WalkOk lo nb W' gw gm N E R k := by
  obtain ⟨h1, h2, h3, h4, g, c, h5, h6, h7⟩ := h
  exact ⟨h1.grown hg hr, h2, h3, h4, g, c, h5, blk_grown h6 hg (fun e => hne e.symm), own_box h7 hb hg (by decide)⟩
theorem WalkOk.then_ {lo nb gw gm N : Nat} {W W' : World} {E : List Edg} {R : List Nat} {k : Wk} (h : WalkOk lo nb W gw gm N E R k) (hb : Below W.heap.size W W') : WalkOk lo nb W' gw gm N E R k := by
  obtain ⟨h1, h2, h3, h4, g, c, h5, h6, h7⟩ := h
  exact ⟨h1.keep (fun i _ hi => hb.block i (by have := h1.ok.2.2.2.2.2.1; omega)) hb.size, h2, h3, h4, g, c, h5, blk_then h6 hb, h7.then_ hb⟩
theorem rules_any (lo nb gw gm N : Nat) (E : List Edg) (R : List Nat) (k : Wk) (w : World) (h : WalkOk lo nb w gw gm N E R k) :
    Calls Tryd.prog 20 #[.pointer (some ⟨gw, 0, none⟩)] w fun e w' => e = .returned (.int .u32 (k.met : Nat)) ∧ w' = w := by
  obtain ⟨_, _, _, _, g, c, _, h6, _⟩ := h
  have c2 : w.cell? ⟨gw, 2, none⟩ = some (.int .u32 (k.met : Nat)) := h6.cellv (i := 2) rfl
  go_enter Tryd.func20, Tryd.ntmps20
  go_wp2_with (fail)
  go_ret
  exact ⟨rfl, rfl⟩
end Go.Proofs.YtgahdookojbbiaaDoor
