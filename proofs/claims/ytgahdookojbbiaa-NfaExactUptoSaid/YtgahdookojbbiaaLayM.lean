/- The maker in memory, a frame by types of blocks; state, edge and free of both programs. No condition beyond those named in each lemma. -/
import Derived.Test.YtgahdookojbbiaaGrowR
import Derived.Test.YtgahdookojbbiaaNodeD
namespace Go.Proofs.Ytgahdookojbbiaa
open Go.RowKit Go.Maps
set_option linter.unusedVariables false
set_option linter.unusedSimpArgs false
attribute [local go_sem] Oper.semAt_some

section
variable {α β : Type} {enc : α → Array Value} {enc2 : β → Array Value} {size size2 base base2 B g r : Nat} {e e2 t : TypeId} {W W' : World} {v v2 : Value} {ys : List α} {zs : List β} {cs : Array Value} {row : Option Nat}
theorem own_low (h : Own W base e size enc v ys) (hg : W.grownBy W' (some r)) (hr : r < base) : Own W' base e size enc v ys :=
  h.kept_ hg (fun j e1 e2 => by
    injection e2 with e2
    have := (h.lt j e1).1
    omega)
theorem own_high (h : Own W base e size enc v ys) (hg : W.grownBy W' (some r)) (hr : W.heap.size ≤ r) : Own W' base e size enc v ys :=
  h.kept_ hg (fun j e1 e2 => by
    injection e2 with e2
    have := (h.lt j e1).2
    omega)
theorem own_box (h : Own W base e size enc v ys) (hb : Blk W r t cs) (hg : W.grownBy W' (some r)) (hne : e ≠ t) : Own W' base e size enc v ys :=
  h.kept_ hg (fun j e1 e2 => by
    injection e2 with e2
    rcases h.2 with ⟨hv, _⟩ | ⟨g', cap, cur, hv, hge, hh, _⟩
    · rw [hv] at e1; cases e1
    · rw [hv] at e1
      have a1 : g' = j := by simpa [Value.ownBlock] using e1
      subst a1; subst e2
      unfold Blk at hb
      rw [hh] at hb
      injection hb with hb
      injection hb with _ hb
      exact hne hb)
theorem blk_own (h : Blk W g t cs) (ho : Own W base e size enc v ys) (hg : W.grownBy W' v.ownBlock) (hr : g < base) : Blk W' g t cs :=
  h.grown hg (fun e => by have := (ho.lt _ e.symm).1; omega)
theorem own_own (h : Own W base2 e2 size2 enc2 v2 zs) (ho : Own W base e size enc v ys) (hg : W.grownBy W' v.ownBlock) (hne : e ≠ e2) : Own W' base2 e2 size2 enc2 v2 zs :=
  h.kept_ hg (fun j e1 e3 => by
    rcases h.2 with ⟨hv, _⟩ | ⟨g', cap, cur, hv, hge, hh, _⟩
    · rw [hv] at e1; cases e1
    · rcases ho.2 with ⟨hv2, _⟩ | ⟨g2, cap2, cur2, hv2, hge2, hh2, _⟩
      · rw [hv2] at e3; cases e3
      · rw [hv] at e1; rw [hv2] at e3
        have a1 : g' = j := by simpa [Value.ownBlock] using e1
        have a2 : g2 = j := by simpa [Value.ownBlock] using e3
        subst a1; subst a2
        rw [hh] at hh2
        injection hh2 with hh2
        injection hh2 with _ hh2
        exact hne hh2.symm)
end
theorem run_edge1 (w : World) (y : Edg) : (Instr.buildSlice 31 1 #[(0, .agg (edgC y))]).run Try.prog w = .ok (.slice (some ⟨w.heap.size, 0, none⟩) 1 1) (w.alloc (.cells (edgC y) 69)) := by kernel_rfl
theorem build_edge (x : Edg) (w : World) : (Instr.build 69 #[(0, .int .i64 x.kd), (1, .int .i64 x.fr), (2, .int .i64 x.tt), (3, .agg (setC x.st))]).run Try.prog w = .ok (.agg (edgC x)) w := by kernel_rfl
theorem gs_build_edge {ops : Array Oper} {S : Nat → GSpec} {Q : Exit → Act → World → Prop} {i : Nat} {o : Oper} {a : Act} {w : World} (hw : Region.wanted o (yielded ops a.tmps) = true) (x0 x1 x2 x3 : Operand) (ho : o.op = .build 69 #[(0, x0), (1, x1), (2, x2), (3, x3)]) (x : Edg)
    (h0 : a.eval x0 = .int .i64 x.kd) (h1 : a.eval x1 = .int .i64 x.fr) (h2 : a.eval x2 = .int .i64 x.tt) (h3 : a.eval x3 = .agg (setC x.st)) (hp : (S i).p (.agg (edgC x)) w) : GStep Try.prog ops S Q i o a w :=
  gs_run hw (v := .agg (edgC x))
    (by
      have e : (#[(0, x0), (1, x1), (2, x2), (3, x3)] : Array (Nat × Operand)).map (fun (i, x) => (i, a.eval x)) = #[(0, .int .i64 x.kd), (1, .int .i64 x.fr), (2, .int .i64 x.tt), (3, .agg (setC x.st))] := by simp [h0, h1, h2, h3]
      unfold execOp; simp only [ho, e, Sem.run_bind, build_edge, Result.andThen_ok, Sem.run_pure])
    (Below.refl _ _) hp
/-- one edge, laid into a block of its own -/
def oneS (lo : Nat) (d : Edg) : GSpec := ⟨fun v w => ∃ g, v = .slice (some ⟨g, 0, none⟩) 1 1 ∧ lo ≤ g ∧ Blk w g 69 (edgC d), fun v w w' ⟨g, h1, h2, h3⟩ hb => ⟨g, h1, h2, blk_then h3 hb⟩⟩
/-- the row with one edge more -/
def moreS (lo k0 : Nat) (rw : Option Nat) (es : List Edg) : GSpec := ⟨fun v w => Own w lo 69 7 edgC v es ∧ (v.ownBlock = rw ∨ ∃ k, v.ownBlock = some k ∧ k0 ≤ k), fun v w w' ⟨h1, h2⟩ hb => ⟨h1.then_ hb, h2⟩⟩
theorem gs_one {ops : Array Oper} {S : Nat → GSpec} {Q : Exit → Act → World → Prop} {i : Nat} {o : Oper} {a : Act} {w : World} (hw : Region.wanted o (yielded ops a.tmps) = true) (x : Operand) (ho : o.op = .buildSlice 31 1 #[(0, x)]) {lo : Nat} (hlo : lo ≤ w.heap.size) (d : Edg) (hx : a.eval x = .agg (edgC d))
    (hp : ∀ v w', (oneS lo d).p v w' → (S i).p v w') : GStep Try.prog ops S Q i o a w :=
  gs_run hw (v := .slice (some ⟨w.heap.size, 0, none⟩) 1 1) (by unfold execOp; simp only [ho, List.map_toArray, List.map_cons, List.map_nil, hx, Sem.run_bind, run_edge1, Result.andThen_ok, Sem.run_pure]) (below_alloc (Below.refl _ _) _) (hp _ _ ⟨_, rfl, hlo, Blk.new _ _ _⟩)
theorem gs_more {rw : Option Nat} {i0 : Nat} {ops : Array Oper} {S : Nat → GSpec} {Q : Exit → Act → World → Prop} {o : Oper} {a : Act} {w : World} (hw : Region.wanted o (yielded ops a.tmps) = true) (x y : Operand) (ho : o.op = .call { callee := .builtin .append, args := #[x, y], argTypes := #[31, 31] })
    {lo k0 : Nat} (hlo : lo ≤ w.heap.size) (hk0 : k0 ≤ w.heap.size) (v : Value) (es : List Edg) (d : Edg) (hv : a.eval x = v) (hrw : v.ownBlock = rw) (hown : Own w lo 69 7 edgC v es) (hl : es.length ≤ 1099511627776) (lo2 : Nat) (hy : (oneS lo2 d).p (a.eval y) w)
    (hp : ∀ v w', (moreS lo k0 rw (es ++ [d])).p v w' → (S i0).p v w') : GStepR rw i0 Try.prog ops S Q i0 o a w := by
  obtain ⟨g, hy, _, hb⟩ := hy
  obtain ⟨i1, hi1, hz0, hz1, hz2⟩ := info_parts info_edge3
  obtain ⟨v', w', hrun, h2, h3, h4⟩ := run_append_slice (P := Try.prog) w lo 31 o.type 69 i1 _ 7 56 Try.underlying31 hi1 hz0 hz1 hz2 rfl (by decide) edgC_size edgC_one v es hown w.heap.size (some ⟨g, 0, none⟩) 1 1 [d] rfl (slice_one (enc := edgC) (size := 7) hb) (by unfold maxLen; omega) (by omega) hlo
  refine GStepR.run hw (v := v') (w' := w') ?_ (hrw ▸ h3) (hp _ _ ⟨h2, ?_⟩)
  · unfold execOp
    simp only [ho, resolve, invoke, builtin, Sem.run_bind, Sem.run_pure, Result.andThen_ok, List.map_toArray, List.map_cons, List.map_nil, hv, hy, hrun]
  · rcases h4 with h4 | h4
    · exact .inl (h4.trans hrw)
    · exact .inr ⟨_, h4, hk0⟩

/-- all blocks stay but those, from lo on, of the types t1 and t2 -/
structure Fr (t1 t2 : TypeId) (gk : Nat) (W W' : World) : Prop where
  os : W'.os = W.os
  tape : W'.tape = W.tape
  output : W'.output = W.output
  size : W.heap.size ≤ W'.heap.size
  block : ∀ i, i < W.heap.size → (i < gk ∨ ∀ t cs, Blk W i t cs → t ≠ t1 ∧ t ≠ t2) → W'.heap[i]? = W.heap[i]?
section
variable {t1 t2 : TypeId} {gk g : Nat} {W W' W2 : World} {t : TypeId} {cs : Array Value}
theorem Fr.below (h : Below W.heap.size W W') : Fr t1 t2 gk W W' := ⟨h.os, h.tape, h.output, h.size, fun i hi _ => h.block i hi⟩
theorem Fr.trans (h : Fr t1 t2 gk W W') (k : Fr t1 t2 gk W' W2) : Fr t1 t2 gk W W2 :=
  ⟨k.os.trans h.os, k.tape.trans h.tape, k.output.trans h.output, Nat.le_trans h.size k.size, fun i hi hd => by
    have h1 := h.block i hi hd
    refine (k.block i (Nat.lt_of_lt_of_le hi h.size) ?_).trans h1
    rcases hd with hd | hd
    · exact .inl hd
    · exact .inr fun t cs hb => hd t cs (h1.symm.trans hb)⟩
theorem Fr.blk (hg : W.grownBy W' (some g)) (hb : Blk W g t cs) (hk : gk ≤ g) (ht : t = t1 ∨ t = t2) : Fr t1 t2 gk W W' :=
  ⟨hg.os, hg.tape, hg.output, hg.size, fun i hi hd => hg.block i hi (by
    intro e
    injection e with e
    subst e
    rcases hd with hd | hd
    · omega
    · have := hd t cs hb
      rcases ht with ht | ht
      · exact this.1 ht
      · exact this.2 ht)⟩
theorem Fr.own {α : Type} {enc : α → Array Value} {size : Nat} {v : Value} {ys : List α} (ho : Own W gk t2 size enc v ys) (hg : W.grownBy W' v.ownBlock) : Fr t1 t2 gk W W' :=
  ⟨hg.os, hg.tape, hg.output, hg.size, fun i hi hd => hg.block i hi (by
    intro e
    rcases ho.2 with ⟨hv, _⟩ | ⟨g', cap, cur, hv, hge, hh, _⟩
    · rw [hv] at e; cases e
    · rw [hv] at e
      have a1 : g' = i := by simpa [Value.ownBlock] using e.symm
      subst a1
      rcases hd with hd | hd
      · omega
      · exact (hd _ _ hh).2 rfl)⟩
theorem blk_fr (h : Blk W g t cs) (hf : Fr t1 t2 gk W W') (ht : g < gk ∨ (t ≠ t1 ∧ t ≠ t2)) : Blk W' g t cs :=
  (hf.block g h.lt (by
    rcases ht with ht | ht
    · exact .inl ht
    · refine .inr fun t2 cs2 hb => ?_
      have h2 : some (Obj.cells cs t) = some (Obj.cells cs2 t2) := h.symm.trans hb
      injection h2 with h2
      injection h2 with _ h3
      rw [← h3]
      exact ht)).trans h
theorem Own.fr {α : Type} {enc : α → Array Value} {size base : Nat} {e : TypeId} {v : Value} {ys : List α} (h : Own W base e size enc v ys) (hf : Fr t1 t2 gk W W') (he : e ≠ t1 ∧ e ≠ t2) : Own W' base e size enc v ys := by
  obtain ⟨h1, h2⟩ := h
  refine ⟨h1, ?_⟩
  rcases h2 with h2 | ⟨g', cap, cur, hv, hge, hh, r⟩
  · exact .inl h2
  · exact .inr ⟨g', cap, cur, hv, hge, blk_fr (t := e) (cs := cur) hh hf (.inr he), r⟩
theorem Below.fr {b0 : Nat} {w : World} (h : Below b0 w W) (hf : Fr t1 t2 gk W W') (hb : b0 ≤ gk) (h0 : b0 ≤ W.heap.size) : Below b0 w W' :=
  ⟨hf.os.trans h.os, hf.tape.trans h.tape, hf.output.trans h.output, Nat.le_trans h.size hf.size, fun i hi => (hf.block i (by omega) (.inl (by omega))).trans (h.block i hi)⟩
theorem NdIn.fr {B : Nat} {nd : Nd} {cs : Array Value} (h : NdIn W B nd cs) (hf : Fr t1 t2 gk W W') (hb : B ≤ gk) (h0 : B ≤ W.heap.size) : NdIn W' B nd cs := h.keep fun k hk => hf.block k (by omega) (.inl (by omega))
end
/-- a maker at block gk, its edges from block lo on -/
def MkIs (t : TypeId) (mc : Int → Value → Array Value) (W : World) (gk lo : Nat) (m : Ly) : Prop :=
  ∃ v, Blk W gk t (mc m.s v) ∧ Own W lo 69 7 edgC v m.e ∧ lo ≤ gk
def mkP (s : Int) (v : Value) : Array Value := #[.int .i64 s, v, .slice none 0 0]
def mkR (s : Int) (v : Value) : Array Value := #[.int .i64 s, v]
theorem MkIs.then_ {t : TypeId} {mc : Int → Value → Array Value} {W W' : World} {gk lo : Nat} {m : Ly} (h : MkIs t mc W gk lo m) (hb : Below W.heap.size W W') : MkIs t mc W' gk lo m := by
  obtain ⟨v, h1, h2, h3⟩ := h
  exact ⟨v, blk_then h1 hb, h2.then_ hb, h3⟩
theorem MkIs.lt {t : TypeId} {mc : Int → Value → Array Value} {W : World} {gk lo : Nat} {m : Ly} (h : MkIs t mc W gk lo m) : lo ≤ gk ∧ gk < W.heap.size := by
  obtain ⟨v, h1, h2, h3⟩ := h
  exact ⟨h3, h1.lt⟩
theorem field_maker_0 (b off : Nat) (w : World) : (Instr.fieldAt 72 (.pointer (some ⟨b, off, none⟩)) 0).run Try.prog w = .ok (.pointer (some ⟨b, off, none⟩)) w := by kernel_rfl
theorem field_rmaker_0 (b off : Nat) (w : World) : (Instr.fieldAt 78 (.pointer (some ⟨b, off, none⟩)) 0).run Try.prog w = .ok (.pointer (some ⟨b, off, none⟩)) w := by kernel_rfl
theorem field_rmaker_1 (b off : Nat) (w : World) : (Instr.fieldAt 78 (.pointer (some ⟨b, off, none⟩)) 1).run Try.prog w = .ok (.pointer (some ⟨b, off + 1, none⟩)) w := by kernel_rfl
theorem info_edges1 : (Try.prog.info? 31).map (·.size) = some 1 := by kernel_rfl

set_option maxRecDepth 100000 in
set_option maxHeartbeats 4000000 in
theorem pstate_any (gk lo : Nat) (m : Ly) (w : World) (h : MkIs 72 mkP w gk lo m) (hm : m.s ≤ 1048576) :
    Calls Try.prog 39 #[.pointer (some ⟨gk, 0, none⟩)] w fun e w' => e = .returned (.int .i64 (m.s : Int)) ∧ MkIs 72 mkP w' gk lo m.new ∧ Fr 72 69 lo w w' := by
  obtain ⟨v, h1, h2, h3⟩ := h
  obtain ⟨s, es⟩ := m
  simp only at h1 h2 hm
  have hfb := Fr.blk (t1 := 72) (t2 := 69) (gk := lo) (only_setCell (only_refl w (some gk)) (p := ⟨gk, 0, none⟩) (.inl rfl) (.int .i64 ((s : Int) + 1))) h1 h3 (.inl rfl)
  have hg := only_setCell (only_refl w (some gk)) (p := ⟨gk, 0, none⟩) (.inl rfl) (.int .i64 ((s : Int) + 1))
  have c0 : w.cell? ⟨gk, 0, none⟩ = some (.int .i64 (s : Int)) := h1.cellv (i := 0) rfl
  have f0 := h1.frozen 0
  go_enter Try.func39, Try.ntmps39
  go_upto_region 2 with (fail)
  have h4 : Blk (w.setCell ⟨gk, 0, none⟩ (.int .i64 ((s : Int) + 1))) gk 72 (mkP ((s + 1 : Nat) : Int) v) := h1.set_eq rfl
  have h5 := own_box h2 h1 hg (by decide)
  obtain ⟨w2, hw2⟩ : ∃ y, y = w.setCell ⟨gk, 0, none⟩ (.int .i64 ((s : Int) + 1)) := ⟨_, rfl⟩
  rw [← hw2] at h4 h5 hfb ⊢
  clear hw2 c0 f0 hg h2 h1
  have c0 : w2.cell? ⟨gk, 0, none⟩ = some (.int .i64 ((s : Int) + 1)) := h4.cellv (i := 0) rfl
  go_wp2_with (fail)
  go_ret
  exact ⟨congrArg (fun v => Ending.returned (.int .i64 v)) (by omega), ⟨v, h4, h5, h3⟩, hfb⟩
set_option maxRecDepth 100000 in
set_option maxHeartbeats 4000000 in
theorem pedge_any (gk lo : Nat) (m : Ly) (kd : Int) (fr tt : Nat) (st : BSet) (w : World) (h : MkIs 72 mkP w gk lo m) (hm : m.e.length ≤ 1048576) :
    Calls Try.prog 85 #[.pointer (some ⟨gk, 0, none⟩), .int .i64 kd, .int .i64 (fr : Int), .int .i64 (tt : Int), .agg (setC st)] w fun e w' => e = .returned (.tuple #[]) ∧ MkIs 72 mkP w' gk lo (m.edge kd fr tt st) ∧ Fr 72 69 lo w w' := by
  obtain ⟨v, hk1, hk2, hlo⟩ := h
  obtain ⟨s, es⟩ := m
  simp only at hk1 hk2 hm
  have hgl := hk1.lt
  go_enter Try.func85, Try.ntmps85
  have h9 := Blk.new w 24 (setC st)
  have hB1 : Below w.heap.size w (w.alloc (.cells (setC st) 24)) := below_alloc (Below.refl _ _) _
  go_upto_region 1 with (fail)
  obtain ⟨w1, hw1⟩ : ∃ y, y = w.alloc (.cells (setC st) 24) := ⟨_, rfl⟩
  rw [← hw1] at h9 hB1 ⊢
  clear hw1
  replace hk1 := blk_then hk1 hB1
  replace hk2 := hk2.then_ hB1
  have hl1 := h9.lt
  have hlt0 := hk2.lt
  have hne_9 : some w.heap.size ≠ v.ownBlock := fun e => own_blk_ne hk2 h9 (by decide) e.symm
  have hne_gk : some gk ≠ v.ownBlock := fun e => own_blk_ne hk2 hk1 (by decide) e.symm
  obtain ⟨rw0, hrw⟩ : ∃ y, v.ownBlock = y := ⟨_, rfl⟩
  rw [hrw] at hne_9 hne_gk hlt0
  refine wp_region_stepsR (rw := rw0) (i0 := 12) 16 [eqS (.pointer (some ⟨gk, 0, none⟩)), eqS (.pointer (some ⟨gk, 0, none⟩)), eqS (.pointer (some ⟨gk, 0, none⟩)), eqS (.pointer (some ⟨gk, 0, none⟩)), eqS (.pointer (some ⟨gk, 1, none⟩)), eqS v, eqS (.int .i64 kd), eqS (.int .i64 (fr : Int)), eqS (.int .i64 (tt : Int)), eqS (.agg (setC st)), eqS (.agg (edgC ⟨kd, fr, tt, st⟩)), oneS w1.heap.size ⟨kd, fr, tt, st⟩, moreS lo w1.heap.size rw0 (es ++ [⟨kd, fr, tt, st⟩]), eqS (.pointer (some ⟨gk, 0, none⟩)), eqS (.pointer (some ⟨gk, 0, none⟩)), eqS (.pointer (some ⟨gk, 1, none⟩))] [10, 11, 12, 13, 14, 15, 16, 17, 18, 19, 20, 21, 22, 23, 24, 25] rfl ?_ (by kernel_rfl) rfl ?_ ?_
  · intro j hj v wa wb hp hg
    match j, hj, hp with
    | 0, _, hp => exact hp
    | 1, _, hp => exact hp
    | 2, _, hp => exact hp
    | 3, _, hp => exact hp
    | 4, _, hp => exact hp
    | 5, _, hp => exact hp
    | 6, _, hp => exact hp
    | 7, _, hp => exact hp
    | 8, _, hp => exact hp
    | 9, _, hp => exact hp
    | 10, _, hp => exact hp
    | 11, _, hp =>
      obtain ⟨g, q1, q2, q3⟩ := hp
      exact ⟨g, q1, q2, q3.grown hg (fun e => by have := (hlt0 g e.symm).2; omega)⟩
    | 12, hj, _ => exact absurd rfl hj
    | 13, _, hp => exact hp
    | 14, _, hp => exact hp
    | 15, _, hp => exact hp
    | j + 16, _, hp => exact hp
  · skip
    refine StepsR.cons (fun a' w' hG hW hP dep => GStepR.of (gs_move (want_none rfl) _ rfl (hG.other 0 rfl))) ?_
    refine StepsR.cons (fun a' w' hG hW hP dep => GStepR.of (gs_move (want_none rfl) _ rfl (hG.other 0 rfl))) ?_
    refine StepsR.cons (fun a' w' hG hW hP dep => GStepR.of (gs_nil (want_none rfl) _ rfl _ (dep 1 rfl 11 rfl) rfl)) ?_
    refine StepsR.cons (fun a' w' hG hW hP dep => GStepR.of (gs_field (want_none rfl) _ _ _ rfl gk 0 0 (dep 2 rfl 12 rfl) (fun wz => field_maker_0 gk 0 wz) rfl)) ?_
    refine StepsR.cons (fun a' w' hG hW hP dep => GStepR.of (gs_field (want_none rfl) _ _ _ rfl gk 0 1 (dep 3 rfl 13 rfl) (fun wz => field_nfa_1 gk 0 wz) rfl)) ?_
    refine StepsR.cons (fun a' w' hG hW hP dep => GStepR.of (gs_load1 (want_none rfl) _ _ rfl gk 1 (dep 4 rfl 14 rfl) v ((hk1.grown hW hne_gk).cellv (i := 1) rfl) _ Try.underlying31 rfl rfl)) ?_
    refine StepsR.cons (fun a' w' hG hW hP dep => GStepR.of (gs_move (want_none rfl) _ rfl (hG.other 1 rfl))) ?_
    refine StepsR.cons (fun a' w' hG hW hP dep => GStepR.of (gs_move (want_none rfl) _ rfl (hG.other 2 rfl))) ?_
    refine StepsR.cons (fun a' w' hG hW hP dep => GStepR.of (gs_move (want_none rfl) _ rfl (hG.other 3 rfl))) ?_
    refine StepsR.cons (fun a' w' hG hW hP dep => GStepR.of (gs_load_set_at (want_none rfl) _ rfl w.heap.size 0 (hG.other 9 rfl) st (RowAt.of_blk (h9.grown hW hne_9)) rfl)) ?_
    refine StepsR.cons (fun a' w' hG hW hP dep => GStepR.of (gs_build_edge (want_none rfl) _ _ _ _ rfl ⟨kd, fr, tt, st⟩ (dep 6 rfl 16 rfl) (dep 7 rfl 17 rfl) (dep 8 rfl 18 rfl) (dep 9 rfl 19 rfl) rfl)) ?_
    refine StepsR.cons (fun a' w' hG hW hP dep => GStepR.of (gs_one (want_none rfl) _ rfl (lo := w1.heap.size) hW.size ⟨kd, fr, tt, st⟩ (dep 10 rfl 20 rfl) (fun _ _ h => h))) ?_
    refine StepsR.cons (fun a' w' hG hW hP dep => gs_more (want_none rfl) _ _ rfl (lo := lo) (k0 := w1.heap.size) (by have := hW.size; omega) hW.size v _ ⟨kd, fr, tt, st⟩ (dep 5 rfl 15 rfl) hrw (hk2.then_ (hP rfl)) (by omega) w1.heap.size (dep 11 rfl 21 rfl) (fun _ _ h => h)) ?_
    refine StepsR.cons (fun a' w' hG hW hP dep => GStepR.of (gs_nil (want_none rfl) _ rfl _ (dep 0 rfl 10 rfl) rfl)) ?_
    refine StepsR.cons (fun a' w' hG hW hP dep => GStepR.of (gs_field (want_none rfl) _ _ _ rfl gk 0 0 (dep 13 rfl 23 rfl) (fun wz => field_maker_0 gk 0 wz) rfl)) ?_
    refine StepsR.cons (fun a' w' hG hW hP dep => GStepR.of (gs_field (want_none rfl) _ _ _ rfl gk 0 1 (dep 14 rfl 24 rfl) (fun wz => field_nfa_1 gk 0 wz) rfl)) ?_
    exact StepsR.nil
  intro uf w7 hW7 ans
  obtain ⟨hv7, hat7⟩ := ans 12 22 (by decide) rfl
  have hf : uf 25 = .pointer (some ⟨gk, 1, none⟩) := ans 15 25 (by decide) rfl
  obtain ⟨v7, hv8⟩ : ∃ v7, v7 = uf 22 := ⟨_, rfl⟩
  rw [← hv8] at hv7
  clear ans hat7
  simp only [putAll, List.foldl_cons, List.foldl_nil, Act.put, List.setIfInBounds_toArray, List.set_cons_zero, List.set_cons_succ, hf, ← hv8]
  clear hf hv8
  obtain ⟨A7, k7, rfl, _, _⟩ := hv7.shape
  simp only [List.drop]
  have hk7 : Blk w7 gk _ _ := hk1.grown hW7 hne_gk
  refine wl_store_cell rfl _ _ _ rfl gk 1 rfl _ _ (mkP (s : Int) (.slice A7 _ k7)) hk7 (by simp [mkP]) info_edges1 rfl rfl rfl ?_
  intro w8 h8 hg8
  have hF1 : Fr 72 69 lo w w1 := Fr.below hB1
  have hF2 : Fr 72 69 lo w1 w7 := Fr.own hk2 (hrw ▸ hW7)
  have hF3 : Fr 72 69 lo w7 w8 := Fr.blk hg8 hk7 hlo (.inl rfl)
  have hv8 := own_box hv7 hk7 hg8 (by decide)
  clear hk2 hk7 hv7 hg8 hW7 h9 hlt0 hrw
  refine wpList_nil ?_
  go_wp2_with (fail)
  first | (refine bodyPost_end (results_none rfl _ _ _) rfl ?_) | (refine bodyPost_ret (results_none rfl _ _ _) rfl ?_)
  exact ⟨rfl, ⟨_, h8, hv8, hlo⟩, (hF1.trans hF2).trans hF3⟩
set_option maxRecDepth 100000 in
set_option maxHeartbeats 4000000 in
theorem pfree_any (gk lo : Nat) (m : Ly) (fr tt : Nat) (w : World) (h : MkIs 72 mkP w gk lo m) (hm : m.e.length ≤ 1048576) :
    Calls Try.prog 83 #[.pointer (some ⟨gk, 0, none⟩), .int .i64 (fr : Int), .int .i64 (tt : Int)] w fun e w' => e = .returned (.tuple #[]) ∧ MkIs 72 mkP w' gk lo (m.free fr tt) ∧ Fr 72 69 lo w w' := by
  have hc := pedge_any gk lo m 1 fr tt 0 w h hm
  go_enter Try.func83, Try.ntmps83
  go_wp2_with (first | (refine wl_build_set0 rfl rfl ?_) | (go_at_call 85; refine hc.mono ?_; rintro e w5 ⟨rfl, h5, hf5⟩) | (go_at_call 85; refine park ?_))
  first | (refine bodyPost_end (results_none rfl _ _ _) rfl ?_) | (refine bodyPost_ret (results_none rfl _ _ _) rfl ?_)
  exact ⟨rfl, h5, hf5⟩

set_option maxRecDepth 100000 in
set_option maxHeartbeats 4000000 in
theorem rstate_any (gk lo : Nat) (m : Ly) (w : World) (h : MkIs 78 mkR w gk lo m) (hm : m.s ≤ 1048576) :
    Calls Try.prog 62 #[.pointer (some ⟨gk, 0, none⟩)] w fun e w' => e = .returned (.int .i64 (m.s : Int)) ∧ MkIs 78 mkR w' gk lo m.new ∧ Fr 78 69 lo w w' := by
  obtain ⟨v, h1, h2, h3⟩ := h
  obtain ⟨s, es⟩ := m
  simp only at h1 h2 hm
  have hfb := Fr.blk (t1 := 78) (t2 := 69) (gk := lo) (only_setCell (only_refl w (some gk)) (p := ⟨gk, 0, none⟩) (.inl rfl) (.int .i64 ((s : Int) + 1))) h1 h3 (.inl rfl)
  have hg := only_setCell (only_refl w (some gk)) (p := ⟨gk, 0, none⟩) (.inl rfl) (.int .i64 ((s : Int) + 1))
  have c0 : w.cell? ⟨gk, 0, none⟩ = some (.int .i64 (s : Int)) := h1.cellv (i := 0) rfl
  have f0 := h1.frozen 0
  go_enter Try.func62, Try.ntmps62
  go_upto_region 2 with (fail)
  have h4 : Blk (w.setCell ⟨gk, 0, none⟩ (.int .i64 ((s : Int) + 1))) gk 78 (mkR ((s + 1 : Nat) : Int) v) := h1.set_eq rfl
  have h5 := own_box h2 h1 hg (by decide)
  obtain ⟨w2, hw2⟩ : ∃ y, y = w.setCell ⟨gk, 0, none⟩ (.int .i64 ((s : Int) + 1)) := ⟨_, rfl⟩
  rw [← hw2] at h4 h5 hfb ⊢
  clear hw2 c0 f0 hg h2 h1
  have c0 : w2.cell? ⟨gk, 0, none⟩ = some (.int .i64 ((s : Int) + 1)) := h4.cellv (i := 0) rfl
  go_wp2_with (fail)
  go_ret
  exact ⟨congrArg (fun v => Ending.returned (.int .i64 v)) (by omega), ⟨v, h4, h5, h3⟩, hfb⟩
set_option maxRecDepth 100000 in
set_option maxHeartbeats 4000000 in
theorem redge_any (gk lo : Nat) (m : Ly) (kd : Int) (fr tt : Nat) (st : BSet) (w : World) (h : MkIs 78 mkR w gk lo m) (hm : m.e.length ≤ 1048576) :
    Calls Try.prog 63 #[.pointer (some ⟨gk, 0, none⟩), .int .i64 kd, .int .i64 (fr : Int), .int .i64 (tt : Int), .agg (setC st)] w fun e w' => e = .returned (.tuple #[]) ∧ MkIs 78 mkR w' gk lo (m.edge kd fr tt st) ∧ Fr 78 69 lo w w' := by
  obtain ⟨v, hk1, hk2, hlo⟩ := h
  obtain ⟨s, es⟩ := m
  simp only at hk1 hk2 hm
  have hgl := hk1.lt
  go_enter Try.func63, Try.ntmps63
  have h9 := Blk.new w 24 (setC st)
  have hB1 : Below w.heap.size w (w.alloc (.cells (setC st) 24)) := below_alloc (Below.refl _ _) _
  go_upto_region 1 with (fail)
  obtain ⟨w1, hw1⟩ : ∃ y, y = w.alloc (.cells (setC st) 24) := ⟨_, rfl⟩
  rw [← hw1] at h9 hB1 ⊢
  clear hw1
  replace hk1 := blk_then hk1 hB1
  replace hk2 := hk2.then_ hB1
  have hl1 := h9.lt
  have hlt0 := hk2.lt
  have hne_9 : some w.heap.size ≠ v.ownBlock := fun e => own_blk_ne hk2 h9 (by decide) e.symm
  have hne_gk : some gk ≠ v.ownBlock := fun e => own_blk_ne hk2 hk1 (by decide) e.symm
  obtain ⟨rw0, hrw⟩ : ∃ y, v.ownBlock = y := ⟨_, rfl⟩
  rw [hrw] at hne_9 hne_gk hlt0
  refine wp_region_stepsR (rw := rw0) (i0 := 11) 14 [eqS (.pointer (some ⟨gk, 0, none⟩)), eqS (.pointer (some ⟨gk, 0, none⟩)), eqS (.pointer (some ⟨gk, 0, none⟩)), eqS (.pointer (some ⟨gk, 1, none⟩)), eqS v, eqS (.int .i64 kd), eqS (.int .i64 (fr : Int)), eqS (.int .i64 (tt : Int)), eqS (.agg (setC st)), eqS (.agg (edgC ⟨kd, fr, tt, st⟩)), oneS w1.heap.size ⟨kd, fr, tt, st⟩, moreS lo w1.heap.size rw0 (es ++ [⟨kd, fr, tt, st⟩]), eqS (.pointer (some ⟨gk, 0, none⟩)), eqS (.pointer (some ⟨gk, 1, none⟩))] [10, 11, 12, 13, 14, 15, 16, 17, 18, 19, 20, 21, 22, 23] rfl ?_ (by kernel_rfl) rfl ?_ ?_
  · intro j hj v wa wb hp hg
    match j, hj, hp with
    | 0, _, hp => exact hp
    | 1, _, hp => exact hp
    | 2, _, hp => exact hp
    | 3, _, hp => exact hp
    | 4, _, hp => exact hp
    | 5, _, hp => exact hp
    | 6, _, hp => exact hp
    | 7, _, hp => exact hp
    | 8, _, hp => exact hp
    | 9, _, hp => exact hp
    | 10, _, hp =>
      obtain ⟨g, q1, q2, q3⟩ := hp
      exact ⟨g, q1, q2, q3.grown hg (fun e => by have := (hlt0 g e.symm).2; omega)⟩
    | 11, hj, _ => exact absurd rfl hj
    | 12, _, hp => exact hp
    | 13, _, hp => exact hp
    | j + 14, _, hp => exact hp
  · skip
    refine StepsR.cons (fun a' w' hG hW hP dep => GStepR.of (gs_move (want_none rfl) _ rfl (hG.other 0 rfl))) ?_
    refine StepsR.cons (fun a' w' hG hW hP dep => GStepR.of (gs_move (want_none rfl) _ rfl (hG.other 0 rfl))) ?_
    refine StepsR.cons (fun a' w' hG hW hP dep => GStepR.of (gs_nil (want_none rfl) _ rfl _ (dep 1 rfl 11 rfl) rfl)) ?_
    refine StepsR.cons (fun a' w' hG hW hP dep => GStepR.of (gs_field (want_none rfl) _ _ _ rfl gk 0 1 (dep 2 rfl 12 rfl) (fun wz => field_rmaker_1 gk 0 wz) rfl)) ?_
    refine StepsR.cons (fun a' w' hG hW hP dep => GStepR.of (gs_load1 (want_none rfl) _ _ rfl gk 1 (dep 3 rfl 13 rfl) v ((hk1.grown hW hne_gk).cellv (i := 1) rfl) _ Try.underlying31 rfl rfl)) ?_
    refine StepsR.cons (fun a' w' hG hW hP dep => GStepR.of (gs_move (want_none rfl) _ rfl (hG.other 1 rfl))) ?_
    refine StepsR.cons (fun a' w' hG hW hP dep => GStepR.of (gs_move (want_none rfl) _ rfl (hG.other 2 rfl))) ?_
    refine StepsR.cons (fun a' w' hG hW hP dep => GStepR.of (gs_move (want_none rfl) _ rfl (hG.other 3 rfl))) ?_
    refine StepsR.cons (fun a' w' hG hW hP dep => GStepR.of (gs_load_set_at (want_none rfl) _ rfl w.heap.size 0 (hG.other 9 rfl) st (RowAt.of_blk (h9.grown hW hne_9)) rfl)) ?_
    refine StepsR.cons (fun a' w' hG hW hP dep => GStepR.of (gs_build_edge (want_none rfl) _ _ _ _ rfl ⟨kd, fr, tt, st⟩ (dep 5 rfl 15 rfl) (dep 6 rfl 16 rfl) (dep 7 rfl 17 rfl) (dep 8 rfl 18 rfl) rfl)) ?_
    refine StepsR.cons (fun a' w' hG hW hP dep => GStepR.of (gs_one (want_none rfl) _ rfl (lo := w1.heap.size) hW.size ⟨kd, fr, tt, st⟩ (dep 9 rfl 19 rfl) (fun _ _ h => h))) ?_
    refine StepsR.cons (fun a' w' hG hW hP dep => gs_more (want_none rfl) _ _ rfl (lo := lo) (k0 := w1.heap.size) (by have := hW.size; omega) hW.size v _ ⟨kd, fr, tt, st⟩ (dep 4 rfl 14 rfl) hrw (hk2.then_ (hP rfl)) (by omega) w1.heap.size (dep 10 rfl 20 rfl) (fun _ _ h => h)) ?_
    refine StepsR.cons (fun a' w' hG hW hP dep => GStepR.of (gs_nil (want_none rfl) _ rfl _ (dep 0 rfl 10 rfl) rfl)) ?_
    refine StepsR.cons (fun a' w' hG hW hP dep => GStepR.of (gs_field (want_none rfl) _ _ _ rfl gk 0 1 (dep 12 rfl 22 rfl) (fun wz => field_rmaker_1 gk 0 wz) rfl)) ?_
    exact StepsR.nil
  intro uf w7 hW7 ans
  obtain ⟨hv7, hat7⟩ := ans 11 21 (by decide) rfl
  have hf : uf 23 = .pointer (some ⟨gk, 1, none⟩) := ans 13 23 (by decide) rfl
  obtain ⟨v7, hv8⟩ : ∃ v7, v7 = uf 21 := ⟨_, rfl⟩
  rw [← hv8] at hv7
  clear ans hat7
  simp only [putAll, List.foldl_cons, List.foldl_nil, Act.put, List.setIfInBounds_toArray, List.set_cons_zero, List.set_cons_succ, hf, ← hv8]
  clear hf hv8
  obtain ⟨A7, k7, rfl, _, _⟩ := hv7.shape
  simp only [List.drop]
  have hk7 : Blk w7 gk _ _ := hk1.grown hW7 hne_gk
  refine wl_store_cell rfl _ _ _ rfl gk 1 rfl _ _ (mkR (s : Int) (.slice A7 _ k7)) hk7 (by simp [mkR]) info_edges1 rfl rfl rfl ?_
  intro w8 h8 hg8
  have hF1 : Fr 78 69 lo w w1 := Fr.below hB1
  have hF2 : Fr 78 69 lo w1 w7 := Fr.own hk2 (hrw ▸ hW7)
  have hF3 : Fr 78 69 lo w7 w8 := Fr.blk hg8 hk7 hlo (.inl rfl)
  have hv8 := own_box hv7 hk7 hg8 (by decide)
  clear hk2 hk7 hv7 hg8 hW7 h9 hlt0 hrw
  refine wpList_nil ?_
  go_wp2_with (fail)
  first | (refine bodyPost_end (results_none rfl _ _ _) rfl ?_) | (refine bodyPost_ret (results_none rfl _ _ _) rfl ?_)
  exact ⟨rfl, ⟨_, h8, hv8, hlo⟩, (hF1.trans hF2).trans hF3⟩
set_option maxRecDepth 100000 in
set_option maxHeartbeats 4000000 in
theorem rfree_any (gk lo : Nat) (m : Ly) (fr tt : Nat) (w : World) (h : MkIs 78 mkR w gk lo m) (hm : m.e.length ≤ 1048576) :
    Calls Try.prog 64 #[.pointer (some ⟨gk, 0, none⟩), .int .i64 (fr : Int), .int .i64 (tt : Int)] w fun e w' => e = .returned (.tuple #[]) ∧ MkIs 78 mkR w' gk lo (m.free fr tt) ∧ Fr 78 69 lo w w' := by
  have hc := redge_any gk lo m 1 fr tt 0 w h hm
  go_enter Try.func64, Try.ntmps64
  go_wp2_with (first | (refine wl_build_set0 rfl rfl ?_) | (go_at_call 63; refine hc.mono ?_; rintro e w5 ⟨rfl, h5, hf5⟩) | (go_at_call 63; refine park ?_))
  first | (refine bodyPost_end (results_none rfl _ _ _) rfl ?_) | (refine bodyPost_ret (results_none rfl _ _ _) rfl ?_)
  exact ⟨rfl, h5, hf5⟩
end Go.Proofs.Ytgahdookojbbiaa
