/- lays and lay of nfa's maker. No condition beyond those named in each lemma. -/
import Derived.Test.YtgahdookojbbiaaLayC
namespace Go.Proofs.Ytgahdookojbbiaa
open Go.RowKit Go.Maps
set_option linter.unusedVariables false
set_option linter.unusedSimpArgs false
attribute [local go_sem] Oper.semAt_some

def laysC : Array Value := #[.nilFunc, .func (.func 75) #[] #[], .func (.func 76) #[] #[], .func (.func 77) #[] #[], .func (.func 78) #[] #[], .func (.func 79) #[] #[], .func (.func 80) #[] #[], .func (.func 81) #[] #[]]
theorem info_lays : (Try.prog.info? 114).map (·.size) = some 8 := by kernel_rfl
theorem wl_store_lays {ops : Array Oper} {rest : List Oper} {o : Oper} {a : Act} {w : World} {Q : Exit → Act → World → Prop} (hgd : o.guard = none) (x y : Operand) (ho : o.op = .store 114 x y)
    (g : Nat) (hx : a.eval x = .pointer (some ⟨g, 0, none⟩)) (hy : a.eval y = .agg laysC) (old : Array Value) (ho2 : old.size = 8) (hb : Blk w g 114 old)
    (h : ∀ w', Blk w' g 114 laysC → w.grownBy w' (some g) → wpList Try.prog ops Q rest (a.put o.dst undef) w') : wpList Try.prog ops Q (o :: rest) a w :=
  wpList_store_row hgd _ x y ho g _ hx hy _ _ hb (info_lays.trans rfl) (by rw [ho2]; rfl) (by simp [laysC, Value.oneCell']) (h _ (hb.setRow_same _) (only_setRow (only_refl _ _) _))
set_option maxRecDepth 100000 in
set_option maxHeartbeats 4000000 in
theorem lays_empty (w : World) :
    Calls Try.prog 60 #[.int .i64 1] w fun e w' => e = .returned (.func (.func 75) #[] #[]) ∧ Below w.heap.size w w' := by
  go_enter Try.func60, Try.ntmps60
  go_upto_region 2 with (refine wl_store_lays rfl _ _ rfl _ rfl rfl _ rfl (Blk.new _ _ _) ?_; intro w3 h5 hg3)
  have hB3 := below_grown (below_alloc (Below.refl _ w) (.cells #[.nilFunc, .nilFunc, .nilFunc, .nilFunc, .nilFunc, .nilFunc, .nilFunc, .nilFunc] 114)) hg3 (Nat.le_refl _)
  have c : w3.cell? ⟨w.heap.size, 1, none⟩ = some (.func (.func 75) #[] #[]) := h5.cellv (i := 1) rfl
  clear hg3 h5
  go_wp2_with (fail)
  go_ret
  exact ⟨rfl, hB3⟩
set_option maxRecDepth 100000 in
set_option maxHeartbeats 4000000 in
theorem lays_byte (w : World) :
    Calls Try.prog 60 #[.int .i64 2] w fun e w' => e = .returned (.func (.func 76) #[] #[]) ∧ Below w.heap.size w w' := by
  go_enter Try.func60, Try.ntmps60
  go_upto_region 2 with (refine wl_store_lays rfl _ _ rfl _ rfl rfl _ rfl (Blk.new _ _ _) ?_; intro w3 h5 hg3)
  have hB3 := below_grown (below_alloc (Below.refl _ w) (.cells #[.nilFunc, .nilFunc, .nilFunc, .nilFunc, .nilFunc, .nilFunc, .nilFunc, .nilFunc] 114)) hg3 (Nat.le_refl _)
  have c : w3.cell? ⟨w.heap.size, 2, none⟩ = some (.func (.func 76) #[] #[]) := h5.cellv (i := 2) rfl
  clear hg3 h5
  go_wp2_with (fail)
  go_ret
  exact ⟨rfl, hB3⟩
set_option maxRecDepth 100000 in
set_option maxHeartbeats 4000000 in
theorem lays_row (w : World) :
    Calls Try.prog 60 #[.int .i64 3] w fun e w' => e = .returned (.func (.func 77) #[] #[]) ∧ Below w.heap.size w w' := by
  go_enter Try.func60, Try.ntmps60
  go_upto_region 2 with (refine wl_store_lays rfl _ _ rfl _ rfl rfl _ rfl (Blk.new _ _ _) ?_; intro w3 h5 hg3)
  have hB3 := below_grown (below_alloc (Below.refl _ w) (.cells #[.nilFunc, .nilFunc, .nilFunc, .nilFunc, .nilFunc, .nilFunc, .nilFunc, .nilFunc] 114)) hg3 (Nat.le_refl _)
  have c : w3.cell? ⟨w.heap.size, 3, none⟩ = some (.func (.func 77) #[] #[]) := h5.cellv (i := 3) rfl
  clear hg3 h5
  go_wp2_with (fail)
  go_ret
  exact ⟨rfl, hB3⟩
set_option maxRecDepth 100000 in
set_option maxHeartbeats 4000000 in
theorem lays_choice (w : World) :
    Calls Try.prog 60 #[.int .i64 4] w fun e w' => e = .returned (.func (.func 78) #[] #[]) ∧ Below w.heap.size w w' := by
  go_enter Try.func60, Try.ntmps60
  go_upto_region 2 with (refine wl_store_lays rfl _ _ rfl _ rfl rfl _ rfl (Blk.new _ _ _) ?_; intro w3 h5 hg3)
  have hB3 := below_grown (below_alloc (Below.refl _ w) (.cells #[.nilFunc, .nilFunc, .nilFunc, .nilFunc, .nilFunc, .nilFunc, .nilFunc, .nilFunc] 114)) hg3 (Nat.le_refl _)
  have c : w3.cell? ⟨w.heap.size, 4, none⟩ = some (.func (.func 78) #[] #[]) := h5.cellv (i := 4) rfl
  clear hg3 h5
  go_wp2_with (fail)
  go_ret
  exact ⟨rfl, hB3⟩
set_option maxRecDepth 100000 in
set_option maxHeartbeats 4000000 in
theorem lays_times (w : World) :
    Calls Try.prog 60 #[.int .i64 5] w fun e w' => e = .returned (.func (.func 79) #[] #[]) ∧ Below w.heap.size w w' := by
  go_enter Try.func60, Try.ntmps60
  go_upto_region 2 with (refine wl_store_lays rfl _ _ rfl _ rfl rfl _ rfl (Blk.new _ _ _) ?_; intro w3 h5 hg3)
  have hB3 := below_grown (below_alloc (Below.refl _ w) (.cells #[.nilFunc, .nilFunc, .nilFunc, .nilFunc, .nilFunc, .nilFunc, .nilFunc, .nilFunc] 114)) hg3 (Nat.le_refl _)
  have c : w3.cell? ⟨w.heap.size, 5, none⟩ = some (.func (.func 79) #[] #[]) := h5.cellv (i := 5) rfl
  clear hg3 h5
  go_wp2_with (fail)
  go_ret
  exact ⟨rfl, hB3⟩
set_option maxRecDepth 100000 in
set_option maxHeartbeats 4000000 in
theorem lays_begin (w : World) :
    Calls Try.prog 60 #[.int .i64 6] w fun e w' => e = .returned (.func (.func 80) #[] #[]) ∧ Below w.heap.size w w' := by
  go_enter Try.func60, Try.ntmps60
  go_upto_region 2 with (refine wl_store_lays rfl _ _ rfl _ rfl rfl _ rfl (Blk.new _ _ _) ?_; intro w3 h5 hg3)
  have hB3 := below_grown (below_alloc (Below.refl _ w) (.cells #[.nilFunc, .nilFunc, .nilFunc, .nilFunc, .nilFunc, .nilFunc, .nilFunc, .nilFunc] 114)) hg3 (Nat.le_refl _)
  have c : w3.cell? ⟨w.heap.size, 6, none⟩ = some (.func (.func 80) #[] #[]) := h5.cellv (i := 6) rfl
  clear hg3 h5
  go_wp2_with (fail)
  go_ret
  exact ⟨rfl, hB3⟩
set_option maxRecDepth 100000 in
set_option maxHeartbeats 4000000 in
theorem lays_end (w : World) :
    Calls Try.prog 60 #[.int .i64 7] w fun e w' => e = .returned (.func (.func 81) #[] #[]) ∧ Below w.heap.size w w' := by
  go_enter Try.func60, Try.ntmps60
  go_upto_region 2 with (refine wl_store_lays rfl _ _ rfl _ rfl rfl _ rfl (Blk.new _ _ _) ?_; intro w3 h5 hg3)
  have hB3 := below_grown (below_alloc (Below.refl _ w) (.cells #[.nilFunc, .nilFunc, .nilFunc, .nilFunc, .nilFunc, .nilFunc, .nilFunc, .nilFunc] 114)) hg3 (Nat.le_refl _)
  have c : w3.cell? ⟨w.heap.size, 7, none⟩ = some (.func (.func 81) #[] #[]) := h5.cellv (i := 7) rfl
  clear hg3 h5
  go_wp2_with (fail)
  go_ret
  exact ⟨rfl, hB3⟩
theorem enter_lays (args : Array Value) (w : World) : (callFunc 60 args).run Try.prog w = .ok (.enter 60 args) w := by kernel_rfl
theorem gs_load_node {ops : Array Oper} {S : Nat → GSpec} {Q : Exit → Act → World → Prop} {i : Nat} {o : Oper} {a : Act} {w : World} (hw : Region.wanted o (yielded ops a.tmps) = true) (x : Operand) (ho : o.op = .load 27 x) (g : Nat) (hx : a.eval x = .pointer (some ⟨g, 0, none⟩)) (kd : Int) (st : BSet) (A : Option Addr) (n c : Nat) (mi ma : Int) (hg : Blk w g 27 (nodeC kd st A n c mi ma))
    (hp : (S i).p (.agg (nodeC kd st A n c mi ma)) w) : GStep Try.prog ops S Q i o a w :=
  gs_load hw _ x ho g hx _ _ hg _ Try.underlying27 rfl (info_node.trans (by rw [nodeC_size])) hp
/-- a call of a function value, in a list -/
theorem wl_callv {P : Program} {ops : Array Oper} {rest : List Oper} {o : Oper} {a : Act} {w : World} {Q : Exit → Act → World → Prop} (hgd : o.guard = none) (f : FuncId) (c : Operand) (xs : Array Operand) (ats : Array TypeId) (ho : o.op = .call { callee := .value c, args := xs, argTypes := ats })
    (he : a.eval c = .func (.func f) #[] #[]) (hf : ∀ args w, (callFunc f args).run P w = .ok (.enter f args) w) (vs : Array Value) (hv : xs.map a.eval = vs)
    (hc : Calls P f vs w fun e w' => ∃ v, e = .returned v ∧ wpList P ops Q rest (a.put o.dst v) w') : wpList P ops Q (o :: rest) a w := by
  refine wpList_plain hgd fun K hK => ?_
  unfold Oper.wp
  have hr : (execOp a.eval o).run P w = .ok (.enter f vs) w := by
    have he2 : execOp a.eval o = callFunc f (#[] ++ xs.map a.eval ++ #[]) := by
      unfold execOp; rw [ho]; simp only [resolve, he]; rfl
    rw [he2, hv]
    simpa using hf vs w
  rw [hr, Oper.upon_enter]
  refine hc.mono ?_
  rintro e w' ⟨v, rfl, h⟩
  exact hK _ _ h
theorem enter_l_empty (args : Array Value) (w : World) : (callFunc 75 args).run Try.prog w = .ok (.enter 75 args) w := by kernel_rfl
theorem enter_l_byte (args : Array Value) (w : World) : (callFunc 76 args).run Try.prog w = .ok (.enter 76 args) w := by kernel_rfl
theorem enter_l_row (args : Array Value) (w : World) : (callFunc 77 args).run Try.prog w = .ok (.enter 77 args) w := by kernel_rfl
theorem enter_l_choice (args : Array Value) (w : World) : (callFunc 78 args).run Try.prog w = .ok (.enter 78 args) w := by kernel_rfl
theorem enter_l_times (args : Array Value) (w : World) : (callFunc 79 args).run Try.prog w = .ok (.enter 79 args) w := by kernel_rfl
theorem enter_l_begin (args : Array Value) (w : World) : (callFunc 80 args).run Try.prog w = .ok (.enter 80 args) w := by kernel_rfl
theorem enter_l_end (args : Array Value) (w : World) : (callFunc 81 args).run Try.prog w = .ok (.enter 81 args) w := by kernel_rfl
set_option maxRecDepth 100000 in
set_option maxHeartbeats 8000000 in
theorem lay_ok (nd : Nd) : LayOk 38 72 mkP nd := by
  induction nd using Nd.ind with
  | h kd st l mi ma ih =>
  intro gk lo B m a w cs hin hBl hT h hms hme
  have hT2 := hT
  simp only [Nd.isT, Bool.and_eq_true, Nd.areT_all, List.all_eq_true] at hT2
  obtain ⟨hh, hl⟩ := hT2
  obtain ⟨A, n, c, cl, hce, hn, -⟩ := hin.inv
  subst hce
  have hlo := h.lt
  have hk : kd = 1 ∨ kd = 2 ∨ kd = 3 ∨ kd = 4 ∨ kd = 5 ∨ kd = 6 ∨ kd = 7 := by
    have := hh
    unfold headOk at this
    by_cases k1 : kd = 1 ∨ kd = 6 ∨ kd = 7
    · omega
    rw [if_neg k1] at this
    by_cases k2 : kd = 2
    · omega
    rw [if_neg k2] at this
    by_cases k3 : kd = 3 ∨ kd = 4
    · omega
    rw [if_neg k3] at this
    by_cases k5 : kd = 5
    · omega
    rw [if_neg k5] at this
    cases this
  have Hh := Lib.hid hh
  have Hl := Lib.hid hl
  have Ih := Lib.hid ih
  have Hms := Lib.hid hms
  have Hme := Lib.hid hme
  clear hh hl ih hT hms hme hn
  go_enter Try.func38, Try.ntmps38
  have h1 := Blk.new w 27 (nodeC kd st A n c mi ma)
  have hB1 : Below w.heap.size w (w.alloc (.cells (nodeC kd st A n c mi ma) 27)) := below_alloc (Below.refl _ _) _
  go_upto_region 1 with (fail)
  obtain ⟨w1, hw1⟩ : ∃ y, y = w.alloc (.cells (nodeC kd st A n c mi ma) 27) := ⟨_, rfl⟩
  rw [← hw1] at h1 hB1 ⊢
  clear hw1
  replace h := h.then_ hB1
  have hF1 : Fr 72 69 lo w w1 := Fr.below hB1
  have hsz1 := hB1.size
  rcases hk with rfl | rfl | rfl | rfl | rfl | rfl | rfl
  · skip
    have hL : (Nd.mk 1 st l mi ma).lay m a = (m, a) := by simp [Nd.lay]
    have hU : (Nd.mk 1 st l mi ma).U = 0 := by simp [Nd.U]
    have hms := Hms.out
    have hme := Hme.out
    rw [hU] at hms hme
    have HL := Lib.hid hL
    clear hL hU
    refine wp_region_steps 6 [eqS (.pointer (some ⟨w.heap.size, 0, none⟩)), eqS (.int .i64 1), eqS (.func (.func 75) #[] #[]), eqS (.pointer (some ⟨gk, 0, none⟩)), eqS (.agg (nodeC 1 st A n c mi ma)), eqS (.int .i64 (a : Int))] [7, 8, 9, 10, 11, 12] rfl (by kernel_rfl) rfl ?_ ?_
    · skip
      refine Steps.cons (fun a' w' hG hB dep => gs_field (want_none rfl) _ _ _ rfl w.heap.size 0 0 (hG.other 4 rfl) (fun wz => field_node_0 w.heap.size 0 wz) rfl) ?_
      refine Steps.cons (fun a' w' hG hB dep => gs_load1 (want_none rfl) _ _ rfl w.heap.size 0 (dep 0 rfl 7 rfl) (.int .i64 1) ((blk_then h1 hB).cellv (i := 0) rfl) _ Try.underlying3 rfl rfl) ?_
      refine Steps.cons (fun a' w' hG hB dep => gs_call (want_none rfl) _ _ _ rfl enter_lays _ (map1 (dep 1 rfl 8 rfl)) ((lays_empty w').mono fun e w' ⟨he, hb⟩ => ⟨_, he, hb, rfl⟩)) ?_
      refine Steps.cons (fun a' w' hG hB dep => gs_move (want_none rfl) _ rfl (hG.other 0 rfl)) ?_
      refine Steps.cons (fun a' w' hG hB dep => gs_load_node (want_none rfl) _ rfl w.heap.size (hG.other 4 rfl) _ st A n c mi ma (blk_then h1 hB) rfl) ?_
      refine Steps.cons (fun a' w' hG hB dep => gs_move (want_none rfl) _ rfl (hG.other 2 rfl)) ?_
      exact Steps.nil
    intro u w2 hB2 ans
    have v9 : u 9 = .func (.func 75) #[] #[] := ans 2 9 (by decide) rfl
    have v10 : u 10 = .pointer (some ⟨gk, 0, none⟩) := ans 3 10 (by decide) rfl
    have v11 : u 11 = .agg (nodeC 1 st A n c mi ma) := ans 4 11 (by decide) rfl
    have v12 : u 12 = .int .i64 (a : Int) := ans 5 12 (by decide) rfl
    clear ans
    simp only [putAll, List.foldl_cons, List.foldl_nil, Act.put, List.setIfInBounds_toArray, List.set_cons_zero, List.set_cons_succ, v9, v10, v11, v12]
    clear v9 v10 v11 v12
    simp only [List.drop]
    replace h := h.then_ hB2
    have hin2 := (hin.then_ hB1 (by omega)).then_ hB2 (by omega)
    refine wl_callv rfl 75 _ _ _ rfl rfl enter_l_empty #[.pointer (some ⟨gk, 0, none⟩), .agg (nodeC 1 st A n c mi ma), .int .i64 (a : Int)] (map3 rfl rfl rfl) ?_
    refine (empty_any gk lo m a _ st A n c mi ma w2 h).mono ?_
    rintro e w3 ⟨rfl, h3, hF3⟩
    refine ⟨_, rfl, ?_⟩
    have hFe := hF1.trans ((Fr.below hB2).trans hF3)
    simp only [Act.put, List.setIfInBounds_toArray, List.set_cons_zero, List.set_cons_succ]
    clear hms hme hB2 hF3 h h1 hB1 hin hin2
    go_wp2_with (fail)
    go_ret
    exact ⟨by rw [HL.out]; rfl, by rw [HL.out]; exact h3, hFe⟩
  · skip
    have hL : (Nd.mk 2 st l mi ma).lay m a = m.over 2 a st := by simp [Nd.lay]
    have hU : (Nd.mk 2 st l mi ma).U = 1 := by simp [Nd.U]
    have hms := Hms.out
    have hme := Hme.out
    rw [hU] at hms hme
    have HL := Lib.hid hL
    clear hL hU
    refine wp_region_steps 6 [eqS (.pointer (some ⟨w.heap.size, 0, none⟩)), eqS (.int .i64 2), eqS (.func (.func 76) #[] #[]), eqS (.pointer (some ⟨gk, 0, none⟩)), eqS (.agg (nodeC 2 st A n c mi ma)), eqS (.int .i64 (a : Int))] [7, 8, 9, 10, 11, 12] rfl (by kernel_rfl) rfl ?_ ?_
    · skip
      refine Steps.cons (fun a' w' hG hB dep => gs_field (want_none rfl) _ _ _ rfl w.heap.size 0 0 (hG.other 4 rfl) (fun wz => field_node_0 w.heap.size 0 wz) rfl) ?_
      refine Steps.cons (fun a' w' hG hB dep => gs_load1 (want_none rfl) _ _ rfl w.heap.size 0 (dep 0 rfl 7 rfl) (.int .i64 2) ((blk_then h1 hB).cellv (i := 0) rfl) _ Try.underlying3 rfl rfl) ?_
      refine Steps.cons (fun a' w' hG hB dep => gs_call (want_none rfl) _ _ _ rfl enter_lays _ (map1 (dep 1 rfl 8 rfl)) ((lays_byte w').mono fun e w' ⟨he, hb⟩ => ⟨_, he, hb, rfl⟩)) ?_
      refine Steps.cons (fun a' w' hG hB dep => gs_move (want_none rfl) _ rfl (hG.other 0 rfl)) ?_
      refine Steps.cons (fun a' w' hG hB dep => gs_load_node (want_none rfl) _ rfl w.heap.size (hG.other 4 rfl) _ st A n c mi ma (blk_then h1 hB) rfl) ?_
      refine Steps.cons (fun a' w' hG hB dep => gs_move (want_none rfl) _ rfl (hG.other 2 rfl)) ?_
      exact Steps.nil
    intro u w2 hB2 ans
    have v9 : u 9 = .func (.func 76) #[] #[] := ans 2 9 (by decide) rfl
    have v10 : u 10 = .pointer (some ⟨gk, 0, none⟩) := ans 3 10 (by decide) rfl
    have v11 : u 11 = .agg (nodeC 2 st A n c mi ma) := ans 4 11 (by decide) rfl
    have v12 : u 12 = .int .i64 (a : Int) := ans 5 12 (by decide) rfl
    clear ans
    simp only [putAll, List.foldl_cons, List.foldl_nil, Act.put, List.setIfInBounds_toArray, List.set_cons_zero, List.set_cons_succ, v9, v10, v11, v12]
    clear v9 v10 v11 v12
    simp only [List.drop]
    replace h := h.then_ hB2
    have hin2 := (hin.then_ hB1 (by omega)).then_ hB2 (by omega)
    refine wl_callv rfl 76 _ _ _ rfl rfl enter_l_byte #[.pointer (some ⟨gk, 0, none⟩), .agg (nodeC 2 st A n c mi ma), .int .i64 (a : Int)] (map3 rfl rfl rfl) ?_
    refine (byte_any gk lo m a _ st A n c mi ma w2 h (by omega) (by omega)).mono ?_
    rintro e w3 ⟨rfl, h3, hF3⟩
    refine ⟨_, rfl, ?_⟩
    have hFe := hF1.trans ((Fr.below hB2).trans hF3)
    simp only [Act.put, List.setIfInBounds_toArray, List.set_cons_zero, List.set_cons_succ]
    clear hms hme hB2 hF3 h h1 hB1 hin hin2
    go_wp2_with (fail)
    go_ret
    exact ⟨by rw [HL.out]; rfl, by rw [HL.out]; exact h3, hFe⟩
  · skip
    have hL : (Nd.mk 3 st l mi ma).lay m a = Nd.row l (m, a) := by simp [Nd.lay]
    have hU : (Nd.mk 3 st l mi ma).U = Nd.Us l := by simp [Nd.U]
    have hms := Hms.out
    have hme := Hme.out
    rw [hU] at hms hme
    have HL := Lib.hid hL
    clear hL hU
    refine wp_region_steps 6 [eqS (.pointer (some ⟨w.heap.size, 0, none⟩)), eqS (.int .i64 3), eqS (.func (.func 77) #[] #[]), eqS (.pointer (some ⟨gk, 0, none⟩)), eqS (.agg (nodeC 3 st A n c mi ma)), eqS (.int .i64 (a : Int))] [7, 8, 9, 10, 11, 12] rfl (by kernel_rfl) rfl ?_ ?_
    · skip
      refine Steps.cons (fun a' w' hG hB dep => gs_field (want_none rfl) _ _ _ rfl w.heap.size 0 0 (hG.other 4 rfl) (fun wz => field_node_0 w.heap.size 0 wz) rfl) ?_
      refine Steps.cons (fun a' w' hG hB dep => gs_load1 (want_none rfl) _ _ rfl w.heap.size 0 (dep 0 rfl 7 rfl) (.int .i64 3) ((blk_then h1 hB).cellv (i := 0) rfl) _ Try.underlying3 rfl rfl) ?_
      refine Steps.cons (fun a' w' hG hB dep => gs_call (want_none rfl) _ _ _ rfl enter_lays _ (map1 (dep 1 rfl 8 rfl)) ((lays_row w').mono fun e w' ⟨he, hb⟩ => ⟨_, he, hb, rfl⟩)) ?_
      refine Steps.cons (fun a' w' hG hB dep => gs_move (want_none rfl) _ rfl (hG.other 0 rfl)) ?_
      refine Steps.cons (fun a' w' hG hB dep => gs_load_node (want_none rfl) _ rfl w.heap.size (hG.other 4 rfl) _ st A n c mi ma (blk_then h1 hB) rfl) ?_
      refine Steps.cons (fun a' w' hG hB dep => gs_move (want_none rfl) _ rfl (hG.other 2 rfl)) ?_
      exact Steps.nil
    intro u w2 hB2 ans
    have v9 : u 9 = .func (.func 77) #[] #[] := ans 2 9 (by decide) rfl
    have v10 : u 10 = .pointer (some ⟨gk, 0, none⟩) := ans 3 10 (by decide) rfl
    have v11 : u 11 = .agg (nodeC 3 st A n c mi ma) := ans 4 11 (by decide) rfl
    have v12 : u 12 = .int .i64 (a : Int) := ans 5 12 (by decide) rfl
    clear ans
    simp only [putAll, List.foldl_cons, List.foldl_nil, Act.put, List.setIfInBounds_toArray, List.set_cons_zero, List.set_cons_succ, v9, v10, v11, v12]
    clear v9 v10 v11 v12
    simp only [List.drop]
    replace h := h.then_ hB2
    have hin2 := (hin.then_ hB1 (by omega)).then_ hB2 (by omega)
    refine wl_callv rfl 77 _ _ _ rfl rfl enter_l_row #[.pointer (some ⟨gk, 0, none⟩), .agg (nodeC 3 st A n c mi ma), .int .i64 (a : Int)] (map3 rfl rfl rfl) ?_
    refine (row_any _ st l mi ma Ih.out Hl.out gk lo B m a w2 _ hin2 hBl h hms hme).mono ?_
    rintro e w3 ⟨rfl, h3, hF3⟩
    refine ⟨_, rfl, ?_⟩
    have hFe := hF1.trans ((Fr.below hB2).trans hF3)
    simp only [Act.put, List.setIfInBounds_toArray, List.set_cons_zero, List.set_cons_succ]
    clear hms hme hB2 hF3 h h1 hB1 hin hin2
    go_wp2_with (fail)
    go_ret
    exact ⟨by rw [HL.out]; rfl, by rw [HL.out]; exact h3, hFe⟩
  · skip
    have hL : (Nd.mk 4 st l mi ma).lay m a = (Nd.alt l a (m, [])).1.joined (Nd.alt l a (m, [])).2 := by simp [Nd.lay]
    have hU : (Nd.mk 4 st l mi ma).U = l.length + 1 + Nd.Us l := by simp [Nd.U]
    have hms := Hms.out
    have hme := Hme.out
    rw [hU] at hms hme
    have HL := Lib.hid hL
    clear hL hU
    refine wp_region_steps 6 [eqS (.pointer (some ⟨w.heap.size, 0, none⟩)), eqS (.int .i64 4), eqS (.func (.func 78) #[] #[]), eqS (.pointer (some ⟨gk, 0, none⟩)), eqS (.agg (nodeC 4 st A n c mi ma)), eqS (.int .i64 (a : Int))] [7, 8, 9, 10, 11, 12] rfl (by kernel_rfl) rfl ?_ ?_
    · skip
      refine Steps.cons (fun a' w' hG hB dep => gs_field (want_none rfl) _ _ _ rfl w.heap.size 0 0 (hG.other 4 rfl) (fun wz => field_node_0 w.heap.size 0 wz) rfl) ?_
      refine Steps.cons (fun a' w' hG hB dep => gs_load1 (want_none rfl) _ _ rfl w.heap.size 0 (dep 0 rfl 7 rfl) (.int .i64 4) ((blk_then h1 hB).cellv (i := 0) rfl) _ Try.underlying3 rfl rfl) ?_
      refine Steps.cons (fun a' w' hG hB dep => gs_call (want_none rfl) _ _ _ rfl enter_lays _ (map1 (dep 1 rfl 8 rfl)) ((lays_choice w').mono fun e w' ⟨he, hb⟩ => ⟨_, he, hb, rfl⟩)) ?_
      refine Steps.cons (fun a' w' hG hB dep => gs_move (want_none rfl) _ rfl (hG.other 0 rfl)) ?_
      refine Steps.cons (fun a' w' hG hB dep => gs_load_node (want_none rfl) _ rfl w.heap.size (hG.other 4 rfl) _ st A n c mi ma (blk_then h1 hB) rfl) ?_
      refine Steps.cons (fun a' w' hG hB dep => gs_move (want_none rfl) _ rfl (hG.other 2 rfl)) ?_
      exact Steps.nil
    intro u w2 hB2 ans
    have v9 : u 9 = .func (.func 78) #[] #[] := ans 2 9 (by decide) rfl
    have v10 : u 10 = .pointer (some ⟨gk, 0, none⟩) := ans 3 10 (by decide) rfl
    have v11 : u 11 = .agg (nodeC 4 st A n c mi ma) := ans 4 11 (by decide) rfl
    have v12 : u 12 = .int .i64 (a : Int) := ans 5 12 (by decide) rfl
    clear ans
    simp only [putAll, List.foldl_cons, List.foldl_nil, Act.put, List.setIfInBounds_toArray, List.set_cons_zero, List.set_cons_succ, v9, v10, v11, v12]
    clear v9 v10 v11 v12
    simp only [List.drop]
    replace h := h.then_ hB2
    have hin2 := (hin.then_ hB1 (by omega)).then_ hB2 (by omega)
    refine wl_callv rfl 78 _ _ _ rfl rfl enter_l_choice #[.pointer (some ⟨gk, 0, none⟩), .agg (nodeC 4 st A n c mi ma), .int .i64 (a : Int)] (map3 rfl rfl rfl) ?_
    refine (choice_any _ st l mi ma Ih.out Hl.out gk lo B m a w2 _ hin2 hBl h hms hme).mono ?_
    rintro e w3 ⟨rfl, h3, hF3⟩
    refine ⟨_, rfl, ?_⟩
    have hFe := hF1.trans ((Fr.below hB2).trans hF3)
    simp only [Act.put, List.setIfInBounds_toArray, List.set_cons_zero, List.set_cons_succ]
    clear hms hme hB2 hF3 h h1 hB1 hin hin2
    go_wp2_with (fail)
    go_ret
    exact ⟨by rw [HL.out]; rfl, by rw [HL.out]; exact h3, hFe⟩
  · skip
    obtain ⟨_, hn1, hmi0, hmi1, hma⟩ := headOk_times Hh.out
    obtain ⟨x, rfl⟩ := List.length_eq_one_iff.1 hn1
    have hxT := Hl.out x (by simp)
    have hxI := Ih.out x (by simp)
    have hL : (Nd.mk 5 st [x] mi ma).lay m a = timesP x.lay x.U mi ma m a := by simp [Nd.lay, Nd.tim]
    have hU : (Nd.mk 5 st [x] mi ma).U = tU x.U mi ma := by simp [Nd.U, Nd.Us]
    have hms := Hms.out
    have hme := Hme.out
    rw [hU] at hms hme
    have HL := Lib.hid hL
    clear hL hU
    refine wp_region_steps 6 [eqS (.pointer (some ⟨w.heap.size, 0, none⟩)), eqS (.int .i64 5), eqS (.func (.func 79) #[] #[]), eqS (.pointer (some ⟨gk, 0, none⟩)), eqS (.agg (nodeC 5 st A n c mi ma)), eqS (.int .i64 (a : Int))] [7, 8, 9, 10, 11, 12] rfl (by kernel_rfl) rfl ?_ ?_
    · skip
      refine Steps.cons (fun a' w' hG hB dep => gs_field (want_none rfl) _ _ _ rfl w.heap.size 0 0 (hG.other 4 rfl) (fun wz => field_node_0 w.heap.size 0 wz) rfl) ?_
      refine Steps.cons (fun a' w' hG hB dep => gs_load1 (want_none rfl) _ _ rfl w.heap.size 0 (dep 0 rfl 7 rfl) (.int .i64 5) ((blk_then h1 hB).cellv (i := 0) rfl) _ Try.underlying3 rfl rfl) ?_
      refine Steps.cons (fun a' w' hG hB dep => gs_call (want_none rfl) _ _ _ rfl enter_lays _ (map1 (dep 1 rfl 8 rfl)) ((lays_times w').mono fun e w' ⟨he, hb⟩ => ⟨_, he, hb, rfl⟩)) ?_
      refine Steps.cons (fun a' w' hG hB dep => gs_move (want_none rfl) _ rfl (hG.other 0 rfl)) ?_
      refine Steps.cons (fun a' w' hG hB dep => gs_load_node (want_none rfl) _ rfl w.heap.size (hG.other 4 rfl) _ st A n c mi ma (blk_then h1 hB) rfl) ?_
      refine Steps.cons (fun a' w' hG hB dep => gs_move (want_none rfl) _ rfl (hG.other 2 rfl)) ?_
      exact Steps.nil
    intro u w2 hB2 ans
    have v9 : u 9 = .func (.func 79) #[] #[] := ans 2 9 (by decide) rfl
    have v10 : u 10 = .pointer (some ⟨gk, 0, none⟩) := ans 3 10 (by decide) rfl
    have v11 : u 11 = .agg (nodeC 5 st A n c mi ma) := ans 4 11 (by decide) rfl
    have v12 : u 12 = .int .i64 (a : Int) := ans 5 12 (by decide) rfl
    clear ans
    simp only [putAll, List.foldl_cons, List.foldl_nil, Act.put, List.setIfInBounds_toArray, List.set_cons_zero, List.set_cons_succ, v9, v10, v11, v12]
    clear v9 v10 v11 v12
    simp only [List.drop]
    replace h := h.then_ hB2
    have hin2 := (hin.then_ hB1 (by omega)).then_ hB2 (by omega)
    refine wl_callv rfl 79 _ _ _ rfl rfl enter_l_times #[.pointer (some ⟨gk, 0, none⟩), .agg (nodeC 5 st A n c mi ma), .int .i64 (a : Int)] (map3 rfl rfl rfl) ?_
    refine (times_any _ st x mi ma hxT hxI hmi0 hmi1 hma gk lo B m a w2 _ hin2 hBl h hms hme).mono ?_
    rintro e w3 ⟨rfl, h3, hF3⟩
    refine ⟨_, rfl, ?_⟩
    have hFe := hF1.trans ((Fr.below hB2).trans hF3)
    simp only [Act.put, List.setIfInBounds_toArray, List.set_cons_zero, List.set_cons_succ]
    clear hms hme hB2 hF3 h h1 hB1 hin hin2
    go_wp2_with (fail)
    go_ret
    exact ⟨by rw [HL.out]; rfl, by rw [HL.out]; exact h3, hFe⟩
  · skip
    have hL : (Nd.mk 6 st l mi ma).lay m a = m.over 3 a 0 := by simp [Nd.lay]
    have hU : (Nd.mk 6 st l mi ma).U = 1 := by simp [Nd.U]
    have hms := Hms.out
    have hme := Hme.out
    rw [hU] at hms hme
    have HL := Lib.hid hL
    clear hL hU
    refine wp_region_steps 6 [eqS (.pointer (some ⟨w.heap.size, 0, none⟩)), eqS (.int .i64 6), eqS (.func (.func 80) #[] #[]), eqS (.pointer (some ⟨gk, 0, none⟩)), eqS (.agg (nodeC 6 st A n c mi ma)), eqS (.int .i64 (a : Int))] [7, 8, 9, 10, 11, 12] rfl (by kernel_rfl) rfl ?_ ?_
    · skip
      refine Steps.cons (fun a' w' hG hB dep => gs_field (want_none rfl) _ _ _ rfl w.heap.size 0 0 (hG.other 4 rfl) (fun wz => field_node_0 w.heap.size 0 wz) rfl) ?_
      refine Steps.cons (fun a' w' hG hB dep => gs_load1 (want_none rfl) _ _ rfl w.heap.size 0 (dep 0 rfl 7 rfl) (.int .i64 6) ((blk_then h1 hB).cellv (i := 0) rfl) _ Try.underlying3 rfl rfl) ?_
      refine Steps.cons (fun a' w' hG hB dep => gs_call (want_none rfl) _ _ _ rfl enter_lays _ (map1 (dep 1 rfl 8 rfl)) ((lays_begin w').mono fun e w' ⟨he, hb⟩ => ⟨_, he, hb, rfl⟩)) ?_
      refine Steps.cons (fun a' w' hG hB dep => gs_move (want_none rfl) _ rfl (hG.other 0 rfl)) ?_
      refine Steps.cons (fun a' w' hG hB dep => gs_load_node (want_none rfl) _ rfl w.heap.size (hG.other 4 rfl) _ st A n c mi ma (blk_then h1 hB) rfl) ?_
      refine Steps.cons (fun a' w' hG hB dep => gs_move (want_none rfl) _ rfl (hG.other 2 rfl)) ?_
      exact Steps.nil
    intro u w2 hB2 ans
    have v9 : u 9 = .func (.func 80) #[] #[] := ans 2 9 (by decide) rfl
    have v10 : u 10 = .pointer (some ⟨gk, 0, none⟩) := ans 3 10 (by decide) rfl
    have v11 : u 11 = .agg (nodeC 6 st A n c mi ma) := ans 4 11 (by decide) rfl
    have v12 : u 12 = .int .i64 (a : Int) := ans 5 12 (by decide) rfl
    clear ans
    simp only [putAll, List.foldl_cons, List.foldl_nil, Act.put, List.setIfInBounds_toArray, List.set_cons_zero, List.set_cons_succ, v9, v10, v11, v12]
    clear v9 v10 v11 v12
    simp only [List.drop]
    replace h := h.then_ hB2
    have hin2 := (hin.then_ hB1 (by omega)).then_ hB2 (by omega)
    refine wl_callv rfl 80 _ _ _ rfl rfl enter_l_begin #[.pointer (some ⟨gk, 0, none⟩), .agg (nodeC 6 st A n c mi ma), .int .i64 (a : Int)] (map3 rfl rfl rfl) ?_
    refine (begin_any gk lo m a _ st A n c mi ma w2 h (by omega) (by omega)).mono ?_
    rintro e w3 ⟨rfl, h3, hF3⟩
    refine ⟨_, rfl, ?_⟩
    have hFe := hF1.trans ((Fr.below hB2).trans hF3)
    simp only [Act.put, List.setIfInBounds_toArray, List.set_cons_zero, List.set_cons_succ]
    clear hms hme hB2 hF3 h h1 hB1 hin hin2
    go_wp2_with (fail)
    go_ret
    exact ⟨by rw [HL.out]; rfl, by rw [HL.out]; exact h3, hFe⟩
  · skip
    have hL : (Nd.mk 7 st l mi ma).lay m a = m.over 4 a 0 := by simp [Nd.lay]
    have hU : (Nd.mk 7 st l mi ma).U = 1 := by simp [Nd.U]
    have hms := Hms.out
    have hme := Hme.out
    rw [hU] at hms hme
    have HL := Lib.hid hL
    clear hL hU
    refine wp_region_steps 6 [eqS (.pointer (some ⟨w.heap.size, 0, none⟩)), eqS (.int .i64 7), eqS (.func (.func 81) #[] #[]), eqS (.pointer (some ⟨gk, 0, none⟩)), eqS (.agg (nodeC 7 st A n c mi ma)), eqS (.int .i64 (a : Int))] [7, 8, 9, 10, 11, 12] rfl (by kernel_rfl) rfl ?_ ?_
    · skip
      refine Steps.cons (fun a' w' hG hB dep => gs_field (want_none rfl) _ _ _ rfl w.heap.size 0 0 (hG.other 4 rfl) (fun wz => field_node_0 w.heap.size 0 wz) rfl) ?_
      refine Steps.cons (fun a' w' hG hB dep => gs_load1 (want_none rfl) _ _ rfl w.heap.size 0 (dep 0 rfl 7 rfl) (.int .i64 7) ((blk_then h1 hB).cellv (i := 0) rfl) _ Try.underlying3 rfl rfl) ?_
      refine Steps.cons (fun a' w' hG hB dep => gs_call (want_none rfl) _ _ _ rfl enter_lays _ (map1 (dep 1 rfl 8 rfl)) ((lays_end w').mono fun e w' ⟨he, hb⟩ => ⟨_, he, hb, rfl⟩)) ?_
      refine Steps.cons (fun a' w' hG hB dep => gs_move (want_none rfl) _ rfl (hG.other 0 rfl)) ?_
      refine Steps.cons (fun a' w' hG hB dep => gs_load_node (want_none rfl) _ rfl w.heap.size (hG.other 4 rfl) _ st A n c mi ma (blk_then h1 hB) rfl) ?_
      refine Steps.cons (fun a' w' hG hB dep => gs_move (want_none rfl) _ rfl (hG.other 2 rfl)) ?_
      exact Steps.nil
    intro u w2 hB2 ans
    have v9 : u 9 = .func (.func 81) #[] #[] := ans 2 9 (by decide) rfl
    have v10 : u 10 = .pointer (some ⟨gk, 0, none⟩) := ans 3 10 (by decide) rfl
    have v11 : u 11 = .agg (nodeC 7 st A n c mi ma) := ans 4 11 (by decide) rfl
    have v12 : u 12 = .int .i64 (a : Int) := ans 5 12 (by decide) rfl
    clear ans
    simp only [putAll, List.foldl_cons, List.foldl_nil, Act.put, List.setIfInBounds_toArray, List.set_cons_zero, List.set_cons_succ, v9, v10, v11, v12]
    clear v9 v10 v11 v12
    simp only [List.drop]
    replace h := h.then_ hB2
    have hin2 := (hin.then_ hB1 (by omega)).then_ hB2 (by omega)
    refine wl_callv rfl 81 _ _ _ rfl rfl enter_l_end #[.pointer (some ⟨gk, 0, none⟩), .agg (nodeC 7 st A n c mi ma), .int .i64 (a : Int)] (map3 rfl rfl rfl) ?_
    refine (end_any gk lo m a _ st A n c mi ma w2 h (by omega) (by omega)).mono ?_
    rintro e w3 ⟨rfl, h3, hF3⟩
    refine ⟨_, rfl, ?_⟩
    have hFe := hF1.trans ((Fr.below hB2).trans hF3)
    simp only [Act.put, List.setIfInBounds_toArray, List.set_cons_zero, List.set_cons_succ]
    clear hms hme hB2 hF3 h h1 hB1 hin hin2
    go_wp2_with (fail)
    go_ret
    exact ⟨by rw [HL.out]; rfl, by rw [HL.out]; exact h3, hFe⟩
end Go.Proofs.Ytgahdookojbbiaa
