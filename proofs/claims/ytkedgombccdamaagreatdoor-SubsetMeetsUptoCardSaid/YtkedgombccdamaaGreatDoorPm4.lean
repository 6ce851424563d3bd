/- Part 4 of a proof; packed: the texts that it was made of follow one another. No condition beyond those named in each lemma. -/
import Derived.Test.YtkedgombccdamaaGreatDoorPm1
import Derived.Test.YtkedgombccdamaaGreatDoorPm2
import Derived.Test.YtkedgombccdamaaGreatDoorPm3
namespace Go.Proofs.YtkedgombccdamaaGreatDoor
open Go.RowKit Go.Maps
set_option linter.unusedVariables false
set_option linter.unusedSimpArgs false
attribute [local go_sem] Oper.semAt_some
def laysC : Array Value := #[.nilFunc, .func (.func 64) #[] #[], .func (.func 65) #[] #[], .func (.func 66) #[] #[], .func (.func 67) #[] #[], .func (.func 68) #[] #[], .func (.func 69) #[] #[], .func (.func 70) #[] #[]]
theorem info_lays : (Tryz.prog.info? 134).map (·.size) = some 8 := by kernel_rfl
theorem zyk {ops : Array Oper} {rest : List Oper} {o : Oper} {a : Act} {w : World} {Q : Exit → Act → World → Prop} (hgd : o.guard = none) (x y : Operand) (ho : o.op = .store 134 x y)
  (g : Nat) (hx : a.eval x = .pointer (some ⟨g, 0, none⟩)) (hy : a.eval y = .agg laysC) (old : Array Value) (ho2 : old.size = 8) (hb : Blk w g 134 old)
  (h : ∀ w', Blk w' g 134 laysC → w.grownBy w' (some g) → wpList Tryz.prog ops Q rest (a.put o.dst undef) w') : wpList Tryz.prog ops Q (o :: rest) a w :=
 wpList_store_row hgd _ x y ho g _ hx hy _ _ hb (info_lays.trans rfl) (by rw [ho2]; rfl) (by simp [laysC, Value.oneCell']) (h _ (hb.setRow_same _) (zxs (zzk _ _) _))
set_option maxRecDepth 100000 in
set_option maxHeartbeats 4000000 in
theorem lays_empty (w : World) :
  Calls Tryz.prog 58 #[.int .i64 1] w fun e w' => e = .returned (.func (.func 64) #[] #[]) ∧ Below w.heap.size w w' := by
 go_enter Tryz.func58, Tryz.ntmps58
 go_upto_region 2 with (refine zyk rfl _ _ rfl _ rfl rfl _ rfl (Blk.new _ _ _) ?_; intro w3 h5 hg3)
 have hB3 := zqh (zqc (Below.refl _ w) (.cells #[.nilFunc, .nilFunc, .nilFunc, .nilFunc, .nilFunc, .nilFunc, .nilFunc, .nilFunc] 134)) hg3 (Nat.le_refl _)
 have c : w3.cell? ⟨w.heap.size, 1, none⟩ = some (.func (.func 64) #[] #[]) := h5.cellv (i := 1) rfl
 clear hg3 h5
 go_wp2_with (fail)
 go_ret
 exact ⟨rfl, hB3⟩
set_option maxRecDepth 100000 in
set_option maxHeartbeats 4000000 in
theorem lays_byte (w : World) :
  Calls Tryz.prog 58 #[.int .i64 2] w fun e w' => e = .returned (.func (.func 65) #[] #[]) ∧ Below w.heap.size w w' := by
 go_enter Tryz.func58, Tryz.ntmps58
 go_upto_region 2 with (refine zyk rfl _ _ rfl _ rfl rfl _ rfl (Blk.new _ _ _) ?_; intro w3 h5 hg3)
 have hB3 := zqh (zqc (Below.refl _ w) (.cells #[.nilFunc, .nilFunc, .nilFunc, .nilFunc, .nilFunc, .nilFunc, .nilFunc, .nilFunc] 134)) hg3 (Nat.le_refl _)
 have c : w3.cell? ⟨w.heap.size, 2, none⟩ = some (.func (.func 65) #[] #[]) := h5.cellv (i := 2) rfl
 clear hg3 h5
 go_wp2_with (fail)
 go_ret
 exact ⟨rfl, hB3⟩
set_option maxRecDepth 100000 in
set_option maxHeartbeats 4000000 in
theorem lays_row (w : World) :
  Calls Tryz.prog 58 #[.int .i64 3] w fun e w' => e = .returned (.func (.func 66) #[] #[]) ∧ Below w.heap.size w w' := by
 go_enter Tryz.func58, Tryz.ntmps58
 go_upto_region 2 with (refine zyk rfl _ _ rfl _ rfl rfl _ rfl (Blk.new _ _ _) ?_; intro w3 h5 hg3)
 have hB3 := zqh (zqc (Below.refl _ w) (.cells #[.nilFunc, .nilFunc, .nilFunc, .nilFunc, .nilFunc, .nilFunc, .nilFunc, .nilFunc] 134)) hg3 (Nat.le_refl _)
 have c : w3.cell? ⟨w.heap.size, 3, none⟩ = some (.func (.func 66) #[] #[]) := h5.cellv (i := 3) rfl
 clear hg3 h5
 go_wp2_with (fail)
 go_ret
 exact ⟨rfl, hB3⟩
set_option maxRecDepth 100000 in
set_option maxHeartbeats 4000000 in
theorem lays_choice (w : World) :
  Calls Tryz.prog 58 #[.int .i64 4] w fun e w' => e = .returned (.func (.func 67) #[] #[]) ∧ Below w.heap.size w w' := by
 go_enter Tryz.func58, Tryz.ntmps58
 go_upto_region 2 with (refine zyk rfl _ _ rfl _ rfl rfl _ rfl (Blk.new _ _ _) ?_; intro w3 h5 hg3)
 have hB3 := zqh (zqc (Below.refl _ w) (.cells #[.nilFunc, .nilFunc, .nilFunc, .nilFunc, .nilFunc, .nilFunc, .nilFunc, .nilFunc] 134)) hg3 (Nat.le_refl _)
 have c : w3.cell? ⟨w.heap.size, 4, none⟩ = some (.func (.func 67) #[] #[]) := h5.cellv (i := 4) rfl
 clear hg3 h5
 go_wp2_with (fail)
 go_ret
 exact ⟨rfl, hB3⟩
set_option maxRecDepth 100000 in
set_option maxHeartbeats 4000000 in
theorem lays_times (w : World) :
  Calls Tryz.prog 58 #[.int .i64 5] w fun e w' => e = .returned (.func (.func 68) #[] #[]) ∧ Below w.heap.size w w' := by
 go_enter Tryz.func58, Tryz.ntmps58
 go_upto_region 2 with (refine zyk rfl _ _ rfl _ rfl rfl _ rfl (Blk.new _ _ _) ?_; intro w3 h5 hg3)
 have hB3 := zqh (zqc (Below.refl _ w) (.cells #[.nilFunc, .nilFunc, .nilFunc, .nilFunc, .nilFunc, .nilFunc, .nilFunc, .nilFunc] 134)) hg3 (Nat.le_refl _)
 have c : w3.cell? ⟨w.heap.size, 5, none⟩ = some (.func (.func 68) #[] #[]) := h5.cellv (i := 5) rfl
 clear hg3 h5
 go_wp2_with (fail)
 go_ret
 exact ⟨rfl, hB3⟩
set_option maxRecDepth 100000 in
set_option maxHeartbeats 4000000 in
theorem lays_begin (w : World) :
  Calls Tryz.prog 58 #[.int .i64 6] w fun e w' => e = .returned (.func (.func 69) #[] #[]) ∧ Below w.heap.size w w' := by
 go_enter Tryz.func58, Tryz.ntmps58
 go_upto_region 2 with (refine zyk rfl _ _ rfl _ rfl rfl _ rfl (Blk.new _ _ _) ?_; intro w3 h5 hg3)
 have hB3 := zqh (zqc (Below.refl _ w) (.cells #[.nilFunc, .nilFunc, .nilFunc, .nilFunc, .nilFunc, .nilFunc, .nilFunc, .nilFunc] 134)) hg3 (Nat.le_refl _)
 have c : w3.cell? ⟨w.heap.size, 6, none⟩ = some (.func (.func 69) #[] #[]) := h5.cellv (i := 6) rfl
 clear hg3 h5
 go_wp2_with (fail)
 go_ret
 exact ⟨rfl, hB3⟩
set_option maxRecDepth 100000 in
set_option maxHeartbeats 4000000 in
theorem lays_end (w : World) :
  Calls Tryz.prog 58 #[.int .i64 7] w fun e w' => e = .returned (.func (.func 70) #[] #[]) ∧ Below w.heap.size w w' := by
 go_enter Tryz.func58, Tryz.ntmps58
 go_upto_region 2 with (refine zyk rfl _ _ rfl _ rfl rfl _ rfl (Blk.new _ _ _) ?_; intro w3 h5 hg3)
 have hB3 := zqh (zqc (Below.refl _ w) (.cells #[.nilFunc, .nilFunc, .nilFunc, .nilFunc, .nilFunc, .nilFunc, .nilFunc, .nilFunc] 134)) hg3 (Nat.le_refl _)
 have c : w3.cell? ⟨w.heap.size, 7, none⟩ = some (.func (.func 70) #[] #[]) := h5.cellv (i := 7) rfl
 clear hg3 h5
 go_wp2_with (fail)
 go_ret
 exact ⟨rfl, hB3⟩
theorem enter_lays (args : Array Value) (w : World) : (callFunc 58 args).run Tryz.prog w = .ok (.enter 58 args) w := by kernel_rfl
theorem zyi {ops : Array Oper} {S : Nat → GSpec} {Q : Exit → Act → World → Prop} {i : Nat} {o : Oper} {a : Act} {w : World} (hw : Region.wanted o (yielded ops a.tmps) = true) (x : Operand) (ho : o.op = .load 56 x) (g : Nat) (hx : a.eval x = .pointer (some ⟨g, 0, none⟩)) (kd : Int) (st : BSet) (A : Option Addr) (n c : Nat) (mi ma : Int) (hg : Blk w g 56 (nodeC kd st A n c mi ma))
  (hp : (S i).p (.agg (nodeC kd st A n c mi ma)) w) : GStep Tryz.prog ops S Q i o a w :=
 gs_load hw _ x ho g hx _ _ hg _ Tryz.underlying56 rfl (info_node.trans (by rw [nodeC_size])) hp
theorem wl_callv {P : Program} {ops : Array Oper} {rest : List Oper} {o : Oper} {a : Act} {w : World} {Q : Exit → Act → World → Prop} (hgd : o.guard = none) (f : FuncId) (c : Operand) (xs : Array Operand) (ats : Array TypeId) (ho : o.op = .call { callee := .value c, args := xs, argTypes := ats })
  (he : a.eval c = .func (.func f) #[] #[]) (hf : ∀ args w, (callFunc f args).run P w = .ok (.enter f args) w) (vs : Array Value) (hv : xs.map a.eval = vs)
  (hc : Calls P f vs w fun e w' => ∃ v, e = .returned v ∧ wpList P ops Q rest (a.put o.dst v) w') : wpList P ops Q (o :: rest) a w := by
 refine wpList_plain hgd fun K hK => ?_
 unfold Oper.wp
 have hr : (execOp a.eval o).run P w = .ok (.enter f vs) w := by
  have he2 : execOp a.eval o = callFunc f (#[] ++ xs.map a.eval ++ #[]) := by
   unfold execOp; rw [ho]; simp only [resolve, he]; rfl
  rw [he2, hv]
  simpa using hf vs w
 rw [hr, Oper.upon_enter]
 refine hc.mono ?_
 rintro e w' ⟨v, rfl, h⟩
 exact hK _ _ h
theorem enter_l_empty (args : Array Value) (w : World) : (callFunc 64 args).run Tryz.prog w = .ok (.enter 64 args) w := by kernel_rfl
theorem enter_l_byte (args : Array Value) (w : World) : (callFunc 65 args).run Tryz.prog w = .ok (.enter 65 args) w := by kernel_rfl
theorem enter_l_row (args : Array Value) (w : World) : (callFunc 66 args).run Tryz.prog w = .ok (.enter 66 args) w := by kernel_rfl
theorem enter_l_choice (args : Array Value) (w : World) : (callFunc 67 args).run Tryz.prog w = .ok (.enter 67 args) w := by kernel_rfl
theorem enter_l_times (args : Array Value) (w : World) : (callFunc 68 args).run Tryz.prog w = .ok (.enter 68 args) w := by kernel_rfl
theorem enter_l_begin (args : Array Value) (w : World) : (callFunc 69 args).run Tryz.prog w = .ok (.enter 69 args) w := by kernel_rfl
theorem enter_l_end (args : Array Value) (w : World) : (callFunc 70 args).run Tryz.prog w = .ok (.enter 70 args) w := by kernel_rfl
set_option maxRecDepth 100000 in
set_option maxHeartbeats 8000000 in
theorem lay_ok (nd : Nd) : LayOk 41 116 mkP nd := by
 induction nd using Nd.ind with
 | h kd st l mi ma ih =>
 intro gk lo B m a w cs hin hBl hT h hms hme
 have hT2 := hT
 simp only [Nd.isT, Bool.and_eq_true, Nd.areT_all, List.all_eq_true] at hT2
 obtain ⟨hh, hl⟩ := hT2
 obtain ⟨A, n, c, cl, hce, hn, -⟩ := hin.inv
 subst hce
 have hlo := h.lt
 have hk : kd = 1 ∨ kd = 2 ∨ kd = 3 ∨ kd = 4 ∨ kd = 5 ∨ kd = 6 ∨ kd = 7 := by
  have := hh
  unfold headOk at this
  by_cases k1 : kd = 1 ∨ kd = 6 ∨ kd = 7
  ·omega
  rw [if_neg k1] at this
  by_cases k2 : kd = 2
  ·omega
  rw [if_neg k2] at this
  by_cases k3 : kd = 3 ∨ kd = 4
  ·omega
  rw [if_neg k3] at this
  by_cases k5 : kd = 5
  ·omega
  rw [if_neg k5] at this
  cases this
 have Hh := Lib.hid hh
 have Hl := Lib.hid hl
 have Ih := Lib.hid ih
 have Hms := Lib.hid hms
 have Hme := Lib.hid hme
 clear hh hl ih hT hms hme hn
 go_enter Tryz.func41, Tryz.ntmps41
 have h1 := Blk.new w 56 (nodeC kd st A n c mi ma)
 have hB1 : Below w.heap.size w (w.alloc (.cells (nodeC kd st A n c mi ma) 56)) := zqc (Below.refl _ _) _
 go_upto_region 1 with (fail)
 obtain ⟨w1, hw1⟩ : ∃ y, y = w.alloc (.cells (nodeC kd st A n c mi ma) 56) := ⟨_, rfl⟩
 rw [← hw1] at h1 hB1 ⊢
 clear hw1
 replace h := h.then_ hB1
 have hF1 : Fr 116 69 lo w w1 := Fr.below hB1
 have hsz1 := hB1.size
 rcases hk with rfl | rfl | rfl | rfl | rfl | rfl | rfl
 ·skip
  have hL : (Nd.mk 1 st l mi ma).lay m a = (m, a) := by simp [Nd.lay]
  have hU : (Nd.mk 1 st l mi ma).U = 0 := by simp [Nd.U]
  have hms := Hms.out
  have hme := Hme.out
  rw [hU] at hms hme
  have HL := Lib.hid hL
  clear hL hU
  refine zql 6 [eqS (.pointer (some ⟨w.heap.size, 0, none⟩)), eqS (.int .i64 1), eqS (.func (.func 64) #[] #[]), eqS (.pointer (some ⟨gk, 0, none⟩)), eqS (.agg (nodeC 1 st A n c mi ma)), eqS (.int .i64 (a : Int))] [7, 8, 9, 10, 11, 12] rfl (by kernel_rfl) rfl ?_ ?_
  ·skip
   refine Steps.cons (fun a' w' hG hB dep => zqn (zqa rfl) _ _ _ rfl w.heap.size 0 0 (hG.other 4 rfl) (fun wz => field_node_0 w.heap.size 0 wz) rfl) ?_
   refine Steps.cons (fun a' w' hG hB dep => zqj (zqa rfl) _ _ rfl w.heap.size 0 (dep 0 rfl 7 rfl) (.int .i64 1) ((zqb h1 hB).cellv (i := 0) rfl) _ Tryz.underlying3 rfl rfl) ?_
   refine Steps.cons (fun a' w' hG hB dep => zze (zqa rfl) _ _ _ rfl enter_lays _ (map1 (dep 1 rfl 8 rfl)) ((lays_empty w').mono fun e w' ⟨he, hb⟩ => ⟨_, he, hb, rfl⟩)) ?_
   refine Steps.cons (fun a' w' hG hB dep => zqi (zqa rfl) _ rfl (hG.other 0 rfl)) ?_
   refine Steps.cons (fun a' w' hG hB dep => zyi (zqa rfl) _ rfl w.heap.size (hG.other 4 rfl) _ st A n c mi ma (zqb h1 hB) rfl) ?_
   refine Steps.cons (fun a' w' hG hB dep => zqi (zqa rfl) _ rfl (hG.other 2 rfl)) ?_
   exact Steps.nil
  intro u w2 hB2 ans
  have v9 : u 9 = .func (.func 64) #[] #[] := ans 2 9 (by decide) rfl
  have v10 : u 10 = .pointer (some ⟨gk, 0, none⟩) := ans 3 10 (by decide) rfl
  have v11 : u 11 = .agg (nodeC 1 st A n c mi ma) := ans 4 11 (by decide) rfl
  have v12 : u 12 = .int .i64 (a : Int) := ans 5 12 (by decide) rfl
  clear ans
  simp only [zqr, List.foldl_cons, List.foldl_nil, Act.put, List.setIfInBounds_toArray, List.set_cons_zero, List.set_cons_succ, v9, v10, v11, v12]
  clear v9 v10 v11 v12
  simp only [List.drop]
  replace h := h.then_ hB2
  have hin2 := (hin.then_ hB1 (by omega)).then_ hB2 (by omega)
  refine wl_callv rfl 64 _ _ _ rfl rfl enter_l_empty #[.pointer (some ⟨gk, 0, none⟩), .agg (nodeC 1 st A n c mi ma), .int .i64 (a : Int)] (map3 rfl rfl rfl) ?_
  refine (empty_any gk lo m a _ st A n c mi ma w2 h).mono ?_
  rintro e w3 ⟨rfl, h3, hF3⟩
  refine ⟨_, rfl, ?_⟩
  have hFe := hF1.trans ((Fr.below hB2).trans hF3)
  simp only [Act.put, List.setIfInBounds_toArray, List.set_cons_zero, List.set_cons_succ]
  clear hms hme hB2 hF3 h h1 hB1 hin hin2
  go_wp2_with (fail)
  go_ret
  exact ⟨by rw [HL.out]; rfl, by rw [HL.out]; exact h3, hFe⟩
 ·skip
  have hL : (Nd.mk 2 st l mi ma).lay m a = m.over 2 a st := by simp [Nd.lay]
  have hU : (Nd.mk 2 st l mi ma).U = 1 := by simp [Nd.U]
  have hms := Hms.out
  have hme := Hme.out
  rw [hU] at hms hme
  have HL := Lib.hid hL
  clear hL hU
  refine zql 6 [eqS (.pointer (some ⟨w.heap.size, 0, none⟩)), eqS (.int .i64 2), eqS (.func (.func 65) #[] #[]), eqS (.pointer (some ⟨gk, 0, none⟩)), eqS (.agg (nodeC 2 st A n c mi ma)), eqS (.int .i64 (a : Int))] [7, 8, 9, 10, 11, 12] rfl (by kernel_rfl) rfl ?_ ?_
  ·skip
   refine Steps.cons (fun a' w' hG hB dep => zqn (zqa rfl) _ _ _ rfl w.heap.size 0 0 (hG.other 4 rfl) (fun wz => field_node_0 w.heap.size 0 wz) rfl) ?_
   refine Steps.cons (fun a' w' hG hB dep => zqj (zqa rfl) _ _ rfl w.heap.size 0 (dep 0 rfl 7 rfl) (.int .i64 2) ((zqb h1 hB).cellv (i := 0) rfl) _ Tryz.underlying3 rfl rfl) ?_
   refine Steps.cons (fun a' w' hG hB dep => zze (zqa rfl) _ _ _ rfl enter_lays _ (map1 (dep 1 rfl 8 rfl)) ((lays_byte w').mono fun e w' ⟨he, hb⟩ => ⟨_, he, hb, rfl⟩)) ?_
   refine Steps.cons (fun a' w' hG hB dep => zqi (zqa rfl) _ rfl (hG.other 0 rfl)) ?_
   refine Steps.cons (fun a' w' hG hB dep => zyi (zqa rfl) _ rfl w.heap.size (hG.other 4 rfl) _ st A n c mi ma (zqb h1 hB) rfl) ?_
   refine Steps.cons (fun a' w' hG hB dep => zqi (zqa rfl) _ rfl (hG.other 2 rfl)) ?_
   exact Steps.nil
  intro u w2 hB2 ans
  have v9 : u 9 = .func (.func 65) #[] #[] := ans 2 9 (by decide) rfl
  have v10 : u 10 = .pointer (some ⟨gk, 0, none⟩) := ans 3 10 (by decide) rfl
  have v11 : u 11 = .agg (nodeC 2 st A n c mi ma) := ans 4 11 (by decide) rfl
  have v12 : u 12 = .int .i64 (a : Int) := ans 5 12 (by decide) rfl
  clear ans
  simp only [zqr, List.foldl_cons, List.foldl_nil, Act.put, List.setIfInBounds_toArray, List.set_cons_zero, List.set_cons_succ, v9, v10, v11, v12]
  clear v9 v10 v11 v12
  simp only [List.drop]
  replace h := h.then_ hB2
  have hin2 := (hin.then_ hB1 (by omega)).then_ hB2 (by omega)
  refine wl_callv rfl 65 _ _ _ rfl rfl enter_l_byte #[.pointer (some ⟨gk, 0, none⟩), .agg (nodeC 2 st A n c mi ma), .int .i64 (a : Int)] (map3 rfl rfl rfl) ?_
  refine (byte_any gk lo m a _ st A n c mi ma w2 h (by omega) (by omega)).mono ?_
  rintro e w3 ⟨rfl, h3, hF3⟩
  refine ⟨_, rfl, ?_⟩
  have hFe := hF1.trans ((Fr.below hB2).trans hF3)
  simp only [Act.put, List.setIfInBounds_toArray, List.set_cons_zero, List.set_cons_succ]
  clear hms hme hB2 hF3 h h1 hB1 hin hin2
  go_wp2_with (fail)
  go_ret
  exact ⟨by rw [HL.out]; rfl, by rw [HL.out]; exact h3, hFe⟩
 ·skip
  have hL : (Nd.mk 3 st l mi ma).lay m a = Nd.row l (m, a) := by simp [Nd.lay]
  have hU : (Nd.mk 3 st l mi ma).U = Nd.Us l := by simp [Nd.U]
  have hms := Hms.out
  have hme := Hme.out
  rw [hU] at hms hme
  have HL := Lib.hid hL
  clear hL hU
  refine zql 6 [eqS (.pointer (some ⟨w.heap.size, 0, none⟩)), eqS (.int .i64 3), eqS (.func (.func 66) #[] #[]), eqS (.pointer (some ⟨gk, 0, none⟩)), eqS (.agg (nodeC 3 st A n c mi ma)), eqS (.int .i64 (a : Int))] [7, 8, 9, 10, 11, 12] rfl (by kernel_rfl) rfl ?_ ?_
  ·skip
   refine Steps.cons (fun a' w' hG hB dep => zqn (zqa rfl) _ _ _ rfl w.heap.size 0 0 (hG.other 4 rfl) (fun wz => field_node_0 w.heap.size 0 wz) rfl) ?_
   refine Steps.cons (fun a' w' hG hB dep => zqj (zqa rfl) _ _ rfl w.heap.size 0 (dep 0 rfl 7 rfl) (.int .i64 3) ((zqb h1 hB).cellv (i := 0) rfl) _ Tryz.underlying3 rfl rfl) ?_
   refine Steps.cons (fun a' w' hG hB dep => zze (zqa rfl) _ _ _ rfl enter_lays _ (map1 (dep 1 rfl 8 rfl)) ((lays_row w').mono fun e w' ⟨he, hb⟩ => ⟨_, he, hb, rfl⟩)) ?_
   refine Steps.cons (fun a' w' hG hB dep => zqi (zqa rfl) _ rfl (hG.other 0 rfl)) ?_
   refine Steps.cons (fun a' w' hG hB dep => zyi (zqa rfl) _ rfl w.heap.size (hG.other 4 rfl) _ st A n c mi ma (zqb h1 hB) rfl) ?_
   refine Steps.cons (fun a' w' hG hB dep => zqi (zqa rfl) _ rfl (hG.other 2 rfl)) ?_
   exact Steps.nil
  intro u w2 hB2 ans
  have v9 : u 9 = .func (.func 66) #[] #[] := ans 2 9 (by decide) rfl
  have v10 : u 10 = .pointer (some ⟨gk, 0, none⟩) := ans 3 10 (by decide) rfl
  have v11 : u 11 = .agg (nodeC 3 st A n c mi ma) := ans 4 11 (by decide) rfl
  have v12 : u 12 = .int .i64 (a : Int) := ans 5 12 (by decide) rfl
  clear ans
  simp only [zqr, List.foldl_cons, List.foldl_nil, Act.put, List.setIfInBounds_toArray, List.set_cons_zero, List.set_cons_succ, v9, v10, v11, v12]
  clear v9 v10 v11 v12
  simp only [List.drop]
  replace h := h.then_ hB2
  have hin2 := (hin.then_ hB1 (by omega)).then_ hB2 (by omega)
  refine wl_callv rfl 66 _ _ _ rfl rfl enter_l_row #[.pointer (some ⟨gk, 0, none⟩), .agg (nodeC 3 st A n c mi ma), .int .i64 (a : Int)] (map3 rfl rfl rfl) ?_
  refine (row_any _ st l mi ma Ih.out Hl.out gk lo B m a w2 _ hin2 hBl h hms hme).mono ?_
  rintro e w3 ⟨rfl, h3, hF3⟩
  refine ⟨_, rfl, ?_⟩
  have hFe := hF1.trans ((Fr.below hB2).trans hF3)
  simp only [Act.put, List.setIfInBounds_toArray, List.set_cons_zero, List.set_cons_succ]
  clear hms hme hB2 hF3 h h1 hB1 hin hin2
  go_wp2_with (fail)
  go_ret
  exact ⟨by rw [HL.out]; rfl, by rw [HL.out]; exact h3, hFe⟩
 ·skip
  have hL : (Nd.mk 4 st l mi ma).lay m a = (Nd.alt l a (m, [])).1.joined (Nd.alt l a (m, [])).2 := by simp [Nd.lay]
  have hU : (Nd.mk 4 st l mi ma).U = l.length + 1 + Nd.Us l := by simp [Nd.U]
  have hms := Hms.out
  have hme := Hme.out
  rw [hU] at hms hme
  have HL := Lib.hid hL
  clear hL hU
  refine zql 6 [eqS (.pointer (some ⟨w.heap.size, 0, none⟩)), eqS (.int .i64 4), eqS (.func (.func 67) #[] #[]), eqS (.pointer (some ⟨gk, 0, none⟩)), eqS (.agg (nodeC 4 st A n c mi ma)), eqS (.int .i64 (a : Int))] [7, 8, 9, 10, 11, 12] rfl (by kernel_rfl) rfl ?_ ?_
  ·skip
   refine Steps.cons (fun a' w' hG hB dep => zqn (zqa rfl) _ _ _ rfl w.heap.size 0 0 (hG.other 4 rfl) (fun wz => field_node_0 w.heap.size 0 wz) rfl) ?_
   refine Steps.cons (fun a' w' hG hB dep => zqj (zqa rfl) _ _ rfl w.heap.size 0 (dep 0 rfl 7 rfl) (.int .i64 4) ((zqb h1 hB).cellv (i := 0) rfl) _ Tryz.underlying3 rfl rfl) ?_
   refine Steps.cons (fun a' w' hG hB dep => zze (zqa rfl) _ _ _ rfl enter_lays _ (map1 (dep 1 rfl 8 rfl)) ((lays_choice w').mono fun e w' ⟨he, hb⟩ => ⟨_, he, hb, rfl⟩)) ?_
   refine Steps.cons (fun a' w' hG hB dep => zqi (zqa rfl) _ rfl (hG.other 0 rfl)) ?_
   refine Steps.cons (fun a' w' hG hB dep => zyi (zqa rfl) _ rfl w.heap.size (hG.other 4 rfl) _ st A n c mi ma (zqb h1 hB) rfl) ?_
   refine Steps.cons (fun a' w' hG hB dep => zqi (zqa rfl) _ rfl (hG.other 2 rfl)) ?_
   exact Steps.nil
  intro u w2 hB2 ans
  have v9 : u 9 = .func (.func 67) #[] #[] := ans 2 9 (by decide) rfl
  have v10 : u 10 = .pointer (some ⟨gk, 0, none⟩) := ans 3 10 (by decide) rfl
  have v11 : u 11 = .agg (nodeC 4 st A n c mi ma) := ans 4 11 (by decide) rfl
  have v12 : u 12 = .int .i64 (a : Int) := ans 5 12 (by decide) rfl
  clear ans
  simp only [zqr, List.foldl_cons, List.foldl_nil, Act.put, List.setIfInBounds_toArray, List.set_cons_zero, List.set_cons_succ, v9, v10, v11, v12]
  clear v9 v10 v11 v12
  simp only [List.drop]
  replace h := h.then_ hB2
  have hin2 := (hin.then_ hB1 (by omega)).then_ hB2 (by omega)
  refine wl_callv rfl 67 _ _ _ rfl rfl enter_l_choice #[.pointer (some ⟨gk, 0, none⟩), .agg (nodeC 4 st A n c mi ma), .int .i64 (a : Int)] (map3 rfl rfl rfl) ?_
  refine (choice_any _ st l mi ma Ih.out Hl.out gk lo B m a w2 _ hin2 hBl h hms hme).mono ?_
  rintro e w3 ⟨rfl, h3, hF3⟩
  refine ⟨_, rfl, ?_⟩
  have hFe := hF1.trans ((Fr.below hB2).trans hF3)
  simp only [Act.put, List.setIfInBounds_toArray, List.set_cons_zero, List.set_cons_succ]
  clear hms hme hB2 hF3 h h1 hB1 hin hin2
  go_wp2_with (fail)
  go_ret
  exact ⟨by rw [HL.out]; rfl, by rw [HL.out]; exact h3, hFe⟩
 ·skip
  obtain ⟨_, hn1, hmi0, hmi1, hma⟩ := headOk_times Hh.out
  obtain ⟨x, rfl⟩ := List.length_eq_one_iff.1 hn1
  have hxT := Hl.out x (by simp)
  have hxI := Ih.out x (by simp)
  have hL : (Nd.mk 5 st [x] mi ma).lay m a = zzy x.lay x.U mi ma m a := by simp [Nd.lay, Nd.tim]
  have hU : (Nd.mk 5 st [x] mi ma).U = tU x.U mi ma := by simp [Nd.U, Nd.Us]
  have hms := Hms.out
  have hme := Hme.out
  rw [hU] at hms hme
  have HL := Lib.hid hL
  clear hL hU
  refine zql 6 [eqS (.pointer (some ⟨w.heap.size, 0, none⟩)), eqS (.int .i64 5), eqS (.func (.func 68) #[] #[]), eqS (.pointer (some ⟨gk, 0, none⟩)), eqS (.agg (nodeC 5 st A n c mi ma)), eqS (.int .i64 (a : Int))] [7, 8, 9, 10, 11, 12] rfl (by kernel_rfl) rfl ?_ ?_
  ·skip
   refine Steps.cons (fun a' w' hG hB dep => zqn (zqa rfl) _ _ _ rfl w.heap.size 0 0 (hG.other 4 rfl) (fun wz => field_node_0 w.heap.size 0 wz) rfl) ?_
   refine Steps.cons (fun a' w' hG hB dep => zqj (zqa rfl) _ _ rfl w.heap.size 0 (dep 0 rfl 7 rfl) (.int .i64 5) ((zqb h1 hB).cellv (i := 0) rfl) _ Tryz.underlying3 rfl rfl) ?_
   refine Steps.cons (fun a' w' hG hB dep => zze (zqa rfl) _ _ _ rfl enter_lays _ (map1 (dep 1 rfl 8 rfl)) ((lays_times w').mono fun e w' ⟨he, hb⟩ => ⟨_, he, hb, rfl⟩)) ?_
   refine Steps.cons (fun a' w' hG hB dep => zqi (zqa rfl) _ rfl (hG.other 0 rfl)) ?_
   refine Steps.cons (fun a' w' hG hB dep => zyi (zqa rfl) _ rfl w.heap.size (hG.other 4 rfl) _ st A n c mi ma (zqb h1 hB) rfl) ?_
   refine Steps.cons (fun a' w' hG hB dep => zqi (zqa rfl) _ rfl (hG.other 2 rfl)) ?_
   exact Steps.nil
  intro u w2 hB2 ans
  have v9 : u 9 = .func (.func 68) #[] #[] := ans 2 9 (by decide) rfl
  have v10 : u 10 = .pointer (some ⟨gk, 0, none⟩) := ans 3 10 (by decide) rfl
  have v11 : u 11 = .agg (nodeC 5 st A n c mi ma) := ans 4 11 (by decide) rfl
  have v12 : u 12 = .int .i64 (a : Int) := ans 5 12 (by decide) rfl
  clear ans
  simp only [zqr, List.foldl_cons, List.foldl_nil, Act.put, List.setIfInBounds_toArray, List.set_cons_zero, List.set_cons_succ, v9, v10, v11, v12]
  clear v9 v10 v11 v12
  simp only [List.drop]
  replace h := h.then_ hB2
  have hin2 := (hin.then_ hB1 (by omega)).then_ hB2 (by omega)
  refine wl_callv rfl 68 _ _ _ rfl rfl enter_l_times #[.pointer (some ⟨gk, 0, none⟩), .agg (nodeC 5 st A n c mi ma), .int .i64 (a : Int)] (map3 rfl rfl rfl) ?_
  refine (times_any _ st x mi ma hxT hxI hmi0 hmi1 hma gk lo B m a w2 _ hin2 hBl h hms hme).mono ?_
  rintro e w3 ⟨rfl, h3, hF3⟩
  refine ⟨_, rfl, ?_⟩
  have hFe := hF1.trans ((Fr.below hB2).trans hF3)
  simp only [Act.put, List.setIfInBounds_toArray, List.set_cons_zero, List.set_cons_succ]
  clear hms hme hB2 hF3 h h1 hB1 hin hin2
  go_wp2_with (fail)
  go_ret
  exact ⟨by rw [HL.out]; rfl, by rw [HL.out]; exact h3, hFe⟩
 ·skip
  have hL : (Nd.mk 6 st l mi ma).lay m a = m.over 3 a 0 := by simp [Nd.lay]
  have hU : (Nd.mk 6 st l mi ma).U = 1 := by simp [Nd.U]
  have hms := Hms.out
  have hme := Hme.out
  rw [hU] at hms hme
  have HL := Lib.hid hL
  clear hL hU
  refine zql 6 [eqS (.pointer (some ⟨w.heap.size, 0, none⟩)), eqS (.int .i64 6), eqS (.func (.func 69) #[] #[]), eqS (.pointer (some ⟨gk, 0, none⟩)), eqS (.agg (nodeC 6 st A n c mi ma)), eqS (.int .i64 (a : Int))] [7, 8, 9, 10, 11, 12] rfl (by kernel_rfl) rfl ?_ ?_
  ·skip
   refine Steps.cons (fun a' w' hG hB dep => zqn (zqa rfl) _ _ _ rfl w.heap.size 0 0 (hG.other 4 rfl) (fun wz => field_node_0 w.heap.size 0 wz) rfl) ?_
   refine Steps.cons (fun a' w' hG hB dep => zqj (zqa rfl) _ _ rfl w.heap.size 0 (dep 0 rfl 7 rfl) (.int .i64 6) ((zqb h1 hB).cellv (i := 0) rfl) _ Tryz.underlying3 rfl rfl) ?_
   refine Steps.cons (fun a' w' hG hB dep => zze (zqa rfl) _ _ _ rfl enter_lays _ (map1 (dep 1 rfl 8 rfl)) ((lays_begin w').mono fun e w' ⟨he, hb⟩ => ⟨_, he, hb, rfl⟩)) ?_
   refine Steps.cons (fun a' w' hG hB dep => zqi (zqa rfl) _ rfl (hG.other 0 rfl)) ?_
   refine Steps.cons (fun a' w' hG hB dep => zyi (zqa rfl) _ rfl w.heap.size (hG.other 4 rfl) _ st A n c mi ma (zqb h1 hB) rfl) ?_
   refine Steps.cons (fun a' w' hG hB dep => zqi (zqa rfl) _ rfl (hG.other 2 rfl)) ?_
   exact Steps.nil
  intro u w2 hB2 ans
  have v9 : u 9 = .func (.func 69) #[] #[] := ans 2 9 (by decide) rfl
  have v10 : u 10 = .pointer (some ⟨gk, 0, none⟩) := ans 3 10 (by decide) rfl
  have v11 : u 11 = .agg (nodeC 6 st A n c mi ma) := ans 4 11 (by decide) rfl
  have v12 : u 12 = .int .i64 (a : Int) := ans 5 12 (by decide) rfl
  clear ans
  simp only [zqr, List.foldl_cons, List.foldl_nil, Act.put, List.setIfInBounds_toArray, List.set_cons_zero, List.set_cons_succ, v9, v10, v11, v12]
  clear v9 v10 v11 v12
  simp only [List.drop]
  replace h := h.then_ hB2
  have hin2 := (hin.then_ hB1 (by omega)).then_ hB2 (by omega)
  refine wl_callv rfl 69 _ _ _ rfl rfl enter_l_begin #[.pointer (some ⟨gk, 0, none⟩), .agg (nodeC 6 st A n c mi ma), .int .i64 (a : Int)] (map3 rfl rfl rfl) ?_
  refine (begin_any gk lo m a _ st A n c mi ma w2 h (by omega) (by omega)).mono ?_
  rintro e w3 ⟨rfl, h3, hF3⟩
  refine ⟨_, rfl, ?_⟩
  have hFe := hF1.trans ((Fr.below hB2).trans hF3)
  simp only [Act.put, List.setIfInBounds_toArray, List.set_cons_zero, List.set_cons_succ]
  clear hms hme hB2 hF3 h h1 hB1 hin hin2
  go_wp2_with (fail)
  go_ret
  exact ⟨by rw [HL.out]; rfl, by rw [HL.out]; exact h3, hFe⟩
 ·skip
  have hL : (Nd.mk 7 st l mi ma).lay m a = m.over 4 a 0 := by simp [Nd.lay]
  have hU : (Nd.mk 7 st l mi ma).U = 1 := by simp [Nd.U]
  have hms := Hms.out
  have hme := Hme.out
  rw [hU] at hms hme
  have HL := Lib.hid hL
  clear hL hU
  refine zql 6 [eqS (.pointer (some ⟨w.heap.size, 0, none⟩)), eqS (.int .i64 7), eqS (.func (.func 70) #[] #[]), eqS (.pointer (some ⟨gk, 0, none⟩)), eqS (.agg (nodeC 7 st A n c mi ma)), eqS (.int .i64 (a : Int))] [7, 8, 9, 10, 11, 12] rfl (by kernel_rfl) rfl ?_ ?_
  ·skip
   refine Steps.cons (fun a' w' hG hB dep => zqn (zqa rfl) _ _ _ rfl w.heap.size 0 0 (hG.other 4 rfl) (fun wz => field_node_0 w.heap.size 0 wz) rfl) ?_
   refine Steps.cons (fun a' w' hG hB dep => zqj (zqa rfl) _ _ rfl w.heap.size 0 (dep 0 rfl 7 rfl) (.int .i64 7) ((zqb h1 hB).cellv (i := 0) rfl) _ Tryz.underlying3 rfl rfl) ?_
   refine Steps.cons (fun a' w' hG hB dep => zze (zqa rfl) _ _ _ rfl enter_lays _ (map1 (dep 1 rfl 8 rfl)) ((lays_end w').mono fun e w' ⟨he, hb⟩ => ⟨_, he, hb, rfl⟩)) ?_
   refine Steps.cons (fun a' w' hG hB dep => zqi (zqa rfl) _ rfl (hG.other 0 rfl)) ?_
   refine Steps.cons (fun a' w' hG hB dep => zyi (zqa rfl) _ rfl w.heap.size (hG.other 4 rfl) _ st A n c mi ma (zqb h1 hB) rfl) ?_
   refine Steps.cons (fun a' w' hG hB dep => zqi (zqa rfl) _ rfl (hG.other 2 rfl)) ?_
   exact Steps.nil
  intro u w2 hB2 ans
  have v9 : u 9 = .func (.func 70) #[] #[] := ans 2 9 (by decide) rfl
  have v10 : u 10 = .pointer (some ⟨gk, 0, none⟩) := ans 3 10 (by decide) rfl
  have v11 : u 11 = .agg (nodeC 7 st A n c mi ma) := ans 4 11 (by decide) rfl
  have v12 : u 12 = .int .i64 (a : Int) := ans 5 12 (by decide) rfl
  clear ans
  simp only [zqr, List.foldl_cons, List.foldl_nil, Act.put, List.setIfInBounds_toArray, List.set_cons_zero, List.set_cons_succ, v9, v10, v11, v12]
  clear v9 v10 v11 v12
  simp only [List.drop]
  replace h := h.then_ hB2
  have hin2 := (hin.then_ hB1 (by omega)).then_ hB2 (by omega)
  refine wl_callv rfl 70 _ _ _ rfl rfl enter_l_end #[.pointer (some ⟨gk, 0, none⟩), .agg (nodeC 7 st A n c mi ma), .int .i64 (a : Int)] (map3 rfl rfl rfl) ?_
  refine (end_any gk lo m a _ st A n c mi ma w2 h (by omega) (by omega)).mono ?_
  rintro e w3 ⟨rfl, h3, hF3⟩
  refine ⟨_, rfl, ?_⟩
  have hFe := hF1.trans ((Fr.below hB2).trans hF3)
  simp only [Act.put, List.setIfInBounds_toArray, List.set_cons_zero, List.set_cons_succ]
  clear hms hme hB2 hF3 h h1 hB1 hin hin2
  go_wp2_with (fail)
  go_ret
  exact ⟨by rw [HL.out]; rfl, by rw [HL.out]; exact h3, hFe⟩
def encR (v : Nat) : Array Value := #[.int .u32 (v : Int)]
theorem zya (v : Nat) : (encR v).size = 1 := rfl
theorem encR_one (v : Nat) : (encR v).all (·.oneCell') = true := by simp [encR, Value.oneCell']
theorem info_u32 : (Tryz.prog.info? 42).map (·.size) = some 1 := by kernel_rfl
theorem info_r3 : (Tryz.prog.info? 42).map (fun i => (i.zero, i.size, i.bytes)) = some (some (.int .u32 0), 1, 4) := by kernel_rfl
theorem info_rules1 : (Tryz.prog.info? 24).map (·.size) = some 1 := by kernel_rfl
theorem wl_store_rule {base : Nat} {w : World} {ys : List Nat} {ops : Array Oper} {rest : List Oper} {o : Oper} {a : Act} {Q : Exit → Act → World → Prop} (hgd : o.guard = none) (x y : Operand) (ho : o.op = .store 42 x y)
  (g k n cap : Nat) (hx : a.eval x = .pointer (some ⟨g, k, none⟩)) (z : Nat) (hy : a.eval y = .int .u32 (z : Int)) (hown : Own w base 42 1 encR (.slice (some ⟨g, 0, none⟩) n cap) ys) (hk : k < ys.length)
  (h : ∀ w', Own w' base 42 1 encR (.slice (some ⟨g, 0, none⟩) n cap) (ys.set k z) → w.grownBy w' (some g) → wpList Tryz.prog ops Q rest (a.put o.dst undef) w') : wpList Tryz.prog ops Q (o :: rest) a w := by
 have hcell : w.cell? ⟨g, k, none⟩ = some (.int .u32 (ys[k] : Nat)) := by
  have := hown.row zya k hk 0 _ rfl
  rw [Nat.mul_one] at this
  exact this
 have hfr := hown.frozen k
 have hrun : (storeVar 42 ⟨g, k, none⟩ (.int .u32 (z : Int))).run Tryz.prog w = .ok () (w.setCell ⟨g, k, none⟩ (.int .u32 (z : Int))) := by
  have hsz := info_u32
  cases hq : Tryz.prog.info? 42 with
  | none => rw [hq] at hsz; cases hsz
  | some j =>
   have hs : j.size = 1 := by rw [hq] at hsz; simpa using hsz
   have e := run_store Tryz.prog w ⟨g, k, none⟩ (.int .u32 (z : Int)) .plain rfl
   simp only [hcell, hfr, Bool.false_eq_true, if_false] at e
   have e0 : (⟨g, k, none⟩ : Addr).add 0 = ⟨g, k, none⟩ := rfl
   simp [storeVar, sizeOf, typeInfo, hq, hs, Value.cells, storeCells, e0, e]
 refine wpList_plain hgd fun _ hK => ?_
 unfold Oper.wp execOp
 simp only [ho, hx, hy, Instr.storeAt, Instr.sureAddr, Sem.run_bind, Sem.run_pure, Result.andThen_ok, hrun]
 have o1 := hown.setCell (i := k) (q := 0) (y' := z) (u := .int .u32 (z : Int)) zya hk (by decide) rfl
 rw [Nat.mul_one, Nat.add_zero] at o1
 exact hK _ _ (h _ o1 (zzi (zzk _ _) (.inl rfl) _))
theorem wl_makeR {ops : Array Oper} {rest : List Oper} {o : Oper} {a : Act} {w : World} {Q : Exit → Act → World → Prop} (hgd : o.guard = none) (x y : Operand) (ho : o.op = .makeSlice 24 x y) (N base : Nat) (hx : a.eval x = .int .i64 N) (hy : a.eval y = .int .i64 N) (hN : N ≤ 1099511627776) (hb : base ≤ w.heap.size)
  (h : ∀ w', Own w' base 42 1 encR (.slice (some ⟨w.heap.size, 0, none⟩) N N) (List.replicate N 0) → Below w.heap.size w w' → wpList Tryz.prog ops Q rest (a.put o.dst (.slice (some ⟨w.heap.size, 0, none⟩) N N)) w') : wpList Tryz.prog ops Q (o :: rest) a w := by
 obtain ⟨i0, hi0, hz0, hz1, hz2⟩ := info_parts info_r3
 refine wpList_make_full w hgd x y _ ho base 42 i0 _ 1 Tryz.underlying24 hi0 hz0 hz1 _ _ _ _ N hx hy rfl rfl (by rw [hz2]; omega) (by unfold maxLen; omega) hb fun w' r1 r2 => ?_
 have e1 : (madeCells (Value.int .u32 0).cells (N * 1)).toList = flat encR (List.replicate N 0) := by
  apply List.ext_getElem
  ·rw [Array.length_toList, size_madeCells]
   simp [flat, encR]
  ·intro j h1 h2
   simp [madeCells, Value.cells, flat, encR, List.flatMap_replicate]
   rw [Nat.mod_one]
   rfl
 rw [e1] at r1
 refine h w' ?_ ⟨r2.os, r2.tape, r2.output, r2.size, fun k hk => r2.block k hk (by simp)⟩
 unfold Own
 rw [List.length_replicate]
 exact r1
theorem shl_u32 (w : World) (r : Nat) (h : r < 32) : (binOp .shl 42 (.int .u32 1) (.int .i64 (r : Int))).run Tryz.prog w = .ok (.int .u32 ((2 ^ r : Nat) : Int)) w :=
 match r, h with
 | 0, _ => by kernel_rfl
 | 1, _ => by kernel_rfl
 | 2, _ => by kernel_rfl
 | 3, _ => by kernel_rfl
 | 4, _ => by kernel_rfl
 | 5, _ => by kernel_rfl
 | 6, _ => by kernel_rfl
 | 7, _ => by kernel_rfl
 | 8, _ => by kernel_rfl
 | 9, _ => by kernel_rfl
 | 10, _ => by kernel_rfl
 | 11, _ => by kernel_rfl
 | 12, _ => by kernel_rfl
 | 13, _ => by kernel_rfl
 | 14, _ => by kernel_rfl
 | 15, _ => by kernel_rfl
 | 16, _ => by kernel_rfl
 | 17, _ => by kernel_rfl
 | 18, _ => by kernel_rfl
 | 19, _ => by kernel_rfl
 | 20, _ => by kernel_rfl
 | 21, _ => by kernel_rfl
 | 22, _ => by kernel_rfl
 | 23, _ => by kernel_rfl
 | 24, _ => by kernel_rfl
 | 25, _ => by kernel_rfl
 | 26, _ => by kernel_rfl
 | 27, _ => by kernel_rfl
 | 28, _ => by kernel_rfl
 | 29, _ => by kernel_rfl
 | 30, _ => by kernel_rfl
 | 31, _ => by kernel_rfl
 | n + 32, h => absurd h (by omega)
theorem gs_shl_u32 {ops : Array Oper} {S : Nat → GSpec} {Q : Exit → Act → World → Prop} {i : Nat} {o : Oper} {a : Act} {w : World} (hw : Region.wanted o (yielded ops a.tmps) = true) (t2 : TypeId) (x y : Operand) (ho : o.op = .binOp .shl 42 x y t2) (r : Nat) (hr : r < 32) (hx : a.eval x = .int .u32 1) (hy : a.eval y = .int .i64 (r : Int))
  (hp : (S i).p (.int .u32 ((2 ^ r : Nat) : Int)) w) : GStep Tryz.prog ops S Q i o a w :=
 gs_bin hw _ _ _ x y ho _ _ _ hx hy (by rw [eqGuard_at_int]; rfl) (shl_u32 w r hr) hp
structure NF where
 s : Int
 E : List Edg
 R : List Nat
def NF.none : NF := ⟨0, [], []⟩
def layF (nd : Nd) : Ly × Nat := nd.lay ⟨1, []⟩ 0
def buildF (nd : Nd) (rule : Int) : NF × Int :=
 if nd.isT = false then (.none, 50) else if 2048 ≤ nd.U then (.none, 48) else if rule < 0 ∨ 32 ≤ rule then (.none, 1)
 else (⟨(layF nd).1.s, (layF nd).1.e, (List.replicate (layF nd).1.s 0).set (layF nd).2 (2 ^ rule.toNat)⟩, 0)
theorem layF_good {nd : Nd} (hT : nd.isT = true) : (layF nd).1.s = 1 + nd.U ∧ (layF nd).1.e.length ≤ 3 * nd.U ∧ (layF nd).2 < (layF nd).1.s := by
 have h := lay_good nd hT
 have h1 := h.st ⟨1, []⟩ 0
 have h2 := h.ed ⟨1, []⟩ 0
 have h3 := h.at_ ⟨1, []⟩ 0 (by simp)
 simp only [List.length_nil] at h2
 exact ⟨h1, by unfold layF; omega, h3⟩
theorem info_nfaN : (Tryz.prog.info? 26).map (·.size) = some 3 := by kernel_rfl
theorem build_nfa0 (w : World) : (Instr.build 26 #[]).run Tryz.prog w = .ok (.agg (nfaC 0 none 0 0 none 0 0)) w := by kernel_rfl
theorem build_mkP (w : World) : (Instr.build 116 #[]).run Tryz.prog w = .ok (.agg (mkP 0 (.slice none 0 0))) w := by kernel_rfl
theorem box_mkP (w : World) : (Instr.box 116 (.agg (mkP 0 (.slice none 0 0)))).run Tryz.prog w = .ok (.pointer (some ⟨w.heap.size, 0, none⟩)) (w.alloc (.cells (mkP 0 (.slice none 0 0)) 116)) := by kernel_rfl
section
variable {ops : Array Oper} {rest : List Oper} {o : Oper} {a : Act} {w : World} {Q : Exit → Act → World → Prop}
theorem wl_build_nfa0 (hgd : o.guard = none) (ho : o.op = .build 26 #[]) (h : wpList Tryz.prog ops Q rest (a.put o.dst (.agg (nfaC 0 none 0 0 none 0 0))) w) : wpList Tryz.prog ops Q (o :: rest) a w :=
 wl_run hgd (v := .agg (nfaC 0 none 0 0 none 0 0)) (by unfold execOp; simp only [ho, List.map_toArray, List.map_nil, Sem.run_bind, build_nfa0, Result.andThen_ok, Sem.run_pure]) h
theorem wl_build_mkP (hgd : o.guard = none) (ho : o.op = .build 116 #[]) (h : wpList Tryz.prog ops Q rest (a.put o.dst (.agg (mkP 0 (.slice none 0 0)))) w) : wpList Tryz.prog ops Q (o :: rest) a w :=
 wl_run hgd (v := .agg (mkP 0 (.slice none 0 0))) (by unfold execOp; simp only [ho, List.map_toArray, List.map_nil, Sem.run_bind, build_mkP, Result.andThen_ok, Sem.run_pure]) h
theorem wl_box_mkP (hgd : o.guard = none) (x : Operand) (ho : o.op = .box 116 x) (hx : a.eval x = .agg (mkP 0 (.slice none 0 0))) (h : wpList Tryz.prog ops Q rest (a.put o.dst (.pointer (some ⟨w.heap.size, 0, none⟩))) (w.alloc (.cells (mkP 0 (.slice none 0 0)) 116))) : wpList Tryz.prog ops Q (o :: rest) a w :=
 wl_run hgd (v := .pointer (some ⟨w.heap.size, 0, none⟩)) (by unfold execOp; simp only [ho, hx, Sem.run_bind, box_mkP, Result.andThen_ok, Sem.run_pure]) h
theorem wl_load_nfa_at (hgd : o.guard = none) (x : Operand) (ho : o.op = .load 26 x)
  (b off : Nat) (hx : a.eval x = .pointer (some ⟨b, off, none⟩)) (s : Int) (A : Option Addr) (n c : Nat) (B : Option Addr) (m d : Nat) (hr : RowAt w b off (nfaC s A n c B m d))
  (h : wpList Tryz.prog ops Q rest (a.put o.dst (.agg (nfaC s A n c B m d))) w) : wpList Tryz.prog ops Q (o :: rest) a w :=
 wpList_load_at hgd _ x ho b off hx _ _ hr Tryz.underlying26 rfl (info_nfaN.trans rfl) h
theorem ret_nfa2 {fn : Func} {p u : Tmp} {g : Nat} {s : Int} {A : Option Addr} {n c : Nat} {B : Option Addr} {m d : Nat} (hres : fn.results = #[.cell p 26, .tmp u])
  (hp : a.tmps.getD p undef = .pointer (some ⟨g, 0, none⟩)) (hb : Blk w g 26 (nfaC s A n c B m d))
  (hdf : a.defers = []) {R : Ending → World → Prop} (hR : R (.returned (.tuple #[.agg (nfaC s A n c B m d), a.tmps.getD u undef])) w) : bodyPost Tryz.prog fn R .ret a w :=
 ret_cell2 hres _ hp hb Tryz.underlying26 rfl (info_nfaN.trans rfl) hdf hR
theorem ret_nfa1 {fn : Func} {p : Tmp} {g : Nat} {s : Int} {A : Option Addr} {n c : Nat} {B : Option Addr} {m d : Nat} (hres : fn.results = #[.cell p 26])
  (hp : a.tmps.getD p undef = .pointer (some ⟨g, 0, none⟩)) (hb : Blk w g 26 (nfaC s A n c B m d))
  (hdf : a.defers = []) {R : Ending → World → Prop} (hR : R (.returned (.agg (nfaC s A n c B m d))) w) : bodyPost Tryz.prog fn R .ret a w :=
 ret_cell hres _ hp hb Tryz.underlying26 rfl (info_nfaN.trans rfl) hdf hR
end
theorem GStepR.call {rw : Option Nat} {i0 : Nat} {P : Program} {ops : Array Oper} {S : Nat → GSpec} {Q : Exit → Act → World → Prop} {o : Oper} {a : Act} {w : World} (hw : Region.wanted o (yielded ops a.tmps) = true) (f : FuncId) (xs : Array Operand) (ats : Array TypeId) (ho : o.op = .call { callee := .value (.func f), args := xs, argTypes := ats })
  (hf : ∀ args w, (callFunc f args).run P w = .ok (.enter f args) w) (vs : Array Value) (hv : xs.map a.eval = vs)
  (hc : Calls P f vs w fun e w' => ∃ v, e = .returned v ∧ w.grownBy w' rw ∧ (S i0).p v w') : GStepR rw i0 P ops S Q i0 o a w := by
 unfold GStepR
 rw [if_pos hw]
 unfold Oper.wp
 have hr : (execOp a.eval o).run P w = .ok (.enter f vs) w := by
  have he : execOp a.eval o = callFunc f (#[] ++ xs.map a.eval ++ #[]) := by
   unfold execOp; rw [ho]; rfl
  rw [he, hv]
  simpa using hf vs w
 rw [hr, Oper.upon_enter]
 refine hc.mono ?_
 rintro e w' ⟨v, rfl, hb, hp⟩
 exact ⟨v, rfl, ⟨hb, fun h => (h rfl).elim⟩, hp⟩
set_option maxRecDepth 100000 in
set_option maxHeartbeats 4000000 in
theorem pstate_g (gk : Nat) (s : Nat) (v : Value) (w : World) (h1 : Blk w gk 116 (mkP (s : Int) v)) (hm : s ≤ 1048576) :
  Calls Tryz.prog 42 #[.pointer (some ⟨gk, 0, none⟩)] w fun e w' => e = .returned (.int .i64 (s : Int)) ∧ Blk w' gk 116 (mkP ((s + 1 : Nat) : Int) v) ∧ w.grownBy w' (some gk) := by
 have hg := zzi (zzk w (some gk)) (p := ⟨gk, 0, none⟩) (.inl rfl) (.int .i64 ((s : Int) + 1))
 have c0 : w.cell? ⟨gk, 0, none⟩ = some (.int .i64 (s : Int)) := h1.cellv (i := 0) rfl
 have f0 := h1.frozen 0
 go_enter Tryz.func42, Tryz.ntmps42
 go_upto_region 2 with (fail)
 have h4 : Blk (w.setCell ⟨gk, 0, none⟩ (.int .i64 ((s : Int) + 1))) gk 116 (mkP ((s + 1 : Nat) : Int) v) := h1.set_eq rfl
 obtain ⟨w2, hw2⟩ : ∃ y, y = w.setCell ⟨gk, 0, none⟩ (.int .i64 ((s : Int) + 1)) := ⟨_, rfl⟩
 rw [← hw2] at h4 hg ⊢
 clear hw2 c0 f0 h1
 have c0 : w2.cell? ⟨gk, 0, none⟩ = some (.int .i64 ((s : Int) + 1)) := h4.cellv (i := 0) rfl
 go_wp2_with (fail)
 go_ret
 exact ⟨congrArg (fun v => Ending.returned (.int .i64 v)) (by omega), h4, hg⟩
theorem enter_pstate (args : Array Value) (w : World) : (callFunc 42 args).run Tryz.prog w = .ok (.enter 42 args) w := by kernel_rfl
theorem enter_play (args : Array Value) (w : World) : (callFunc 41 args).run Tryz.prog w = .ok (.enter 41 args) w := by kernel_rfl
end Go.Proofs.YtkedgombccdamaaGreatDoor
namespace Go.Proofs.YtkedgombccdamaaGreatDoor
set_option linter.unusedVariables false
set_option linter.unusedSimpArgs false
namespace Mt
mutual
def tk (q : ByteArray) : Nd → Rel
 | .mk k st l mi ma => if k = 2 then edgeT q 2 st else if k = 6 then edgeT q 3 0 else if k = 7 then edgeT q 4 0 else if k = 3 then tkS q l else if k = 4 then tkA q l else if k = 5 then tkT q l mi ma else fun i j => i = j
def tkS (q : ByteArray) : List Nd → Rel
 | [] => fun i j => i = j
 | x :: l => rcomp (tk q x) (tkS q l)
def tkA (q : ByteArray) : List Nd → Rel
 | [] => fun _ _ => False
 | x :: l => fun i j => tk q x i j ∨ tkA q l i j
def tkT (q : ByteArray) : List Nd → Int → Int → Rel
 | [] => fun _ _ i j => i = j
 | x :: _ => fun mi ma i j => ∃ k : Nat, mi.toNat ≤ k ∧ (ma = -1 ∨ (k : Int) ≤ ma) ∧ riter (tk q x) k i j
end
section
variable {q : ByteArray} {f : LayF} {T U : Rel}
theorem riter_add (T : Rel) (a : Nat) : ∀ b i j, riter T (a + b) i j ↔ rcomp (riter T a) (riter T b) i j
 | 0, i, j => ⟨fun h => ⟨j, h, rfl⟩, fun ⟨x, h1, h2⟩ => by simp only [riter] at h2; rw [← h2]; exact h1⟩
 | b + 1, i, j => by
  constructor
  ·rintro ⟨x, h1, h2⟩
   obtain ⟨y, h3, h4⟩ := (riter_add T a b i x).1 h1
   exact ⟨y, h3, x, h4, h2⟩
  ·rintro ⟨y, h3, x, h4, h2⟩
   exact ⟨x, (riter_add T a b i x).2 ⟨y, h3, h4⟩, h2⟩
theorem riter_eq {T : Rel} (h : ∀ i j, T i j ↔ i = j) : ∀ k i j, riter T k i j ↔ i = j
 | 0, i, j => Iff.rfl
 | k + 1, i, j => by
  constructor
  ·rintro ⟨x, h1, h2⟩
   rw [(riter_eq h k i x).1 h1]
   exact (h x j).1 h2
  ·rintro rfl
   exact ⟨i, (riter_eq h k i i).2 rfl, (h i i).2 rfl⟩
theorem chain_riter (T : Rel) (a : Nat) : ∀ n, chain (riter T a) T n = riter T (a + n)
 | 0 => rfl
 | n + 1 => by
  show rcomp (chain (riter T a) T n) T = rcomp (riter T (a + n)) T
  rw [chain_riter T a n]
theorem LayOk.congr (h : LayOk q f T) (e : ∀ i j, T i j ↔ U i j) : LayOk q f U := by
 have : T = U := by funext i j; exact propext (e i j)
 rw [← this]
 exact h
theorem LayOk.id (q : ByteArray) : LayOk q (fun m a => (m, a)) (fun i j => i = j) := fun m a ha => ⟨[], GS.id q m a ha⟩
theorem LayOk.times (h : LayOk q f T) (u : Nat) (mi ma : Int) (h0 : 0 ≤ mi) (hm : ma = -1 ∨ mi ≤ ma) (hz : u = 0 → ∀ i j, T i j ↔ i = j) : LayOk q (zzy f u mi ma) (fun i j => ∃ k : Nat, mi.toNat ≤ k ∧ (ma = -1 ∨ (k : Int) ≤ ma) ∧ riter T k i j) := by
 by_cases hu : u = 0
 ·have e1 : zzy f u mi ma = fun m a => (m, a) := by funext m a; unfold zzy; rw [if_pos hu]
  rw [e1]
  refine (LayOk.id q).congr fun i j => ⟨fun e => ⟨mi.toNat, Nat.le_refl _, by omega, (riter_eq (hz hu) _ i j).2 e⟩, fun ⟨k, _, _, h3⟩ => (riter_eq (hz hu) k i j).1 h3⟩
 by_cases h1 : ma = -1
 ·intro m a ha
  obtain ⟨n1, g1⟩ := h.reps_ mi.toNat m a ha
  obtain ⟨n2, g2⟩ := h.loop g1 ha
  have e1 : rcomp (riter T mi.toNat) (star T) = fun i j => ∃ k : Nat, mi.toNat ≤ k ∧ (ma = -1 ∨ (k : Int) ≤ ma) ∧ riter T k i j := by
   funext i j
   apply propext
   constructor
   ·rintro ⟨x, k1, k, k2⟩
    exact ⟨mi.toNat + k, by omega, .inl h1, (riter_add T _ _ i j).2 ⟨x, k1, k2⟩⟩
   ·rintro ⟨k, k1, _, k2⟩
    obtain ⟨d, rfl⟩ : ∃ d, k = mi.toNat + d := ⟨k - mi.toNat, by omega⟩
    obtain ⟨x, k3, k4⟩ := (riter_add T _ _ i j).1 k2
    exact ⟨x, k3, d, k4⟩
  rw [e1] at g2
  refine ⟨n2, ?_⟩
  unfold zzy
  rw [if_neg hu, if_pos h1]
  exact g2
 by_cases h2 : mi < ma
 ·intro m a ha
  obtain ⟨n1, g1⟩ := h.reps_ mi.toNat m a ha
  obtain ⟨zs, n2, g2, e1, _, e3⟩ := h.opts_ g1 ha (ma - mi).toNat
  have g3 := g2.join ha
  rw [e1] at g3
  have e4 : unionR zs = fun i j => ∃ k : Nat, mi.toNat ≤ k ∧ (ma = -1 ∨ (k : Int) ≤ ma) ∧ riter T k i j := by
   funext i j
   apply propext
   rw [e3]
   constructor
   ·rintro ⟨k, k1, k2⟩
    rw [chain_riter] at k2
    exact ⟨mi.toNat + k, by omega, .inr (by omega), k2⟩
   ·rintro ⟨k, k1, k2, k3⟩
    obtain ⟨d, rfl⟩ : ∃ d, k = mi.toNat + d := ⟨k - mi.toNat, by omega⟩
    refine ⟨d, by omega, ?_⟩
    rw [chain_riter]
    exact k3
  rw [e4] at g3
  have e5 : zzy f u mi ma m a = (opts f (ma - mi).toNat (((reps f mi.toNat (m, a)).1, (reps f mi.toNat (m, a)).2), [(reps f mi.toNat (m, a)).2])).1.1.joined (opts f (ma - mi).toNat (((reps f mi.toNat (m, a)).1, (reps f mi.toNat (m, a)).2), [(reps f mi.toNat (m, a)).2])).2 := by
   unfold zzy
   rw [if_neg hu, if_neg h1, if_pos h2]
  rw [e5]
  exact ⟨_, g3⟩
 ·have e1 : zzy f u mi ma = fun m a => reps f mi.toNat (m, a) := by funext m a; unfold zzy; rw [if_neg hu, if_neg h1, if_neg h2]
  rw [e1]
  refine (h.reps_ mi.toNat).congr fun i j => ⟨fun k => ⟨mi.toNat, Nat.le_refl _, by omega, k⟩, fun ⟨k, k1, k2, k3⟩ => ?_⟩
  obtain rfl : k = mi.toNat := by omega
  exact k3
theorem row_ok : ∀ l : List Nd, (∀ x ∈ l, LayOk q x.lay (tk q x)) → LayOk q (fun m a => Nd.row l (m, a)) (tkS q l)
 | [], _ => by
  have : tkS q [] = fun i j => i = j := by unfold tkS; rfl
  rw [this]
  exact fun m a ha => ⟨[], by simpa [Nd.row] using GS.id q m a ha⟩
 | x :: l, h => by
  intro m a ha
  obtain ⟨n1, g1⟩ := h x (by simp) m a ha
  obtain ⟨n2, g2⟩ := row_ok l (fun y hy => h y (by simp [hy])) (x.lay m a).1 (x.lay m a).2 (g1.at_ _ (List.mem_singleton.2 rfl))
  have := (g1.then_ ha (List.mem_singleton.2 rfl) g2).sub (fun p hp => List.mem_append_right _ hp)
  refine ⟨n1 ++ n2, ?_⟩
  simp only [Nd.row, tkS]
  exact this
theorem alt_ok' : ∀ (l : List Nd), (∀ x ∈ l, LayOk q x.lay (tk q x)) → ∀ (m m1 : Ly) (a : Nat) (zs : List (Nat × Rel)) (new : List Edg), a < m.s → GS q m a m1 ((a, fun i j => i = j) :: zs) new →
  ∃ zs' new', GS q m a (Nd.alt l a (m1, zs.map (·.1))).1 ((a, fun i j => i = j) :: zs') new' ∧ zs'.map (·.1) = (Nd.alt l a (m1, zs.map (·.1))).2 ∧ ∀ i j, unionR zs' i j ↔ unionR zs i j ∨ tkA q l i j
 | [], _, m, m1, a, zs, new, ha, h => ⟨zs, new, by simpa [Nd.alt] using h, by simp [Nd.alt], fun i j => by simp [tkA]⟩
 | x :: l, hl, m, m1, a, zs, new, ha, h => by
  have ham1 : a < m1.s := h.at_ (a, fun i j => i = j) (by simp)
  have g1 := GS.over q m1 a ham1 1 0
  have h1 := h.then_ ha (p := (a, fun i j => i = j)) (by simp) g1
  obtain ⟨n2, g2⟩ := hl x (by simp) (m1.over 1 a 0).1 (m1.over 1 a 0).2 (g1.at_ _ (List.mem_singleton.2 rfl))
  have h2 := h1.then_ ha (p := ((m1.over 1 a 0).2, rcomp (fun i j => i = j) (edgeT q 1 0))) (List.mem_append_right _ (List.mem_singleton.2 rfl)) g2
  have e1 : rcomp (rcomp (fun i j => i = j) (edgeT q 1 0)) (tk q x) = tk q x := by
   funext i j
   apply propext
   constructor
   ·rintro ⟨y, ⟨v, rfl, hv⟩, hy⟩
    rcases hv with ⟨_, rfl⟩ | h | h | h
    ·exact hy
    ·exact absurd h.1 (by decide)
    ·exact absurd h.1 (by decide)
    ·exact absurd h.1 (by decide)
   ·intro hy
    exact ⟨i, ⟨i, rfl, .inl ⟨rfl, rfl⟩⟩, hy⟩
  rw [e1] at h2
  have h3 := h2.sub (ys := (a, fun i j => i = j) :: (zs ++ [((x.lay (m1.over 1 a 0).1 (m1.over 1 a 0).2).2, tk q x)])) (fun p hp => by
   rcases List.mem_cons.1 hp with hp | hp
   ·subst hp; simp
   ·rcases List.mem_append.1 hp with hp | hp
    ·simp [hp]
    ·exact List.mem_append_right _ hp)
  obtain ⟨zs', n3, g3, e2, e3⟩ := alt_ok' l (fun y hy => hl y (by simp [hy])) m _ a _ _ ha h3
  have e4 : Nd.alt (x :: l) a (m1, zs.map (·.1)) = Nd.alt l a ((x.lay (m1.over 1 a 0).1 (m1.over 1 a 0).2).1, (zs ++ [((x.lay (m1.over 1 a 0).1 (m1.over 1 a 0).2).2, tk q x)]).map (·.1)) := by
   simp only [Nd.alt, altS, List.map_append, List.map_cons, List.map_nil]
   rfl
  rw [e4]
  refine ⟨zs', n3, g3, e2, fun i j => ?_⟩
  rw [e3]
  simp only [unionR, tkA, List.mem_append, List.mem_singleton]
  constructor
  ·rintro (⟨p, hp | rfl, h1⟩ | h1)
   ·exact .inl ⟨p, hp, h1⟩
   ·exact .inr (.inl h1)
   ·exact .inr (.inr h1)
  ·rintro (⟨p, hp, h1⟩ | h1 | h1)
   ·exact .inl ⟨p, .inl hp, h1⟩
   ·exact .inl ⟨_, .inr rfl, h1⟩
   ·exact .inr h1
theorem tkS_zero : ∀ l : List Nd, (∀ x ∈ l, ∀ i j, tk q x i j ↔ i = j) → ∀ i j, tkS q l i j ↔ i = j
 | [], _, i, j => by simp [tkS]
 | x :: l, h, i, j => by
  simp only [tkS]
  constructor
  ·rintro ⟨y, h1, h2⟩
   rw [(h x (by simp) i y).1 h1]
   exact (tkS_zero l (fun y hy => h y (by simp [hy])) y j).1 h2
  ·rintro rfl
   exact ⟨i, (h x (by simp) i i).2 rfl, (tkS_zero l (fun y hy => h y (by simp [hy])) i i).2 rfl⟩
theorem Us_zero : ∀ l : List Nd, Nd.Us l = 0 → ∀ x ∈ l, x.U = 0
 | [], _, x, hx => by cases hx
 | y :: l, h, x, hx => by
  simp only [Nd.Us] at h
  rcases List.mem_cons.1 hx with rfl | hx
  ·omega
  ·exact Us_zero l (by omega) x hx
theorem tk_zero (nd : Nd) : nd.isT = true → nd.U = 0 → ∀ i j, tk q nd i j ↔ i = j := by
 induction nd using Nd.ind with
 | h kd st l mi ma ih =>
 intro hT hU i j
 have hT2 : headOk kd st l.length mi ma = true ∧ ∀ x ∈ l, x.isT = true := by
  simpa [Nd.isT, Nd.areT_all] using hT
 simp only [Nd.U] at hU
 simp only [tk]
 by_cases h2 : kd = 2
 ·rw [if_pos (by omega)] at hU; omega
 by_cases h6 : kd = 6
 ·rw [if_pos (by omega)] at hU; omega
 by_cases h7 : kd = 7
 ·rw [if_pos (by omega)] at hU; omega
 rw [if_neg (by omega)] at hU
 rw [if_neg h2, if_neg h6, if_neg h7]
 by_cases h3 : kd = 3
 ·rw [if_pos h3] at hU ⊢
  exact tkS_zero l (fun x hx i j => ih x hx (hT2.2 x hx) (Us_zero l hU x hx) i j) i j
 rw [if_neg h3] at hU ⊢
 by_cases h4 : kd = 4
 ·rw [if_pos h4] at hU; omega
 rw [if_neg h4] at hU ⊢
 by_cases h5 : kd = 5
 ·rw [if_pos h5] at hU ⊢
  subst h5
  obtain ⟨-, hn, h0, -, hm⟩ := headOk_times hT2.1
  obtain ⟨x, rfl⟩ : ∃ x, l = [x] := List.length_eq_one_iff.1 hn
  simp only [Nd.Us, Nat.add_zero] at hU
  simp only [tkT]
  have hx := hT2.2 x (by simp)
  by_cases hr : ma = -1 ∨ mi < ma
  ·have hu := tU_zero _ _ _ hU h0 hr
   have he := ih x (by simp) hx hu
   exact ⟨fun ⟨k, _, _, h3⟩ => (riter_eq he k i j).1 h3, fun e => ⟨mi.toNat, Nat.le_refl _, by omega, (riter_eq he _ i j).2 e⟩⟩
  ·have hmm : mi = ma := by omega
   by_cases hu : x.U = 0
   ·have he := ih x (by simp) hx hu
    exact ⟨fun ⟨k, _, _, h3⟩ => (riter_eq he k i j).1 h3, fun e => ⟨mi.toNat, Nat.le_refl _, by omega, (riter_eq he _ i j).2 e⟩⟩
   ·have hmz : mi.toNat = 0 := by
     unfold tU at hU
     rw [if_neg hu, if_neg (by omega), if_neg (by omega), Nat.add_zero] at hU
     rcases Nat.mul_eq_zero.1 hU with h | h
     ·exact h
     ·exact absurd h hu
    constructor
    ·rintro ⟨k, k1, k2, k3⟩
     obtain rfl : k = 0 := by omega
     exact k3
    ·intro e
     exact ⟨0, by omega, by omega, e⟩
 ·rw [if_neg h5]
theorem lay_ok (nd : Nd) : nd.isT = true → LayOk q nd.lay (tk q nd) := by
 induction nd using Nd.ind with
 | h kd st l mi ma ih =>
 intro hT
 have hT2 : headOk kd st l.length mi ma = true ∧ ∀ x ∈ l, x.isT = true := by
  simpa [Nd.isT, Nd.areT_all] using hT
 have hl : ∀ x ∈ l, LayOk q x.lay (tk q x) := fun x hx => ih x hx (hT2.2 x hx)
 by_cases h2 : kd = 2
 ·have e1 : (Nd.mk kd st l mi ma).lay = fun m a => m.over 2 a st := by funext m a; simp only [Nd.lay]; rw [if_pos h2]
  have e2 : tk q (Nd.mk kd st l mi ma) = edgeT q 2 st := by simp only [tk]; rw [if_pos h2]
  rw [e1, e2]
  exact fun m a ha => ⟨_, GS.over q m a ha 2 st⟩
 by_cases h6 : kd = 6
 ·have e1 : (Nd.mk kd st l mi ma).lay = fun m a => m.over 3 a 0 := by funext m a; simp only [Nd.lay]; rw [if_neg h2, if_pos h6]
  have e2 : tk q (Nd.mk kd st l mi ma) = edgeT q 3 0 := by simp only [tk]; rw [if_neg h2, if_pos h6]
  rw [e1, e2]
  exact fun m a ha => ⟨_, GS.over q m a ha 3 0⟩
 by_cases h7 : kd = 7
 ·have e1 : (Nd.mk kd st l mi ma).lay = fun m a => m.over 4 a 0 := by funext m a; simp only [Nd.lay]; rw [if_neg h2, if_neg h6, if_pos h7]
  have e2 : tk q (Nd.mk kd st l mi ma) = edgeT q 4 0 := by simp only [tk]; rw [if_neg h2, if_neg h6, if_pos h7]
  rw [e1, e2]
  exact fun m a ha => ⟨_, GS.over q m a ha 4 0⟩
 by_cases h3 : kd = 3
 ·have e1 : (Nd.mk kd st l mi ma).lay = fun m a => Nd.row l (m, a) := by funext m a; simp only [Nd.lay]; rw [if_neg h2, if_neg h6, if_neg h7, if_pos h3]
  have e2 : tk q (Nd.mk kd st l mi ma) = tkS q l := by simp only [tk]; rw [if_neg h2, if_neg h6, if_neg h7, if_pos h3]
  rw [e1, e2]
  exact row_ok l hl
 by_cases h4 : kd = 4
 ·have e1 : (Nd.mk kd st l mi ma).lay = fun m a => (Nd.alt l a (m, [])).1.joined (Nd.alt l a (m, [])).2 := by funext m a; simp only [Nd.lay]; rw [if_neg h2, if_neg h6, if_neg h7, if_neg h3, if_pos h4]
  have e2 : tk q (Nd.mk kd st l mi ma) = tkA q l := by simp only [tk]; rw [if_neg h2, if_neg h6, if_neg h7, if_neg h3, if_pos h4]
  rw [e1, e2]
  intro m a ha
  obtain ⟨zs, n1, g1, k1, k2⟩ := alt_ok' l hl m m a [] [] ha (GS.id q m a ha)
  have g2 := (g1.sub (ys := zs) (fun p hp => List.mem_cons_of_mem _ hp)).join ha
  have e3 : unionR zs = tkA q l := by
   funext i j
   apply propext
   rw [k2]
   simp [unionR]
  rw [e3, k1] at g2
  exact ⟨_, g2⟩
 by_cases h5 : kd = 5
 ·have e1 : (Nd.mk kd st l mi ma).lay = fun m a => Nd.tim l mi ma m a := by funext m a; simp only [Nd.lay]; rw [if_neg h2, if_neg h6, if_neg h7, if_neg h3, if_neg h4, if_pos h5]
  have e2 : tk q (Nd.mk kd st l mi ma) = tkT q l mi ma := by simp only [tk]; rw [if_neg h2, if_neg h6, if_neg h7, if_neg h3, if_neg h4, if_pos h5]
  rw [e1, e2]
  subst h5
  obtain ⟨-, hn, h0, -, hm⟩ := headOk_times hT2.1
  obtain ⟨x, rfl⟩ : ∃ x, l = [x] := List.length_eq_one_iff.1 hn
  have hx := hT2.2 x (by simp)
  have := (hl x (by simp)).times x.U mi ma h0 (by omega) (fun hu => tk_zero x hx hu)
  simpa only [Nd.tim, tkT] using this
 ·have e1 : (Nd.mk kd st l mi ma).lay = fun m a => (m, a) := by funext m a; simp only [Nd.lay]; rw [if_neg h2, if_neg h6, if_neg h7, if_neg h3, if_neg h4, if_neg h5]
  have e2 : tk q (Nd.mk kd st l mi ma) = fun i j => i = j := by simp only [tk]; rw [if_neg h2, if_neg h6, if_neg h7, if_neg h3, if_neg h4, if_neg h5]
  rw [e1, e2]
  exact LayOk.id q
end
def Least (q : ByteArray) (E : List Edg) (s i : Nat) : Prop := ∀ L : Lab, (∀ e ∈ E, EdgeOk q L e) → (∀ i, i ≤ q.size → L 0 i) → L s i
theorem least_closed (q : ByteArray) (E : List Edg) : (∀ e ∈ E, EdgeOk q (Least q E) e) ∧ ∀ i, i ≤ q.size → Least q E 0 i :=
 ⟨fun e he => ⟨fun k i hi h L hL h0 => (hL e he).free k i hi (h L hL h0), fun k i hi h hb L hL h0 => (hL e he).byte k i hi (h L hL h0) hb, fun k h L hL h0 => (hL e he).begin_ k (h L hL h0), fun k h L hL h0 => (hL e he).end_ k (h L hL h0)⟩, fun i hi L _ h0 => h0 i hi⟩
end Mt
end Go.Proofs.YtkedgombccdamaaGreatDoor
namespace Go.Proofs.YtkedgombccdamaaGreatDoor
open Go.RowKit Go.Maps
set_option linter.unusedVariables false
set_option linter.unusedSimpArgs false
attribute [local go_sem] Oper.semAt_some
theorem buildF_tree {nd : Nd} {rule : Int} (h : nd.isT = false) : buildF nd rule = (.none, 50) := by unfold buildF; rw [if_pos h]
theorem buildF_big {nd : Nd} {rule : Int} (h : nd.isT = true) (h2 : 2048 ≤ nd.U) : buildF nd rule = (.none, 48) := by unfold buildF; rw [if_neg (by simp [h]), if_pos h2]
theorem buildF_rule {nd : Nd} {rule : Int} (h : nd.isT = true) (h2 : ¬ 2048 ≤ nd.U) (h3 : rule < 0 ∨ 32 ≤ rule) : buildF nd rule = (.none, 1) := by unfold buildF; rw [if_neg (by simp [h]), if_neg h2, if_pos h3]
theorem buildF_ok {nd : Nd} {r : Nat} (h : nd.isT = true) (h2 : ¬ 2048 ≤ nd.U) (h3 : r < 32) : buildF nd (r : Int) = (⟨(layF nd).1.s, (layF nd).1.e, (List.replicate (layF nd).1.s 0).set (layF nd).2 (2 ^ r)⟩, 0) := by
 unfold buildF; rw [if_neg (by simp [h]), if_neg h2, if_neg (by omega)]; simp
def stS (gk : Nat) (v : Value) : GSpec := ⟨fun u w => u = .int .i64 ((0 : Nat) : Int) ∧ Blk w gk 116 (mkP ((1 : Nat) : Int) v), fun u w w' ⟨h1, h2⟩ hb => ⟨h1, zqb h2 hb⟩⟩
def inS (s v : Int) : Bool := decide (0 ≤ v) && decide (v < s)
theorem in_any (s : Int) (A : Option Addr) (n c : Nat) (B : Option Addr) (m d : Nat) (g : Nat) (v : Int) (w : World) (hb : Blk w g 26 (nfaC s A n c B m d)) :
  Calls Tryz.prog 43 #[.int .i64 v, .pointer (some ⟨g, 0, none⟩)] w fun e w' => e = .returned (.bool (inS s v)) ∧ w' = w := by
 have c0 : w.cell? ⟨g, 0, none⟩ = some (.int .i64 s) := hb.cellv (i := 0) rfl
 go_enter Tryz.func43, Tryz.ntmps43
 by_cases h : 0 ≤ v
 ·have h2 : (0 ≤ v) = True := by simpa using h
  go_wp2_with (fail)
  go_ret
  exact ⟨by simp [inS, h], rfl⟩
 ·go_wp2_with (fail)
  go_ret
  refine ⟨?_, rfl⟩
  simp only [inS]
  rw [decide_eq_false (show ¬ 0 ≤ v by omega)]
  rfl
theorem enter_in (args : Array Value) (w : World) : (callFunc 43 args).run Tryz.prog w = .ok (.enter 43 args) w := by kernel_rfl
def badE (s : Int) (d : Edg) : Bool := ((((decide (d.kd < 1) || decide (4 < d.kd)) || !inS s d.fr) || !inS s d.tt) || ((d.kd != 2) && !decide (d.st = 0)))
def rightB (s : Int) (E : List Edg) (m : Nat) : Bool := decide (1 ≤ s) && decide ((m : Int) = s) && E.all fun d => !badE s d
set_option maxRecDepth 100000 in
set_option maxHeartbeats 4000000 in
theorem right_any (s : Int) (A : Option Addr) (n c0 : Nat) (B : Option Addr) (m d0 : Nat) (E : List Edg) (hn : n = E.length) (hE : E.length ≤ 1099511627776) (w : World) (hs : SliceOf w w.heap.size 7 edgC A E) :
  Calls Tryz.prog 19 #[.agg (nfaC s A n c0 B m d0)] w fun e w' => e = .returned (.bool (rightB s E m)) ∧ Below w.heap.size w w' := by
 obtain ⟨l, hl⟩ : ∃ l, l = E := ⟨_, rfl⟩
 rw [← hl] at hn hE hs ⊢
 clear hl
 have Hn := Lib.hid hn
 have hn2 : n ≤ 1099511627776 := by omega
 clear hn
 go_enter Tryz.func19, Tryz.ntmps19
 have h1 := Blk.new w 26 (nfaC s A n c0 B m d0)
 have hB1 : Below w.heap.size w (w.alloc (.cells (nfaC s A n c0 B m d0) 26)) := zqc (Below.refl _ _) _
 go_upto_region 1 with (fail)
 obtain ⟨W1, hW1⟩ : ∃ y, y = w.alloc (.cells (nfaC s A n c0 B m d0) 26) := ⟨_, rfl⟩
 rw [← hW1] at h1 hB1 ⊢
 clear hW1
 have c1 : W1.cell? ⟨w.heap.size, 0, none⟩ = some (.int .i64 s) := h1.cellv (i := 0) rfl
 have c2 : W1.cell? ⟨w.heap.size, 1, none⟩ = some (.slice A n c0) := h1.cellv (i := 1) rfl
 have c3 : W1.cell? ⟨w.heap.size, 2, none⟩ = some (.slice B m d0) := h1.cellv (i := 2) rfl
 by_cases hs1 : s < 1
 ·have hs1b : decide (s < 1) = true := by simpa using hs1
  go_wp2_with (fail)
  go_ret
  refine ⟨?_, hB1⟩
  unfold rightB
  rw [decide_eq_false (show ¬ 1 ≤ s by omega)]
  rfl
 by_cases hsm : ¬ (m : Int) = s
 ·have hsb : ((m : Int) == s) = false := by simpa using hsm
  go_wp2_with (fail)
  go_ret
  refine ⟨?_, hB1⟩
  unfold rightB
  rw [decide_eq_false hsm, Bool.and_false]
  rfl
 have hsm := Classical.not_not.1 hsm
 have hr0 : ∀ b, l.all (fun d => !badE s d) = b → rightB s l m = b := fun b hb => by
  unfold rightB
  rw [decide_eq_true (show 1 ≤ s by omega), decide_eq_true hsm, hb]
  rfl
 have Hr0 := Lib.hid hr0
 have hms : ((m : Int) != s) = false := by simpa using hsm
 have hlw := h1.lt
 clear hr0
 go_wp2_with (fail)
 clear c1 c2 c3
 go_loopw [21] (fun i wr => ∃ k : Nat, k ≤ n ∧ i = .int .i64 k ∧ Blk wr w.heap.size 26 (nfaC s A n c0 B m d0) ∧ Hid ((l.take k).all (fun d => !badE s d) = true) ∧ Below w.heap.size w wr ∧ w.heap.size < wr.heap.size) (fun i _ => n - (intOf i).toNat)
 case atStart => exact ⟨0, by omega, rfl, h1, Lib.hid rfl, hB1, hlw⟩
 case round =>
  clear h1 hB1 hlw
  obtain ⟨k, hk, rfl, h1, hall, hB1, hlw⟩ := hrel
  by_cases hkl : k < n
  ·have hkI : (k : Int) < n := by omega
   have hkl2 : k < l.length := by rw [← Hn.out]; exact hkl
   obtain ⟨b, off, rfl, hb, hrows⟩ := hs.at_ (by omega)
   have hr0 := (hrows k hkl2).keep (hB1.block b hb)
   obtain ⟨dd, hd⟩ : ∃ d, d = l[k] := ⟨_, rfl⟩
   rw [← hd] at hr0
   have hst : (l.take (k + 1)).all (fun d => !badE s d) = !badE s dd := by
    rw [List.take_succ_eq_append_getElem hkl2, List.all_append, hall.out, ← hd]
    simp
   have hbad : badE s dd = true → l.all (fun d => !badE s d) = false := fun h => by
    rw [List.all_eq_false]
    exact ⟨dd, by rw [hd]; exact List.getElem_mem hkl2, by rw [h]; simp⟩
   have Hst := Lib.hid hst
   have Hbad := Lib.hid hbad
   clear hst hbad hd
   have hkb : k < 1099511628000 := by omega
   go_upto_region 7 with (first | (refine zzs rfl _ rfl _ _ rfl _ hr0 ?_) | (refine zxm rfl _ _ rfl _ _ rfl rfl edge0 (Blk.new _ _ _) ?_; intro w3 h5 hg3))
   have hB3 := zqh (zqc (Below.refl _ wr) (.cells #[.int .i64 0, .int .i64 0, .int .i64 0, .int .u64 0, .int .u64 0, .int .u64 0, .int .u64 0] 69)) hg3 (Nat.le_refl _)
   replace h1 := zqb h1 hB3
   replace hB1 := zqd hB1 hB3
   replace hlw := Nat.lt_of_lt_of_le hlw hB3.size
   clear hr0 hg3
   obtain ⟨k1, hk1⟩ : ∃ q, decide (dd.kd < 1) = q := ⟨_, rfl⟩
   obtain ⟨k4, hk4⟩ : ∃ q, decide (4 < dd.kd) = q := ⟨_, rfl⟩
   obtain ⟨k2, hk2⟩ : ∃ q, (dd.kd != 2) = q := ⟨_, rfl⟩
   obtain ⟨f, hf⟩ : ∃ q, inS s dd.fr = q := ⟨_, rfl⟩
   obtain ⟨t, ht⟩ : ∃ q, inS s dd.tt = q := ⟨_, rfl⟩
   obtain ⟨z, hz⟩ : ∃ q, (!decide (dd.st = 0)) = q := ⟨_, rfl⟩
   have hbd : badE s dd = ((((k1 || k4) || !f) || !t) || (k2 && z)) := by unfold badE; rw [hk1, hk4, hk2, hf, ht, hz]
   refine zqs 33 [eqS (.pointer (some ⟨wr.heap.size, 0, none⟩)), eqS (.int .i64 dd.kd), eqS (.bool k1), eqS (.bool k1), eqS (vF (!k1) (.pointer (some ⟨wr.heap.size, 0, none⟩))), eqS (vF (!k1) (.int .i64 dd.kd)), eqS (vF (!k1) (.bool k4)), eqS (.bool (k1 || k4)), eqS (.bool (k1 || k4)), eqS (vF (!(k1 || k4)) (.func (.func 43) #[] #[.pointer (some ⟨w.heap.size, 0, none⟩)])), eqS (vF (!(k1 || k4)) (.pointer (some ⟨wr.heap.size, 1, none⟩))), eqS (vF (!(k1 || k4)) (.int .i64 dd.fr)), eqS (vF (!(k1 || k4)) (.bool f)), eqS (vF (!(k1 || k4)) (.bool (!f))), eqS (.bool ((k1 || k4) || !f)), eqS (.bool ((k1 || k4) || !f)), eqS (vF (!((k1 || k4) || !f)) (.func (.func 43) #[] #[.pointer (some ⟨w.heap.size, 0, none⟩)])), eqS (vF (!((k1 || k4) || !f)) (.pointer (some ⟨wr.heap.size, 2, none⟩))), eqS (vF (!((k1 || k4) || !f)) (.int .i64 dd.tt)), eqS (vF (!((k1 || k4) || !f)) (.bool t)), eqS (vF (!((k1 || k4) || !f)) (.bool (!t))), eqS (.bool (((k1 || k4) || !f) || !t)), eqS (.bool (((k1 || k4) || !f) || !t)), eqS (vF (!(((k1 || k4) || !f) || !t)) (.pointer (some ⟨wr.heap.size, 0, none⟩))), eqS (vF (!(((k1 || k4) || !f) || !t)) (.int .i64 dd.kd)), eqS (vF (!(((k1 || k4) || !f) || !t)) (.bool k2)), eqS (vF (!(((k1 || k4) || !f) || !t)) (.bool k2)), eqS (vF (!(((k1 || k4) || !f) || !t) && k2) (.pointer (some ⟨wr.heap.size, 3, none⟩))), eqS (vF (!(((k1 || k4) || !f) || !t) && k2) (.agg (setC dd.st))), eqS (vF (!(((k1 || k4) || !f) || !t) && k2) (.agg (setC 0))), eqS (vF (!(((k1 || k4) || !f) || !t) && k2) (.bool z)), eqS (vF (!(((k1 || k4) || !f) || !t)) (.bool (k2 && z))), eqS (.bool ((((k1 || k4) || !f) || !t) || (k2 && z)))] [25, 26, 27, 28, 29, 30, 31, 32, 33, 34, 35, 36, 37, 38, 39, 40, 41, 42, 43, 44, 45, 46, 47, 48, 49, 50, 51, 52, 53, 54, 55, 56, 57] (by kernel_rfl) rfl ?_ ?_
   ·skip
    refine Steps.cons (fun a' w' hG hB dep => zqn (zqa rfl) _ _ _ rfl wr.heap.size 0 0 (hG.other 5 rfl) (zxz _ _) rfl) ?_
    refine Steps.cons (fun a' w' hG hB dep => zqj (zqa rfl) _ _ rfl wr.heap.size 0 (dep 0 rfl 25 rfl) (.int .i64 dd.kd) ((zqb h5 hB).cellv (i := 0) rfl) _ Tryz.underlying3 rfl rfl) ?_
    refine Steps.cons (fun a' w' hG hB dep => gs_lss_int (zqa rfl) _ _ _ _ rfl _ _ _ (dep 1 rfl 26 rfl) rfl (congrArg Value.bool hk1)) ?_
    refine Steps.cons (fun a' w' hG hB dep => zqi (zqa rfl) _ rfl (dep 2 rfl 27 rfl)) ?_
    refine Steps.cons (fun a' w' hG hB dep => zqf (c := true) rfl rfl (dep 3 rfl 28 rfl) (fun _ e hw => zqn hw _ _ _ rfl wr.heap.size 0 0 (hG.other 5 rfl) (zxz _ _) (zqg (zzt e) _).symm) (fun e => vF_no (zxn e) _)) ?_
    refine Steps.cons (fun a' w' hG hB dep => zqf (c := true) rfl rfl (dep 3 rfl 28 rfl) (fun _ e hw => zqj hw _ _ rfl wr.heap.size 0 (Eq.trans (dep 4 rfl 29 rfl) (zqg (zzt e) _)) (.int .i64 dd.kd) ((zqb h5 hB).cellv (i := 0) rfl) _ Tryz.underlying3 rfl (zqg (zzt e) _).symm) (fun e => vF_no (zxn e) _)) ?_
    refine Steps.cons (fun a' w' hG hB dep => zqf (c := true) rfl rfl (dep 3 rfl 28 rfl) (fun _ e hw => gs_gtr_int hw _ _ _ _ rfl _ _ _ (Eq.trans (dep 5 rfl 30 rfl) (zqg (zzt e) _)) rfl ((congrArg Value.bool hk4).trans (zqg (zzt e) _).symm)) (fun e => vF_no (zxn e) _)) ?_
    refine Steps.cons (fun a' w' hG hB dep => zqy (zqa rfl) _ _ _ rfl k1 (dep 3 rfl 28 rfl) (pick_or (dep 6 rfl 31 rfl))) ?_
    refine Steps.cons (fun a' w' hG hB dep => zqi (zqa rfl) _ rfl (dep 7 rfl 32 rfl)) ?_
    refine Steps.cons (fun a' w' hG hB dep => zqf (c := true) rfl rfl (dep 8 rfl 33 rfl) (fun _ e hw => zqi hw _ rfl (Eq.trans (hG.other 3 rfl) (zqg (zzt e) _).symm)) (fun e => vF_no (zxn e) _)) ?_
    refine Steps.cons (fun a' w' hG hB dep => zqf (c := true) rfl rfl (dep 8 rfl 33 rfl) (fun _ e hw => zqn hw _ _ _ rfl wr.heap.size 0 1 (hG.other 5 rfl) (field_edge_1 _ _) (zqg (zzt e) _).symm) (fun e => vF_no (zxn e) _)) ?_
    refine Steps.cons (fun a' w' hG hB dep => zqf (c := true) rfl rfl (dep 8 rfl 33 rfl) (fun _ e hw => zqj hw _ _ rfl wr.heap.size 1 (Eq.trans (dep 10 rfl 35 rfl) (zqg (zzt e) _)) (.int .i64 dd.fr) ((zqb h5 hB).cellv (i := 1) rfl) _ Tryz.underlying3 rfl (zqg (zzt e) _).symm) (fun e => vF_no (zxn e) _)) ?_
    refine Steps.cons (fun a' w' hG hB dep => zqf (c := true) rfl rfl (dep 8 rfl 33 rfl) (fun _ e hw => gs_callv hw 43 _ _ _ _ rfl (Eq.trans (dep 9 rfl 34 rfl) (zqg (zzt e) _)) enter_in _ (map1c _ (Eq.trans (dep 11 rfl 36 rfl) (zqg (zzt e) _))) ((in_any _ _ _ _ _ _ _ _ _ _ (zqb h1 hB)).mono fun e2 w2 ⟨he, hb⟩ => ⟨_, he, by rw [hb]; exact Below.refl _ _, (congrArg Value.bool hf).trans (zqg (zzt e) _).symm⟩)) (fun e => vF_no (zxn e) _)) ?_
    refine Steps.cons (fun a' w' hG hB dep => zqf (c := true) rfl rfl (dep 8 rfl 33 rfl) (fun _ e hw => gs_not_bool hw _ _ rfl _ (Eq.trans (dep 12 rfl 37 rfl) (zqg (zzt e) _)) (zqg (zzt e) _).symm) (fun e => vF_no (zxn e) _)) ?_
    refine Steps.cons (fun a' w' hG hB dep => zqy (zqa rfl) _ _ _ rfl (k1 || k4) (dep 8 rfl 33 rfl) (pick_or (dep 13 rfl 38 rfl))) ?_
    refine Steps.cons (fun a' w' hG hB dep => zqi (zqa rfl) _ rfl (dep 14 rfl 39 rfl)) ?_
    refine Steps.cons (fun a' w' hG hB dep => zqf (c := true) rfl rfl (dep 15 rfl 40 rfl) (fun _ e hw => zqi hw _ rfl (Eq.trans (hG.other 3 rfl) (zqg (zzt e) _).symm)) (fun e => vF_no (zxn e) _)) ?_
    refine Steps.cons (fun a' w' hG hB dep => zqf (c := true) rfl rfl (dep 15 rfl 40 rfl) (fun _ e hw => zqn hw _ _ _ rfl wr.heap.size 0 2 (hG.other 5 rfl) (field_edge_2 _ _) (zqg (zzt e) _).symm) (fun e => vF_no (zxn e) _)) ?_
    refine Steps.cons (fun a' w' hG hB dep => zqf (c := true) rfl rfl (dep 15 rfl 40 rfl) (fun _ e hw => zqj hw _ _ rfl wr.heap.size 2 (Eq.trans (dep 17 rfl 42 rfl) (zqg (zzt e) _)) (.int .i64 dd.tt) ((zqb h5 hB).cellv (i := 2) rfl) _ Tryz.underlying3 rfl (zqg (zzt e) _).symm) (fun e => vF_no (zxn e) _)) ?_
    refine Steps.cons (fun a' w' hG hB dep => zqf (c := true) rfl rfl (dep 15 rfl 40 rfl) (fun _ e hw => gs_callv hw 43 _ _ _ _ rfl (Eq.trans (dep 16 rfl 41 rfl) (zqg (zzt e) _)) enter_in _ (map1c _ (Eq.trans (dep 18 rfl 43 rfl) (zqg (zzt e) _))) ((in_any _ _ _ _ _ _ _ _ _ _ (zqb h1 hB)).mono fun e2 w2 ⟨he, hb⟩ => ⟨_, he, by rw [hb]; exact Below.refl _ _, (congrArg Value.bool ht).trans (zqg (zzt e) _).symm⟩)) (fun e => vF_no (zxn e) _)) ?_
    refine Steps.cons (fun a' w' hG hB dep => zqf (c := true) rfl rfl (dep 15 rfl 40 rfl) (fun _ e hw => gs_not_bool hw _ _ rfl _ (Eq.trans (dep 19 rfl 44 rfl) (zqg (zzt e) _)) (zqg (zzt e) _).symm) (fun e => vF_no (zxn e) _)) ?_
    refine Steps.cons (fun a' w' hG hB dep => zqy (zqa rfl) _ _ _ rfl ((k1 || k4) || !f) (dep 15 rfl 40 rfl) (pick_or (dep 20 rfl 45 rfl))) ?_
    refine Steps.cons (fun a' w' hG hB dep => zqi (zqa rfl) _ rfl (dep 21 rfl 46 rfl)) ?_
    refine Steps.cons (fun a' w' hG hB dep => zqf (c := true) rfl rfl (dep 22 rfl 47 rfl) (fun _ e hw => zqn hw _ _ _ rfl wr.heap.size 0 0 (hG.other 5 rfl) (zxz _ _) (zqg (zzt e) _).symm) (fun e => vF_no (zxn e) _)) ?_
    refine Steps.cons (fun a' w' hG hB dep => zqf (c := true) rfl rfl (dep 22 rfl 47 rfl) (fun _ e hw => zqj hw _ _ rfl wr.heap.size 0 (Eq.trans (dep 23 rfl 48 rfl) (zqg (zzt e) _)) (.int .i64 dd.kd) ((zqb h5 hB).cellv (i := 0) rfl) _ Tryz.underlying3 rfl (zqg (zzt e) _).symm) (fun e => vF_no (zxn e) _)) ?_
    refine Steps.cons (fun a' w' hG hB dep => zqf (c := true) rfl rfl (dep 22 rfl 47 rfl) (fun _ e hw => zzn hw _ _ _ _ rfl _ _ _ (Eq.trans (dep 24 rfl 49 rfl) (zqg (zzt e) _)) rfl ((congrArg Value.bool hk2).trans (zqg (zzt e) _).symm)) (fun e => vF_no (zxn e) _)) ?_
    refine Steps.cons (fun a' w' hG hB dep => zqf (c := true) rfl rfl (dep 22 rfl 47 rfl) (fun _ e hw => zqi hw _ rfl (dep 25 rfl 50 rfl)) (fun e => vF_no (zxn e) _)) ?_
    refine Steps.cons (fun a' w' hG hB dep => zqf (c := !(((k1 || k4) || !f) || !t)) rfl rfl (dep 26 rfl 51 rfl) (fun c e hw => zqn hw _ _ _ rfl wr.heap.size 0 3 (hG.other 5 rfl) (field_edge_3 _ _) (vF_and c e _).symm) (fun e => vF_no (off_and e) _)) ?_
    refine Steps.cons (fun a' w' hG hB dep => zqf (c := !(((k1 || k4) || !f) || !t)) rfl rfl (dep 26 rfl 51 rfl) (fun c e hw => zxe hw _ rfl wr.heap.size 3 (Eq.trans (dep 27 rfl 52 rfl) (vF_and c e _)) dd.st ((zqb h5 hB).st) (vF_and c e _).symm) (fun e => vF_no (off_and e) _)) ?_
    refine Steps.cons (fun a' w' hG hB dep => zqf (c := !(((k1 || k4) || !f) || !t)) rfl rfl (dep 26 rfl 51 rfl) (fun c e hw => gs_build_set0 hw rfl (vF_and c e _).symm) (fun e => vF_no (off_and e) _)) ?_
    refine Steps.cons (fun a' w' hG hB dep => zqf (c := !(((k1 || k4) || !f) || !t)) rfl rfl (dep 26 rfl 51 rfl) (fun c e hw => gs_neq_set hw _ _ _ rfl _ _ (Eq.trans (dep 28 rfl 53 rfl) (vF_and c e _)) (Eq.trans (dep 29 rfl 54 rfl) (vF_and c e _)) ((congrArg Value.bool hz).trans (vF_and c e _).symm)) (fun e => vF_no (off_and e) _)) ?_
    refine Steps.cons (fun a' w' hG hB dep => zqf (c := true) rfl rfl (dep 22 rfl 47 rfl) (fun _ e hw => zqy hw _ _ _ rfl k2 (Eq.trans (dep 26 rfl 51 rfl) (zqg (zzt e) _)) ((pick_and ((dep 30 rfl 55 rfl).trans (congrArg (fun q => vF (q && k2) (.bool z)) (zzt e)))).trans (zqg (zzt e) _).symm)) (fun e => vF_no (zxn e) _)) ?_
    refine Steps.cons (fun a' w' hG hB dep => zqy (zqa rfl) _ _ _ rfl (((k1 || k4) || !f) || !t) (dep 22 rfl 47 rfl) (pick_or (dep 31 rfl 56 rfl))) ?_
    exact Steps.nil
   rw [← hbd]
   intro u W4 hB4 ans
   have u57 : u 57 = .bool (badE s dd) := ans 32 57 (by decide) rfl
   obtain ⟨q, hq⟩ : ∃ q, badE s dd = q := ⟨_, rfl⟩
   rw [hq] at u57
   clear ans hbd hk1 hk4 hk2 hf ht hz
   simp only [zqr, List.foldl_cons, List.foldl_nil, Act.put, List.setIfInBounds_toArray, List.set_cons_zero, List.set_cons_succ, u57]
   clear u57
   simp only [List.drop]
   refine wpList_nil ?_
   replace h1 := zqb h1 hB4
   replace hB1 := zqd hB1 hB4
   replace hlw := Nat.lt_of_lt_of_le hlw hB4.size
   cases q
   ·go_wp2_with (fail)
    exact ⟨⟨k + 1, by omega, rfl, h1, Lib.hid (Hst.out.trans (by rw [hq]; rfl)), hB1, hlw⟩, by simp only [intOf]; omega⟩
   ·go_wp2_with (fail)
    go_ret
    exact ⟨by rw [Hr0.out _ (Hbad.out hq)]; rfl, hB1⟩
  ·have hkI : ¬ (k : Int) < n := by omega
   go_wp2_with (fail)
   go_ret
   have hall2 := hall.out
   rw [List.take_of_length_le (by rw [← Hn.out]; omega)] at hall2
   exact ⟨by rw [Hr0.out _ hall2]; rfl, hB1⟩
theorem own_empty {α : Type} {enc : α → Array Value} {size base : Nat} {e : TypeId} {w : World} (hb : base ≤ w.heap.size) : Own (w.alloc (.cells #[] e)) base e size enc (.slice (some ⟨w.heap.size, 0, none⟩) 0 0) ([] : List α) :=
 ⟨by simp [flat], .inr ⟨w.heap.size, 0, #[], rfl, hb, heap_alloc_new w _, Nat.le_refl _, by unfold maxLen; omega, by simp, by simp [flat]⟩⟩
section
variable {ops : Array Oper} {rest : List Oper} {o : Oper} {a : Act} {w : World} {Q : Exit → Act → World → Prop}
theorem wl_one {d : Edg} (hgd : o.guard = none) (x : Operand) (ho : o.op = .buildSlice 23 1 #[(0, x)]) (hx : a.eval x = .agg (edgC d))
  (h : wpList Tryz.prog ops Q rest (a.put o.dst (.slice (some ⟨w.heap.size, 0, none⟩) 1 1)) (w.alloc (.cells (edgC d) 69))) : wpList Tryz.prog ops Q (o :: rest) a w :=
 wl_run hgd (v := .slice (some ⟨w.heap.size, 0, none⟩) 1 1) (by unfold execOp; simp only [ho, List.map_toArray, List.map_cons, List.map_nil, hx, Sem.run_bind, run_edge1, Result.andThen_ok, Sem.run_pure]) h
end
theorem gs_load_nfa {ops : Array Oper} {S : Nat → GSpec} {Q : Exit → Act → World → Prop} {i : Nat} {o : Oper} {a : Act} {w : World} (hw : Region.wanted o (yielded ops a.tmps) = true) (x : Operand) (ho : o.op = .load 26 x) (g : Nat) (hx : a.eval x = .pointer (some ⟨g, 0, none⟩)) (s : Int) (A : Option Addr) (n c : Nat) (B : Option Addr) (m d : Nat) (hg : Blk w g 26 (nfaC s A n c B m d))
  (hp : (S i).p (.agg (nfaC s A n c B m d)) w) : GStep Tryz.prog ops S Q i o a w :=
 gs_load hw _ x ho g hx _ _ hg _ Tryz.underlying26 rfl (info_nfaN.trans rfl) hp
theorem gs_add_nat {P : Program} {ops : Array Oper} {S : Nat → GSpec} {Q : Exit → Act → World → Prop} {i : Nat} {o : Oper} {a : Act} {w : World} (hw : Region.wanted o (yielded ops a.tmps) = true) (t t2 : TypeId) (x y : Operand) (ho : o.op = .binOp .add t x y t2) (p q r : Nat) (hx : a.eval x = .int .i64 p) (hy : a.eval y = .int .i64 q) (hr : p + q = r) (hr64 : r < 9223372036854775808)
  (hp : (S i).p (.int .i64 (r : Nat)) w) : GStep P ops S Q i o a w :=
 gs_bin hw _ _ _ x y ho _ _ _ hx hy (by rw [eqGuard_at_int]; rfl) (by
  have e : (p : Int) + q = r := by omega
  have e2 : IntKind.i64.wrap (r : Int) = r := by rw [IntKind.wrap_i64]; omega
  rw [binOp_add]
  simp [Op.intArith, e, e2]) hp
def shiftE (by_ : Int) (e : Edg) : Edg := ⟨e.kd, e.fr + by_, e.tt + by_, e.st⟩
def uStep (F x : NF) : NF := ⟨F.s + x.s, F.E ++ [⟨1, 0, F.s, 0⟩] ++ x.E.map (shiftE F.s), F.R ++ x.R⟩
def uFold (l : List NF) : NF := l.foldl uStep ⟨1, [], [0]⟩
def rightF (x : NF) : Bool := rightB x.s x.E x.R.length
def unionF (l : List NF) : NF × Int := if l.all rightF then (uFold l, 0) else (.none, 70)
theorem uFold_snoc (l : List NF) (x : NF) : uFold (l ++ [x]) = uStep (uFold l) x := by simp [uFold]
theorem right_parts {x : NF} (h : rightF x = true) : (x.R.length : Int) = x.s ∧ ∀ d ∈ x.E, 0 ≤ d.fr ∧ d.fr < x.s ∧ 0 ≤ d.tt ∧ d.tt < x.s := by
 unfold rightF rightB at h
 simp only [Bool.and_eq_true, decide_eq_true_eq, List.all_eq_true, Bool.not_eq_true'] at h
 refine ⟨h.1.2, fun d hd => ?_⟩
 have hb := h.2 d hd
 unfold badE at hb
 simp only [Bool.or_eq_false_iff, Bool.not_eq_false', inS, Bool.and_eq_true, decide_eq_true_eq] at hb
 exact ⟨hb.1.1.2.1, hb.1.1.2.2, hb.1.2.1, hb.1.2.2⟩
theorem uFold_bound : ∀ (l : List NF), (∀ x ∈ l, rightF x = true ∧ x.E.length ≤ 1048576 ∧ x.R.length ≤ 1048576) → 1 ≤ (uFold l).s ∧ (uFold l).s ≤ 1 + l.length * 1048576 ∧ (uFold l).E.length ≤ l.length * 1048577 ∧ (uFold l).R.length ≤ 1 + l.length * 1048576 := by
 intro l
 obtain ⟨r, hr⟩ : ∃ r, r = l.reverse := ⟨_, rfl⟩
 have : l = r.reverse := by rw [hr, List.reverse_reverse]
 clear hr
 subst this
 induction r with
 | nil => intro _; simp [uFold]
 | cons x r ih =>
  intro h
  rw [List.reverse_cons] at h ⊢
  have h1 := ih (fun y hy => h y (by simp at hy ⊢; exact .inl hy))
  have h2 := h x (by simp)
  have h3 := (right_parts h2.1).1
  rw [uFold_snoc]
  simp only [uStep, List.length_append, List.length_cons, List.length_nil, List.length_map, List.length_reverse] at h1 ⊢
  omega
structure MV where
 F : NF
 A : Option Addr
 c : Nat
 B : Option Addr
 d : Nat
def MV.C (x : MV) : Array Value := nfaC x.F.s x.A x.F.E.length x.c x.B x.F.R.length x.d
theorem MV.C_size (x : MV) : x.C.size = 3 := rfl
def MsIn (w : World) (B : Nat) (l : List MV) : Prop := ∀ x ∈ l, SliceOf w B 7 edgC x.A x.F.E ∧ SliceOf w B 1 encR x.B x.F.R ∧ x.F.E.length ≤ 1048576 ∧ x.F.R.length ≤ 1048576
theorem run_bs0 (w : World) : (Instr.buildSlice 24 1 #[(0, .int .u32 0)]).run Tryz.prog w = .ok (.slice (some ⟨w.heap.size, 0, none⟩) 1 1) (w.alloc (.cells (encR 0) 42)) := by kernel_rfl
theorem run_buildN1 (w : World) (B : Option Addr) (m d : Nat) : (Instr.build 26 #[(0, .int .i64 1), (2, .slice B m d)]).run Tryz.prog w = .ok (.agg (nfaC 1 none 0 0 B m d)) w := by kernel_rfl
theorem run_buildE0 (w : World) (x : Int) : (Instr.build 69 #[(0, .int .i64 1), (1, .int .i64 0), (2, .int .i64 x)]).run Tryz.prog w = .ok (.agg (edgC ⟨1, 0, x, 0⟩)) w := by kernel_rfl
section
variable {ops : Array Oper} {rest : List Oper} {o : Oper} {a : Act} {w : World} {Q : Exit → Act → World → Prop}
theorem wl_bs0 (hgd : o.guard = none) (ho : o.op = .buildSlice 24 1 #[(0, .const (.int .u32 0))])
  (h : wpList Tryz.prog ops Q rest (a.put o.dst (.slice (some ⟨w.heap.size, 0, none⟩) 1 1)) (w.alloc (.cells (encR 0) 42))) : wpList Tryz.prog ops Q (o :: rest) a w := by
 have e : (#[(0, Operand.const (Value.int .u32 0))].map fun p : Nat × Operand => (p.1, a.eval p.2)) = #[(0, Value.int .u32 0)] := by simp; rfl
 exact wl_run hgd (v := .slice (some ⟨w.heap.size, 0, none⟩) 1 1) (by unfold execOp; simp only [ho, e, Sem.run_bind, run_bs0, Result.andThen_ok, Sem.run_pure]) h
theorem wl_buildN1 (hgd : o.guard = none) (x : Operand) (ho : o.op = .build 26 #[(0, .const (.int .i64 1)), (2, x)]) (B : Option Addr) (m d : Nat) (hx : a.eval x = .slice B m d)
  (h : wpList Tryz.prog ops Q rest (a.put o.dst (.agg (nfaC 1 none 0 0 B m d))) w) : wpList Tryz.prog ops Q (o :: rest) a w := by
 have e : (#[(0, Operand.const (Value.int .i64 1)), (2, x)].map fun p : Nat × Operand => (p.1, a.eval p.2)) = #[(0, Value.int .i64 1), (2, .slice B m d)] := by simp [hx]; rfl
 exact wl_run hgd (v := .agg (nfaC 1 none 0 0 B m d)) (by unfold execOp; simp only [ho, e, Sem.run_bind, run_buildN1, Result.andThen_ok, Sem.run_pure]) h
theorem wl_buildE0 (hgd : o.guard = none) (x : Operand) (ho : o.op = .build 69 #[(0, .const (.int .i64 1)), (1, .const (.int .i64 0)), (2, x)]) (z : Int) (hx : a.eval x = .int .i64 z)
  (h : wpList Tryz.prog ops Q rest (a.put o.dst (.agg (edgC ⟨1, 0, z, 0⟩))) w) : wpList Tryz.prog ops Q (o :: rest) a w := by
 have e : (#[(0, Operand.const (Value.int .i64 1)), (1, Operand.const (Value.int .i64 0)), (2, x)].map fun p : Nat × Operand => (p.1, a.eval p.2)) = #[(0, Value.int .i64 1), (1, .int .i64 0), (2, .int .i64 z)] := by simp [hx]; exact ⟨rfl, rfl⟩
 exact wl_run hgd (v := .agg (edgC ⟨1, 0, z, 0⟩)) (by unfold execOp; simp only [ho, e, Sem.run_bind, run_buildE0, Result.andThen_ok, Sem.run_pure]) h
theorem wl_load_nfa_row (hgd : o.guard = none) (x : Operand) (ho : o.op = .load 26 x) (b off : Nat) (hx : a.eval x = .pointer (some ⟨b, off, none⟩)) (y : MV) (hr : RowAt w b off y.C)
  (h : wpList Tryz.prog ops Q rest (a.put o.dst (.agg y.C)) w) : wpList Tryz.prog ops Q (o :: rest) a w :=
 wl_load_nfa_at hgd x ho b off hx _ _ _ _ _ _ _ hr h
theorem wl_store_mv (hgd : o.guard = none) (x y : Operand) (ho : o.op = .store 26 x y) (g : Nat) (z : MV) (hx : a.eval x = .pointer (some ⟨g, 0, none⟩)) (hy : a.eval y = .agg z.C) (old : Array Value) (ho2 : old.size = 3) (hb : Blk w g 26 old)
  (h : ∀ w', Blk w' g 26 z.C → w.grownBy w' (some g) → wpList Tryz.prog ops Q rest (a.put o.dst undef) w') : wpList Tryz.prog ops Q (o :: rest) a w :=
 wpList_store_row hgd _ x y ho g _ hx hy _ _ hb (info_nfaN.trans rfl) (by rw [ho2]; rfl) (by simp [MV.C, nfaC, Value.oneCell']) (h _ (hb.setRow_same _) (zxs (zzk _ _) _))
theorem wl_load_mv (hgd : o.guard = none) (x : Operand) (ho : o.op = .load 26 x) (g : Nat) (hx : a.eval x = .pointer (some ⟨g, 0, none⟩)) (z : MV) (hb : Blk w g 26 z.C)
  (h : wpList Tryz.prog ops Q rest (a.put o.dst (.agg z.C)) w) : wpList Tryz.prog ops Q (o :: rest) a w :=
 wpList_load_row hgd _ x ho g hx _ _ _ _ hb Tryz.underlying26 rfl (info_nfaN.trans rfl) h
end
end Go.Proofs.YtkedgombccdamaaGreatDoor
namespace Go.Proofs.YtkedgombccdamaaGreatDoor
open Go.RowKit
set_option linter.unusedVariables false
set_option linter.unusedSimpArgs false
set_option maxHeartbeats 400000 in
theorem of_any (A : Option Addr) (n c : Nat) (l : List UInt8) (w : World) (hn : n = l.length) (hm : n ≤ maxLen) (hs : SliceOf w w.heap.size 1 enc8 A l) :
  Calls Tryz.prog 80 #[.slice A n c] w fun e w' => e = .returned (.agg (setC (ofB l))) ∧ Below w.heap.size w w' := by
 have Hn := Lib.hid hn
 clear hn
 unfold maxLen at hm
 have hs2 : w.heap.size ≤ w.heap.size + 1 := by omega
 go_enter Tryz.func80, Tryz.ntmps80
 go_wp2
 go_loopw [8] (fun i wr => ∃ k : Nat, k ≤ n ∧ i = .int .i64 k ∧ Blk wr (w.heap.size + 1) 53 (setC (ofB (l.take k))) ∧ Blk wr w.heap.size 53 (setC 0) ∧ Below w.heap.size w wr) (fun i _ => n - (intOf i).toNat)
 case atStart =>
  refine ⟨0, by omega, rfl, ?_, ?_, ?_⟩
  ·rw [show ofB (l.take 0) = 0 from rfl]
   exact Blk.new' _ _ _ (World.size_alloc _ _).symm
  ·exact (Blk.new _ _ _).alloc _
  ·exact ((Below.refl _ _).alloc (Nat.le_refl _) _).alloc (by simp) _
 case round =>
  obtain ⟨k, hk, rfl, hb1, hb2, hB⟩ := hrel
  by_cases hlt : k < n
  ·have hlt' : k < l.length := by have := Hn.out; omega
   obtain ⟨b, off, rfl, hbl, hrow⟩ := (hs.below hB).at_ (by omega)
   have hc := hrow k hlt' 0 (.int .u8 (l[k].toNat)) rfl
   rw [Nat.mul_one, Nat.add_zero] at hc
   have hu : l[k].toNat < 256 := l[k].toNat_lt
   clear hrow
   go_wp2_with (go_at_call 93; refine (put_any _ _ hu _ _ hb1).mono ?_; rintro e w' ⟨rfl, hb1', hg1⟩)
   go_roundw
   case rel =>
    refine ⟨k + 1, by omega, by go_num, ?_, hb2.grown hg1 (by simp), hB.grown hg1 hB.size (by rintro k ⟨⟩; exact hs2)⟩
    rw [take_snoc' l k hlt', ofB_snoc]
    exact hb1'
   case measure => simp [intOf]; omega
  ·have hkk : l.take k = l := List.take_of_length_le (by have := Hn.out; omega)
   rw [hkk] at hb1
   clear hkk
   go_wp2_with (first | (refine zqv rfl _ rfl _ rfl _ hb1 ?_) | (refine zqm rfl _ _ rfl _ _ rfl rfl _ hb2 ?_; intro w1 hb4 hg4))
   exact ret_set rfl rfl hb4 rfl ⟨rfl, hB.grown hg4 hB.size (by rintro k ⟨⟩; exact Nat.le_refl _)⟩
set_option maxHeartbeats 400000 in
theorem span_any (f t : Nat) (w : World) (hf : f < 256) (ht : t < 256) :
  Calls Tryz.prog 98 #[.int .u8 f, .int .u8 t] w fun e w' => e = .returned (.agg (setC (spanB f t))) ∧ Below w.heap.size w w' := by
 have hs2 : w.heap.size ≤ w.heap.size + 1 := by omega
 go_enter Tryz.func98, Tryz.ntmps98
 go_wp2
 go_loopw [13] (fun i wr => ∃ k : Nat, k ≤ t + 1 - f ∧ i = .int .i64 k ∧ Blk wr (w.heap.size + 1) 53 (setC (setTo (fun i => decide (f ≤ i ∧ i ≤ t)) (f + k))) ∧ Blk wr w.heap.size 53 (setC 0) ∧ Below w.heap.size w wr) (fun i _ => t + 1 - f - (intOf i).toNat)
 case atStart =>
  refine ⟨0, by omega, rfl, ?_, ?_, ?_⟩
  ·rw [setTo_none (by intro i hi; simp; omega)]
   exact Blk.new' _ _ _ (World.size_alloc _ _).symm
  ·exact (Blk.new _ _ _).alloc _
  ·exact ((Below.refl _ _).alloc (Nat.le_refl _) _).alloc (by simp) _
 case round =>
  obtain ⟨k, hk, rfl, hb1, hb2, hB⟩ := hrel
  by_cases hlt : k < t + 1 - f
  ·have hlt2 : (k : Int) < (t : Int) - (f : Int) + 1 := by omega
   go_wp2_with (go_at_call 93; refine (put_int _ _ (by omega) (by omega) _ _ hb1).mono ?_; rintro e w' ⟨rfl, hb1', hg1⟩)
   go_roundw
   case rel =>
    refine ⟨k + 1, by omega, by go_num, ?_, hb2.grown hg1 (by simp), hB.grown hg1 hB.size (by rintro k ⟨⟩; exact hs2)⟩
    rw [show ((f : Int) + (k : Int)).toNat = f + k by omega] at hb1'
    rw [show f + (k + 1) = f + k + 1 by omega, setTo_succ_pos (by simp; omega)]
    exact hb1'
   case measure => simp [intOf]; omega
  ·have hlt2 : ¬ (k : Int) < (t : Int) - (f : Int) + 1 := by omega
   obtain rfl : k = t + 1 - f := by omega
   rw [spanB_eq f t ht] at hb1
   go_wp2_with (first | (refine zqv rfl _ rfl _ rfl _ hb1 ?_) | (refine zqm rfl _ _ rfl _ _ rfl rfl _ hb2 ?_; intro w1 hb4 hg4))
   exact ret_set rfl rfl hb4 rfl ⟨rfl, hB.grown hg4 hB.size (by rintro k ⟨⟩; exact Nat.le_refl _)⟩
set_option maxHeartbeats 400000 in
theorem not_any (x : BSet) (w : World) :
  Calls Tryz.prog 78 #[.agg (setC x)] w fun e w' => e = .returned (.agg (setC (notB x))) ∧ Below w.heap.size w w' := by
 have hs2 : w.heap.size ≤ w.heap.size + 1 := by omega
 have h0 := Blk.new w 53 (setC x)
 have h0' := h0.alloc (.cells (setC 0) 53)
 go_enter Tryz.func78, Tryz.ntmps78
 go_wp2_with (go_at_call 93; refine (put_int _ _ (by omega) (by omega) _ _ h0').mono ?_; rintro e w' ⟨rfl, hb1', hg1⟩)
 go_loopw [5] (fun i wr => ∃ k : Nat, k ≤ 4 ∧ i = .int .i64 k ∧ Blk wr w.heap.size 53 (setC (mix k (notB x) (x ||| bit 10))) ∧ Blk wr (w.heap.size + 1) 53 (setC 0) ∧ Below w.heap.size w wr) (fun i _ => 4 - (intOf i).toNat)
 case atStart =>
  refine ⟨0, by omega, rfl, ?_, ?_, ?_⟩
  ·rw [mix_zero]; exact hb1'
  ·exact (Blk.new' (w.alloc (.cells (setC x) 53)) 53 (setC 0) (World.size_alloc _ _).symm).grown hg1 (by simp)
  ·exact (((Below.refl _ _).alloc (Nat.le_refl _) _).alloc (by simp) _).grown hg1 (by simp; omega) (by rintro k ⟨⟩; exact Nat.le_refl _)
 case round =>
  obtain ⟨k, hk, rfl, hb1, hb2, hB⟩ := hrel
  by_cases hlt : k < 4
  ·have c1 := hb1.cellv (setC_at _ k hlt)
   have f1 := hb1.frozen k
   go_wp2
   go_roundw
   case rel =>
    refine ⟨k + 1, by omega, by go_num, ?_, (hb2.far (by simp) _), (hB.setCell (Nat.le_refl _) _)⟩
    rw [word_mix_ge _ _ (Nat.le_refl _) hlt, notW hlt]
    exact hb1.set_eq (mix_set hlt rfl)
   case measure => simp [intOf]; omega
  ·obtain rfl : k = 4 := by omega
   rw [mix_four] at hb1
   go_wp2_with (first | (refine zqv rfl _ rfl _ rfl _ hb1 ?_) | (refine zqm rfl _ _ rfl _ _ rfl rfl _ hb2 ?_; intro w1 hb4 hg4))
   exact ret_set rfl rfl hb4 rfl ⟨rfl, hB.grown hg4 hB.size (by rintro k ⟨⟩; exact hs2)⟩
set_option maxHeartbeats 400000 in
theorem join_any (A : Option Addr) (n c : Nat) (l : List BSet) (w : World) (hn : n = l.length) (hm : n ≤ maxLen) (hs : SliceOf w w.heap.size 4 setC A l) :
  Calls Tryz.prog 90 #[.slice A n c] w fun e w' => e = .returned (.agg (setC (joinL l))) ∧ Below w.heap.size w w' := by
 have Hn := Lib.hid hn
 clear hn
 unfold maxLen at hm
 have hs2 : w.heap.size ≤ w.heap.size + 1 := by omega
 go_enter Tryz.func90, Tryz.ntmps90
 go_wp2
 go_loopw [9] (fun i wr => ∃ k : Nat, k ≤ n ∧ i = .int .i64 k ∧ Blk wr (w.heap.size + 1) 53 (setC (joinL (l.take k))) ∧ Blk wr w.heap.size 53 (setC 0) ∧ Below w.heap.size w wr) (fun i _ => n - (intOf i).toNat)
 case atStart =>
  refine ⟨0, by omega, rfl, ?_, ?_, ?_⟩
  ·rw [show joinL (l.take 0) = 0 from rfl]
   exact Blk.new' _ _ _ (World.size_alloc _ _).symm
  ·exact (Blk.new _ _ _).alloc _
  ·exact ((Below.refl _ _).alloc (Nat.le_refl _) _).alloc (by simp) _
 case round =>
  obtain ⟨k, hk, rfl, hb1, hb2, hB⟩ := hrel
  by_cases hlt : k < n
  ·have hlt' : k < l.length := by have := Hn.out; omega
   obtain ⟨b, off, rfl, hbl, hrow⟩ := (hs.below hB).at_ (by omega)
   have hr := hrow k hlt'
   clear hrow
   have hlt5 : w.heap.size + 1 < wr.heap.size := hb1.lt
   go_wp2_with (first | (refine zqo rfl _ rfl _ _ rfl _ hr ?_) | (refine zqm rfl _ _ rfl _ _ rfl rfl 0 (Blk.new _ _ _) ?_; intro w1 hb5 hg5))
   have hb1' := (hb1.alloc (.cells (setC 0) 53)).grown hg5 (by simp; omega)
   have hb2' := (hb2.alloc (.cells (setC 0) 53)).grown hg5 (by simp; omega)
   have hB' := (hB.alloc hB.size (.cells (setC 0) 53)).grown hg5 (by simp; omega) (by rintro k ⟨⟩; omega)
   obtain ⟨g, hg⟩ : ∃ g, g = wr.heap.size := ⟨_, rfl⟩
   rw [← hg] at hb5 ⊢
   have hgw : w.heap.size + 1 < g := by omega
   clear hg hg5 hb1 hb2 hB hr hlt5
   obtain ⟨wo, rfl⟩ : ∃ wo : World, wo = wr := ⟨_, rfl⟩
   go_loopw [13] (fun i wr => ∃ j : Nat, j ≤ 4 ∧ i = .int .i64 j ∧ Blk wr (w.heap.size + 1) 53 (setC (mix j (joinL (l.take k) ||| l[k]) (joinL (l.take k)))) ∧ Blk wr g 53 (setC l[k]) ∧ Blk wr w.heap.size 53 (setC 0) ∧ Below w.heap.size w wr) (fun i _ => 4 - (intOf i).toNat)
   case atStart => exact ⟨0, by omega, rfl, by rw [mix_zero]; exact hb1', hb5, hb2', hB'⟩
   case round =>
    obtain ⟨j, hj, rfl, hb1, hb5, hb2, hB⟩ := hrel
    by_cases hjt : j < 4
    ·have c1 := hb1.cellv (setC_at _ j hjt)
     have c2 := hb5.cellv (setC_at _ j hjt)
     have f1 := hb1.frozen j
     go_wp2
     go_region
     go_wp2
     go_roundw
     case rel =>
      refine ⟨j + 1, by omega, by go_num, ?_, (hb5.far (by simp; omega) _).drew, (hb2.far (by simp) _).drew, (hB.setCell hs2 _).drew⟩
      rw [word_mix_ge _ _ (Nat.le_refl _) hjt, u64_or_nat _ _ (word_lt' _ _) (word_lt' _ _)]
      exact (hb1.set_eq (mix_set hjt (word_or _ _ _))).drew
     case measure => simp [intOf]; omega
    ·obtain rfl : j = 4 := by omega
     rw [mix_four] at hb1
     go_wp2
     go_roundw
     case rel => exact ⟨k + 1, by omega, by go_num, by rw [take_snoc' l k hlt', joinL_snoc]; exact hb1, hb2, hB⟩
     case measure => simp [intOf]; omega
  ·have hkk : l.take k = l := List.take_of_length_le (by have := Hn.out; omega)
   rw [hkk] at hb1
   clear hkk
   go_wp2_with (first | (refine zqv rfl _ rfl _ rfl _ hb1 ?_) | (refine zqm rfl _ _ rfl _ _ rfl rfl _ hb2 ?_; intro w1 hb4 hg4))
   exact ret_set rfl rfl hb4 rfl ⟨rfl, hB.grown hg4 hB.size (by rintro k ⟨⟩; exact Nat.le_refl _)⟩
end Go.Proofs.YtkedgombccdamaaGreatDoor
namespace Go.Proofs.YtkedgombccdamaaGreatDoor
open Go.RowKit Go.Maps
set_option linter.unusedVariables false
set_option linter.unusedSimpArgs false
def setsS (xs : List BSet) : GSpec :=
 ⟨fun v w => ∃ A n c, v = .slice A n c ∧ n = xs.length ∧ SliceOf w w.heap.size 4 setC A xs,
  fun v w w' ⟨A, n, c, h1, h2, h3⟩ hb => ⟨A, n, c, h1, h2, (h3.below hb).more hb.size⟩⟩
def bytesS (xs : List UInt8) : GSpec :=
 ⟨fun v w => ∃ A n c, v = .slice A n c ∧ n = xs.length ∧ SliceOf w w.heap.size 1 enc8 A xs,
  fun v w w' ⟨A, n, c, h1, h2, h3⟩ hb => ⟨A, n, c, h1, h2, (h3.below hb).more hb.size⟩⟩
theorem enter_join (args : Array Value) (w : World) : (callFunc 90 args).run Tryz.prog w = .ok (.enter 90 args) w := by kernel_rfl
theorem enter_meet (args : Array Value) (w : World) : (callFunc 92 args).run Tryz.prog w = .ok (.enter 92 args) w := by kernel_rfl
theorem enter_not (args : Array Value) (w : World) : (callFunc 78 args).run Tryz.prog w = .ok (.enter 78 args) w := by kernel_rfl
theorem build_sets2 (x y : BSet) (w : World) : (Instr.buildSlice 72 2 #[(0, .agg (setC x)), (1, .agg (setC y))]).run Tryz.prog w = .ok (.slice (some ⟨w.heap.size, 0, none⟩) 2 2) (w.alloc (.cells (setC x ++ setC y) 53)) := by kernel_rfl
theorem row_of_append {w : World} {g : Nat} {t : TypeId} {A B C : Array Value} (h : Blk w g t (A ++ B ++ C)) : RowAt w g A.size B := by
 intro j v hv
 have hj : j < B.size := by
  rcases Nat.lt_or_ge j B.size with h1 | h1
  ·exact h1
  ·rw [Array.getElem?_eq_none h1] at hv; cases hv
 apply h.cellv
 rw [Array.getElem?_append_left (by simp; omega), Array.getElem?_append_right (by omega)]
 rw [show A.size + j - A.size = j by omega]
 exact hv
theorem sets2_of (x y : BSet) (w : World) : SliceOf (w.alloc (.cells (setC x ++ setC y) 53)) (w.alloc (.cells (setC x ++ setC y) 53)).heap.size 4 setC (some ⟨w.heap.size, 0, none⟩) [x, y] := by
 refine .inr ⟨w.heap.size, 0, rfl, by simp, fun i hi => ?_⟩
 have hb := Blk.new w 53 (setC x ++ setC y)
 match i, hi with
 | 0, _ => exact row_of_append (A := #[]) (C := setC y) (by simpa using hb)
 | 1, _ => exact row_of_append (A := setC x) (C := #[]) (by simpa using hb)
theorem enter_of (args : Array Value) (w : World) : (callFunc 80 args).run Tryz.prog w = .ok (.enter 80 args) w := by kernel_rfl
theorem build_byte1 (b : Int) (w : World) : (Instr.buildSlice 74 1 #[(0, .int .u8 b)]).run Tryz.prog w = .ok (.slice (some ⟨w.heap.size, 0, none⟩) 1 1) (w.alloc (.cells #[.int .u8 b] 5)) := by kernel_rfl
theorem enter_span (args : Array Value) (w : World) : (callFunc 98 args).run Tryz.prog w = .ok (.enter 98 args) w := by kernel_rfl
theorem build_byte2 (b c : Int) (w : World) : (Instr.buildSlice 74 2 #[(0, .int .u8 b), (1, .int .u8 c)]).run Tryz.prog w = .ok (.slice (some ⟨w.heap.size, 0, none⟩) 2 2) (w.alloc (.cells #[.int .u8 b, .int .u8 c] 5)) := by kernel_rfl
theorem bytes_of_blk {w : World} {g : Nat} {t : TypeId} {l : List UInt8} (h : Blk w g t (l.map fun b => Value.int .u8 b.toNat).toArray) : SliceOf w w.heap.size 1 enc8 (some ⟨g, 0, none⟩) l := by
 refine .inr ⟨g, 0, rfl, h.lt, fun i hi j v hv => ?_⟩
 have hj : j = 0 := by
  rcases Nat.eq_zero_or_pos j with h0 | h0
  ·exact h0
  ·rw [Array.getElem?_eq_none (by simp [enc8]; omega)] at hv; cases hv
 subst hj
 apply h.cellv
 simp only [enc8, List.getElem?_toArray, List.getElem?_cons_zero, Option.some.injEq] at hv
 subst hv
 simp [hi]
theorem bytes_of_two {w : World} {g : Nat} {t : TypeId} (b c : UInt8) (h : Blk w g t #[.int .u8 b.toNat, .int .u8 c.toNat]) : SliceOf w w.heap.size 1 enc8 (some ⟨g, 0, none⟩) [b, c] := by
 have := bytes_of_blk (l := [b, c]) (w := w) (g := g) (t := t) h
 exact this
section
variable {ops : Array Oper} {S : Nat → GSpec} {Q : Exit → Act → World → Prop} {i : Nat} {o : Oper} {a : Act} {w : World}
theorem gs_sets2 (hw : Region.wanted o (yielded ops a.tmps) = true) (x y : Operand) (ho : o.op = .buildSlice 72 2 #[(0, x), (1, y)]) (p q : BSet) (hx : a.eval x = .agg (setC p)) (hy : a.eval y = .agg (setC q))
  (hp : ∀ v w', (setsS [p, q]).p v w' → (S i).p v w') : GStep Tryz.prog ops S Q i o a w :=
 zzx hw (v := .slice (some ⟨w.heap.size, 0, none⟩) 2 2) (w' := w.alloc (.cells (setC p ++ setC q) 53))
  (by
   have e : (#[(0, x), (1, y)] : Array (Nat × Operand)).map (fun (i, x) => (i, a.eval x)) = #[(0, .agg (setC p)), (1, .agg (setC q))] := by simp [hx, hy]
   unfold execOp; simp only [ho, e, Sem.run_bind, build_sets2, Result.andThen_ok, Sem.run_pure])
  (zqc (Below.refl _ _) _) (hp _ _ ⟨_, _, _, rfl, rfl, sets2_of p q w⟩)
theorem gs_join (hw : Region.wanted o (yielded ops a.tmps) = true) (x : Operand) (ats : Array TypeId) (ho : o.op = .call { callee := .value (.func 90), args := #[x], argTypes := ats }) (xs : List BSet)
  (hx : (setsS xs).p (a.eval x) w) (hl : xs.length ≤ maxLen) (hp : ∀ w', (S i).p (.agg (setC (joinL xs))) w') : GStep Tryz.prog ops S Q i o a w := by
 obtain ⟨A, n, c, hv, hn, hs⟩ := hx
 exact zze hw _ _ _ ho enter_join _ (map1 hv) ((join_any A n c xs w hn (by omega) hs).mono fun e w' ⟨he, hb⟩ => ⟨_, he, hb, hp _⟩)
theorem gs_meet (hw : Region.wanted o (yielded ops a.tmps) = true) (x y : Operand) (ats : Array TypeId) (ho : o.op = .call { callee := .value (.func 92), args := #[x, y], argTypes := ats }) (p q : BSet)
  (hx : a.eval x = .agg (setC p)) (hy : a.eval y = .agg (setC q)) (hp : ∀ w', (S i).p (.agg (setC (p &&& q))) w') : GStep Tryz.prog ops S Q i o a w :=
 zze hw _ _ _ ho enter_meet _ (map2 hx hy) ((meet_any p q w).mono fun e w' ⟨he, hb⟩ => ⟨_, he, hb, hp _⟩)
theorem gs_not (hw : Region.wanted o (yielded ops a.tmps) = true) (x : Operand) (ats : Array TypeId) (ho : o.op = .call { callee := .value (.func 78), args := #[x], argTypes := ats }) (p : BSet)
  (hx : a.eval x = .agg (setC p)) (hp : ∀ w', (S i).p (.agg (setC (notB p))) w') : GStep Tryz.prog ops S Q i o a w :=
 zze hw _ _ _ ho enter_not _ (map1 hx) ((not_any p w).mono fun e w' ⟨he, hb⟩ => ⟨_, he, hb, hp _⟩)
theorem gs_byte1 (hw : Region.wanted o (yielded ops a.tmps) = true) (x : Operand) (ho : o.op = .buildSlice 74 1 #[(0, x)]) (b : UInt8) (hx : a.eval x = .int .u8 b.toNat)
  (hp : ∀ v w', (bytesS [b]).p v w' → (S i).p v w') : GStep Tryz.prog ops S Q i o a w :=
 zzx hw (v := .slice (some ⟨w.heap.size, 0, none⟩) 1 1) (w' := w.alloc (.cells #[.int .u8 b.toNat] 5))
  (by
   have e : (#[(0, x)] : Array (Nat × Operand)).map (fun (i, x) => (i, a.eval x)) = #[(0, .int .u8 b.toNat)] := by simp [hx]
   unfold execOp; simp only [ho, e, Sem.run_bind, build_byte1, Result.andThen_ok, Sem.run_pure])
  (zqc (Below.refl _ _) _) (hp _ _ ⟨_, _, _, rfl, rfl, bytes_of_blk (l := [b]) (Blk.new w 5 #[.int .u8 b.toNat])⟩)
theorem gs_of (hw : Region.wanted o (yielded ops a.tmps) = true) (x : Operand) (ats : Array TypeId) (ho : o.op = .call { callee := .value (.func 80), args := #[x], argTypes := ats }) (xs : List UInt8)
  (hx : (bytesS xs).p (a.eval x) w) (hl : xs.length ≤ maxLen) (hp : ∀ w', (S i).p (.agg (setC (ofB xs))) w') : GStep Tryz.prog ops S Q i o a w := by
 obtain ⟨A, n, c, hv, hn, hs⟩ := hx
 exact zze hw _ _ _ ho enter_of _ (map1 hv) ((of_any A n c xs w hn (by omega) hs).mono fun e w' ⟨he, hb⟩ => ⟨_, he, hb, hp _⟩)
theorem gs_span (hw : Region.wanted o (yielded ops a.tmps) = true) (x y : Operand) (ats : Array TypeId) (ho : o.op = .call { callee := .value (.func 98), args := #[x, y], argTypes := ats }) (p q : Nat)
  (hx : a.eval x = .int .u8 (p : Int)) (hy : a.eval y = .int .u8 (q : Int)) (hp0 : p < 256) (hq0 : q < 256) (hp : ∀ w', (S i).p (.agg (setC (spanB p q))) w') : GStep Tryz.prog ops S Q i o a w :=
 zze hw _ _ _ ho enter_span _ (map2 hx hy) ((span_any p q w hp0 hq0).mono fun e w' ⟨he, hb⟩ => ⟨_, he, hb, hp _⟩)
theorem gs_byte2 (hw : Region.wanted o (yielded ops a.tmps) = true) (x y : Operand) (ho : o.op = .buildSlice 74 2 #[(0, x), (1, y)]) (b c : UInt8) (hx : a.eval x = .int .u8 b.toNat) (hy : a.eval y = .int .u8 c.toNat)
  (hp : ∀ v w', (bytesS [b, c]).p v w' → (S i).p v w') : GStep Tryz.prog ops S Q i o a w :=
 zzx hw (v := .slice (some ⟨w.heap.size, 0, none⟩) 2 2) (w' := w.alloc (.cells #[.int .u8 b.toNat, .int .u8 c.toNat] 5))
  (by
   have e : (#[(0, x), (1, y)] : Array (Nat × Operand)).map (fun (i, x) => (i, a.eval x)) = #[(0, .int .u8 b.toNat), (1, .int .u8 c.toNat)] := by simp [hx, hy]
   unfold execOp; simp only [ho, e, Sem.run_bind, build_byte2, Result.andThen_ok, Sem.run_pure])
  (zqc (Below.refl _ _) _) (hp _ _ ⟨_, _, _, rfl, rfl, bytes_of_two b c (Blk.new w 5 #[.int .u8 b.toNat, .int .u8 c.toNat])⟩)
theorem ret_set2 {fn : Func} {p u : Tmp} {g : Nat} {x : BSet} (hres : fn.results = #[.cell p 53, .tmp u])
  (hp : a.tmps.getD p undef = .pointer (some ⟨g, 0, none⟩)) (hb : Blk w g 53 (setC x))
  (hdf : a.defers = []) {R : Ending → World → Prop} (hR : R (.returned (.tuple #[.agg (setC x), a.tmps.getD u undef])) w) : bodyPost Tryz.prog fn R .ret a w :=
 ret_cell2 hres _ hp hb Tryz.underlying53 rfl (info_set.trans (by rw [zye])) hdf hR
end
theorem build_sets1 (x : BSet) (w : World) : (Instr.buildSlice 72 1 #[(0, .agg (setC x))]).run Tryz.prog w = .ok (.slice (some ⟨w.heap.size, 0, none⟩) 1 1) (w.alloc (.cells (setC x) 53)) := by kernel_rfl
theorem wl_build1 {ops : Array Oper} {rest : List Oper} {o : Oper} {a : Act} {w : World} {Q : Exit → Act → World → Prop} (hgd : o.guard = none) (x : Operand) (ho : o.op = .buildSlice 72 1 #[(0, x)]) (y : BSet) (hx : a.eval x = .agg (setC y))
  (h : wpList Tryz.prog ops Q rest (a.put o.dst (.slice (some ⟨w.heap.size, 0, none⟩) 1 1)) (w.alloc (.cells (setC y) 53))) : wpList Tryz.prog ops Q (o :: rest) a w :=
 wpList_plain hgd fun _ hK => by
  have e : (#[(0, x)] : Array (Nat × Operand)).map (fun (i, x) => (i, a.eval x)) = #[(0, .agg (setC y))] := by simp [hx]
  unfold Oper.wp execOp
  simp only [ho, e, Sem.run_bind, build_sets1, Result.andThen_ok, Sem.run_pure]
  exact hK _ _ h
end Go.Proofs.YtkedgombccdamaaGreatDoor
