/- Build of both programs. No condition beyond those named in each lemma. -/
import Derived.Test.YtgahdookojbbiaaLayF
namespace Go.Proofs.Ytgahdookojbbiaa
open Go.RowKit Go.Maps
set_option linter.unusedVariables false
set_option linter.unusedSimpArgs false
attribute [local go_sem] Oper.semAt_some

def encR (v : Nat) : Array Value := #[.int .u32 (v : Int)]
theorem encR_size (v : Nat) : (encR v).size = 1 := rfl
theorem encR_one (v : Nat) : (encR v).all (·.oneCell') = true := by simp [encR, Value.oneCell']
theorem info_u32 : (Try.prog.info? 55).map (·.size) = some 1 := by kernel_rfl
theorem info_r3 : (Try.prog.info? 55).map (fun i => (i.zero, i.size, i.bytes)) = some (some (.int .u32 0), 1, 4) := by kernel_rfl
theorem info_rules1 : (Try.prog.info? 32).map (·.size) = some 1 := by kernel_rfl
/-- a store of one cell into a row of the call's own -/
theorem wl_store_rule {base : Nat} {w : World} {ys : List Nat} {ops : Array Oper} {rest : List Oper} {o : Oper} {a : Act} {Q : Exit → Act → World → Prop} (hgd : o.guard = none) (x y : Operand) (ho : o.op = .store 55 x y)
    (g k n cap : Nat) (hx : a.eval x = .pointer (some ⟨g, k, none⟩)) (z : Nat) (hy : a.eval y = .int .u32 (z : Int)) (hown : Own w base 55 1 encR (.slice (some ⟨g, 0, none⟩) n cap) ys) (hk : k < ys.length)
    (h : ∀ w', Own w' base 55 1 encR (.slice (some ⟨g, 0, none⟩) n cap) (ys.set k z) → w.grownBy w' (some g) → wpList Try.prog ops Q rest (a.put o.dst undef) w') : wpList Try.prog ops Q (o :: rest) a w := by
  have hcell : w.cell? ⟨g, k, none⟩ = some (.int .u32 (ys[k] : Nat)) := by
    have := hown.row encR_size k hk 0 _ rfl
    rw [Nat.mul_one] at this
    exact this
  have hfr := hown.frozen k
  have hrun : (storeVar 55 ⟨g, k, none⟩ (.int .u32 (z : Int))).run Try.prog w = .ok () (w.setCell ⟨g, k, none⟩ (.int .u32 (z : Int))) := by
    have hsz := info_u32
    cases hq : Try.prog.info? 55 with
    | none => rw [hq] at hsz; cases hsz
    | some j =>
      have hs : j.size = 1 := by rw [hq] at hsz; simpa using hsz
      have e := run_store Try.prog w ⟨g, k, none⟩ (.int .u32 (z : Int)) .plain rfl
      simp only [hcell, hfr, Bool.false_eq_true, if_false] at e
      have e0 : (⟨g, k, none⟩ : Addr).add 0 = ⟨g, k, none⟩ := rfl
      simp [storeVar, sizeOf, typeInfo, hq, hs, Value.cells, storeCells, e0, e]
  refine wpList_plain hgd fun _ hK => ?_
  unfold Oper.wp execOp
  simp only [ho, hx, hy, Instr.storeAt, Instr.sureAddr, Sem.run_bind, Sem.run_pure, Result.andThen_ok, hrun]
  have o1 := hown.setCell (i := k) (q := 0) (y' := z) (u := .int .u32 (z : Int)) encR_size hk (by decide) rfl
  rw [Nat.mul_one, Nat.add_zero] at o1
  exact hK _ _ (h _ o1 (only_setCell (only_refl _ _) (.inl rfl) _))
theorem wl_makeR {ops : Array Oper} {rest : List Oper} {o : Oper} {a : Act} {w : World} {Q : Exit → Act → World → Prop} (hgd : o.guard = none) (x y : Operand) (ho : o.op = .makeSlice 32 x y) (N base : Nat) (hx : a.eval x = .int .i64 N) (hy : a.eval y = .int .i64 N) (hN : N ≤ 1099511627776) (hb : base ≤ w.heap.size)
    (h : ∀ w', Own w' base 55 1 encR (.slice (some ⟨w.heap.size, 0, none⟩) N N) (List.replicate N 0) → Below w.heap.size w w' → wpList Try.prog ops Q rest (a.put o.dst (.slice (some ⟨w.heap.size, 0, none⟩) N N)) w') : wpList Try.prog ops Q (o :: rest) a w := by
  obtain ⟨i0, hi0, hz0, hz1, hz2⟩ := info_parts info_r3
  refine wpList_make_full w hgd x y _ ho base 55 i0 _ 1 Try.underlying32 hi0 hz0 hz1 _ _ _ _ N hx hy rfl rfl (by rw [hz2]; omega) (by unfold maxLen; omega) hb fun w' r1 r2 => ?_
  have e1 : (madeCells (Value.int .u32 0).cells (N * 1)).toList = flat encR (List.replicate N 0) := by
    apply List.ext_getElem
    · rw [Array.length_toList, size_madeCells]
      simp [flat, encR]
    · intro j h1 h2
      simp [madeCells, Value.cells, flat, encR, List.flatMap_replicate]
      rw [Nat.mod_one]
      rfl
  rw [e1] at r1
  refine h w' ?_ ⟨r2.os, r2.tape, r2.output, r2.size, fun k hk => r2.block k hk (by simp)⟩
  unfold Own
  rw [List.length_replicate]
  exact r1
theorem shl_u32 (w : World) (r : Nat) (h : r < 32) : (binOp .shl 55 (.int .u32 1) (.int .i64 (r : Int))).run Try.prog w = .ok (.int .u32 ((2 ^ r : Nat) : Int)) w :=
  match r, h with
  | 0, _ => by kernel_rfl
  | 1, _ => by kernel_rfl
  | 2, _ => by kernel_rfl
  | 3, _ => by kernel_rfl
  | 4, _ => by kernel_rfl
  | 5, _ => by kernel_rfl
  | 6, _ => by kernel_rfl
  | 7, _ => by kernel_rfl
  | 8, _ => by kernel_rfl
  | 9, _ => by kernel_rfl
  | 10, _ => by kernel_rfl
  | 11, _ => by kernel_rfl
  | 12, _ => by kernel_rfl
  | 13, _ => by kernel_rfl
  | 14, _ => by kernel_rfl
  | 15, _ => by kernel_rfl
  | 16, _ => by kernel_rfl
  | 17, _ => by kernel_rfl
  | 18, _ => by kernel_rfl
  | 19, _ => by kernel_rfl
  | 20, _ => by kernel_rfl
  | 21, _ => by kernel_rfl
  | 22, _ => by kernel_rfl
  | 23, _ => by kernel_rfl
  | 24, _ => by kernel_rfl
  | 25, _ => by kernel_rfl
  | 26, _ => by kernel_rfl
  | 27, _ => by kernel_rfl
  | 28, _ => by kernel_rfl
  | 29, _ => by kernel_rfl
  | 30, _ => by kernel_rfl
  | 31, _ => by kernel_rfl
  | n + 32, h => absurd h (by omega)
theorem gs_shl_u32 {ops : Array Oper} {S : Nat → GSpec} {Q : Exit → Act → World → Prop} {i : Nat} {o : Oper} {a : Act} {w : World} (hw : Region.wanted o (yielded ops a.tmps) = true) (t2 : TypeId) (x y : Operand) (ho : o.op = .binOp .shl 55 x y t2) (r : Nat) (hr : r < 32) (hx : a.eval x = .int .u32 1) (hy : a.eval y = .int .i64 (r : Int))
    (hp : (S i).p (.int .u32 ((2 ^ r : Nat) : Int)) w) : GStep Try.prog ops S Q i o a w :=
  gs_bin hw _ _ _ x y ho _ _ _ hx hy (by rw [eqGuard_at_int]; rfl) (shl_u32 w r hr) hp
theorem wl_shl_u32 {ops : Array Oper} {rest : List Oper} {o : Oper} {a : Act} {w : World} {Q : Exit → Act → World → Prop} (hgd : o.guard = none) (t2 : TypeId) (x y : Operand) (ho : o.op = .binOp .shl 55 x y t2) (r : Nat) (hr : r < 32) (hx : a.eval x = .int .u32 1) (hy : a.eval y = .int .i64 (r : Int))
    (h : wpList Try.prog ops Q rest (a.put o.dst (.int .u32 ((2 ^ r : Nat) : Int))) w) : wpList Try.prog ops Q (o :: rest) a w :=
  wl_bin hgd _ _ _ x y ho _ _ _ hx hy (by rw [eqGuard_at_int]; rfl) (shl_u32 w r hr) h
/-- a machine, plain -/
structure NF where
  s : Int
  E : List Edg
  R : List Nat
def NF.none : NF := ⟨0, [], []⟩
/-- a machine in memory -/
def NfaAt (w : World) (v : Value) (F : NF) : Prop :=
  ∃ A c B d, v = .agg (nfaC F.s A F.E.length c B F.R.length d) ∧ SliceOf w w.heap.size 7 edgC A F.E ∧ SliceOf w w.heap.size 1 encR B F.R
theorem NfaAt.then_ {w w' : World} {v : Value} {F : NF} (h : NfaAt w v F) (hb : Below w.heap.size w w') : NfaAt w' v F := by
  obtain ⟨A, c, B, d, h1, h2, h3⟩ := h
  exact ⟨A, c, B, d, h1, (h2.below hb).more hb.size, (h3.below hb).more hb.size⟩
theorem NfaAt.none_ (w : World) : NfaAt w (.agg (nfaC 0 none 0 0 none 0 0)) .none := ⟨_, _, _, _, rfl, .inl rfl, .inl rfl⟩
def layF (nd : Nd) : Ly × Nat := nd.lay ⟨1, []⟩ 0
def buildF (nd : Nd) (rule : Int) : NF × Int :=
  if nd.isT = false then (.none, 50) else if 2048 ≤ nd.U then (.none, 48) else if rule < 0 ∨ 32 ≤ rule then (.none, 1)
  else (⟨(layF nd).1.s, (layF nd).1.e, (List.replicate (layF nd).1.s 0).set (layF nd).2 (2 ^ rule.toNat)⟩, 0)
theorem layF_good {nd : Nd} (hT : nd.isT = true) : (layF nd).1.s = 1 + nd.U ∧ (layF nd).1.e.length ≤ 3 * nd.U ∧ (layF nd).2 < (layF nd).1.s := by
  have h := lay_good nd hT
  have h1 := h.st ⟨1, []⟩ 0
  have h2 := h.ed ⟨1, []⟩ 0
  have h3 := h.at_ ⟨1, []⟩ 0 (by simp)
  simp only [List.length_nil] at h2
  exact ⟨h1, by unfold layF; omega, h3⟩
theorem info_nfaN : (Try.prog.info? 34).map (·.size) = some 3 := by kernel_rfl
theorem build_nfa0 (w : World) : (Instr.build 34 #[]).run Try.prog w = .ok (.agg (nfaC 0 none 0 0 none 0 0)) w := by kernel_rfl
theorem build_mkP (w : World) : (Instr.build 72 #[]).run Try.prog w = .ok (.agg (mkP 0 (.slice none 0 0))) w := by kernel_rfl
theorem box_mkP (w : World) : (Instr.box 72 (.agg (mkP 0 (.slice none 0 0)))).run Try.prog w = .ok (.pointer (some ⟨w.heap.size, 0, none⟩)) (w.alloc (.cells (mkP 0 (.slice none 0 0)) 72)) := by kernel_rfl
theorem build_mkR (w : World) : (Instr.build 78 #[(0, .int .i64 1)]).run Try.prog w = .ok (.agg (mkR 1 (.slice none 0 0))) w := by kernel_rfl
theorem box_mkR (w : World) : (Instr.box 78 (.agg (mkR 1 (.slice none 0 0)))).run Try.prog w = .ok (.pointer (some ⟨w.heap.size, 0, none⟩)) (w.alloc (.cells (mkR 1 (.slice none 0 0)) 78)) := by kernel_rfl
section
variable {ops : Array Oper} {rest : List Oper} {o : Oper} {a : Act} {w : World} {Q : Exit → Act → World → Prop}
theorem wl_build_nfa0 (hgd : o.guard = none) (ho : o.op = .build 34 #[]) (h : wpList Try.prog ops Q rest (a.put o.dst (.agg (nfaC 0 none 0 0 none 0 0))) w) : wpList Try.prog ops Q (o :: rest) a w :=
  wl_run hgd (v := .agg (nfaC 0 none 0 0 none 0 0)) (by unfold execOp; simp only [ho, List.map_toArray, List.map_nil, Sem.run_bind, build_nfa0, Result.andThen_ok, Sem.run_pure]) h
theorem wl_build_mkP (hgd : o.guard = none) (ho : o.op = .build 72 #[]) (h : wpList Try.prog ops Q rest (a.put o.dst (.agg (mkP 0 (.slice none 0 0)))) w) : wpList Try.prog ops Q (o :: rest) a w :=
  wl_run hgd (v := .agg (mkP 0 (.slice none 0 0))) (by unfold execOp; simp only [ho, List.map_toArray, List.map_nil, Sem.run_bind, build_mkP, Result.andThen_ok, Sem.run_pure]) h
theorem wl_box_mkP (hgd : o.guard = none) (x : Operand) (ho : o.op = .box 72 x) (hx : a.eval x = .agg (mkP 0 (.slice none 0 0))) (h : wpList Try.prog ops Q rest (a.put o.dst (.pointer (some ⟨w.heap.size, 0, none⟩))) (w.alloc (.cells (mkP 0 (.slice none 0 0)) 72))) : wpList Try.prog ops Q (o :: rest) a w :=
  wl_run hgd (v := .pointer (some ⟨w.heap.size, 0, none⟩)) (by unfold execOp; simp only [ho, hx, Sem.run_bind, box_mkP, Result.andThen_ok, Sem.run_pure]) h
theorem wl_build_mkR (hgd : o.guard = none) (ho : o.op = .build 78 #[(0, .const (.int .i64 1))]) (h : wpList Try.prog ops Q rest (a.put o.dst (.agg (mkR 1 (.slice none 0 0)))) w) : wpList Try.prog ops Q (o :: rest) a w :=
  wl_run hgd (v := .agg (mkR 1 (.slice none 0 0))) (by
    have e : (#[(0, Operand.const (Value.int .i64 1))].map fun p : Nat × Operand => (p.1, a.eval p.2)) = #[(0, Value.int .i64 1)] := by simp; rfl
    unfold execOp; simp only [ho, e, Sem.run_bind, build_mkR, Result.andThen_ok, Sem.run_pure]) h
theorem wl_box_mkR (hgd : o.guard = none) (x : Operand) (ho : o.op = .box 78 x) (hx : a.eval x = .agg (mkR 1 (.slice none 0 0))) (h : wpList Try.prog ops Q rest (a.put o.dst (.pointer (some ⟨w.heap.size, 0, none⟩))) (w.alloc (.cells (mkR 1 (.slice none 0 0)) 78))) : wpList Try.prog ops Q (o :: rest) a w :=
  wl_run hgd (v := .pointer (some ⟨w.heap.size, 0, none⟩)) (by unfold execOp; simp only [ho, hx, Sem.run_bind, box_mkR, Result.andThen_ok, Sem.run_pure]) h
theorem wl_load_nfa_at (hgd : o.guard = none) (x : Operand) (ho : o.op = .load 34 x)
    (b off : Nat) (hx : a.eval x = .pointer (some ⟨b, off, none⟩)) (s : Int) (A : Option Addr) (n c : Nat) (B : Option Addr) (m d : Nat) (hr : RowAt w b off (nfaC s A n c B m d))
    (h : wpList Try.prog ops Q rest (a.put o.dst (.agg (nfaC s A n c B m d))) w) : wpList Try.prog ops Q (o :: rest) a w :=
  wpList_load_at hgd _ x ho b off hx _ _ hr Try.underlying34 rfl (info_nfaN.trans rfl) h
theorem ret_nfa2 {fn : Func} {p u : Tmp} {g : Nat} {s : Int} {A : Option Addr} {n c : Nat} {B : Option Addr} {m d : Nat} (hres : fn.results = #[.cell p 34, .tmp u])
    (hp : a.tmps.getD p undef = .pointer (some ⟨g, 0, none⟩)) (hb : Blk w g 34 (nfaC s A n c B m d))
    (hdf : a.defers = []) {R : Ending → World → Prop} (hR : R (.returned (.tuple #[.agg (nfaC s A n c B m d), a.tmps.getD u undef])) w) : bodyPost Try.prog fn R .ret a w :=
  ret_cell2 hres _ hp hb Try.underlying34 rfl (info_nfaN.trans rfl) hdf hR
theorem ret_nfa1 {fn : Func} {p : Tmp} {g : Nat} {s : Int} {A : Option Addr} {n c : Nat} {B : Option Addr} {m d : Nat} (hres : fn.results = #[.cell p 34])
    (hp : a.tmps.getD p undef = .pointer (some ⟨g, 0, none⟩)) (hb : Blk w g 34 (nfaC s A n c B m d))
    (hdf : a.defers = []) {R : Ending → World → Prop} (hR : R (.returned (.agg (nfaC s A n c B m d))) w) : bodyPost Try.prog fn R .ret a w :=
  ret_cell hres _ hp hb Try.underlying34 rfl (info_nfaN.trans rfl) hdf hR
end
/-- the step of a call that turns the block -/
theorem GStepR.call {rw : Option Nat} {i0 : Nat} {P : Program} {ops : Array Oper} {S : Nat → GSpec} {Q : Exit → Act → World → Prop} {o : Oper} {a : Act} {w : World} (hw : Region.wanted o (yielded ops a.tmps) = true) (f : FuncId) (xs : Array Operand) (ats : Array TypeId) (ho : o.op = .call { callee := .value (.func f), args := xs, argTypes := ats })
    (hf : ∀ args w, (callFunc f args).run P w = .ok (.enter f args) w) (vs : Array Value) (hv : xs.map a.eval = vs)
    (hc : Calls P f vs w fun e w' => ∃ v, e = .returned v ∧ w.grownBy w' rw ∧ (S i0).p v w') : GStepR rw i0 P ops S Q i0 o a w := by
  unfold GStepR
  rw [if_pos hw]
  unfold Oper.wp
  have hr : (execOp a.eval o).run P w = .ok (.enter f vs) w := by
    have he : execOp a.eval o = callFunc f (#[] ++ xs.map a.eval ++ #[]) := by
      unfold execOp; rw [ho]; rfl
    rw [he, hv]
    simpa using hf vs w
  rw [hr, Oper.upon_enter]
  refine hc.mono ?_
  rintro e w' ⟨v, rfl, hb, hp⟩
  exact ⟨v, rfl, ⟨hb, fun h => (h rfl).elim⟩, hp⟩
set_option maxRecDepth 100000 in
set_option maxHeartbeats 4000000 in
theorem pstate_g (gk : Nat) (s : Nat) (v : Value) (w : World) (h1 : Blk w gk 72 (mkP (s : Int) v)) (hm : s ≤ 1048576) :
    Calls Try.prog 39 #[.pointer (some ⟨gk, 0, none⟩)] w fun e w' => e = .returned (.int .i64 (s : Int)) ∧ Blk w' gk 72 (mkP ((s + 1 : Nat) : Int) v) ∧ w.grownBy w' (some gk) := by
  have hg := only_setCell (only_refl w (some gk)) (p := ⟨gk, 0, none⟩) (.inl rfl) (.int .i64 ((s : Int) + 1))
  have c0 : w.cell? ⟨gk, 0, none⟩ = some (.int .i64 (s : Int)) := h1.cellv (i := 0) rfl
  have f0 := h1.frozen 0
  go_enter Try.func39, Try.ntmps39
  go_upto_region 2 with (fail)
  have h4 : Blk (w.setCell ⟨gk, 0, none⟩ (.int .i64 ((s : Int) + 1))) gk 72 (mkP ((s + 1 : Nat) : Int) v) := h1.set_eq rfl
  obtain ⟨w2, hw2⟩ : ∃ y, y = w.setCell ⟨gk, 0, none⟩ (.int .i64 ((s : Int) + 1)) := ⟨_, rfl⟩
  rw [← hw2] at h4 hg ⊢
  clear hw2 c0 f0 h1
  have c0 : w2.cell? ⟨gk, 0, none⟩ = some (.int .i64 ((s : Int) + 1)) := h4.cellv (i := 0) rfl
  go_wp2_with (fail)
  go_ret
  exact ⟨congrArg (fun v => Ending.returned (.int .i64 v)) (by omega), h4, hg⟩
theorem enter_pstate (args : Array Value) (w : World) : (callFunc 39 args).run Try.prog w = .ok (.enter 39 args) w := by kernel_rfl
theorem enter_play (args : Array Value) (w : World) : (callFunc 38 args).run Try.prog w = .ok (.enter 38 args) w := by kernel_rfl
end Go.Proofs.Ytgahdookojbbiaa
