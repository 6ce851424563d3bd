/- least.Same: whether two tables answer alike on every line; if not, a shortest line that tells them apart. No condition beyond those named in each lemma. -/
import Derived.Test.YtgahdookojbbiaaLLine
import Derived.WalkMore
namespace Go.Proofs.Ytgahdookojbbiaa
open Go.RowKit Go.Maps
set_option linter.unusedVariables false
set_option linter.unusedSimpArgs false
attribute [local go_sem] Oper.semAt_some

def SameAns (T R : Tb) (v : Value) : Prop :=
  (¬ (Fits T ∧ Fits R) ∧ v = .tuple #[.bool false, .string ⟨#[]⟩, .int .i64 70]) ∨
  (Fits T ∧ Fits R ∧ (∀ u, ¬ Tells T.au R.au u) ∧ v = .tuple #[.bool true, .string ⟨#[]⟩, .int .i64 0]) ∨
  (Fits T ∧ Fits R ∧ ∃ u, Tells T.au R.au u ∧ (∀ u', Tells T.au R.au u' → u.length ≤ u'.length) ∧ v = .tuple #[.bool false, .string ⟨(bytesU u).toArray⟩, .int .i64 0])
theorem field_pair_0 (b off : Nat) (w : World) : (Instr.fieldAt 96 (.pointer (some ⟨b, off, none⟩)) 0).run Try.prog w = .ok (.pointer (some ⟨b, off, none⟩)) w := by kernel_rfl
theorem field_pair_1 (b off : Nat) (w : World) : (Instr.fieldAt 96 (.pointer (some ⟨b, off, none⟩)) 1).run Try.prog w = .ok (.pointer (some ⟨b, off + 1, none⟩)) w := by kernel_rfl
theorem info_pair4 : (Try.prog.info? 96).map (·.size) = some 4 := by kernel_rfl
theorem info_pairA : (Try.prog.info? 96).map (fun i => (i.size, i.bytes)) = some (4, 32) := by kernel_rfl
theorem encP_one (p : PR) : (encP p).all (·.oneCell') = true := by simp [encP, Value.oneCell']
theorem zero_pairP (w : World) : (zeroValue 96).run Try.prog w = .ok (.agg (encP ⟨0, 0, 0, 0⟩)) w := by kernel_rfl
theorem build_pair0 (w : World) : (Instr.build 96 #[(2, .int .i64 (-1))]).run Try.prog w = .ok (.agg (encP ⟨0, 0, -1, 0⟩)) w := by kernel_rfl
theorem build_pair4 (p : PR) (w : World) : (Instr.build 96 #[(0, .int .i64 (p.a : Int)), (1, .int .i64 (p.b : Int)), (2, .int .i64 p.bef), (3, .int .u8 (p.by_ : Int))]).run Try.prog w = .ok (.agg (encP p)) w := by kernel_rfl
theorem run_bsp (p : PR) (w : World) : (Instr.buildSlice 97 1 #[(0, .agg (encP p))]).run Try.prog w = .ok (.slice (some ⟨w.heap.size, 0, none⟩) 1 1) (w.alloc (.cells (encP p) 96)) := by kernel_rfl
section
variable {ops : Array Oper} {rest : List Oper} {o : Oper} {a : Act} {w : World} {Q : Exit → Act → World → Prop}
theorem wl_build_pair0 (hgd : o.guard = none) (ho : o.op = .build 96 #[(2, .const (.int .i64 (-1)))]) (h : wpList Try.prog ops Q rest (a.put o.dst (.agg (encP ⟨0, 0, -1, 0⟩))) w) : wpList Try.prog ops Q (o :: rest) a w :=
  wpList_plain hgd fun _ hK => by
    have e : (#[(2, Operand.const (Value.int .i64 (-1)))].map fun p : Nat × Operand => (p.1, a.eval p.2)) = #[(2, Value.int .i64 (-1))] := by simp; rfl
    unfold Oper.wp execOp
    simp only [ho, e, Sem.run_bind, build_pair0, Result.andThen_ok, Sem.run_pure]
    exact hK _ _ h
theorem wl_build_pair4 (hgd : o.guard = none) (x0 x1 x2 x3 : Operand) (ho : o.op = .build 96 #[(0, x0), (1, x1), (2, x2), (3, x3)]) (p : PR) (h0 : a.eval x0 = .int .i64 (p.a : Int)) (h1 : a.eval x1 = .int .i64 (p.b : Int)) (h2 : a.eval x2 = .int .i64 p.bef) (h3 : a.eval x3 = .int .u8 (p.by_ : Int)) (h : wpList Try.prog ops Q rest (a.put o.dst (.agg (encP p))) w) : wpList Try.prog ops Q (o :: rest) a w :=
  wpList_plain hgd fun _ hK => by
    have e : (#[(0, x0), (1, x1), (2, x2), (3, x3)] : Array (Nat × Operand)).map (fun (i, x) => (i, a.eval x)) = #[(0, .int .i64 (p.a : Int)), (1, .int .i64 (p.b : Int)), (2, .int .i64 p.bef), (3, .int .u8 (p.by_ : Int))] := by simp [h0, h1, h2, h3]
    unfold Oper.wp execOp
    simp only [ho, e, Sem.run_bind, build_pair4, Result.andThen_ok, Sem.run_pure]
    exact hK _ _ h
theorem wl_bsp (hgd : o.guard = none) (x : Operand) (ho : o.op = .buildSlice 97 1 #[(0, x)]) (p : PR) (hx : a.eval x = .agg (encP p))
    (h : wpList Try.prog ops Q rest (a.put o.dst (.slice (some ⟨w.heap.size, 0, none⟩) 1 1)) (w.alloc (.cells (encP p) 96))) : wpList Try.prog ops Q (o :: rest) a w :=
  wpList_plain hgd fun _ hK => by
    unfold Oper.wp execOp
    simp only [ho, List.map_toArray, List.map_cons, List.map_nil, hx, Sem.run_bind, run_bsp, Result.andThen_ok, Sem.run_pure]
    exact hK _ _ h
theorem wl_pushP (hgd : o.guard = none) (s x : Operand) (ho : o.op = .call { callee := .builtin .append, args := #[s, x], argTypes := #[97, 97] })
    (base : Nat) (l : List PR) (p : PR) {A : Option Addr} {n c g : Nat} (hs : a.eval s = .slice A n c) (hx : a.eval x = .slice (some ⟨g, 0, none⟩) 1 1) (hb1 : Blk w g 96 (encP p)) (hown : Own w base 96 4 encP (.slice A n c) l) (hn : n = l.length) (hl : l.length ≤ 1099511627776) (hbase : base ≤ w.heap.size)
    (h : ∀ A' c' w', Own w' base 96 4 encP (.slice A' (n + 1) c') (l ++ [p]) → w.grownBy w' (Value.slice A n c).ownBlock → ((Value.slice A' (n + 1) c').ownBlock = (Value.slice A n c).ownBlock ∨ (Value.slice A' (n + 1) c').ownBlock = some w.heap.size) → wpList Try.prog ops Q rest (a.put o.dst (.slice A' (n + 1) c')) w') : wpList Try.prog ops Q (o :: rest) a w := by
  obtain ⟨i, hi, hz, hsz, hby⟩ : ∃ i, Try.prog.info? 96 = some i ∧ (∃ z, i.zero = some z ∧ z.cells.size = 4) ∧ i.size = 4 ∧ i.bytes = 32 := by
    have h1 := info_pairA
    cases e : Try.prog.info? 96 with
    | none => rw [e] at h1; cases h1
    | some i =>
      rw [e] at h1
      have h2 : (i.size, i.bytes) = (4, 32) := by simpa using h1
      injection h2 with h2 h3
      have h4 : ((Try.prog.info? 96).bind (·.zero)).map (·.cells.size) = some 4 := by kernel_rfl
      rw [e] at h4
      cases hz : i.zero with
      | none => simp [hz] at h4
      | some z => exact ⟨i, rfl, ⟨z, hz, by simpa [hz] using h4⟩, h2, h3⟩
  obtain ⟨z, hz, hzs⟩ := hz
  subst hn
  refine wl_append _ hgd _ _ 97 ho base 96 i z 4 32 Try.underlying97 hi hz hsz hby hzs (by decide) encP_size encP_one (.slice A l.length c) l hs hown _ _ 1 1 [p] hx rfl (slice_one (enc := encP) hb1) (by unfold maxLen; omega) (by omega) hbase ?_
  intro v' w' ho' hg hv
  obtain ⟨A', c', rfl, _, _⟩ := ho'.shape
  have hl8 : (l ++ [p]).length = l.length + 1 := by simp
  rw [hl8] at ho' hv ⊢
  exact h _ _ _ ho' hg hv
theorem wl_load_pairP (hgd : o.guard = none) (x : Operand) (ho : o.op = .load 96 x) (b off : Nat) (hx : a.eval x = .pointer (some ⟨b, off, none⟩)) (p : PR) (hr : RowAt w b off (encP p))
    (h : wpList Try.prog ops Q rest (a.put o.dst (.agg (encP p))) w) : wpList Try.prog ops Q (o :: rest) a w :=
  wpList_load_at hgd _ x ho b off hx _ _ hr Try.underlying96 rfl (info_pair4.trans rfl) h
theorem wl_store_pairP (hgd : o.guard = none) (x y : Operand) (ho : o.op = .store 96 x y)
    (g : Nat) (new : PR) (hx : a.eval x = .pointer (some ⟨g, 0, none⟩)) (hy : a.eval y = .agg (encP new)) (old : PR) (hb : Blk w g 96 (encP old))
    (h : ∀ w', Blk w' g 96 (encP new) → w.grownBy w' (some g) → wpList Try.prog ops Q rest (a.put o.dst undef) w') : wpList Try.prog ops Q (o :: rest) a w :=
  wpList_store_row hgd _ x y ho g _ hx hy _ _ hb (info_pair4.trans rfl) rfl (encP_one new) (h _ (hb.setRow_same _) (only_setRow (only_refl _ _) _))
theorem wl_makeG (hgd : o.guard = none) (x y : Operand) (ho : o.op = .makeSlice 94 x y) (N : Nat) (hx : a.eval x = .int .i64 N) (hy : a.eval y = .int .i64 N) (hN : N ≤ 1048576)
    (h : ∀ w', Blk w' w.heap.size 3 (arr eZ N fun _ => 0) → Below w.heap.size w w' → wpList Try.prog ops Q rest (a.put o.dst (.slice (some ⟨w.heap.size, 0, none⟩) N N)) w') : wpList Try.prog ops Q (o :: rest) a w := by
  refine wpList_plain hgd fun _ hK => ?_
  unfold Oper.wp execOp
  simp only [ho, hx, hy, Sem.run_bind, run_make1 eZ 0 3 94 8 N Try.underlying94 info_int1 rfl (by omega) hN, Result.andThen_ok, Sem.run_pure]
  exact hK _ _ (h _ (Blk.new _ _ _) (below_alloc (Below.refl _ _) _))
end
def upI (s i : Nat) : Int := if i < s then (i : Int) else 0
theorem upI_put (s : Nat) : upd (upI s) s (s : Nat) = upI (s + 1) := by
  funext i
  unfold upd upI
  by_cases e : i = s
  · subst e; simp
  · rw [if_neg e]
    by_cases h : i < s
    · rw [if_pos h, if_pos (by omega)]
    · rw [if_neg h, if_neg (by omega)]
set_option maxRecDepth 100000 in
set_option maxHeartbeats 8000000 in
theorem lsm_any (x y : TV) (w : World) (hX : TabIn w w.heap.size x) (hY : TabIn w w.heap.size y) :
    Calls Try.prog 29 #[.agg x.C', .agg y.C'] w fun e w' => Below w.heap.size w w' ∧ ∃ v, e = .returned v ∧ SameAns x.T y.T v := by
  have hR1 : ∀ W' : World, Below w.heap.size w W' → Calls Try.prog 28 #[.agg x.C'] W' fun e w2 => e = .returned (.bool (fitsB x.T)) ∧ Below W'.heap.size W' w2 := fun W' hB => right_any x W' (hX.then_ hB)
  have hR2 : ∀ W' : World, Below w.heap.size w W' → Calls Try.prog 28 #[.agg y.C'] W' fun e w2 => e = .returned (.bool (fitsB y.T)) ∧ Below W'.heap.size W' w2 := fun W' hB => right_any y W' (hY.then_ hB)
  unfold TV.C' at hR1 hR2 ⊢
  go_enter Try.func29, Try.ntmps29
  have h2 := (Blk.new w 47 (dfaC x.f x.A x.rs.length x.c x.B x.fo.length x.d x.C x.en.length x.e)).alloc (.cells (dfaC y.f y.A y.rs.length y.c y.B y.fo.length y.d y.C y.en.length y.e) 47)
  have h3 : Blk ((w.alloc (.cells (dfaC x.f x.A x.rs.length x.c x.B x.fo.length x.d x.C x.en.length x.e) 47)).alloc (.cells (dfaC y.f y.A y.rs.length y.c y.B y.fo.length y.d y.C y.en.length y.e) 47)) (w.heap.size + 1) 47 (dfaC y.f y.A y.rs.length y.c y.B y.fo.length y.d y.C y.en.length y.e) := Blk.new' _ _ _ (World.size_alloc _ _).symm
  have hB1 := below_alloc (below_alloc (Below.refl w.heap.size w) (.cells (dfaC x.f x.A x.rs.length x.c x.B x.fo.length x.d x.C x.en.length x.e) 47)) (.cells (dfaC y.f y.A y.rs.length y.c y.B y.fo.length y.d y.C y.en.length y.e) 47)
  go_upto_region 1 with (fail)
  go_step3
  go_upto_region 1 with (fail)
  obtain ⟨w1, hw1⟩ : ∃ ww, ww = ((w.alloc (.cells (dfaC x.f x.A x.rs.length x.c x.B x.fo.length x.d x.C x.en.length x.e) 47)).alloc (.cells (dfaC y.f y.A y.rs.length y.c y.B y.fo.length y.d y.C y.en.length y.e) 47)) := ⟨_, rfl⟩
  first | rw [← hw1] at h2 h3 hB1 ⊢ | (simp only [World.size_alloc]; rw [← hw1] at h2 h3 hB1 ⊢)
  clear hw1
  obtain ⟨g2, hg2⟩ : ∃ g, g = w.heap.size := ⟨_, rfl⟩
  obtain ⟨g3, hg3⟩ : ∃ g, g = w.heap.size + 1 := ⟨_, rfl⟩
  try rw [← hg3] at h3 ⊢
  try rw [← hg2] at h2 ⊢
  have hg2w : w.heap.size ≤ g2 := by omega
  clear hg2 hg3
  replace hR1 : ∀ W' : World, Below w1.heap.size w1 W' → Calls Try.prog 28 #[.agg (dfaC x.f x.A x.rs.length x.c x.B x.fo.length x.d x.C x.en.length x.e)] W' fun e w2 => e = .returned (.bool (fitsB x.T)) ∧ Below W'.heap.size W' w2 := fun W' hB => hR1 W' (below_then hB1 hB)
  replace hR2 : ∀ W' : World, Below w1.heap.size w1 W' → Calls Try.prog 28 #[.agg (dfaC y.f y.A y.rs.length y.c y.B y.fo.length y.d y.C y.en.length y.e)] W' fun e w2 => e = .returned (.bool (fitsB y.T)) ∧ Below W'.heap.size W' w2 := fun W' hB => hR2 W' (below_then hB1 hB)
  obtain ⟨p, hp⟩ : ∃ p, fitsB x.T = p := ⟨_, rfl⟩
  obtain ⟨q, hq⟩ : ∃ q, fitsB y.T = q := ⟨_, rfl⟩
  refine wp_region_text 8 [eqS (.agg (dfaC x.f x.A x.rs.length x.c x.B x.fo.length x.d x.C x.en.length x.e)), eqS (.bool p), eqS (.bool (!p)), eqS (.bool (!p)), eqS (vF (true && ((!p) == false)) (.agg (dfaC y.f y.A y.rs.length y.c y.B y.fo.length y.d y.C y.en.length y.e))), eqS (vF (true && ((!p) == false)) (.bool q)), eqS (vF (true && ((!p) == false)) (.bool (!q))), eqS (.bool ((!p) || (!q)))] [16, 17, 18, 19, 20, 21, 22, 23] (by kernel_rfl) rfl ?_ ?_
  · skip
    refine Steps.cons (fun a' w' hG hB dep => gs_load_dfa (want_none rfl) _ rfl g2 (hG.other 2 rfl) (blk_then h2 hB) rfl) ?_
    refine Steps.cons (fun a' w' hG hB dep => gs_call (want_none rfl) _ _ _ rfl enter_right _ (map1 (dep 0 rfl 16 rfl)) ((hR1 w' hB).mono fun e w2 ⟨hq1, hb⟩ => ⟨_, hq1, hb, by rw [hp]; exact rfl⟩)) ?_
    refine Steps.cons (fun a' w' hG hB dep => gs_not_bool (want_none rfl) _ _ rfl _ (dep 1 rfl 17 rfl) rfl) ?_
    refine Steps.cons (fun a' w' hG hB dep => gs_move (want_none rfl) _ rfl (id (dep 2 rfl 18 rfl))) ?_
    refine Steps.cons (fun a' w' hG hB dep => gs_guard (c := true) (b' := (!p)) rfl rfl (dep 3 rfl 19 rfl) (fun hc he hw => gs_load_dfa hw _ rfl g3 (hG.other 3 rfl) (blk_then h3 hB) (vF_yes (on_g hc he) _).symm) (fun hn => vF_no hn _)) ?_
    refine Steps.cons (fun a' w' hG hB dep => gs_guard (c := true) (b' := (!p)) rfl rfl (dep 3 rfl 19 rfl) (fun hc he hw => gs_call hw _ _ _ rfl enter_right _ (map1 (Eq.trans (dep 4 rfl 20 rfl) (vF_yes (on_g hc he) _))) ((hR2 w' hB).mono fun e w2 ⟨hq1, hb⟩ => ⟨_, hq1, hb, by rw [hq]; exact (vF_yes (on_g hc he) _).symm⟩)) (fun hn => vF_no hn _)) ?_
    refine Steps.cons (fun a' w' hG hB dep => gs_guard (c := true) (b' := (!p)) rfl rfl (dep 3 rfl 19 rfl) (fun hc he hw => gs_not_bool hw _ _ rfl _ (Eq.trans (dep 5 rfl 21 rfl) (vF_yes (on_g hc he) _)) (vF_yes (on_g hc he) _).symm) (fun hn => vF_no hn _)) ?_
    refine Steps.cons (fun a' w' hG hB dep => gs_pick (want_none rfl) _ _ _ rfl (!p) (dep 3 rfl 19 rfl) (id (pick_or2 (c := true) rfl (dep 6 rfl 22 rfl)))) ?_
    exact Steps.nil
  intro u w2 hw2 ans
  have hus23 : u 23 = (.bool (!p || !q)) := ans 7 23 (by decide) rfl
  clear ans
  simp only [putAll, List.foldl_cons, List.foldl_nil, Act.put, List.setIfInBounds_toArray, List.set_cons_zero, List.set_cons_succ, hus23]
  clear hus23
  simp only [List.drop]
  refine wpList_nil ?_
  replace h2 := blk_then h2 hw2
  replace h3 := blk_then h3 hw2
  replace hB1 := below_then hB1 hw2
  clear hw2 hR1 hR2
  obtain ⟨r, hr⟩ : ∃ r, (!p || !q) = r := ⟨_, rfl⟩
  rw [hr]
  cases r with
  | true =>
    have hno : ¬ (Fits x.T ∧ Fits y.T) := fun h => by
      have h1 := fitsB_yes h.1
      have h2 := fitsB_yes h.2
      rw [hp] at h1; rw [hq] at h2
      rw [h1, h2] at hr
      cases hr
    clear hr hp hq
    go_wp2_with (fail)
    rw [Exit.noGoto_ret]
    go_ret3
    exact ⟨hB1, _, rfl, .inl ⟨hno, rfl⟩⟩
  | false =>
    have hFx : Fits x.T := fitsB_iff.1 (by rw [hp]; cases p <;> simp_all)
    have hFy : Fits y.T := fitsB_iff.1 (by rw [hq]; cases q <;> simp_all)
    clear hr hp hq
    have heX : x.en.length = x.rs.length := by have := hFx.ne; rwa [fits_n] at this
    have heY : y.en.length = y.rs.length := by have := hFy.ne; rwa [fits_n] at this
    have n1 : 1 ≤ x.rs.length := by have := hFx.n1; rwa [fits_n] at this
    have n2 : x.rs.length ≤ 4096 := by have := hFx.n2; rwa [fits_n] at this
    have m1 : 1 ≤ y.rs.length := by have := hFy.n1; rwa [fits_n] at this
    have m2 : y.rs.length ≤ 4096 := by have := hFy.n2; rwa [fits_n] at this
    have hoX := hFx.ok
    have hoY := hFy.ok
    have hAn : x.T.au.n = x.rs.length := fits_n
    have hBn : y.T.au.n = y.rs.length := fits_n
    have cX : w2.cell? ⟨g2, 256, none⟩ = some (.slice x.A x.rs.length x.c) := blk_d1 h2
    have cY : w2.cell? ⟨g3, 256, none⟩ = some (.slice y.A y.rs.length y.c) := blk_d1 h3
    obtain ⟨N, hN⟩ : ∃ N, N = x.rs.length + y.rs.length := ⟨_, rfl⟩
    have hNI : (N : Int) = (x.rs.length : Int) + (y.rs.length : Int) := by omega
    have hN0 : N ≤ 1048576 := by omega
    replace hNI := Lib.hid hNI
    replace hN := Lib.hid hN
    obtain ⟨bE, oE, hEx, cex⟩ := en_cells hX (by omega)
    obtain ⟨bD, oD, hEy, cey⟩ := en_cells hY (by omega)
    replace hEx := Lib.hid hEx
    replace hEy := Lib.hid hEy
    replace heX := Lib.hid heX
    replace heY := Lib.hid heY
    go_upto_region 4 with (refine wl_makeG rfl _ _ rfl N (by rw [hNI.out]; rfl) (by rw [hNI.out]; rfl) hN0 ?_; intro w3 hg hB3)
    clear cX cY
    obtain ⟨gg, hgg⟩ : ∃ g, g = w2.heap.size := ⟨_, rfl⟩
    rw [← hgg] at hg ⊢
    have e2 : g2 ≠ gg := by have := h2.lt; omega
    have e3 : g3 ≠ gg := by have := h3.lt; omega
    have hggw : w.heap.size ≤ gg := by rw [hgg]; exact hB1.size
    replace h2 := blk_then h2 hB3
    replace h3 := blk_then h3 hB3
    replace hB1 := below_then hB1 hB3
    clear hB3 hgg
    have hg0 : arr eZ N (fun _ => 0) = arr eZ N (upI 0) := arr_ext _ _ _ (fun i _ => by simp [upI])
    rw [hg0] at hg
    clear hg0
    go_upto_region 5 with (fail)
    go_loopw [34] (fun sv wr => ∃ s : Nat, s ≤ N ∧ sv = .int .i64 s ∧ Below w.heap.size w wr ∧ Blk wr g2 47 (dfaC x.f x.A x.rs.length x.c x.B x.fo.length x.d x.C x.en.length x.e) ∧ Blk wr g3 47 (dfaC y.f y.A y.rs.length y.c y.B y.fo.length y.d y.C y.en.length y.e) ∧ Blk wr gg 3 (arr eZ N (upI s))) (fun sv _ => N - (intOf sv).toNat)
    case atStart => exact ⟨0, by omega, rfl, hB1, h2, h3, hg⟩
    case round =>
      clear hB1 h2 h3 hg
      obtain ⟨s, hs, rfl, hB1, h2, h3, hg⟩ := hrel
      by_cases hsl : s < N
      · have hsI : (s : Int) < N := by omega
        go_upto_region 8 with (refine wl_store_arr eZ (s : Int) rfl _ _ _ rfl gg s N _ _ hg rfl rfl hsl info_intS rfl rfl ?_; intro w4 hg4 hG4)
        rw [upI_put] at hg4
        replace h2 := blk_grown h2 hG4 e2
        replace h3 := blk_grown h3 hG4 e3
        replace hB1 := below_grown hB1 hG4 hggw
        clear hg hG4
        go_wp2_with (fail)
        exact ⟨⟨s + 1, by omega, rfl, hB1, h2, h3, hg4⟩, by simp only [intOf]; omega⟩
      · have hsI : ¬ (s : Int) < N := by omega
        have hse : s = N := by omega
        subst hse
        have hge : arr eZ s (upI s) = arr eZ s (fun i => (i : Nat)) := arr_ext _ _ _ (fun i hi => by unfold upI; rw [if_pos hi])
        rw [hge] at hg
        have hU0 := UF.start s
        clear hge hsl
        rename_i s'
        have hpr : Own (wr.alloc (.cells (encP ⟨0, 0, -1, 0⟩) 96)) wr.heap.size 96 4 encP (.slice (some ⟨wr.heap.size, 0, none⟩) 1 1) [⟨0, 0, -1, 0⟩] := own_one encP_size (Blk.new _ _ _) (Nat.le_refl _)
        go_upto_region 10 with (first | (refine wl_build_pair0 rfl rfl ?_) | (refine wl_bsp rfl _ rfl ⟨0, 0, -1, 0⟩ rfl ?_))
        obtain ⟨bq, hbq⟩ : ∃ g, g = wr.heap.size := ⟨_, rfl⟩
        have l2' : g2 < bq := by rw [hbq]; exact h2.lt
        have l3 : g3 < bq := by rw [hbq]; exact h3.lt
        have lg : gg < bq := by rw [hbq]; exact hg.lt
        have hbw : w.heap.size ≤ bq := by omega
        rw [← hbq] at hpr ⊢
        replace h2 := h2.alloc (.cells (encP ⟨0, 0, -1, 0⟩) 96)
        replace h3 := h3.alloc (.cells (encP ⟨0, 0, -1, 0⟩) 96)
        replace hg := hg.alloc (.cells (encP ⟨0, 0, -1, 0⟩) 96)
        replace hB1 := below_alloc hB1 (.cells (encP ⟨0, 0, -1, 0⟩) 96)
        obtain ⟨w4, hw4⟩ : ∃ ww, ww = wr.alloc (.cells (encP ⟨0, 0, -1, 0⟩) 96) := ⟨_, rfl⟩
        rw [← hw4] at h2 h3 hg hB1 hpr ⊢
        clear hw4 hbq
        have hxs : x.rs.length < s := by have := hN.out; omega
        have hcj := join_any s gg 0 x.rs.length _ _ hU0 (by omega) hxs hN0 w4 hg
        rw [show ((0 : Nat) : Int) = 0 from rfl] at hcj
        have cX : w4.cell? ⟨g2, 256, none⟩ = some (.slice x.A x.rs.length x.c) := blk_d1 h2
        go_upto_region 11 with (first | (go_at_call 56; refine hcj.mono ?_; rintro e w5 ⟨rfl, hG5, G5, hg5, hU5⟩) | (go_at_call 56; refine park ?_))
        clear cX hcj hg
        replace h2 := blk_grown h2 hG5 e2
        replace h3 := blk_grown h3 hG5 e3
        replace hpr := own_low hpr hG5 lg
        replace hB1 := below_grown hB1 hG5 hggw
        clear hG5
        have hQ := QI.start x.T.au y.T.au hoX hoY
        have hcnt := merge_count hU0 (a := 0) (b := x.rs.length) (by omega) hxs (by show 0 ≠ x.rs.length; omega)
        have hc0 : cntF (fun u : Nat => decide (u = u)) s ≤ s := cntF_le _ s
        have hcnt2 : cntF (fun u => decide (merge (fun i => i) 0 x.rs.length u = u)) s < cntF (fun u : Nat => decide (u = u)) s := hcnt
        have hcn : 1 + cntF (fun u => decide (merge (fun i => i) 0 x.rs.length u = u)) s ≤ s := by omega
        rw [hAn] at hQ
        replace hcn := Lib.hid hcn
        clear hcnt hcnt2 hc0 hU0
        go_upto_region 12 with (fail)
        go_step3
        go_upto_region 13 with (fail)
        go_loopw [9, 10, 11] (fun rv uv kv wr => ∃ (k : Nat) (l : List PR) (ws : List (List Nat)) (rt : Nat → Nat) (G : Nat → Int) (A : Option Addr) (cp : Nat), k ≤ l.length ∧ rv = .slice A l.length cp ∧ uv = .int .i64 (-1) ∧ kv = .int .i64 k ∧ Below w.heap.size w wr ∧ Blk wr g2 47 (dfaC x.f x.A x.rs.length x.c x.B x.fo.length x.d x.C x.en.length x.e) ∧ Blk wr g3 47 (dfaC y.f y.A y.rs.length y.c y.B y.fo.length y.d y.C y.en.length y.e) ∧ Blk wr gg 3 (arr eZ s G) ∧ UF s G rt ∧ Own wr bq 96 4 encP (.slice A l.length cp) l ∧ QI x.T.au y.T.au rt l ws k 0 ∧ l.length + cntF (fun u => decide (rt u = u)) s ≤ s) (fun _ _ kv _ => s - (intOf kv).toNat)
        case atStart => exact ⟨0, _, _, _, _, _, _, by simp, rfl, rfl, rfl, hB1, h2, h3, hg5, hU5, hpr, hQ, hcn.out⟩
        case round =>
          clear hB1 h2 h3 hg5 hU5 hpr hQ hcn
          obtain ⟨k, l, ws, rt, G, A, cp, hkl, rfl, rfl, rfl, hB1, h2, h3, hg, hU, ho, hQ, hcn⟩ := hrel
          have hll : l.length ≤ s := by omega
          have hwl := hQ.tr.len
          replace hcn := Lib.hid hcn
          replace hU := Lib.hid hU
          replace hwl := Lib.hid hwl
          by_cases hkk : k < l.length
          · have hkI : (k : Int) < l.length := by omega
            have hkw : k < ws.length := by rw [hwl.out]; exact hkk
            have hwa := hQ.wa k hkk hkw
            have hpa : l[k].a < x.rs.length := by rw [hwa.1, ← hAn]; exact run_lt hoX hoX.pos hwa.2.2
            have hpb : l[k].b < y.rs.length := by rw [hwa.2.1, ← hBn]; exact run_lt hoY hoY.pos hwa.2.2
            obtain ⟨pp, hpp⟩ : ∃ p, l[k] = p := ⟨_, rfl⟩
            rw [hpp] at hpa hpb
            obtain ⟨gl, cap, hv, hgl, hgll, _, _⟩ := ho.form (by omega)
            have hA : A = some ⟨gl, 0, none⟩ := by injection hv
            have hrP : RowAt wr gl (k * 4) (encP pp) := by
              have h9 := ho
              rw [hA] at h9
              have h8 := h9.row encP_size k hkk
              rw [hpp] at h8
              exact h8
            have hAl : ∀ b, A = some b → b.block < wr.heap.size := fun b hb => by rw [hA] at hb; exact (Option.some.inj hb) ▸ hgll
            subst hA
            clear hv hwa hAl
            have hzp := zero_pairP
            go_upto_region 16 with (first | (refine wl_load_pairP rfl _ rfl gl (k * 4) rfl pp hrP ?_) | (refine wl_store_pairP rfl _ _ rfl _ pp rfl rfl _ (Blk.new _ _ _) ?_; intro w6 hp6 hG6))
            obtain ⟨gp, hgp⟩ : ∃ g, g = wr.heap.size := ⟨_, rfl⟩
            rw [← hgp] at hp6 hG6 ⊢
            have f2 : g2 ≠ gp := by have := h2.lt; omega
            have f3 : g3 ≠ gp := by have := h3.lt; omega
            have fg : gg ≠ gp := by have := hg.lt; omega
            have fl : gl ≠ gp := by omega
            have hgpw : w.heap.size ≤ gp := by omega
            have hgpb : bq ≤ gp := by omega
            replace h2 := (h2.alloc (.cells (encP ⟨0, 0, 0, 0⟩) 96)).grown hG6 (by simpa using f2)
            replace h3 := (h3.alloc (.cells (encP ⟨0, 0, 0, 0⟩) 96)).grown hG6 (by simpa using f3)
            replace hg := (hg.alloc (.cells (encP ⟨0, 0, 0, 0⟩) 96)).grown hG6 (by simpa using fg)
            replace ho := own_neg (ho.alloc (.cells (encP ⟨0, 0, 0, 0⟩) 96)) hG6 (some_ne fl)
            replace hB1 := below_grown (below_alloc hB1 (.cells (encP ⟨0, 0, 0, 0⟩) 96)) hG6 hgpw
            clear hG6 hgp hrP hzp hgll
            have hsx : pp.a < x.en.length := by rw [heX.out]; exact hpa
            have hsy : pp.b < y.en.length := by rw [heY.out]; exact hpb
            obtain ⟨q, hq⟩ : ∃ q, (((x.en.getD pp.a 0 : Nat) : Int) != ((y.en.getD pp.b 0 : Nat) : Int)) = q := ⟨_, rfl⟩
            refine wp_region_steps 13 [eqS (.pointer (some ⟨g2, 258, none⟩)), eqS (.slice (some ⟨bE, oE, none⟩) x.en.length x.e), eqS (.pointer (some ⟨gp, 0, none⟩)), eqS (.int .i64 (((pp.a : Nat) : Int))), eqS (.pointer (some ⟨bE, oE + pp.a * 1, none⟩)), eqS (.int .u32 ((((x.en.getD pp.a 0) : Nat) : Int))), eqS (.pointer (some ⟨g3, 258, none⟩)), eqS (.slice (some ⟨bD, oD, none⟩) y.en.length y.e), eqS (.pointer (some ⟨gp, 1, none⟩)), eqS (.int .i64 (((pp.b : Nat) : Int))), eqS (.pointer (some ⟨bD, oD + pp.b * 1, none⟩)), eqS (.int .u32 ((((y.en.getD pp.b 0) : Nat) : Int))), eqS (.bool q)] [59, 60, 61, 62, 63, 64, 65, 66, 67, 68, 69, 70, 71] rfl (by kernel_rfl) rfl ?_ ?_
            · skip
              refine Steps.cons (fun a' w' hG hB dep => gs_field (want_none rfl) _ _ _ rfl g2 (0) (258) (hG.other 2 rfl) (fun wz => field_dfa_3 g2 (0) wz) rfl) ?_
              refine Steps.cons (fun a' w' hG hB dep => gs_load1 (want_none rfl) _ _ rfl g2 (258) (dep 0 rfl 59 rfl) (.slice (some ⟨bE, oE, none⟩) x.en.length x.e) (by rw [← hEx.out]; exact blk_d3 (blk_then h2 hB)) _ Try.underlying32 rfl rfl) ?_
              refine Steps.cons (fun a' w' hG hB dep => gs_field (want_none rfl) _ _ _ rfl gp (0) (0) (hG.other 12 rfl) (fun wz => field_pair_0 gp (0) wz) rfl) ?_
              refine Steps.cons (fun a' w' hG hB dep => gs_load1 (want_none rfl) _ _ rfl gp (0) (dep 2 rfl 61 rfl) (.int .i64 (((pp.a : Nat) : Int))) ((blk_then hp6 hB).cellv (i := 0) rfl) _ Try.underlying3 rfl rfl) ?_
              refine Steps.cons (fun a' w' hG hB dep => gs_index (want_none rfl) _ _ _ rfl under_rules 1 size_ruleE bE oE x.en.length x.e (pp.a) (dep 1 rfl 60 rfl) (dep 3 rfl 62 rfl) hsx rfl) ?_
              refine Steps.cons (fun a' w' hG hB dep => gs_load1 (want_none rfl) _ _ rfl bE (oE + pp.a * 1) (dep 4 rfl 63 rfl) (.int .u32 ((((x.en.getD pp.a 0) : Nat) : Int))) (cex (below_then hB1 hB) _ hsx) _ Try.underlying55 rfl rfl) ?_
              refine Steps.cons (fun a' w' hG hB dep => gs_field (want_none rfl) _ _ _ rfl g3 (0) (258) (hG.other 3 rfl) (fun wz => field_dfa_3 g3 (0) wz) rfl) ?_
              refine Steps.cons (fun a' w' hG hB dep => gs_load1 (want_none rfl) _ _ rfl g3 (258) (dep 6 rfl 65 rfl) (.slice (some ⟨bD, oD, none⟩) y.en.length y.e) (by rw [← hEy.out]; exact blk_d3 (blk_then h3 hB)) _ Try.underlying32 rfl rfl) ?_
              refine Steps.cons (fun a' w' hG hB dep => gs_field (want_none rfl) _ _ _ rfl gp (0) (1) (hG.other 12 rfl) (fun wz => field_pair_1 gp (0) wz) rfl) ?_
              refine Steps.cons (fun a' w' hG hB dep => gs_load1 (want_none rfl) _ _ rfl gp (1) (dep 8 rfl 67 rfl) (.int .i64 (((pp.b : Nat) : Int))) ((blk_then hp6 hB).cellv (i := 1) rfl) _ Try.underlying3 rfl rfl) ?_
              refine Steps.cons (fun a' w' hG hB dep => gs_index (want_none rfl) _ _ _ rfl under_rules 1 size_ruleE bD oD y.en.length y.e (pp.b) (dep 7 rfl 66 rfl) (dep 9 rfl 68 rfl) hsy rfl) ?_
              refine Steps.cons (fun a' w' hG hB dep => gs_load1 (want_none rfl) _ _ rfl bD (oD + pp.b * 1) (dep 10 rfl 69 rfl) (.int .u32 ((((y.en.getD pp.b 0) : Nat) : Int))) (cey (below_then hB1 hB) _ hsy) _ Try.underlying55 rfl rfl) ?_
              refine Steps.cons (fun a' w' hG hB dep => gs_neq_int (want_none rfl) _ _ _ _ rfl _ _ _ (dep 5 rfl 64 rfl) (dep 11 rfl 70 rfl) (id (congrArg Value.bool hq))) ?_
              exact Steps.nil
            intro u w7 hw7 ans
            have hus71 : u 71 = (.bool q) := ans 12 71 (by decide) rfl
            clear ans
            simp only [putAll, List.foldl_cons, List.foldl_nil, Act.put, List.setIfInBounds_toArray, List.set_cons_zero, List.set_cons_succ, hus71]
            clear hus71
            simp only [List.drop]
            refine wpList_nil ?_
            replace h2 := blk_then h2 hw7
            replace h3 := blk_then h3 hw7
            replace hg := blk_then hg hw7
            replace ho := ho.then_ hw7
            replace hp6 := blk_then hp6 hw7
            replace hB1 := below_then hB1 hw7
            clear hw7
            cases q with
            | true =>
              have hne : (x.T.au.out l[k].a).2 ≠ (y.T.au.out l[k].b).2 := by
                rw [hpp]
                show x.en.getD pp.a 0 ≠ y.en.getD pp.b 0
                intro e
                rw [e] at hq
                simp at hq
              have hun := hQ.unlike hoX hoY hkk hkw hne
              have hcl := line_any l ws hQ.tr k hkk (by omega) (some ⟨gl, 0, none⟩) cp w7 (ho.slice_all encP_size)
              rw [getD_at _ _ hkw] at hcl
              obtain ⟨W, hW⟩ : ∃ W, ws[k] = W := ⟨_, rfl⟩
              rw [hW] at hcl hun
              clear hW hne hq hQ hpp
              go_wp2_with (first | (go_at_call 57; refine hcl.mono ?_; rintro e w8 ⟨rfl, hB8⟩) | (go_at_call 57; refine park ?_))
              try rw [Exit.noGoto_ret]
              go_ret3
              exact ⟨below_then hB1 hB8, _, rfl, .inr (.inr ⟨hFx, hFy, W, hun.1, hun.2, rfl⟩)⟩
            | false =>
              have heq : (x.T.au.out l[k].a).2 = (y.T.au.out l[k].b).2 := by
                rw [hpp]
                show x.en.getD pp.a 0 = y.en.getD pp.b 0
                have := bne_eq_false_iff_eq.1 hq
                omega
              replace heq := Lib.hid heq
              replace hpp := Lib.hid hpp
              clear hq
              have hgpl : gp < w7.heap.size := hp6.lt
              go_upto_region 19 with (fail)
              go_loopw [9, 73] (fun rv cv wr => ∃ (c : Nat) (l2 : List PR) (ws2 : List (List Nat)) (rt : Nat → Nat) (G : Nat → Int) (A : Option Addr) (cp : Nat), c ≤ 256 ∧ rv = .slice A l2.length cp ∧ cv = .int .i64 c ∧ Below w.heap.size w wr ∧ Blk wr g2 47 (dfaC x.f x.A x.rs.length x.c x.B x.fo.length x.d x.C x.en.length x.e) ∧ Blk wr g3 47 (dfaC y.f y.A y.rs.length y.c y.B y.fo.length y.d y.C y.en.length y.e) ∧ Blk wr gg 3 (arr eZ s G) ∧ UF s G rt ∧ Own wr bq 96 4 encP (.slice A l2.length cp) l2 ∧ QI x.T.au y.T.au rt l2 ws2 k c ∧ l2.length + cntF (fun u => decide (rt u = u)) s ≤ s ∧ (∃ h : k < l2.length, l2[k] = pp) ∧ Blk wr gp 96 (encP pp) ∧ (∀ b, A = some b → b.block ≠ gp)) (fun _ cv _ => 256 - (intOf cv).toNat)
              case atStart => exact ⟨0, l, ws, rt, G, _, cp, by omega, rfl, rfl, hB1, h2, h3, hg, hU.out, ho, hQ, hcn.out, ⟨hkk, hpp.out⟩, hp6, some_ne fl⟩
              case round =>
                clear hB1 h2 h3 hg hU ho hQ hcn hp6 hwl hkw hll hgpl
                obtain ⟨c, l2, ws2, rt, G, A, cp, hcl, rfl, rfl, hB1, h2, h3, hg, hU, ho, hQ, hcn, ⟨hk2, hl2⟩, hp6, hAp⟩ := hrel
                have hwl2 := hQ.tr.len
                have hkw2 : k < ws2.length := by rw [hwl2]; exact hk2
                have hl2s : l2.length ≤ s := by omega
                replace hwl2 := Lib.hid hwl2
                replace hl2 := Lib.hid hl2
                replace hcn := Lib.hid hcn
                by_cases hc2 : c < 256
                · have hcI : (c : Int) < 256 := by omega
                  by_cases hc10 : c = 10
                  · subst hc10
                    have hQ2 := Lib.hid (hQ.nextByte rfl)
                    clear hQ
                    go_wp2_with (fail)
                    exact ⟨⟨11, l2, ws2, rt, G, A, cp, by omega, rfl, rfl, hB1, h2, h3, hg, hU, ho, hQ2.out, hcn.out, ⟨hk2, hl2.out⟩, hp6, hAp⟩, by simp only [intOf]; omega⟩
                  · have hc10I : ¬ (c : Int) = 10 := by omega
                    obtain ⟨bN, oN, bR, oR, mx, nrx, crx, hAx, hfx, hmx, _, _, cNx, cRx⟩ := nx_cells hFx hX hpa hc2
                    obtain ⟨bM, oM, bS, oS, my, nry, cry, hAy, hfy, hmy, _, _, cNy, cRy⟩ := nx_cells hFy hY hpb hc2
                    have htaE : ∃ ta, x.T.au.go pp.a c = ta := ⟨_, rfl⟩
                    have htbE : ∃ tb, y.T.au.go pp.b c = tb := ⟨_, rfl⟩
                    obtain ⟨ta, hta⟩ := htaE
                    obtain ⟨tb, htb⟩ := htbE
                    rw [hta] at cRx
                    rw [htb] at cRy
                    have hta2 : ta < x.rs.length := by rw [← hta, ← hAn]; exact hoX.lt _ c (by rw [hAn]; exact hpa) hc2
                    have htb2 : tb < y.rs.length := by rw [← htb, ← hBn]; exact hoY.lt _ c (by rw [hBn]; exact hpb) hc2
                    replace hta := Lib.hid hta
                    replace htb := Lib.hid htb
                    go_upto_region 22 with (fail)
                    refine wp_region_steps 26 [eqS (.pointer (some ⟨g2, 256, none⟩)), eqS (.slice (some ⟨bN, oN, none⟩) x.rs.length x.c), eqS (.pointer (some ⟨gp, 0, none⟩)), eqS (.int .i64 (((pp.a : Nat) : Int))), eqS (.pointer (some ⟨bN, oN + pp.a * 1, none⟩)), eqS (.slice (some ⟨bR, oR, none⟩) nrx crx), eqS (.int .i64 (((c : Nat) : Int))), eqS (.pointer (some ⟨g2, 0, none⟩)), eqS (.pointer (some ⟨g2, 0 + c * 1, none⟩)), eqS (.int .i64 (((mx : Nat) : Int))), eqS (.pointer (some ⟨bR, oR + mx * 1, none⟩)), eqS (.int .i64 (((ta : Nat) : Int))), eqS (.pointer (some ⟨g3, 256, none⟩)), eqS (.slice (some ⟨bM, oM, none⟩) y.rs.length y.c), eqS (.pointer (some ⟨gp, 1, none⟩)), eqS (.int .i64 (((pp.b : Nat) : Int))), eqS (.pointer (some ⟨bM, oM + pp.b * 1, none⟩)), eqS (.slice (some ⟨bS, oS, none⟩) nry cry), eqS (.int .i64 (((c : Nat) : Int))), eqS (.pointer (some ⟨g3, 0, none⟩)), eqS (.pointer (some ⟨g3, 0 + c * 1, none⟩)), eqS (.int .i64 (((my : Nat) : Int))), eqS (.pointer (some ⟨bS, oS + my * 1, none⟩)), eqS (.int .i64 (((tb : Nat) : Int))), eqS (.int .i64 (((ta : Nat) : Int))), eqS (.int .i64 (((tb : Nat) : Int)))] [78, 79, 80, 81, 82, 83, 84, 85, 86, 87, 88, 89, 90, 91, 92, 93, 94, 95, 96, 97, 98, 99, 100, 101, 14, 15] rfl (by kernel_rfl) rfl ?_ ?_
                    · skip
                      refine Steps.cons (fun a' w' hG hB dep => gs_field (want_none rfl) _ _ _ rfl g2 (0) (256) (hG.other 2 rfl) (fun wz => field_dfa_1 g2 (0) wz) rfl) ?_
                      refine Steps.cons (fun a' w' hG hB dep => gs_load1 (want_none rfl) _ _ rfl g2 (256) (dep 0 rfl 78 rfl) (.slice (some ⟨bN, oN, none⟩) x.rs.length x.c) (by have h9 := blk_d1 (blk_then h2 hB); rw [hAx] at h9; exact h9) _ Try.underlying45 rfl rfl) ?_
                      refine Steps.cons (fun a' w' hG hB dep => gs_field (want_none rfl) _ _ _ rfl gp (0) (0) (hG.other 12 rfl) (fun wz => field_pair_0 gp (0) wz) rfl) ?_
                      refine Steps.cons (fun a' w' hG hB dep => gs_load1 (want_none rfl) _ _ rfl gp (0) (dep 2 rfl 80 rfl) (.int .i64 (((pp.a : Nat) : Int))) ((blk_then hp6 hB).cellv (i := 0) rfl) _ Try.underlying3 rfl rfl) ?_
                      refine Steps.cons (fun a' w' hG hB dep => gs_index (want_none rfl) _ _ _ rfl under_rows 1 size_rowE bN oN x.rs.length x.c (pp.a) (dep 1 rfl 79 rfl) (dep 3 rfl 81 rfl) hpa rfl) ?_
                      refine Steps.cons (fun a' w' hG hB dep => gs_load1 (want_none rfl) _ _ rfl bN (oN + pp.a * 1) (dep 4 rfl 82 rfl) (.slice (some ⟨bR, oR, none⟩) nrx crx) (cNx (below_then hB1 hB)) _ Try.underlying57 rfl rfl) ?_
                      refine Steps.cons (fun a' w' hG hB dep => gs_move (want_none rfl) _ rfl (id (hG.other 13 rfl))) ?_
                      refine Steps.cons (fun a' w' hG hB dep => gs_field (want_none rfl) _ _ _ rfl g2 (0) (0) (hG.other 2 rfl) (fun wz => field_dfa_0 g2 (0) wz) rfl) ?_
                      refine Steps.cons (fun a' w' hG hB dep => gs_index_arr (want_none rfl) _ _ _ rfl g2 (0) c (dep 7 rfl 85 rfl) (dep 6 rfl 84 rfl) (fun wz => index_cls _ _ _ hc2 wz) rfl) ?_
                      refine Steps.cons (fun a' w' hG hB dep => gs_load1 (want_none rfl) _ _ rfl g2 (0 + c * 1) (dep 8 rfl 86 rfl) (.int .i64 (((mx : Nat) : Int))) (by have h9 := blk_cls (blk_then h2 hB) hc2; rw [hfx] at h9; exact h9) _ Try.underlying3 rfl rfl) ?_
                      refine Steps.cons (fun a' w' hG hB dep => gs_index (want_none rfl) _ _ _ rfl under_ints 1 size_intE bR oR nrx crx (mx) (dep 5 rfl 83 rfl) (dep 9 rfl 87 rfl) hmx rfl) ?_
                      refine Steps.cons (fun a' w' hG hB dep => gs_load1 (want_none rfl) _ _ rfl bR (oR + mx * 1) (dep 10 rfl 88 rfl) (.int .i64 (((ta : Nat) : Int))) (cRx (below_then hB1 hB)) _ Try.underlying3 rfl rfl) ?_
                      refine Steps.cons (fun a' w' hG hB dep => gs_field (want_none rfl) _ _ _ rfl g3 (0) (256) (hG.other 3 rfl) (fun wz => field_dfa_1 g3 (0) wz) rfl) ?_
                      refine Steps.cons (fun a' w' hG hB dep => gs_load1 (want_none rfl) _ _ rfl g3 (256) (dep 12 rfl 90 rfl) (.slice (some ⟨bM, oM, none⟩) y.rs.length y.c) (by have h9 := blk_d1 (blk_then h3 hB); rw [hAy] at h9; exact h9) _ Try.underlying45 rfl rfl) ?_
                      refine Steps.cons (fun a' w' hG hB dep => gs_field (want_none rfl) _ _ _ rfl gp (0) (1) (hG.other 12 rfl) (fun wz => field_pair_1 gp (0) wz) rfl) ?_
                      refine Steps.cons (fun a' w' hG hB dep => gs_load1 (want_none rfl) _ _ rfl gp (1) (dep 14 rfl 92 rfl) (.int .i64 (((pp.b : Nat) : Int))) ((blk_then hp6 hB).cellv (i := 1) rfl) _ Try.underlying3 rfl rfl) ?_
                      refine Steps.cons (fun a' w' hG hB dep => gs_index (want_none rfl) _ _ _ rfl under_rows 1 size_rowE bM oM y.rs.length y.c (pp.b) (dep 13 rfl 91 rfl) (dep 15 rfl 93 rfl) hpb rfl) ?_
                      refine Steps.cons (fun a' w' hG hB dep => gs_load1 (want_none rfl) _ _ rfl bM (oM + pp.b * 1) (dep 16 rfl 94 rfl) (.slice (some ⟨bS, oS, none⟩) nry cry) (cNy (below_then hB1 hB)) _ Try.underlying57 rfl rfl) ?_
                      refine Steps.cons (fun a' w' hG hB dep => gs_move (want_none rfl) _ rfl (id (hG.other 13 rfl))) ?_
                      refine Steps.cons (fun a' w' hG hB dep => gs_field (want_none rfl) _ _ _ rfl g3 (0) (0) (hG.other 3 rfl) (fun wz => field_dfa_0 g3 (0) wz) rfl) ?_
                      refine Steps.cons (fun a' w' hG hB dep => gs_index_arr (want_none rfl) _ _ _ rfl g3 (0) c (dep 19 rfl 97 rfl) (dep 18 rfl 96 rfl) (fun wz => index_cls _ _ _ hc2 wz) rfl) ?_
                      refine Steps.cons (fun a' w' hG hB dep => gs_load1 (want_none rfl) _ _ rfl g3 (0 + c * 1) (dep 20 rfl 98 rfl) (.int .i64 (((my : Nat) : Int))) (by have h9 := blk_cls (blk_then h3 hB) hc2; rw [hfy] at h9; exact h9) _ Try.underlying3 rfl rfl) ?_
                      refine Steps.cons (fun a' w' hG hB dep => gs_index (want_none rfl) _ _ _ rfl under_ints 1 size_intE bS oS nry cry (my) (dep 17 rfl 95 rfl) (dep 21 rfl 99 rfl) hmy rfl) ?_
                      refine Steps.cons (fun a' w' hG hB dep => gs_load1 (want_none rfl) _ _ rfl bS (oS + my * 1) (dep 22 rfl 100 rfl) (.int .i64 (((tb : Nat) : Int))) (cRy (below_then hB1 hB)) _ Try.underlying3 rfl rfl) ?_
                      refine Steps.cons (fun a' w' hG hB dep => gs_assign (want_none rfl) _ rfl (id (dep 11 rfl 89 rfl))) ?_
                      refine Steps.cons (fun a' w' hG hB dep => gs_assign (want_none rfl) _ rfl (id (dep 23 rfl 101 rfl))) ?_
                      exact Steps.nil
                    intro u w8 hw8 ans
                    have hus14 : u 14 = (.int .i64 ((ta : Nat) : Int)) := ans 24 14 (by decide) rfl
                    have hus15 : u 15 = (.int .i64 ((tb : Nat) : Int)) := ans 25 15 (by decide) rfl
                    clear ans
                    simp only [putAll, List.foldl_cons, List.foldl_nil, Act.put, List.setIfInBounds_toArray, List.set_cons_zero, List.set_cons_succ, hus14, hus15]
                    clear hus14 hus15
                    simp only [List.drop]
                    refine wpList_nil ?_
                    replace h2 := blk_then h2 hw8
                    replace h3 := blk_then h3 hw8
                    replace hg := blk_then hg hw8
                    replace ho := ho.then_ hw8
                    replace hp6 := blk_then hp6 hw8
                    replace hB1 := below_then hB1 hw8
                    clear hw8 cNx cRx cNy cRy hAx hfx hmx hAy hfy hmy
                    have hxs2 : x.rs.length + tb < s := by have := hN.out; omega
                    have has2 : ta < s := by have := hN.out; omega
                    have hcj := join_any s gg ta (x.rs.length + tb) G rt hU has2 hxs2 hN0 w8 hg
                    rw [Int.natCast_add] at hcj
                    have cX : w8.cell? ⟨g2, 256, none⟩ = some (.slice x.A x.rs.length x.c) := blk_d1 h2
                    obtain ⟨q, hq⟩ : ∃ q, decide (rt ta ≠ rt (x.rs.length + tb)) = q := ⟨_, rfl⟩
                    rw [hq] at hcj
                    cases q with
                    | false =>
                      have hee : rt ta = rt (x.rs.length + tb) := by have := of_decide_eq_false hq; exact Decidable.not_not.1 this
                      rw [merge_self hee] at hcj
                      have hQ2 := hQ.known hk2 hkw2 hoX hoY hc2 (by rw [hl2.out, hta.out, htb.out, hAn]; exact hee)
                      replace hQ2 := Lib.hid hQ2
                      clear hq hee hQ hU
                      go_upto_region 25 with (first | (go_at_call 56; refine hcj.mono ?_; rintro e w9 ⟨rfl, hG9, G9, hg9, hU9⟩) | (go_at_call 56; refine park ?_))
                      clear cX hcj hg
                      replace h2 := blk_grown h2 hG9 e2
                      replace h3 := blk_grown h3 hG9 e3
                      replace ho := own_low ho hG9 lg
                      replace hp6 := blk_grown hp6 hG9 fg.symm
                      replace hB1 := below_grown hB1 hG9 hggw
                      clear hG9
                      go_wp2_with (fail)
                      exact ⟨⟨c + 1, l2, ws2, rt, G9, A, cp, by omega, rfl, rfl, hB1, h2, h3, hg9, hU9, ho, hQ2.out, hcn.out, ⟨hk2, hl2.out⟩, hp6, hAp⟩, by simp only [intOf]; omega⟩
                    | true =>
                      have hee : rt ta ≠ rt (x.rs.length + tb) := of_decide_eq_true hq
                      have hQ2 := hQ.add hk2 hkw2 hoX hoY hc2 hc10
                      rw [hl2.out, hta.out, htb.out, hAn] at hQ2
                      have hmc := merge_count hU has2 hxs2 hee
                      have hcn2 : (l2 ++ [(⟨ta, tb, (k : Nat), c⟩ : PR)]).length + cntF (fun u => decide (merge rt ta (x.rs.length + tb) u = u)) s ≤ s := by have := hcn.out; simp only [List.length_append, List.length_singleton]; omega
                      replace hQ2 := Lib.hid hQ2
                      replace hcn2 := Lib.hid hcn2
                      clear hq hee hQ hU hmc
                      go_upto_region 24 with (first | (go_at_call 56; refine hcj.mono ?_; rintro e w9 ⟨rfl, hG9, G9, hg9, hU9⟩) | (go_at_call 56; refine park ?_))
                      clear cX hcj hg
                      replace h2 := blk_grown h2 hG9 e2
                      replace h3 := blk_grown h3 hG9 e3
                      replace ho := own_low ho hG9 lg
                      replace hp6 := blk_grown hp6 hG9 fg.symm
                      replace hB1 := below_grown hB1 hG9 hggw
                      clear hG9
                      have hbq9 : bq ≤ w9.heap.size := by have := hp6.lt; omega
                      have hgp9 := hp6.lt
                      go_upto_region 25 with (first | (refine wl_build_pair4 rfl _ _ _ _ rfl ⟨ta, tb, (k : Int), c⟩ rfl rfl rfl rfl ?_) | (refine wl_bsp rfl _ rfl ⟨ta, tb, (k : Int), c⟩ rfl ?_) | (refine wl_pushP rfl _ _ rfl bq l2 ⟨ta, tb, (k : Int), c⟩ rfl rfl (Blk.new _ _ _) (ho.alloc _) rfl (by omega) (by rw [World.size_alloc]; omega) ?_; intro A8 c8 wB ho8 hg8 hv8))
                      have hBa : Below w9.heap.size w9 (w9.alloc (.cells (encP ⟨ta, tb, (k : Int), c⟩) 96)) := below_alloc (Below.refl _ _) _
                      have hoa := ho.then_ hBa
                      have hAp8 := block_push hv8 hAp (by rw [World.size_alloc]; omega)
                      replace h2 := blk_own (blk_then h2 hBa) hoa hg8 l2'
                      replace h3 := blk_own (blk_then h3 hBa) hoa hg8 l3
                      replace hg9 := blk_own (blk_then hg9 hBa) hoa hg8 lg
                      replace hp6 := (blk_then hp6 hBa).grown hg8 (slice_ne hAp)
                      replace hB1 := below_own (below_then hB1 hBa) hg8 (fun k e => by have := (hoa.lt k e).1; omega)
                      have hll8 : l2.length + 1 = (l2 ++ [(⟨ta, tb, (k : Nat), c⟩ : PR)]).length := by simp
                      have hkk8 : ∃ h : k < (l2 ++ [(⟨ta, tb, (k : Nat), c⟩ : PR)]).length, (l2 ++ [(⟨ta, tb, (k : Nat), c⟩ : PR)])[k] = pp := ⟨by simp; omega, by rw [List.getElem_append_left hk2]; exact hl2.out⟩
                      rw [hll8] at ho8 ⊢
                      replace hll8 := Lib.hid hll8
                      replace hkk8 := Lib.hid hkk8
                      clear hg8 hv8 ho hoa hBa
                      go_wp2_with (fail)
                      exact ⟨⟨c + 1, _, _, _, G9, A8, c8, by omega, rfl, rfl, hB1, h2, h3, hg9, hU9, ho8, hQ2.out, hcn2.out, hkk8.out, hp6, hAp8⟩, by simp only [intOf]; omega⟩
                · have hcI : ¬ (c : Int) < 256 := by omega
                  have hce : c = 256 := by omega
                  rw [hce] at hQ
                  have hQ2 := hQ.nextPair hk2 (by rw [hl2.out, ← hpp.out]; exact heq.out)
                  replace hQ2 := Lib.hid hQ2
                  clear hQ hce
                  go_wp2_with (fail)
                  exact ⟨⟨k + 1, l2, ws2, rt, G, A, cp, hk2, rfl, rfl, rfl, hB1, h2, h3, hg, hU, ho, hQ2.out, hcn.out⟩, by simp only [intOf]; omega⟩
          · have hkI : ¬ (k : Int) < l.length := by omega
            have hsame := hQ.same hoX hoY (by omega)
            clear hQ
            go_wp2_with (fail)
            try rw [Exit.noGoto_ret]
            go_ret3
            exact ⟨hB1, _, rfl, .inr (.inl ⟨hFx, hFy, hsame, rfl⟩)⟩
theorem enter_lsm (args : Array Value) (w : World) : (callFunc 29 args).run Try.prog w = .ok (.enter 29 args) w := by kernel_rfl
end Go.Proofs.Ytgahdookojbbiaa
