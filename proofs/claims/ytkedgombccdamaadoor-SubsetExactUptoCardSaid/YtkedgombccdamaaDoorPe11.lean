/- Part 11 of a proof; packed: the texts that it was made of follow one another. No condition beyond those named in each lemma. -/
import Derived.Test.YtkedgombccdamaaDoorPe10
import Derived.Test.YtkedgombccdamaaDoorPe9
namespace Go.Proofs.YtkedgombccdamaaDoor
open Go.RowKit Go.Shelf Go.Maps
set_option linter.unusedVariables false
set_option linter.unusedSimpArgs false
attribute [local go_sem] Oper.semAt_some

theorem guard_cls : Tryd.prog.eqGuardType Tryd.prog.depth 30 = false := by kernel_rfl
theorem cellsOf_int : Tryd.prog.cellsOf 3 = 1 := by kernel_rfl
theorem plain_int : Tryd.prog.plainKey 3 = true := by kernel_rfl
theorem neq_ints_same (xs : List Int) (h : xs.length = 256) (w : World) : (binOp .neq 30 (.agg (intsC .i64 xs)) (.agg (intsC .i64 xs))).run Tryd.prog w = .ok (.bool false) w := by
  obtain ⟨i, hi⟩ : ∃ i, Tryd.prog.info? 3 = some i := by
    cases h : Tryd.prog.info? 3 with
    | none => have := info_intS; rw [h] at this; cases this
    | some i => exact ⟨i, rfl⟩
  rw [run_neq_struct, run_equal_ints (P := Tryd.prog) (k := .i64) Tryd.underlying30 hi cellsOf_int Tryd.underlying3 plain_int xs xs h h w, beq_self_eq_true]
  rfl
theorem neq_cls_same (g : Nat → Int) (w : World) : (binOp .neq 30 (.agg (clsC g)) (.agg (clsC g))).run Tryd.prog w = .ok (.bool false) w := by
  unfold clsC
  exact neq_ints_same _ (by rw [List.length_map, List.length_range]) w
section
variable {ops : Array Oper} {S : Nat → GSpec} {Q : Exit → Act → World → Prop} {i : Nat} {o : Oper} {a : Act} {w : World}
theorem gs_load_clsr (hw : Region.wanted o (yielded ops a.tmps) = true) (x : Operand) (ho : o.op = .load 30 x) (g : Nat) (hx : a.eval x = .pointer (some ⟨g, 0, none⟩)) (y : Nat → Int) (hg : RowAt w g 0 (clsC y))
    (hp : (S i).p (.agg (clsC y)) w) : GStep Tryd.prog ops S Q i o a w :=
  gs_run hw (v := .agg (clsC y)) (by unfold execOp; simp only [ho, hx, Instr.loadAt, Instr.sureAddr, Sem.run_bind, Sem.run_pure, Result.andThen_ok, run_loadVar_at w g 0 _ _ _ hg Tryd.underlying30 rfl (info_cls.trans (by rw [clsC_size]))]) (Below.refl _ _) hp
theorem gs_neq_cls (hw : Region.wanted o (yielded ops a.tmps) = true) (x y : Operand) (t2 : TypeId) (ho : o.op = .binOp .neq 30 x y t2) (p : Nat → Int) (hx : a.eval x = .agg (clsC p)) (hy : a.eval y = .agg (clsC p))
    (hp : (S i).p (.bool false) w) : GStep Tryd.prog ops S Q i o a w :=
  gs_bin hw _ _ _ x y ho _ _ _ hx hy (run_eqGuard_agg w _ _ _ _ _ _ guard_cls) (neq_cls_same p w) hp
end
/-- two tables that read alike -/
def TEq (x y : Tb) : Prop := (∀ b, b < 256 → x.cls b = y.cls b) ∧ x.nx = y.nx ∧ x.fo = y.fo ∧ x.en = y.en
theorem TEq.refl (x : Tb) : TEq x x := ⟨fun _ _ => rfl, rfl, rfl, rfl⟩
theorem TEq.of {x y : Tb} (h : x = y) : TEq x y := by subst h; exact TEq.refl _
set_option maxRecDepth 100000 in
set_option maxHeartbeats 4000000 in
theorem same10_any (x y : TV) (he : TEq x.T y.T) (w : World) (hX : TabIn w w.heap.size x) (hY : TabIn w w.heap.size y) :
    Calls Tryd.prog 12 #[.agg x.C', .agg y.C'] w fun e w' => e = .returned (.bool true) ∧ Below w.heap.size w w' := by
  obtain ⟨he1, he2, he3, he4⟩ := he
  have hnl : x.rs.length = y.rs.length := by have := congrArg List.length he2; simpa [TV.T] using this
  have hfl : y.fo = x.fo := he3.symm
  have hel : y.en = x.en := he4.symm
  have hrow : ∀ i (h : i < x.rs.length) (h2 : i < y.rs.length), y.rs[i].l = x.rs[i].l := fun i h h2 => by
    have h9 : x.rs.map (·.l) = y.rs.map (·.l) := he2
    have h3 : (x.rs.map (·.l))[i]'(by simpa using h) = (y.rs.map (·.l))[i]'(by simpa using h2) := by simp only [h9]
    rw [List.getElem_map, List.getElem_map] at h3
    exact h3.symm
  have hXF : ∀ {X : World}, Below w.heap.size w X → SliceOf X X.heap.size 1 encR x.B x.fo := fun hB => (hX.fo.below hB).more hB.size
  have hYF : ∀ {X : World}, Below w.heap.size w X → SliceOf X X.heap.size 1 encR y.B x.fo := fun hB => by rw [← hfl]; exact (hY.fo.below hB).more hB.size
  have hXE : ∀ {X : World}, Below w.heap.size w X → SliceOf X X.heap.size 1 encR x.C x.en := fun hB => (hX.en.below hB).more hB.size
  have hYE : ∀ {X : World}, Below w.heap.size w X → SliceOf X X.heap.size 1 encR y.C x.en := fun hB => by rw [← hel]; exact (hY.en.below hB).more hB.size
  have hfob := hX.fb
  have henb := hX.eb
  have hnb := hX.nb
  have hCy : y.C' = dfaC x.f y.A x.rs.length y.c y.B x.fo.length y.d y.C x.en.length y.e := by
    unfold TV.C'
    rw [hfl, hel, hnl]
    exact dfaC_ext _ _ _ _ _ _ _ _ _ (fun b hb => (he1 b hb).symm)
  rw [hCy]
  unfold TV.C'
  obtain ⟨n, hn⟩ : ∃ n, x.rs.length = n := ⟨_, rfl⟩
  rw [hn] at hnb ⊢
  obtain ⟨f, hf⟩ : ∃ f, x.f = f := ⟨_, rfl⟩
  rw [hf]
  have hXf := hXF (Below.refl _ _)
  have hYf := hYF (Below.refl _ _)
  have hXe := hXE (Below.refl _ _)
  have hYe := hYE (Below.refl _ _)
  replace hn := Lib.hid hn
  replace hnl := Lib.hid hnl
  replace hrow := Lib.hid hrow
  clear hCy hfl hel he1 he2 he3 he4 hf
  go_enter Tryd.func12, Tryd.ntmps12
  have h2 := (Blk.new w 33 (dfaC f x.A n x.c x.B x.fo.length x.d x.C x.en.length x.e)).alloc (.cells (dfaC f y.A n y.c y.B x.fo.length y.d y.C x.en.length y.e) 33)
  have h3 : Blk ((w.alloc (.cells (dfaC f x.A n x.c x.B x.fo.length x.d x.C x.en.length x.e) 33)).alloc (.cells (dfaC f y.A n y.c y.B x.fo.length y.d y.C x.en.length y.e) 33)) (w.heap.size + 1) 33 (dfaC f y.A n y.c y.B x.fo.length y.d y.C x.en.length y.e) := Blk.new' _ _ _ (World.size_alloc _ _).symm
  have hB1 := below_alloc (below_alloc (Below.refl w.heap.size w) (.cells (dfaC f x.A n x.c x.B x.fo.length x.d x.C x.en.length x.e) 33)) (.cells (dfaC f y.A n y.c y.B x.fo.length y.d y.C x.en.length y.e) 33)
  go_upto_region 1 with (fail)
  obtain ⟨w1, hw1⟩ : ∃ ww, ww = ((w.alloc (.cells (dfaC f x.A n x.c x.B x.fo.length x.d x.C x.en.length x.e) 33)).alloc (.cells (dfaC f y.A n y.c y.B x.fo.length y.d y.C x.en.length y.e) 33)) := ⟨_, rfl⟩
  first | rw [← hw1] at h2 h3 hB1 ⊢ | (simp only [World.size_alloc]; rw [← hw1] at h2 h3 hB1 ⊢)
  clear hw1
  obtain ⟨g2, hg2⟩ : ∃ g, g = w.heap.size := ⟨_, rfl⟩
  obtain ⟨g3, hg3⟩ : ∃ g, g = w.heap.size + 1 := ⟨_, rfl⟩
  try rw [← hg3] at h3 ⊢
  try rw [← hg2] at h2 ⊢
  clear hg2 hg3
  replace hXF : ∀ {X : World}, Below w1.heap.size w1 X → SliceOf X X.heap.size 1 encR x.B x.fo := fun hB => hXF (below_then hB1 hB)
  replace hYF : ∀ {X : World}, Below w1.heap.size w1 X → SliceOf X X.heap.size 1 encR y.B x.fo := fun hB => hYF (below_then hB1 hB)
  replace hXE : ∀ {X : World}, Below w1.heap.size w1 X → SliceOf X X.heap.size 1 encR x.C x.en := fun hB => hXE (below_then hB1 hB)
  replace hYE : ∀ {X : World}, Below w1.heap.size w1 X → SliceOf X X.heap.size 1 encR y.C x.en := fun hB => hYE (below_then hB1 hB)
  refine wp_region_text 32 [eqS (.pointer (some ⟨g2, 0, none⟩)), eqS (.agg (clsC f)), eqS (.pointer (some ⟨g3, 0, none⟩)), eqS (.agg (clsC f)), eqS (.bool false), eqS (.bool false), eqS (vF (true && (false == false)) (.pointer (some ⟨g2, 256, none⟩))), eqS (vF (true && (false == false)) (.slice x.A n x.c)), eqS (vF (true && (false == false)) (.int .i64 (((n : Nat) : Int)))), eqS (vF (true && (false == false)) (.pointer (some ⟨g3, 256, none⟩))), eqS (vF (true && (false == false)) (.slice y.A n y.c)), eqS (vF (true && (false == false)) (.int .i64 (((n : Nat) : Int)))), eqS (vF (true && (false == false)) (.bool false)), eqS (.bool (false || false)), eqS (.bool (false || false)), eqS (vF (true && ((false || false) == false)) (.pointer (some ⟨g2, 257, none⟩))), eqS (vF (true && ((false || false) == false)) (.slice x.B x.fo.length x.d)), eqS (vF (true && ((false || false) == false)) (.int .i64 (((x.fo.length : Nat) : Int)))), eqS (vF (true && ((false || false) == false)) (.pointer (some ⟨g3, 257, none⟩))), eqS (vF (true && ((false || false) == false)) (.slice y.B x.fo.length y.d)), eqS (vF (true && ((false || false) == false)) (.int .i64 (((x.fo.length : Nat) : Int)))), eqS (vF (true && ((false || false) == false)) (.bool false)), eqS (.bool ((false || false) || false)), eqS (.bool ((false || false) || false)), eqS (vF (true && (((false || false) || false) == false)) (.pointer (some ⟨g2, 258, none⟩))), eqS (vF (true && (((false || false) || false) == false)) (.slice x.C x.en.length x.e)), eqS (vF (true && (((false || false) || false) == false)) (.int .i64 (((x.en.length : Nat) : Int)))), eqS (vF (true && (((false || false) || false) == false)) (.pointer (some ⟨g3, 258, none⟩))), eqS (vF (true && (((false || false) || false) == false)) (.slice y.C x.en.length y.e)), eqS (vF (true && (((false || false) || false) == false)) (.int .i64 (((x.en.length : Nat) : Int)))), eqS (vF (true && (((false || false) || false) == false)) (.bool false)), eqS (.bool (((false || false) || false) || false))] [9, 10, 11, 12, 13, 14, 15, 16, 17, 18, 19, 20, 21, 22, 23, 24, 25, 26, 27, 28, 29, 30, 31, 32, 33, 34, 35, 36, 37, 38, 39, 40] (by kernel_rfl) (by kernel_rfl) ?_ ?_
  · skip
    refine Steps.cons (fun a' w' hG hB dep => gs_field (want_none rfl) _ _ _ rfl g2 (0) (0) (hG.other 2 rfl) (fun wz => field_dfa_0 g2 (0) wz) rfl) ?_
    refine Steps.cons (fun a' w' hG hB dep => gs_load_clsr (want_none rfl) _ rfl g2 (dep 0 rfl 9 rfl) f (dfaC_cls _ _ _ _ _ _ _ _ _ _ (RowAt.of_blk (blk_then h2 hB))) rfl) ?_
    refine Steps.cons (fun a' w' hG hB dep => gs_field (want_none rfl) _ _ _ rfl g3 (0) (0) (hG.other 3 rfl) (fun wz => field_dfa_0 g3 (0) wz) rfl) ?_
    refine Steps.cons (fun a' w' hG hB dep => gs_load_clsr (want_none rfl) _ rfl g3 (dep 2 rfl 11 rfl) f (dfaC_cls _ _ _ _ _ _ _ _ _ _ (RowAt.of_blk (blk_then h3 hB))) rfl) ?_
    refine Steps.cons (fun a' w' hG hB dep => gs_neq_cls (want_none rfl) _ _ _ rfl f (dep 1 rfl 10 rfl) (dep 3 rfl 12 rfl) rfl) ?_
    refine Steps.cons (fun a' w' hG hB dep => gs_move (want_none rfl) _ rfl (id (dep 4 rfl 13 rfl))) ?_
    refine Steps.cons (fun a' w' hG hB dep => gs_guard (c := true) (b' := false) rfl rfl (dep 5 rfl 14 rfl) (fun hc he hw => gs_field hw _ _ _ rfl g2 (0) (256) (hG.other 2 rfl) (fun wz => field_dfa_1 g2 (0) wz) (vF_yes (on_g hc he) _).symm) (fun hn => vF_no hn _)) ?_
    refine Steps.cons (fun a' w' hG hB dep => gs_guard (c := true) (b' := false) rfl rfl (dep 5 rfl 14 rfl) (fun hc he hw => gs_load1 hw _ _ rfl g2 (256) (Eq.trans (dep 6 rfl 15 rfl) (vF_yes (on_g hc he) _)) (.slice x.A n x.c) (blk_d1 (blk_then h2 hB)) _ Tryd.underlying31 rfl (vF_yes (on_g hc he) _).symm) (fun hn => vF_no hn _)) ?_
    refine Steps.cons (fun a' w' hG hB dep => gs_guard (c := true) (b' := false) rfl rfl (dep 5 rfl 14 rfl) (fun hc he hw => gs_len hw _ _ rfl under_rows _ n x.c (Eq.trans (dep 7 rfl 16 rfl) (vF_yes (on_g hc he) _)) (vF_yes (on_g hc he) _).symm) (fun hn => vF_no hn _)) ?_
    refine Steps.cons (fun a' w' hG hB dep => gs_guard (c := true) (b' := false) rfl rfl (dep 5 rfl 14 rfl) (fun hc he hw => gs_field hw _ _ _ rfl g3 (0) (256) (hG.other 3 rfl) (fun wz => field_dfa_1 g3 (0) wz) (vF_yes (on_g hc he) _).symm) (fun hn => vF_no hn _)) ?_
    refine Steps.cons (fun a' w' hG hB dep => gs_guard (c := true) (b' := false) rfl rfl (dep 5 rfl 14 rfl) (fun hc he hw => gs_load1 hw _ _ rfl g3 (256) (Eq.trans (dep 9 rfl 18 rfl) (vF_yes (on_g hc he) _)) (.slice y.A n y.c) (blk_d1 (blk_then h3 hB)) _ Tryd.underlying31 rfl (vF_yes (on_g hc he) _).symm) (fun hn => vF_no hn _)) ?_
    refine Steps.cons (fun a' w' hG hB dep => gs_guard (c := true) (b' := false) rfl rfl (dep 5 rfl 14 rfl) (fun hc he hw => gs_len hw _ _ rfl under_rows _ n y.c (Eq.trans (dep 10 rfl 19 rfl) (vF_yes (on_g hc he) _)) (vF_yes (on_g hc he) _).symm) (fun hn => vF_no hn _)) ?_
    refine Steps.cons (fun a' w' hG hB dep => gs_guard (c := true) (b' := false) rfl rfl (dep 5 rfl 14 rfl) (fun hc he hw => gs_neq_int hw _ _ _ _ rfl _ _ _ (Eq.trans (dep 8 rfl 17 rfl) (vF_yes (on_g hc he) _)) (Eq.trans (dep 11 rfl 20 rfl) (vF_yes (on_g hc he) _)) (Eq.trans (congrArg Value.bool (bne_self_eq_false _)) (vF_yes (on_g hc he) _).symm)) (fun hn => vF_no hn _)) ?_
    refine Steps.cons (fun a' w' hG hB dep => gs_pick (want_none rfl) _ _ _ rfl false (dep 5 rfl 14 rfl) (id (pick_or2 (c := true) rfl (dep 12 rfl 21 rfl)))) ?_
    refine Steps.cons (fun a' w' hG hB dep => gs_move (want_none rfl) _ rfl (id (dep 13 rfl 22 rfl))) ?_
    refine Steps.cons (fun a' w' hG hB dep => gs_guard (c := true) (b' := (false || false)) rfl rfl (dep 14 rfl 23 rfl) (fun hc he hw => gs_field hw _ _ _ rfl g2 (0) (257) (hG.other 2 rfl) (fun wz => field_dfa_2 g2 (0) wz) (vF_yes (on_g hc he) _).symm) (fun hn => vF_no hn _)) ?_
    refine Steps.cons (fun a' w' hG hB dep => gs_guard (c := true) (b' := (false || false)) rfl rfl (dep 14 rfl 23 rfl) (fun hc he hw => gs_load1 hw _ _ rfl g2 (257) (Eq.trans (dep 15 rfl 24 rfl) (vF_yes (on_g hc he) _)) (.slice x.B x.fo.length x.d) (blk_d2 (blk_then h2 hB)) _ Tryd.underlying23 rfl (vF_yes (on_g hc he) _).symm) (fun hn => vF_no hn _)) ?_
    refine Steps.cons (fun a' w' hG hB dep => gs_guard (c := true) (b' := (false || false)) rfl rfl (dep 14 rfl 23 rfl) (fun hc he hw => gs_len hw _ _ rfl under_rules _ x.fo.length x.d (Eq.trans (dep 16 rfl 25 rfl) (vF_yes (on_g hc he) _)) (vF_yes (on_g hc he) _).symm) (fun hn => vF_no hn _)) ?_
    refine Steps.cons (fun a' w' hG hB dep => gs_guard (c := true) (b' := (false || false)) rfl rfl (dep 14 rfl 23 rfl) (fun hc he hw => gs_field hw _ _ _ rfl g3 (0) (257) (hG.other 3 rfl) (fun wz => field_dfa_2 g3 (0) wz) (vF_yes (on_g hc he) _).symm) (fun hn => vF_no hn _)) ?_
    refine Steps.cons (fun a' w' hG hB dep => gs_guard (c := true) (b' := (false || false)) rfl rfl (dep 14 rfl 23 rfl) (fun hc he hw => gs_load1 hw _ _ rfl g3 (257) (Eq.trans (dep 18 rfl 27 rfl) (vF_yes (on_g hc he) _)) (.slice y.B x.fo.length y.d) (blk_d2 (blk_then h3 hB)) _ Tryd.underlying23 rfl (vF_yes (on_g hc he) _).symm) (fun hn => vF_no hn _)) ?_
    refine Steps.cons (fun a' w' hG hB dep => gs_guard (c := true) (b' := (false || false)) rfl rfl (dep 14 rfl 23 rfl) (fun hc he hw => gs_len hw _ _ rfl under_rules _ x.fo.length y.d (Eq.trans (dep 19 rfl 28 rfl) (vF_yes (on_g hc he) _)) (vF_yes (on_g hc he) _).symm) (fun hn => vF_no hn _)) ?_
    refine Steps.cons (fun a' w' hG hB dep => gs_guard (c := true) (b' := (false || false)) rfl rfl (dep 14 rfl 23 rfl) (fun hc he hw => gs_neq_int hw _ _ _ _ rfl _ _ _ (Eq.trans (dep 17 rfl 26 rfl) (vF_yes (on_g hc he) _)) (Eq.trans (dep 20 rfl 29 rfl) (vF_yes (on_g hc he) _)) (Eq.trans (congrArg Value.bool (bne_self_eq_false _)) (vF_yes (on_g hc he) _).symm)) (fun hn => vF_no hn _)) ?_
    refine Steps.cons (fun a' w' hG hB dep => gs_pick (want_none rfl) _ _ _ rfl (false || false) (dep 14 rfl 23 rfl) (id (pick_or2 (c := true) rfl (dep 21 rfl 30 rfl)))) ?_
    refine Steps.cons (fun a' w' hG hB dep => gs_move (want_none rfl) _ rfl (id (dep 22 rfl 31 rfl))) ?_
    refine Steps.cons (fun a' w' hG hB dep => gs_guard (c := true) (b' := ((false || false) || false)) rfl rfl (dep 23 rfl 32 rfl) (fun hc he hw => gs_field hw _ _ _ rfl g2 (0) (258) (hG.other 2 rfl) (fun wz => field_dfa_3 g2 (0) wz) (vF_yes (on_g hc he) _).symm) (fun hn => vF_no hn _)) ?_
    refine Steps.cons (fun a' w' hG hB dep => gs_guard (c := true) (b' := ((false || false) || false)) rfl rfl (dep 23 rfl 32 rfl) (fun hc he hw => gs_load1 hw _ _ rfl g2 (258) (Eq.trans (dep 24 rfl 33 rfl) (vF_yes (on_g hc he) _)) (.slice x.C x.en.length x.e) (blk_d3 (blk_then h2 hB)) _ Tryd.underlying23 rfl (vF_yes (on_g hc he) _).symm) (fun hn => vF_no hn _)) ?_
    refine Steps.cons (fun a' w' hG hB dep => gs_guard (c := true) (b' := ((false || false) || false)) rfl rfl (dep 23 rfl 32 rfl) (fun hc he hw => gs_len hw _ _ rfl under_rules _ x.en.length x.e (Eq.trans (dep 25 rfl 34 rfl) (vF_yes (on_g hc he) _)) (vF_yes (on_g hc he) _).symm) (fun hn => vF_no hn _)) ?_
    refine Steps.cons (fun a' w' hG hB dep => gs_guard (c := true) (b' := ((false || false) || false)) rfl rfl (dep 23 rfl 32 rfl) (fun hc he hw => gs_field hw _ _ _ rfl g3 (0) (258) (hG.other 3 rfl) (fun wz => field_dfa_3 g3 (0) wz) (vF_yes (on_g hc he) _).symm) (fun hn => vF_no hn _)) ?_
    refine Steps.cons (fun a' w' hG hB dep => gs_guard (c := true) (b' := ((false || false) || false)) rfl rfl (dep 23 rfl 32 rfl) (fun hc he hw => gs_load1 hw _ _ rfl g3 (258) (Eq.trans (dep 27 rfl 36 rfl) (vF_yes (on_g hc he) _)) (.slice y.C x.en.length y.e) (blk_d3 (blk_then h3 hB)) _ Tryd.underlying23 rfl (vF_yes (on_g hc he) _).symm) (fun hn => vF_no hn _)) ?_
    refine Steps.cons (fun a' w' hG hB dep => gs_guard (c := true) (b' := ((false || false) || false)) rfl rfl (dep 23 rfl 32 rfl) (fun hc he hw => gs_len hw _ _ rfl under_rules _ x.en.length y.e (Eq.trans (dep 28 rfl 37 rfl) (vF_yes (on_g hc he) _)) (vF_yes (on_g hc he) _).symm) (fun hn => vF_no hn _)) ?_
    refine Steps.cons (fun a' w' hG hB dep => gs_guard (c := true) (b' := ((false || false) || false)) rfl rfl (dep 23 rfl 32 rfl) (fun hc he hw => gs_neq_int hw _ _ _ _ rfl _ _ _ (Eq.trans (dep 26 rfl 35 rfl) (vF_yes (on_g hc he) _)) (Eq.trans (dep 29 rfl 38 rfl) (vF_yes (on_g hc he) _)) (Eq.trans (congrArg Value.bool (bne_self_eq_false _)) (vF_yes (on_g hc he) _).symm)) (fun hn => vF_no hn _)) ?_
    refine Steps.cons (fun a' w' hG hB dep => gs_pick (want_none rfl) _ _ _ rfl ((false || false) || false) (dep 23 rfl 32 rfl) (id (pick_or2 (c := true) rfl (dep 30 rfl 39 rfl)))) ?_
    exact Steps.nil
  intro u w2 hw2 ans
  have hus40 : u 40 = (.bool (((false || false) || false) || false)) := ans 31 40 (by decide) rfl
  clear ans
  simp only [putAll, List.foldl_cons, List.foldl_nil, Act.put, List.setIfInBounds_toArray, List.set_cons_zero, List.set_cons_succ, hus40]
  clear hus40
  simp only [List.drop]
  refine wpList_nil ?_
  replace h2 := blk_then h2 hw2
  replace h3 := blk_then h3 hw2
  replace hB1 := below_then hB1 hw2
  clear hw2 hXF hYF hXE hYE
  rw [show (((false || false) || false) || false) = false from rfl]
  go_upto_region 4 with (fail)
  go_loopw [5] (fun iv wr => ∃ i : Nat, i ≤ n ∧ iv = .int .i64 i ∧ Below w.heap.size w wr ∧ Blk wr g2 33 (dfaC f x.A n x.c x.B x.fo.length x.d x.C x.en.length x.e) ∧ Blk wr g3 33 (dfaC f y.A n y.c y.B x.fo.length y.d y.C x.en.length y.e)) (fun iv _ => n - (intOf iv).toNat)
  case atStart => exact ⟨0, by omega, rfl, hB1, h2, h3⟩
  case round =>
    clear h2 h3 hB1
    obtain ⟨i, hi, rfl, hB1, h2, h3⟩ := hrel
    by_cases hil : i < n
    · have hiI : (i : Int) < n := by omega
      have hix : i < x.rs.length := by rw [hn.out]; exact hil
      have hiy : i < y.rs.length := by rw [← hnl.out]; exact hix
      obtain ⟨bX, oX, hXA, hbX, cX⟩ := hX.rowAt hix
      obtain ⟨bY, oY, hYA, hbY, cY⟩ := hY.rowAt hiy
      have hlb := hX.rb _ (List.getElem_mem hix)
      have hP0 := hX.row _ (List.getElem_mem hix)
      have hQ0 := hY.row _ (List.getElem_mem hiy)
      have hle := hrow.out i hix hiy
      rw [hle] at cY hQ0
      obtain ⟨p, hp⟩ : ∃ p, x.rs[i] = p := ⟨_, rfl⟩
      obtain ⟨q, hq⟩ : ∃ q, y.rs[i] = q := ⟨_, rfl⟩
      rw [hp] at cX hP0 cY hQ0 hlb
      rw [hq] at cY hQ0
      obtain ⟨l, hl⟩ : ∃ l, p.l = l := ⟨_, rfl⟩
      rw [hl] at cX hP0 cY hQ0 hlb
      have cP : ∀ {X : World}, Below wr.heap.size wr X → X.cell? ⟨bX, oX + i * 1, none⟩ = some (.slice p.a l.length p.c) := fun hB => cell_keep cX hbX (below_then hB1 hB)
      have cQ : ∀ {X : World}, Below wr.heap.size wr X → X.cell? ⟨bY, oY + i * 1, none⟩ = some (.slice q.a l.length q.c) := fun hB => cell_keep cY hbY (below_then hB1 hB)
      have hP : ∀ {X : World}, Below wr.heap.size wr X → SliceOf X X.heap.size 1 encZ p.a l := fun hB => (hP0.below (below_then hB1 hB)).more (below_then hB1 hB).size
      have hQ : ∀ {X : World}, Below wr.heap.size wr X → SliceOf X X.heap.size 1 encZ q.a l := fun hB => (hQ0.below (below_then hB1 hB)).more (below_then hB1 hB).size
      clear hle hp hq hl cX cY hP0 hQ0
      replace hXA := hXA
      have cN : wr.cell? ⟨g2, 256, none⟩ = some (.slice x.A n x.c) := blk_d1 h2
      go_upto_region 6 with (fail)
      clear cN
      refine wp_region_steps 13 [eqS (.pointer (some ⟨g2, 256, none⟩)), eqS (.slice (some ⟨bX, oX, none⟩) n x.c), eqS (.int .i64 (((i : Nat) : Int))), eqS (.pointer (some ⟨bX, oX + i * 1, none⟩)), eqS (.slice p.a l.length p.c), eqS (.int .i64 (((l.length : Nat) : Int))), eqS (.pointer (some ⟨g3, 256, none⟩)), eqS (.slice (some ⟨bY, oY, none⟩) n y.c), eqS (.int .i64 (((i : Nat) : Int))), eqS (.pointer (some ⟨bY, oY + i * 1, none⟩)), eqS (.slice q.a l.length q.c), eqS (.int .i64 (((l.length : Nat) : Int))), eqS (.bool false)] [48, 49, 50, 51, 52, 53, 54, 55, 56, 57, 58, 59, 60] follows_mixed (by kernel_rfl) (by kernel_rfl) ?_ ?_
      · skip
        refine Steps.cons (fun a' w' hG hB dep => gs_field (want_none rfl) _ _ _ rfl g2 (0) (256) (hG.other 2 rfl) (fun wz => field_dfa_1 g2 (0) wz) rfl) ?_
        refine Steps.cons (fun a' w' hG hB dep => gs_load1 (want_none rfl) _ _ rfl g2 (256) (dep 0 rfl 48 rfl) (.slice (some ⟨bX, oX, none⟩) n x.c) (by have h9 := blk_d1 (blk_then h2 hB); rw [hXA] at h9; exact h9) _ Tryd.underlying31 rfl rfl) ?_
        refine Steps.cons (fun a' w' hG hB dep => gs_move (want_none rfl) _ rfl (id (hG.other 5 rfl))) ?_
        refine Steps.cons (fun a' w' hG hB dep => gs_index (want_none rfl) _ _ _ rfl under_rows 1 size_rowE bX oX n x.c (i) (dep 1 rfl 49 rfl) (dep 2 rfl 50 rfl) hil rfl) ?_
        refine Steps.cons (fun a' w' hG hB dep => gs_load1 (want_none rfl) _ _ rfl bX (oX + i * 1) (dep 3 rfl 51 rfl) (.slice p.a l.length p.c) (cP hB) _ Tryd.underlying67 rfl rfl) ?_
        refine Steps.cons (fun a' w' hG hB dep => gs_len (want_none rfl) _ _ rfl under_ints _ l.length p.c (dep 4 rfl 52 rfl) rfl) ?_
        refine Steps.cons (fun a' w' hG hB dep => gs_field (want_none rfl) _ _ _ rfl g3 (0) (256) (hG.other 3 rfl) (fun wz => field_dfa_1 g3 (0) wz) rfl) ?_
        refine Steps.cons (fun a' w' hG hB dep => gs_load1 (want_none rfl) _ _ rfl g3 (256) (dep 6 rfl 54 rfl) (.slice (some ⟨bY, oY, none⟩) n y.c) (by have h9 := blk_d1 (blk_then h3 hB); rw [hYA] at h9; exact h9) _ Tryd.underlying31 rfl rfl) ?_
        refine Steps.cons (fun a' w' hG hB dep => gs_move (want_none rfl) _ rfl (id (hG.other 5 rfl))) ?_
        refine Steps.cons (fun a' w' hG hB dep => gs_index (want_none rfl) _ _ _ rfl under_rows 1 size_rowE bY oY n y.c (i) (dep 7 rfl 55 rfl) (dep 8 rfl 56 rfl) hil rfl) ?_
        refine Steps.cons (fun a' w' hG hB dep => gs_load1 (want_none rfl) _ _ rfl bY (oY + i * 1) (dep 9 rfl 57 rfl) (.slice q.a l.length q.c) (cQ hB) _ Tryd.underlying67 rfl rfl) ?_
        refine Steps.cons (fun a' w' hG hB dep => gs_len (want_none rfl) _ _ rfl under_ints _ l.length q.c (dep 10 rfl 58 rfl) rfl) ?_
        refine Steps.cons (fun a' w' hG hB dep => gs_neq_int (want_none rfl) _ _ _ _ rfl _ _ _ (dep 5 rfl 53 rfl) (dep 11 rfl 59 rfl) (id (congrArg Value.bool (bne_self_eq_false _)))) ?_
        exact Steps.nil
      intro u w3 hw3 ans
      have hus60 : u 60 = (.bool false) := ans 12 60 (by decide) rfl
      clear ans
      simp only [putAll, List.foldl_cons, List.foldl_nil, Act.put, List.setIfInBounds_toArray, List.set_cons_zero, List.set_cons_succ, hus60]
      clear hus60
      simp only [List.drop]
      refine wpList_nil ?_
      replace h2 := blk_then h2 hw3
      replace h3 := blk_then h3 hw3
      replace hB1 := below_then hB1 hw3
      have cP3 : ∀ X : World, Below w3.heap.size w3 X → X.cell? ⟨bX, oX + i * 1, none⟩ = some (.slice p.a l.length p.c) := fun X hB => cP (below_then hw3 hB)
      have cQ3 : ∀ X : World, Below w3.heap.size w3 X → X.cell? ⟨bY, oY + i * 1, none⟩ = some (.slice q.a l.length q.c) := fun X hB => cQ (below_then hw3 hB)
      replace hP := hP hw3
      replace hQ := hQ hw3
      clear hw3
      have HcP := Lib.hid cP3
      have HcQ := Lib.hid cQ3
      have HXA := Lib.hid hXA
      have HYA := Lib.hid hYA
      clear cP cQ cP3 cQ3 hXA hYA
      go_wp2_with (fail)
      go_loopw [6] (fun kv wk => ∃ k : Nat, k ≤ l.length ∧ kv = .int .i64 k ∧ Below w3.heap.size w3 wk ∧ Blk wk g2 33 (dfaC f x.A n x.c x.B x.fo.length x.d x.C x.en.length x.e) ∧ Blk wk g3 33 (dfaC f y.A n y.c y.B x.fo.length y.d y.C x.en.length y.e)) (fun kv _ => l.length - (intOf kv).toNat)
      case atStart => exact ⟨0, by omega, rfl, Below.refl _ _, h2, h3⟩
      case round =>
        clear h2 h3
        obtain ⟨k, hk, rfl, hBk, h2, h3⟩ := hrel
        have cN : wr.cell? ⟨g2, 256, none⟩ = some (.slice (some ⟨bX, oX, none⟩) n x.c) := by rw [← HXA.out]; exact blk_d1 h2
        have cPr : wr.cell? ⟨bX, oX + i, none⟩ = some (.slice p.a l.length p.c) := by have := HcP.out _ hBk; rwa [Nat.mul_one] at this
        by_cases hkl : k < l.length
        · have hkI : (k : Int) < l.length := by omega
          obtain ⟨bp, op, hpa, hbp, hrp⟩ := hP.at_ (by omega)
          obtain ⟨bq, oq, hqa, hbq, hrq⟩ := hQ.at_ (by omega)
          obtain ⟨z, hz⟩ : ∃ z, l[k] = z := ⟨_, rfl⟩
          have cz1 : ∀ {X : World}, Below wr.heap.size wr X → X.cell? ⟨bp, op + k * 1, none⟩ = some (Value.int .i64 z) := fun hB => by rw [← hz]; exact cell_keep (hrp k hkl 0 _ rfl) hbp (below_then hBk hB)
          have cz2 : ∀ {X : World}, Below wr.heap.size wr X → X.cell? ⟨bq, oq + k * 1, none⟩ = some (Value.int .i64 z) := fun hB => by rw [← hz]; exact cell_keep (hrq k hkl 0 _ rfl) hbq (below_then hBk hB)
          have cP2 : ∀ {X : World}, Below wr.heap.size wr X → X.cell? ⟨bX, oX + i * 1, none⟩ = some (.slice (some ⟨bp, op, none⟩) l.length p.c) := fun hB => by rw [← hpa]; exact HcP.out _ (below_then hBk hB)
          have cQ2 : ∀ {X : World}, Below wr.heap.size wr X → X.cell? ⟨bY, oY + i * 1, none⟩ = some (.slice (some ⟨bq, oq, none⟩) l.length q.c) := fun hB => by rw [← hqa]; exact HcQ.out _ (below_then hBk hB)
          replace hz := Lib.hid hz
          replace hpa := Lib.hid hpa
          replace hqa := Lib.hid hqa
          go_upto_region 11 with (fail)
          clear cN cPr
          have hXA := HXA.out
          have hYA := HYA.out
          refine wp_region_steps 17 [eqS (.pointer (some ⟨g2, 256, none⟩)), eqS (.slice (some ⟨bX, oX, none⟩) n x.c), eqS (.int .i64 (((i : Nat) : Int))), eqS (.pointer (some ⟨bX, oX + i * 1, none⟩)), eqS (.slice (some ⟨bp, op, none⟩) l.length p.c), eqS (.int .i64 (((k : Nat) : Int))), eqS (.pointer (some ⟨bp, op + k * 1, none⟩)), eqS (.int .i64 (z)), eqS (.pointer (some ⟨g3, 256, none⟩)), eqS (.slice (some ⟨bY, oY, none⟩) n y.c), eqS (.int .i64 (((i : Nat) : Int))), eqS (.pointer (some ⟨bY, oY + i * 1, none⟩)), eqS (.slice (some ⟨bq, oq, none⟩) l.length q.c), eqS (.int .i64 (((k : Nat) : Int))), eqS (.pointer (some ⟨bq, oq + k * 1, none⟩)), eqS (.int .i64 (z)), eqS (.bool false)] [71, 72, 73, 74, 75, 76, 77, 78, 79, 80, 81, 82, 83, 84, 85, 86, 87] follows_mixed (by kernel_rfl) (by kernel_rfl) ?_ ?_
          · skip
            refine Steps.cons (fun a' w' hG hB dep => gs_field (want_none rfl) _ _ _ rfl g2 (0) (256) (hG.other 2 rfl) (fun wz => field_dfa_1 g2 (0) wz) rfl) ?_
            refine Steps.cons (fun a' w' hG hB dep => gs_load1 (want_none rfl) _ _ rfl g2 (256) (dep 0 rfl 71 rfl) (.slice (some ⟨bX, oX, none⟩) n x.c) (by have h9 := blk_d1 (blk_then h2 hB); rw [hXA] at h9; exact h9) _ Tryd.underlying31 rfl rfl) ?_
            refine Steps.cons (fun a' w' hG hB dep => gs_move (want_none rfl) _ rfl (id (hG.other 5 rfl))) ?_
            refine Steps.cons (fun a' w' hG hB dep => gs_index (want_none rfl) _ _ _ rfl under_rows 1 size_rowE bX oX n x.c (i) (dep 1 rfl 72 rfl) (dep 2 rfl 73 rfl) hil rfl) ?_
            refine Steps.cons (fun a' w' hG hB dep => gs_load1 (want_none rfl) _ _ rfl bX (oX + i * 1) (dep 3 rfl 74 rfl) (.slice (some ⟨bp, op, none⟩) l.length p.c) (cP2 hB) _ Tryd.underlying67 rfl rfl) ?_
            refine Steps.cons (fun a' w' hG hB dep => gs_move (want_none rfl) _ rfl (id (hG.other 6 rfl))) ?_
            refine Steps.cons (fun a' w' hG hB dep => gs_index (want_none rfl) _ _ _ rfl under_ints 1 size_intE bp op l.length p.c (k) (dep 4 rfl 75 rfl) (dep 5 rfl 76 rfl) hkl rfl) ?_
            refine Steps.cons (fun a' w' hG hB dep => gs_load1 (want_none rfl) _ _ rfl bp (op + k * 1) (dep 6 rfl 77 rfl) (.int .i64 (z)) (cz1 hB) _ Tryd.underlying3 rfl rfl) ?_
            refine Steps.cons (fun a' w' hG hB dep => gs_field (want_none rfl) _ _ _ rfl g3 (0) (256) (hG.other 3 rfl) (fun wz => field_dfa_1 g3 (0) wz) rfl) ?_
            refine Steps.cons (fun a' w' hG hB dep => gs_load1 (want_none rfl) _ _ rfl g3 (256) (dep 8 rfl 79 rfl) (.slice (some ⟨bY, oY, none⟩) n y.c) (by have h9 := blk_d1 (blk_then h3 hB); rw [hYA] at h9; exact h9) _ Tryd.underlying31 rfl rfl) ?_
            refine Steps.cons (fun a' w' hG hB dep => gs_move (want_none rfl) _ rfl (id (hG.other 5 rfl))) ?_
            refine Steps.cons (fun a' w' hG hB dep => gs_index (want_none rfl) _ _ _ rfl under_rows 1 size_rowE bY oY n y.c (i) (dep 9 rfl 80 rfl) (dep 10 rfl 81 rfl) hil rfl) ?_
            refine Steps.cons (fun a' w' hG hB dep => gs_load1 (want_none rfl) _ _ rfl bY (oY + i * 1) (dep 11 rfl 82 rfl) (.slice (some ⟨bq, oq, none⟩) l.length q.c) (cQ2 hB) _ Tryd.underlying67 rfl rfl) ?_
            refine Steps.cons (fun a' w' hG hB dep => gs_move (want_none rfl) _ rfl (id (hG.other 6 rfl))) ?_
            refine Steps.cons (fun a' w' hG hB dep => gs_index (want_none rfl) _ _ _ rfl under_ints 1 size_intE bq oq l.length q.c (k) (dep 12 rfl 83 rfl) (dep 13 rfl 84 rfl) hkl rfl) ?_
            refine Steps.cons (fun a' w' hG hB dep => gs_load1 (want_none rfl) _ _ rfl bq (oq + k * 1) (dep 14 rfl 85 rfl) (.int .i64 (z)) (cz2 hB) _ Tryd.underlying3 rfl rfl) ?_
            refine Steps.cons (fun a' w' hG hB dep => gs_neq_int (want_none rfl) _ _ _ _ rfl _ _ _ (dep 7 rfl 78 rfl) (dep 15 rfl 86 rfl) (id (congrArg Value.bool (bne_self_eq_false _)))) ?_
            exact Steps.nil
          intro u w4 hw4 ans
          have hus87 : u 87 = (.bool false) := ans 16 87 (by decide) rfl
          clear ans
          simp only [putAll, List.foldl_cons, List.foldl_nil, Act.put, List.setIfInBounds_toArray, List.set_cons_zero, List.set_cons_succ, hus87]
          clear hus87
          simp only [List.drop]
          refine wpList_nil ?_
          replace h2 := blk_then h2 hw4
          replace h3 := blk_then h3 hw4
          replace hBk := below_then hBk hw4
          clear hw4 cz1 cz2 cP2 cQ2 hXA hYA
          go_wp2_with (fail)
          exact ⟨⟨k + 1, by omega, rfl, hBk, h2, h3⟩, by simp only [intOf]; omega⟩
        · have hkI : ¬ (k : Int) < l.length := by omega
          go_wp2_with (fail)
          exact ⟨⟨i + 1, by omega, rfl, below_then hB1 hBk, h2, h3⟩, by simp only [intOf]; omega⟩
    · have hiI : ¬ (i : Int) < n := by omega
      have cN : wr.cell? ⟨g2, 256, none⟩ = some (.slice x.A n x.c) := blk_d1 h2
      go_upto_region 14 with (fail)
      clear cN
      go_loopw [7] (fun iv wr => ∃ i : Nat, i ≤ x.fo.length ∧ iv = .int .i64 i ∧ Below w.heap.size w wr ∧ Blk wr g2 33 (dfaC f x.A n x.c x.B x.fo.length x.d x.C x.en.length x.e) ∧ Blk wr g3 33 (dfaC f y.A n y.c y.B x.fo.length y.d y.C x.en.length y.e)) (fun iv _ => x.fo.length - (intOf iv).toNat)
      case atStart => exact ⟨0, by omega, rfl, hB1, h2, h3⟩
      case round =>
        clear h2 h3 hB1
        obtain ⟨i, hi, rfl, hB1, h2, h3⟩ := hrel
        by_cases hil : i < x.fo.length
        · have hiI : (i : Int) < x.fo.length := by omega
          obtain ⟨bX, oX, hXA, hbX, hrX⟩ := hXf.at_ (by omega)
          obtain ⟨bY, oY, hYA, hbY, hrY⟩ := hYf.at_ (by omega)
          obtain ⟨z, hz⟩ : ∃ z, x.fo[i] = z := ⟨_, rfl⟩
          have cz1 : ∀ {X : World}, Below wr.heap.size wr X → X.cell? ⟨bX, oX + i * 1, none⟩ = some (Value.int .u32 ((z : Nat) : Int)) := fun hB => by rw [← hz]; exact cell_keep (hrX i hil 0 _ rfl) hbX (below_then hB1 hB)
          have cz2 : ∀ {X : World}, Below wr.heap.size wr X → X.cell? ⟨bY, oY + i * 1, none⟩ = some (Value.int .u32 ((z : Nat) : Int)) := fun hB => by rw [← hz]; exact cell_keep (hrY i hil 0 _ rfl) hbY (below_then hB1 hB)
          replace hz := Lib.hid hz
          replace hXA := Lib.hid hXA
          replace hYA := Lib.hid hYA
          have cN : wr.cell? ⟨g2, 257, none⟩ = some (.slice x.B x.fo.length x.d) := blk_d2 h2
          go_upto_region 16 with (fail)
          clear cN
          refine wp_region_steps 11 [eqS (.pointer (some ⟨g2, 257, none⟩)), eqS (.slice (some ⟨bX, oX, none⟩) x.fo.length x.d), eqS (.int .i64 (((i : Nat) : Int))), eqS (.pointer (some ⟨bX, oX + i * 1, none⟩)), eqS (.int .u32 (((z : Nat) : Int))), eqS (.pointer (some ⟨g3, 257, none⟩)), eqS (.slice (some ⟨bY, oY, none⟩) x.fo.length y.d), eqS (.int .i64 (((i : Nat) : Int))), eqS (.pointer (some ⟨bY, oY + i * 1, none⟩)), eqS (.int .u32 (((z : Nat) : Int))), eqS (.bool false)] [95, 96, 97, 98, 99, 100, 101, 102, 103, 104, 105] follows_mixed (by kernel_rfl) (by kernel_rfl) ?_ ?_
          · skip
            refine Steps.cons (fun a' w' hG hB dep => gs_field (want_none rfl) _ _ _ rfl g2 (0) (257) (hG.other 2 rfl) (fun wz => field_dfa_2 g2 (0) wz) rfl) ?_
            refine Steps.cons (fun a' w' hG hB dep => gs_load1 (want_none rfl) _ _ rfl g2 (257) (dep 0 rfl 95 rfl) (.slice (some ⟨bX, oX, none⟩) x.fo.length x.d) (by have h9 := blk_d2 (blk_then h2 hB); rw [hXA.out] at h9; exact h9) _ Tryd.underlying23 rfl rfl) ?_
            refine Steps.cons (fun a' w' hG hB dep => gs_move (want_none rfl) _ rfl (id (hG.other 7 rfl))) ?_
            refine Steps.cons (fun a' w' hG hB dep => gs_index (want_none rfl) _ _ _ rfl under_rules 1 size_ruleE bX oX x.fo.length x.d (i) (dep 1 rfl 96 rfl) (dep 2 rfl 97 rfl) hil rfl) ?_
            refine Steps.cons (fun a' w' hG hB dep => gs_load1 (want_none rfl) _ _ rfl bX (oX + i * 1) (dep 3 rfl 98 rfl) (.int .u32 (((z : Nat) : Int))) (cz1 hB) _ Tryd.underlying43 rfl rfl) ?_
            refine Steps.cons (fun a' w' hG hB dep => gs_field (want_none rfl) _ _ _ rfl g3 (0) (257) (hG.other 3 rfl) (fun wz => field_dfa_2 g3 (0) wz) rfl) ?_
            refine Steps.cons (fun a' w' hG hB dep => gs_load1 (want_none rfl) _ _ rfl g3 (257) (dep 5 rfl 100 rfl) (.slice (some ⟨bY, oY, none⟩) x.fo.length y.d) (by have h9 := blk_d2 (blk_then h3 hB); rw [hYA.out] at h9; exact h9) _ Tryd.underlying23 rfl rfl) ?_
            refine Steps.cons (fun a' w' hG hB dep => gs_move (want_none rfl) _ rfl (id (hG.other 7 rfl))) ?_
            refine Steps.cons (fun a' w' hG hB dep => gs_index (want_none rfl) _ _ _ rfl under_rules 1 size_ruleE bY oY x.fo.length y.d (i) (dep 6 rfl 101 rfl) (dep 7 rfl 102 rfl) hil rfl) ?_
            refine Steps.cons (fun a' w' hG hB dep => gs_load1 (want_none rfl) _ _ rfl bY (oY + i * 1) (dep 8 rfl 103 rfl) (.int .u32 (((z : Nat) : Int))) (cz2 hB) _ Tryd.underlying43 rfl rfl) ?_
            refine Steps.cons (fun a' w' hG hB dep => gs_neq_int (want_none rfl) _ _ _ _ rfl _ _ _ (dep 4 rfl 99 rfl) (dep 9 rfl 104 rfl) (id (congrArg Value.bool (bne_self_eq_false _)))) ?_
            exact Steps.nil
          intro u w3 hw3 ans
          have hus105 : u 105 = (.bool false) := ans 10 105 (by decide) rfl
          clear ans
          simp only [putAll, List.foldl_cons, List.foldl_nil, Act.put, List.setIfInBounds_toArray, List.set_cons_zero, List.set_cons_succ, hus105]
          clear hus105
          simp only [List.drop]
          refine wpList_nil ?_
          replace h2 := blk_then h2 hw3
          replace h3 := blk_then h3 hw3
          replace hB1 := below_then hB1 hw3
          clear hw3 cz1 cz2
          go_wp2_with (fail)
          exact ⟨⟨i + 1, by omega, rfl, hB1, h2, h3⟩, by simp only [intOf]; omega⟩
        · have hiI : ¬ (i : Int) < x.fo.length := by omega
          have cN : wr.cell? ⟨g2, 257, none⟩ = some (.slice x.B x.fo.length x.d) := blk_d2 h2
          go_upto_region 19 with (fail)
          clear cN
          go_loopw [8] (fun iv wr => ∃ i : Nat, i ≤ x.en.length ∧ iv = .int .i64 i ∧ Below w.heap.size w wr ∧ Blk wr g2 33 (dfaC f x.A n x.c x.B x.fo.length x.d x.C x.en.length x.e) ∧ Blk wr g3 33 (dfaC f y.A n y.c y.B x.fo.length y.d y.C x.en.length y.e)) (fun iv _ => x.en.length - (intOf iv).toNat)
          case atStart => exact ⟨0, by omega, rfl, hB1, h2, h3⟩
          case round =>
            clear h2 h3 hB1
            obtain ⟨i, hi, rfl, hB1, h2, h3⟩ := hrel
            by_cases hil : i < x.en.length
            · have hiI : (i : Int) < x.en.length := by omega
              obtain ⟨bX, oX, hXA, hbX, hrX⟩ := hXe.at_ (by omega)
              obtain ⟨bY, oY, hYA, hbY, hrY⟩ := hYe.at_ (by omega)
              obtain ⟨z, hz⟩ : ∃ z, x.en[i] = z := ⟨_, rfl⟩
              have cz1 : ∀ {X : World}, Below wr.heap.size wr X → X.cell? ⟨bX, oX + i * 1, none⟩ = some (Value.int .u32 ((z : Nat) : Int)) := fun hB => by rw [← hz]; exact cell_keep (hrX i hil 0 _ rfl) hbX (below_then hB1 hB)
              have cz2 : ∀ {X : World}, Below wr.heap.size wr X → X.cell? ⟨bY, oY + i * 1, none⟩ = some (Value.int .u32 ((z : Nat) : Int)) := fun hB => by rw [← hz]; exact cell_keep (hrY i hil 0 _ rfl) hbY (below_then hB1 hB)
              replace hz := Lib.hid hz
              replace hXA := Lib.hid hXA
              replace hYA := Lib.hid hYA
              have cN : wr.cell? ⟨g2, 258, none⟩ = some (.slice x.C x.en.length x.e) := blk_d3 h2
              go_upto_region 21 with (fail)
              clear cN
              refine wp_region_steps 11 [eqS (.pointer (some ⟨g2, 258, none⟩)), eqS (.slice (some ⟨bX, oX, none⟩) x.en.length x.e), eqS (.int .i64 (((i : Nat) : Int))), eqS (.pointer (some ⟨bX, oX + i * 1, none⟩)), eqS (.int .u32 (((z : Nat) : Int))), eqS (.pointer (some ⟨g3, 258, none⟩)), eqS (.slice (some ⟨bY, oY, none⟩) x.en.length y.e), eqS (.int .i64 (((i : Nat) : Int))), eqS (.pointer (some ⟨bY, oY + i * 1, none⟩)), eqS (.int .u32 (((z : Nat) : Int))), eqS (.bool false)] [113, 114, 115, 116, 117, 118, 119, 120, 121, 122, 123] follows_mixed (by kernel_rfl) (by kernel_rfl) ?_ ?_
              · skip
                refine Steps.cons (fun a' w' hG hB dep => gs_field (want_none rfl) _ _ _ rfl g2 (0) (258) (hG.other 2 rfl) (fun wz => field_dfa_3 g2 (0) wz) rfl) ?_
                refine Steps.cons (fun a' w' hG hB dep => gs_load1 (want_none rfl) _ _ rfl g2 (258) (dep 0 rfl 113 rfl) (.slice (some ⟨bX, oX, none⟩) x.en.length x.e) (by have h9 := blk_d3 (blk_then h2 hB); rw [hXA.out] at h9; exact h9) _ Tryd.underlying23 rfl rfl) ?_
                refine Steps.cons (fun a' w' hG hB dep => gs_move (want_none rfl) _ rfl (id (hG.other 8 rfl))) ?_
                refine Steps.cons (fun a' w' hG hB dep => gs_index (want_none rfl) _ _ _ rfl under_rules 1 size_ruleE bX oX x.en.length x.e (i) (dep 1 rfl 114 rfl) (dep 2 rfl 115 rfl) hil rfl) ?_
                refine Steps.cons (fun a' w' hG hB dep => gs_load1 (want_none rfl) _ _ rfl bX (oX + i * 1) (dep 3 rfl 116 rfl) (.int .u32 (((z : Nat) : Int))) (cz1 hB) _ Tryd.underlying43 rfl rfl) ?_
                refine Steps.cons (fun a' w' hG hB dep => gs_field (want_none rfl) _ _ _ rfl g3 (0) (258) (hG.other 3 rfl) (fun wz => field_dfa_3 g3 (0) wz) rfl) ?_
                refine Steps.cons (fun a' w' hG hB dep => gs_load1 (want_none rfl) _ _ rfl g3 (258) (dep 5 rfl 118 rfl) (.slice (some ⟨bY, oY, none⟩) x.en.length y.e) (by have h9 := blk_d3 (blk_then h3 hB); rw [hYA.out] at h9; exact h9) _ Tryd.underlying23 rfl rfl) ?_
                refine Steps.cons (fun a' w' hG hB dep => gs_move (want_none rfl) _ rfl (id (hG.other 8 rfl))) ?_
                refine Steps.cons (fun a' w' hG hB dep => gs_index (want_none rfl) _ _ _ rfl under_rules 1 size_ruleE bY oY x.en.length y.e (i) (dep 6 rfl 119 rfl) (dep 7 rfl 120 rfl) hil rfl) ?_
                refine Steps.cons (fun a' w' hG hB dep => gs_load1 (want_none rfl) _ _ rfl bY (oY + i * 1) (dep 8 rfl 121 rfl) (.int .u32 (((z : Nat) : Int))) (cz2 hB) _ Tryd.underlying43 rfl rfl) ?_
                refine Steps.cons (fun a' w' hG hB dep => gs_neq_int (want_none rfl) _ _ _ _ rfl _ _ _ (dep 4 rfl 117 rfl) (dep 9 rfl 122 rfl) (id (congrArg Value.bool (bne_self_eq_false _)))) ?_
                exact Steps.nil
              intro u w3 hw3 ans
              have hus123 : u 123 = (.bool false) := ans 10 123 (by decide) rfl
              clear ans
              simp only [putAll, List.foldl_cons, List.foldl_nil, Act.put, List.setIfInBounds_toArray, List.set_cons_zero, List.set_cons_succ, hus123]
              clear hus123
              simp only [List.drop]
              refine wpList_nil ?_
              replace h2 := blk_then h2 hw3
              replace h3 := blk_then h3 hw3
              replace hB1 := below_then hB1 hw3
              clear hw3 cz1 cz2
              go_wp2_with (fail)
              exact ⟨⟨i + 1, by omega, rfl, hB1, h2, h3⟩, by simp only [intOf]; omega⟩
            · have hiI : ¬ (i : Int) < x.en.length := by omega
              have cN : wr.cell? ⟨g2, 258, none⟩ = some (.slice x.C x.en.length x.e) := blk_d3 h2
              go_wp2_with (fail)
              go_ret
              exact ⟨rfl, hB1⟩
theorem enter_same10 (args : Array Value) (w : World) : (callFunc 12 args).run Tryd.prog w = .ok (.enter 12 args) w := by kernel_rfl
end Go.Proofs.YtkedgombccdamaaDoor
namespace Go.Proofs.YtkedgombccdamaaDoor
open Go.RowKit Go.Shelf Go.Maps
set_option linter.unusedVariables false
set_option linter.unusedSimpArgs false
attribute [local go_sem] Oper.semAt_some

section
variable {w : World} {ops : Array Oper} {rest : List Oper} {o : Oper} {a : Act} {Q : Exit → Act → World → Prop}
/-- ints behind a row of the call's own -/
theorem wl_catZ (hgd : o.guard = none) (s x : Operand) (ho : o.op = .call { callee := .builtin .append, args := #[s, x], argTypes := #[67, 67] })
    (base : Nat) (k l : List Int) {B : Nat} {A A0 : Option Addr} {n c n0 c0 : Nat} (hs : a.eval s = .slice A0 n0 c0) (hown : Own w base 3 1 encZ (.slice A0 n0 c0) k) (hn0 : n0 = k.length) (hx : a.eval x = .slice A n c) (hn : n = l.length) (hr : SliceOf w B 1 encZ A l) (hk : k.length ≤ 1099511627776) (hl : l.length ≤ 1099511627776) (hbase : base ≤ w.heap.size)
    (h : ∀ A' c' w', Own w' base 3 1 encZ (.slice A' (k ++ l).length c') (k ++ l) → w.grownBy w' (Value.slice A0 n0 c0).ownBlock → ((Value.slice A' (k ++ l).length c').ownBlock = (Value.slice A0 n0 c0).ownBlock ∨ (Value.slice A' (k ++ l).length c').ownBlock = some w.heap.size) → wpList Tryd.prog ops Q rest (a.put o.dst (.slice A' (k ++ l).length c')) w') : wpList Tryd.prog ops Q (o :: rest) a w := by
  obtain ⟨ii, hii, hz0, hz1, hz2⟩ := info_parts info_int3
  subst hn0
  refine wl_append _ hgd _ _ 67 ho base 3 ii _ 1 8 Tryd.underlying67 hii hz0 hz1 hz2 rfl (by decide) encZ_size encZ_one (.slice A0 k.length c0) k hs hown _ _ n c l hx hn hr (by unfold maxLen; omega) (by omega) hbase ?_
  intro v' w' ho' hg hv
  obtain ⟨A', c', rfl, _, _⟩ := ho'.shape
  exact h _ _ _ ho' hg hv
/-- words behind a row of the call's own -/
theorem wl_catR (hgd : o.guard = none) (s x : Operand) (ho : o.op = .call { callee := .builtin .append, args := #[s, x], argTypes := #[23, 23] })
    (base : Nat) (k l : List Nat) {B : Nat} {A A0 : Option Addr} {n c n0 c0 : Nat} (hs : a.eval s = .slice A0 n0 c0) (hown : Own w base 43 1 encR (.slice A0 n0 c0) k) (hn0 : n0 = k.length) (hx : a.eval x = .slice A n c) (hn : n = l.length) (hr : SliceOf w B 1 encR A l) (hk : k.length ≤ 1099511627776) (hl : l.length ≤ 1099511627776) (hbase : base ≤ w.heap.size)
    (h : ∀ A' c' w', Own w' base 43 1 encR (.slice A' (k ++ l).length c') (k ++ l) → w.grownBy w' (Value.slice A0 n0 c0).ownBlock → ((Value.slice A' (k ++ l).length c').ownBlock = (Value.slice A0 n0 c0).ownBlock ∨ (Value.slice A' (k ++ l).length c').ownBlock = some w.heap.size) → wpList Tryd.prog ops Q rest (a.put o.dst (.slice A' (k ++ l).length c')) w') : wpList Tryd.prog ops Q (o :: rest) a w := by
  obtain ⟨ii, hii, hz0, hz1, hz2⟩ := info_parts info_u3
  subst hn0
  refine wl_append _ hgd _ _ 23 ho base 43 ii _ 1 4 Tryd.underlying23 hii hz0 hz1 hz2 rfl (by decide) encR_size encR_one (.slice A0 k.length c0) k hs hown _ _ n c l hx hn hr (by unfold maxLen; omega) (by omega) hbase ?_
  intro v' w' ho' hg hv
  obtain ⟨A', c', rfl, _, _⟩ := ho'.shape
  exact h _ _ _ ho' hg hv
/-- a row behind rows of the call's own -/
theorem wl_catV (hgd : o.guard = none) (s x : Operand) (ho : o.op = .call { callee := .builtin .append, args := #[s, x], argTypes := #[31, 31] })
    (base : Nat) (k l : List RV) {B : Nat} {A A0 : Option Addr} {n c n0 c0 : Nat} (hs : a.eval s = .slice A0 n0 c0) (hown : Own w base 67 1 rowC (.slice A0 n0 c0) k) (hn0 : n0 = k.length) (hx : a.eval x = .slice A n c) (hn : n = l.length) (hr : SliceOf w B 1 rowC A l) (hk : k.length ≤ 1099511627776) (hl : l.length ≤ 1099511627776) (hbase : base ≤ w.heap.size)
    (h : ∀ A' c' w', Own w' base 67 1 rowC (.slice A' (k ++ l).length c') (k ++ l) → w.grownBy w' (Value.slice A0 n0 c0).ownBlock → ((Value.slice A' (k ++ l).length c').ownBlock = (Value.slice A0 n0 c0).ownBlock ∨ (Value.slice A' (k ++ l).length c').ownBlock = some w.heap.size) → wpList Tryd.prog ops Q rest (a.put o.dst (.slice A' (k ++ l).length c')) w') : wpList Tryd.prog ops Q (o :: rest) a w := by
  obtain ⟨ii, hii, hz0, hz1, hz2⟩ := info_parts info_rows3
  subst hn0
  refine wl_append _ hgd _ _ 31 ho base 67 ii _ 1 24 Tryd.underlying31 hii hz0 hz1 hz2 rfl (by decide) rowC_size rowC_one (.slice A0 k.length c0) k hs hown _ _ n c l hx hn hr (by unfold maxLen; omega) (by omega) hbase ?_
  intro v' w' ho' hg hv
  obtain ⟨A', c', rfl, _, _⟩ := ho'.shape
  exact h _ _ _ ho' hg hv
theorem run_u1_ (w : World) (z : Int) : (Instr.buildSlice 23 1 #[(0, .int .u32 z)]).run Tryd.prog w = .ok (.slice (some ⟨w.heap.size, 0, none⟩) 1 1) (w.alloc (.cells #[.int .u32 z] 43)) := by kernel_rfl
theorem wl_u1 (hgd : o.guard = none) (x : Operand) (ho : o.op = .buildSlice 23 1 #[(0, x)]) (z : Nat) (hx : a.eval x = .int .u32 (z : Int))
    (h : wpList Tryd.prog ops Q rest (a.put o.dst (.slice (some ⟨w.heap.size, 0, none⟩) 1 1)) (w.alloc (.cells (encR z) 43))) : wpList Tryd.prog ops Q (o :: rest) a w :=
  wpList_plain hgd fun _ hK => by
    unfold Oper.wp execOp
    simp only [ho, List.map_toArray, List.map_cons, List.map_nil, hx, Sem.run_bind, run_u1_, Result.andThen_ok, Sem.run_pure]
    exact hK _ _ h
end
/-- its lists are short -/
structure Sml (x : TV) : Prop where
  n : x.rs.length ≤ 1048576
  r : ∀ r ∈ x.rs, r.l.length ≤ 1048576
  f : x.fo.length ≤ 1048576
  e : x.en.length ≤ 1048576
/-- a table of which the rows alone are there -/
def rowsT (f : Nat → Int) (rs : List RV) (A : Option Addr) (c : Nat) : TV := ⟨f, rs, A, c, [], none, 0, [], none, 0⟩
theorem own_ge {A A' : Option Addr} {n n' c c' N M : Nat} (hv : (Value.slice A' n' c').ownBlock = (Value.slice A n c).ownBlock ∨ (Value.slice A' n' c').ownBlock = some M) (h : ∀ b, A = some b → N ≤ b.block) (hM : N ≤ M) : ∀ b, A' = some b → N ≤ b.block := by
  rintro b rfl
  rw [ownBlock_slice, ownBlock_slice] at hv
  rcases hv with hv | hv
  · cases A with
    | none => cases hv
    | some a =>
      have := h a rfl
      have e : b.block = a.block := by simpa using hv
      omega
  · have e : b.block = M := by simpa using hv
    omega
section
variable {w w' : World} {base : Nat} {x : TV} {xr : List Int} {xf : List Nat} {xn : List RV} {f : Nat → Int} {rs : List RV} {A : Option Addr} {c : Nat}
/-- a row behind the rows -/
theorem TOwn.addZ {A : Option Addr} {c : Nat} {r : RV} (h : TOwn w base x xr xf []) (hg : w.grownBy w' (Value.slice x.A x.rs.length x.c).ownBlock)
    (ho : Own w' base 67 1 rowC (.slice A (x.rs.length + 1) c) (x.rs ++ [r])) : TOwn w' base { x with A := A, c := c } xr xf [r] := by
  have h0 := h.rows
  simp only [List.length_nil, Nat.add_zero, List.append_nil] at h0
  exact ⟨ho, own_own h.fo h0 hg (by decide), own_own h.en h0 hg (by decide), fun i hi => own_own (h.row i hi) h0 hg (by decide), h.ap, h.fe⟩
theorem rows_words {α : Type} {enc : α → Array Value} {size b2 : Nat} {v : Value} {ys : List α} (h : TOwn w base (rowsT f rs A c) xr [] xn) (ho : Own w b2 43 size enc v ys) (hg : w.grownBy w' v.ownBlock) : TOwn w' base (rowsT f rs A c) xr [] xn :=
  ⟨own_own h.rows ho hg (by decide), Own.nil_ _ _ _ _ _, Own.nil_ _ _ _ _ _, fun i hi => own_own (h.row i hi) ho hg (by decide), h.ap, h.fe⟩
theorem rows_full {fo en : List Nat} {B C : Option Addr} {d e : Nat} (h : TOwn w base (rowsT f rs A c) xr [] xn) (hf : Own w base 43 1 encR (.slice B (fo.length + xf.length) d) (fo ++ xf)) (he : Own w base 43 1 encR (.slice C (en.length + xf.length) e) (en ++ xf))
    (hne : ∀ a b, B = some a → C = some b → a.block ≠ b.block) : TOwn w base ⟨f, rs, A, c, fo, B, d, en, C, e⟩ xr xf xn :=
  ⟨h.rows, hf, he, h.row, h.ap, hne⟩
end
theorem run_i0 (w : World) : (Instr.buildSlice 67 0 #[]).run Tryd.prog w = .ok (.slice (some ⟨w.heap.size, 0, none⟩) 0 0) (w.alloc (.cells #[] 3)) := by kernel_rfl
theorem run_i1 (w : World) (z : Int) : (Instr.buildSlice 67 1 #[(0, .int .i64 z)]).run Tryd.prog w = .ok (.slice (some ⟨w.heap.size, 0, none⟩) 1 1) (w.alloc (.cells #[.int .i64 z] 3)) := by kernel_rfl
theorem info_rowZ : (Tryd.prog.info? 67).map (fun i => (i.zero, i.size, i.bytes)) = some (some (.slice none 0 0), 1, 24) := by kernel_rfl
theorem run_makeR0 (k : Nat) (hk : k ≤ 1048577) (w : World) : (Instr.makeSlice 31 (.int .i64 0) (.int .i64 k)).run Tryd.prog w = .ok (.slice (some ⟨w.heap.size, 0, none⟩) 0 k) (w.alloc (.cells (arr eV k fun _ => .slice none 0 0) 67)) := by
  obtain ⟨i, h1, h2, h3, h4⟩ := info_parts info_rowZ
  have := run_makeSlice (P := Tryd.prog) w 31 67 i _ Tryd.underlying31 h1 h2 .i64 .i64 (0 : Int) (k : Int) (by omega) (by omega) (by rw [h3]; omega) (by rw [h4]; omega) (by omega)
  rw [this, h3, Int.toNat_natCast, ← arr_made eV k (.slice none 0 0) rfl]
  rfl
section
variable {w : World} {ops : Array Oper} {rest : List Oper} {o : Oper} {a : Act} {Q : Exit → Act → World → Prop}
theorem wl_i0 (hgd : o.guard = none) (ho : o.op = .buildSlice 67 0 #[]) (h : wpList Tryd.prog ops Q rest (a.put o.dst (.slice (some ⟨w.heap.size, 0, none⟩) 0 0)) (w.alloc (.cells #[] 3))) : wpList Tryd.prog ops Q (o :: rest) a w :=
  wpList_plain hgd fun _ hK => by
    unfold Oper.wp execOp
    simp only [ho, List.map_toArray, List.map_nil, Sem.run_bind, run_i0, Result.andThen_ok, Sem.run_pure]
    exact hK _ _ h
theorem wl_i1 (hgd : o.guard = none) (x : Operand) (ho : o.op = .buildSlice 67 1 #[(0, x)]) (z : Int) (hx : a.eval x = .int .i64 z) (h : wpList Tryd.prog ops Q rest (a.put o.dst (.slice (some ⟨w.heap.size, 0, none⟩) 1 1)) (w.alloc (.cells (encZ z) 3))) : wpList Tryd.prog ops Q (o :: rest) a w :=
  wpList_plain hgd fun _ hK => by
    unfold Oper.wp execOp
    simp only [ho, List.map_toArray, List.map_cons, List.map_nil, hx, Sem.run_bind, run_i1, Result.andThen_ok, Sem.run_pure]
    exact hK _ _ h
theorem wl_makeR0 (hgd : o.guard = none) (x y : Operand) (ho : o.op = .makeSlice 31 x y) (k base : Nat) (hk : k ≤ 1048577) (hb : base ≤ w.heap.size) (hx : a.eval x = .int .i64 0) (hy : a.eval y = .int .i64 k)
    (h : ∀ w', Own w' base 67 1 rowC (.slice (some ⟨w.heap.size, 0, none⟩) 0 k) [] → Below w.heap.size w w' → wpList Tryd.prog ops Q rest (a.put o.dst (.slice (some ⟨w.heap.size, 0, none⟩) 0 k)) w') : wpList Tryd.prog ops Q (o :: rest) a w :=
  wpList_plain hgd fun _ hK => by
    unfold Oper.wp execOp
    simp only [ho, hx, hy, Sem.run_bind, run_makeR0 k hk, Result.andThen_ok, Sem.run_pure]
    exact hK _ _ (h _ ⟨by simp [flat], .inr ⟨w.heap.size, k, _, rfl, hb, heap_alloc_new w _, Nat.zero_le _, by unfold maxLen; omega, by rw [arr_size]; omega, by simp [flat]⟩⟩ (below_alloc (Below.refl _ _) _))
theorem run_build4 (f : Nat → Int) (A B C : Option Addr) (n c m d k e : Nat) (w : World) : (Instr.build 33 #[(0, .agg (clsC f)), (1, .slice A n c), (2, .slice B m d), (3, .slice C k e)]).run Tryd.prog w = .ok (.agg (dfaC f A n c B m d C k e)) w := by kernel_rfl
end
theorem gs_build4 {ops : Array Oper} {S : Nat → GSpec} {Q : Exit → Act → World → Prop} {i : Nat} {o : Oper} {a : Act} {w : World} (hw : Region.wanted o (yielded ops a.tmps) = true) (x1 x2 x3 x4 : Operand) (ho : o.op = .build 33 #[(0, x1), (1, x2), (2, x3), (3, x4)]) (f : Nat → Int) (A B C : Option Addr) (n c m d k e : Nat) (h1 : a.eval x1 = .agg (clsC f)) (h2 : a.eval x2 = .slice A n c) (h3 : a.eval x3 = .slice B m d) (h4 : a.eval x4 = .slice C k e)
    (hp : (S i).p (.agg (dfaC f A n c B m d C k e)) w) : GStep Tryd.prog ops S Q i o a w :=
  gs_run hw (v := .agg (dfaC f A n c B m d C k e)) (by unfold execOp; simp only [ho, List.map_toArray, List.map_cons, List.map_nil, h1, h2, h3, h4, Sem.run_bind, run_build4, Result.andThen_ok, Sem.run_pure]) (Below.refl _ _) hp
set_option maxRecDepth 100000 in
set_option maxHeartbeats 4000000 in
theorem table_any (x : TV) (hS : Sml x) (w : World) (hT : TabIn w w.heap.size x) :
    Calls Tryd.prog 14 #[.agg x.C'] w fun e w' => Below w.heap.size w w' ∧ ∃ (y : TV) (rz : RV), e = .returned (.agg y.C') ∧ TOwn w' w.heap.size y [-9] [99] [rz] ∧ rz.l.length = 1 ∧ y.T = x.T := by
  have hz0 := zero_cells_dfa
  have hn20 := hS.n
  unfold TV.C'
  go_enter Tryd.func14, Tryd.ntmps14
  have h1 := (Blk.new w 33 (dfaC x.f x.A x.rs.length x.c x.B x.fo.length x.d x.C x.en.length x.e)).alloc (.cells (dfaC (fun _ => 0) none 0 0 none 0 0 none 0 0) 33)
  have hr : Blk ((w.alloc (.cells (dfaC x.f x.A x.rs.length x.c x.B x.fo.length x.d x.C x.en.length x.e) 33)).alloc (.cells (dfaC (fun _ => 0) none 0 0 none 0 0 none 0 0) 33)) (w.heap.size + 1) 33 (dfaC (fun _ => 0) none 0 0 none 0 0 none 0 0) := Blk.new' _ _ _ (World.size_alloc _ _).symm
  have hB1 := below_alloc (below_alloc (Below.refl w.heap.size w) (.cells (dfaC x.f x.A x.rs.length x.c x.B x.fo.length x.d x.C x.en.length x.e) 33)) (.cells (dfaC (fun _ => 0) none 0 0 none 0 0 none 0 0) 33)
  go_upto_region 1 with (fail)
  try rw [hz0]
  obtain ⟨w1, hw1⟩ : ∃ ww, ww = ((w.alloc (.cells (dfaC x.f x.A x.rs.length x.c x.B x.fo.length x.d x.C x.en.length x.e) 33)).alloc (.cells (dfaC (fun _ => 0) none 0 0 none 0 0 none 0 0) 33)) := ⟨_, rfl⟩
  first | rw [← hw1] at h1 hr hB1 ⊢ | (simp only [World.size_alloc]; rw [← hw1] at h1 hr hB1 ⊢)
  clear hw1 hz0
  obtain ⟨g1, hg1⟩ : ∃ g, g = w.heap.size := ⟨_, rfl⟩
  obtain ⟨gr, hgr⟩ : ∃ g, g = w.heap.size + 1 := ⟨_, rfl⟩
  try rw [← hgr] at hr ⊢
  try rw [← hg1] at h1 ⊢
  have hg1w : w.heap.size ≤ g1 := by omega
  have hgrw : w.heap.size ≤ gr := by omega
  clear hg1 hgr
  obtain ⟨bv, hbv⟩ : ∃ bv, bv = w1.heap.size := ⟨_, rfl⟩
  have hbvr0 : bv ≤ w1.heap.size := by omega
  have l1 : g1 < bv := by have := h1.lt; omega
  have lr : gr < bv := by have := hr.lt; omega
  have hbvw : w.heap.size ≤ bv := by omega
  clear hbv
  have cX : w1.cell? ⟨g1, 256, none⟩ = some (.slice x.A x.rs.length x.c) := blk_d1 h1
  have hn21 : x.rs.length + 1 ≤ 1048577 := by omega
  go_upto_region 2 with (refine wl_makeR0 rfl _ _ rfl (x.rs.length + 1) bv hn21 hbvr0 rfl rfl ?_; intro w5 hO0 hB5)
  replace h1 := blk_then h1 hB5
  replace hr := blk_then hr hB5
  replace hB1 := below_then hB1 hB5
  have hbvr : bv ≤ w5.heap.size := Nat.le_trans hbvr0 hB5.size
  have hO : TOwn w5 bv (rowsT x.f [] (some ⟨w1.heap.size, 0, none⟩) (x.rs.length + 1)) [-9] [] [] := ⟨hO0, Own.nil_ _ _ _ _ _, Own.nil_ _ _ _ _ _, fun i hi => absurd hi (by simp [rowsT]), fun i j hi => absurd hi (by simp [rowsT]), fun a b h => by cases h⟩
  obtain ⟨gm, hgm⟩ : ∃ g, g = w1.heap.size := ⟨_, rfl⟩
  rw [← hgm] at hO ⊢
  have cX2 : w5.cell? ⟨g1, 256, none⟩ = some (.slice x.A x.rs.length x.c) := blk_d1 h1
  clear hO0 hB5 hgm hbvr0 cX hn21
  try simp only [Act.put]
  go_wp2_with (fail)
  clear cX2
  go_loopw [17, 3] (fun iv nv wr => ∃ (i : Nat) (rs : List RV) (A : Option Addr) (c : Nat), i ≤ x.rs.length ∧ iv = .int .i64 i ∧ nv = .slice A rs.length c ∧ Below w.heap.size w wr ∧ Blk wr g1 33 (dfaC x.f x.A x.rs.length x.c x.B x.fo.length x.d x.C x.en.length x.e) ∧ Blk wr gr 33 (dfaC (fun _ => 0) none 0 0 none 0 0 none 0 0) ∧ TOwn wr bv (rowsT x.f rs A c) [-9] [] [] ∧ bv ≤ wr.heap.size ∧ Hid (rs.map (·.l) = (x.rs.take i).map (·.l))) (fun iv _ _ => x.rs.length - (intOf iv).toNat)
  case atStart => exact ⟨0, [], some ⟨gm, 0, none⟩, x.rs.length + 1, by omega, rfl, rfl, hB1, h1, hr, hO, hbvr, Lib.hid rfl⟩
  case round =>
    clear hB1 h1 hr hO hbvr
    obtain ⟨i, rs, A, c, hi, rfl, rfl, hB1, h1, hr, hO, hbvr, hrs⟩ := hrel
    have hrl : rs.length = i := by
      have := congrArg List.length hrs.out
      simp only [List.length_map, List.length_take] at this
      omega
    replace hrl := Lib.hid hrl
    by_cases hil : i < x.rs.length
    · have hiI : (i : Int) < x.rs.length := by omega
      obtain ⟨bX, oX, hXA, hbX, cR⟩ := (hT.then_ hB1).rowAt hil
      obtain ⟨r, hre⟩ : ∃ r, x.rs[i] = r := ⟨_, rfl⟩
      rw [hre] at cR
      have hmem : r ∈ x.rs := by rw [← hre]; exact List.getElem_mem hil
      have hrb := hS.r r hmem
      have hsr := (hT.then_ hB1).row r hmem
      rw [Nat.mul_one] at cR
      replace hre := Lib.hid hre
      have hBe : Below wr.heap.size wr (wr.alloc (.cells #[] 3)) := below_alloc (Below.refl _ _) _
      have ho0 := own_empty (α := Int) (enc := encZ) (size := 1) (e := 3) (base := bv) (w := wr) hbvr
      have hsr2 := hsr.below hBe
      have hrow : ∀ j (hj : j < rs.length) a, rs[j].a = some a → a.block < wr.heap.size := fun j hj a ha => (hO.rowLt (i := j) hj ha).2
      rw [hXA]
      go_upto_region 6 with (first
        | (refine wl_i0 rfl rfl ?_)
        | (at_builtin; refine park ?_))
      refine Parked.mk ?_
      refine wl_catZ rfl _ _ rfl bv [] r.l rfl ho0 rfl rfl rfl hsr2 (by simp) (by omega) (by have := hBe.size; omega) ?_
      intro A7 c7 w7 ho7 hG7 hv7
      simp only [List.nil_append] at ho7 hv7 ⊢
      have hB7 : Below wr.heap.size wr w7 := hBe.grown hG7 hBe.size (fun q e => Nat.le_of_eq (by simpa [Value.ownBlock] using e))
      replace h1 := blk_then h1 hB7
      replace hr := blk_then hr hB7
      replace hO := hO.then_ hB7
      replace hbvr : bv ≤ w7.heap.size := by have := hB7.size; omega
      replace hB1 := below_then hB1 hB7
      have hA7 : ∀ b, A7 = some b → wr.heap.size ≤ b.block := own_ge hv7 (fun b hb => by injection hb with hb; subst hb; exact Nat.le_refl _) (by rw [World.size_alloc]; omega)
      replace hA7 := Lib.hid hA7
      replace hrow := Lib.hid hrow
      clear cR hsr hsr2 ho0 hBe hG7
      simp only [Act.put, List.setIfInBounds_toArray, List.set_cons_zero, List.set_cons_succ]
      go_upto_region 6 with (first
        | (refine wl_i1 rfl _ rfl (-9) rfl ?_)
        | (at_builtin; refine park ?_))
      refine Parked.mk ?_
      have hB8a : Below w7.heap.size w7 (w7.alloc (.cells (encZ (-9)) 3)) := below_alloc (Below.refl _ _) _
      have ho7a := ho7.then_ hB8a
      refine wl_catZ rfl _ _ rfl bv r.l [-9] rfl ho7a rfl rfl rfl (slice_one (enc := encZ) (Blk.new w7 _ _)) (by omega) (by simp) (by have := hB8a.size; omega) ?_
      intro A8 c8 w8 ho8 hG8 hv8
      have hA8 : ∀ b, A8 = some b → wr.heap.size ≤ b.block := own_ge hv8 hA7.out (by have := hB7.size; have := hB8a.size; omega)
      have hap8 : ∀ j (hj : j < (rowsT x.f rs A c).rs.length) a b, (rowsT x.f rs A c).rs[j].a = some a → A8 = some b → a.block ≠ b.block := fun j hj a b ha hb => by
        have := hrow.out j hj a ha
        have := hA8 b hb
        omega
      have hap7 : ∀ j (hj : j < (rowsT x.f rs A c).rs.length) a b, (rowsT x.f rs A c).rs[j].a = some a → A7 = some b → a.block ≠ b.block := fun j hj a b ha hb => by
        have := hrow.out j hj a ha
        have := hA7.out b hb
        omega
      replace h1 := blk_own (blk_then h1 hB8a) ho7a hG8 l1
      replace hr := blk_own (blk_then hr hB8a) ho7a hG8 lr
      replace hO := (hO.then_ hB8a).ownI ho7a hG8 hap7
      replace hbvr : bv ≤ w8.heap.size := by have := hB8a.size; have := hG8.size; omega
      replace hB1 := below_own (below_then hB1 hB8a) hG8 (fun k e => by have := (ho7a.lt k e).1; omega)
      obtain ⟨g8, c8', hvf, hg8b, hg8l, hc8, _⟩ := ho8.form (by simp)
      injection hvf with e1 e2 e3
      clear e2
      subst e1 e3
      have hl8 : (r.l ++ [-9]).length = r.l.length + 1 := by simp
      rw [hl8] at hc8 ho8 ⊢
      replace hap8 := Lib.hid hap8
      have hor := hO.rows0
      have hrowE : rowC ⟨some ⟨g8, 0, none⟩, c8, r.l⟩ = #[.slice (some ⟨g8, 0, none⟩) r.l.length c8] := rfl
      have HrE := Lib.hid hrowE
      clear hG8 hv8 ho7 ho7a hap7 hB7 hB8a hA8 hA7 hv7 hl8 hrow hrowE
      have hlen8 : r.l.length ≤ r.l.length + 1 := by omega
      simp only [Act.put, List.setIfInBounds_toArray, List.set_cons_zero, List.set_cons_succ]
      go_upto_region 7 with (first
        | (refine wl_bsRow rfl _ rfl (some ⟨g8, 0, none⟩) r.l.length c8 rfl ?_)
        | (at_builtin; refine park ?_))
      refine Parked.mk ?_
      have hBa : Below w8.heap.size w8 (w8.alloc (.cells #[.slice (some ⟨g8, 0, none⟩) r.l.length c8] 67)) := below_alloc (Below.refl _ _) _
      refine wl_catV rfl _ _ rfl bv rs [⟨some ⟨g8, 0, none⟩, c8, r.l⟩] rfl (hor.then_ hBa) rfl rfl rfl (slice_one (enc := rowC) (blk_row HrE.out)) (by rw [hrl.out]; have := hS.n; omega) (by simp) (by have := hBa.size; omega) ?_
      intro A9 c9 w9 ho9 hG9 hv9
      have hl9 : (rs ++ [(⟨some ⟨g8, 0, none⟩, c8, r.l⟩ : RV)]).length = rs.length + 1 := by simp
      rw [hl9] at ho9 hv9
      have ho8b := own_own (ho8.then_ hBa) (hor.then_ hBa) hG9 (by decide)
      have hO2 : TOwn w9 bv (rowsT x.f (rs ++ [⟨some ⟨g8, 0, none⟩, c8, r.l⟩]) A9 c9) [-9] [] [] := (hO.then_ hBa).addRow hG9 ho9 (r := ⟨some ⟨g8, 0, none⟩, c8, r.l⟩) ho8b (fun j hj a b ha hb => hap8.out j hj a b ha hb)
      replace h1 := blk_own2 (blk_then h1 hBa) (hor.then_ hBa) hG9 (by decide)
      replace hr := blk_own2 (blk_then hr hBa) (hor.then_ hBa) hG9 (by decide)
      replace hB1 := below_own (below_then hB1 hBa) hG9 (fun k e => by have := ((hor.then_ hBa).lt k e).1; omega)
      replace hbvr : bv ≤ w9.heap.size := by have := hBa.size; have := hG9.size; omega
      have hrs2 : (rs ++ [(⟨some ⟨g8, 0, none⟩, c8, r.l⟩ : RV)]).map (·.l) = (x.rs.take (i + 1)).map (·.l) := by
        rw [List.take_succ_eq_append_getElem hil, hre.out]
        simp only [List.map_append, List.map_cons, List.map_nil]
        rw [hrs.out]
      replace hrs2 := Lib.hid hrs2
      clear hG9 hv9 ho9 ho8b hor hBa hO ho8 hap8 hrs hrb hmem hre hc8 hg8b hg8l hlen8 hl9
      have HXA := Lib.hid hXA
      clear hXA
      simp only [Act.put, List.setIfInBounds_toArray, List.set_cons_zero, List.set_cons_succ]
      go_wp2_with (fail)
      exact ⟨⟨i + 1, _, A9, c9, by omega, rfl, rfl, hB1, by rw [← HXA.out]; exact h1, hr, hO2, hbvr, hrs2⟩, by simp only [intOf]; omega⟩
    · have hiI : ¬ (i : Int) < x.rs.length := by omega
      have hie : i = x.rs.length := by omega
      have hrs3 : rs.map (·.l) = x.rs.map (·.l) := by
        rw [hrs.out, hie, List.take_length]
      have hrn : rs.length = x.rs.length := by rw [hrl.out, hie]
      replace hrs3 := Lib.hid hrs3
      replace hrn := Lib.hid hrn
      clear hrs hrl hie
      go_upto_region 9 with (first
        | (refine wl_i1 rfl _ rfl (-9) rfl ?_)
        | (refine wl_bsRow rfl _ rfl (some ⟨wr.heap.size, 0, none⟩) 1 1 rfl ?_)
        | (at_builtin; refine park ?_))
      refine Parked.mk ?_
      have hBa : Below wr.heap.size wr ((wr.alloc (.cells (encZ (-9)) 3)).alloc (.cells #[.slice (some ⟨wr.heap.size, 0, none⟩) 1 1] 67)) := below_alloc (below_alloc (Below.refl _ _) _) _
      have hor := hO.rows0
      refine wl_catV rfl _ _ rfl bv rs [⟨some ⟨wr.heap.size, 0, none⟩, 1, [-9]⟩] rfl (hor.then_ hBa) rfl rfl rfl (slice_one (enc := rowC) (Blk.new' _ _ _ (World.size_alloc _ _).symm)) (by rw [hrn.out]; have := hS.n; omega) (by simp) (by have := hBa.size; omega) ?_
      intro A9 c9 w9 ho9 hG9 hv9
      have hl9 : (rs ++ [(⟨some ⟨wr.heap.size, 0, none⟩, 1, [-9]⟩ : RV)]).length = rs.length + 1 := by simp
      rw [hl9] at ho9 hv9 ⊢
      obtain ⟨rz, hrz⟩ : ∃ rz : RV, rz = ⟨some ⟨wr.heap.size, 0, none⟩, 1, [-9]⟩ := ⟨_, rfl⟩
      have hrzl : rz.l.length = 1 := by rw [hrz]; rfl
      rw [← hrz] at ho9
      have hO2 : TOwn w9 bv (rowsT x.f rs A9 c9) [-9] [] [rz] := (hO.then_ hBa).addZ hG9 ho9
      replace h1 := blk_own2 (blk_then h1 hBa) (hor.then_ hBa) hG9 (by decide)
      replace hr := blk_own2 (blk_then hr hBa) (hor.then_ hBa) hG9 (by decide)
      replace hB1 := below_own (below_then hB1 hBa) hG9 (fun k e => by have := ((hor.then_ hBa).lt k e).1; omega)
      replace hbvr : bv ≤ w9.heap.size := by have := hBa.size; have := hG9.size; omega
      obtain ⟨gN, cN, hvN, hgN, hgNl, hcN, _⟩ := ho9.form (by simp)
      injection hvN with eN1 eN2 eN3
      clear eN2
      subst eN1 eN3
      have hlN : (rs ++ [rz]).length = rs.length + 1 := by simp
      rw [hlN] at hcN
      replace hrzl := Lib.hid hrzl
      clear hG9 hv9 ho9 hl9 hor hBa hO hrz hlN
      simp only [Act.put, List.setIfInBounds_toArray, List.set_cons_zero, List.set_cons_succ]
      go_upto_region 9 with (fail)
      rw [hrn.out] at hcN ⊢
      have hBe : Below w9.heap.size w9 (w9.alloc (.cells #[] 43)) := below_alloc (Below.refl _ _) _
      have cW2 : (w9.alloc (.cells #[] 43)).cell? ⟨g1, 257, none⟩ = some (.slice x.B x.fo.length x.d) := blk_d2 (blk_then h1 hBe)
      have ho0 := own_empty (α := Nat) (enc := encR) (size := 1) (e := 43) (base := bv) (w := w9) hbvr
      have hs0 := ((hT.then_ hB1).fo).below hBe
      go_upto_region 10 with (first | (refine wl_b0r rfl rfl ?_) | (at_builtin; refine park ?_))
      refine Parked.mk ?_
      refine wl_catR rfl _ _ rfl bv [] x.fo rfl ho0 rfl rfl rfl hs0 (by simp) (by have := hS.f; omega) (by have := hBe.size; omega) ?_
      intro A7 c7 w7 ho7 hG7 hv7
      simp only [List.nil_append] at ho7 hv7 ⊢
      have hA7 : ∀ b, A7 = some b → w9.heap.size ≤ b.block := own_ge hv7 (fun b hb => by injection hb with hb; subst hb; exact Nat.le_refl _) (by rw [World.size_alloc]; omega)
      have hB7 : Below w9.heap.size w9 w7 := hBe.grown hG7 hBe.size (fun q e => Nat.le_of_eq (by simpa [Value.ownBlock] using e))
      replace h1 := blk_then h1 hB7
      replace hr := blk_then hr hB7
      replace hO2 := hO2.then_ hB7
      replace hbvr : bv ≤ w7.heap.size := by have := hB7.size; omega
      replace hB1 := below_then hB1 hB7
      replace hA7 := Lib.hid hA7
      replace hB7 := Lib.hid hB7.size
      clear cW2 hG7 hv7 hs0 hBe ho0
      simp only [Act.put, List.setIfInBounds_toArray, List.set_cons_zero, List.set_cons_succ]
      go_upto_region 10 with (first | (refine wl_u1 rfl _ rfl 99 rfl ?_) | (at_builtin; refine park ?_))
      refine Parked.mk ?_
      have hBa : Below w7.heap.size w7 (w7.alloc (.cells (encR 99) 43)) := below_alloc (Below.refl _ _) _
      have ho7a := ho7.then_ hBa
      refine wl_catR rfl _ _ rfl bv x.fo [99] rfl ho7a rfl rfl rfl (slice_one (enc := encR) (Blk.new w7 _ _)) (by have := hS.f; omega) (by simp) (by have := hBa.size; omega) ?_
      intro AF c8F w8F ho8 hG8 hv8
      have hl8 : (x.fo ++ [99]).length = x.fo.length + 1 := by simp
      rw [hl8] at ho8 hv8 ⊢
      have hA8 : ∀ b, AF = some b → w9.heap.size ≤ b.block := own_ge hv8 hA7.out (by have := hB7.out; have := hBa.size; omega)
      replace h1 := blk_own (blk_then h1 hBa) ho7a hG8 l1
      replace hr := blk_own (blk_then hr hBa) ho7a hG8 lr
      replace hO2 := rows_words (hO2.then_ hBa) ho7a hG8
      replace hB1 := below_own (below_then hB1 hBa) hG8 (fun k e => by have := (ho7a.lt k e).1; omega)
      replace hbvr : bv ≤ w8F.heap.size := by have := hBa.size; have := hG8.size; omega
      have hoF := ho8
      obtain ⟨gF, czF, hvF, hgF, hgFl, hcF, _⟩ := ho8.form (by simp)
      injection hvF with eN1 eN2 eN3
      clear eN2
      subst eN1 eN3
      rw [hl8] at hcF
      clear hA7 hB7 hBa ho7 ho7a hG8 hv8 hl8 ho8 hA8
      simp only [Act.put, List.setIfInBounds_toArray, List.set_cons_zero, List.set_cons_succ]
      go_upto_region 10 with (fail)
      have hBe : Below w8F.heap.size w8F (w8F.alloc (.cells #[] 43)) := below_alloc (Below.refl _ _) _
      have cW2 : (w8F.alloc (.cells #[] 43)).cell? ⟨g1, 258, none⟩ = some (.slice x.C x.en.length x.e) := blk_d3 (blk_then h1 hBe)
      have ho0 := own_empty (α := Nat) (enc := encR) (size := 1) (e := 43) (base := bv) (w := w8F) hbvr
      have hs0 := ((hT.then_ hB1).en).below hBe
      go_upto_region 11 with (first | (refine wl_b0r rfl rfl ?_) | (at_builtin; refine park ?_))
      refine Parked.mk ?_
      refine wl_catR rfl _ _ rfl bv [] x.en rfl ho0 rfl rfl rfl hs0 (by simp) (by have := hS.e; omega) (by have := hBe.size; omega) ?_
      intro A7 c7 w7 ho7 hG7 hv7
      simp only [List.nil_append] at ho7 hv7 ⊢
      have hA7 : ∀ b, A7 = some b → w8F.heap.size ≤ b.block := own_ge hv7 (fun b hb => by injection hb with hb; subst hb; exact Nat.le_refl _) (by rw [World.size_alloc]; omega)
      have hB7 : Below w8F.heap.size w8F w7 := hBe.grown hG7 hBe.size (fun q e => Nat.le_of_eq (by simpa [Value.ownBlock] using e))
      replace h1 := blk_then h1 hB7
      replace hr := blk_then hr hB7
      replace hO2 := hO2.then_ hB7
      replace hoF := hoF.then_ hB7
      replace hbvr : bv ≤ w7.heap.size := by have := hB7.size; omega
      replace hB1 := below_then hB1 hB7
      replace hA7 := Lib.hid hA7
      replace hB7 := Lib.hid hB7.size
      clear cW2 hG7 hv7 hs0 hBe ho0
      simp only [Act.put, List.setIfInBounds_toArray, List.set_cons_zero, List.set_cons_succ]
      go_upto_region 11 with (first | (refine wl_u1 rfl _ rfl 99 rfl ?_) | (at_builtin; refine park ?_))
      refine Parked.mk ?_
      have hBa : Below w7.heap.size w7 (w7.alloc (.cells (encR 99) 43)) := below_alloc (Below.refl _ _) _
      have ho7a := ho7.then_ hBa
      refine wl_catR rfl _ _ rfl bv x.en [99] rfl ho7a rfl rfl rfl (slice_one (enc := encR) (Blk.new w7 _ _)) (by have := hS.e; omega) (by simp) (by have := hBa.size; omega) ?_
      intro AE c8E w8E ho8 hG8 hv8
      have hl8 : (x.en ++ [99]).length = x.en.length + 1 := by simp
      rw [hl8] at ho8 hv8 ⊢
      have hA8 : ∀ b, AE = some b → w8F.heap.size ≤ b.block := own_ge hv8 hA7.out (by have := hB7.out; have := hBa.size; omega)
      replace h1 := blk_own (blk_then h1 hBa) ho7a hG8 l1
      replace hr := blk_own (blk_then hr hBa) ho7a hG8 lr
      replace hO2 := rows_words (hO2.then_ hBa) ho7a hG8
      replace hoF := (hoF.then_ hBa).kept_ hG8 (fun q e1 e2 => by
        rw [ownBlock_slice] at e1 e2
        rcases hA : A7 with _ | a
        · rw [hA] at e2; cases e2
        · rw [hA] at e2
          have e3 : a.block = q := by simpa using e2
          have e4 : gF = q := by simpa using e1
          have := hA7.out a hA
          omega)
      replace hB1 := below_own (below_then hB1 hBa) hG8 (fun k e => by have := (ho7a.lt k e).1; omega)
      replace hbvr : bv ≤ w8E.heap.size := by have := hBa.size; have := hG8.size; omega
      have hoE := ho8
      obtain ⟨gE, czE, hvF, hgE, hgEl, hcE, _⟩ := ho8.form (by simp)
      injection hvF with eN1 eN2 eN3
      clear eN2
      subst eN1 eN3
      rw [hl8] at hcE
      have hne : Hid (gF ≠ gE) := Lib.hid (by have := hA8 _ rfl; simp only at this; omega)
      clear hA7 hB7 hBa ho7 ho7a hG8 hv8 hl8 ho8 hA8
      simp only [Act.put, List.setIfInBounds_toArray, List.set_cons_zero, List.set_cons_succ]
      go_upto_region 11 with (fail)
      have hfo20 := hS.f
      have hen20 := hS.e
      refine wp_region_steps 18 [eqS (.pointer (some ⟨g1, 0, none⟩)), eqS (.agg (clsC x.f)), eqS (.slice (some ⟨gN, 0, none⟩) (x.rs.length + 1) c9), eqS (.pointer (some ⟨g1, 256, none⟩)), eqS (.slice x.A x.rs.length x.c), eqS (.int .i64 (((x.rs.length : Nat) : Int))), eqS (.slice (some ⟨gN, 0, none⟩) x.rs.length c9), eqS (.slice (some ⟨gF, 0, none⟩) (x.fo.length + 1) c8F), eqS (.pointer (some ⟨g1, 257, none⟩)), eqS (.slice x.B x.fo.length x.d), eqS (.int .i64 (((x.fo.length : Nat) : Int))), eqS (.slice (some ⟨gF, 0, none⟩) x.fo.length c8F), eqS (.slice (some ⟨gE, 0, none⟩) (x.en.length + 1) c8E), eqS (.pointer (some ⟨g1, 258, none⟩)), eqS (.slice x.C x.en.length x.e), eqS (.int .i64 (((x.en.length : Nat) : Int))), eqS (.slice (some ⟨gE, 0, none⟩) x.en.length c8E), eqS (.agg (dfaC x.f (some ⟨gN, 0, none⟩) x.rs.length c9 (some ⟨gF, 0, none⟩) x.fo.length c8F (some ⟨gE, 0, none⟩) x.en.length c8E))] [50, 51, 52, 53, 54, 55, 56, 57, 58, 59, 60, 61, 62, 63, 64, 65, 66, 67] follows_mixed (by kernel_rfl) (by kernel_rfl) ?_ ?_
      · skip
        refine Steps.cons (fun a' w' hG hB dep => gs_field (want_none rfl) _ _ _ rfl g1 (0) (0) (hG.other 1 rfl) (fun wz => field_dfa_0 g1 (0) wz) rfl) ?_
        refine Steps.cons (fun a' w' hG hB dep => gs_load_clsr (want_none rfl) _ rfl g1 (dep 0 rfl 50 rfl) x.f (dfaC_cls _ _ _ _ _ _ _ _ _ _ (RowAt.of_blk (blk_then h1 hB))) rfl) ?_
        refine Steps.cons (fun a' w' hG hB dep => gs_move (want_none rfl) _ rfl (id (hG.other 3 rfl))) ?_
        refine Steps.cons (fun a' w' hG hB dep => gs_field (want_none rfl) _ _ _ rfl g1 (0) (256) (hG.other 1 rfl) (fun wz => field_dfa_1 g1 (0) wz) rfl) ?_
        refine Steps.cons (fun a' w' hG hB dep => gs_load1 (want_none rfl) _ _ rfl g1 (256) (dep 3 rfl 53 rfl) (.slice x.A x.rs.length x.c) (blk_d1 (blk_then h1 hB)) _ Tryd.underlying31 rfl rfl) ?_
        refine Steps.cons (fun a' w' hG hB dep => gs_len (want_none rfl) _ _ rfl under_rows _ x.rs.length x.c (dep 4 rfl 54 rfl) rfl) ?_
        refine Steps.cons (fun a' w' hG hB dep => gs_slice_to (want_none rfl) _ _ _ rfl under_rows 1 size_rowE ⟨gN, 0, none⟩ (x.rs.length + 1) c9 x.rs.length (dep 2 rfl 52 rfl) (dep 5 rfl 55 rfl) (by omega) rfl) ?_
        refine Steps.cons (fun a' w' hG hB dep => gs_move (want_none rfl) _ rfl (id (hG.other 7 rfl))) ?_
        refine Steps.cons (fun a' w' hG hB dep => gs_field (want_none rfl) _ _ _ rfl g1 (0) (257) (hG.other 1 rfl) (fun wz => field_dfa_2 g1 (0) wz) rfl) ?_
        refine Steps.cons (fun a' w' hG hB dep => gs_load1 (want_none rfl) _ _ rfl g1 (257) (dep 8 rfl 58 rfl) (.slice x.B x.fo.length x.d) (blk_d2 (blk_then h1 hB)) _ Tryd.underlying23 rfl rfl) ?_
        refine Steps.cons (fun a' w' hG hB dep => gs_len (want_none rfl) _ _ rfl under_rules _ x.fo.length x.d (dep 9 rfl 59 rfl) rfl) ?_
        refine Steps.cons (fun a' w' hG hB dep => gs_slice_to (want_none rfl) _ _ _ rfl under_rules 1 size_ruleE ⟨gF, 0, none⟩ (x.fo.length + 1) c8F x.fo.length (dep 7 rfl 57 rfl) (dep 10 rfl 60 rfl) (by omega) rfl) ?_
        refine Steps.cons (fun a' w' hG hB dep => gs_move (want_none rfl) _ rfl (id (hG.other 8 rfl))) ?_
        refine Steps.cons (fun a' w' hG hB dep => gs_field (want_none rfl) _ _ _ rfl g1 (0) (258) (hG.other 1 rfl) (fun wz => field_dfa_3 g1 (0) wz) rfl) ?_
        refine Steps.cons (fun a' w' hG hB dep => gs_load1 (want_none rfl) _ _ rfl g1 (258) (dep 13 rfl 63 rfl) (.slice x.C x.en.length x.e) (blk_d3 (blk_then h1 hB)) _ Tryd.underlying23 rfl rfl) ?_
        refine Steps.cons (fun a' w' hG hB dep => gs_len (want_none rfl) _ _ rfl under_rules _ x.en.length x.e (dep 14 rfl 64 rfl) rfl) ?_
        refine Steps.cons (fun a' w' hG hB dep => gs_slice_to (want_none rfl) _ _ _ rfl under_rules 1 size_ruleE ⟨gE, 0, none⟩ (x.en.length + 1) c8E x.en.length (dep 12 rfl 62 rfl) (dep 15 rfl 65 rfl) (by omega) rfl) ?_
        refine Steps.cons (fun a' w' hG hB dep => gs_build4 (want_none rfl) _ _ _ _ rfl x.f (some ⟨gN, 0, none⟩) (some ⟨gF, 0, none⟩) (some ⟨gE, 0, none⟩) x.rs.length c9 x.fo.length c8F x.en.length c8E (dep 1 rfl 51 rfl) (dep 6 rfl 56 rfl) (dep 11 rfl 61 rfl) (dep 16 rfl 66 rfl) rfl) ?_
        exact Steps.nil
      intro u wu hwu ans
      have hus67 : u 67 = (.agg (dfaC x.f (some ⟨gN, 0, none⟩) x.rs.length c9 (some ⟨gF, 0, none⟩) x.fo.length c8F (some ⟨gE, 0, none⟩) x.en.length c8E)) := ans 17 67 (by decide) rfl
      clear ans
      simp only [putAll, List.foldl_cons, List.foldl_nil, Act.put, List.setIfInBounds_toArray, List.set_cons_zero, List.set_cons_succ, hus67]
      clear hus67
      simp only [List.drop]
      replace hr := blk_then hr hwu
      replace hO2 := hO2.then_ hwu
      replace hoF := hoF.then_ hwu
      replace hoE := hoE.then_ hwu
      replace hB1 := below_then hB1 hwu
      clear hwu h1
      refine wl_store_dfa rfl _ _ rfl gr rfl rfl hr ?_
      intro wg hrg hGg
      refine wpList_nil ?_
      simp only [Act.put, List.setIfInBounds_toArray, List.set_cons_zero, List.set_cons_succ]
      go_wp2_with (fail)
      refine ret_cell rfl _ rfl hrg Tryd.underlying33 rfl (info_dfa.trans (by rw [dfaC_size])) rfl ?_
      refine ⟨below_grown hB1 hGg hgrw, ⟨x.f, rs, some ⟨gN, 0, none⟩, c9, x.fo, some ⟨gF, 0, none⟩, c8F, x.en, some ⟨gE, 0, none⟩, c8E⟩, rz, by simp only [hrn.out], ?_, hrzl.out, ?_⟩
      · exact ((rows_full hO2 hoF hoE (fun a b ha hb => by injection ha with ha; injection hb with hb; subst ha hb; exact hne.out)).box hr hGg (by decide) (by decide) (by decide)).mono hbvw
      · exact Tb.same_ rfl hrs3.out rfl rfl
end Go.Proofs.YtkedgombccdamaaDoor
namespace Go.Proofs.YtkedgombccdamaaDoor
open Go.RowKit Go.Shelf Go.Maps
set_option linter.unusedVariables false
set_option linter.unusedSimpArgs false
attribute [local go_sem] Oper.semAt_some

theorem own_more {α : Type} {enc : α → Array Value} {base : Nat} {e : TypeId} {w : World} {A : Option Addr} {n c : Nat} {ys : List α} {z : α} {v : Value} (hs : ∀ y, (enc y).size = 1) (h : Own w base e 1 enc (.slice A (n + 1) c) (ys ++ [z])) (hn : n = ys.length) (hv : (enc z)[0]? = some v) :
    ∃ g, A = some ⟨g, 0, none⟩ ∧ n + 1 ≤ c ∧ ∀ X : World, Below w.heap.size w X → X.cell? ⟨g, 0 + n * 1, none⟩ = some v := by
  obtain ⟨g, cap, hvv, _, hlt, hc, _⟩ := h.form (by simp)
  injection hvv with h1 _ h3
  subst h1 h3
  refine ⟨g, rfl, by simp at hc; omega, fun X hB => ?_⟩
  have hr := h.row hs n (by simp; omega)
  have hz : (ys ++ [z])[n]'(by simp; omega) = z := by subst hn; simp
  rw [hz] at hr
  have := hr 0 _ hv
  rw [show 0 + n * 1 = n * 1 + 0 by omega]
  exact (World.cell?_of_block (w := w) (hB.block g hlt)).trans this
set_option maxRecDepth 100000 in
set_option maxHeartbeats 4000000 in
theorem stays_any (x y : TV) (rz : RV) (base : Nat) (he : y.T = x.T) (hrz : rz.l.length = 1) (hS : Sml x) (w : World) (hT : TabIn w w.heap.size x) (hO : TOwn w base y [-9] [99] [rz]) :
    Calls Tryd.prog 19 #[.agg y.C', .agg x.C'] w fun e w' => e = .returned (.bool true) ∧ Below w.heap.size w w' := by
  have hlr : y.rs.length = x.rs.length := by have := congrArg (fun T : Tb => T.nx.length) he; simpa [TV.T] using this
  have hlf : y.fo = x.fo := congrArg Tb.fo he
  have hle : y.en = x.en := congrArg Tb.en he
  have hrl : ∀ i (h1 : i < y.rs.length) (h2 : i < x.rs.length), y.rs[i].l = x.rs[i].l := fun i h1 h2 => by
    have h3 : y.rs.map (·.l) = x.rs.map (·.l) := congrArg Tb.nx he
    have h4 : (y.rs.map (·.l))[i]'(by simpa using h1) = (x.rs.map (·.l))[i]'(by simpa using h2) := by simp only [h3]
    simpa using h4
  have hTy : TabIn w w.heap.size y := hO.tab (by have := hS.n; omega) (fun r hr => by
      obtain ⟨i, hi, rfl⟩ := List.mem_iff_getElem.1 hr
      rw [hrl i hi (by omega)]
      have := hS.r _ (List.getElem_mem (show i < x.rs.length by omega))
      omega) (by rw [hlf]; have := hS.f; omega) (by rw [hle]; have := hS.e; omega) (by rw [hlf]; exact hT.f32) (by rw [hle]; exact hT.e32)
  have hsame : ∀ W : World, Below w.heap.size w W → Calls Tryd.prog 12 #[.agg y.C', .agg x.C'] W fun e w' => e = .returned (.bool true) ∧ Below W.heap.size W w' := fun W hB => same10_any y x (TEq.of he) W (hTy.then_ hB) (hT.then_ hB)
  have hn20 := hS.n
  have Hlr := Lib.hid hlr
  have Hlf := Lib.hid (congrArg List.length hlf)
  have Hle := Lib.hid (congrArg List.length hle)
  have Hrl := Lib.hid hrl
  clear hlr hlf hle hrl hTy
  unfold TV.C' at hsame ⊢
  go_enter Tryd.func19, Tryd.ntmps19
  have hy := (Blk.new w 33 (dfaC y.f y.A y.rs.length y.c y.B y.fo.length y.d y.C y.en.length y.e)).alloc (.cells (dfaC x.f x.A x.rs.length x.c x.B x.fo.length x.d x.C x.en.length x.e) 33)
  have hd : Blk ((w.alloc (.cells (dfaC y.f y.A y.rs.length y.c y.B y.fo.length y.d y.C y.en.length y.e) 33)).alloc (.cells (dfaC x.f x.A x.rs.length x.c x.B x.fo.length x.d x.C x.en.length x.e) 33)) (w.heap.size + 1) 33 (dfaC x.f x.A x.rs.length x.c x.B x.fo.length x.d x.C x.en.length x.e) := Blk.new' _ _ _ (World.size_alloc _ _).symm
  have hB1 := below_alloc (below_alloc (Below.refl w.heap.size w) (.cells (dfaC y.f y.A y.rs.length y.c y.B y.fo.length y.d y.C y.en.length y.e) 33)) (.cells (dfaC x.f x.A x.rs.length x.c x.B x.fo.length x.d x.C x.en.length x.e) 33)
  go_upto_region 1 with (fail)
  obtain ⟨w1, hw1⟩ : ∃ ww, ww = ((w.alloc (.cells (dfaC y.f y.A y.rs.length y.c y.B y.fo.length y.d y.C y.en.length y.e) 33)).alloc (.cells (dfaC x.f x.A x.rs.length x.c x.B x.fo.length x.d x.C x.en.length x.e) 33)) := ⟨_, rfl⟩
  first | rw [← hw1] at hy hd hB1 ⊢ | (simp only [World.size_alloc]; rw [← hw1] at hy hd hB1 ⊢)
  clear hw1
  obtain ⟨gy, hgy⟩ : ∃ g, g = w.heap.size := ⟨_, rfl⟩
  obtain ⟨gd, hgd⟩ : ∃ g, g = w.heap.size + 1 := ⟨_, rfl⟩
  try rw [← hgd] at hd ⊢
  try rw [← hgy] at hy ⊢
  clear hgy hgd
  replace hsame : ∀ W : World, Below w1.heap.size w1 W → _ := fun W hB => hsame W (below_then hB1 hB)
  obtain ⟨gN, hYN, hcN, hN77⟩ := own_more rowC_size hO.rows rfl (v := .slice rz.a rz.l.length rz.c) rfl
  rw [hrz] at hN77
  obtain ⟨nr, hnr⟩ : ∃ n, y.rs.length = n := ⟨_, rfl⟩
  have hnr2 : x.rs.length = nr := by rw [← hnr, Hlr.out]
  rw [hnr] at hcN hN77
  rw [hnr2] at hn20
  replace hYN := Lib.hid hYN
  replace hnr := Lib.hid hnr
  replace hnr2 := Lib.hid hnr2
  refine wp_region_steps 20 [eqS (.agg (dfaC y.f y.A y.rs.length y.c y.B y.fo.length y.d y.C y.en.length y.e)), eqS (.agg (dfaC x.f x.A x.rs.length x.c x.B x.fo.length x.d x.C x.en.length x.e)), eqS (.bool true), eqS (.bool (!true)), eqS (.bool (!true)), eqS (vF (true && ((!true) == false)) (.pointer (some ⟨gy, 256, none⟩))), eqS (vF (true && ((!true) == false)) (.slice (some ⟨gN, 0, none⟩) nr y.c)), eqS (vF (true && ((!true) == false)) (.pointer (some ⟨gd, 256, none⟩))), eqS (vF (true && ((!true) == false)) (.slice x.A nr x.c)), eqS (vF (true && ((!true) == false)) (.int .i64 (((nr : Nat) : Int)))), eqS (vF (true && ((!true) == false)) (.int .i64 (((nr + 1 : Nat) : Int)))), eqS (vF (true && ((!true) == false)) (.slice (some ⟨gN, 0, none⟩) (nr + 1) y.c)), eqS (vF (true && ((!true) == false)) (.pointer (some ⟨gd, 256, none⟩))), eqS (vF (true && ((!true) == false)) (.slice x.A nr x.c)), eqS (vF (true && ((!true) == false)) (.int .i64 (((nr : Nat) : Int)))), eqS (vF (true && ((!true) == false)) (.pointer (some ⟨gN, 0 + nr * 1, none⟩))), eqS (vF (true && ((!true) == false)) (.slice rz.a 1 rz.c)), eqS (vF (true && ((!true) == false)) (.int .i64 (((1 : Nat) : Int)))), eqS (vF (true && ((!true) == false)) (.bool false)), eqS (.bool ((!true) || false))] [7, 8, 9, 10, 11, 12, 13, 14, 15, 16, 17, 18, 19, 20, 21, 22, 23, 24, 25, 26] follows_mixed (by kernel_rfl) (by kernel_rfl) ?_ ?_
  · skip
    refine Steps.cons (fun a' w' hG hB dep => gs_load_dfa (want_none rfl) _ rfl gy (hG.other 2 rfl) (blk_then hy hB) rfl) ?_
    refine Steps.cons (fun a' w' hG hB dep => gs_load_dfa (want_none rfl) _ rfl gd (hG.other 3 rfl) (blk_then hd hB) rfl) ?_
    refine Steps.cons (fun a' w' hG hB dep => gs_call (want_none rfl) _ _ _ rfl enter_same10 _ (map2 (dep 0 rfl 7 rfl) (dep 1 rfl 8 rfl)) ((hsame _ hB).mono fun e w2 ⟨he, hb⟩ => ⟨_, he, hb, rfl⟩)) ?_
    refine Steps.cons (fun a' w' hG hB dep => gs_not_bool (want_none rfl) _ _ rfl _ (dep 2 rfl 9 rfl) rfl) ?_
    refine Steps.cons (fun a' w' hG hB dep => gs_move (want_none rfl) _ rfl (id (dep 3 rfl 10 rfl))) ?_
    refine Steps.cons (fun a' w' hG hB dep => gs_guard (c := true) (b' := (!true)) rfl rfl (dep 4 rfl 11 rfl) (fun hc he hw => gs_field hw _ _ _ rfl gy (0) (256) (hG.other 2 rfl) (fun wz => field_dfa_1 gy (0) wz) (vF_yes (on_g hc he) _).symm) (fun hn => vF_no hn _)) ?_
    refine Steps.cons (fun a' w' hG hB dep => gs_guard (c := true) (b' := (!true)) rfl rfl (dep 4 rfl 11 rfl) (fun hc he hw => gs_load1 hw _ _ rfl gy (256) (Eq.trans (dep 5 rfl 12 rfl) (vF_yes (on_g hc he) _)) (.slice (some ⟨gN, 0, none⟩) nr y.c) (by have h9 := blk_d1 (blk_then hy hB); rw [hYN.out, hnr.out] at h9; exact h9) _ Tryd.underlying31 rfl (vF_yes (on_g hc he) _).symm) (fun hn => vF_no hn _)) ?_
    refine Steps.cons (fun a' w' hG hB dep => gs_guard (c := true) (b' := (!true)) rfl rfl (dep 4 rfl 11 rfl) (fun hc he hw => gs_field hw _ _ _ rfl gd (0) (256) (hG.other 3 rfl) (fun wz => field_dfa_1 gd (0) wz) (vF_yes (on_g hc he) _).symm) (fun hn => vF_no hn _)) ?_
    refine Steps.cons (fun a' w' hG hB dep => gs_guard (c := true) (b' := (!true)) rfl rfl (dep 4 rfl 11 rfl) (fun hc he hw => gs_load1 hw _ _ rfl gd (256) (Eq.trans (dep 7 rfl 14 rfl) (vF_yes (on_g hc he) _)) (.slice x.A nr x.c) (by have h9 := blk_d1 (blk_then hd hB); rw [hnr2.out] at h9; exact h9) _ Tryd.underlying31 rfl (vF_yes (on_g hc he) _).symm) (fun hn => vF_no hn _)) ?_
    refine Steps.cons (fun a' w' hG hB dep => gs_guard (c := true) (b' := (!true)) rfl rfl (dep 4 rfl 11 rfl) (fun hc he hw => gs_len hw _ _ rfl under_rows _ nr x.c (Eq.trans (dep 8 rfl 15 rfl) (vF_yes (on_g hc he) _)) (vF_yes (on_g hc he) _).symm) (fun hn => vF_no hn _)) ?_
    refine Steps.cons (fun a' w' hG hB dep => gs_guard (c := true) (b' := (!true)) rfl rfl (dep 4 rfl 11 rfl) (fun hc he hw => gs_add_nat hw _ _ _ _ rfl nr 1 (nr + 1) (Eq.trans (dep 9 rfl 16 rfl) (vF_yes (on_g hc he) _)) rfl rfl (by omega) (vF_yes (on_g hc he) _).symm) (fun hn => vF_no hn _)) ?_
    refine Steps.cons (fun a' w' hG hB dep => gs_guard (c := true) (b' := (!true)) rfl rfl (dep 4 rfl 11 rfl) (fun hc he hw => gs_slice_to hw _ _ _ rfl under_rows 1 size_rowE ⟨gN, 0, none⟩ nr y.c (nr + 1) (Eq.trans (dep 6 rfl 13 rfl) (vF_yes (on_g hc he) _)) (Eq.trans (dep 10 rfl 17 rfl) (vF_yes (on_g hc he) _)) hcN (vF_yes (on_g hc he) _).symm) (fun hn => vF_no hn _)) ?_
    refine Steps.cons (fun a' w' hG hB dep => gs_guard (c := true) (b' := (!true)) rfl rfl (dep 4 rfl 11 rfl) (fun hc he hw => gs_field hw _ _ _ rfl gd (0) (256) (hG.other 3 rfl) (fun wz => field_dfa_1 gd (0) wz) (vF_yes (on_g hc he) _).symm) (fun hn => vF_no hn _)) ?_
    refine Steps.cons (fun a' w' hG hB dep => gs_guard (c := true) (b' := (!true)) rfl rfl (dep 4 rfl 11 rfl) (fun hc he hw => gs_load1 hw _ _ rfl gd (256) (Eq.trans (dep 12 rfl 19 rfl) (vF_yes (on_g hc he) _)) (.slice x.A nr x.c) (by have h9 := blk_d1 (blk_then hd hB); rw [hnr2.out] at h9; exact h9) _ Tryd.underlying31 rfl (vF_yes (on_g hc he) _).symm) (fun hn => vF_no hn _)) ?_
    refine Steps.cons (fun a' w' hG hB dep => gs_guard (c := true) (b' := (!true)) rfl rfl (dep 4 rfl 11 rfl) (fun hc he hw => gs_len hw _ _ rfl under_rows _ nr x.c (Eq.trans (dep 13 rfl 20 rfl) (vF_yes (on_g hc he) _)) (vF_yes (on_g hc he) _).symm) (fun hn => vF_no hn _)) ?_
    refine Steps.cons (fun a' w' hG hB dep => gs_guard (c := true) (b' := (!true)) rfl rfl (dep 4 rfl 11 rfl) (fun hc he hw => gs_index hw _ _ _ rfl under_rows 1 size_rowE gN 0 (nr + 1) y.c (nr) (Eq.trans (dep 11 rfl 18 rfl) (vF_yes (on_g hc he) _)) (Eq.trans (dep 14 rfl 21 rfl) (vF_yes (on_g hc he) _)) (Nat.lt_succ_self _) (vF_yes (on_g hc he) _).symm) (fun hn => vF_no hn _)) ?_
    refine Steps.cons (fun a' w' hG hB dep => gs_guard (c := true) (b' := (!true)) rfl rfl (dep 4 rfl 11 rfl) (fun hc he hw => gs_load1 hw _ _ rfl gN (0 + nr * 1) (Eq.trans (dep 15 rfl 22 rfl) (vF_yes (on_g hc he) _)) (.slice rz.a 1 rz.c) (hN77 _ (below_then hB1 hB)) _ Tryd.underlying67 rfl (vF_yes (on_g hc he) _).symm) (fun hn => vF_no hn _)) ?_
    refine Steps.cons (fun a' w' hG hB dep => gs_guard (c := true) (b' := (!true)) rfl rfl (dep 4 rfl 11 rfl) (fun hc he hw => gs_len hw _ _ rfl under_ints _ 1 rz.c (Eq.trans (dep 16 rfl 23 rfl) (vF_yes (on_g hc he) _)) (vF_yes (on_g hc he) _).symm) (fun hn => vF_no hn _)) ?_
    refine Steps.cons (fun a' w' hG hB dep => gs_guard (c := true) (b' := (!true)) rfl rfl (dep 4 rfl 11 rfl) (fun hc he hw => gs_neq_int hw _ _ _ _ rfl _ _ _ (Eq.trans (dep 17 rfl 24 rfl) (vF_yes (on_g hc he) _)) rfl (Eq.trans (congrArg Value.bool rfl) (vF_yes (on_g hc he) _).symm)) (fun hn => vF_no hn _)) ?_
    refine Steps.cons (fun a' w' hG hB dep => gs_pick (want_none rfl) _ _ _ rfl (!true) (dep 4 rfl 11 rfl) (id (pick_or2 (c := true) rfl (dep 18 rfl 25 rfl)))) ?_
    exact Steps.nil
  intro u wb hwb ans
  have hus26 : u 26 = (.bool ((!true) || false)) := ans 19 26 (by decide) rfl
  clear ans
  simp only [putAll, List.foldl_cons, List.foldl_nil, Act.put, List.setIfInBounds_toArray, List.set_cons_zero, List.set_cons_succ, hus26]
  clear hus26
  simp only [List.drop]
  refine wpList_nil ?_
  have hB2 := hwb
  rw [show ((!true) || false) = false from rfl]
  clear hsame hcN hN77
  replace hy := blk_then hy hB2
  replace hd := blk_then hd hB2
  replace hB1 := below_then hB1 hB2
  clear hB2 hwb
  replace hO := hO.then_ hB1
  replace hT := hT.then_ hB1
  rw [← hnr2.out] at hn20
  have cD0 : wb.cell? ⟨gd, 256, none⟩ = some (.slice x.A x.rs.length x.c) := blk_d1 hd
  go_wp2_with (fail)
  clear cD0
  go_loopw [30] (fun iv wr => ∃ i : Nat, i ≤ x.rs.length ∧ iv = .int .i64 i ∧ Below wb.heap.size wb wr ∧ Blk wr gy 33 (dfaC y.f y.A y.rs.length y.c y.B y.fo.length y.d y.C y.en.length y.e) ∧ Blk wr gd 33 (dfaC x.f x.A x.rs.length x.c x.B x.fo.length x.d x.C x.en.length x.e)) (fun iv _ => x.rs.length - (intOf iv).toNat)
  case atStart => exact ⟨0, by omega, rfl, Below.refl _ _, hy, hd⟩
  case round =>
    clear hy hd
    obtain ⟨i, hi, rfl, hB2, hy, hd⟩ := hrel
    by_cases hil : i < x.rs.length
    · have hiI : (i : Int) < x.rs.length := by omega
      have hiy : i < y.rs.length := by rw [Hlr.out]; exact hil
      obtain ⟨bX, oX, hXA, hbX, cR⟩ := hT.rowAt hil
      obtain ⟨bY, oY, hYA, hbY, cS⟩ := slice_cell (hO.rows.slice_all rowC_size) (s := i) (by simp; omega) (v := .slice y.rs[i].a y.rs[i].l.length y.rs[i].c) (by rw [List.getElem_append_left hiy]; rfl)
      obtain ⟨gR, hgR, hcR, hc77⟩ := own_more encZ_size (hO.row i hiy) rfl (v := .int .i64 (-9)) rfl
      have hlen := Hrl.out i hiy hil
      rw [hgR, hlen] at cS
      rw [hlen] at hcR hc77
      have hl20 := hS.r _ (List.getElem_mem hil)
      obtain ⟨a2, ha2⟩ : ∃ a2, x.rs[i].a = a2 := ⟨_, rfl⟩
      obtain ⟨c2, hc2⟩ : ∃ a2, x.rs[i].c = a2 := ⟨_, rfl⟩
      obtain ⟨ln, hln⟩ : ∃ a2, x.rs[i].l.length = a2 := ⟨_, rfl⟩
      obtain ⟨cR2, hcR2⟩ : ∃ a2, y.rs[i].c = a2 := ⟨_, rfl⟩
      rw [ha2, hc2, hln] at cR
      rw [hln] at cS hcR hc77 hl20
      rw [hcR2] at cS hcR
      have hcx : ∀ X : World, Below wb.heap.size wb X → X.cell? ⟨bX, oX + i * 1, none⟩ = some (.slice a2 ln c2) := fun X hB => cell_keep cR hbX hB
      have hcy : ∀ X : World, Below wb.heap.size wb X → X.cell? ⟨bY, oY + i * 1, none⟩ = some (.slice (some ⟨gR, 0, none⟩) ln cR2) := fun X hB => cell_keep cS hbY hB
      have cRr := hcx wr hB2
      rw [Nat.mul_one] at cRr
      rw [hXA]
      replace hYA := Lib.hid hYA
      clear cR cS hgR hlen ha2 hc2 hln hcR2
      go_upto_region 6 with (fail)
      clear cRr
      refine wp_region_text 14 [eqS (.pointer (some ⟨gy, 256, none⟩)), eqS (.slice (some ⟨bY, oY, none⟩) y.rs.length y.c), eqS (.int .i64 (((i : Nat) : Int))), eqS (.pointer (some ⟨bY, oY + i * 1, none⟩)), eqS (.slice (some ⟨gR, 0, none⟩) ln cR2), eqS (.slice a2 ln c2), eqS (.int .i64 (((ln : Nat) : Int))), eqS (.int .i64 (((ln + 1 : Nat) : Int))), eqS (.slice (some ⟨gR, 0, none⟩) (ln + 1) cR2), eqS (.slice a2 ln c2), eqS (.int .i64 (((ln : Nat) : Int))), eqS (.pointer (some ⟨gR, 0 + ln * 1, none⟩)), eqS (.int .i64 (-9)), eqS (.bool false)] [35, 36, 37, 38, 39, 40, 41, 42, 43, 44, 45, 46, 47, 48] (by kernel_rfl) (by kernel_rfl) ?_ ?_
      · skip
        refine Steps.cons (fun a' w' hG hB dep => gs_field (want_none rfl) _ _ _ rfl gy (0) (256) (hG.other 2 rfl) (fun wz => field_dfa_1 gy (0) wz) rfl) ?_
        refine Steps.cons (fun a' w' hG hB dep => gs_load1 (want_none rfl) _ _ rfl gy (256) (dep 0 rfl 35 rfl) (.slice (some ⟨bY, oY, none⟩) y.rs.length y.c) (by have h9 := blk_d1 (blk_then hy hB); rw [hYA.out] at h9; exact h9) _ Tryd.underlying31 rfl rfl) ?_
        refine Steps.cons (fun a' w' hG hB dep => gs_move (want_none rfl) _ rfl (id (hG.other 5 rfl))) ?_
        refine Steps.cons (fun a' w' hG hB dep => gs_index (want_none rfl) _ _ _ rfl under_rows 1 size_rowE bY oY y.rs.length y.c (i) (dep 1 rfl 36 rfl) (dep 2 rfl 37 rfl) hiy rfl) ?_
        refine Steps.cons (fun a' w' hG hB dep => gs_load1 (want_none rfl) _ _ rfl bY (oY + i * 1) (dep 3 rfl 38 rfl) (.slice (some ⟨gR, 0, none⟩) ln cR2) (hcy _ (below_then hB2 hB)) _ Tryd.underlying67 rfl rfl) ?_
        refine Steps.cons (fun a' w' hG hB dep => gs_move (want_none rfl) _ rfl (id (hG.other 6 rfl))) ?_
        refine Steps.cons (fun a' w' hG hB dep => gs_len (want_none rfl) _ _ rfl under_ints _ ln c2 (dep 5 rfl 40 rfl) rfl) ?_
        refine Steps.cons (fun a' w' hG hB dep => gs_add_nat (want_none rfl) _ _ _ _ rfl ln 1 (ln + 1) (dep 6 rfl 41 rfl) rfl rfl (by omega) rfl) ?_
        refine Steps.cons (fun a' w' hG hB dep => gs_slice_to (want_none rfl) _ _ _ rfl under_ints 1 size_intE ⟨gR, 0, none⟩ ln cR2 (ln + 1) (dep 4 rfl 39 rfl) (dep 7 rfl 42 rfl) hcR rfl) ?_
        refine Steps.cons (fun a' w' hG hB dep => gs_move (want_none rfl) _ rfl (id (hG.other 6 rfl))) ?_
        refine Steps.cons (fun a' w' hG hB dep => gs_len (want_none rfl) _ _ rfl under_ints _ ln c2 (dep 9 rfl 44 rfl) rfl) ?_
        refine Steps.cons (fun a' w' hG hB dep => gs_index (want_none rfl) _ _ _ rfl under_ints 1 size_intE gR 0 (ln + 1) cR2 (ln) (dep 8 rfl 43 rfl) (dep 10 rfl 45 rfl) (Nat.lt_succ_self _) rfl) ?_
        refine Steps.cons (fun a' w' hG hB dep => gs_load1 (want_none rfl) _ _ rfl gR (0 + ln * 1) (dep 11 rfl 46 rfl) (.int .i64 (-9)) (hc77 _ (below_then hB2 hB)) _ Tryd.underlying3 rfl rfl) ?_
        refine Steps.cons (fun a' w' hG hB dep => gs_neq_int (want_none rfl) _ _ _ _ rfl _ _ _ (dep 12 rfl 47 rfl) rfl (id (congrArg Value.bool rfl))) ?_
        exact Steps.nil
      intro u wu hwu ans
      have hus48 : u 48 = (.bool false) := ans 13 48 (by decide) rfl
      clear ans
      simp only [putAll, List.foldl_cons, List.foldl_nil, Act.put, List.setIfInBounds_toArray, List.set_cons_zero, List.set_cons_succ, hus48]
      clear hus48
      simp only [List.drop]
      refine wpList_nil ?_
      replace hy := blk_then hy hwu
      replace hd := blk_then hd hwu
      replace hB2 := below_then hB2 hwu
      clear hwu hcx hcy hc77 hcR hl20
      have HXA := Lib.hid hXA
      clear hXA
      go_wp2_with (fail)
      exact ⟨⟨i + 1, by omega, rfl, hB2, hy, by rw [← HXA.out]; exact hd⟩, by simp only [intOf]; omega⟩
    · have hiI : ¬ (i : Int) < x.rs.length := by omega
      go_upto_region 9 with (fail)
      obtain ⟨gF, hYB, hcF, hF77⟩ := own_more encR_size hO.fo rfl (v := .int .u32 99) rfl
      obtain ⟨gE, hYC, hcE, hE77⟩ := own_more encR_size hO.en rfl (v := .int .u32 99) rfl
      obtain ⟨nf, hnf⟩ : ∃ n, y.fo.length = n := ⟨_, rfl⟩
      obtain ⟨ne, hne⟩ : ∃ n, y.en.length = n := ⟨_, rfl⟩
      have hnf2 : x.fo.length = nf := by rw [← hnf, Hlf.out]
      have hne2 : x.en.length = ne := by rw [← hne, Hle.out]
      rw [hnf] at hcF hF77
      rw [hne] at hcE hE77
      have hf20 := hS.f
      have he20 := hS.e
      rw [hnf2] at hf20
      rw [hne2] at he20
      replace hYB := Lib.hid hYB
      replace hYC := Lib.hid hYC
      replace hnf := Lib.hid hnf
      replace hne := Lib.hid hne
      replace hnf2 := Lib.hid hnf2
      replace hne2 := Lib.hid hne2
      refine wp_region_steps 29 [eqS (.pointer (some ⟨gy, 257, none⟩)), eqS (.slice (some ⟨gF, 0, none⟩) nf y.d), eqS (.pointer (some ⟨gd, 257, none⟩)), eqS (.slice x.B nf x.d), eqS (.int .i64 (((nf : Nat) : Int))), eqS (.int .i64 (((nf + 1 : Nat) : Int))), eqS (.slice (some ⟨gF, 0, none⟩) (nf + 1) y.d), eqS (.pointer (some ⟨gd, 257, none⟩)), eqS (.slice x.B nf x.d), eqS (.int .i64 (((nf : Nat) : Int))), eqS (.pointer (some ⟨gF, 0 + nf * 1, none⟩)), eqS (.int .u32 (99)), eqS (.bool true), eqS (.bool true), eqS (vF (true && (true == true)) (.pointer (some ⟨gy, 258, none⟩))), eqS (vF (true && (true == true)) (.slice (some ⟨gE, 0, none⟩) ne y.e)), eqS (vF (true && (true == true)) (.pointer (some ⟨gd, 258, none⟩))), eqS (vF (true && (true == true)) (.slice x.C ne x.e)), eqS (vF (true && (true == true)) (.int .i64 (((ne : Nat) : Int)))), eqS (vF (true && (true == true)) (.int .i64 (((ne + 1 : Nat) : Int)))), eqS (vF (true && (true == true)) (.slice (some ⟨gE, 0, none⟩) (ne + 1) y.e)), eqS (vF (true && (true == true)) (.pointer (some ⟨gd, 258, none⟩))), eqS (vF (true && (true == true)) (.slice x.C ne x.e)), eqS (vF (true && (true == true)) (.int .i64 (((ne : Nat) : Int)))), eqS (vF (true && (true == true)) (.pointer (some ⟨gE, 0 + ne * 1, none⟩))), eqS (vF (true && (true == true)) (.int .u32 (99))), eqS (vF (true && (true == true)) (.bool true)), eqS (.bool (true && true)), eqS (.bool (true && true))] [50, 51, 52, 53, 54, 55, 56, 57, 58, 59, 60, 61, 62, 63, 64, 65, 66, 67, 68, 69, 70, 71, 72, 73, 74, 75, 76, 77, 4] follows_mixed (by kernel_rfl) (by kernel_rfl) ?_ ?_
      · skip
        refine Steps.cons (fun a' w' hG hB dep => gs_field (want_none rfl) _ _ _ rfl gy (0) (257) (hG.other 2 rfl) (fun wz => field_dfa_2 gy (0) wz) rfl) ?_
        refine Steps.cons (fun a' w' hG hB dep => gs_load1 (want_none rfl) _ _ rfl gy (257) (dep 0 rfl 50 rfl) (.slice (some ⟨gF, 0, none⟩) nf y.d) (by have h9 := blk_d2 (blk_then hy hB); rw [hYB.out, hnf.out] at h9; exact h9) _ Tryd.underlying23 rfl rfl) ?_
        refine Steps.cons (fun a' w' hG hB dep => gs_field (want_none rfl) _ _ _ rfl gd (0) (257) (hG.other 3 rfl) (fun wz => field_dfa_2 gd (0) wz) rfl) ?_
        refine Steps.cons (fun a' w' hG hB dep => gs_load1 (want_none rfl) _ _ rfl gd (257) (dep 2 rfl 52 rfl) (.slice x.B nf x.d) (by have h9 := blk_d2 (blk_then hd hB); rw [hnf2.out] at h9; exact h9) _ Tryd.underlying23 rfl rfl) ?_
        refine Steps.cons (fun a' w' hG hB dep => gs_len (want_none rfl) _ _ rfl under_rules _ nf x.d (dep 3 rfl 53 rfl) rfl) ?_
        refine Steps.cons (fun a' w' hG hB dep => gs_add_nat (want_none rfl) _ _ _ _ rfl nf 1 (nf + 1) (dep 4 rfl 54 rfl) rfl rfl (by omega) rfl) ?_
        refine Steps.cons (fun a' w' hG hB dep => gs_slice_to (want_none rfl) _ _ _ rfl under_rules 1 size_ruleE ⟨gF, 0, none⟩ nf y.d (nf + 1) (dep 1 rfl 51 rfl) (dep 5 rfl 55 rfl) hcF rfl) ?_
        refine Steps.cons (fun a' w' hG hB dep => gs_field (want_none rfl) _ _ _ rfl gd (0) (257) (hG.other 3 rfl) (fun wz => field_dfa_2 gd (0) wz) rfl) ?_
        refine Steps.cons (fun a' w' hG hB dep => gs_load1 (want_none rfl) _ _ rfl gd (257) (dep 7 rfl 57 rfl) (.slice x.B nf x.d) (by have h9 := blk_d2 (blk_then hd hB); rw [hnf2.out] at h9; exact h9) _ Tryd.underlying23 rfl rfl) ?_
        refine Steps.cons (fun a' w' hG hB dep => gs_len (want_none rfl) _ _ rfl under_rules _ nf x.d (dep 8 rfl 58 rfl) rfl) ?_
        refine Steps.cons (fun a' w' hG hB dep => gs_index (want_none rfl) _ _ _ rfl under_rules 1 size_ruleE gF 0 (nf + 1) y.d (nf) (dep 6 rfl 56 rfl) (dep 9 rfl 59 rfl) (Nat.lt_succ_self _) rfl) ?_
        refine Steps.cons (fun a' w' hG hB dep => gs_load1 (want_none rfl) _ _ rfl gF (0 + nf * 1) (dep 10 rfl 60 rfl) (.int .u32 (99)) (hF77 _ (below_then hB2 hB)) _ Tryd.underlying43 rfl rfl) ?_
        refine Steps.cons (fun a' w' hG hB dep => gs_eql_int (want_none rfl) _ _ _ _ rfl _ _ _ (dep 11 rfl 61 rfl) rfl (id (congrArg Value.bool rfl))) ?_
        refine Steps.cons (fun a' w' hG hB dep => gs_move (want_none rfl) _ rfl (id (dep 12 rfl 62 rfl))) ?_
        refine Steps.cons (fun a' w' hG hB dep => gs_guard (c := true) (b' := true) rfl rfl (dep 13 rfl 63 rfl) (fun hc he hw => gs_field hw _ _ _ rfl gy (0) (258) (hG.other 2 rfl) (fun wz => field_dfa_3 gy (0) wz) (vF_yes (on_g hc he) _).symm) (fun hn => vF_no hn _)) ?_
        refine Steps.cons (fun a' w' hG hB dep => gs_guard (c := true) (b' := true) rfl rfl (dep 13 rfl 63 rfl) (fun hc he hw => gs_load1 hw _ _ rfl gy (258) (Eq.trans (dep 14 rfl 64 rfl) (vF_yes (on_g hc he) _)) (.slice (some ⟨gE, 0, none⟩) ne y.e) (by have h9 := blk_d3 (blk_then hy hB); rw [hYC.out, hne.out] at h9; exact h9) _ Tryd.underlying23 rfl (vF_yes (on_g hc he) _).symm) (fun hn => vF_no hn _)) ?_
        refine Steps.cons (fun a' w' hG hB dep => gs_guard (c := true) (b' := true) rfl rfl (dep 13 rfl 63 rfl) (fun hc he hw => gs_field hw _ _ _ rfl gd (0) (258) (hG.other 3 rfl) (fun wz => field_dfa_3 gd (0) wz) (vF_yes (on_g hc he) _).symm) (fun hn => vF_no hn _)) ?_
        refine Steps.cons (fun a' w' hG hB dep => gs_guard (c := true) (b' := true) rfl rfl (dep 13 rfl 63 rfl) (fun hc he hw => gs_load1 hw _ _ rfl gd (258) (Eq.trans (dep 16 rfl 66 rfl) (vF_yes (on_g hc he) _)) (.slice x.C ne x.e) (by have h9 := blk_d3 (blk_then hd hB); rw [hne2.out] at h9; exact h9) _ Tryd.underlying23 rfl (vF_yes (on_g hc he) _).symm) (fun hn => vF_no hn _)) ?_
        refine Steps.cons (fun a' w' hG hB dep => gs_guard (c := true) (b' := true) rfl rfl (dep 13 rfl 63 rfl) (fun hc he hw => gs_len hw _ _ rfl under_rules _ ne x.e (Eq.trans (dep 17 rfl 67 rfl) (vF_yes (on_g hc he) _)) (vF_yes (on_g hc he) _).symm) (fun hn => vF_no hn _)) ?_
        refine Steps.cons (fun a' w' hG hB dep => gs_guard (c := true) (b' := true) rfl rfl (dep 13 rfl 63 rfl) (fun hc he hw => gs_add_nat hw _ _ _ _ rfl ne 1 (ne + 1) (Eq.trans (dep 18 rfl 68 rfl) (vF_yes (on_g hc he) _)) rfl rfl (by omega) (vF_yes (on_g hc he) _).symm) (fun hn => vF_no hn _)) ?_
        refine Steps.cons (fun a' w' hG hB dep => gs_guard (c := true) (b' := true) rfl rfl (dep 13 rfl 63 rfl) (fun hc he hw => gs_slice_to hw _ _ _ rfl under_rules 1 size_ruleE ⟨gE, 0, none⟩ ne y.e (ne + 1) (Eq.trans (dep 15 rfl 65 rfl) (vF_yes (on_g hc he) _)) (Eq.trans (dep 19 rfl 69 rfl) (vF_yes (on_g hc he) _)) hcE (vF_yes (on_g hc he) _).symm) (fun hn => vF_no hn _)) ?_
        refine Steps.cons (fun a' w' hG hB dep => gs_guard (c := true) (b' := true) rfl rfl (dep 13 rfl 63 rfl) (fun hc he hw => gs_field hw _ _ _ rfl gd (0) (258) (hG.other 3 rfl) (fun wz => field_dfa_3 gd (0) wz) (vF_yes (on_g hc he) _).symm) (fun hn => vF_no hn _)) ?_
        refine Steps.cons (fun a' w' hG hB dep => gs_guard (c := true) (b' := true) rfl rfl (dep 13 rfl 63 rfl) (fun hc he hw => gs_load1 hw _ _ rfl gd (258) (Eq.trans (dep 21 rfl 71 rfl) (vF_yes (on_g hc he) _)) (.slice x.C ne x.e) (by have h9 := blk_d3 (blk_then hd hB); rw [hne2.out] at h9; exact h9) _ Tryd.underlying23 rfl (vF_yes (on_g hc he) _).symm) (fun hn => vF_no hn _)) ?_
        refine Steps.cons (fun a' w' hG hB dep => gs_guard (c := true) (b' := true) rfl rfl (dep 13 rfl 63 rfl) (fun hc he hw => gs_len hw _ _ rfl under_rules _ ne x.e (Eq.trans (dep 22 rfl 72 rfl) (vF_yes (on_g hc he) _)) (vF_yes (on_g hc he) _).symm) (fun hn => vF_no hn _)) ?_
        refine Steps.cons (fun a' w' hG hB dep => gs_guard (c := true) (b' := true) rfl rfl (dep 13 rfl 63 rfl) (fun hc he hw => gs_index hw _ _ _ rfl under_rules 1 size_ruleE gE 0 (ne + 1) y.e (ne) (Eq.trans (dep 20 rfl 70 rfl) (vF_yes (on_g hc he) _)) (Eq.trans (dep 23 rfl 73 rfl) (vF_yes (on_g hc he) _)) (Nat.lt_succ_self _) (vF_yes (on_g hc he) _).symm) (fun hn => vF_no hn _)) ?_
        refine Steps.cons (fun a' w' hG hB dep => gs_guard (c := true) (b' := true) rfl rfl (dep 13 rfl 63 rfl) (fun hc he hw => gs_load1 hw _ _ rfl gE (0 + ne * 1) (Eq.trans (dep 24 rfl 74 rfl) (vF_yes (on_g hc he) _)) (.int .u32 (99)) (hE77 _ (below_then hB2 hB)) _ Tryd.underlying43 rfl (vF_yes (on_g hc he) _).symm) (fun hn => vF_no hn _)) ?_
        refine Steps.cons (fun a' w' hG hB dep => gs_guard (c := true) (b' := true) rfl rfl (dep 13 rfl 63 rfl) (fun hc he hw => gs_eql_int hw _ _ _ _ rfl _ _ _ (Eq.trans (dep 25 rfl 75 rfl) (vF_yes (on_g hc he) _)) rfl (Eq.trans (congrArg Value.bool rfl) (vF_yes (on_g hc he) _).symm)) (fun hn => vF_no hn _)) ?_
        refine Steps.cons (fun a' w' hG hB dep => gs_pick (want_none rfl) _ _ _ rfl true (dep 13 rfl 63 rfl) (id (pick_and2 (c := true) rfl (dep 26 rfl 76 rfl)))) ?_
        refine Steps.cons (fun a' w' hG hB dep => gs_assign (want_none rfl) _ rfl (id (dep 27 rfl 77 rfl))) ?_
        exact Steps.nil
      intro u wz hwz ans
      have hus4 : u 4 = (.bool (true && true)) := ans 28 4 (by decide) rfl
      clear ans
      simp only [putAll, List.foldl_cons, List.foldl_nil, Act.put, List.setIfInBounds_toArray, List.set_cons_zero, List.set_cons_succ, hus4]
      clear hus4
      simp only [List.drop]
      refine wpList_nil ?_
      replace hB2 := below_then hB2 hwz
      rw [show (true && true) = true from rfl]
      go_wp2_with (fail)
      go_ret
      exact ⟨rfl, below_then hB1 hB2⟩
theorem enter_stays (args : Array Value) (w : World) : (callFunc 19 args).run Tryd.prog w = .ok (.enter 19 args) w := by kernel_rfl
end Go.Proofs.YtkedgombccdamaaDoor
