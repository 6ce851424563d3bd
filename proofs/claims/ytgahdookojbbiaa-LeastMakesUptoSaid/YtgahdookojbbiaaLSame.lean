/- heronlaw11.same of tables that read alike. No condition beyond those named in each lemma. -/
import Derived.Test.YtgahdookojbbiaaLLeast
namespace Go.Proofs.Ytgahdookojbbiaa
open Go.RowKit Go.Maps
set_option linter.unusedVariables false
set_option linter.unusedSimpArgs false
attribute [local go_sem] Oper.semAt_some

set_option maxRecDepth 100000 in
set_option maxHeartbeats 4000000 in
theorem sameRow_any (A B : Option Addr) (c d : Nat) (l : List Int) (w : World) (hl : l.length ≤ 2199023255552) (hA : SliceOf w w.heap.size 1 encZ A l) (hB0 : SliceOf w w.heap.size 1 encZ B l) :
    Calls Try.prog 54 #[.slice A l.length c, .slice B l.length d] w fun e w' => e = .returned (.bool true) ∧ Below w.heap.size w w' := by
  rcases Nat.eq_zero_or_pos l.length with h0 | hp
  · rw [h0]
    clear hA hB0
    go_enter Try.func54, Try.ntmps54
    go_wp2_with (fail)
    go_loopw [5] (fun iv wr => iv = .int .i64 (0 : Nat) ∧ Below w.heap.size w wr) (fun iv _ => 0)
    case atStart => exact ⟨rfl, Below.refl _ _⟩
    case round =>
      obtain ⟨rfl, hBw⟩ := hrel
      go_wp2_with (fail)
      go_ret
      exact ⟨rfl, hBw⟩
  · obtain ⟨bA, oA, rfl, hbA, hrA⟩ := hA.at_ hp
    obtain ⟨bB, oB, rfl, hbB, hrB⟩ := hB0.at_ hp
    clear hA hB0
    go_enter Try.func54, Try.ntmps54
    go_wp2_with (fail)
    go_loopw [5] (fun iv wr => ∃ i : Nat, i ≤ l.length ∧ iv = .int .i64 i ∧ Below w.heap.size w wr) (fun iv _ => l.length - (intOf iv).toNat)
    case atStart => exact ⟨0, by omega, rfl, Below.refl _ _⟩
    case round =>
      obtain ⟨i, hi, rfl, hBw⟩ := hrel
      by_cases hil : i < l.length
      · have hiI : (i : Int) < l.length := by omega
        obtain ⟨z, hz⟩ : ∃ z, l[i] = z := ⟨_, rfl⟩
        have ca : wr.cell? ⟨bA, oA + i * 1, none⟩ = some (Value.int .i64 z) := by rw [← hz]; exact cell_keep (hrA i hil 0 _ rfl) hbA hBw
        have cb : wr.cell? ⟨bB, oB + i * 1, none⟩ = some (Value.int .i64 z) := by rw [← hz]; exact cell_keep (hrB i hil 0 _ rfl) hbB hBw
        replace hz := Lib.hid hz
        go_upto_region 6 with (fail)
        refine wp_region_steps 9 [eqS (.slice (some ⟨bA, oA, none⟩) l.length c), eqS (.int .i64 (((i : Nat) : Int))), eqS (.pointer (some ⟨bA, oA + i * 1, none⟩)), eqS (.int .i64 (z)), eqS (.slice (some ⟨bB, oB, none⟩) l.length d), eqS (.int .i64 (((i : Nat) : Int))), eqS (.pointer (some ⟨bB, oB + i * 1, none⟩)), eqS (.int .i64 (z)), eqS (.bool false)] [17, 18, 19, 20, 21, 22, 23, 24, 25] rfl (by kernel_rfl) rfl ?_ ?_
        · skip
          refine Steps.cons (fun a' w' hG hB dep => gs_move (want_none rfl) _ rfl (id (hG.other 0 rfl))) ?_
          refine Steps.cons (fun a' w' hG hB dep => gs_move (want_none rfl) _ rfl (id (hG.other 5 rfl))) ?_
          refine Steps.cons (fun a' w' hG hB dep => gs_index (want_none rfl) _ _ _ rfl under_ints 1 size_intE bA oA l.length c (i) (dep 0 rfl 17 rfl) (dep 1 rfl 18 rfl) hil rfl) ?_
          refine Steps.cons (fun a' w' hG hB dep => gs_load1 (want_none rfl) _ _ rfl bA (oA + i * 1) (dep 2 rfl 19 rfl) (.int .i64 (z)) (cell_keep2 ca hB) _ Try.underlying3 rfl rfl) ?_
          refine Steps.cons (fun a' w' hG hB dep => gs_move (want_none rfl) _ rfl (id (hG.other 1 rfl))) ?_
          refine Steps.cons (fun a' w' hG hB dep => gs_move (want_none rfl) _ rfl (id (hG.other 5 rfl))) ?_
          refine Steps.cons (fun a' w' hG hB dep => gs_index (want_none rfl) _ _ _ rfl under_ints 1 size_intE bB oB l.length d (i) (dep 4 rfl 21 rfl) (dep 5 rfl 22 rfl) hil rfl) ?_
          refine Steps.cons (fun a' w' hG hB dep => gs_load1 (want_none rfl) _ _ rfl bB (oB + i * 1) (dep 6 rfl 23 rfl) (.int .i64 (z)) (cell_keep2 cb hB) _ Try.underlying3 rfl rfl) ?_
          refine Steps.cons (fun a' w' hG hB dep => gs_neq_int (want_none rfl) _ _ _ _ rfl _ _ _ (dep 3 rfl 20 rfl) (dep 7 rfl 24 rfl) (id (congrArg Value.bool (bne_self_eq_false _)))) ?_
          exact Steps.nil
        intro u w2 hw2 ans
        have hus25 : u 25 = (.bool false) := ans 8 25 (by decide) rfl
        clear ans
        simp only [putAll, List.foldl_cons, List.foldl_nil, Act.put, List.setIfInBounds_toArray, List.set_cons_zero, List.set_cons_succ, hus25]
        clear hus25
        simp only [List.drop]
        refine wpList_nil ?_
        replace hBw := below_then hBw hw2
        clear ca cb hw2
        go_wp2_with (fail)
        exact ⟨⟨i + 1, by omega, rfl, hBw⟩, by simp only [intOf]; omega⟩
      · have hiI : ¬ (i : Int) < l.length := by omega
        go_wp2_with (fail)
        go_ret
        exact ⟨rfl, hBw⟩
theorem enter_sameRow (args : Array Value) (w : World) : (callFunc 54 args).run Try.prog w = .ok (.enter 54 args) w := by kernel_rfl
set_option maxRecDepth 100000 in
set_option maxHeartbeats 4000000 in
theorem sameWords_any (A B : Option Addr) (c d : Nat) (l : List Nat) (w : World) (hl : l.length ≤ 2199023255552) (hA : SliceOf w w.heap.size 1 encR A l) (hB0 : SliceOf w w.heap.size 1 encR B l) :
    Calls Try.prog 53 #[.slice A l.length c, .slice B l.length d] w fun e w' => e = .returned (.bool true) ∧ Below w.heap.size w w' := by
  rcases Nat.eq_zero_or_pos l.length with h0 | hp
  · rw [h0]
    clear hA hB0
    go_enter Try.func53, Try.ntmps53
    go_wp2_with (fail)
    go_loopw [5] (fun iv wr => iv = .int .i64 (0 : Nat) ∧ Below w.heap.size w wr) (fun iv _ => 0)
    case atStart => exact ⟨rfl, Below.refl _ _⟩
    case round =>
      obtain ⟨rfl, hBw⟩ := hrel
      go_wp2_with (fail)
      go_ret
      exact ⟨rfl, hBw⟩
  · obtain ⟨bA, oA, rfl, hbA, hrA⟩ := hA.at_ hp
    obtain ⟨bB, oB, rfl, hbB, hrB⟩ := hB0.at_ hp
    clear hA hB0
    go_enter Try.func53, Try.ntmps53
    go_wp2_with (fail)
    go_loopw [5] (fun iv wr => ∃ i : Nat, i ≤ l.length ∧ iv = .int .i64 i ∧ Below w.heap.size w wr) (fun iv _ => l.length - (intOf iv).toNat)
    case atStart => exact ⟨0, by omega, rfl, Below.refl _ _⟩
    case round =>
      obtain ⟨i, hi, rfl, hBw⟩ := hrel
      by_cases hil : i < l.length
      · have hiI : (i : Int) < l.length := by omega
        obtain ⟨z, hz⟩ : ∃ z, l[i] = z := ⟨_, rfl⟩
        have ca : wr.cell? ⟨bA, oA + i * 1, none⟩ = some (Value.int .u32 ((z : Nat) : Int)) := by rw [← hz]; exact cell_keep (hrA i hil 0 _ rfl) hbA hBw
        have cb : wr.cell? ⟨bB, oB + i * 1, none⟩ = some (Value.int .u32 ((z : Nat) : Int)) := by rw [← hz]; exact cell_keep (hrB i hil 0 _ rfl) hbB hBw
        replace hz := Lib.hid hz
        go_upto_region 6 with (fail)
        refine wp_region_steps 9 [eqS (.slice (some ⟨bA, oA, none⟩) l.length c), eqS (.int .i64 (((i : Nat) : Int))), eqS (.pointer (some ⟨bA, oA + i * 1, none⟩)), eqS (.int .u32 (((z : Nat) : Int))), eqS (.slice (some ⟨bB, oB, none⟩) l.length d), eqS (.int .i64 (((i : Nat) : Int))), eqS (.pointer (some ⟨bB, oB + i * 1, none⟩)), eqS (.int .u32 (((z : Nat) : Int))), eqS (.bool false)] [17, 18, 19, 20, 21, 22, 23, 24, 25] rfl (by kernel_rfl) rfl ?_ ?_
        · skip
          refine Steps.cons (fun a' w' hG hB dep => gs_move (want_none rfl) _ rfl (id (hG.other 0 rfl))) ?_
          refine Steps.cons (fun a' w' hG hB dep => gs_move (want_none rfl) _ rfl (id (hG.other 5 rfl))) ?_
          refine Steps.cons (fun a' w' hG hB dep => gs_index (want_none rfl) _ _ _ rfl under_rules 1 size_ruleE bA oA l.length c (i) (dep 0 rfl 17 rfl) (dep 1 rfl 18 rfl) hil rfl) ?_
          refine Steps.cons (fun a' w' hG hB dep => gs_load1 (want_none rfl) _ _ rfl bA (oA + i * 1) (dep 2 rfl 19 rfl) (.int .u32 (((z : Nat) : Int))) (cell_keep2 ca hB) _ Try.underlying55 rfl rfl) ?_
          refine Steps.cons (fun a' w' hG hB dep => gs_move (want_none rfl) _ rfl (id (hG.other 1 rfl))) ?_
          refine Steps.cons (fun a' w' hG hB dep => gs_move (want_none rfl) _ rfl (id (hG.other 5 rfl))) ?_
          refine Steps.cons (fun a' w' hG hB dep => gs_index (want_none rfl) _ _ _ rfl under_rules 1 size_ruleE bB oB l.length d (i) (dep 4 rfl 21 rfl) (dep 5 rfl 22 rfl) hil rfl) ?_
          refine Steps.cons (fun a' w' hG hB dep => gs_load1 (want_none rfl) _ _ rfl bB (oB + i * 1) (dep 6 rfl 23 rfl) (.int .u32 (((z : Nat) : Int))) (cell_keep2 cb hB) _ Try.underlying55 rfl rfl) ?_
          refine Steps.cons (fun a' w' hG hB dep => gs_neq_int (want_none rfl) _ _ _ _ rfl _ _ _ (dep 3 rfl 20 rfl) (dep 7 rfl 24 rfl) (id (congrArg Value.bool (bne_self_eq_false _)))) ?_
          exact Steps.nil
        intro u w2 hw2 ans
        have hus25 : u 25 = (.bool false) := ans 8 25 (by decide) rfl
        clear ans
        simp only [putAll, List.foldl_cons, List.foldl_nil, Act.put, List.setIfInBounds_toArray, List.set_cons_zero, List.set_cons_succ, hus25]
        clear hus25
        simp only [List.drop]
        refine wpList_nil ?_
        replace hBw := below_then hBw hw2
        clear ca cb hw2
        go_wp2_with (fail)
        exact ⟨⟨i + 1, by omega, rfl, hBw⟩, by simp only [intOf]; omega⟩
      · have hiI : ¬ (i : Int) < l.length := by omega
        go_wp2_with (fail)
        go_ret
        exact ⟨rfl, hBw⟩
theorem enter_sameWords (args : Array Value) (w : World) : (callFunc 53 args).run Try.prog w = .ok (.enter 53 args) w := by kernel_rfl
theorem guard_cls : Try.prog.eqGuardType Try.prog.depth 44 = false := by kernel_rfl
theorem cellsOf_int : Try.prog.cellsOf 3 = 1 := by kernel_rfl
theorem plain_int : Try.prog.plainKey 3 = true := by kernel_rfl
theorem neq_ints_same (xs : List Int) (h : xs.length = 256) (w : World) : (binOp .neq 44 (.agg (intsC .i64 xs)) (.agg (intsC .i64 xs))).run Try.prog w = .ok (.bool false) w := by
  obtain ⟨i, hi⟩ : ∃ i, Try.prog.info? 3 = some i := by
    cases h : Try.prog.info? 3 with
    | none => have := info_intS; rw [h] at this; cases this
    | some i => exact ⟨i, rfl⟩
  rw [run_neq_struct, run_equal_ints (P := Try.prog) (k := .i64) Try.underlying44 hi cellsOf_int Try.underlying3 plain_int xs xs h h w, beq_self_eq_true]
  rfl
theorem neq_cls_same (g : Nat → Int) (w : World) : (binOp .neq 44 (.agg (clsC g)) (.agg (clsC g))).run Try.prog w = .ok (.bool false) w := by
  unfold clsC
  exact neq_ints_same _ (by rw [List.length_map, List.length_range]) w
section
variable {ops : Array Oper} {S : Nat → GSpec} {Q : Exit → Act → World → Prop} {i : Nat} {o : Oper} {a : Act} {w : World}
theorem gs_load_clsr (hw : Region.wanted o (yielded ops a.tmps) = true) (x : Operand) (ho : o.op = .load 44 x) (g : Nat) (hx : a.eval x = .pointer (some ⟨g, 0, none⟩)) (y : Nat → Int) (hg : RowAt w g 0 (clsC y))
    (hp : (S i).p (.agg (clsC y)) w) : GStep Try.prog ops S Q i o a w :=
  gs_run hw (v := .agg (clsC y)) (by unfold execOp; simp only [ho, hx, Instr.loadAt, Instr.sureAddr, Sem.run_bind, Sem.run_pure, Result.andThen_ok, run_loadVar_at w g 0 _ _ _ hg Try.underlying44 rfl (info_cls.trans (by rw [clsC_size]))]) (Below.refl _ _) hp
theorem gs_neq_cls (hw : Region.wanted o (yielded ops a.tmps) = true) (x y : Operand) (t2 : TypeId) (ho : o.op = .binOp .neq 44 x y t2) (p : Nat → Int) (hx : a.eval x = .agg (clsC p)) (hy : a.eval y = .agg (clsC p))
    (hp : (S i).p (.bool false) w) : GStep Try.prog ops S Q i o a w :=
  gs_bin hw _ _ _ x y ho _ _ _ hx hy (run_eqGuard_agg w _ _ _ _ _ _ guard_cls) (neq_cls_same p w) hp
end
/-- two tables that read alike -/
def TEq (x y : Tb) : Prop := (∀ b, b < 256 → x.cls b = y.cls b) ∧ x.nx = y.nx ∧ x.fo = y.fo ∧ x.en = y.en
theorem TEq.refl (x : Tb) : TEq x x := ⟨fun _ _ => rfl, rfl, rfl, rfl⟩
theorem TEq.of {x y : Tb} (h : x = y) : TEq x y := by subst h; exact TEq.refl _
set_option maxRecDepth 100000 in
set_option maxHeartbeats 4000000 in
theorem same_any (x y : TV) (he : TEq x.T y.T) (w : World) (hX : TabIn w w.heap.size x) (hY : TabIn w w.heap.size y) :
    Calls Try.prog 23 #[.agg x.C', .agg y.C'] w fun e w' => e = .returned (.bool true) ∧ Below w.heap.size w w' := by
  obtain ⟨he1, he2, he3, he4⟩ := he
  have hnl : x.rs.length = y.rs.length := by have := congrArg List.length he2; simpa [TV.T] using this
  have hfl : y.fo = x.fo := he3.symm
  have hel : y.en = x.en := he4.symm
  have hrow : ∀ i (h : i < x.rs.length) (h2 : i < y.rs.length), y.rs[i].l = x.rs[i].l := fun i h h2 => by
    have h9 : x.rs.map (·.l) = y.rs.map (·.l) := he2
    have h3 : (x.rs.map (·.l))[i]'(by simpa using h) = (y.rs.map (·.l))[i]'(by simpa using h2) := by simp only [h9]
    rw [List.getElem_map, List.getElem_map] at h3
    exact h3.symm
  have hXF : ∀ {X : World}, Below w.heap.size w X → SliceOf X X.heap.size 1 encR x.B x.fo := fun hB => (hX.fo.below hB).more hB.size
  have hYF : ∀ {X : World}, Below w.heap.size w X → SliceOf X X.heap.size 1 encR y.B x.fo := fun hB => by rw [← hfl]; exact (hY.fo.below hB).more hB.size
  have hXE : ∀ {X : World}, Below w.heap.size w X → SliceOf X X.heap.size 1 encR x.C x.en := fun hB => (hX.en.below hB).more hB.size
  have hYE : ∀ {X : World}, Below w.heap.size w X → SliceOf X X.heap.size 1 encR y.C x.en := fun hB => by rw [← hel]; exact (hY.en.below hB).more hB.size
  have hfob := hX.fb
  have henb := hX.eb
  have hnb := hX.nb
  have hCy : y.C' = dfaC x.f y.A x.rs.length y.c y.B x.fo.length y.d y.C x.en.length y.e := by
    unfold TV.C'
    rw [hfl, hel, hnl]
    exact dfaC_ext _ _ _ _ _ _ _ _ _ (fun b hb => (he1 b hb).symm)
  rw [hCy]
  unfold TV.C'
  obtain ⟨n, hn⟩ : ∃ n, x.rs.length = n := ⟨_, rfl⟩
  rw [hn] at hnb ⊢
  obtain ⟨f, hf⟩ : ∃ f, x.f = f := ⟨_, rfl⟩
  rw [hf]
  replace hn := Lib.hid hn
  replace hnl := Lib.hid hnl
  replace hrow := Lib.hid hrow
  clear hCy hfl hel he1 he2 he3 he4 hf
  go_enter Try.func23, Try.ntmps23
  have h2 := (Blk.new w 47 (dfaC f x.A n x.c x.B x.fo.length x.d x.C x.en.length x.e)).alloc (.cells (dfaC f y.A n y.c y.B x.fo.length y.d y.C x.en.length y.e) 47)
  have h3 : Blk ((w.alloc (.cells (dfaC f x.A n x.c x.B x.fo.length x.d x.C x.en.length x.e) 47)).alloc (.cells (dfaC f y.A n y.c y.B x.fo.length y.d y.C x.en.length y.e) 47)) (w.heap.size + 1) 47 (dfaC f y.A n y.c y.B x.fo.length y.d y.C x.en.length y.e) := Blk.new' _ _ _ (World.size_alloc _ _).symm
  have hB1 := below_alloc (below_alloc (Below.refl w.heap.size w) (.cells (dfaC f x.A n x.c x.B x.fo.length x.d x.C x.en.length x.e) 47)) (.cells (dfaC f y.A n y.c y.B x.fo.length y.d y.C x.en.length y.e) 47)
  go_upto_region 1 with (fail)
  obtain ⟨w1, hw1⟩ : ∃ ww, ww = ((w.alloc (.cells (dfaC f x.A n x.c x.B x.fo.length x.d x.C x.en.length x.e) 47)).alloc (.cells (dfaC f y.A n y.c y.B x.fo.length y.d y.C x.en.length y.e) 47)) := ⟨_, rfl⟩
  first | rw [← hw1] at h2 h3 hB1 ⊢ | (simp only [World.size_alloc]; rw [← hw1] at h2 h3 hB1 ⊢)
  clear hw1
  obtain ⟨g2, hg2⟩ : ∃ g, g = w.heap.size := ⟨_, rfl⟩
  obtain ⟨g3, hg3⟩ : ∃ g, g = w.heap.size + 1 := ⟨_, rfl⟩
  try rw [← hg3] at h3 ⊢
  try rw [← hg2] at h2 ⊢
  clear hg2 hg3
  replace hXF : ∀ {X : World}, Below w1.heap.size w1 X → SliceOf X X.heap.size 1 encR x.B x.fo := fun hB => hXF (below_then hB1 hB)
  replace hYF : ∀ {X : World}, Below w1.heap.size w1 X → SliceOf X X.heap.size 1 encR y.B x.fo := fun hB => hYF (below_then hB1 hB)
  replace hXE : ∀ {X : World}, Below w1.heap.size w1 X → SliceOf X X.heap.size 1 encR x.C x.en := fun hB => hXE (below_then hB1 hB)
  replace hYE : ∀ {X : World}, Below w1.heap.size w1 X → SliceOf X X.heap.size 1 encR y.C x.en := fun hB => hYE (below_then hB1 hB)
  refine wp_region_text 30 [eqS (.pointer (some ⟨g2, 0, none⟩)), eqS (.agg (clsC f)), eqS (.pointer (some ⟨g3, 0, none⟩)), eqS (.agg (clsC f)), eqS (.bool false), eqS (.bool false), eqS (vF (true && (false == false)) (.pointer (some ⟨g2, 256, none⟩))), eqS (vF (true && (false == false)) (.slice x.A n x.c)), eqS (vF (true && (false == false)) (.int .i64 (((n : Nat) : Int)))), eqS (vF (true && (false == false)) (.pointer (some ⟨g3, 256, none⟩))), eqS (vF (true && (false == false)) (.slice y.A n y.c)), eqS (vF (true && (false == false)) (.int .i64 (((n : Nat) : Int)))), eqS (vF (true && (false == false)) (.bool false)), eqS (.bool (false || false)), eqS (.bool (false || false)), eqS (vF (true && ((false || false) == false)) (.pointer (some ⟨g2, 257, none⟩))), eqS (vF (true && ((false || false) == false)) (.slice x.B x.fo.length x.d)), eqS (vF (true && ((false || false) == false)) (.pointer (some ⟨g3, 257, none⟩))), eqS (vF (true && ((false || false) == false)) (.slice y.B x.fo.length y.d)), eqS (vF (true && ((false || false) == false)) (.bool true)), eqS (vF (true && ((false || false) == false)) (.bool (!true))), eqS (.bool ((false || false) || (!true))), eqS (.bool ((false || false) || (!true))), eqS (vF (true && (((false || false) || (!true)) == false)) (.pointer (some ⟨g2, 258, none⟩))), eqS (vF (true && (((false || false) || (!true)) == false)) (.slice x.C x.en.length x.e)), eqS (vF (true && (((false || false) || (!true)) == false)) (.pointer (some ⟨g3, 258, none⟩))), eqS (vF (true && (((false || false) || (!true)) == false)) (.slice y.C x.en.length y.e)), eqS (vF (true && (((false || false) || (!true)) == false)) (.bool true)), eqS (vF (true && (((false || false) || (!true)) == false)) (.bool (!true))), eqS (.bool (((false || false) || (!true)) || (!true)))] [6, 7, 8, 9, 10, 11, 12, 13, 14, 15, 16, 17, 18, 19, 20, 21, 22, 23, 24, 25, 26, 27, 28, 29, 30, 31, 32, 33, 34, 35] (by kernel_rfl) rfl ?_ ?_
  · skip
    refine Steps.cons (fun a' w' hG hB dep => gs_field (want_none rfl) _ _ _ rfl g2 (0) (0) (hG.other 2 rfl) (fun wz => field_dfa_0 g2 (0) wz) rfl) ?_
    refine Steps.cons (fun a' w' hG hB dep => gs_load_clsr (want_none rfl) _ rfl g2 (dep 0 rfl 6 rfl) f (dfaC_cls _ _ _ _ _ _ _ _ _ _ (RowAt.of_blk (blk_then h2 hB))) rfl) ?_
    refine Steps.cons (fun a' w' hG hB dep => gs_field (want_none rfl) _ _ _ rfl g3 (0) (0) (hG.other 3 rfl) (fun wz => field_dfa_0 g3 (0) wz) rfl) ?_
    refine Steps.cons (fun a' w' hG hB dep => gs_load_clsr (want_none rfl) _ rfl g3 (dep 2 rfl 8 rfl) f (dfaC_cls _ _ _ _ _ _ _ _ _ _ (RowAt.of_blk (blk_then h3 hB))) rfl) ?_
    refine Steps.cons (fun a' w' hG hB dep => gs_neq_cls (want_none rfl) _ _ _ rfl f (dep 1 rfl 7 rfl) (dep 3 rfl 9 rfl) rfl) ?_
    refine Steps.cons (fun a' w' hG hB dep => gs_move (want_none rfl) _ rfl (id (dep 4 rfl 10 rfl))) ?_
    refine Steps.cons (fun a' w' hG hB dep => gs_guard (c := true) (b' := false) rfl rfl (dep 5 rfl 11 rfl) (fun hc he hw => gs_field hw _ _ _ rfl g2 (0) (256) (hG.other 2 rfl) (fun wz => field_dfa_1 g2 (0) wz) (vF_yes (on_g hc he) _).symm) (fun hn => vF_no hn _)) ?_
    refine Steps.cons (fun a' w' hG hB dep => gs_guard (c := true) (b' := false) rfl rfl (dep 5 rfl 11 rfl) (fun hc he hw => gs_load1 hw _ _ rfl g2 (256) (Eq.trans (dep 6 rfl 12 rfl) (vF_yes (on_g hc he) _)) (.slice x.A n x.c) (blk_d1 (blk_then h2 hB)) _ Try.underlying45 rfl (vF_yes (on_g hc he) _).symm) (fun hn => vF_no hn _)) ?_
    refine Steps.cons (fun a' w' hG hB dep => gs_guard (c := true) (b' := false) rfl rfl (dep 5 rfl 11 rfl) (fun hc he hw => gs_len hw _ _ rfl under_rows _ n x.c (Eq.trans (dep 7 rfl 13 rfl) (vF_yes (on_g hc he) _)) (vF_yes (on_g hc he) _).symm) (fun hn => vF_no hn _)) ?_
    refine Steps.cons (fun a' w' hG hB dep => gs_guard (c := true) (b' := false) rfl rfl (dep 5 rfl 11 rfl) (fun hc he hw => gs_field hw _ _ _ rfl g3 (0) (256) (hG.other 3 rfl) (fun wz => field_dfa_1 g3 (0) wz) (vF_yes (on_g hc he) _).symm) (fun hn => vF_no hn _)) ?_
    refine Steps.cons (fun a' w' hG hB dep => gs_guard (c := true) (b' := false) rfl rfl (dep 5 rfl 11 rfl) (fun hc he hw => gs_load1 hw _ _ rfl g3 (256) (Eq.trans (dep 9 rfl 15 rfl) (vF_yes (on_g hc he) _)) (.slice y.A n y.c) (blk_d1 (blk_then h3 hB)) _ Try.underlying45 rfl (vF_yes (on_g hc he) _).symm) (fun hn => vF_no hn _)) ?_
    refine Steps.cons (fun a' w' hG hB dep => gs_guard (c := true) (b' := false) rfl rfl (dep 5 rfl 11 rfl) (fun hc he hw => gs_len hw _ _ rfl under_rows _ n y.c (Eq.trans (dep 10 rfl 16 rfl) (vF_yes (on_g hc he) _)) (vF_yes (on_g hc he) _).symm) (fun hn => vF_no hn _)) ?_
    refine Steps.cons (fun a' w' hG hB dep => gs_guard (c := true) (b' := false) rfl rfl (dep 5 rfl 11 rfl) (fun hc he hw => gs_neq_int hw _ _ _ _ rfl _ _ _ (Eq.trans (dep 8 rfl 14 rfl) (vF_yes (on_g hc he) _)) (Eq.trans (dep 11 rfl 17 rfl) (vF_yes (on_g hc he) _)) (Eq.trans (congrArg Value.bool (bne_self_eq_false _)) (vF_yes (on_g hc he) _).symm)) (fun hn => vF_no hn _)) ?_
    refine Steps.cons (fun a' w' hG hB dep => gs_pick (want_none rfl) _ _ _ rfl false (dep 5 rfl 11 rfl) (id (pick_or2 (c := true) rfl (dep 12 rfl 18 rfl)))) ?_
    refine Steps.cons (fun a' w' hG hB dep => gs_move (want_none rfl) _ rfl (id (dep 13 rfl 19 rfl))) ?_
    refine Steps.cons (fun a' w' hG hB dep => gs_guard (c := true) (b' := (false || false)) rfl rfl (dep 14 rfl 20 rfl) (fun hc he hw => gs_field hw _ _ _ rfl g2 (0) (257) (hG.other 2 rfl) (fun wz => field_dfa_2 g2 (0) wz) (vF_yes (on_g hc he) _).symm) (fun hn => vF_no hn _)) ?_
    refine Steps.cons (fun a' w' hG hB dep => gs_guard (c := true) (b' := (false || false)) rfl rfl (dep 14 rfl 20 rfl) (fun hc he hw => gs_load1 hw _ _ rfl g2 (257) (Eq.trans (dep 15 rfl 21 rfl) (vF_yes (on_g hc he) _)) (.slice x.B x.fo.length x.d) (blk_d2 (blk_then h2 hB)) _ Try.underlying32 rfl (vF_yes (on_g hc he) _).symm) (fun hn => vF_no hn _)) ?_
    refine Steps.cons (fun a' w' hG hB dep => gs_guard (c := true) (b' := (false || false)) rfl rfl (dep 14 rfl 20 rfl) (fun hc he hw => gs_field hw _ _ _ rfl g3 (0) (257) (hG.other 3 rfl) (fun wz => field_dfa_2 g3 (0) wz) (vF_yes (on_g hc he) _).symm) (fun hn => vF_no hn _)) ?_
    refine Steps.cons (fun a' w' hG hB dep => gs_guard (c := true) (b' := (false || false)) rfl rfl (dep 14 rfl 20 rfl) (fun hc he hw => gs_load1 hw _ _ rfl g3 (257) (Eq.trans (dep 17 rfl 23 rfl) (vF_yes (on_g hc he) _)) (.slice y.B x.fo.length y.d) (blk_d2 (blk_then h3 hB)) _ Try.underlying32 rfl (vF_yes (on_g hc he) _).symm) (fun hn => vF_no hn _)) ?_
    refine Steps.cons (fun a' w' hG hB dep => gs_guard (c := true) (b' := (false || false)) rfl rfl (dep 14 rfl 20 rfl) (fun hc he hw => gs_call hw _ _ _ rfl enter_sameWords _ (map2 (Eq.trans (dep 16 rfl 22 rfl) (vF_yes (on_g hc he) _)) (Eq.trans (dep 18 rfl 24 rfl) (vF_yes (on_g hc he) _))) ((sameWords_any x.B y.B x.d y.d x.fo w' hfob (hXF hB) (hYF hB)).mono fun e w2 ⟨hq1, hb⟩ => ⟨_, hq1, hb, (vF_yes (on_g hc he) _).symm⟩)) (fun hn => vF_no hn _)) ?_
    refine Steps.cons (fun a' w' hG hB dep => gs_guard (c := true) (b' := (false || false)) rfl rfl (dep 14 rfl 20 rfl) (fun hc he hw => gs_not_bool hw _ _ rfl _ (Eq.trans (dep 19 rfl 25 rfl) (vF_yes (on_g hc he) _)) (vF_yes (on_g hc he) _).symm) (fun hn => vF_no hn _)) ?_
    refine Steps.cons (fun a' w' hG hB dep => gs_pick (want_none rfl) _ _ _ rfl (false || false) (dep 14 rfl 20 rfl) (id (pick_or2 (c := true) rfl (dep 20 rfl 26 rfl)))) ?_
    refine Steps.cons (fun a' w' hG hB dep => gs_move (want_none rfl) _ rfl (id (dep 21 rfl 27 rfl))) ?_
    refine Steps.cons (fun a' w' hG hB dep => gs_guard (c := true) (b' := ((false || false) || (!true))) rfl rfl (dep 22 rfl 28 rfl) (fun hc he hw => gs_field hw _ _ _ rfl g2 (0) (258) (hG.other 2 rfl) (fun wz => field_dfa_3 g2 (0) wz) (vF_yes (on_g hc he) _).symm) (fun hn => vF_no hn _)) ?_
    refine Steps.cons (fun a' w' hG hB dep => gs_guard (c := true) (b' := ((false || false) || (!true))) rfl rfl (dep 22 rfl 28 rfl) (fun hc he hw => gs_load1 hw _ _ rfl g2 (258) (Eq.trans (dep 23 rfl 29 rfl) (vF_yes (on_g hc he) _)) (.slice x.C x.en.length x.e) (blk_d3 (blk_then h2 hB)) _ Try.underlying32 rfl (vF_yes (on_g hc he) _).symm) (fun hn => vF_no hn _)) ?_
    refine Steps.cons (fun a' w' hG hB dep => gs_guard (c := true) (b' := ((false || false) || (!true))) rfl rfl (dep 22 rfl 28 rfl) (fun hc he hw => gs_field hw _ _ _ rfl g3 (0) (258) (hG.other 3 rfl) (fun wz => field_dfa_3 g3 (0) wz) (vF_yes (on_g hc he) _).symm) (fun hn => vF_no hn _)) ?_
    refine Steps.cons (fun a' w' hG hB dep => gs_guard (c := true) (b' := ((false || false) || (!true))) rfl rfl (dep 22 rfl 28 rfl) (fun hc he hw => gs_load1 hw _ _ rfl g3 (258) (Eq.trans (dep 25 rfl 31 rfl) (vF_yes (on_g hc he) _)) (.slice y.C x.en.length y.e) (blk_d3 (blk_then h3 hB)) _ Try.underlying32 rfl (vF_yes (on_g hc he) _).symm) (fun hn => vF_no hn _)) ?_
    refine Steps.cons (fun a' w' hG hB dep => gs_guard (c := true) (b' := ((false || false) || (!true))) rfl rfl (dep 22 rfl 28 rfl) (fun hc he hw => gs_call hw _ _ _ rfl enter_sameWords _ (map2 (Eq.trans (dep 24 rfl 30 rfl) (vF_yes (on_g hc he) _)) (Eq.trans (dep 26 rfl 32 rfl) (vF_yes (on_g hc he) _))) ((sameWords_any x.C y.C x.e y.e x.en w' henb (hXE hB) (hYE hB)).mono fun e w2 ⟨hq1, hb⟩ => ⟨_, hq1, hb, (vF_yes (on_g hc he) _).symm⟩)) (fun hn => vF_no hn _)) ?_
    refine Steps.cons (fun a' w' hG hB dep => gs_guard (c := true) (b' := ((false || false) || (!true))) rfl rfl (dep 22 rfl 28 rfl) (fun hc he hw => gs_not_bool hw _ _ rfl _ (Eq.trans (dep 27 rfl 33 rfl) (vF_yes (on_g hc he) _)) (vF_yes (on_g hc he) _).symm) (fun hn => vF_no hn _)) ?_
    refine Steps.cons (fun a' w' hG hB dep => gs_pick (want_none rfl) _ _ _ rfl ((false || false) || (!true)) (dep 22 rfl 28 rfl) (id (pick_or2 (c := true) rfl (dep 28 rfl 34 rfl)))) ?_
    exact Steps.nil
  intro u w2 hw2 ans
  have hus35 : u 35 = (.bool (((false || false) || (!true)) || (!true))) := ans 29 35 (by decide) rfl
  clear ans
  simp only [putAll, List.foldl_cons, List.foldl_nil, Act.put, List.setIfInBounds_toArray, List.set_cons_zero, List.set_cons_succ, hus35]
  clear hus35
  simp only [List.drop]
  refine wpList_nil ?_
  replace h2 := blk_then h2 hw2
  replace h3 := blk_then h3 hw2
  replace hB1 := below_then hB1 hw2
  clear hw2 hXF hYF hXE hYE
  rw [show (((false || false) || (!true)) || (!true)) = false from rfl]
  go_upto_region 4 with (fail)
  go_loopw [5] (fun iv wr => ∃ i : Nat, i ≤ n ∧ iv = .int .i64 i ∧ Below w.heap.size w wr ∧ Blk wr g2 47 (dfaC f x.A n x.c x.B x.fo.length x.d x.C x.en.length x.e) ∧ Blk wr g3 47 (dfaC f y.A n y.c y.B x.fo.length y.d y.C x.en.length y.e)) (fun iv _ => n - (intOf iv).toNat)
  case atStart => exact ⟨0, by omega, rfl, hB1, h2, h3⟩
  case round =>
    clear h2 h3 hB1
    obtain ⟨i, hi, rfl, hB1, h2, h3⟩ := hrel
    by_cases hil : i < n
    · have hiI : (i : Int) < n := by omega
      have hix : i < x.rs.length := by rw [hn.out]; exact hil
      have hiy : i < y.rs.length := by rw [← hnl.out]; exact hix
      obtain ⟨bX, oX, hXA, hbX, cX⟩ := hX.rowAt hix
      obtain ⟨bY, oY, hYA, hbY, cY⟩ := hY.rowAt hiy
      have hlb := hX.rb _ (List.getElem_mem hix)
      have hP0 := hX.row _ (List.getElem_mem hix)
      have hQ0 := hY.row _ (List.getElem_mem hiy)
      have hle := hrow.out i hix hiy
      rw [hle] at cY hQ0
      obtain ⟨p, hp⟩ : ∃ p, x.rs[i] = p := ⟨_, rfl⟩
      obtain ⟨q, hq⟩ : ∃ q, y.rs[i] = q := ⟨_, rfl⟩
      rw [hp] at cX hP0 cY hQ0 hlb
      rw [hq] at cY hQ0
      obtain ⟨l, hl⟩ : ∃ l, p.l = l := ⟨_, rfl⟩
      rw [hl] at cX hP0 cY hQ0 hlb
      have cP : ∀ {X : World}, Below wr.heap.size wr X → X.cell? ⟨bX, oX + i * 1, none⟩ = some (.slice p.a l.length p.c) := fun hB => cell_keep cX hbX (below_then hB1 hB)
      have cQ : ∀ {X : World}, Below wr.heap.size wr X → X.cell? ⟨bY, oY + i * 1, none⟩ = some (.slice q.a l.length q.c) := fun hB => cell_keep cY hbY (below_then hB1 hB)
      have hP : ∀ {X : World}, Below wr.heap.size wr X → SliceOf X X.heap.size 1 encZ p.a l := fun hB => (hP0.below (below_then hB1 hB)).more (below_then hB1 hB).size
      have hQ : ∀ {X : World}, Below wr.heap.size wr X → SliceOf X X.heap.size 1 encZ q.a l := fun hB => (hQ0.below (below_then hB1 hB)).more (below_then hB1 hB).size
      clear hle hp hq hl cX cY hP0 hQ0
      replace hXA := hXA
      have cN : wr.cell? ⟨g2, 256, none⟩ = some (.slice x.A n x.c) := blk_d1 h2
      go_upto_region 6 with (fail)
      clear cN
      refine wp_region_steps 12 [eqS (.pointer (some ⟨g2, 256, none⟩)), eqS (.slice (some ⟨bX, oX, none⟩) n x.c), eqS (.int .i64 (((i : Nat) : Int))), eqS (.pointer (some ⟨bX, oX + i * 1, none⟩)), eqS (.slice p.a l.length p.c), eqS (.pointer (some ⟨g3, 256, none⟩)), eqS (.slice (some ⟨bY, oY, none⟩) n y.c), eqS (.int .i64 (((i : Nat) : Int))), eqS (.pointer (some ⟨bY, oY + i * 1, none⟩)), eqS (.slice q.a l.length q.c), eqS (.bool true), eqS (.bool (!true))] [43, 44, 45, 46, 47, 48, 49, 50, 51, 52, 53, 54] rfl (by kernel_rfl) rfl ?_ ?_
      · skip
        refine Steps.cons (fun a' w' hG hB dep => gs_field (want_none rfl) _ _ _ rfl g2 (0) (256) (hG.other 2 rfl) (fun wz => field_dfa_1 g2 (0) wz) rfl) ?_
        refine Steps.cons (fun a' w' hG hB dep => gs_load1 (want_none rfl) _ _ rfl g2 (256) (dep 0 rfl 43 rfl) (.slice (some ⟨bX, oX, none⟩) n x.c) (by have h9 := blk_d1 (blk_then h2 hB); rw [hXA] at h9; exact h9) _ Try.underlying45 rfl rfl) ?_
        refine Steps.cons (fun a' w' hG hB dep => gs_move (want_none rfl) _ rfl (id (hG.other 5 rfl))) ?_
        refine Steps.cons (fun a' w' hG hB dep => gs_index (want_none rfl) _ _ _ rfl under_rows 1 size_rowE bX oX n x.c (i) (dep 1 rfl 44 rfl) (dep 2 rfl 45 rfl) hil rfl) ?_
        refine Steps.cons (fun a' w' hG hB dep => gs_load1 (want_none rfl) _ _ rfl bX (oX + i * 1) (dep 3 rfl 46 rfl) (.slice p.a l.length p.c) (cP hB) _ Try.underlying57 rfl rfl) ?_
        refine Steps.cons (fun a' w' hG hB dep => gs_field (want_none rfl) _ _ _ rfl g3 (0) (256) (hG.other 3 rfl) (fun wz => field_dfa_1 g3 (0) wz) rfl) ?_
        refine Steps.cons (fun a' w' hG hB dep => gs_load1 (want_none rfl) _ _ rfl g3 (256) (dep 5 rfl 48 rfl) (.slice (some ⟨bY, oY, none⟩) n y.c) (by have h9 := blk_d1 (blk_then h3 hB); rw [hYA] at h9; exact h9) _ Try.underlying45 rfl rfl) ?_
        refine Steps.cons (fun a' w' hG hB dep => gs_move (want_none rfl) _ rfl (id (hG.other 5 rfl))) ?_
        refine Steps.cons (fun a' w' hG hB dep => gs_index (want_none rfl) _ _ _ rfl under_rows 1 size_rowE bY oY n y.c (i) (dep 6 rfl 49 rfl) (dep 7 rfl 50 rfl) hil rfl) ?_
        refine Steps.cons (fun a' w' hG hB dep => gs_load1 (want_none rfl) _ _ rfl bY (oY + i * 1) (dep 8 rfl 51 rfl) (.slice q.a l.length q.c) (cQ hB) _ Try.underlying57 rfl rfl) ?_
        refine Steps.cons (fun a' w' hG hB dep => gs_call (want_none rfl) _ _ _ rfl enter_sameRow _ (map2 (dep 4 rfl 47 rfl) (dep 9 rfl 52 rfl)) ((sameRow_any p.a q.a p.c q.c l w' hlb (hP hB) (hQ hB)).mono fun e w2 ⟨hq1, hb⟩ => ⟨_, hq1, hb, rfl⟩)) ?_
        refine Steps.cons (fun a' w' hG hB dep => gs_not_bool (want_none rfl) _ _ rfl _ (dep 10 rfl 53 rfl) rfl) ?_
        exact Steps.nil
      intro u w3 hw3 ans
      have hus54 : u 54 = (.bool (!true)) := ans 11 54 (by decide) rfl
      clear ans
      simp only [putAll, List.foldl_cons, List.foldl_nil, Act.put, List.setIfInBounds_toArray, List.set_cons_zero, List.set_cons_succ, hus54]
      clear hus54
      simp only [List.drop]
      refine wpList_nil ?_
      replace h2 := blk_then h2 hw3
      replace h3 := blk_then h3 hw3
      replace hB1 := below_then hB1 hw3
      clear hw3 cP cQ hP hQ hXA hYA
      rw [show (!true) = false from rfl]
      go_wp2_with (fail)
      exact ⟨⟨i + 1, by omega, rfl, hB1, h2, h3⟩, by simp only [intOf]; omega⟩
    · have hiI : ¬ (i : Int) < n := by omega
      have cN : wr.cell? ⟨g2, 256, none⟩ = some (.slice x.A n x.c) := blk_d1 h2
      go_wp2_with (fail)
      go_ret
      exact ⟨rfl, hB1⟩
theorem enter_same (args : Array Value) (w : World) : (callFunc 23 args).run Try.prog w = .ok (.enter 23 args) w := by kernel_rfl
end Go.Proofs.Ytgahdookojbbiaa
