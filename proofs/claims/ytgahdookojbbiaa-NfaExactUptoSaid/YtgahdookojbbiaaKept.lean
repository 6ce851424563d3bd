/- heronlaw07.kept. No condition beyond those named in each lemma. -/
import Derived.Test.YtgahdookojbbiaaCopy
namespace Go.Proofs.Ytgahdookojbbiaa
open Go.RowKit Go.Maps
set_option linter.unusedVariables false
set_option linter.unusedSimpArgs false
attribute [local go_sem] Oper.semAt_some

theorem gs_load_nfa {ops : Array Oper} {S : Nat → GSpec} {Q : Exit → Act → World → Prop} {i : Nat} {o : Oper} {a : Act} {w : World} (hw : Region.wanted o (yielded ops a.tmps) = true) (x : Operand) (ho : o.op = .load 34 x) (g : Nat) (hx : a.eval x = .pointer (some ⟨g, 0, none⟩)) (s : Int) (A : Option Addr) (n c : Nat) (B : Option Addr) (m d : Nat) (hg : Blk w g 34 (nfaC s A n c B m d))
    (hp : (S i).p (.agg (nfaC s A n c B m d)) w) : GStep Try.prog ops S Q i o a w :=
  gs_load hw _ x ho g hx _ _ hg _ Try.underlying34 rfl (info_nfaN.trans rfl) hp
theorem gs_add_nat {P : Program} {ops : Array Oper} {S : Nat → GSpec} {Q : Exit → Act → World → Prop} {i : Nat} {o : Oper} {a : Act} {w : World} (hw : Region.wanted o (yielded ops a.tmps) = true) (t t2 : TypeId) (x y : Operand) (ho : o.op = .binOp .add t x y t2) (p q r : Nat) (hx : a.eval x = .int .i64 p) (hy : a.eval y = .int .i64 q) (hr : p + q = r) (hr64 : r < 9223372036854775808)
    (hp : (S i).p (.int .i64 (r : Nat)) w) : GStep P ops S Q i o a w :=
  gs_bin hw _ _ _ x y ho _ _ _ hx hy (by rw [eqGuard_at_int]; rfl) (by
    have e : (p : Int) + q = r := by omega
    have e2 : IntKind.i64.wrap (r : Int) = r := by rw [IntKind.wrap_i64]; omega
    rw [binOp_add]
    simp [Op.intArith, e, e2]) hp
theorem enter_same (args : Array Value) (w : World) : (callFunc 12 args).run Try.prog w = .ok (.enter 12 args) w := by kernel_rfl
set_option maxRecDepth 100000 in
set_option maxHeartbeats 8000000 in
theorem kept_any (s : Int) (A : Option Addr) (n c : Nat) (B : Option Addr) (m d ge ce gu cu : Nat) (E : List Edg) (R : List Nat) (hn : n = E.length) (hm : m = R.length) (hE : E.length ≤ 1048576) (hRl : R.length ≤ 1048576) (hce : n + 1 ≤ ce) (hcu : m + 1 ≤ cu) (w : World)
    (hsE : SliceOf w w.heap.size 7 edgC A E) (hsR : SliceOf w w.heap.size 1 encR B R) (hxE : SliceOf w w.heap.size 7 edgC (some ⟨ge, 0, none⟩) (E ++ [edge77])) (hxR : SliceOf w w.heap.size 1 encR (some ⟨gu, 0, none⟩) (R ++ [77])) :
    Calls Try.prog 18 #[.agg (nfaC s (some ⟨ge, 0, none⟩) n ce (some ⟨gu, 0, none⟩) m cu), .agg (nfaC s A n c B m d)] w fun e w' => e = .returned (.bool true) ∧ Below w.heap.size w w' := by
  have hn2 : n ≤ 1048576 := by omega
  have hm2 : m ≤ 1048576 := by omega
  go_enter Try.func18, Try.ntmps18
  have h2 := (Blk.new w 34 (nfaC s (some ⟨ge, 0, none⟩) n ce (some ⟨gu, 0, none⟩) m cu)).alloc (.cells (nfaC s A n c B m d) 34)
  have h3 : Blk ((w.alloc (.cells (nfaC s (some ⟨ge, 0, none⟩) n ce (some ⟨gu, 0, none⟩) m cu) 34)).alloc (.cells (nfaC s A n c B m d) 34)) (w.heap.size + 1) 34 (nfaC s A n c B m d) := Blk.new' _ _ _ (by simp)
  have hB1 := below_alloc (below_alloc (Below.refl w.heap.size w) (.cells (nfaC s (some ⟨ge, 0, none⟩) n ce (some ⟨gu, 0, none⟩) m cu) 34)) (.cells (nfaC s A n c B m d) 34)
  have Hn := Lib.hid hn
  have Hm := Lib.hid hm
  clear hn hm
  go_upto_region 1 with (fail)
  obtain ⟨w1, hw1⟩ : ∃ y, y = (w.alloc (.cells (nfaC s (some ⟨ge, 0, none⟩) n ce (some ⟨gu, 0, none⟩) m cu) 34)).alloc (.cells (nfaC s A n c B m d) 34) := ⟨_, rfl⟩
  rw [← hw1] at h2 h3 hB1 ⊢
  clear hw1
  have hsame : ∀ W : World, Below w1.heap.size w1 W → Calls Try.prog 12 #[.agg (nfaC s (some ⟨ge, 0, none⟩) n ce (some ⟨gu, 0, none⟩) m cu), .agg (nfaC s A n c B m d)] W fun e w' => e = .returned (.bool true) ∧ Below W.heap.size W w' := fun W hb => by
    have hbb := below_then hB1 hb
    have t1 := ((hxE.below hbb).more hbb.size).take E.length
    have t2 := ((hxR.below hbb).more hbb.size).take R.length
    rw [List.take_left' rfl] at t1 t2
    exact same_any s _ A n ce c _ B m cu d E R Hn.out Hm.out (by omega) (by omega) W t1 ((hsE.below hbb).more hbb.size) t2 ((hsR.below hbb).more hbb.size)
  have hl1 : ∀ W : World, Below w1.heap.size w1 W → W.cell? ⟨ge, 0 + n * 7, none⟩ = some (.int .i64 77) := fun W hb => by
    have hbb := below_then hB1 hb
    obtain ⟨b, off, e1, hb2, hr⟩ := (hxE.below hbb).at_ (by simp)
    injection e1 with e1
    injection e1 with e1 e2
    subst e1 e2
    have h := (hr n (by rw [List.length_append, Hn.out]; simp)).kd
    refine h.trans ?_
    have : (E ++ [edge77])[n]'(by rw [List.length_append, Hn.out]; simp) = edge77 := by
      rw [List.getElem_append_right (by rw [Hn.out]; exact Nat.le_refl _)]
      simp
    rw [this]
    rfl
  have hl2 : ∀ W : World, Below w1.heap.size w1 W → W.cell? ⟨gu, 0 + m * 1, none⟩ = some (.int .u32 77) := fun W hb => by
    have hbb := below_then hB1 hb
    obtain ⟨b, off, e1, hb2, hr⟩ := (hxR.below hbb).at_ (by simp)
    injection e1 with e1
    injection e1 with e1 e2
    subst e1 e2
    have h := (hr m (by rw [List.length_append, Hm.out]; simp)) 0 _ rfl
    refine h.trans ?_
    have : (R ++ [77])[m]'(by rw [List.length_append, Hm.out]; simp) = 77 := by
      rw [List.getElem_append_right (by rw [Hm.out]; exact Nat.le_refl _)]
      simp
    rw [this]
    rfl
  refine wp_region_steps 35 [eqS (.agg (nfaC s (some ⟨ge, 0, none⟩) n ce (some ⟨gu, 0, none⟩) m cu)), eqS (.agg (nfaC s A n c B m d)), eqS (.bool true), eqS (.bool true), eqS (vF (true && (true == true)) (.pointer (some ⟨w.heap.size, 1, none⟩))), eqS (vF (true && (true == true)) (.slice (some ⟨ge, 0, none⟩) n ce)), eqS (vF (true && (true == true)) (.pointer (some ⟨(w.heap.size + 1), 1, none⟩))), eqS (vF (true && (true == true)) (.slice A n c)), eqS (vF (true && (true == true)) (.int .i64 (((n : Nat) : Int)))), eqS (vF (true && (true == true)) (.int .i64 (((n + 1 : Nat) : Int)))), eqS (vF (true && (true == true)) (.slice (some ⟨ge, 0, none⟩) (n + 1) ce)), eqS (vF (true && (true == true)) (.pointer (some ⟨(w.heap.size + 1), 1, none⟩))), eqS (vF (true && (true == true)) (.slice A n c)), eqS (vF (true && (true == true)) (.int .i64 (((n : Nat) : Int)))), eqS (vF (true && (true == true)) (.pointer (some ⟨ge, 0 + n * 7, none⟩))), eqS (vF (true && (true == true)) (.pointer (some ⟨ge, 0 + n * 7, none⟩))), eqS (vF (true && (true == true)) (.int .i64 (77))), eqS (vF (true && (true == true)) (.bool true)), eqS (.bool (true && true)), eqS (.bool (true && true)), eqS (vF (true && ((true && true) == true)) (.pointer (some ⟨w.heap.size, 2, none⟩))), eqS (vF (true && ((true && true) == true)) (.slice (some ⟨gu, 0, none⟩) m cu)), eqS (vF (true && ((true && true) == true)) (.pointer (some ⟨(w.heap.size + 1), 2, none⟩))), eqS (vF (true && ((true && true) == true)) (.slice B m d)), eqS (vF (true && ((true && true) == true)) (.int .i64 (((m : Nat) : Int)))), eqS (vF (true && ((true && true) == true)) (.int .i64 (((m + 1 : Nat) : Int)))), eqS (vF (true && ((true && true) == true)) (.slice (some ⟨gu, 0, none⟩) (m + 1) cu)), eqS (vF (true && ((true && true) == true)) (.pointer (some ⟨(w.heap.size + 1), 2, none⟩))), eqS (vF (true && ((true && true) == true)) (.slice B m d)), eqS (vF (true && ((true && true) == true)) (.int .i64 (((m : Nat) : Int)))), eqS (vF (true && ((true && true) == true)) (.pointer (some ⟨gu, 0 + m * 1, none⟩))), eqS (vF (true && ((true && true) == true)) (.int .u32 (77))), eqS (vF (true && ((true && true) == true)) (.bool true)), eqS (.bool ((true && true) && true)), eqS (.bool ((true && true) && true))] [5, 6, 7, 8, 9, 10, 11, 12, 13, 14, 15, 16, 17, 18, 19, 20, 21, 22, 23, 24, 25, 26, 27, 28, 29, 30, 31, 32, 33, 34, 35, 36, 37, 38, 4] rfl (by kernel_rfl) rfl ?_ ?_
  · skip
    refine Steps.cons (fun a' w' hG hB dep => gs_load_nfa (want_none rfl) _ rfl w.heap.size (hG.other 2 rfl) _ _ _ _ _ _ _ (blk_then h2 hB) rfl) ?_
    refine Steps.cons (fun a' w' hG hB dep => gs_load_nfa (want_none rfl) _ rfl (w.heap.size + 1) (hG.other 3 rfl) _ _ _ _ _ _ _ (blk_then h3 hB) rfl) ?_
    refine Steps.cons (fun a' w' hG hB dep => gs_call (want_none rfl) _ _ _ rfl enter_same _ (map2 (dep 0 rfl 5 rfl) (dep 1 rfl 6 rfl)) ((hsame w' hB).mono fun e w2 ⟨he, hb⟩ => ⟨_, he, hb, rfl⟩)) ?_
    refine Steps.cons (fun a' w' hG hB dep => gs_move (want_none rfl) _ rfl (id (dep 2 rfl 7 rfl))) ?_
    refine Steps.cons (fun a' w' hG hB dep => gs_guard (c := true) (b' := true) rfl rfl (dep 3 rfl 8 rfl) (fun hc he hw => gs_field hw _ _ _ rfl w.heap.size (0) (1) (hG.other 2 rfl) (fun wz => field_nfa_1 w.heap.size (0) wz) (vF_yes (on_g hc he) _).symm) (fun hn => vF_no hn _)) ?_
    refine Steps.cons (fun a' w' hG hB dep => gs_guard (c := true) (b' := true) rfl rfl (dep 3 rfl 8 rfl) (fun hc he hw => gs_load1 hw _ _ rfl w.heap.size (1) (Eq.trans (dep 4 rfl 9 rfl) (vF_yes (on_g hc he) _)) (.slice (some ⟨ge, 0, none⟩) n ce) ((blk_then h2 hB).cellv (i := 1) rfl) _ Try.underlying31 rfl (vF_yes (on_g hc he) _).symm) (fun hn => vF_no hn _)) ?_
    refine Steps.cons (fun a' w' hG hB dep => gs_guard (c := true) (b' := true) rfl rfl (dep 3 rfl 8 rfl) (fun hc he hw => gs_field hw _ _ _ rfl (w.heap.size + 1) (0) (1) (hG.other 3 rfl) (fun wz => field_nfa_1 (w.heap.size + 1) (0) wz) (vF_yes (on_g hc he) _).symm) (fun hn => vF_no hn _)) ?_
    refine Steps.cons (fun a' w' hG hB dep => gs_guard (c := true) (b' := true) rfl rfl (dep 3 rfl 8 rfl) (fun hc he hw => gs_load1 hw _ _ rfl (w.heap.size + 1) (1) (Eq.trans (dep 6 rfl 11 rfl) (vF_yes (on_g hc he) _)) (.slice A n c) ((blk_then h3 hB).cellv (i := 1) rfl) _ Try.underlying31 rfl (vF_yes (on_g hc he) _).symm) (fun hn => vF_no hn _)) ?_
    refine Steps.cons (fun a' w' hG hB dep => gs_guard (c := true) (b' := true) rfl rfl (dep 3 rfl 8 rfl) (fun hc he hw => gs_len hw _ _ rfl under_edges _ n c (Eq.trans (dep 7 rfl 12 rfl) (vF_yes (on_g hc he) _)) (vF_yes (on_g hc he) _).symm) (fun hn => vF_no hn _)) ?_
    refine Steps.cons (fun a' w' hG hB dep => gs_guard (c := true) (b' := true) rfl rfl (dep 3 rfl 8 rfl) (fun hc he hw => gs_add_nat hw _ _ _ _ rfl n 1 (n + 1) (Eq.trans (dep 8 rfl 13 rfl) (vF_yes (on_g hc he) _)) rfl (by omega) (by omega) (vF_yes (on_g hc he) _).symm) (fun hn => vF_no hn _)) ?_
    refine Steps.cons (fun a' w' hG hB dep => gs_guard (c := true) (b' := true) rfl rfl (dep 3 rfl 8 rfl) (fun hc he hw => gs_slice_to hw _ _ _ rfl under_edges 7 size_edgeE ⟨ge, 0, none⟩ n ce (n + 1) (Eq.trans (dep 5 rfl 10 rfl) (vF_yes (on_g hc he) _)) (Eq.trans (dep 9 rfl 14 rfl) (vF_yes (on_g hc he) _)) hce (vF_yes (on_g hc he) _).symm) (fun hn => vF_no hn _)) ?_
    refine Steps.cons (fun a' w' hG hB dep => gs_guard (c := true) (b' := true) rfl rfl (dep 3 rfl 8 rfl) (fun hc he hw => gs_field hw _ _ _ rfl (w.heap.size + 1) (0) (1) (hG.other 3 rfl) (fun wz => field_nfa_1 (w.heap.size + 1) (0) wz) (vF_yes (on_g hc he) _).symm) (fun hn => vF_no hn _)) ?_
    refine Steps.cons (fun a' w' hG hB dep => gs_guard (c := true) (b' := true) rfl rfl (dep 3 rfl 8 rfl) (fun hc he hw => gs_load1 hw _ _ rfl (w.heap.size + 1) (1) (Eq.trans (dep 11 rfl 16 rfl) (vF_yes (on_g hc he) _)) (.slice A n c) ((blk_then h3 hB).cellv (i := 1) rfl) _ Try.underlying31 rfl (vF_yes (on_g hc he) _).symm) (fun hn => vF_no hn _)) ?_
    refine Steps.cons (fun a' w' hG hB dep => gs_guard (c := true) (b' := true) rfl rfl (dep 3 rfl 8 rfl) (fun hc he hw => gs_len hw _ _ rfl under_edges _ n c (Eq.trans (dep 12 rfl 17 rfl) (vF_yes (on_g hc he) _)) (vF_yes (on_g hc he) _).symm) (fun hn => vF_no hn _)) ?_
    refine Steps.cons (fun a' w' hG hB dep => gs_guard (c := true) (b' := true) rfl rfl (dep 3 rfl 8 rfl) (fun hc he hw => gs_index hw _ _ _ rfl under_edges 7 size_edgeE ge 0 (n + 1) ce (n) (Eq.trans (dep 10 rfl 15 rfl) (vF_yes (on_g hc he) _)) (Eq.trans (dep 13 rfl 18 rfl) (vF_yes (on_g hc he) _)) (Nat.lt_succ_self _) (vF_yes (on_g hc he) _).symm) (fun hn => vF_no hn _)) ?_
    refine Steps.cons (fun a' w' hG hB dep => gs_guard (c := true) (b' := true) rfl rfl (dep 3 rfl 8 rfl) (fun hc he hw => gs_field hw _ _ _ rfl ge (0 + n * 7) (0 + n * 7) (Eq.trans (dep 14 rfl 19 rfl) (vF_yes (on_g hc he) _)) (fun wz => field_edge_0 ge (0 + n * 7) wz) (vF_yes (on_g hc he) _).symm) (fun hn => vF_no hn _)) ?_
    refine Steps.cons (fun a' w' hG hB dep => gs_guard (c := true) (b' := true) rfl rfl (dep 3 rfl 8 rfl) (fun hc he hw => gs_load1 hw _ _ rfl ge (0 + n * 7) (Eq.trans (dep 15 rfl 20 rfl) (vF_yes (on_g hc he) _)) (.int .i64 (77)) (hl1 w' hB) _ Try.underlying3 rfl (vF_yes (on_g hc he) _).symm) (fun hn => vF_no hn _)) ?_
    refine Steps.cons (fun a' w' hG hB dep => gs_guard (c := true) (b' := true) rfl rfl (dep 3 rfl 8 rfl) (fun hc he hw => gs_eql_int hw _ _ _ _ rfl _ _ _ (Eq.trans (dep 16 rfl 21 rfl) (vF_yes (on_g hc he) _)) rfl (Eq.trans (congrArg Value.bool rfl) (vF_yes (on_g hc he) _).symm)) (fun hn => vF_no hn _)) ?_
    refine Steps.cons (fun a' w' hG hB dep => gs_pick (want_none rfl) _ _ _ rfl true (dep 3 rfl 8 rfl) (id (pick_and2 (c := true) rfl (dep 17 rfl 22 rfl)))) ?_
    refine Steps.cons (fun a' w' hG hB dep => gs_move (want_none rfl) _ rfl (id (dep 18 rfl 23 rfl))) ?_
    refine Steps.cons (fun a' w' hG hB dep => gs_guard (c := true) (b' := (true && true)) rfl rfl (dep 19 rfl 24 rfl) (fun hc he hw => gs_field hw _ _ _ rfl w.heap.size (0) (2) (hG.other 2 rfl) (fun wz => field_nfa_2 w.heap.size (0) wz) (vF_yes (on_g hc he) _).symm) (fun hn => vF_no hn _)) ?_
    refine Steps.cons (fun a' w' hG hB dep => gs_guard (c := true) (b' := (true && true)) rfl rfl (dep 19 rfl 24 rfl) (fun hc he hw => gs_load1 hw _ _ rfl w.heap.size (2) (Eq.trans (dep 20 rfl 25 rfl) (vF_yes (on_g hc he) _)) (.slice (some ⟨gu, 0, none⟩) m cu) ((blk_then h2 hB).cellv (i := 2) rfl) _ Try.underlying32 rfl (vF_yes (on_g hc he) _).symm) (fun hn => vF_no hn _)) ?_
    refine Steps.cons (fun a' w' hG hB dep => gs_guard (c := true) (b' := (true && true)) rfl rfl (dep 19 rfl 24 rfl) (fun hc he hw => gs_field hw _ _ _ rfl (w.heap.size + 1) (0) (2) (hG.other 3 rfl) (fun wz => field_nfa_2 (w.heap.size + 1) (0) wz) (vF_yes (on_g hc he) _).symm) (fun hn => vF_no hn _)) ?_
    refine Steps.cons (fun a' w' hG hB dep => gs_guard (c := true) (b' := (true && true)) rfl rfl (dep 19 rfl 24 rfl) (fun hc he hw => gs_load1 hw _ _ rfl (w.heap.size + 1) (2) (Eq.trans (dep 22 rfl 27 rfl) (vF_yes (on_g hc he) _)) (.slice B m d) ((blk_then h3 hB).cellv (i := 2) rfl) _ Try.underlying32 rfl (vF_yes (on_g hc he) _).symm) (fun hn => vF_no hn _)) ?_
    refine Steps.cons (fun a' w' hG hB dep => gs_guard (c := true) (b' := (true && true)) rfl rfl (dep 19 rfl 24 rfl) (fun hc he hw => gs_len hw _ _ rfl under_rules _ m d (Eq.trans (dep 23 rfl 28 rfl) (vF_yes (on_g hc he) _)) (vF_yes (on_g hc he) _).symm) (fun hn => vF_no hn _)) ?_
    refine Steps.cons (fun a' w' hG hB dep => gs_guard (c := true) (b' := (true && true)) rfl rfl (dep 19 rfl 24 rfl) (fun hc he hw => gs_add_nat hw _ _ _ _ rfl m 1 (m + 1) (Eq.trans (dep 24 rfl 29 rfl) (vF_yes (on_g hc he) _)) rfl (by omega) (by omega) (vF_yes (on_g hc he) _).symm) (fun hn => vF_no hn _)) ?_
    refine Steps.cons (fun a' w' hG hB dep => gs_guard (c := true) (b' := (true && true)) rfl rfl (dep 19 rfl 24 rfl) (fun hc he hw => gs_slice_to hw _ _ _ rfl under_rules 1 size_ruleE ⟨gu, 0, none⟩ m cu (m + 1) (Eq.trans (dep 21 rfl 26 rfl) (vF_yes (on_g hc he) _)) (Eq.trans (dep 25 rfl 30 rfl) (vF_yes (on_g hc he) _)) hcu (vF_yes (on_g hc he) _).symm) (fun hn => vF_no hn _)) ?_
    refine Steps.cons (fun a' w' hG hB dep => gs_guard (c := true) (b' := (true && true)) rfl rfl (dep 19 rfl 24 rfl) (fun hc he hw => gs_field hw _ _ _ rfl (w.heap.size + 1) (0) (2) (hG.other 3 rfl) (fun wz => field_nfa_2 (w.heap.size + 1) (0) wz) (vF_yes (on_g hc he) _).symm) (fun hn => vF_no hn _)) ?_
    refine Steps.cons (fun a' w' hG hB dep => gs_guard (c := true) (b' := (true && true)) rfl rfl (dep 19 rfl 24 rfl) (fun hc he hw => gs_load1 hw _ _ rfl (w.heap.size + 1) (2) (Eq.trans (dep 27 rfl 32 rfl) (vF_yes (on_g hc he) _)) (.slice B m d) ((blk_then h3 hB).cellv (i := 2) rfl) _ Try.underlying32 rfl (vF_yes (on_g hc he) _).symm) (fun hn => vF_no hn _)) ?_
    refine Steps.cons (fun a' w' hG hB dep => gs_guard (c := true) (b' := (true && true)) rfl rfl (dep 19 rfl 24 rfl) (fun hc he hw => gs_len hw _ _ rfl under_rules _ m d (Eq.trans (dep 28 rfl 33 rfl) (vF_yes (on_g hc he) _)) (vF_yes (on_g hc he) _).symm) (fun hn => vF_no hn _)) ?_
    refine Steps.cons (fun a' w' hG hB dep => gs_guard (c := true) (b' := (true && true)) rfl rfl (dep 19 rfl 24 rfl) (fun hc he hw => gs_index hw _ _ _ rfl under_rules 1 size_ruleE gu 0 (m + 1) cu (m) (Eq.trans (dep 26 rfl 31 rfl) (vF_yes (on_g hc he) _)) (Eq.trans (dep 29 rfl 34 rfl) (vF_yes (on_g hc he) _)) (Nat.lt_succ_self _) (vF_yes (on_g hc he) _).symm) (fun hn => vF_no hn _)) ?_
    refine Steps.cons (fun a' w' hG hB dep => gs_guard (c := true) (b' := (true && true)) rfl rfl (dep 19 rfl 24 rfl) (fun hc he hw => gs_load1 hw _ _ rfl gu (0 + m * 1) (Eq.trans (dep 30 rfl 35 rfl) (vF_yes (on_g hc he) _)) (.int .u32 (77)) (hl2 w' hB) _ Try.underlying55 rfl (vF_yes (on_g hc he) _).symm) (fun hn => vF_no hn _)) ?_
    refine Steps.cons (fun a' w' hG hB dep => gs_guard (c := true) (b' := (true && true)) rfl rfl (dep 19 rfl 24 rfl) (fun hc he hw => gs_eql_int hw _ _ _ _ rfl _ _ _ (Eq.trans (dep 31 rfl 36 rfl) (vF_yes (on_g hc he) _)) rfl (Eq.trans (congrArg Value.bool rfl) (vF_yes (on_g hc he) _).symm)) (fun hn => vF_no hn _)) ?_
    refine Steps.cons (fun a' w' hG hB dep => gs_pick (want_none rfl) _ _ _ rfl (true && true) (dep 19 rfl 24 rfl) (id (pick_and2 (c := true) rfl (dep 32 rfl 37 rfl)))) ?_
    refine Steps.cons (fun a' w' hG hB dep => gs_assign (want_none rfl) _ rfl (id (dep 33 rfl 38 rfl))) ?_
    exact Steps.nil
  intro u w5 hB5 ans
  have hus : u 4 = .bool true := ans 34 4 (by decide) rfl
  clear ans
  simp only [putAll, List.foldl_cons, List.foldl_nil, Act.put, List.setIfInBounds_toArray, List.set_cons_zero, List.set_cons_succ, hus]
  clear hus hl1 hl2 hsame
  simp only [List.drop]
  refine wpList_nil ?_
  have hBe := below_then hB1 hB5
  clear hB5
  go_wp2_with (fail)
  go_ret
  exact ⟨rfl, hBe⟩
end Go.Proofs.Ytgahdookojbbiaa
