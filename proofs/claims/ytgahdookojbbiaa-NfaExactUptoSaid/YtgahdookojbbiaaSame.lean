/- heronref07.Same of like machines. No condition beyond those named in each lemma. -/
import Derived.Test.YtgahdookojbbiaaRight
namespace Go.Proofs.Ytgahdookojbbiaa
open Go.RowKit Go.Maps
set_option linter.unusedVariables false
set_option linter.unusedSimpArgs false
attribute [local go_sem] Oper.semAt_some

theorem gs_neq_edge {ops : Array Oper} {S : Nat → GSpec} {Q : Exit → Act → World → Prop} {i : Nat} {o : Oper} {a : Act} {w : World} (hw : Region.wanted o (yielded ops a.tmps) = true) (x y : Operand) (t2 : TypeId) (ho : o.op = .binOp .neq 69 x y t2) (p q : Edg) (hx : a.eval x = .agg (edgC p)) (hy : a.eval y = .agg (edgC q))
    (hp : (S i).p (.bool (!decide (p = q))) w) : GStep Try.prog ops S Q i o a w :=
  gs_bin hw _ _ _ x y ho _ _ _ hx hy (run_eqGuard_agg w _ _ _ _ _ _ guard_edge) (run_neq_edge p q w) hp
set_option maxRecDepth 100000 in
set_option maxHeartbeats 4000000 in
theorem same_any (s : Int) (A A2 : Option Addr) (n c c2 : Nat) (B B2 : Option Addr) (m d d2 : Nat) (E : List Edg) (R : List Nat) (hn : n = E.length) (hm : m = R.length) (hE : E.length ≤ 2199023255552) (hRl : R.length ≤ 2199023255552) (w : World)
    (hsA : SliceOf w w.heap.size 7 edgC A E) (hsA2 : SliceOf w w.heap.size 7 edgC A2 E) (hsR : SliceOf w w.heap.size 1 encR B R) (hsR2 : SliceOf w w.heap.size 1 encR B2 R) :
    Calls Try.prog 12 #[.agg (nfaC s A n c B m d), .agg (nfaC s A2 n c2 B2 m d2)] w fun e w' => e = .returned (.bool true) ∧ Below w.heap.size w w' := by
  have hn2 : n ≤ 2199023255552 := by omega
  have hm2 : m ≤ 2199023255552 := by omega
  have Hn := Lib.hid hn
  have Hm := Lib.hid hm
  clear hn hm
  go_enter Try.func12, Try.ntmps12
  have h2 := (Blk.new w 34 (nfaC s A n c B m d)).alloc (.cells (nfaC s A2 n c2 B2 m d2) 34)
  have h3 : Blk ((w.alloc (.cells (nfaC s A n c B m d) 34)).alloc (.cells (nfaC s A2 n c2 B2 m d2) 34)) (w.heap.size + 1) 34 (nfaC s A2 n c2 B2 m d2) := Blk.new' _ _ _ (by simp)
  have hB1 := below_alloc (below_alloc (Below.refl w.heap.size w) (.cells (nfaC s A n c B m d) 34)) (.cells (nfaC s A2 n c2 B2 m d2) 34)
  go_upto_region 1 with (fail)
  obtain ⟨w1, hw1⟩ : ∃ y, y = (w.alloc (.cells (nfaC s A n c B m d) 34)).alloc (.cells (nfaC s A2 n c2 B2 m d2) 34) := ⟨_, rfl⟩
  rw [← hw1] at h2 h3 hB1 ⊢
  clear hw1
  have c20 : w1.cell? ⟨w.heap.size, 0, none⟩ = some (.int .i64 s) := h2.cellv (i := 0) rfl
  have c21 : w1.cell? ⟨w.heap.size, 1, none⟩ = some (.slice A n c) := h2.cellv (i := 1) rfl
  have c22 : w1.cell? ⟨w.heap.size, 2, none⟩ = some (.slice B m d) := h2.cellv (i := 2) rfl
  have c30 : w1.cell? ⟨w.heap.size + 1, 0, none⟩ = some (.int .i64 s) := h3.cellv (i := 0) rfl
  have c31 : w1.cell? ⟨w.heap.size + 1, 1, none⟩ = some (.slice A2 n c2) := h3.cellv (i := 1) rfl
  have c32 : w1.cell? ⟨w.heap.size + 1, 2, none⟩ = some (.slice B2 m d2) := h3.cellv (i := 2) rfl
  go_wp2_with (fail)
  clear c20 c21 c22 c30 c31 c32
  go_loopw [5] (fun iv wr => ∃ j : Nat, j ≤ n ∧ iv = .int .i64 j ∧ Below w1.heap.size w1 wr) (fun iv _ => n - (intOf iv).toNat)
  case atStart => exact ⟨0, by omega, rfl, Below.refl _ _⟩
  case round =>
    obtain ⟨j, hj, rfl, hBw⟩ := hrel
    replace h2 := blk_then h2 hBw
    replace h3 := blk_then h3 hBw
    have c21 : wr.cell? ⟨w.heap.size, 1, none⟩ = some (.slice A n c) := h2.cellv (i := 1) rfl
    by_cases hjl : j < n
    · have hjI : (j : Int) < n := by omega
      have hjE : j < E.length := by rw [← Hn.out]; exact hjl
      obtain ⟨bA, oA, rfl, hbA, hrA⟩ := hsA.at_ (by omega)
      obtain ⟨bA2, oA2, rfl, hbA2, hrA2⟩ := hsA2.at_ (by omega)
      obtain ⟨dd, hd⟩ : ∃ d, d = E[j] := ⟨_, rfl⟩
      have hx1 : ∀ {X : World}, Below wr.heap.size wr X → RowAt X bA (oA + j * 7) (edgC dd) := fun hb => by
        have := (hrA j hjE).keep ((below_then (below_then hB1 hBw) hb).block bA hbA)
        rw [← hd] at this
        exact this
      have hx2 : ∀ {X : World}, Below wr.heap.size wr X → RowAt X bA2 (oA2 + j * 7) (edgC dd) := fun hb => by
        have := (hrA2 j hjE).keep ((below_then (below_then hB1 hBw) hb).block bA2 hbA2)
        rw [← hd] at this
        exact this
      have hjb : j < 2199023255552 := by omega
      clear hd
      go_upto_region 6 with (fail)
      clear c21
      refine wp_region_steps 11 [eqS (.pointer (some ⟨w.heap.size, 1, none⟩)), eqS (.slice (some ⟨bA, oA, none⟩) n c), eqS (.int .i64 ((j : Int))), eqS (.pointer (some ⟨bA, oA + j * 7, none⟩)), eqS (.agg (edgC dd)), eqS (.pointer (some ⟨(w.heap.size + 1), 1, none⟩)), eqS (.slice (some ⟨bA2, oA2, none⟩) n c2), eqS (.int .i64 ((j : Int))), eqS (.pointer (some ⟨bA2, oA2 + j * 7, none⟩)), eqS (.agg (edgC dd)), eqS (.bool false)] [37, 38, 39, 40, 41, 42, 43, 44, 45, 46, 47] rfl (by kernel_rfl) rfl ?_ ?_
      · skip
        refine Steps.cons (fun a' w' hG hB dep => gs_field (want_none rfl) _ _ _ rfl w.heap.size (0) (1) (hG.other 2 rfl) (fun wz => field_nfa_1 w.heap.size (0) wz) rfl) ?_
        refine Steps.cons (fun a' w' hG hB dep => gs_load1 (want_none rfl) _ _ rfl w.heap.size (1) (dep 0 rfl 37 rfl) (.slice (some ⟨bA, oA, none⟩) n c) ((blk_then h2 hB).cellv (i := 1) rfl) _ Try.underlying31 rfl rfl) ?_
        refine Steps.cons (fun a' w' hG hB dep => gs_move (want_none rfl) _ rfl (id (hG.other 5 rfl))) ?_
        refine Steps.cons (fun a' w' hG hB dep => gs_index (want_none rfl) _ _ _ rfl under_edges 7 size_edgeE bA oA n c (j) (dep 1 rfl 38 rfl) (dep 2 rfl 39 rfl) hjl rfl) ?_
        refine Steps.cons (fun a' w' hG hB dep => gs_load_edge_at (want_none rfl) _ rfl bA (oA + j * 7) (dep 3 rfl 40 rfl) _ (hx1 hB) rfl) ?_
        refine Steps.cons (fun a' w' hG hB dep => gs_field (want_none rfl) _ _ _ rfl (w.heap.size + 1) (0) (1) (hG.other 3 rfl) (fun wz => field_nfa_1 (w.heap.size + 1) (0) wz) rfl) ?_
        refine Steps.cons (fun a' w' hG hB dep => gs_load1 (want_none rfl) _ _ rfl (w.heap.size + 1) (1) (dep 5 rfl 42 rfl) (.slice (some ⟨bA2, oA2, none⟩) n c2) ((blk_then h3 hB).cellv (i := 1) rfl) _ Try.underlying31 rfl rfl) ?_
        refine Steps.cons (fun a' w' hG hB dep => gs_move (want_none rfl) _ rfl (id (hG.other 5 rfl))) ?_
        refine Steps.cons (fun a' w' hG hB dep => gs_index (want_none rfl) _ _ _ rfl under_edges 7 size_edgeE bA2 oA2 n c2 (j) (dep 6 rfl 43 rfl) (dep 7 rfl 44 rfl) hjl rfl) ?_
        refine Steps.cons (fun a' w' hG hB dep => gs_load_edge_at (want_none rfl) _ rfl bA2 (oA2 + j * 7) (dep 8 rfl 45 rfl) _ (hx2 hB) rfl) ?_
        refine Steps.cons (fun a' w' hG hB dep => gs_neq_edge (want_none rfl) _ _ _ rfl _ _ (dep 4 rfl 41 rfl) (dep 9 rfl 46 rfl) (id (congrArg Value.bool (by rw [decide_eq_true rfl]; rfl)))) ?_
        exact Steps.nil
      intro u w5 hB5 ans
      have hus : u 47 = .bool false := ans 10 47 (by decide) rfl
      clear ans
      simp only [putAll, List.foldl_cons, List.foldl_nil, Act.put, List.setIfInBounds_toArray, List.set_cons_zero, List.set_cons_succ, hus]
      clear hus
      simp only [List.drop]
      refine wpList_nil ?_
      have hBw2 := below_then hBw hB5
      clear hx1 hx2 hB5
      go_wp2_with (fail)
      exact ⟨⟨j + 1, by omega, rfl, hBw2⟩, by simp only [intOf]; omega⟩
    · have hjI : ¬ (j : Int) < n := by omega
      go_wp2_with (fail)
      clear c21
      obtain ⟨W2, hW2⟩ : ∃ y, y = wr := ⟨_, rfl⟩
      rw [← hW2] at h2 h3 hBw ⊢
      clear hW2
      go_loopw [6] (fun iv wr => ∃ j : Nat, j ≤ m ∧ iv = .int .i64 j ∧ Below W2.heap.size W2 wr) (fun iv _ => m - (intOf iv).toNat)
      case atStart => exact ⟨0, by omega, rfl, Below.refl _ _⟩
      case round =>
        clear hj hjl hjI
        obtain ⟨j, hj, rfl, hBq⟩ := hrel
        replace h2 := blk_then h2 hBq
        replace h3 := blk_then h3 hBq
        replace hBw := below_then hBw hBq
        have c22 : wr.cell? ⟨w.heap.size, 2, none⟩ = some (.slice B m d) := h2.cellv (i := 2) rfl
        by_cases hjl : j < m
        · have hjI : (j : Int) < m := by omega
          have hjE : j < R.length := by rw [← Hm.out]; exact hjl
          obtain ⟨bR, oR, rfl, hbR, hrR⟩ := hsR.at_ (by omega)
          obtain ⟨bR2, oR2, rfl, hbR2, hrR2⟩ := hsR2.at_ (by omega)
          obtain ⟨dd, hd⟩ : ∃ d, d = R[j] := ⟨_, rfl⟩
          have hx1 : ∀ {X : World}, Below wr.heap.size wr X → X.cell? ⟨bR, oR + j * 1, none⟩ = some (.int .u32 (dd : Nat)) := fun hb => by
            have := ((hrR j hjE).keep ((below_then (below_then hB1 hBw) hb).block bR hbR)) 0 _ rfl
            rw [← hd] at this
            exact this
          have hx2 : ∀ {X : World}, Below wr.heap.size wr X → X.cell? ⟨bR2, oR2 + j * 1, none⟩ = some (.int .u32 (dd : Nat)) := fun hb => by
            have := ((hrR2 j hjE).keep ((below_then (below_then hB1 hBw) hb).block bR2 hbR2)) 0 _ rfl
            rw [← hd] at this
            exact this
          have hjb : j < 2199023255552 := by omega
          clear hd
          go_upto_region 11 with (fail)
          clear c22
          refine wp_region_steps 11 [eqS (.pointer (some ⟨w.heap.size, 2, none⟩)), eqS (.slice (some ⟨bR, oR, none⟩) m d), eqS (.int .i64 ((j : Int))), eqS (.pointer (some ⟨bR, oR + j * 1, none⟩)), eqS (.int .u32 ((dd : Nat))), eqS (.pointer (some ⟨(w.heap.size + 1), 2, none⟩)), eqS (.slice (some ⟨bR2, oR2, none⟩) m d2), eqS (.int .i64 ((j : Int))), eqS (.pointer (some ⟨bR2, oR2 + j * 1, none⟩)), eqS (.int .u32 ((dd : Nat))), eqS (.bool false)] [55, 56, 57, 58, 59, 60, 61, 62, 63, 64, 65] rfl (by kernel_rfl) rfl ?_ ?_
          · skip
            refine Steps.cons (fun a' w' hG hB dep => gs_field (want_none rfl) _ _ _ rfl w.heap.size (0) (2) (hG.other 2 rfl) (fun wz => field_nfa_2 w.heap.size (0) wz) rfl) ?_
            refine Steps.cons (fun a' w' hG hB dep => gs_load1 (want_none rfl) _ _ rfl w.heap.size (2) (dep 0 rfl 55 rfl) (.slice (some ⟨bR, oR, none⟩) m d) ((blk_then h2 hB).cellv (i := 2) rfl) _ Try.underlying32 rfl rfl) ?_
            refine Steps.cons (fun a' w' hG hB dep => gs_move (want_none rfl) _ rfl (id (hG.other 6 rfl))) ?_
            refine Steps.cons (fun a' w' hG hB dep => gs_index (want_none rfl) _ _ _ rfl under_rules 1 size_ruleE bR oR m d (j) (dep 1 rfl 56 rfl) (dep 2 rfl 57 rfl) hjl rfl) ?_
            refine Steps.cons (fun a' w' hG hB dep => gs_load1 (want_none rfl) _ _ rfl bR (oR + j * 1) (dep 3 rfl 58 rfl) (.int .u32 ((dd : Nat))) (hx1 hB) _ Try.underlying55 rfl rfl) ?_
            refine Steps.cons (fun a' w' hG hB dep => gs_field (want_none rfl) _ _ _ rfl (w.heap.size + 1) (0) (2) (hG.other 3 rfl) (fun wz => field_nfa_2 (w.heap.size + 1) (0) wz) rfl) ?_
            refine Steps.cons (fun a' w' hG hB dep => gs_load1 (want_none rfl) _ _ rfl (w.heap.size + 1) (2) (dep 5 rfl 60 rfl) (.slice (some ⟨bR2, oR2, none⟩) m d2) ((blk_then h3 hB).cellv (i := 2) rfl) _ Try.underlying32 rfl rfl) ?_
            refine Steps.cons (fun a' w' hG hB dep => gs_move (want_none rfl) _ rfl (id (hG.other 6 rfl))) ?_
            refine Steps.cons (fun a' w' hG hB dep => gs_index (want_none rfl) _ _ _ rfl under_rules 1 size_ruleE bR2 oR2 m d2 (j) (dep 6 rfl 61 rfl) (dep 7 rfl 62 rfl) hjl rfl) ?_
            refine Steps.cons (fun a' w' hG hB dep => gs_load1 (want_none rfl) _ _ rfl bR2 (oR2 + j * 1) (dep 8 rfl 63 rfl) (.int .u32 ((dd : Nat))) (hx2 hB) _ Try.underlying55 rfl rfl) ?_
            refine Steps.cons (fun a' w' hG hB dep => gs_neq_int (want_none rfl) _ _ _ _ rfl _ _ _ (dep 4 rfl 59 rfl) (dep 9 rfl 64 rfl) (id (congrArg Value.bool (bne_self_eq_false _)))) ?_
            exact Steps.nil
          intro u w5 hB5 ans
          have hus : u 65 = .bool false := ans 10 65 (by decide) rfl
          clear ans
          simp only [putAll, List.foldl_cons, List.foldl_nil, Act.put, List.setIfInBounds_toArray, List.set_cons_zero, List.set_cons_succ, hus]
          clear hus
          simp only [List.drop]
          refine wpList_nil ?_
          have hBq2 := below_then hBq hB5
          clear hx1 hx2 hB5
          go_wp2_with (fail)
          exact ⟨⟨j + 1, by omega, rfl, hBq2⟩, by simp only [intOf]; omega⟩
        · have hjI : ¬ (j : Int) < m := by omega
          go_wp2_with (fail)
          go_ret
          exact ⟨rfl, below_then hB1 hBw⟩
end Go.Proofs.Ytgahdookojbbiaa
