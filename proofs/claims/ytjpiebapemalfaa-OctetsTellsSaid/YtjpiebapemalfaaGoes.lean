/- The contract of goes (heronlaw03): handed a set's rows it answers true, wherever it is left. No condition beyond those named in each lemma. -/
import Derived.Test.YtjpiebapemalfaaOctBack
import Derived.Test.YtjpiebapemalfaaRefD
namespace Go.Proofs.Ytjpiebapemalfaa
open Go.RowKit Go.Shelf
set_option linter.unusedVariables false
set_option linter.unusedSimpArgs false
attribute [local go_sem] Oper.semAt_some

/-- what the boxes of goes hold when the rows pre have come -/
def goI (a : BSet) (A : Option Addr) (n c : Nat) (most : Int) (w : World) (gx : Nat) (pre : List Row) (W : World) : Prop :=
  Blk W (w.heap.size + 1) 51 #[.slice A n c] ∧ Blk W (w.heap.size + 1 + 1) 3 #[.int .i64 most] ∧ Blk W (w.heap.size + 1 + 1 + 1) 4 #[.bool false] ∧ Blk W (gx + 1) 3 #[.int .i64 (pre.length : Int)] ∧
  rowsL pre <+: rowsOf a ∧ Below w.heap.size w W ∧ gx < W.heap.size
theorem goI_from (a : BSet) (A : Option Addr) (n c : Nat) (most : Int) (w : World) (gx : Nat) (W5 : World) (hw : w.heap.size ≤ W5.heap.size) : OwnFrom W5.heap.size (goI a A n c most w gx) := by
  rintro pre W W' row ⟨h1, h2, h3, h4, h5, h6, h7⟩ hg hr
  exact ⟨blk_turn h1 hg hr, blk_turn h2 hg hr, blk_turn h3 hg hr, blk_turn h4 hg hr, h5, h6.grown hg h6.size (fun k e => by have := (hr k e).1; omega), Nat.lt_of_lt_of_le h7 hg.size⟩
theorem eql_nil (gx : Nat) (w : World) : (binOp .eql 54 (.func (.func 44) #[] #[.pointer (some ⟨gx, 0, none⟩)]) .nilFunc).run Try.prog w = .ok (.bool false) w := by kernel_rfl
theorem prefix_not {l pre : List (Nat × Nat)} {p : Nat × Nat} (h : pre ++ [p] <+: l) : ∃ hi : pre.length < l.length, l[pre.length] = p := by
  obtain ⟨r, rfl⟩ := h
  exact ⟨by simp, by simp⟩
theorem prefix_snoc {l pre : List (Nat × Nat)} (h : pre <+: l) (hi : pre.length < l.length) : pre ++ [l[pre.length]] <+: l := by
  obtain ⟨r, rfl⟩ := h
  cases r with
  | nil => simp at hi
  | cons x r => exact ⟨r, by simp⟩
set_option maxRecDepth 100000 in
set_option maxHeartbeats 4000000 in
theorem goes_any (a : BSet) (A : Option Addr) (n c : Nat) (most : Int) (w : World) (hn : n = (rowsOf a).length) (hs : SliceOf w w.heap.size 2 rowC A (rowsOf a)) :
    Calls Try.prog 31 #[.agg (setC a), .slice A n c, .int .i64 most] w fun e w' => e = .returned (.bool true) ∧ Below w.heap.size w w' := by
  refine (callsIn_wide (n := 6)).1 ?_
  refine callsIn_of_wp_marks Try.func31 rfl trivial ?_ rfl
  simp only [Try.ntmps31, List.size_toArray, List.length_cons, List.length_nil, Nat.reduceAdd, Nat.reduceSub, Array.replicate_succ, Array.replicate_zero, List.push_toArray, List.append_toArray, List.nil_append, List.cons_append]
  have hn257 : n ≤ 257 := by
    rw [hn]
    have := itR_length a 257
    unfold rowsOf
    omega
  have Hn := Lib.hid hn
  clear hn
  have e3 := (((Blk.new w 31 (setC a)).alloc (.cells #[.slice A n c] 51)).alloc (.cells #[.int .i64 most] 3)).alloc (.cells #[.bool false] 4)
  have e4 := ((Blk.new' (n := w.heap.size + 1) (w.alloc (.cells (setC a) 31)) 51 #[.slice A n c] (by simp)).alloc (.cells #[.int .i64 most] 3)).alloc (.cells #[.bool false] 4)
  have e5 := (Blk.new' (n := w.heap.size + 1 + 1) ((w.alloc (.cells (setC a) 31)).alloc (.cells #[.slice A n c] 51)) 3 #[.int .i64 most] (by simp)).alloc (.cells #[.bool false] 4)
  have e6 := Blk.new' (n := w.heap.size + 1 + 1 + 1) (((w.alloc (.cells (setC a) 31)).alloc (.cells #[.slice A n c] 51)).alloc (.cells #[.int .i64 most] 3)) 4 #[.bool false] (by simp)
  have hB := below_alloc (below_alloc (below_alloc (below_alloc (Below.refl w.heap.size w) (.cells (setC a) 31)) (.cells #[.slice A n c] 51)) (.cells #[.int .i64 most] 3)) (.cells #[.bool false] 4)
  gi_upto_region 1 with (fail)
  obtain ⟨W1, hW1⟩ : ∃ x, x = (((w.alloc (.cells (setC a) 31)).alloc (.cells #[.slice A n c] 51)).alloc (.cells #[.int .i64 most] 3)).alloc (.cells #[.bool false] 4) := ⟨_, rfl⟩
  rw [← hW1] at e3 e4 e5 e6 hB ⊢
  clear hW1
  refine wpIn_wide.2 ?_
  go_wp2_with (first | (refine wl_load_set rfl _ rfl _ rfl _ e3 ?_) | (go_at_call 30; refine (spans_any a _).mono ?_; rintro e w5 ⟨rfl, rfl⟩))
  have hx := Blk.new W1 31 (setC a)
  replace e4 := e4.alloc (.cells (setC a) 31)
  replace e5 := e5.alloc (.cells (setC a) 31)
  have hb6 := e6.lt
  replace e6 := e6.alloc (.cells (setC a) 31)
  replace hB := below_alloc hB (.cells (setC a) 31)
  obtain ⟨W2, hW2⟩ : ∃ x, x = W1.alloc (.cells (setC a) 31) := ⟨_, rfl⟩
  rw [← hW2] at e4 e5 e6 hB hx ⊢
  obtain ⟨gx, hgx⟩ : ∃ b, b = W1.heap.size := ⟨_, rfl⟩
  rw [← hgx] at hx hb6 ⊢
  have hW2s : W2.heap.size = gx + 1 := by rw [hW2, hgx]; simp
  clear hW2 hgx e3
  gi_wp2
  rw [eql_nil]
  gi_wp2
  have e8 := Blk.new W2 3 #[.int .i64 0]
  replace e4 := e4.alloc (.cells #[.int .i64 0] 3)
  replace e5 := e5.alloc (.cells #[.int .i64 0] 3)
  replace e6 := e6.alloc (.cells #[.int .i64 0] 3)
  replace hx := hx.alloc (.cells #[.int .i64 0] 3)
  replace hB := below_alloc hB (.cells #[.int .i64 0] 3)
  rw [hW2s] at e8
  obtain ⟨W3, hW3⟩ : ∃ x, x = W2.alloc (.cells #[.int .i64 0] 3) := ⟨_, rfl⟩
  rw [← hW3] at e4 e5 e6 e8 hB hx ⊢
  have hW3s : W3.heap.size = gx + 1 + 1 := by rw [hW3]; simp [hW2s]
  clear hW3 hW2s
  refine wpIn_rangeFunc_ownF (n := 6) rfl (by decide) (gf := 44) (lb := #[.pointer (some ⟨gx, 0, none⟩)]) rfl trivial (enters_of Try.func44 (by kernel_rfl) rfl)
    (spans_stops a 5 gx W3 hx) (fun h k => k.trans h) (fun W l o o' hl _ _ _ => World.putObj_heap_other (by have := hx.lt; omega)) (Below.refl _ _) (fun _ => rfl)
    (goI a A n c most w gx) (fun c pre W => c = .ret ∧ (¬ rowsL pre <+: rowsOf a ∨ (Blk W (w.heap.size + 1 + 1 + 1) 4 #[.bool true] ∧ Below w.heap.size w W))) (goI_from a A n c most w gx W3 hB.size) ?hIx
    ⟨e4, e5, e6, e8, ⟨_, rfl⟩, hB, hx.lt⟩
    (fun x => { tmps := #[.agg (setC a), .slice A n c, .int .i64 most, .pointer (some ⟨w.heap.size, 0, none⟩), .pointer (some ⟨w.heap.size + 1, 0, none⟩), .pointer (some ⟨w.heap.size + 1 + 1, 0, none⟩), .pointer (some ⟨w.heap.size + 1 + 1 + 1, 0, none⟩), .func (.func 44) #[] #[.pointer (some ⟨gx, 0, none⟩)], .pointer (some ⟨gx + 1, 0, none⟩), .int .u8 (x.1.1 : Int), .int .u8 (x.1.2 : Int), .agg (setC a), .func (.func 44) #[] #[.pointer (some ⟨gx, 0, none⟩)], .func (.func 44) #[] #[.pointer (some ⟨gx, 0, none⟩)], .bool false, .func (.func 44) #[] #[.pointer (some ⟨gx, 0, none⟩)], .int .u8 (x.1.1 : Int), .int .u8 (x.1.2 : Int), undef, undef, undef, undef, undef, undef, undef, undef, undef, undef, undef, undef, undef, undef, undef, undef, undef, undef, undef, undef, undef, undef, undef, undef, undef, undef, undef, undef, undef, undef, undef, undef, undef], defers := [] }) ?assign ?body ?done ?stop
  case hIx =>
    rintro c pre W W' row ⟨rfl, h⟩ hg hr
    refine ⟨rfl, h.imp id fun h => ⟨blk_turn h.1 hg hr, h.2.grown hg h.2.size (fun k e => by have := (hr k e).1; have := hB.size; omega)⟩⟩
  case assign =>
    intro l x W K hK
    unfold encR
    gi_wp2
    exact hK
  case body =>
    rintro l pre ⟨⟨p, q⟩, hpq1, hpq2⟩ W ⟨e4, e5, e6, e8, hpre, hB, hgx⟩ hlen
    simp only at hpq1 hpq2
    obtain ⟨i, hi⟩ : ∃ i, i = pre.length := ⟨_, rfl⟩
    rw [← hi] at e8 hlen
    have Hi := Lib.hid hi
    clear hi
    have c8 : W.cell? ⟨gx + 1, 0, none⟩ = some (.int .i64 (i : Int)) := e8.cellv rfl
    have c4 : W.cell? ⟨w.heap.size + 1, 0, none⟩ = some (.slice A n c) := e4.cellv rfl
    by_cases hin : i < n
    · have hil : i < (rowsOf a).length := by rw [← Hn.out]; exact hin
      have hinI : (i : Int) < n := by omega
      obtain ⟨b, off, rfl, hb, hrow⟩ := hs.at_ (by omega)
      have hr := (hrow i hil).keep (hB.block b hb)
      obtain ⟨⟨s, t⟩, hst⟩ : ∃ r, r = (rowsOf a)[i] := ⟨_, rfl⟩
      rw [← hst] at hr
      have Hst := Lib.hid hst
      clear hst
      have r1 : W.cell? ⟨b, off + i * 2, none⟩ = some (.int .i64 (s : Int)) := hr 0 _ rfl
      have r2 : W.cell? ⟨b, off + i * 2 + 1, none⟩ = some (.int .i64 (t : Int)) := hr 1 _ rfl
      clear hr hrow
      by_cases hps : p = s
      · subst hps
        by_cases hqt : q = t
        · subst hqt
          have Hpre : Hid (rowsL (pre ++ [(⟨(p, q), ⟨hpq1, hpq2⟩⟩ : Row)]) <+: rowsOf a) := Lib.hid (by
            have hl : (rowsL pre).length < (rowsOf a).length := by rw [rowsL_length, ← Hi.out]; exact hil
            have h := prefix_snoc hpre hl
            have e : (rowsOf a)[(rowsL pre).length] = (p, q) := by
              rw [Hst.out]
              congr 1
              rw [rowsL_length, Hi.out]
            rw [e] at h
            rw [rowsL_snoc]
            exact h)
          gi_upto_region 10 with (fail)
          refine region_in (by kernel_rfl) ?_
          go_wp2_with (refine wl_store_cell rfl _ _ _ rfl _ _ rfl _ _ #[.int .i64 ((i : Int) + 1)] e8 (by simp) info_int rfl rfl rfl ?_; intro W1 e8' hg1)
          refine onlyN_normal ?_
          replace e4 := blk_other e4 hg1 (by omega)
          replace e5 := blk_other e5 hg1 (by omega)
          replace e6 := blk_other e6 hg1 (by omega)
          have hx1 : W1.heap[gx]? = W.heap[gx]? := hg1.block gx hgx (by simp)
          have hk1 := KeepsOthers.of_grownBy hg1 (fun j o e1 e2 => by injection e1 with e1; subst e1; exact cells_of_blk e8 e2)
          replace hB := hB.grown hg1 hB.size (fun k e => by injection e with e; omega)
          have hgx1 : gx < W1.heap.size := Nat.lt_of_lt_of_le hgx hg1.size
          have c81 := e8'.cellv (i := 0) rfl
          have c5 := e5.cellv (i := 0) rfl
          clear e8 c8 c4 hg1
          by_cases hmost : most ≤ (i : Int) + 1
          · gi_upto_region 12 with (fail)
            refine region_in (by kernel_rfl) ?_
            refine wl_store_cell rfl _ _ _ rfl _ _ rfl _ _ #[.bool true] e6 (by simp) info_bool1 rfl rfl rfl ?_
            intro w7 h7 hg7
            refine wpList_nil ?_
            refine onlyN_normal ?_
            gi_wp2
            exact ⟨hk1.trans (KeepsOthers.of_grownBy hg7 (fun j o e1 e2 => by injection e1 with e1; subst e1; exact cells_of_blk e6 e2)), rfl, .inr ⟨h7, hB.grown hg7 hB.size (fun k e => by injection e with e; omega)⟩⟩
          · gi_wp2
            refine ⟨hk1, hx1, e4, e5, e6, ?_, Hpre.out, hB, hgx1⟩
            rw [show (((pre ++ [(⟨(p, q), ⟨hpq1, hpq2⟩⟩ : Row)]).length : Nat) : Int) = (i : Int) + 1 by rw [List.length_append, ← Hi.out]; simp]
            exact e8'
        · have hne : ((q : Int) != (t : Int)) = true := by rw [bne_iff_ne]; omega
          gi_upto_region 9 with (fail)
          refine region_in (by kernel_rfl) ?_
          refine wl_store_cell rfl _ _ _ rfl _ _ rfl _ _ #[.bool false] e6 (by simp) info_bool1 rfl rfl rfl ?_
          intro w7 h7 hg7
          refine wpList_nil ?_
          refine onlyN_normal ?_
          gi_wp2
          refine ⟨KeepsOthers.of_grownBy hg7 (fun j o e1 e2 => by injection e1 with e1; subst e1; exact cells_of_blk e6 e2), rfl, .inl fun h => ?_⟩
          rw [rowsL_snoc] at h
          obtain ⟨h1, h2⟩ := prefix_not h
          simp only [rowsL_length, ← Hi.out] at h2
          rw [← Hst.out] at h2
          injection h2 with _ h2
          exact hqt h2.symm
      · have hne : ((p : Int) != (s : Int)) = true := by rw [bne_iff_ne]; omega
        gi_upto_region 9 with (fail)
        refine region_in (by kernel_rfl) ?_
        refine wl_store_cell rfl _ _ _ rfl _ _ rfl _ _ #[.bool false] e6 (by simp) info_bool1 rfl rfl rfl ?_
        intro w7 h7 hg7
        refine wpList_nil ?_
        refine onlyN_normal ?_
        gi_wp2
        refine ⟨KeepsOthers.of_grownBy hg7 (fun j o e1 e2 => by injection e1 with e1; subst e1; exact cells_of_blk e6 e2), rfl, .inl fun h => ?_⟩
        rw [rowsL_snoc] at h
        obtain ⟨h1, h2⟩ := prefix_not h
        simp only [rowsL_length, ← Hi.out] at h2
        rw [← Hst.out] at h2
        injection h2 with h2 _
        exact hps h2.symm
    · have hinI : (n : Int) ≤ i := by omega
      gi_upto_region 9 with (fail)
      refine region_in (by kernel_rfl) ?_
      refine wl_store_cell rfl _ _ _ rfl _ _ rfl _ _ #[.bool false] e6 (by simp) info_bool1 rfl rfl rfl ?_
      intro w7 h7 hg7
      refine wpList_nil ?_
      refine onlyN_normal ?_
      gi_wp2
      refine ⟨KeepsOthers.of_grownBy hg7 (fun j o e1 e2 => by injection e1 with e1; subst e1; exact cells_of_blk e6 e2), rfl, .inl fun h => ?_⟩
      rw [rowsL_snoc] at h
      obtain ⟨h1, h2⟩ := prefix_not h
      rw [rowsL_length, ← Hi.out, ← Hn.out] at h1
      exact hin h1
  case done =>
    rintro D xs W hD hrows ⟨e4, e5, e6, e8, hpre, hB, hgx⟩ hK
    have hxs : xs.length = n := by rw [Hn.out, ← hrows, rowsL_length]
    rw [hxs] at e8
    have c8 := e8.cellv (i := 0) rfl
    have c4 := e4.cellv (i := 0) rfl
    clear hxs hrows hpre
    gi_upto_region 13 with (fail)
    refine wpIn_wide.2 ?_
    go_wp2_with (refine wl_store_cell rfl _ _ _ rfl _ _ rfl _ _ #[.bool true] e6 (by simp) info_bool1 rfl rfl rfl ?_; intro W4 h4 hg4)
    have hDl := (Array.getElem?_eq_some_iff.1 hK).1
    have hDne : D ≠ w.heap.size + 1 + 1 + 1 := fun e => by subst e; have := cells_of_blk e6 hK; cases this
    have hK4 := (hg4.block D hDl (fun e => hDne (by injection e))).trans hK
    replace hB := hB.grown hg4 hB.size (fun k e => by injection e with e; omega)
    clear hK hg4
    gi_wp2
    refine ⟨by simp, .inl ⟨_, _, rfl, run_takeDeferred hK4, ?_⟩⟩
    have hc5 := (blk_other h4 (grownBy_putObj' W4 D (.deferred none)) (fun e => hDne e.symm)).cellv (i := 0) rfl
    refine ⟨.bool true, ?_, rfl, hB.trans (belowK_b (w := w) (Nat.le_refl _) W4 D _ _ (by have := hx.lt; omega) hK4 rfl rfl)⟩
    simp [results, Try.f31, go_sem, hc5]
  case stop =>
    rintro D cc pre W hD hp ⟨rfl, h⟩ hK
    obtain ⟨h6, hB⟩ : Blk W (w.heap.size + 1 + 1 + 1) 4 #[.bool true] ∧ Below w.heap.size w W := h.resolve_left (fun h => h hp)
    gi_wp2
    refine ⟨by simp, .inl ⟨_, _, rfl, run_takeDeferred hK, ?_⟩⟩
    have hDne : D ≠ w.heap.size + 1 + 1 + 1 := fun e => by subst e; have := cells_of_blk h6 hK; cases this
    have hc5 := (blk_other h6 (grownBy_putObj' W D (.deferred none)) (fun e => hDne e.symm)).cellv (i := 0) rfl
    refine ⟨.bool true, ?_, rfl, hB.trans (belowK_b (w := w) (Nat.le_refl _) W D _ _ (by have := hx.lt; omega) hK rfl rfl)⟩
    simp [results, Try.f31, go_sem, hc5]

end Go.Proofs.Ytjpiebapemalfaa
