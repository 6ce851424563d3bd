/- sim.Walk's States. No condition beyond those named in each lemma. -/
import Derived.Test.YtgahdookojbbiaaDoorSimH
namespace Go.Proofs.YtgahdookojbbiaaDoor
open Go.RowKit Go.Shelf Go.Maps
set_option linter.unusedVariables false
set_option linter.unusedSimpArgs false
attribute [local go_sem] Oper.semAt_some

/-- what the box of States holds -/
def stI (w : World) (L : List Nat) (W : World) : Prop :=
  ∃ v, Blk W w.heap.size 54 #[v] ∧ Own W (w.heap.size + 1) 3 1 encN v L ∧ Below w.heap.size w W ∧ w.heap.size < W.heap.size
set_option maxRecDepth 100000 in
set_option maxHeartbeats 4000000 in
theorem states_any (lo nb gw gm N : Nat) (E : List Edg) (R : List Nat) (k : Wk) (w : World) (h : WalkOk lo nb w gw gm N E R k) (hT : TabOk w) :
    Calls Tryd.prog 19 #[.pointer (some ⟨gw, 0, none⟩)] w fun e w' => ∃ v, e = .returned v ∧ Own w' w.heap.size 3 1 encN v (bitsTo k.at_ N) ∧ Below w.heap.size w w' := by
  refine (callsIn_wide (n := 6)).1 ?_
  refine callsIn_of_wp_marks Tryd.func19 rfl trivial ?_ rfl
  simp only [Tryd.ntmps19, List.size_toArray, List.length_cons, List.length_nil, Nat.reduceAdd, Nat.reduceSub, Array.replicate_succ, Array.replicate_zero, List.push_toArray, List.append_toArray, List.nil_append, List.cons_append]
  obtain ⟨hMI, hnw, hr, hx, g, c, hne, hw, hs⟩ := h
  obtain ⟨x, r, b⟩ := k
  simp only at hr hx hw hs ⊢
  have hM := hMI.ok
  have hN := hM.2.1
  have hnb0 := hM.2.2.2.2.1
  have hnb2 := hM.2.2.2.2.2.1
  have hkb : wordsFor N ≤ 1099511627776 := by unfold wordsFor; omega
  have hx64 : below x (64 * wordsFor N) := fun i hi => Nat.lt_of_lt_of_le (hx i hi) (words_room N)
  have hgb := hs.lt g rfl
  have hlw := hw.lt
  have a1 : (w.alloc (.cells #[.slice none 0 0] 54)).cell? ⟨gw, 1, none⟩ = some (.slice (some ⟨g, 0, none⟩) (wordsFor N) c) := (hw.alloc _).cellv (i := 1) rfl
  gi_wp2_with (refine ⟨trivial, ?_⟩; gi_at_call 31; refine (callsIn_wide.2 (each_any _ _ _ _)).mono ?_; rintro e w5 ⟨rfl, rfl⟩)
  clear a1
  have e3 := (Blk.new w 54 #[.slice none 0 0]).alloc (.cells #[.slice (some ⟨g, 0, none⟩) (wordsFor N) c] 69)
  have ex := Blk.new' (n := w.heap.size + 1) (w.alloc (.cells #[.slice none 0 0] 54)) 69 #[.slice (some ⟨g, 0, none⟩) (wordsFor N) c] (by simp)
  have hB := below_alloc (below_alloc (Below.refl w.heap.size w) (.cells #[.slice none 0 0] 54)) (.cells #[.slice (some ⟨g, 0, none⟩) (wordsFor N) c] 69)
  obtain ⟨W1, hW1⟩ : ∃ y, y = (w.alloc (.cells #[.slice none 0 0] 54)).alloc (.cells #[.slice (some ⟨g, 0, none⟩) (wordsFor N) c] 69) := ⟨_, rfl⟩
  rw [← hW1] at e3 ex hB ⊢
  clear hW1
  have hT1 := hT.then_ hT.size hB
  have hlW := ex.lt
  have hs1 := hs.then_ hB
  have hrow : ∀ i (h : i < (wordsN x (wordsFor N)).length), RowAt W1 g (0 + i) (encU (wordsN x (wordsFor N))[i]) := fun i h => by
    have := hs1.row encU_size i h
    rw [Nat.mul_one] at this
    rw [Nat.zero_add]
    exact this
  refine wpIn_rangeFunc_ownF (n := 6) rfl (by decide) (gf := 38) (lb := #[.pointer (some ⟨w.heap.size + 1, 0, none⟩)]) rfl trivial (enters_of Tryd.func38 (by kernel_rfl) rfl)
    (each_stops x (wordsFor N) c g 0 5 (w.heap.size + 1) W1 hkb hx64 ex (by omega) hrow hT1) KpS.trans (fun W l o o' hl _ _ _ => ⟨World.putObj_heap_other (by omega), World.putObj_heap_other (by omega)⟩) (Below.refl _ _) (fun _ => rfl)
    (fun pre W => stI w (numsI pre) W) (fun _ _ _ => False) (fun pre X Y row hi hg hr => ?turn) (fun _ => fun _ _ _ _ hs _ _ => hs)
    ⟨_, e3, Own.nil_ _ _ _ _ _, hB, by omega⟩
    (fun r => { tmps := #[.pointer (some ⟨gw, 0, none⟩), undef, .slice none 0 0, .pointer (some ⟨w.heap.size, 0, none⟩), .int .i64 (r.1 : Int), .pointer (some ⟨gw, 0, none⟩), .pointer (some ⟨gw, 0, none⟩), .pointer (some ⟨gw, 1, none⟩), .slice (some ⟨g, 0, none⟩) (wordsFor N) c, .func (.func 38) #[] #[.pointer (some ⟨w.heap.size + 1, 0, none⟩)], .int .i64 (r.1 : Int), undef, undef, undef, undef, undef], defers := [] }) ?assign ?body ?done ?stop
  case turn =>
    obtain ⟨v, h1, h2, h3, h4⟩ := hi
    exact ⟨v, blk_turn' h1 hg hr, own_turn h2 hg hr, h3.grown hg h3.size (fun k e => by have := (hr k e).1; omega), Nat.lt_of_lt_of_le h4 hg.size⟩
  case assign =>
    intro l r W K hK
    unfold encI
    gi_wp2
    exact hK
  case body =>
    rintro l pre ⟨n, hn⟩ W ⟨v, h8, hL, hBW, hlt⟩ hlen
    have hnN := hx n hn
    have hlen2 : (numsI pre).length ≤ 64 * wordsFor N := by rw [numsI_length]; omega
    have hwf : 64 * wordsFor N ≤ 1099511628000 := by unfold wordsFor; omega
    obtain ⟨L, hLe⟩ : ∃ L, L = numsI pre := ⟨_, rfl⟩
    rw [← hLe] at hL hlen2
    have HL := Lib.hid hLe
    clear hLe
    obtain ⟨A7, k7, rfl, _, _⟩ := hL.shape
    have c8 : W.cell? ⟨w.heap.size, 0, none⟩ = some (.slice A7 L.length k7) := h8.cellv rfl
    obtain ⟨i1, hi1, hy0, hy1, hy2⟩ := info_parts info_int3
    gi_upto_region 4 with (fail)
    refine region_in (by kernel_rfl) ?_
    go_wp2_with (at_builtin; refine park ?_)
    refine Parked.mk ?_
    have hone := slice_one (enc := encN) (size := 1) (y := n) (w := W.alloc (.cells #[.int .i64 (n : Int)] 3)) (g := W.heap.size) (t := 3) (Blk.new _ _ _)
    have hB7 : Below W.heap.size W (W.alloc (.cells #[.int .i64 (n : Int)] 3)) := below_alloc (Below.refl _ _) _
    have hL7 := hL.then_ hB7
    have h87 := blk_then h8 hB7
    have hsz7 := hB7.size
    refine wl_append _ rfl _ _ 54 rfl (w.heap.size + 1) 3 i1 _ 1 8 Tryd.underlying54 hi1 hy0 hy1 hy2 rfl (by decide) encN_size encN_one (.slice A7 _ k7) _ rfl hL7 _ _ 1 1 [n] rfl rfl hone (by unfold maxLen; omega) (by omega) (by omega) ?_
    intro v8 w8 hL8 hg8 hat8
    obtain ⟨A8, k8, rfl, _, _⟩ := hL8.shape
    simp only [Act.put, List.setIfInBounds_toArray, List.set_cons_zero, List.set_cons_succ]
    refine wl_store_cell rfl _ _ _ rfl _ _ rfl _ _ #[.slice A8 _ k8] (blk_own h87 hL7 hg8 (by omega)) (by simp) info_ints1 rfl rfl rfl ?_
    intro w9 h89 hg9
    refine wpList_nil ?_
    refine onlyN_normal ?_
    gi_wp2
    have hz8 := hg8.size
    have hlow8 : ∀ r, (Value.slice A7 L.length k7).ownBlock = some r → w.heap.size ≤ r := fun r e => by have := (hL7.lt r e).1; omega
    have hko : KeepsOthers W w9 := (KeepsOthers.of_grownBy (only_of_below hB7 none) (fun j o e _ => by cases e)).trans ((others_own hL7 hg8).trans (KeepsOthers.of_grownBy hg9 (fun j o e1 e2 => by injection e1 with e1; subst e1; exact cells_of_blk' (blk_own h87 hL7 hg8 (by omega)) e2)))
    have hne0 : ∀ k, k < w.heap.size → w9.heap[k]? = W.heap[k]? := fun k hk => (hg9.block k (by omega) (by simp; omega)).trans ((hg8.block k (by omega) (fun e => by have := hlow8 k e.symm; omega)).trans (hB7.block k (by omega)))
    refine ⟨hko, ⟨hne0 g (by omega), hne0 0 (by omega)⟩, _, h89, ?_, ?_, by have := hg9.size; omega⟩
    · rw [numsI_snoc, ← HL.out]
      exact own_low hL8 hg9 (by omega)
    · exact ((below_then hBW hB7).grown hg8 (by have := hBW.size; omega) (fun r e => hlow8 r e)).grown hg9 (by have := hBW.size; omega) (fun r e => by injection e with e; omega)
  case done =>
    rintro D xs W hD hxs ⟨v, h8, hL, hBW, hlt⟩ hK
    rw [hxs, bits_all hx (words_room N)] at hL
    have c3 : W.cell? ⟨w.heap.size, 0, none⟩ = some v := h8.cellv rfl
    gi_wp2
    refine ⟨by simp, .inl ⟨_, _, rfl, run_takeDeferred hK, ?_⟩⟩
    have hg' := grownBy_putObj' W D (.deferred none)
    refine ⟨_, results_tmp rfl _ _ _, _, rfl, (hL.mono (by omega)).kept_ hg' (fun j e1 e2 => ?_), hBW.trans (belowK_b (w := w) (Nat.le_refl _) W D _ _ (by omega) hK rfl rfl)⟩
    rcases hL.2 with ⟨hv, _⟩ | ⟨g', cap', cur, hv, _, hh, _⟩
    · rw [hv] at e1; cases e1
    · rw [hv] at e1
      have e3 : g' = j := by simpa [Value.ownBlock] using e1
      injection e2 with e2
      subst e2
      subst e3
      rw [hK] at hh
      injection hh with hh
      cases hh
  case stop =>
    rintro D c pre W _ _ h _
    exact h.elim
end Go.Proofs.YtgahdookojbbiaaDoor
