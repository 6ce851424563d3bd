/- sim.machine.goes: the walk. No condition beyond those named in each lemma. -/
import Derived.Test.YtgahdookojbbiaaDoorGoes
namespace Go.Proofs.YtgahdookojbbiaaDoor
open Go.RowKit Go.Shelf Go.Maps
set_option linter.unusedVariables false
set_option linter.unusedSimpArgs false
attribute [local go_sem] Oper.semAt_some

theorem info_int3 : (Tryd.prog.info? 3).map (fun i => (i.zero, i.size, i.bytes)) = some (some (.int .i64 0), 1, 8) := by kernel_rfl
theorem info_ints1 : (Tryd.prog.info? 54).map (·.size) = some 1 := by kernel_rfl
/-- a goal at which a walk stands still -/
structure Parked (p : Prop) : Prop where
  h : p
theorem park {p : Prop} (h : Parked p) : p := h.h
/-- what the boxes of goes hold while the set is gone through -/
def goI (nb gm N : Nat) (E : List Edg) (R : List Nat) (base g c y : Nat) (w : World) (L : List Nat) (W : World) : Prop :=
  ∃ v, Blk W w.heap.size 54 #[v] ∧ Own W (w.heap.size + 1) 3 1 encN v L ∧ Own W base 49 1 encU (.slice (some ⟨g, 0, none⟩) (wordsFor N) c) (wordsN y (wordsFor N)) ∧ MachOk nb W gm N E R ∧ TabOk W ∧ w.grownBy W (some g) ∧ w.heap.size < W.heap.size
theorem goI_from (nb gm N : Nat) (E : List Edg) (R : List Nat) (base g c y : Nat) (w W5 : World) (hp : 0 < nb) (hn : nb ≤ W5.heap.size) (hw : w.heap.size ≤ W5.heap.size) : OwnFrom W5.heap.size (goI nb gm N E R base g c y w) := by
  rintro L W W' row ⟨v, h1, h2, h3, h4, h5, h6, h7⟩ hg hr
  refine ⟨v, blk_turn' h1 hg hr, own_turn h2 hg hr, own_turn h3 hg hr, mach_turn h4 hg hr hn, fun i hi => (World.cell?_of_block (w := W) (hg.block 0 (by omega) (fun e => by have := (hr 0 e.symm).1; omega))).trans (h5 i hi), ?_, Nat.lt_of_lt_of_le h7 hg.size⟩
  exact ⟨hg.os.trans h6.os, hg.tape.trans h6.tape, hg.output.trans h6.output, Nat.le_trans h6.size hg.size, fun k hk hne => (hg.block k (Nat.lt_of_lt_of_le hk h6.size) (fun e => by have := (hr k e.symm).1; omega)).trans (h6.block k hk hne)⟩
theorem grown_more {w W W' : World} {g : Nat} {row : Option Nat} (h : w.grownBy W (some g)) (hg : W.grownBy W' row) (hr : ∀ r, row = some r → w.heap.size ≤ r) : w.grownBy W' (some g) :=
  ⟨hg.os.trans h.os, hg.tape.trans h.tape, hg.output.trans h.output, Nat.le_trans h.size hg.size, fun k hk hne => (hg.block k (Nat.lt_of_lt_of_le hk h.size) (fun e => by have := hr k e.symm; omega)).trans (h.block k hk hne)⟩
theorem wl_vmap_to {ops : Array Oper} {rest : List Oper} {o : Oper} {a : Act} {Q : Exit → Act → World → Prop} {w : World} {b n : Nat} {mf : Int → Option Value} (h : ValMap w b n mf) (v : Value) (y : Int) (hv : (mf y).getD (.slice none 0 0) = v) (hg : o.guard = none) (m x : Operand) (hop : o.op = Op.lookup 65 m x false) (hm : a.eval m = .map (some b)) (hy : (Lit.int .i64 y).wf = true) (hx : a.eval x = .int .i64 y)
    (hK : wpList Tryd.prog ops Q rest (a.put o.dst v) w) : wpList Tryd.prog ops Q (o :: rest) a w :=
  wl_vmap_at h hg m x hop hm y hy hx (hv ▸ hK)
theorem deferred_then {W W' : World} {D : Nat} {x : Option (List Deferred)} (h : W.heap[D]? = some (.deferred x)) (hb : Below W.heap.size W W') : W'.heap[D]? = some (.deferred x) :=
  (hb.block D (Array.getElem?_eq_some_iff.1 h).1).trans h
theorem deferred_blk {W W' : World} {D r : Nat} {x : Option (List Deferred)} {t : TypeId} {cs : Array Value} (h : W.heap[D]? = some (.deferred x)) (hb : Blk W r t cs) (hg : W.grownBy W' (some r)) : W'.heap[D]? = some (.deferred x) :=
  (hg.block D (Array.getElem?_eq_some_iff.1 h).1 (fun e => by
    injection e with e
    subst e
    unfold Blk at hb
    rw [h] at hb
    injection hb with hb
    cases hb)).trans h
theorem deferred_own {W W' : World} {D base size : Nat} {x : Option (List Deferred)} {e : TypeId} {α : Type} {enc : α → Array Value} {v : Value} {ys : List α} (h : W.heap[D]? = some (.deferred x)) (ho : Own W base e size enc v ys) (hg : W.grownBy W' v.ownBlock) : W'.heap[D]? = some (.deferred x) :=
  (hg.block D (Array.getElem?_eq_some_iff.1 h).1 (fun e => by
    rcases ho.2 with ⟨hv, _⟩ | ⟨g', cap, cur, hv, _, hh, _⟩
    · rw [hv] at e; cases e
    · rw [hv] at e
      have a1 : D = g' := by simpa [Value.ownBlock] using e
      subst a1
      rw [h] at hh
      injection hh with hh
      cases hh)).trans h
set_option maxRecDepth 100000 in
set_option maxHeartbeats 4000000 in
theorem goes_any (nb gm N : Nat) (E : List Edg) (R : List Nat) (base g c x : Nat) (beg en : Bool) (hx : below x N) (w : World) (hM : MachOk nb w gm N E R) (hs : Own w base 49 1 encU (.slice (some ⟨g, 0, none⟩) (wordsFor N) c) (wordsN x (wordsFor N))) (hnb : nb ≤ base) (hT : TabOk w) :
    Calls Tryd.prog 36 #[.pointer (some ⟨gm, 0, none⟩), .slice (some ⟨g, 0, none⟩) (wordsFor N) c, .bool beg, .bool en] w fun e w' => e = .returned (.tuple #[]) ∧ Own w' base 49 1 encU (.slice (some ⟨g, 0, none⟩) (wordsFor N) c) (wordsN (spreadN E N beg en x) (wordsFor N)) ∧ w.grownBy w' (some g) := by
  refine (callsIn_wide (n := 6)).1 ?_
  refine callsIn_of_wp_marks Tryd.func36 rfl trivial ?_ rfl
  simp only [Tryd.ntmps36, List.size_toArray, List.length_cons, List.length_nil, Nat.reduceAdd, Nat.reduceSub, Array.replicate_succ, Array.replicate_zero, List.push_toArray, List.append_toArray, List.nil_append, List.cons_append]
  have hgb : base ≤ g ∧ g < w.heap.size := hs.lt g rfl
  gi_wp2_with (refine ⟨trivial, ?_⟩; gi_at_call 31; refine (callsIn_wide.2 (each_any _ _ _ _)).mono ?_; rintro e w5 ⟨rfl, rfl⟩)
  have e8 := (Blk.new w 54 #[.slice none 0 0]).alloc (.cells #[.slice (some ⟨g, 0, none⟩) (wordsFor N) c] 69)
  have ex := Blk.new' (n := w.heap.size + 1) (w.alloc (.cells #[.slice none 0 0] 54)) 69 #[.slice (some ⟨g, 0, none⟩) (wordsFor N) c] (by simp)
  have hB := below_alloc (below_alloc (Below.refl w.heap.size w) (.cells #[.slice none 0 0] 54)) (.cells #[.slice (some ⟨g, 0, none⟩) (wordsFor N) c] 69)
  obtain ⟨W1, hW1⟩ : ∃ y, y = (w.alloc (.cells #[.slice none 0 0] 54)).alloc (.cells #[.slice (some ⟨g, 0, none⟩) (wordsFor N) c] 69) := ⟨_, rfl⟩
  rw [← hW1] at e8 ex hB ⊢
  clear hW1
  have hnb2 := hM.2.2.2.2.2.1
  have hnb0 := hM.2.2.2.2.1
  have hN := hM.2.1
  have hM1 := hM.below hB hnb2
  have hs1 := hs.then_ hB
  have hT1 := hT.then_ hT.size hB
  have hlW := ex.lt
  have hkb : wordsFor N ≤ 1099511627776 := by unfold wordsFor; omega
  have hx64 : below x (64 * wordsFor N) := fun i hi => Nat.lt_of_lt_of_le (hx i hi) (words_room N)
  have hrow : ∀ i (h : i < (wordsN x (wordsFor N)).length), RowAt W1 g (0 + i) (encU (wordsN x (wordsFor N))[i]) := fun i h => by
    have := hs1.row encU_size i h
    rw [Nat.mul_one] at this
    rw [Nat.zero_add]
    exact this
  have hgr1 : w.grownBy W1 (some g) := only_of_below hB (some g)
  refine wpIn_rangeFunc_ownF (n := 6) rfl (by decide) (gf := 38) (lb := #[.pointer (some ⟨w.heap.size + 1, 0, none⟩)]) rfl trivial (enters_of Tryd.func38 (by kernel_rfl) rfl)
    (each_stops x (wordsFor N) c g 0 5 (w.heap.size + 1) W1 hkb hx64 ex (by omega) hrow hT1) KpS.trans (fun W l o o' hl _ _ _ => ⟨World.putObj_heap_other (by omega), World.putObj_heap_other (by omega)⟩) (Below.refl _ _) (fun _ => rfl)
    (fun pre W => goI nb gm N E R base g c x w (numsI pre) W) (fun _ _ _ => False) (fun pre X Y row hs hg hr => goI_from nb gm N E R base g c x w W1 hnb0 (by omega) (by omega) (numsI pre) X Y row hs hg hr) (fun _ => fun _ _ _ _ hs _ _ => hs)
    ⟨_, e8, Own.nil_ _ _ _ _ _, hs1, hM1, hT1, hgr1, by omega⟩
    (fun r => { tmps := #[.pointer (some ⟨gm, 0, none⟩), .slice (some ⟨g, 0, none⟩) (wordsFor N) c, .bool beg, .bool en, undef, undef, undef, undef, .pointer (some ⟨w.heap.size, 0, none⟩), .int .i64 (r.1 : Int), undef, undef, undef, undef, .slice (some ⟨g, 0, none⟩) (wordsFor N) c, .func (.func 38) #[] #[.pointer (some ⟨w.heap.size + 1, 0, none⟩)], .int .i64 (r.1 : Int), undef, undef, undef, undef, undef, undef, undef, undef, undef, undef, undef, undef, undef, undef, undef, undef, undef, undef, undef, undef, undef, undef, undef, undef, undef, undef, undef, undef, undef, undef, undef, undef, undef, undef, undef, undef, undef, undef, undef, undef, undef, undef, undef, undef, undef, undef, undef, undef, undef, undef, undef, undef, undef, undef, undef, undef, undef, undef, undef, undef, undef, undef, undef, undef, undef, undef], defers := [] }) ?assign ?body ?done ?stop
  case assign =>
    intro l r W K hK
    unfold encI
    gi_wp2
    exact hK
  case body =>
    rintro l pre ⟨n, hn⟩ W ⟨v, h8, hL, hS, hMW, hTW, hgr, hlt⟩ hlen
    have hnN := hx n hn
    have hlen2 : (numsI pre).length ≤ 64 * wordsFor N := by rw [numsI_length]; omega
    have hwf : 64 * wordsFor N ≤ 1099511628000 := by unfold wordsFor; omega
    obtain ⟨L, hLe⟩ : ∃ L, L = numsI pre := ⟨_, rfl⟩
    rw [← hLe] at hL hlen2
    have HL := Lib.hid hLe
    clear hLe
    obtain ⟨A7, k7, rfl, _, _⟩ := hL.shape
    have c8 : W.cell? ⟨w.heap.size, 0, none⟩ = some (.slice A7 L.length k7) := h8.cellv rfl
    obtain ⟨i1, hi1, hy0, hy1, hy2⟩ := info_parts info_int3
    gi_upto_region 3 with (fail)
    refine region_in (by kernel_rfl) ?_
    go_wp2_with (at_builtin; refine park ?_)
    refine Parked.mk ?_
    have hone := slice_one (enc := encN) (size := 1) (y := n) (w := W.alloc (.cells #[.int .i64 (n : Int)] 3)) (g := W.heap.size) (t := 3) (Blk.new _ _ _)
    have hB7 : Below W.heap.size W (W.alloc (.cells #[.int .i64 (n : Int)] 3)) := below_alloc (Below.refl _ _) _
    have hL7 := hL.then_ hB7
    have h87 := blk_then h8 hB7
    have hS7 := hS.then_ hB7
    have hM7 := hMW.below hB7 (hMW.2.2.2.2.2.1)
    have hT7 := hTW.then_ hTW.size hB7
    have hsz7 := hB7.size
    refine wl_append _ rfl _ _ 54 rfl (w.heap.size + 1) 3 i1 _ 1 8 Tryd.underlying54 hi1 hy0 hy1 hy2 rfl (by decide) encN_size encN_one (.slice A7 _ k7) _ rfl hL7 _ _ 1 1 [n] rfl rfl hone (by unfold maxLen; omega) (by omega) (by omega) ?_
    intro v8 w8 hL8 hg8 hat8
    obtain ⟨A8, k8, rfl, _, _⟩ := hL8.shape
    simp only [Act.put, List.setIfInBounds_toArray, List.set_cons_zero, List.set_cons_succ]
    refine wl_store_cell rfl _ _ _ rfl _ _ rfl _ _ #[.slice A8 _ k8] (blk_own h87 hL7 hg8 (by omega)) (by simp) info_ints1 rfl rfl rfl ?_
    intro w9 h89 hg9
    refine wpList_nil ?_
    refine onlyN_normal ?_
    gi_wp2
    have hz8 := hg8.size
    have hlow8 : ∀ r, (Value.slice A7 L.length k7).ownBlock = some r → w.heap.size ≤ r := fun r e => by have := (hL7.lt r e).1; omega
    have hko : KeepsOthers W w9 := (KeepsOthers.of_grownBy (only_of_below hB7 none) (fun j o e _ => by cases e)).trans ((others_own hL7 hg8).trans (KeepsOthers.of_grownBy hg9 (fun j o e1 e2 => by injection e1 with e1; subst e1; exact cells_of_blk' (blk_own h87 hL7 hg8 (by omega)) e2)))
    have hne0 : ∀ k, k < w.heap.size → w9.heap[k]? = W.heap[k]? := fun k hk => (hg9.block k (by omega) (by simp; omega)).trans ((hg8.block k (by omega) (fun e => by have := hlow8 k e.symm; omega)).trans (hB7.block k (by omega)))
    refine ⟨hko, ⟨hne0 g (by omega), hne0 0 (by omega)⟩, _, h89, ?_, ?_, hMW.keep (fun k hk => hne0 k (by omega)) (by have := hg9.size; omega), fun i hi => (World.cell?_of_block (w := W) (hne0 0 (by omega))).trans (hTW i hi), grown_more (grown_more (grown_more hgr (only_of_below hB7 none) (fun r e => by cases e)) hg8 hlow8) hg9 (fun r e => by injection e with e; omega), by have := hg9.size; omega⟩
    · rw [numsI_snoc, ← HL.out]
      exact own_low hL8 hg9 (by omega)
    · exact own_box (own_own hS7 hL7 hg8 (by decide)) (blk_own h87 hL7 hg8 (by omega)) hg9 (by decide)
  case done =>
    rintro D xs W hD hxs hI hK
    rw [hxs, bits_all hx (words_room N)] at hI
    clear hxs xs
    gi_wp2
    gi_loopw [] (fun wr => ∃ y L, GoInv E N beg en x y L ∧ goI nb gm N E R base g c y w L wr ∧ wr.heap[D]? = some (Obj.deferred (some []))) (fun wr => goLeft N base g c w wr)
    case atStart => exact ⟨x, bitsTo x N, GoInv.start hx, hI, hK⟩
    case round =>
      clear hI hK
      obtain ⟨y, L, hG, ⟨v, h8, hL, hS, hMW, hTW, hgr, hlt⟩, hK⟩ := hrel
      obtain ⟨A7, k7, rfl, hk7, _⟩ := hL.shape
      rcases List.eq_nil_or_concat L with rfl | ⟨L, n, rfl⟩
      · have c8 : wr.cell? ⟨w.heap.size, 0, none⟩ = some (.slice A7 0 k7) := h8.cellv rfl
        gi_wp2
        refine ⟨by simp, .inl ⟨_, _, rfl, run_takeDeferred hK, ?_⟩⟩
        have hy := hG.end_ hM.1.tt hx
        subst hy
        have hg' := grownBy_putObj' wr D (.deferred none)
        refine ⟨_, results_none rfl _ _ _, rfl, hS.kept_ hg' (fun j e1 e2 => ?_), grown_more hgr hg' (fun r e => by injection e with e; omega)⟩
        have e3 : g = j := by simpa [Value.ownBlock] using e1
        injection e2 with e2
        omega
      · rw [List.concat_eq_append] at hG h8 hL hk7
        have hf : L.length + 1 = (L ++ [n]).length := by simp
        obtain ⟨gt, cap, hv, hgt1, hgt2, _⟩ := hL.form (by omega)
        injection hv with hA _ hcap
        subst hA; subst hcap
        have hrow : RowAt wr gt L.length (encN n) := by
          have := hL.row encN_size L.length (by omega)
          simpa only [Nat.mul_one, List.getElem_concat_length] using this
        have hpop := own_pop encN_size hL (by omega)
        rw [List.dropLast_concat] at hpop
        rw [← hf] at h8 hk7 hpop hL
        have hbn := hG.inL n (by simp)
        have hnN := hG.bel n hbn
        have hin := hG.pop
        obtain ⟨m, hm⟩ : ∃ m, m = L.length := ⟨_, rfl⟩
        rw [← hm] at h8 hk7 hpop hrow hin hL
        have c8 : wr.cell? ⟨w.heap.size, 0, none⟩ = some (.slice (some ⟨gt, 0, none⟩) (m + 1) k7) := h8.cellv rfl
        have ct : wr.cell? ⟨gt, m, none⟩ = some (.int .i64 (n : Int)) := hrow 0 _ rfl
        have hmI : (m : Int) ≤ k7 := by omega
        have hmb : m < 1099511628000 := by
          have h1 := hin.cnt
          have h2 := bitsTo_length y N
          omega
        rw [Nat.add_sub_cancel] at hpop
        have Hm := Lib.hid hm
        clear hm hf hrow
        have f8 := h8.frozen 0
        gi_upto_region 7 with (fail)
        obtain ⟨w2, hw2⟩ : ∃ z, z = wr.setCell ⟨w.heap.size, 0, none⟩ (.slice (some ⟨gt, 0, none⟩) m k7) := ⟨_, rfl⟩
        have h82 : Blk w2 w.heap.size 54 #[.slice (some ⟨gt, 0, none⟩) m k7] := by rw [hw2]; exact h8.set_eq rfl
        have hg2 : wr.grownBy w2 (some w.heap.size) := by rw [hw2]; exact only_setCell (only_refl _ _) (.inl rfl) _
        rw [← hw2]
        clear hw2 f8 c8 ct
        have hmu := goLeft_eq h8 hS hG.bel
        have hgE := hM.1
        have I2 : goI nb gm N E R base g c y w L w2 := ⟨_, h82, own_low hpop hg2 (by omega), own_box hS h8 hg2 (by decide), hMW.grown hg2 (by omega), fun i hi => (World.cell?_of_block (w := wr) (hg2.block 0 (by omega) (by simp; omega))).trans (hTW i hi), grown_more hgr hg2 (fun r e => by injection e with e; omega), by have := hg2.size; omega⟩
        have hK2 := deferred_blk hK h8 hg2
        clear h82 hg2 hpop hL hS hMW hTW hgr h8 hK hG
        obtain ⟨v2, h82, hL2, hS2, hM2, hT2, hgr2, hlt2⟩ := id I2
        obtain ⟨_, _, _, _, _, _, hgm, bm, nm, B, mR, dR, mf, hbm, hbl, _, _, hvm, hed⟩ := id hM2
        obtain ⟨A, l, cA, hmf, rfl, hAs⟩ := hed n hnN
        have cm : w2.cell? ⟨gm, 1, none⟩ = some (.map (some bm)) := hbl.cellv rfl
        have hEl : (edgesAt E n).length ≤ 1099511627776 := Nat.le_trans (List.length_filter_le _ _) hM2.2.2.1
        refine wpIn_wide.2 ?_
        go_wp2_with (at_lookup; refine wl_vmap_to hvm _ _ hmf rfl _ _ rfl rfl (wf_of_nat (by omega)) rfl ?_)
        clear cm
        obtain ⟨M, hMd⟩ : ∃ M, M = 2 * (N - (bitsTo y N).length) + (m + 1) := ⟨_, rfl⟩
        rw [← hMd] at hin hmu
        clear hMd hvm hmf hbl h82 hL2 hS2 hM2 hT2 hgr2 hlt2 hed
        gi_wp2
        gi_loopw [42] (fun i wi => ∃ j z L, j ≤ (edgesAt E n).length ∧ i = .int .i64 j ∧ GoIn E N beg en x M n j z L ∧ goI nb gm N E R base g c z w L wi ∧ (∀ k, k < nb → wi.heap[k]? = w2.heap[k]?) ∧ wi.heap[D]? = some (Obj.deferred (some []))) (fun i _ => (edgesAt E n).length - (intOf i).toNat)
        case atStart => exact ⟨0, y, L, by omega, rfl, hin, I2, fun _ _ => rfl, hK2⟩
        case round =>
          clear hin I2 hK2 Hm hbn hnN hmI hmb hk7 hgt1 hgt2
          obtain ⟨j, z, L, hj, rfl, hG, ⟨v8, h8, hL, hS, hMW, hTW, hgr, hlt⟩, hkeep, hK⟩ := hrel
          by_cases hjl : j < (edgesAt E n).length
          · have hjI : (j : Int) < ((edgesAt E n).length : Nat) := by omega
            obtain ⟨b, off, rfl, hb, hrows⟩ := hAs.at_ (by omega)
            have hr := (hrows j hjl).keep (hkeep b hb)
            obtain ⟨dd, hd⟩ : ∃ d, d = (edgesAt E n)[j] := ⟨_, rfl⟩
            rw [← hd] at hr
            have Hd := Lib.hid hd
            clear hd
            have hjb : j < 1099511628000 := by omega
            gi_upto_region 9 with (fail)
            refine wpIn_wide.2 ?_
            go_wp2_with (first | (refine wl_load_edge_at rfl _ rfl _ _ rfl _ hr ?_) | (refine wl_store_edge rfl _ _ rfl _ _ rfl rfl edge0 (Blk.new _ _ _) ?_; intro w3 h12 hg3))
            have hB3 := below_grown (below_alloc (Below.refl _ wr) (.cells #[.int .i64 0, .int .i64 0, .int .i64 0, .int .u64 0, .int .u64 0, .int .u64 0, .int .u64 0] 53)) hg3 (Nat.le_refl _)
            obtain ⟨k1, hk1⟩ : ∃ k, (dd.kd == 1) = k := ⟨_, rfl⟩
            obtain ⟨k3, hk3⟩ : ∃ k, (dd.kd == 3) = k := ⟨_, rfl⟩
            obtain ⟨k4, hk4⟩ : ∃ k, (dd.kd == 4) = k := ⟨_, rfl⟩
            have hmay : may beg en dd = ((k1 || (beg && k3)) || (en && k4)) := by unfold may; rw [hk1, hk3, hk4]
            gi_upto_region 10 with (fail)
            refine wpIn_wide.2 ?_
            refine wp_region_text 20 [eqS (.pointer (some ⟨wr.heap.size, 0, none⟩)), eqS (.int .i64 dd.kd), eqS (.bool k1), eqS (.bool k1), eqS (vF (!k1) (.bool beg)), eqS (vF (!k1) (.bool beg)), eqS (vF (!k1 && beg) (.pointer (some ⟨wr.heap.size, 0, none⟩))), eqS (vF (!k1 && beg) (.int .i64 dd.kd)), eqS (vF (!k1 && beg) (.bool k3)), eqS (vF (!k1) (.bool (beg && k3))), eqS (.bool (k1 || (beg && k3))), eqS (.bool (k1 || (beg && k3))), eqS (vF (!(k1 || (beg && k3))) (.bool en)), eqS (vF (!(k1 || (beg && k3))) (.bool en)), eqS (vF (!(k1 || (beg && k3)) && en) (.pointer (some ⟨wr.heap.size, 0, none⟩))), eqS (vF (!(k1 || (beg && k3)) && en) (.int .i64 dd.kd)), eqS (vF (!(k1 || (beg && k3)) && en) (.bool k4)), eqS (vF (!(k1 || (beg && k3))) (.bool (en && k4))), eqS (.bool ((k1 || (beg && k3)) || (en && k4))), eqS (.bool ((k1 || (beg && k3)) || (en && k4)))] [46, 47, 48, 49, 50, 51, 52, 53, 54, 55, 56, 57, 58, 59, 60, 61, 62, 63, 64, 13] (by kernel_rfl) rfl ?_ ?_
            · skip
              refine Steps.cons (fun a' w' hG hB dep => gs_field (want_none rfl) _ _ _ rfl wr.heap.size 0 0 (hG.other 12 rfl) (field_edge_0 _ _) rfl) ?_
              refine Steps.cons (fun a' w' hG hB dep => gs_load1 (want_none rfl) _ _ rfl wr.heap.size 0 (dep 0 rfl 46 rfl) (.int .i64 dd.kd) ((blk_then h12 hB).cellv (i := 0) rfl) _ Tryd.underlying3 rfl rfl) ?_
              refine Steps.cons (fun a' w' hG hB dep => gs_eql_int (want_none rfl) _ _ _ _ rfl _ _ _ (dep 1 rfl 47 rfl) rfl (congrArg Value.bool hk1)) ?_
              refine Steps.cons (fun a' w' hG hB dep => gs_move (want_none rfl) _ rfl (dep 2 rfl 48 rfl)) ?_
              refine Steps.cons (fun a' w' hG hB dep => gs_guard (c := true) rfl rfl (dep 3 rfl 49 rfl) (fun _ e hw => gs_move hw _ rfl (Eq.trans (hG.other 2 rfl) (vF_yes (on_not e) _).symm)) (fun e => vF_no (off_not e) _)) ?_
              refine Steps.cons (fun a' w' hG hB dep => gs_guard (c := true) rfl rfl (dep 3 rfl 49 rfl) (fun _ e hw => gs_move hw _ rfl (dep 4 rfl 50 rfl)) (fun e => vF_no (off_not e) _)) ?_
              refine Steps.cons (fun a' w' hG hB dep => gs_guard (c := !k1) rfl rfl (dep 5 rfl 51 rfl) (fun c e hw => gs_field hw _ _ _ rfl wr.heap.size 0 0 (hG.other 12 rfl) (field_edge_0 _ _) (vF_and c e _).symm) (fun e => vF_no (off_and e) _)) ?_
              refine Steps.cons (fun a' w' hG hB dep => gs_guard (c := !k1) rfl rfl (dep 5 rfl 51 rfl) (fun c e hw => gs_load1 hw _ _ rfl wr.heap.size 0 (Eq.trans (dep 6 rfl 52 rfl) (vF_and c e _)) (.int .i64 dd.kd) ((blk_then h12 hB).cellv (i := 0) rfl) _ Tryd.underlying3 rfl (vF_and c e _).symm) (fun e => vF_no (off_and e) _)) ?_
              refine Steps.cons (fun a' w' hG hB dep => gs_guard (c := !k1) rfl rfl (dep 5 rfl 51 rfl) (fun c e hw => gs_eql_int hw _ _ _ _ rfl _ _ _ (Eq.trans (dep 7 rfl 53 rfl) (vF_and c e _)) rfl ((congrArg Value.bool hk3).trans (vF_and c e _).symm)) (fun e => vF_no (off_and e) _)) ?_
              refine Steps.cons (fun a' w' hG hB dep => gs_guard (c := true) rfl rfl (dep 3 rfl 49 rfl) (fun _ e hw => gs_pick hw _ _ _ rfl beg (Eq.trans (dep 5 rfl 51 rfl) (vF_yes (on_not e) _)) ((pick_and ((dep 8 rfl 54 rfl).trans (congrArg (fun q => vF (q && beg) (.bool k3)) (on_not e)))).trans (vF_yes (on_not e) _).symm)) (fun e => vF_no (off_not e) _)) ?_
              refine Steps.cons (fun a' w' hG hB dep => gs_pick (want_none rfl) _ _ _ rfl k1 (dep 3 rfl 49 rfl) (pick_or (dep 9 rfl 55 rfl))) ?_
              refine Steps.cons (fun a' w' hG hB dep => gs_move (want_none rfl) _ rfl (dep 10 rfl 56 rfl)) ?_
              refine Steps.cons (fun a' w' hG hB dep => gs_guard (c := true) rfl rfl (dep 11 rfl 57 rfl) (fun _ e hw => gs_move hw _ rfl (Eq.trans (hG.other 3 rfl) (vF_yes (on_not e) _).symm)) (fun e => vF_no (off_not e) _)) ?_
              refine Steps.cons (fun a' w' hG hB dep => gs_guard (c := true) rfl rfl (dep 11 rfl 57 rfl) (fun _ e hw => gs_move hw _ rfl (dep 12 rfl 58 rfl)) (fun e => vF_no (off_not e) _)) ?_
              refine Steps.cons (fun a' w' hG hB dep => gs_guard (c := !(k1 || (beg && k3))) rfl rfl (dep 13 rfl 59 rfl) (fun c e hw => gs_field hw _ _ _ rfl wr.heap.size 0 0 (hG.other 12 rfl) (field_edge_0 _ _) (vF_and c e _).symm) (fun e => vF_no (off_and e) _)) ?_
              refine Steps.cons (fun a' w' hG hB dep => gs_guard (c := !(k1 || (beg && k3))) rfl rfl (dep 13 rfl 59 rfl) (fun c e hw => gs_load1 hw _ _ rfl wr.heap.size 0 (Eq.trans (dep 14 rfl 60 rfl) (vF_and c e _)) (.int .i64 dd.kd) ((blk_then h12 hB).cellv (i := 0) rfl) _ Tryd.underlying3 rfl (vF_and c e _).symm) (fun e => vF_no (off_and e) _)) ?_
              refine Steps.cons (fun a' w' hG hB dep => gs_guard (c := !(k1 || (beg && k3))) rfl rfl (dep 13 rfl 59 rfl) (fun c e hw => gs_eql_int hw _ _ _ _ rfl _ _ _ (Eq.trans (dep 15 rfl 61 rfl) (vF_and c e _)) rfl ((congrArg Value.bool hk4).trans (vF_and c e _).symm)) (fun e => vF_no (off_and e) _)) ?_
              refine Steps.cons (fun a' w' hG hB dep => gs_guard (c := true) rfl rfl (dep 11 rfl 57 rfl) (fun _ e hw => gs_pick hw _ _ _ rfl en (Eq.trans (dep 13 rfl 59 rfl) (vF_yes (on_not e) _)) ((pick_and ((dep 16 rfl 62 rfl).trans (congrArg (fun q => vF (q && en) (.bool k4)) (on_not e)))).trans (vF_yes (on_not e) _).symm)) (fun e => vF_no (off_not e) _)) ?_
              refine Steps.cons (fun a' w' hG hB dep => gs_pick (want_none rfl) _ _ _ rfl (k1 || (beg && k3)) (dep 11 rfl 57 rfl) (pick_or (dep 17 rfl 63 rfl))) ?_
              refine Steps.cons (fun a' w' hG hB dep => gs_assign (want_none rfl) _ rfl (dep 18 rfl 64 rfl)) ?_
              exact Steps.nil
            clear hk1 hk3 hk4
            rw [← hmay]
            intro u W4 hB4 ans
            have u13 : u 13 = .bool (may beg en dd) := (ans 19 13 (by decide) rfl)
            clear ans hmay
            obtain ⟨f, hmay⟩ : ∃ f, may beg en dd = f := ⟨_, rfl⟩
            rw [hmay] at u13
            simp only [putAll, List.foldl_cons, List.foldl_nil, Act.put, List.setIfInBounds_toArray, List.set_cons_zero, List.set_cons_succ, u13]
            clear u13
            simp only [List.drop]
            refine wpList_nil ?_
            have hB4 := below_then hB3 hB4
            have h12 := blk_then h12 (‹Below w3.heap.size w3 W4›)
            have hmem := List.getElem_mem hjl
            rw [mem_edgesAt, ← Hd.out] at hmem
            have htt := hgE.tt dd hmem.1
            obtain ⟨t, ht⟩ : ∃ t : Nat, dd.tt = (t : Int) := ⟨dd.tt.toNat, by omega⟩
            have htn : dd.tt.toNat = t := by omega
            have c2 : W4.cell? ⟨wr.heap.size, 2, none⟩ = some (.int .i64 (t : Int)) := by rw [← ht]; exact h12.cellv (i := 2) rfl
            have I4 : goI nb gm N E R base g c z w L W4 := ⟨v8, blk_then h8 hB4, hL.then_ hB4, hS.then_ hB4, hMW.below hB4 hMW.2.2.2.2.2.1, hTW.then_ hTW.size hB4, grown_more hgr (only_of_below hB4 none) (fun r e => by cases e), Nat.lt_of_lt_of_le hlt hB4.size⟩
            have hK4 := deferred_then hK hB4
            have hkeep4 : ∀ k, k < nb → W4.heap[k]? = w2.heap[k]? := fun k hk => (hB4.block k (by have := hMW.2.2.2.2.2.1; omega)).trans (hkeep k hk)
            have htN : t < 64 * wordsFor N := by have := words_room N; omega
            have hlr := hlt
            clear hB3 hg3 h8 hL hS hMW hTW hgr hlt hK hkeep hr
            cases f
            · gi_upto_region 11 with (fail)
              refine wpIn_wide.2 ?_
              go_wp2_with (fail)
              gi_wp2
              exact ⟨⟨j + 1, z, L, by omega, rfl, hG.skip hjl (by rw [← Hd.out, hmay]; exact fun h => (Bool.false_ne_true h).elim), I4, hkeep4, hK4⟩, by simp only [intOf]; omega⟩
            · obtain ⟨v8, h8, hL, hS, hMW, hTW, hgr, hlt⟩ := I4
              gi_upto_region 11 with (fail)
              refine wpIn_wide.2 ?_
              have hhas := shas_any _ _ c z t htN hkb _ _ (hS.slice_all encU_size)
              cases hzt : z.testBit t
              · rw [hzt] at hhas
                go_wp2_with (go_at_call 40; refine hhas.mono ?_; rintro e w5 ⟨rfl, rfl⟩)
                clear hhas
                gi_upto_region 12 with (fail)
                refine wpIn_wide.2 ?_
                go_wp2_with (go_at_call 33; refine (sadd_any g (wordsFor N) c z t base htN hkb _ hS).mono ?_; rintro e w6 ⟨rfl, hS6, hg6⟩)
                replace h12 := blk_grown h12 hg6 (by omega)
                replace h8 := blk_grown h8 hg6 (by omega)
                replace hL := own_low hL hg6 (by omega)
                replace hMW := hMW.grown hg6 (by omega)
                replace hTW : TabOk w6 := fun i hi => (World.cell?_of_block (hg6.block 0 (by omega) (by simp; omega))).trans (hTW i hi)
                replace hgr := hgr.trans hg6
                replace hK4 := deferred_own hK4 hS hg6
                replace hkeep4 : ∀ k, k < nb → w6.heap[k]? = w2.heap[k]? := fun k hk => (hg6.block k (by omega) (by simp; omega)).trans (hkeep4 k hk)
                replace c2 : w6.cell? ⟨wr.heap.size, 2, none⟩ = some (.int .i64 (t : Int)) := by rw [← ht]; exact h12.cellv (i := 2) rfl
                have hlt6 := Nat.lt_of_lt_of_le hlt hg6.size
                clear hS hlt hg6
                have hLN : L.length + 1 ≤ N := by
                  have h1 := hG.cnt
                  have h2 := bitsTo_length z N
                  omega
                have hGa := hG.add (fun d hd => hgE.tt d hd) hjl (by rw [← Hd.out]; exact hmay) (by rw [← Hd.out, htn]; exact hzt)
                rw [← Hd.out, htn] at hGa
                obtain ⟨A7, k7', rfl, _, _⟩ := hL.shape
                have c8 : w6.cell? ⟨w.heap.size, 0, none⟩ = some (.slice A7 L.length k7') := h8.cellv rfl
                obtain ⟨i1, hi1, hy0, hy1, hy2⟩ := info_parts info_int3
                gi_upto_region 13 with (fail)
                refine wpIn_wide.2 ?_
                go_wp2_with (at_builtin; refine park ?_)
                refine Parked.mk ?_
                have hone := slice_one (enc := encN) (size := 1) (y := t) (w := w6.alloc (.cells #[.int .i64 (t : Int)] 3)) (g := w6.heap.size) (t := 3) (Blk.new _ _ _)
                have hB7 : Below w6.heap.size w6 (w6.alloc (.cells #[.int .i64 (t : Int)] 3)) := below_alloc (Below.refl _ _) _
                have hL7 := hL.then_ hB7
                have h87 := blk_then h8 hB7
                have hsz7 := hB7.size
                refine wl_append _ rfl _ _ 54 rfl (w.heap.size + 1) 3 i1 _ 1 8 Tryd.underlying54 hi1 hy0 hy1 hy2 rfl (by decide) encN_size encN_one (.slice A7 _ k7') _ rfl hL7 _ _ 1 1 [t] rfl rfl hone (by unfold maxLen; omega) (by omega) (by omega) ?_
                intro v9 w8 hL8 hg8 hat8
                obtain ⟨A8, k8, rfl, _, _⟩ := hL8.shape
                simp only [Act.put, List.setIfInBounds_toArray, List.set_cons_zero, List.set_cons_succ]
                refine wl_store_cell rfl _ _ _ rfl _ _ rfl _ _ #[.slice A8 _ k8] (blk_own h87 hL7 hg8 (by omega)) (by simp) info_ints1 rfl rfl rfl ?_
                intro w9 h89 hg9
                refine wpList_nil ?_
                have hz8 := hg8.size
                have hz9 := hg9.size
                have hlow8 : ∀ r, (Value.slice A7 L.length k7').ownBlock = some r → w.heap.size ≤ r := fun r e => by have := (hL7.lt r e).1; omega
                have hne0 : ∀ k, k < w.heap.size → w9.heap[k]? = w6.heap[k]? := fun k hk => (hg9.block k (by omega) (by simp; omega)).trans ((hg8.block k (by omega) (fun e => by have := hlow8 k e.symm; omega)).trans (hB7.block k (by omega)))
                have I9 : goI nb gm N E R base g c (z ||| 2 ^ t) w (L ++ [t]) w9 := ⟨_, h89, own_low hL8 hg9 (by omega), own_box (own_own (hS6.then_ hB7) hL7 hg8 (by decide)) (blk_own h87 hL7 hg8 (by omega)) hg9 (by decide), hMW.keep (fun k hk => hne0 k (by omega)) (by omega), fun i hi => (World.cell?_of_block (w := w6) (hne0 0 (by omega))).trans (hTW i hi), grown_more (grown_more (grown_more hgr (only_of_below hB7 none) (fun r e => by cases e)) hg8 hlow8) hg9 (fun r e => by injection e with e; omega), by omega⟩
                have hK9 := deferred_blk (deferred_own (deferred_then hK4 hB7) hL7 hg8) (blk_own h87 hL7 hg8 (by omega)) hg9
                clear hgr hg8 hg9 h89 hL8 hL7 h87 hone hB7 hi1 hy0 hy1 hy2 h12 h8 hL hS6 hMW hTW hK4 c8 c2
                gi_wp2
                exact ⟨⟨j + 1, z ||| 2 ^ t, L ++ [t], by omega, rfl, hGa, I9, fun k hk => (hne0 k (by omega)).trans (hkeep4 k hk), hK9⟩, by simp only [intOf]; omega⟩
              · rw [hzt] at hhas
                go_wp2_with (go_at_call 40; refine hhas.mono ?_; rintro e w5 ⟨rfl, rfl⟩)
                gi_wp2
                exact ⟨⟨j + 1, z, L, by omega, rfl, hG.skip hjl (by rw [← Hd.out, htn]; exact fun _ => hzt), ⟨v8, h8, hL, hS, hMW, hTW, hgr, hlt⟩, hkeep4, hK4⟩, by simp only [intOf]; omega⟩
          · have hjI : ¬ (j : Int) < ((edgesAt E n).length : Nat) := by omega
            gi_wp2
            obtain ⟨A8, k8, rfl, _, _⟩ := hL.shape
            have hGf := hG.finish (fun d hd => hgE.fr d hd) (by omega)
            refine ⟨⟨z, L, hGf, ⟨_, h8, hL, hS, hMW, hTW, hgr, hlt⟩, hK⟩, ?_⟩
            rw [hmu, goLeft_eq h8 hS hG.bel]
            exact hG.mu
  case stop =>
    rintro D c pre W _ _ h _
    exact h.elim
end Go.Proofs.YtgahdookojbbiaaDoor
