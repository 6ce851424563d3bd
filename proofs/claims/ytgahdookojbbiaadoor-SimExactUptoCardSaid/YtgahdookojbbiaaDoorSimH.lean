/- sim.Walk's Byte. No condition beyond those named in each lemma. -/
import Derived.Test.YtgahdookojbbiaaDoorSimG
import Derived.Test.YtgahdookojbbiaaDoorHop
namespace Go.Proofs.YtgahdookojbbiaaDoor
open Go.RowKit Go.Shelf Go.Maps
set_option linter.unusedVariables false
set_option linter.unusedSimpArgs false
attribute [local go_sem] Oper.semAt_some

theorem wpList_w {P : Program} {ops : Array Oper} {rest : List Oper} {o : Oper} {a : Act} {w : World} {Q : Exit → Act → World → Prop} (hw : Region.wanted o (yielded ops a.tmps) = true) (h : wpList P ops Q ({ o with guard := none } :: rest) a w) : wpList P ops Q (o :: rest) a w := by
  unfold wpList at h ⊢
  rw [if_pos (by simp [Region.wanted])] at h
  rw [if_pos hw]
  exact h
theorem wl_load_set_g {ops : Array Oper} {rest : List Oper} {o : Oper} {a : Act} {w : World} {Q : Exit → Act → World → Prop} (hw : Region.wanted o (yielded ops a.tmps) = true) (x : Operand) (ho : o.op = .load 51 x)
    (b off : Nat) (hx : a.eval x = .pointer (some ⟨b, off, none⟩)) (y : BSet) (hr : RowAt w b off (setC y))
    (h : wpList Tryd.prog ops Q rest (a.put o.dst (.agg (setC y))) w) : wpList Tryd.prog ops Q (o :: rest) a w :=
  wpList_w hw (wl_load_set_at (o := { o with guard := none }) rfl x ho b off hx y hr h)
theorem info_bool1 : (Tryd.prog.info? 4).map (·.size) = some 1 := by kernel_rfl
/-- what the boxes of Byte hold while the set is gone through -/
def byI (nb gm gw N : Nat) (E : List Edg) (R : List Nat) (cb base g1 c1 y bs : Nat) (vw : Array Value) (w W3 W : World) : Prop :=
  Blk W w.heap.size 36 #[.pointer (some ⟨gw, 0, none⟩)] ∧ Blk W (w.heap.size + 1) 5 #[.int .u8 (cb : Int)] ∧ Blk W bs 69 #[.slice (some ⟨g1, 0, none⟩) (wordsFor N) c1] ∧ Blk W gw 71 vw ∧
    Own W base 49 1 encU (.slice (some ⟨g1, 0, none⟩) (wordsFor N) c1) (wordsN y (wordsFor N)) ∧ MachOk nb W gm N E R ∧ TabOk W ∧ Below w.heap.size w W ∧ W3.heap.size ≤ W.heap.size
set_option maxRecDepth 100000 in
set_option maxHeartbeats 4000000 in
theorem byte_any (lo nb gw gm N : Nat) (E : List Edg) (R : List Nat) (k : Wk) (cb : Nat) (hcb : cb < 256) (w : World) (h : WalkOk lo nb w gw gm N E R k) (hT : TabOk w) :
    Calls Tryd.prog 14 #[.pointer (some ⟨gw, 0, none⟩), .int .u8 (cb : Int)] w fun e w' => e = .returned (.tuple #[]) ∧ WalkOk lo nb w' gw gm N E R (byteW E N R k cb) ∧ w.grownBy w' (some gw) := by
  refine (callsIn_wide (n := 6)).1 ?_
  refine callsIn_of_wp_marks Tryd.func14 rfl trivial ?_ rfl
  simp only [Tryd.ntmps14, List.size_toArray, List.length_cons, List.length_nil, Nat.reduceAdd, Nat.reduceSub, Array.replicate_succ, Array.replicate_zero, List.push_toArray, List.append_toArray, List.nil_append, List.cons_append]
  obtain ⟨hMI, hnw, hr, hx, g, c, hne, hw, hs⟩ := h
  obtain ⟨x, r, b⟩ := k
  simp only at hr hx hw hs
  have hM := hMI.ok
  have hN := hM.2.1
  have hone := hM.1.one
  have hnb0 := hM.2.2.2.2.1
  have hnb2 := hM.2.2.2.2.2.1
  have hkb : wordsFor N ≤ 1099511627776 := by unfold wordsFor; omega
  have hk1 : 0 < wordsFor N := by unfold wordsFor; omega
  have hx64 : below x (64 * wordsFor N) := fun i hi => Nat.lt_of_lt_of_le (hx i hi) (words_room N)
  have hgb := hs.lt g rfl
  have hlw := hw.lt
  gi_upto_region 1 with (fail)
  have b2 := (Blk.new w 36 #[.pointer (some ⟨gw, 0, none⟩)]).alloc (.cells #[.int .u8 (cb : Int)] 5)
  have b3 := Blk.new' (n := w.heap.size + 1) (w.alloc (.cells #[.pointer (some ⟨gw, 0, none⟩)] 36)) 5 #[.int .u8 (cb : Int)] (by simp)
  have hB0 := below_alloc (below_alloc (Below.refl w.heap.size w) (.cells #[.pointer (some ⟨gw, 0, none⟩)] 36)) (.cells #[.int .u8 (cb : Int)] 5)
  have hz0 : ((w.alloc (.cells #[.pointer (some ⟨gw, 0, none⟩)] 36)).alloc (.cells #[.int .u8 (cb : Int)] 5)).heap.size = w.heap.size + 1 + 1 := by simp
  obtain ⟨W0, hW0⟩ : ∃ y, y = (w.alloc (.cells #[.pointer (some ⟨gw, 0, none⟩)] 36)).alloc (.cells #[.int .u8 (cb : Int)] 5) := ⟨_, rfl⟩
  rw [← hW0] at b2 b3 hB0 hz0 ⊢
  clear hW0
  have hw0 := blk_then hw hB0
  have hM0 := hM.below hB0 hnb2
  have a2 : W0.cell? ⟨w.heap.size, 0, none⟩ = some (.pointer (some ⟨gw, 0, none⟩)) := b2.cellv rfl
  have aw : W0.cell? ⟨gw, 0, none⟩ = some (.pointer (some ⟨gm, 0, none⟩)) := hw0.cellv (i := 0) rfl
  gi_upto_region 2 with (refine ⟨trivial, ?_⟩; gi_at_call 28; refine (callsIn_wide.2 (none_any nb gm N E R W0 hM0)).mono ?_; rintro e w5 ⟨g1, c1, rfl, hg1, hs1, hB1⟩)
  have c2 := (blk_then b2 hB1).alloc (.cells #[.slice (some ⟨g1, 0, none⟩) (wordsFor N) c1] 69)
  have c3 := (blk_then b3 hB1).alloc (.cells #[.slice (some ⟨g1, 0, none⟩) (wordsFor N) c1] 69)
  have c4 := Blk.new w5 69 #[.slice (some ⟨g1, 0, none⟩) (wordsFor N) c1]
  have cw := (blk_then hw0 hB1).alloc (.cells #[.slice (some ⟨g1, 0, none⟩) (wordsFor N) c1] 69)
  have hs2 := hs1.alloc (.cells #[.slice (some ⟨g1, 0, none⟩) (wordsFor N) c1] 69)
  have hB2 := below_alloc (below_then hB0 hB1) (.cells #[.slice (some ⟨g1, 0, none⟩) (wordsFor N) c1] 69)
  have hz1 := hB1.size
  have hz2 : (w5.alloc (.cells #[.slice (some ⟨g1, 0, none⟩) (wordsFor N) c1] 69)).heap.size = w5.heap.size + 1 := by simp
  obtain ⟨bs, hbs⟩ : ∃ y, y = w5.heap.size := ⟨_, rfl⟩
  rw [← hbs] at c4 hz2 hz1 ⊢
  obtain ⟨W2, hW2⟩ : ∃ y, y = w5.alloc (.cells #[.slice (some ⟨g1, 0, none⟩) (wordsFor N) c1] 69) := ⟨_, rfl⟩
  rw [← hW2] at c2 c3 c4 cw hs2 hB2 hz2 ⊢
  rw [hz0] at hs2
  clear hW2 hbs hs1 hB1 b2 b3 hw0 hB0 hM0 a2 aw
  have hT2 := hT.then_ hT.size hB2
  have hM2 := hM.below hB2 hnb2
  have a2 : W2.cell? ⟨w.heap.size, 0, none⟩ = some (.pointer (some ⟨gw, 0, none⟩)) := c2.cellv rfl
  have aw : W2.cell? ⟨gw, 1, none⟩ = some (.slice (some ⟨g, 0, none⟩) (wordsFor N) c) := cw.cellv (i := 1) rfl
  gi_wp2_with (refine ⟨trivial, ?_⟩; gi_at_call 31; refine (callsIn_wide.2 (each_any _ _ _ _)).mono ?_; rintro e w5 ⟨rfl, rfl⟩)
  clear a2 aw
  have e2 := c2.alloc (.cells #[.slice (some ⟨g, 0, none⟩) (wordsFor N) c] 69)
  have e3 := c3.alloc (.cells #[.slice (some ⟨g, 0, none⟩) (wordsFor N) c] 69)
  have e4 := c4.alloc (.cells #[.slice (some ⟨g, 0, none⟩) (wordsFor N) c] 69)
  have ew := cw.alloc (.cells #[.slice (some ⟨g, 0, none⟩) (wordsFor N) c] 69)
  have ex := Blk.new' (n := bs + 1) W2 69 #[.slice (some ⟨g, 0, none⟩) (wordsFor N) c] hz2.symm
  have hs3 := hs2.alloc (.cells #[.slice (some ⟨g, 0, none⟩) (wordsFor N) c] 69)
  have hB3 := below_alloc hB2 (.cells #[.slice (some ⟨g, 0, none⟩) (wordsFor N) c] 69)
  obtain ⟨W3, hW3⟩ : ∃ y, y = W2.alloc (.cells #[.slice (some ⟨g, 0, none⟩) (wordsFor N) c] 69) := ⟨_, rfl⟩
  rw [← hW3] at e2 e3 e4 ew ex hs3 hB3 ⊢
  clear hW3 c2 c3 c4 cw hs2 hB2 hT2 hM2
  have hM3 := hM.below hB3 hnb2
  have hT3 := hT.then_ hT.size hB3
  have hs0 := hs.then_ hB3
  have hgl := ex.lt
  have hg1b := hs3.lt g1 rfl
  have hrow : ∀ i (h : i < (wordsN x (wordsFor N)).length), RowAt W3 g (0 + i) (encU (wordsN x (wordsFor N))[i]) := fun i h => by
    have := hs0.row encU_size i h
    rw [Nat.mul_one] at this
    rw [Nat.zero_add]
    exact this
  refine wpIn_rangeFunc_ownF (n := 6) rfl (by decide) (gf := 38) (lb := #[.pointer (some ⟨bs + 1, 0, none⟩)]) rfl trivial (enters_of Tryd.func38 (by kernel_rfl) rfl)
    (each_stops x (wordsFor N) c g 0 5 (bs + 1) W3 hkb hx64 ex (by omega) hrow hT3) KpS.trans (fun W l o o' hl _ _ _ => ⟨World.putObj_heap_other (by omega), World.putObj_heap_other (by omega)⟩) (Below.refl _ _) (fun _ => rfl)
    (fun pre W => byI nb gm gw N E R cb (w.heap.size + 1 + 1) g1 c1 (hopL E cb (numsI pre) 0) bs (walkC gm (.slice (some ⟨g, 0, none⟩) (wordsFor N) c) r b) w W3 W) (fun _ _ _ => False) (fun pre X Y row hi hg hr => ?turn) (fun _ => fun _ _ _ _ hs _ _ => hs)
    ⟨e2, e3, e4, ew, hs3, hM3, hT3, hB3, Nat.le_refl _⟩
    (fun r => { tmps := #[.pointer (some ⟨gw, 0, none⟩), .int .u8 (cb : Int), .pointer (some ⟨w.heap.size, 0, none⟩), .pointer (some ⟨w.heap.size + 1, 0, none⟩), .pointer (some ⟨bs, 0, none⟩), .int .i64 (r.1 : Int), undef, undef, .pointer (some ⟨gw, 0, none⟩), .pointer (some ⟨gw, 0, none⟩), .pointer (some ⟨gw, 0, none⟩), .pointer (some ⟨gm, 0, none⟩), .slice (some ⟨g1, 0, none⟩) (wordsFor N) c1, .pointer (some ⟨gw, 0, none⟩), .pointer (some ⟨gw, 0, none⟩), .pointer (some ⟨gw, 1, none⟩), .slice (some ⟨g, 0, none⟩) (wordsFor N) c, .func (.func 38) #[] #[.pointer (some ⟨bs + 1, 0, none⟩)], .int .i64 (r.1 : Int), undef, undef, undef, undef, undef, undef, undef, undef, undef, undef, undef, undef, undef, undef, undef, undef, undef, undef, undef, undef, undef, undef, undef, undef, undef, undef, undef, undef, undef, undef, undef, undef, undef, undef], defers := [] }) ?assign ?body ?done ?stop
  case turn =>
    obtain ⟨h1, h2, h3, h4, h5, h6, h7, h8, h9⟩ := hi
    exact ⟨blk_turn' h1 hg hr, blk_turn' h2 hg hr, blk_turn' h3 hg hr, blk_turn' h4 hg hr, own_turn h5 hg hr, mach_turn h6 hg hr (by omega), fun i hi => (World.cell?_of_block (w := X) (hg.block 0 (by omega) (fun e => by have := (hr 0 e.symm).1; omega))).trans (h7 i hi), h8.grown hg h8.size (fun k e => by have := (hr k e).1; omega), Nat.le_trans h9 hg.size⟩
  case assign =>
    intro l r W K hK
    unfold encI
    gi_wp2
    exact hK
  case body =>
    rintro l pre ⟨n, hn⟩ W I0 hlen
    have hnN := hx n hn
    obtain ⟨h2, h3, h4, h5, hS, hMW, hTW, hBW, hlt⟩ := id I0
    obtain ⟨hgE, _, _, _, _, _, hgm, bm, nm, B, mR, dR, mf, hbm, hbl, _, _, hvm, hed⟩ := id hMW
    obtain ⟨A, le, cA, hmf, rfl, hAs⟩ := hed n hnN
    have hEl : (edgesAt E n).length ≤ 1099511627776 := Nat.le_trans (List.length_filter_le _ _) hMW.2.2.1
    have a2 : W.cell? ⟨w.heap.size, 0, none⟩ = some (.pointer (some ⟨gw, 0, none⟩)) := h2.cellv rfl
    have aw : W.cell? ⟨gw, 0, none⟩ = some (.pointer (some ⟨gm, 0, none⟩)) := h5.cellv (i := 0) rfl
    have am : W.cell? ⟨gm, 1, none⟩ = some (.map (some bm)) := hbl.cellv rfl
    obtain ⟨y0, hy0⟩ : ∃ y, y = hopL E cb (numsI pre) 0 := ⟨_, rfl⟩
    have hy1 : hopL E cb (numsI (pre ++ [⟨n, hn⟩])) 0 = hopE (edgesAt E n) cb y0 := by rw [numsI_snoc, hopL_snoc, hy0]
    rw [← hy0] at I0
    have Hy1 := Lib.hid hy1
    clear hy0 hy1
    gi_upto_region 4 with (fail)
    refine region_in (by kernel_rfl) ?_
    go_wp2_with (at_lookup; refine wl_vmap_to hvm _ _ hmf rfl _ _ rfl rfl (wf_of_nat (by omega)) rfl ?_)
    refine onlyN_normal ?_
    have hBW0 := hBW
    clear h2 h3 h4 h5 hS hMW hTW hBW hlt hbl hvm hed hmf a2 aw am
    gi_wp2
    gi_loopw [29] (fun i wi => ∃ j, j ≤ (edgesAt E n).length ∧ i = .int .i64 j ∧ byI nb gm gw N E R cb (w.heap.size + 1 + 1) g1 c1 (hopE ((edgesAt E n).take j) cb y0) bs (walkC gm (.slice (some ⟨g, 0, none⟩) (wordsFor N) c) r b) w W3 wi ∧ KeepsOthers W wi ∧ W.heap.size ≤ wi.heap.size) (fun i _ => (edgesAt E n).length - (intOf i).toNat)
    case atStart => exact ⟨0, by omega, rfl, I0, KeepsOthers.refl _, Nat.le_refl _⟩
    case round =>
      obtain ⟨j, hj, rfl, I1, hko, hsz⟩ := hrel
      by_cases hjl : j < (edgesAt E n).length
      · have hjI : (j : Int) < ((edgesAt E n).length : Nat) := by omega
        obtain ⟨h2, h3, h4, h5, hS, hMW, hTW, hBW, hlt⟩ := id I1
        obtain ⟨bE, off, rfl, hbE, hrows⟩ := hAs.at_ (by omega)
        have hr0 := (hrows j hjl).keep ((hBW.block bE (by omega)).trans (hBW0.block bE (by omega)).symm)
        obtain ⟨dd, hd⟩ : ∃ d, d = (edgesAt E n)[j] := ⟨_, rfl⟩
        rw [← hd] at hr0
        have hstep := hopE_take (edgesAt E n) cb y0 j hjl
        rw [← hd] at hstep
        have hmem := List.getElem_mem hjl
        rw [mem_edgesAt, ← hd] at hmem
        obtain ⟨hdE, hdn⟩ := hmem
        clear hd
        have hjb : j < 1099511628000 := by omega
        obtain ⟨y1, hy1⟩ : ∃ y, y = hopE ((edgesAt E n).take j) cb y0 := ⟨_, rfl⟩
        rw [← hy1] at hS hstep
        have Hst := Lib.hid hstep
        clear hy1 hstep
        clear I1
        gi_upto_region 6 with (fail)
        refine region_in (by kernel_rfl) ?_
        go_wp2_with (first | (refine wl_load_edge_at rfl _ rfl _ _ rfl _ hr0 ?_) | (refine wl_store_edge rfl _ _ rfl _ _ rfl rfl edge0 (Blk.new _ _ _) ?_; intro w6 h7 hg6))
        refine onlyN_normal ?_
        have hB6 := below_grown (below_alloc (Below.refl _ wr) (.cells #[.int .i64 0, .int .i64 0, .int .i64 0, .int .u64 0, .int .u64 0, .int .u64 0, .int .u64 0] 53)) hg6 (Nat.le_refl _)
        clear hr0 hg6
        have htt := hgE.tt dd hdE
        obtain ⟨t, ht⟩ : ∃ t : Nat, dd.tt = (t : Int) := ⟨dd.tt.toNat, by omega⟩
        have htn : dd.tt.toNat = t := by omega
        have htN : t < 64 * wordsFor N := by have := words_room N; omega
        replace h2 := blk_then h2 hB6
        replace h3 := blk_then h3 hB6
        replace h4 := blk_then h4 hB6
        replace h5 := blk_then h5 hB6
        replace hS := hS.then_ hB6
        replace hMW := hMW.below hB6 hMW.2.2.2.2.2.1
        replace hTW := hTW.then_ hTW.size hB6
        replace hBW := below_then hBW hB6
        replace hko := hko.trans (KeepsOthers.of_grownBy (only_of_below hB6 none) (fun j o e _ => by cases e))
        have hs6 := hB6.size
        by_cases hk : dd.kd = 2
        · have c0 : w6.cell? ⟨wr.heap.size, 0, none⟩ = some (.int .i64 2) := by rw [← hk]; exact h7.cellv (i := 0) rfl
          have a3 : w6.cell? ⟨w.heap.size + 1, 0, none⟩ = some (.int .u8 (cb : Int)) := h3.cellv rfl
          gi_upto_region 7 with (fail)
          refine region_in (by kernel_rfl) ?_
          have hhas := fun w => has_any dd.st cb hcb w
          cases hst : dd.st.getLsbD cb
          · rw [hst] at hhas
            go_wp2_with (first | (refine wl_load_set_g (want_yes rfl rfl rfl) _ rfl _ _ rfl _ h7.st ?_) | (go_at_call 32; refine (hhas _).mono ?_; rintro e w8 ⟨rfl, hB8⟩))
            refine onlyN_normal ?_
            clear hhas c0 a3 h7
            replace h2 := blk_then h2 hB8
            replace h3 := blk_then h3 hB8
            replace h4 := blk_then h4 hB8
            replace h5 := blk_then h5 hB8
            replace hS := hS.then_ hB8
            replace hMW := hMW.below hB8 hMW.2.2.2.2.2.1
            replace hTW := hTW.then_ hTW.size hB8
            replace hBW := below_then hBW hB8
            replace hko := hko.trans (KeepsOthers.of_grownBy (only_of_below hB8 none) (fun j o e _ => by cases e))
            have hs8 := hB8.size
            gi_wp2
            exact ⟨⟨j + 1, by omega, rfl, by rw [Hst.out, hop1_no (by unfold takes; rw [hst]; simp)]; exact ⟨h2, h3, h4, h5, hS, hMW, hTW, hBW, by omega⟩, hko, by omega⟩, by simp only [intOf]; omega⟩
          · rw [hst] at hhas
            go_wp2_with (first | (refine wl_load_set_g (want_yes rfl rfl rfl) _ rfl _ _ rfl _ h7.st ?_) | (go_at_call 32; refine (hhas _).mono ?_; rintro e w8 ⟨rfl, hB8⟩))
            refine onlyN_normal ?_
            have c2 : w8.cell? ⟨wr.heap.size, 2, none⟩ = some (.int .i64 (t : Int)) := by rw [← ht]; exact (blk_then h7 hB8).cellv (i := 2) rfl
            clear hhas c0 a3 h7
            replace h2 := blk_then h2 hB8
            replace h3 := blk_then h3 hB8
            replace h4 := blk_then h4 hB8
            replace h5 := blk_then h5 hB8
            replace hS := hS.then_ hB8
            replace hMW := hMW.below hB8 hMW.2.2.2.2.2.1
            replace hTW := hTW.then_ hTW.size hB8
            replace hBW := below_then hBW hB8
            replace hko := hko.trans (KeepsOthers.of_grownBy (only_of_below hB8 none) (fun j o e _ => by cases e))
            have hs8 := hB8.size
            have a4 : w8.cell? ⟨bs, 0, none⟩ = some (.slice (some ⟨g1, 0, none⟩) (wordsFor N) c1) := h4.cellv rfl
            gi_upto_region 8 with (fail)
            refine region_in (by kernel_rfl) ?_
            go_wp2_with (go_at_call 33; refine (sadd_any g1 (wordsFor N) c1 y1 t (w.heap.size + 1 + 1) htN hkb _ hS).mono ?_; rintro e w9 ⟨rfl, hS9, hg9⟩)
            refine onlyN_normal ?_
            have hlt8 := hS.lt g1 rfl
            clear a4 c2
            replace h2 := blk_grown h2 hg9 (by omega)
            replace h3 := blk_grown h3 hg9 (by omega)
            replace h4 := h4.grown hg9 (fun e => by
              injection e with e
              subst e
              exact absurd rfl ((own_blk_ne hS h4 (by decide)) ))
            replace h5 := blk_grown h5 hg9 (by omega)
            replace hMW := hMW.grown hg9 (by omega)
            replace hTW := tab_grown hTW hg9 (by omega)
            replace hBW := below_grown hBW hg9 (by omega)
            replace hko := hko.trans (others_own hS hg9)
            have hs9 := hg9.size
            gi_wp2
            exact ⟨⟨j + 1, by omega, rfl, by rw [Hst.out, hop1_yes (by unfold takes; rw [hst, hk]; rfl), htn]; exact ⟨h2, h3, h4, h5, hS9, hMW, hTW, hBW, by omega⟩, hko, by omega⟩, by simp only [intOf]; omega⟩
        · have c0 : w6.cell? ⟨wr.heap.size, 0, none⟩ = some (.int .i64 dd.kd) := h7.cellv (i := 0) rfl
          have hk2 : (dd.kd == 2) = false := by simpa using hk
          gi_upto_region 7 with (fail)
          refine region_in (by kernel_rfl) ?_
          go_wp2_with (fail)
          refine onlyN_normal ?_
          clear c0
          gi_wp2
          exact ⟨⟨j + 1, by omega, rfl, by rw [Hst.out, hop1_no (by unfold takes; rw [hk2]; rfl)]; exact ⟨h2, h3, h4, h5, hS, hMW, hTW, hBW, by omega⟩, hko, by omega⟩, by simp only [intOf]; omega⟩
      · have hjI : ¬ (j : Int) < ((edgesAt E n).length : Nat) := by omega
        gi_wp2
        obtain ⟨h2, h3, h4, h5, hS, hMW, hTW, hBW, hlt⟩ := id I1
        have hsame : ∀ k, k < w.heap.size → wr.heap[k]? = W.heap[k]? := fun k hk => (hBW.block k hk).trans (hBW0.block k hk).symm
        refine ⟨hko, ⟨hsame g hgb.2, hsame 0 (by omega)⟩, ?_⟩
        show byI nb gm gw N E R cb (w.heap.size + 1 + 1) g1 c1 (hopL E cb (numsI (pre ++ [⟨n, hn⟩])) 0) bs _ w W3 wr
        rw [Hy1.out]
        rw [List.take_of_length_le (by omega)] at I1
        exact I1
  case done =>
    rintro D xs W hD hxs ⟨h2, h3, h4, h5, hS, hMW, hTW, hBW, hlt⟩ hK
    rw [hxs, bits_all hx (words_room N)] at hS
    have hEb : ∀ d ∈ E, (0 ≤ d.fr ∧ d.fr < N) ∧ 0 ≤ d.tt ∧ d.tt < N := fun d hd => ⟨hM.1.fr d hd, hM.1.tt d hd⟩
    have hby := hopL_byte (c := cb) (x := x) hone hEb
    have hbb : below (hopL E cb (bitsTo x N) 0) N := fun i hi => by
      have h1 : (hopL E cb (bitsTo x N) 0 ||| 2 ^ 0).testBit i = true := by rw [testBit_or_pow, hi]; rfl
      rw [show (2 ^ 0 : Nat) = 1 from rfl, hby] at h1
      exact byte_below _ _ _ _ i h1
    obtain ⟨y, hy⟩ : ∃ y, y = hopL E cb (bitsTo x N) 0 := ⟨_, rfl⟩
    rw [← hy] at hS hby hbb
    clear hy hxs xs hrow hs0 hM3 hT3 e2 e3 e4 ew ex hs3
    have a2 : W.cell? ⟨w.heap.size, 0, none⟩ = some (.pointer (some ⟨gw, 0, none⟩)) := h2.cellv rfl
    gi_upto_region 10 with (fail)
    refine wpIn_wide.2 ?_
    go_wp2_with (refine wl_store_cell rfl _ _ _ rfl _ _ rfl _ _ (walkC gm (.slice (some ⟨g, 0, none⟩) (wordsFor N) c) r false) h5 (by simp [walkC]) info_bool1 rfl rfl rfl ?_; intro w4 h54 hg4)
    clear a2
    have k2 := blk_grown h2 hg4 (by omega)
    have k4 := blk_grown h4 hg4 (by omega)
    have kS := own_box hS h5 hg4 (by decide)
    have kM := hMW.grown hg4 hnw
    have kT := tab_grown hTW hg4 (by omega)
    have kK := deferred_blk hK h5 hg4
    have a2 : w4.cell? ⟨w.heap.size, 0, none⟩ = some (.pointer (some ⟨gw, 0, none⟩)) := k2.cellv rfl
    have a4 : w4.cell? ⟨bs, 0, none⟩ = some (.slice (some ⟨g1, 0, none⟩) (wordsFor N) c1) := k4.cellv rfl
    gi_upto_region 11 with (fail)
    refine wpIn_wide.2 ?_
    go_wp2_with (go_at_call 27; refine (at_any nb gm N E R (w.heap.size + 1 + 1) gw g1 c1 y r false _ hbb hr w4 kM h54 hnw kS (by omega) (by omega) kT).mono ?_; rintro e w6 ⟨rfl, h56, hS6, hG6⟩)
    gi_wp2
    have kK6 : w6.heap[D]? = some (Obj.deferred (some [])) := (hG6.block D (Array.getElem?_eq_some_iff.1 kK).1 (by omega) (by omega)).trans kK
    refine ⟨by simp, .inl ⟨_, _, rfl, run_takeDeferred kK6, ?_⟩⟩
    have hg' := grownBy_putObj' w6 D (.deferred none)
    have hGf : w.grownBy (w6.putObj D (.deferred none)) (some gw) := by
      refine ⟨hg'.os.trans (hG6.os.trans (hg4.os.trans hBW.os)), hg'.tape.trans (hG6.tape.trans (hg4.tape.trans hBW.tape)), hg'.output.trans (hG6.output.trans (hg4.output.trans hBW.output)), Nat.le_trans hBW.size (Nat.le_trans hg4.size (Nat.le_trans hG6.size hg'.size)), fun i hi hne => ?_⟩
      have hne' : i ≠ gw := fun e => hne (by rw [e])
      have z1 := hBW.size
      have z4 := hg4.size
      have z6 := hG6.size
      exact (hg'.block i (by omega) (by simp; omega)).trans ((hG6.block i (by omega) hne' (by omega)).trans ((hg4.block i (by omega) hne).trans (hBW.block i hi)))
    refine ⟨_, results_none rfl _ _ _, rfl, ?_, hGf⟩
    have hx1 : y ||| 1 = byteN E N x cb := hby
    rw [hx1] at h56 hS6
    refine ⟨hMI.grown hGf (.inr hnw), hnw, or_lt32 hr (met_lt hM.2.2.2.1 _ _), spread_below _ _ _ _ _, g1, c1, by omega, blk_grown h56 hg' (by omega), (hS6.mono (by omega)).kept_ hg' (fun j e1 e2 => ?_)⟩
    have e3 : g1 = j := by simpa [Value.ownBlock] using e1
    injection e2 with e2
    omega
  case stop =>
    rintro D c pre W _ _ h _
    exact h.elim
end Go.Proofs.YtgahdookojbbiaaDoor
