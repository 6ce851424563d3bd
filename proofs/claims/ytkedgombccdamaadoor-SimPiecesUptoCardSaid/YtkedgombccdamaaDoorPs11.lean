/- Part 11 of a proof; packed: the texts that it was made of follow one another. No condition beyond those named in each lemma. -/
import Derived.Test.YtkedgombccdamaaDoorPs10
import Derived.Test.YtkedgombccdamaaDoorPs2
import Derived.Test.YtkedgombccdamaaDoorPs7
import Derived.Test.YtkedgombccdamaaDoorPs8
import Derived.Laws.BytesString
import Derived.Laws.CopyOwn
import Derived.Laws.IdiomStrings
namespace Go.Proofs.YtkedgombccdamaaDoor
open Go.RowKit Go.Shelf Go.Maps
set_option linter.unusedVariables false
set_option linter.unusedSimpArgs false
attribute [local go_sem] Oper.semAt_some

/-- what the boxes of Byte hold while the set is gone through -/
def byI (nb gm gw N : Nat) (E : List Edg) (R : List Nat) (cb base g1 c1 y bs : Nat) (vw : Array Value) (w W3 W : World) : Prop :=
  Blk W w.heap.size 109 #[.pointer (some ⟨gw, 0, none⟩)] ∧ Blk W (w.heap.size + 1) 5 #[.int .u8 (cb : Int)] ∧ Blk W bs 147 #[.slice (some ⟨g1, 0, none⟩) (wordsFor N) c1] ∧ Blk W gw 149 vw ∧
    Own W base 50 1 encU (.slice (some ⟨g1, 0, none⟩) (wordsFor N) c1) (wordsN y (wordsFor N)) ∧ MachOk nb W gm N E R ∧ TabOk W ∧ Below w.heap.size w W ∧ W3.heap.size ≤ W.heap.size
set_option maxRecDepth 100000 in
set_option maxHeartbeats 4000000 in
theorem s_byte_any (lo nb gw gm N : Nat) (E : List Edg) (R : List Nat) (k : Wk) (cb : Nat) (hcb : cb < 256) (w : World) (h : WalkOk lo nb w gw gm N E R k) (hT : TabOk w) :
    Calls Tryd.prog 51 #[.pointer (some ⟨gw, 0, none⟩), .int .u8 (cb : Int)] w fun e w' => e = .returned (.tuple #[]) ∧ WalkOk lo nb w' gw gm N E R (byteW E N R k cb) ∧ w.grownBy w' (some gw) := by
  refine (callsIn_wide (n := 6)).1 ?_
  refine callsIn_of_wp_marks Tryd.func51 rfl trivial ?_ rfl
  simp only [Tryd.ntmps51, List.size_toArray, List.length_cons, List.length_nil, Nat.reduceAdd, Nat.reduceSub, Array.replicate_succ, Array.replicate_zero, List.push_toArray, List.append_toArray, List.nil_append, List.cons_append]
  obtain ⟨hMI, hnw, hr, hx, g, c, hne, hw, hs⟩ := h
  obtain ⟨x, r, b⟩ := k
  simp only at hr hx hw hs
  have hM := hMI.ok
  have hN := hM.2.1
  have hone := hM.1.one
  have hnb0 := hM.2.2.2.2.1
  have hnb2 := hM.2.2.2.2.2.1
  have hkb : wordsFor N ≤ 1099511627776 := by unfold wordsFor; omega
  have hk1 : 0 < wordsFor N := by unfold wordsFor; omega
  have hx64 : below x (64 * wordsFor N) := fun i hi => Nat.lt_of_lt_of_le (hx i hi) (words_room N)
  have hgb := hs.lt g rfl
  have hlw := hw.lt
  gi_upto_region 1 with (fail)
  have b2 := (Blk.new w 109 #[.pointer (some ⟨gw, 0, none⟩)]).alloc (.cells #[.int .u8 (cb : Int)] 5)
  have b3 := Blk.new' (n := w.heap.size + 1) (w.alloc (.cells #[.pointer (some ⟨gw, 0, none⟩)] 109)) 5 #[.int .u8 (cb : Int)] (by simp)
  have hB0 := below_alloc (below_alloc (Below.refl w.heap.size w) (.cells #[.pointer (some ⟨gw, 0, none⟩)] 109)) (.cells #[.int .u8 (cb : Int)] 5)
  have hz0 : ((w.alloc (.cells #[.pointer (some ⟨gw, 0, none⟩)] 109)).alloc (.cells #[.int .u8 (cb : Int)] 5)).heap.size = w.heap.size + 1 + 1 := by simp
  obtain ⟨W0, hW0⟩ : ∃ y, y = (w.alloc (.cells #[.pointer (some ⟨gw, 0, none⟩)] 109)).alloc (.cells #[.int .u8 (cb : Int)] 5) := ⟨_, rfl⟩
  rw [← hW0] at b2 b3 hB0 hz0 ⊢
  clear hW0
  have hw0 := blk_then hw hB0
  have hM0 := hM.below hB0 hnb2
  have a2 : W0.cell? ⟨w.heap.size, 0, none⟩ = some (.pointer (some ⟨gw, 0, none⟩)) := b2.cellv rfl
  have aw : W0.cell? ⟨gw, 0, none⟩ = some (.pointer (some ⟨gm, 0, none⟩)) := hw0.cellv (i := 0) rfl
  gi_upto_region 2 with (refine ⟨trivial, ?_⟩; gi_at_call 73; refine (callsIn_wide.2 (none_any nb gm N E R W0 hM0)).mono ?_; rintro e w5 ⟨g1, c1, rfl, hg1, hs1, hB1⟩)
  have c2 := (blk_then b2 hB1).alloc (.cells #[.slice (some ⟨g1, 0, none⟩) (wordsFor N) c1] 147)
  have c3 := (blk_then b3 hB1).alloc (.cells #[.slice (some ⟨g1, 0, none⟩) (wordsFor N) c1] 147)
  have c4 := Blk.new w5 147 #[.slice (some ⟨g1, 0, none⟩) (wordsFor N) c1]
  have cw := (blk_then hw0 hB1).alloc (.cells #[.slice (some ⟨g1, 0, none⟩) (wordsFor N) c1] 147)
  have hs2 := hs1.alloc (.cells #[.slice (some ⟨g1, 0, none⟩) (wordsFor N) c1] 147)
  have hB2 := below_alloc (below_then hB0 hB1) (.cells #[.slice (some ⟨g1, 0, none⟩) (wordsFor N) c1] 147)
  have hz1 := hB1.size
  have hz2 : (w5.alloc (.cells #[.slice (some ⟨g1, 0, none⟩) (wordsFor N) c1] 147)).heap.size = w5.heap.size + 1 := by simp
  obtain ⟨bs, hbs⟩ : ∃ y, y = w5.heap.size := ⟨_, rfl⟩
  rw [← hbs] at c4 hz2 hz1 ⊢
  obtain ⟨W2, hW2⟩ : ∃ y, y = w5.alloc (.cells #[.slice (some ⟨g1, 0, none⟩) (wordsFor N) c1] 147) := ⟨_, rfl⟩
  rw [← hW2] at c2 c3 c4 cw hs2 hB2 hz2 ⊢
  rw [hz0] at hs2
  clear hW2 hbs hs1 hB1 b2 b3 hw0 hB0 hM0 a2 aw
  have hT2 := hT.then_ hT.size hB2
  have hM2 := hM.below hB2 hnb2
  have a2 : W2.cell? ⟨w.heap.size, 0, none⟩ = some (.pointer (some ⟨gw, 0, none⟩)) := c2.cellv rfl
  have aw : W2.cell? ⟨gw, 1, none⟩ = some (.slice (some ⟨g, 0, none⟩) (wordsFor N) c) := cw.cellv (i := 1) rfl
  gi_wp2_with (refine ⟨trivial, ?_⟩; gi_at_call 74; refine (callsIn_wide.2 (each_any _ _ _ _)).mono ?_; rintro e w5 ⟨rfl, rfl⟩)
  clear a2 aw
  have e2 := c2.alloc (.cells #[.slice (some ⟨g, 0, none⟩) (wordsFor N) c] 147)
  have e3 := c3.alloc (.cells #[.slice (some ⟨g, 0, none⟩) (wordsFor N) c] 147)
  have e4 := c4.alloc (.cells #[.slice (some ⟨g, 0, none⟩) (wordsFor N) c] 147)
  have ew := cw.alloc (.cells #[.slice (some ⟨g, 0, none⟩) (wordsFor N) c] 147)
  have ex := Blk.new' (n := bs + 1) W2 147 #[.slice (some ⟨g, 0, none⟩) (wordsFor N) c] hz2.symm
  have hs3 := hs2.alloc (.cells #[.slice (some ⟨g, 0, none⟩) (wordsFor N) c] 147)
  have hB3 := below_alloc hB2 (.cells #[.slice (some ⟨g, 0, none⟩) (wordsFor N) c] 147)
  obtain ⟨W3, hW3⟩ : ∃ y, y = W2.alloc (.cells #[.slice (some ⟨g, 0, none⟩) (wordsFor N) c] 147) := ⟨_, rfl⟩
  rw [← hW3] at e2 e3 e4 ew ex hs3 hB3 ⊢
  clear hW3 c2 c3 c4 cw hs2 hB2 hT2 hM2
  have hM3 := hM.below hB3 hnb2
  have hT3 := hT.then_ hT.size hB3
  have hs0 := hs.then_ hB3
  have hgl := ex.lt
  have hg1b := hs3.lt g1 rfl
  have hrow : ∀ i (h : i < (wordsN x (wordsFor N)).length), RowAt W3 g (0 + i) (encU (wordsN x (wordsFor N))[i]) := fun i h => by
    have := hs0.row encU_size i h
    rw [Nat.mul_one] at this
    rw [Nat.zero_add]
    exact this
  refine wpIn_rangeFunc_ownF (n := 6) rfl (by decide) (gf := 90) (lb := #[.pointer (some ⟨bs + 1, 0, none⟩)]) rfl trivial (enters_of Tryd.func90 (by kernel_rfl) rfl)
    (each_stops x (wordsFor N) c g 0 5 (bs + 1) W3 hkb hx64 ex (by omega) hrow hT3) KpS.trans (fun W l o o' hl _ _ _ => ⟨World.putObj_heap_other (by omega), World.putObj_heap_other (by omega)⟩) (Below.refl _ _) (fun _ => rfl)
    (fun pre W => byI nb gm gw N E R cb (w.heap.size + 1 + 1) g1 c1 (hopL E cb (numsI pre) 0) bs (walkC gm (.slice (some ⟨g, 0, none⟩) (wordsFor N) c) r b) w W3 W) (fun _ _ _ => False) (fun pre X Y row hi hg hr => ?turn) (fun _ => fun _ _ _ _ hs _ _ => hs)
    ⟨e2, e3, e4, ew, hs3, hM3, hT3, hB3, Nat.le_refl _⟩
    (fun r => { tmps := #[.pointer (some ⟨gw, 0, none⟩), .int .u8 (cb : Int), .pointer (some ⟨w.heap.size, 0, none⟩), .pointer (some ⟨w.heap.size + 1, 0, none⟩), .pointer (some ⟨bs, 0, none⟩), .int .i64 (r.1 : Int), undef, undef, .pointer (some ⟨gw, 0, none⟩), .pointer (some ⟨gw, 0, none⟩), .pointer (some ⟨gw, 0, none⟩), .pointer (some ⟨gm, 0, none⟩), .slice (some ⟨g1, 0, none⟩) (wordsFor N) c1, .pointer (some ⟨gw, 0, none⟩), .pointer (some ⟨gw, 0, none⟩), .pointer (some ⟨gw, 1, none⟩), .slice (some ⟨g, 0, none⟩) (wordsFor N) c, .func (.func 90) #[] #[.pointer (some ⟨bs + 1, 0, none⟩)], .int .i64 (r.1 : Int), undef, undef, undef, undef, undef, undef, undef, undef, undef, undef, undef, undef, undef, undef, undef, undef, undef, undef, undef, undef, undef, undef, undef, undef, undef, undef, undef, undef, undef, undef, undef, undef, undef, undef], defers := [] }) ?assign ?body ?done ?stop
  case turn =>
    obtain ⟨h1, h2, h3, h4, h5, h6, h7, h8, h9⟩ := hi
    exact ⟨blk_turn' h1 hg hr, blk_turn' h2 hg hr, blk_turn' h3 hg hr, blk_turn' h4 hg hr, s_own_turn h5 hg hr, mach_turn h6 hg hr (by omega), fun i hi => (World.cell?_of_block (w := X) (hg.block 0 (by omega) (fun e => by have := (hr 0 e.symm).1; omega))).trans (h7 i hi), h8.grown hg h8.size (fun k e => by have := (hr k e).1; omega), Nat.le_trans h9 hg.size⟩
  case assign =>
    intro l r W K hK
    unfold encI
    gi_wp2
    exact hK
  case body =>
    rintro l pre ⟨n, hn⟩ W I0 hlen
    have hnN := hx n hn
    obtain ⟨h2, h3, h4, h5, hS, hMW, hTW, hBW, hlt⟩ := id I0
    obtain ⟨hgE, _, _, _, _, _, hgm, bm, nm, B, mR, dR, mf, hbm, hbl, _, _, hvm, hed⟩ := id hMW
    obtain ⟨A, le, cA, hmf, rfl, hAs⟩ := hed n hnN
    have hEl : (edgesAt E n).length ≤ 1099511627776 := Nat.le_trans (List.length_filter_le _ _) hMW.2.2.1
    have a2 : W.cell? ⟨w.heap.size, 0, none⟩ = some (.pointer (some ⟨gw, 0, none⟩)) := h2.cellv rfl
    have aw : W.cell? ⟨gw, 0, none⟩ = some (.pointer (some ⟨gm, 0, none⟩)) := h5.cellv (i := 0) rfl
    have am : W.cell? ⟨gm, 1, none⟩ = some (.map (some bm)) := hbl.cellv rfl
    obtain ⟨y0, hy0⟩ : ∃ y, y = hopL E cb (numsI pre) 0 := ⟨_, rfl⟩
    have hy1 : hopL E cb (numsI (pre ++ [⟨n, hn⟩])) 0 = hopE (edgesAt E n) cb y0 := by rw [numsI_snoc, hopL_snoc, hy0]
    rw [← hy0] at I0
    have Hy1 := Lib.hid hy1
    clear hy0 hy1
    gi_upto_region 4 with (fail)
    refine region_in (by kernel_rfl) ?_
    go_wp2_with (at_lookup; refine wl_vmap_to hvm _ _ hmf rfl _ _ rfl rfl (wf_of_nat (by omega)) rfl ?_)
    refine onlyN_normal ?_
    have hBW0 := hBW
    clear h2 h3 h4 h5 hS hMW hTW hBW hlt hbl hvm hed hmf a2 aw am
    gi_wp2
    gi_loopw [29] (fun i wi => ∃ j, j ≤ (edgesAt E n).length ∧ i = .int .i64 j ∧ byI nb gm gw N E R cb (w.heap.size + 1 + 1) g1 c1 (hopE ((edgesAt E n).take j) cb y0) bs (walkC gm (.slice (some ⟨g, 0, none⟩) (wordsFor N) c) r b) w W3 wi ∧ KeepsOthers W wi ∧ W.heap.size ≤ wi.heap.size) (fun i _ => (edgesAt E n).length - (intOf i).toNat)
    case atStart => exact ⟨0, by omega, rfl, I0, KeepsOthers.refl _, Nat.le_refl _⟩
    case round =>
      obtain ⟨j, hj, rfl, I1, hko, hsz⟩ := hrel
      by_cases hjl : j < (edgesAt E n).length
      · have hjI : (j : Int) < ((edgesAt E n).length : Nat) := by omega
        obtain ⟨h2, h3, h4, h5, hS, hMW, hTW, hBW, hlt⟩ := id I1
        obtain ⟨bE, off, rfl, hbE, hrows⟩ := hAs.at_ (by omega)
        have hr0 := (hrows j hjl).keep ((hBW.block bE (by omega)).trans (hBW0.block bE (by omega)).symm)
        obtain ⟨dd, hd⟩ : ∃ d, d = (edgesAt E n)[j] := ⟨_, rfl⟩
        rw [← hd] at hr0
        have hstep := hopE_take (edgesAt E n) cb y0 j hjl
        rw [← hd] at hstep
        have hmem := List.getElem_mem hjl
        rw [mem_edgesAt, ← hd] at hmem
        obtain ⟨hdE, hdn⟩ := hmem
        clear hd
        have hjb : j < 1099511628000 := by omega
        obtain ⟨y1, hy1⟩ : ∃ y, y = hopE ((edgesAt E n).take j) cb y0 := ⟨_, rfl⟩
        rw [← hy1] at hS hstep
        have Hst := Lib.hid hstep
        clear hy1 hstep
        clear I1
        gi_upto_region 6 with (fail)
        refine region_in (by kernel_rfl) ?_
        go_wp2_with (first | (refine wl_load_edge_at rfl _ rfl _ _ rfl _ hr0 ?_) | (refine wl_store_edge rfl _ _ rfl _ _ rfl rfl edge0 (Blk.new _ _ _) ?_; intro w6 h7 hg6))
        refine onlyN_normal ?_
        have hB6 := below_grown (below_alloc (Below.refl _ wr) (.cells #[.int .i64 0, .int .i64 0, .int .i64 0, .int .u64 0, .int .u64 0, .int .u64 0, .int .u64 0] 76)) hg6 (Nat.le_refl _)
        clear hr0 hg6
        have htt := hgE.tt dd hdE
        obtain ⟨t, ht⟩ : ∃ t : Nat, dd.tt = (t : Int) := ⟨dd.tt.toNat, by omega⟩
        have htn : dd.tt.toNat = t := by omega
        have htN : t < 64 * wordsFor N := by have := words_room N; omega
        replace h2 := blk_then h2 hB6
        replace h3 := blk_then h3 hB6
        replace h4 := blk_then h4 hB6
        replace h5 := blk_then h5 hB6
        replace hS := hS.then_ hB6
        replace hMW := hMW.below hB6 hMW.2.2.2.2.2.1
        replace hTW := hTW.then_ hTW.size hB6
        replace hBW := below_then hBW hB6
        replace hko := hko.trans (KeepsOthers.of_grownBy (only_of_below hB6 none) (fun j o e _ => by cases e))
        have hs6 := hB6.size
        by_cases hk : dd.kd = 2
        · have c0 : w6.cell? ⟨wr.heap.size, 0, none⟩ = some (.int .i64 2) := by rw [← hk]; exact h7.cellv (i := 0) rfl
          have a3 : w6.cell? ⟨w.heap.size + 1, 0, none⟩ = some (.int .u8 (cb : Int)) := h3.cellv rfl
          gi_upto_region 7 with (fail)
          refine region_in (by kernel_rfl) ?_
          have hhas := fun w => has_any dd.st cb hcb w
          cases hst : dd.st.getLsbD cb
          · rw [hst] at hhas
            go_wp2_with (first | (refine wl_load_set_g (want_yes rfl rfl rfl) _ rfl _ _ rfl _ h7.st ?_) | (go_at_call 64; refine (hhas _).mono ?_; rintro e w8 ⟨rfl, hB8⟩))
            refine onlyN_normal ?_
            clear hhas c0 a3 h7
            replace h2 := blk_then h2 hB8
            replace h3 := blk_then h3 hB8
            replace h4 := blk_then h4 hB8
            replace h5 := blk_then h5 hB8
            replace hS := hS.then_ hB8
            replace hMW := hMW.below hB8 hMW.2.2.2.2.2.1
            replace hTW := hTW.then_ hTW.size hB8
            replace hBW := below_then hBW hB8
            replace hko := hko.trans (KeepsOthers.of_grownBy (only_of_below hB8 none) (fun j o e _ => by cases e))
            have hs8 := hB8.size
            gi_wp2
            exact ⟨⟨j + 1, by omega, rfl, by rw [Hst.out, hop1_no (by unfold takes; rw [hst]; simp)]; exact ⟨h2, h3, h4, h5, hS, hMW, hTW, hBW, by omega⟩, hko, by omega⟩, by simp only [intOf]; omega⟩
          · rw [hst] at hhas
            go_wp2_with (first | (refine wl_load_set_g (want_yes rfl rfl rfl) _ rfl _ _ rfl _ h7.st ?_) | (go_at_call 64; refine (hhas _).mono ?_; rintro e w8 ⟨rfl, hB8⟩))
            refine onlyN_normal ?_
            have c2 : w8.cell? ⟨wr.heap.size, 2, none⟩ = some (.int .i64 (t : Int)) := by rw [← ht]; exact (blk_then h7 hB8).cellv (i := 2) rfl
            clear hhas c0 a3 h7
            replace h2 := blk_then h2 hB8
            replace h3 := blk_then h3 hB8
            replace h4 := blk_then h4 hB8
            replace h5 := blk_then h5 hB8
            replace hS := hS.then_ hB8
            replace hMW := hMW.below hB8 hMW.2.2.2.2.2.1
            replace hTW := hTW.then_ hTW.size hB8
            replace hBW := below_then hBW hB8
            replace hko := hko.trans (KeepsOthers.of_grownBy (only_of_below hB8 none) (fun j o e _ => by cases e))
            have hs8 := hB8.size
            have a4 : w8.cell? ⟨bs, 0, none⟩ = some (.slice (some ⟨g1, 0, none⟩) (wordsFor N) c1) := h4.cellv rfl
            gi_upto_region 8 with (fail)
            refine region_in (by kernel_rfl) ?_
            go_wp2_with (go_at_call 75; refine (sadd_any g1 (wordsFor N) c1 y1 t (w.heap.size + 1 + 1) htN hkb _ hS).mono ?_; rintro e w9 ⟨rfl, hS9, hg9⟩)
            refine onlyN_normal ?_
            have hlt8 := hS.lt g1 rfl
            clear a4 c2
            replace h2 := blk_grown h2 hg9 (by omega)
            replace h3 := blk_grown h3 hg9 (by omega)
            replace h4 := h4.grown hg9 (fun e => by
              injection e with e
              subst e
              exact absurd rfl ((own_blk_ne hS h4 (by decide)) ))
            replace h5 := blk_grown h5 hg9 (by omega)
            replace hMW := hMW.grown hg9 (by omega)
            replace hTW := tab_grown hTW hg9 (by omega)
            replace hBW := below_grown hBW hg9 (by omega)
            replace hko := hko.trans (others_own hS hg9)
            have hs9 := hg9.size
            gi_wp2
            exact ⟨⟨j + 1, by omega, rfl, by rw [Hst.out, hop1_yes (by unfold takes; rw [hst, hk]; rfl), htn]; exact ⟨h2, h3, h4, h5, hS9, hMW, hTW, hBW, by omega⟩, hko, by omega⟩, by simp only [intOf]; omega⟩
        · have c0 : w6.cell? ⟨wr.heap.size, 0, none⟩ = some (.int .i64 dd.kd) := h7.cellv (i := 0) rfl
          have hk2 : (dd.kd == 2) = false := by simpa using hk
          gi_upto_region 7 with (fail)
          refine region_in (by kernel_rfl) ?_
          go_wp2_with (fail)
          refine onlyN_normal ?_
          clear c0
          gi_wp2
          exact ⟨⟨j + 1, by omega, rfl, by rw [Hst.out, hop1_no (by unfold takes; rw [hk2]; rfl)]; exact ⟨h2, h3, h4, h5, hS, hMW, hTW, hBW, by omega⟩, hko, by omega⟩, by simp only [intOf]; omega⟩
      · have hjI : ¬ (j : Int) < ((edgesAt E n).length : Nat) := by omega
        gi_wp2
        obtain ⟨h2, h3, h4, h5, hS, hMW, hTW, hBW, hlt⟩ := id I1
        have hsame : ∀ k, k < w.heap.size → wr.heap[k]? = W.heap[k]? := fun k hk => (hBW.block k hk).trans (hBW0.block k hk).symm
        refine ⟨hko, ⟨hsame g hgb.2, hsame 0 (by omega)⟩, ?_⟩
        show byI nb gm gw N E R cb (w.heap.size + 1 + 1) g1 c1 (hopL E cb (numsI (pre ++ [⟨n, hn⟩])) 0) bs _ w W3 wr
        rw [Hy1.out]
        rw [List.take_of_length_le (by omega)] at I1
        exact I1
  case done =>
    rintro D xs W hD hxs ⟨h2, h3, h4, h5, hS, hMW, hTW, hBW, hlt⟩ hK
    rw [hxs, bits_all hx (words_room N)] at hS
    have hEb : ∀ d ∈ E, (0 ≤ d.fr ∧ d.fr < N) ∧ 0 ≤ d.tt ∧ d.tt < N := fun d hd => ⟨hM.1.fr d hd, hM.1.tt d hd⟩
    have hby := hopL_byte (c := cb) (x := x) hone hEb
    have hbb : below (hopL E cb (bitsTo x N) 0) N := fun i hi => by
      have h1 : (hopL E cb (bitsTo x N) 0 ||| 2 ^ 0).testBit i = true := by rw [testBit_or_pow, hi]; rfl
      rw [show (2 ^ 0 : Nat) = 1 from rfl, hby] at h1
      exact byte_below _ _ _ _ i h1
    obtain ⟨y, hy⟩ : ∃ y, y = hopL E cb (bitsTo x N) 0 := ⟨_, rfl⟩
    rw [← hy] at hS hby hbb
    clear hy hxs xs hrow hs0 hM3 hT3 e2 e3 e4 ew ex hs3
    have a2 : W.cell? ⟨w.heap.size, 0, none⟩ = some (.pointer (some ⟨gw, 0, none⟩)) := h2.cellv rfl
    gi_upto_region 10 with (fail)
    refine wpIn_wide.2 ?_
    go_wp2_with (refine wl_store_cell rfl _ _ _ rfl _ _ rfl _ _ (walkC gm (.slice (some ⟨g, 0, none⟩) (wordsFor N) c) r false) h5 (by simp [walkC]) info_bool1 rfl rfl rfl ?_; intro w4 h54 hg4)
    clear a2
    have k2 := blk_grown h2 hg4 (by omega)
    have k4 := blk_grown h4 hg4 (by omega)
    have kS := own_box hS h5 hg4 (by decide)
    have kM := hMW.grown hg4 hnw
    have kT := tab_grown hTW hg4 (by omega)
    have kK := deferred_blk hK h5 hg4
    have a2 : w4.cell? ⟨w.heap.size, 0, none⟩ = some (.pointer (some ⟨gw, 0, none⟩)) := k2.cellv rfl
    have a4 : w4.cell? ⟨bs, 0, none⟩ = some (.slice (some ⟨g1, 0, none⟩) (wordsFor N) c1) := k4.cellv rfl
    gi_upto_region 11 with (fail)
    refine wpIn_wide.2 ?_
    go_wp2_with (go_at_call 72; refine (at_any nb gm N E R (w.heap.size + 1 + 1) gw g1 c1 y r false _ hbb hr w4 kM h54 hnw kS (by omega) (by omega) kT).mono ?_; rintro e w6 ⟨rfl, h56, hS6, hG6⟩)
    gi_wp2
    have kK6 : w6.heap[D]? = some (Obj.deferred (some [])) := (hG6.block D (Array.getElem?_eq_some_iff.1 kK).1 (by omega) (by omega)).trans kK
    refine ⟨by simp, .inl ⟨_, _, rfl, run_takeDeferred kK6, ?_⟩⟩
    have hg' := grownBy_putObj' w6 D (.deferred none)
    have hGf : w.grownBy (w6.putObj D (.deferred none)) (some gw) := by
      refine ⟨hg'.os.trans (hG6.os.trans (hg4.os.trans hBW.os)), hg'.tape.trans (hG6.tape.trans (hg4.tape.trans hBW.tape)), hg'.output.trans (hG6.output.trans (hg4.output.trans hBW.output)), Nat.le_trans hBW.size (Nat.le_trans hg4.size (Nat.le_trans hG6.size hg'.size)), fun i hi hne => ?_⟩
      have hne' : i ≠ gw := fun e => hne (by rw [e])
      have z1 := hBW.size
      have z4 := hg4.size
      have z6 := hG6.size
      exact (hg'.block i (by omega) (by simp; omega)).trans ((hG6.block i (by omega) hne' (by omega)).trans ((hg4.block i (by omega) hne).trans (hBW.block i hi)))
    refine ⟨_, results_none rfl _ _ _, rfl, ?_, hGf⟩
    have hx1 : y ||| 1 = byteN E N x cb := hby
    rw [hx1] at h56 hS6
    refine ⟨hMI.grown hGf (.inr hnw), hnw, or_lt32 hr (met_lt hM.2.2.2.1 _ _), spread_below _ _ _ _ _, g1, c1, by omega, blk_grown h56 hg' (by omega), (hS6.mono (by omega)).kept_ hg' (fun j e1 e2 => ?_)⟩
    have e3 : g1 = j := by simpa [Value.ownBlock] using e1
    injection e2 with e2
    omega
  case stop =>
    rintro D c pre W _ _ h _
    exact h.elim
end Go.Proofs.YtkedgombccdamaaDoor
namespace Go.Proofs.YtkedgombccdamaaDoor
open Go.RowKit Go.Shelf Go.Maps
set_option linter.unusedVariables false
set_option linter.unusedSimpArgs false
attribute [local go_sem] Oper.semAt_some

/-- what the box of States holds -/
def stI (w : World) (L : List Nat) (W : World) : Prop :=
  ∃ v, Blk W w.heap.size 67 #[v] ∧ Own W (w.heap.size + 1) 3 1 encN v L ∧ Below w.heap.size w W ∧ w.heap.size < W.heap.size
set_option maxRecDepth 100000 in
set_option maxHeartbeats 4000000 in
theorem states_any (lo nb gw gm N : Nat) (E : List Edg) (R : List Nat) (k : Wk) (w : World) (h : WalkOk lo nb w gw gm N E R k) (hT : TabOk w) :
    Calls Tryd.prog 52 #[.pointer (some ⟨gw, 0, none⟩)] w fun e w' => ∃ v, e = .returned v ∧ Own w' w.heap.size 3 1 encN v (bitsTo k.at_ N) ∧ Below w.heap.size w w' := by
  refine (callsIn_wide (n := 6)).1 ?_
  refine callsIn_of_wp_marks Tryd.func52 rfl trivial ?_ rfl
  simp only [Tryd.ntmps52, List.size_toArray, List.length_cons, List.length_nil, Nat.reduceAdd, Nat.reduceSub, Array.replicate_succ, Array.replicate_zero, List.push_toArray, List.append_toArray, List.nil_append, List.cons_append]
  obtain ⟨hMI, hnw, hr, hx, g, c, hne, hw, hs⟩ := h
  obtain ⟨x, r, b⟩ := k
  simp only at hr hx hw hs ⊢
  have hM := hMI.ok
  have hN := hM.2.1
  have hnb0 := hM.2.2.2.2.1
  have hnb2 := hM.2.2.2.2.2.1
  have hkb : wordsFor N ≤ 1099511627776 := by unfold wordsFor; omega
  have hx64 : below x (64 * wordsFor N) := fun i hi => Nat.lt_of_lt_of_le (hx i hi) (words_room N)
  have hgb := hs.lt g rfl
  have hlw := hw.lt
  have a1 : (w.alloc (.cells #[.slice none 0 0] 67)).cell? ⟨gw, 1, none⟩ = some (.slice (some ⟨g, 0, none⟩) (wordsFor N) c) := (hw.alloc _).cellv (i := 1) rfl
  gi_wp2_with (refine ⟨trivial, ?_⟩; gi_at_call 74; refine (callsIn_wide.2 (each_any _ _ _ _)).mono ?_; rintro e w5 ⟨rfl, rfl⟩)
  clear a1
  have e3 := (Blk.new w 67 #[.slice none 0 0]).alloc (.cells #[.slice (some ⟨g, 0, none⟩) (wordsFor N) c] 147)
  have ex := Blk.new' (n := w.heap.size + 1) (w.alloc (.cells #[.slice none 0 0] 67)) 147 #[.slice (some ⟨g, 0, none⟩) (wordsFor N) c] (by simp)
  have hB := below_alloc (below_alloc (Below.refl w.heap.size w) (.cells #[.slice none 0 0] 67)) (.cells #[.slice (some ⟨g, 0, none⟩) (wordsFor N) c] 147)
  obtain ⟨W1, hW1⟩ : ∃ y, y = (w.alloc (.cells #[.slice none 0 0] 67)).alloc (.cells #[.slice (some ⟨g, 0, none⟩) (wordsFor N) c] 147) := ⟨_, rfl⟩
  rw [← hW1] at e3 ex hB ⊢
  clear hW1
  have hT1 := hT.then_ hT.size hB
  have hlW := ex.lt
  have hs1 := hs.then_ hB
  have hrow : ∀ i (h : i < (wordsN x (wordsFor N)).length), RowAt W1 g (0 + i) (encU (wordsN x (wordsFor N))[i]) := fun i h => by
    have := hs1.row encU_size i h
    rw [Nat.mul_one] at this
    rw [Nat.zero_add]
    exact this
  refine wpIn_rangeFunc_ownF (n := 6) rfl (by decide) (gf := 90) (lb := #[.pointer (some ⟨w.heap.size + 1, 0, none⟩)]) rfl trivial (enters_of Tryd.func90 (by kernel_rfl) rfl)
    (each_stops x (wordsFor N) c g 0 5 (w.heap.size + 1) W1 hkb hx64 ex (by omega) hrow hT1) KpS.trans (fun W l o o' hl _ _ _ => ⟨World.putObj_heap_other (by omega), World.putObj_heap_other (by omega)⟩) (Below.refl _ _) (fun _ => rfl)
    (fun pre W => stI w (numsI pre) W) (fun _ _ _ => False) (fun pre X Y row hi hg hr => ?turn) (fun _ => fun _ _ _ _ hs _ _ => hs)
    ⟨_, e3, Own.nil_ _ _ _ _ _, hB, by omega⟩
    (fun r => { tmps := #[.pointer (some ⟨gw, 0, none⟩), undef, .slice none 0 0, .pointer (some ⟨w.heap.size, 0, none⟩), .int .i64 (r.1 : Int), .pointer (some ⟨gw, 0, none⟩), .pointer (some ⟨gw, 0, none⟩), .pointer (some ⟨gw, 1, none⟩), .slice (some ⟨g, 0, none⟩) (wordsFor N) c, .func (.func 90) #[] #[.pointer (some ⟨w.heap.size + 1, 0, none⟩)], .int .i64 (r.1 : Int), undef, undef, undef, undef, undef], defers := [] }) ?assign ?body ?done ?stop
  case turn =>
    obtain ⟨v, h1, h2, h3, h4⟩ := hi
    exact ⟨v, blk_turn' h1 hg hr, s_own_turn h2 hg hr, h3.grown hg h3.size (fun k e => by have := (hr k e).1; omega), Nat.lt_of_lt_of_le h4 hg.size⟩
  case assign =>
    intro l r W K hK
    unfold encI
    gi_wp2
    exact hK
  case body =>
    rintro l pre ⟨n, hn⟩ W ⟨v, h8, hL, hBW, hlt⟩ hlen
    have hnN := hx n hn
    have hlen2 : (numsI pre).length ≤ 64 * wordsFor N := by rw [numsI_length]; omega
    have hwf : 64 * wordsFor N ≤ 1099511628000 := by unfold wordsFor; omega
    obtain ⟨L, hLe⟩ : ∃ L, L = numsI pre := ⟨_, rfl⟩
    rw [← hLe] at hL hlen2
    have HL := Lib.hid hLe
    clear hLe
    obtain ⟨A7, k7, rfl, _, _⟩ := hL.shape
    have c8 : W.cell? ⟨w.heap.size, 0, none⟩ = some (.slice A7 L.length k7) := h8.cellv rfl
    obtain ⟨i1, hi1, hy0, hy1, hy2⟩ := info_parts info_int3
    gi_upto_region 4 with (fail)
    refine region_in (by kernel_rfl) ?_
    go_wp2_with (at_builtin; refine park ?_)
    refine Parked.mk ?_
    have hone := slice_one (enc := encN) (size := 1) (y := n) (w := W.alloc (.cells #[.int .i64 (n : Int)] 3)) (g := W.heap.size) (t := 3) (Blk.new _ _ _)
    have hB7 : Below W.heap.size W (W.alloc (.cells #[.int .i64 (n : Int)] 3)) := below_alloc (Below.refl _ _) _
    have hL7 := hL.then_ hB7
    have h87 := blk_then h8 hB7
    have hsz7 := hB7.size
    refine wl_append _ rfl _ _ 67 rfl (w.heap.size + 1) 3 i1 _ 1 8 Tryd.underlying67 hi1 hy0 hy1 hy2 rfl (by decide) encN_size encN_one (.slice A7 _ k7) _ rfl hL7 _ _ 1 1 [n] rfl rfl hone (by unfold maxLen; omega) (by omega) (by omega) ?_
    intro v8 w8 hL8 hg8 hat8
    obtain ⟨A8, k8, rfl, _, _⟩ := hL8.shape
    simp only [Act.put, List.setIfInBounds_toArray, List.set_cons_zero, List.set_cons_succ]
    refine wl_store_cell rfl _ _ _ rfl _ _ rfl _ _ #[.slice A8 _ k8] (blk_own h87 hL7 hg8 (by omega)) (by simp) info_ints1 rfl rfl rfl ?_
    intro w9 h89 hg9
    refine wpList_nil ?_
    refine onlyN_normal ?_
    gi_wp2
    have hz8 := hg8.size
    have hlow8 : ∀ r, (Value.slice A7 L.length k7).ownBlock = some r → w.heap.size ≤ r := fun r e => by have := (hL7.lt r e).1; omega
    have hko : KeepsOthers W w9 := (KeepsOthers.of_grownBy (only_of_below hB7 none) (fun j o e _ => by cases e)).trans ((others_own hL7 hg8).trans (KeepsOthers.of_grownBy hg9 (fun j o e1 e2 => by injection e1 with e1; subst e1; exact cells_of_blk' (blk_own h87 hL7 hg8 (by omega)) e2)))
    have hne0 : ∀ k, k < w.heap.size → w9.heap[k]? = W.heap[k]? := fun k hk => (hg9.block k (by omega) (by simp; omega)).trans ((hg8.block k (by omega) (fun e => by have := hlow8 k e.symm; omega)).trans (hB7.block k (by omega)))
    refine ⟨hko, ⟨hne0 g (by omega), hne0 0 (by omega)⟩, _, h89, ?_, ?_, by have := hg9.size; omega⟩
    · rw [numsI_snoc, ← HL.out]
      exact own_low hL8 hg9 (by omega)
    · exact ((below_then hBW hB7).grown hg8 (by have := hBW.size; omega) (fun r e => hlow8 r e)).grown hg9 (by have := hBW.size; omega) (fun r e => by injection e with e; omega)
  case done =>
    rintro D xs W hD hxs ⟨v, h8, hL, hBW, hlt⟩ hK
    rw [hxs, bits_all hx (words_room N)] at hL
    have c3 : W.cell? ⟨w.heap.size, 0, none⟩ = some v := h8.cellv rfl
    gi_wp2
    refine ⟨by simp, .inl ⟨_, _, rfl, run_takeDeferred hK, ?_⟩⟩
    have hg' := grownBy_putObj' W D (.deferred none)
    refine ⟨_, results_tmp rfl _ _ _, _, rfl, (hL.mono (by omega)).kept_ hg' (fun j e1 e2 => ?_), hBW.trans (belowK_b (w := w) (Nat.le_refl _) W D _ _ (by omega) hK rfl rfl)⟩
    rcases hL.2 with ⟨hv, _⟩ | ⟨g', cap', cur, hv, _, hh, _⟩
    · rw [hv] at e1; cases e1
    · rw [hv] at e1
      have e3 : g' = j := by simpa [Value.ownBlock] using e1
      injection e2 with e2
      subst e2
      subst e3
      rw [hK] at hh
      injection hh with hh
      cases hh
  case stop =>
    rintro D c pre W _ _ h _
    exact h.elim
end Go.Proofs.YtkedgombccdamaaDoor
namespace Go.Proofs.YtkedgombccdamaaDoor
open Go.RowKit Go.Shelf Go.Maps
set_option linter.unusedVariables false
set_option linter.unusedSimpArgs false

section
variable {P : Program} (w : World)
/-- something appended to a literal that is empty: it lies in new memory, and nothing else is turned -/
theorem run_append_new {α : Type} {enc : α → Array Value} (base : Nat) (t ty e : TypeId) (i : TypeInfo) (z : Value) (size bytes : Nat) (ht : P.underlying t = some (.slice e)) (hi : P.info? e = some i) (hz : i.zero = some z)
    (hsize : i.size = size) (hby : i.bytes = bytes) (hzs : z.cells.size = size) (hsz : 0 < size) (hs : ∀ y, (enc y).size = size) (h1 : ∀ y, (enc y).all (·.oneCell') = true)
    (g : Nat) (hown : Own w base e size enc (.slice (some ⟨g, 0, none⟩) 0 0) ([] : List α)) (B : Nat) (A : Option Addr) (m c : Nat) (ys : List α) (hm : m = ys.length) (hr : SliceOf w B size enc A ys) (h0 : 0 < m)
    (h63 : m ≤ maxLen) (hbytes : m * bytes ≤ 140737488355328) (hbase : base ≤ w.heap.size) :
    ∃ v' w', (Builtin.append_ #[t, t] ty #[.slice (some ⟨g, 0, none⟩) 0 0, .slice A m c]).run P w = .ok v' w' ∧ Own w' base e size enc v' ys ∧ Below w.heap.size w w' := by
  obtain ⟨v', w', hrun, h2, h3, h4⟩ := run_append_slice (P := P) w base t ty e i z size bytes ht hi hz hsize hby hzs hsz hs h1 _ [] hown B A m c ys hm hr (by simpa using h63) (by simpa using hbytes) hbase
  refine ⟨v', w', hrun, by simpa using h2, ?_⟩
  subst hm
  obtain ⟨b, off, rfl, _, hrow⟩ := hr.at_ h0
  have hcells : ∀ j u, (flat enc ys)[j]? = some u → w.cell? ((⟨b, off, none⟩ : Addr).add j) = some u := by
    intro j u hu
    have hj : j < ys.length * size := by
      rw [← flat_length hs]
      rcases Nat.lt_or_ge j (flat enc ys).length with h | h
      · exact h
      · rw [List.getElem?_eq_none h] at hu; cases hu
    have hdm : j = j / size * size + j % size := by rw [Nat.mul_comm]; exact (Nat.div_add_mod _ _).symm
    have hi2 : j / size < ys.length := Nat.div_lt_of_lt_mul (by rw [Nat.mul_comm]; exact hj)
    have hq : j % size < size := Nat.mod_lt _ hsz
    have hu' : (enc ys[j / size])[j % size]? = some u := by
      rw [← flat_at hs ys _ _ hi2 hq, ← hdm]; exact hu
    have := hrow _ hi2 _ _ hu'
    rw [addr_add]
    rw [show off + j / size * size + j % size = off + j by omega] at this
    exact this
  have hl := flat_length hs ys
  subst hsize
  rw [run_append_grow (P := P) w t ty e i z ht hi hz ⟨g, 0, none⟩ 0 0 [] (by simp) (fun j v h => by simp at h) ⟨b, off, none⟩ ys.length c (flat enc ys) hl hcells (by omega) (by simp only [maxLen] at h63; omega) (growslice_fits (by omega) (by rw [hby]; simpa using hbytes))] at hrun
  injection hrun with _ hw
  subst hw
  exact ⟨rfl, rfl, rfl, by simp, fun k hk => Below.heap_alloc w.drew _ k hk⟩
end
end Go.Proofs.YtkedgombccdamaaDoor
namespace Go.Proofs.YtkedgombccdamaaDoor
open Go.RowKit Go.Shelf Go.Maps
set_option linter.unusedVariables false
set_option linter.unusedSimpArgs false

theorem ValMap.then_ {w w' : World} {b n : Nat} {m : Int → Option Value} (h : ValMap w b n m) (hb : Below w.heap.size w w') : ValMap w' b n m := h.keep (hb.block b h.lt)
def noKeys : Int → Option Value := fun _ => none
def mapS (lo : Nat) : GSpec := ⟨fun v w => ∃ b, v = .map (some b) ∧ lo ≤ b ∧ ValMap w b 0 noKeys, fun v w w' ⟨b, h1, h2, h3⟩ hb => ⟨b, h1, h2, h3.then_ hb⟩⟩
def emptyS (lo : Nat) : GSpec := ⟨fun v w => ∃ g, v = .slice (some ⟨g, 0, none⟩) 0 0 ∧ Own w lo 43 1 encR v ([] : List Nat), fun v w w' ⟨g, h1, h2⟩ hb => ⟨g, h1, h2.then_ hb⟩⟩
def rowS (lo : Nat) (R : List Nat) : GSpec := ⟨fun v w => Own w lo 43 1 encR v R, fun v w w' h hb => h.then_ hb⟩
def machS (lo : Nat) (s : Int) (R : List Nat) : GSpec := ⟨fun v w => ∃ b u, v = .agg #[.int .i64 s, .map (some b), u] ∧ lo ≤ b ∧ ValMap w b 0 noKeys ∧ Own w lo 43 1 encR u R, fun v w w' ⟨b, u, h1, h2, h3, h4⟩ hb => ⟨b, u, h1, h2, h3.then_ hb, h4.then_ hb⟩⟩
def boxS (lo : Nat) (s : Int) (R : List Nat) : GSpec := ⟨fun v w => ∃ gm b u, v = .pointer (some ⟨gm, 0, none⟩) ∧ lo ≤ gm ∧ Blk w gm 146 #[.int .i64 s, .map (some b), u] ∧ lo ≤ b ∧ ValMap w b 0 noKeys ∧ Own w lo 43 1 encR u R,
  fun v w w' ⟨gm, b, u, h1, h2, h3, h4, h5, h6⟩ hb => ⟨gm, b, u, h1, h2, blk_then h3 hb, h4, h5.then_ hb, h6.then_ hb⟩⟩
theorem run_makeMap (w : World) : (Instr.makeMap 144 none).run Tryd.prog w = .ok (.map (some w.heap.size)) (w.alloc (.map #[] 0)) := by kernel_rfl
theorem run_build0 (w : World) : (Instr.buildSlice 23 0 #[]).run Tryd.prog w = .ok (.slice (some ⟨w.heap.size, 0, none⟩) 0 0) (w.alloc (.cells #[] 43)) := by kernel_rfl
theorem run_buildM (w : World) (s : Int) (b : Nat) (A : Option Addr) (n c : Nat) : (Instr.build 146 #[(0, .int .i64 s), (1, .map (some b)), (2, .slice A n c)]).run Tryd.prog w = .ok (.agg #[.int .i64 s, .map (some b), .slice A n c]) w := by kernel_rfl
theorem run_boxM (w : World) (s : Int) (b : Nat) (A : Option Addr) (n c : Nat) : (Instr.box 146 (.agg #[.int .i64 s, .map (some b), .slice A n c])).run Tryd.prog w = .ok (.pointer (some ⟨w.heap.size, 0, none⟩)) (w.alloc (.cells #[.int .i64 s, .map (some b), .slice A n c] 146)) := by kernel_rfl
section
variable {ops : Array Oper} {S : Nat → GSpec} {Q : Exit → Act → World → Prop} {i : Nat} {o : Oper} {a : Act} {w : World}
theorem gs_makeMap (hw : Region.wanted o (yielded ops a.tmps) = true) (ho : o.op = .makeMap 144 none) {lo : Nat} (hlo : lo ≤ w.heap.size) (hp : ∀ v w', (mapS lo).p v w' → (S i).p v w') : GStep Tryd.prog ops S Q i o a w :=
  gs_run hw (v := .map (some w.heap.size)) (by unfold execOp; simp only [ho, Option.map_none, Sem.run_bind, run_makeMap, Result.andThen_ok, Sem.run_pure]) (below_alloc (Below.refl _ _) _) (hp _ _ ⟨_, rfl, hlo, ValMap.new w rfl⟩)
theorem gs_build0 (hw : Region.wanted o (yielded ops a.tmps) = true) (ho : o.op = .buildSlice 23 0 #[]) {lo : Nat} (hlo : lo ≤ w.heap.size) (hp : ∀ v w', (emptyS lo).p v w' → (S i).p v w') : GStep Tryd.prog ops S Q i o a w :=
  gs_run hw (v := .slice (some ⟨w.heap.size, 0, none⟩) 0 0) (by unfold execOp; simp only [ho, List.map_toArray, List.map_nil, Sem.run_bind, run_build0, Result.andThen_ok, Sem.run_pure]) (below_alloc (Below.refl _ _) _) (hp _ _ ⟨_, rfl, own_empty hlo⟩)
theorem gs_append_row (hw : Region.wanted o (yielded ops a.tmps) = true) (x y : Operand) (ho : o.op = .call { callee := .builtin .append, args := #[x, y], argTypes := #[23, 23] }) {lo : Nat} (hlo : lo ≤ w.heap.size) (hx : (emptyS lo).p (a.eval x) w)
    (B : Nat) (A : Option Addr) (m c : Nat) (R : List Nat) (hy : a.eval y = .slice A m c) (hm : m = R.length) (hr : SliceOf w B 1 encR A R) (h0 : 0 < m) (hb : m ≤ 1099511627776) (hp : ∀ v w', (rowS lo R).p v w' → (S i).p v w') : GStep Tryd.prog ops S Q i o a w := by
  obtain ⟨g, hv, hown⟩ := hx
  obtain ⟨i0, hi0, hz0, hz1, hz2⟩ := info_parts info_r3
  rw [hv] at hown
  obtain ⟨v', w', hrun, h2, h3⟩ := run_append_new (P := Tryd.prog) w lo 23 o.type 43 i0 _ 1 4 Tryd.underlying23 hi0 hz0 hz1 hz2 rfl (by decide) encR_size encR_one g hown B A m c R hm hr h0 (by unfold maxLen; omega) (by omega) hlo
  refine gs_run hw (v := v') (w' := w') ?_ h3 (hp _ _ h2)
  unfold execOp
  simp only [ho, resolve, invoke, builtin, Sem.run_bind, Sem.run_pure, Result.andThen_ok, List.map_toArray, List.map_cons, List.map_nil, hv, hy, hrun]
theorem gs_buildM (hw : Region.wanted o (yielded ops a.tmps) = true) (x y z : Operand) (ho : o.op = .build 146 #[(0, x), (1, y), (2, z)]) {lo : Nat} (s : Int) (R : List Nat) (hx : a.eval x = .int .i64 s) (hy : (mapS lo).p (a.eval y) w) (hz : (rowS lo R).p (a.eval z) w)
    (hp : ∀ v w', (machS lo s R).p v w' → (S i).p v w') : GStep Tryd.prog ops S Q i o a w := by
  obtain ⟨b, hv, hlb, hm⟩ := hy
  have hz' : Own w lo 43 1 encR (a.eval z) R := hz
  obtain ⟨A, c, hu, _, _⟩ := hz'.shape
  refine gs_run hw (v := .agg #[.int .i64 s, .map (some b), a.eval z]) ?_ (Below.refl _ _) (hp _ _ ⟨b, _, rfl, hlb, hm, hz'⟩)
  unfold execOp
  simp only [ho, List.map_toArray, List.map_cons, List.map_nil, hx, hv, hu, Sem.run_bind, run_buildM, Result.andThen_ok, Sem.run_pure]
theorem gs_boxM (hw : Region.wanted o (yielded ops a.tmps) = true) (x : Operand) (ho : o.op = .box 146 x) {lo : Nat} (hlo : lo ≤ w.heap.size) (s : Int) (R : List Nat) (hx : (machS lo s R).p (a.eval x) w)
    (hp : ∀ v w', (boxS lo s R).p v w' → (S i).p v w') : GStep Tryd.prog ops S Q i o a w := by
  obtain ⟨b, u, hv, hlb, hm, ho2⟩ := hx
  obtain ⟨A, c, hu, _, _⟩ := ho2.shape
  subst hu
  have hB : Below w.heap.size w (w.alloc (.cells #[.int .i64 s, .map (some b), .slice A R.length c] 146)) := below_alloc (Below.refl _ _) _
  refine gs_run hw (v := .pointer (some ⟨w.heap.size, 0, none⟩)) ?_ hB (hp _ _ ⟨_, b, _, rfl, hlo, Blk.new _ _ _, hlb, hm.then_ hB, ho2.then_ hB⟩)
  unfold execOp
  simp only [ho, hv, Sem.run_bind, run_boxM, Result.andThen_ok, Sem.run_pure]
end
end Go.Proofs.YtkedgombccdamaaDoor
namespace Go.Proofs.YtkedgombccdamaaDoor
open Go.RowKit Go.Shelf Go.Maps
set_option linter.unusedVariables false
set_option linter.unusedSimpArgs false

def vAt (mf : Int → Option Value) (n : Nat) : Value := (mf (n : Int)).getD (.slice none 0 0)
/-- the map while the edges es are behind -/
structure EdMap (lo : Nat) (W : World) (bm N : Nat) (es : List Edg) (nm : Nat) (mf : Int → Option Value) : Prop where
  cnt : nm ≤ es.length
  low : lo ≤ bm
  map : ValMap W bm nm mf
  own : ∀ n : Nat, n < N → Own W lo 76 7 edgC (vAt mf n) (edgesAt es n)
  apart : ∀ n n' k : Nat, n < N → n' < N → n ≠ n' → (vAt mf n).ownBlock = some k → (vAt mf n').ownBlock ≠ some k
theorem own_map_ne {α : Type} {enc : α → Array Value} {W : World} {lo size bm nm : Nat} {e : TypeId} {v : Value} {ys : List α} {mf : Int → Option Value} (h : Own W lo e size enc v ys) (hm : ValMap W bm nm mf) : v.ownBlock ≠ some bm := by
  intro hv0
  obtain ⟨D, ⟨es, clock, hb, _⟩, _⟩ := hm
  rcases h.2 with ⟨hv, _⟩ | ⟨g', cap, cur, hv, _, hh, _⟩
  · rw [hv] at hv0; cases hv0
  · rw [hv] at hv0
    have a1 : g' = bm := by simpa [Value.ownBlock] using hv0
    subst a1
    rw [hb] at hh
    injection hh with hh
    cases hh
theorem blk_map_ne {W : World} {g bm nm : Nat} {t : TypeId} {cs : Array Value} {mf : Int → Option Value} (h : Blk W g t cs) (hm : ValMap W bm nm mf) : g ≠ bm := by
  rintro rfl
  obtain ⟨D, ⟨es, clock, hb, _⟩, _⟩ := hm
  unfold Blk at h
  rw [hb] at h
  injection h with h
  cases h
theorem EdMap.new {lo bm N : Nat} {W : World} (hl : lo ≤ bm) (hm : ValMap W bm 0 noKeys) : EdMap lo W bm N [] 0 noKeys :=
  ⟨Nat.le_refl _, hl, hm, fun n _ => Own.nil_ _ _ _ _ _, fun n n' k _ _ _ h => by cases h⟩
theorem EdMap.then_ {lo bm N nm : Nat} {W W' : World} {es : List Edg} {mf : Int → Option Value} (h : EdMap lo W bm N es nm mf) (hb : Below W.heap.size W W') : EdMap lo W' bm N es nm mf :=
  ⟨h.cnt, h.low, h.map.then_ hb, fun n hn => (h.own n hn).then_ hb, h.apart⟩
theorem edgesAt_snoc (es : List Edg) (d : Edg) (n : Nat) : edgesAt (es ++ [d]) n = edgesAt es n ++ (if d.fr = n then [d] else []) := by
  unfold edgesAt
  rw [List.filter_append]
  congr 1
  by_cases h : d.fr = (n : Int) <;> simp [h]
theorem EdMap.step {lo bm N nm n0 : Nat} {W w4 w5 : World} {es : List Edg} {mf : Int → Option Value} {dd : Edg} {v' : Value} (h : EdMap lo W bm N es nm mf) (hn0 : n0 < N) (hdd : dd.fr = n0)
    (hg : W.grownBy w4 (vAt mf n0).ownBlock) (hm4 : ValMap w4 bm nm mf) (hv : Own w4 lo 76 7 edgC v' (edgesAt es n0 ++ [dd])) (hat : v'.ownBlock = (vAt mf n0).ownBlock ∨ ∃ k, v'.ownBlock = some k ∧ W.heap.size ≤ k)
    (hm : ValMap w5 bm (nm + 1) (fun z => if z = (n0 : Int) then some v' else mf z)) (hg5 : w4.grownBy w5 (some bm)) : EdMap lo w5 bm N (es ++ [dd]) (nm + 1) (fun z => if z = (n0 : Int) then some v' else mf z) := by
  have e0 : vAt (fun z => if z = (n0 : Int) then some v' else mf z) n0 = v' := by simp [vAt]
  have e1 : ∀ n : Nat, n ≠ n0 → vAt (fun z => if z = (n0 : Int) then some v' else mf z) n = vAt mf n := fun n hn => by
    have : ¬ (n : Int) = n0 := by omega
    simp [vAt, this]
  have hfar : ∀ n k : Nat, n < N → n ≠ n0 → (vAt mf n).ownBlock = some k → v'.ownBlock ≠ some k := fun n k hn hne hk h2 => by
    rcases hat with h3 | ⟨k3, h3, h4⟩
    · exact h.apart n n0 k hn hn0 hne hk (h3 ▸ h2)
    · rw [h3] at h2
      injection h2 with h2
      have := ((h.own n hn).lt k hk).2
      omega
  refine ⟨by have := h.cnt; simp; omega, h.low, hm, fun n hn => ?_, fun n n' k hn hn' hne hk => ?_⟩
  · by_cases e : n = n0
    · subst e
      rw [e0, edgesAt_snoc, if_pos hdd]
      exact hv.kept_ hg5 (fun j h1 h2 => by injection h2 with h2; subst h2; exact own_map_ne hv hm4 h1)
    · rw [e1 n e, edgesAt_snoc, if_neg (by omega), List.append_nil]
      have h4 : Own w4 lo 76 7 edgC (vAt mf n) (edgesAt es n) := (h.own n hn).kept_ hg (fun j h1 h2 => h.apart n n0 j hn hn0 e h1 h2)
      exact h4.kept_ hg5 (fun j h1 h2 => by injection h2 with h2; subst h2; exact own_map_ne h4 hm4 h1)
  · by_cases e : n = n0
    · subst e
      rw [e0] at hk
      rw [e1 n' (fun e => hne e.symm)]
      exact fun h2 => hfar n' k hn' (fun e => hne e.symm) h2 hk
    · rw [e1 n e] at hk
      by_cases e' : n' = n0
      · subst e'
        rw [e0]
        exact hfar n k hn e hk
      · rw [e1 n' e']
        exact h.apart n n' k hn hn' hne hk
theorem own_sliceof {α : Type} {enc : α → Array Value} {W W' : World} {lo size n c : Nat} {e : TypeId} {A : Option Addr} {ys : List α} (hs : ∀ y, (enc y).size = size) (h : Own W lo e size enc (.slice A n c) ys) (hk : ∀ k, lo ≤ k → k < W.heap.size → W'.heap[k]? = W.heap[k]?) : SliceOf W' W.heap.size size enc A ys := by
  have h1 := h.slice_all hs
  rcases h1 with h1 | ⟨b, off, hA, hlt, hr⟩
  · exact .inl h1
  · subst hA
    exact .inr ⟨b, off, rfl, hlt, fun i hi => (hr i hi).keep (hk b ((h.lt b rfl).1) hlt)⟩
theorem mach_of {lo gm bm N nm : Nat} {W : World} {E : List Edg} {R : List Nat} {mf : Int → Option Value} {u : Value} (hf : Fits N E R) (hN : N ≤ 1099511627776) (hE : E.length ≤ 1099511627776) (hR : ∀ r ∈ R, r < 4294967296) (hlo : 0 < lo) (hg : lo ≤ gm)
    (hb : Blk W gm 146 #[.int .i64 (N : Int), .map (some bm), u]) (hu : Own W lo 43 1 encR u R) (hm : EdMap lo W bm N E nm mf) : MachIn lo W.heap.size W gm N E R := by
  intro W' hk hs
  obtain ⟨B, d, rfl, _, _⟩ := hu.shape
  have hgl := hb.lt
  have hbl := hm.map.lt
  refine ⟨hf, hN, hE, hR, by omega, hs, hgl, bm, nm, B, _, d, mf, hbl, (hk gm hg hgl).trans hb, rfl, own_sliceof encR_size hu hk, hm.map.keep (hk bm hm.low hbl), fun n hn => ?_⟩
  have ho := hm.own n hn
  obtain ⟨A, c, hv, _, _⟩ := ho.shape
  rw [hv] at ho
  exact ⟨A, _, c, hv, rfl, own_sliceof edgC_size ho hk⟩
theorem right_fits {s : Int} {E : List Edg} {R : List Nat} (h : rightB s E R.length = true) : ∃ N : Nat, s = N ∧ Fits N E R := by
  unfold rightB at h
  simp only [Bool.and_eq_true, decide_eq_true_eq, List.all_eq_true] at h
  obtain ⟨⟨h1, h2⟩, h3⟩ := h
  refine ⟨R.length, h2.symm, ⟨by omega, rfl, fun d hd => ?_, fun d hd => ?_, fun d hd => ?_, fun d hd hk => ?_⟩⟩
  all_goals
    have h4 := h3 d hd
    unfold badE inS at h4
    simp only [Bool.not_or, Bool.not_and, Bool.and_eq_true, Bool.or_eq_true, Bool.not_eq_true', Bool.not_not, decide_eq_true_eq, decide_eq_false_iff_not, bne_iff_ne, bne_eq_false_iff_eq, Bool.not_eq_false'] at h4
  · omega
  · omega
  · omega
  · rcases h4.2 with h5 | h5
    · exact absurd h5 hk
    · exact h5
end Go.Proofs.YtkedgombccdamaaDoor
namespace Go.Proofs.YtkedgombccdamaaDoor
open Go.RowKit Go.Shelf Go.Maps
set_option linter.unusedVariables false
set_option linter.unusedSimpArgs false
attribute [local go_sem] Oper.semAt_some

theorem gs_lookup_v {ops : Array Oper} {S : Nat → GSpec} {Q : Exit → Act → World → Prop} {i : Nat} {o : Oper} {a : Act} {w : World} {b n : Nat} {mf : Int → Option Value} (hw : Region.wanted o (yielded ops a.tmps) = true) (x y : Operand) (ho : o.op = .lookup 144 x y false) (h : ValMap w b n mf) (k : Int) (hk : (Lit.int .i64 k).wf = true)
    (hx : a.eval x = .map (some b)) (hy : a.eval y = .int .i64 k) (hp : (S i).p ((mf k).getD (.slice none 0 0)) w) : GStep Tryd.prog ops S Q i o a w :=
  gs_run hw (v := (mf k).getD (.slice none 0 0)) (by unfold execOp; simp only [ho, hx, hy, Sem.run_bind, run_vmap h k hk, Result.andThen_ok, Sem.run_pure]) (Below.refl _ _) hp
set_option maxRecDepth 100000 in
set_option maxHeartbeats 4000000 in
theorem s_begin_any (s : Int) (A : Option Addr) (n c0 : Nat) (B : Option Addr) (m d0 : Nat) (E : List Edg) (R : List Nat) (hn : n = E.length) (hm : m = R.length) (hE : E.length ≤ 1099511627776) (hRl : R.length ≤ 1099511627776) (hR : ∀ r ∈ R, r < 4294967296) (w : World)
    (hsE : SliceOf w w.heap.size 7 edgC A E) (hsR : SliceOf w w.heap.size 1 encR B R) (hT : TabOk w) :
    Calls Tryd.prog 50 #[.agg (nfaC s A n c0 B m d0)] w fun e w' => Below w.heap.size w w' ∧
      ((rightB s E m = false ∧ e = .returned (.tuple #[.pointer none, .int .i64 70])) ∨
       (rightB s E m = true ∧ ∃ gw gm lo nb, e = .returned (.tuple #[.pointer (some ⟨gw, 0, none⟩), .int .i64 0]) ∧ w.heap.size ≤ lo ∧ w.heap.size ≤ gw ∧ WalkOk lo nb w' gw gm R.length E R (begW E R.length R))) := by
  have hn2 : n ≤ 1099511627776 := by omega
  have hright := fun W1 => right_any s A n c0 B m d0 E hn hE W1
  have Hn := Lib.hid hn
  have Hm := Lib.hid hm
  clear hn hm
  go_enter Tryd.func50, Tryd.ntmps50
  have h1 := Blk.new w 25 (nfaC s A n c0 B m d0)
  have hB1 : Below w.heap.size w (w.alloc (.cells (nfaC s A n c0 B m d0) 25)) := below_alloc (Below.refl _ _) _
  go_upto_region 1 with (fail)
  obtain ⟨W1, hW1⟩ : ∃ y, y = w.alloc (.cells (nfaC s A n c0 B m d0) 25) := ⟨_, rfl⟩
  rw [← hW1] at h1 hB1 ⊢
  clear hW1
  have hs1 := (hsE.below hB1).more hB1.size
  replace hright := hright W1 hs1
  cases hrb : rightB s E m
  · rw [hrb] at hright
    go_wp2_with (first | (refine wl_load_nfa rfl _ rfl _ rfl _ _ _ _ _ _ _ h1 ?_) | (go_at_call 32; refine hright.mono ?_; rintro e w3 ⟨rfl, hB3⟩))
    go_ret2
    exact ⟨below_then hB1 hB3, .inl ⟨hrb, rfl⟩⟩
  · rw [hrb] at hright
    go_upto_region 3 with (first | (refine wl_load_nfa rfl _ rfl _ rfl _ _ _ _ _ _ _ h1 ?_) | (go_at_call 32; refine hright.mono ?_; rintro e w3 ⟨rfl, hB3⟩))
    obtain ⟨N, hsN, hf⟩ := right_fits (Hm.out ▸ hrb)
    have hNR : Hid (N = R.length) := Lib.hid hf.rules.symm
    have hm0 : 0 < m := by rw [Hm.out, ← hNR.out]; exact hf.one
    have hm2 : m ≤ 1099511627776 := by rw [Hm.out]; exact hRl
    have hNN : N ≤ 1099511627776 := by rw [hNR.out]; exact hRl
    subst hsN
    replace h1 := blk_then h1 hB3
    replace hB1 := below_then hB1 hB3
    clear hright hs1 hB3
    obtain ⟨lo, hlo⟩ : ∃ y, y = w3.heap.size := ⟨_, rfl⟩
    have hlo2 : w.heap.size ≤ lo := by rw [hlo]; exact hB1.size
    refine wp_region_steps 10 [eqS (.pointer (some ⟨w.heap.size, 0, none⟩)), eqS (.int .i64 (N : Int)), mapS lo, emptyS lo, eqS (.pointer (some ⟨w.heap.size, 2, none⟩)), eqS (.slice B m d0), rowS lo R, machS lo (N : Int) R, boxS lo (N : Int) R, boxS lo (N : Int) R] [11, 12, 13, 14, 15, 16, 17, 18, 19, 4] rfl (by kernel_rfl) rfl ?_ ?_
    · skip
      refine Steps.cons (fun a' w' hG hB dep => gs_field (want_none rfl) _ _ _ rfl w.heap.size 0 0 (hG.other 1 rfl) (field_nfa_0 _ 0) rfl) ?_
      refine Steps.cons (fun a' w' hG hB dep => gs_load1 (want_none rfl) _ _ rfl w.heap.size 0 (dep 0 rfl 11 rfl) _ ((blk_then h1 hB).cellv (i := 0) rfl) _ Tryd.underlying3 rfl rfl) ?_
      refine Steps.cons (fun a' w' hG hB dep => gs_makeMap (want_none rfl) rfl (lo := lo) (by have := hB.size; omega) (fun _ _ h => h)) ?_
      refine Steps.cons (fun a' w' hG hB dep => gs_build0 (want_none rfl) rfl (lo := lo) (by have := hB.size; omega) (fun _ _ h => h)) ?_
      refine Steps.cons (fun a' w' hG hB dep => gs_field (want_none rfl) _ _ _ rfl w.heap.size 0 2 (hG.other 1 rfl) (field_nfa_2 _ 0) rfl) ?_
      refine Steps.cons (fun a' w' hG hB dep => gs_load1 (want_none rfl) _ _ rfl w.heap.size 2 (dep 4 rfl 15 rfl) _ ((blk_then h1 hB).cellv (i := 2) rfl) _ Tryd.underlying23 rfl rfl) ?_
      refine Steps.cons (fun a' w' hG hB dep => gs_append_row (want_none rfl) _ _ rfl (lo := lo) (by have := hB.size; omega) (dep 3 rfl 14 rfl) w.heap.size B m d0 R (dep 5 rfl 16 rfl) Hm.out (hsR.below (hB1.trans (hB.mono hB1.size))) hm0 hm2 (fun _ _ h => h)) ?_
      refine Steps.cons (fun a' w' hG hB dep => gs_buildM (want_none rfl) _ _ _ rfl (lo := lo) (N : Int) R (dep 1 rfl 12 rfl) (dep 2 rfl 13 rfl) (dep 6 rfl 17 rfl) (fun _ _ h => h)) ?_
      refine Steps.cons (fun a' w' hG hB dep => gs_boxM (want_none rfl) _ rfl (lo := lo) (by have := hB.size; omega) (N : Int) R (dep 7 rfl 18 rfl) (fun _ _ h => h)) ?_
      refine Steps.cons (fun a' w' hG hB dep => gs_assign (want_none rfl) _ rfl (dep 8 rfl 19 rfl)) ?_
      exact Steps.nil
    intro uf w4 hB4 ans
    obtain ⟨gm, bm, uR, u4, hgmlo, hgm, hbmlo, hvm, huR⟩ := ans 9 4 (by decide) rfl
    clear ans
    simp only [putAll, List.foldl_cons, List.foldl_nil, Act.put, List.setIfInBounds_toArray, List.set_cons_zero, List.set_cons_succ, u4]
    clear u4
    simp only [List.drop]
    refine wpList_nil ?_
    replace h1 := blk_then h1 hB4
    replace hB1 := below_then hB1 hB4
    have hlo4 : lo ≤ w4.heap.size := by rw [hlo]; exact hB4.size
    clear hlo hB4
    obtain ⟨l, hl⟩ : ∃ l, l = E := ⟨_, rfl⟩
    have hlE : E.length = l.length := by rw [hl]
    have hnl : Hid (n = l.length) := Lib.hid (by rw [Hn.out, hlE])
    rw [← hl] at hsE
    have Hl := Lib.hid hl
    clear hl
    have c1 : w4.cell? ⟨w.heap.size, 1, none⟩ = some (.slice A n c0) := h1.cellv (i := 1) rfl
    go_wp2_with (fail)
    clear c1 h1
    have hed0 : EdMap lo w4 bm N (l.take 0) 0 noKeys := EdMap.new hbmlo hvm
    clear hvm
    go_loopw [23] (fun i wr => ∃ k : Nat, k ≤ n ∧ i = .int .i64 k ∧ Blk wr gm 146 #[.int .i64 (N : Int), .map (some bm), uR] ∧ Own wr lo 43 1 encR uR R ∧ (∃ nm mf, EdMap lo wr bm N (l.take k) nm mf) ∧ Below w.heap.size w wr ∧ lo ≤ wr.heap.size) (fun i _ => n - (intOf i).toNat)
    case atStart => exact ⟨0, by omega, rfl, hgm, huR, ⟨0, noKeys, hed0⟩, hB1, hlo4⟩
    case round =>
      clear hgm huR hed0 hB1 hlo4
      obtain ⟨k, hk, rfl, hgm, huR, ⟨nm, mf, hed⟩, hB1, hlo4⟩ := hrel
      by_cases hkl : k < n
      · have hkI : (k : Int) < n := by omega
        have hkl2 : k < l.length := by rw [← hnl.out]; exact hkl
        obtain ⟨b, off, rfl, hb, hrows⟩ := hsE.at_ (by omega)
        have hr0 := (hrows k hkl2).keep (hB1.block b hb)
        have htk : l.take (k + 1) = l.take k ++ [l[k]] := List.take_succ_eq_append_getElem hkl2
        have hdE : l[k] ∈ E := by rw [← Hl.out]; exact List.getElem_mem hkl2
        obtain ⟨dd, hd⟩ : ∃ d, d = l[k] := ⟨_, rfl⟩
        rw [← hd] at hr0 htk hdE
        have Htk := Lib.hid htk
        clear hd htk
        have hkb : k < 1099511628000 := by omega
        go_upto_region 7 with (first | (refine wl_load_edge_at rfl _ rfl _ _ rfl _ hr0 ?_) | (refine wl_store_edge rfl _ _ rfl _ _ rfl rfl edge0 (Blk.new _ _ _) ?_; intro w6 h6 hg6))
        have hB6 := below_grown (below_alloc (Below.refl _ wr) (.cells #[.int .i64 0, .int .i64 0, .int .i64 0, .int .u64 0, .int .u64 0, .int .u64 0, .int .u64 0] 76)) hg6 (Nat.le_refl _)
        clear hr0 hg6
        have hfrb := hf.fr dd hdE
        obtain ⟨n0, hfr⟩ : ∃ q : Nat, dd.fr = (q : Int) := ⟨dd.fr.toNat, by omega⟩
        have hn0 : n0 < N := by omega
        have hlt0 := (hed.own n0 hn0).lt
        have hne_bm : (some bm : Option Nat) ≠ (vAt mf n0).ownBlock := fun e => own_map_ne (hed.own n0 hn0) hed.map e.symm
        have hne_gm : (some gm : Option Nat) ≠ (vAt mf n0).ownBlock := fun e => own_blk_ne (hed.own n0 hn0) hgm (by decide) e.symm
        have hne_6 : (some wr.heap.size : Option Nat) ≠ (vAt mf n0).ownBlock := fun e => by have := (hlt0 _ e.symm).2; omega
        have huN : ∀ j, uR.ownBlock = some j → (vAt mf n0).ownBlock ≠ some j := fun j h1 h2 => by
          rcases (hed.own n0 hn0).2 with ⟨hv, _⟩ | ⟨g', cap, cur, hv, _, hh, _⟩
          · rw [hv] at h2; cases h2
          · rcases huR.2 with ⟨hv2, _⟩ | ⟨g2, cap2, cur2, hv2, _, hh2, _⟩
            · rw [hv2] at h1; cases h1
            · rw [hv] at h2; rw [hv2] at h1
              have a1 : g' = j := by simpa [Value.ownBlock] using h2
              have a2 : g2 = j := by simpa [Value.ownBlock] using h1
              subst a1; subst a2
              rw [hh] at hh2
              injection hh2 with hh2
              injection hh2 with _ hh2
              cases hh2
        replace hgm := blk_then hgm hB6
        replace huR := huR.then_ hB6
        replace hed := hed.then_ hB6
        replace hB1 := below_then hB1 hB6
        have hlt6 : wr.heap.size < w6.heap.size := h6.lt
        have hlo6 : lo ≤ w6.heap.size := by omega
        have hel : (edgesAt (l.take k) n0).length ≤ 1099511627776 := Nat.le_trans (List.length_filter_le _ _) (by rw [List.length_take]; omega)
        obtain ⟨rw0, hrw⟩ : ∃ y, (vAt mf n0).ownBlock = y := ⟨_, rfl⟩
        rw [hrw] at hne_bm hne_gm hne_6 huN hlt0
        clear hB6
        refine wp_region_stepsR (rw := rw0) (i0 := 15) 16 [eqS (.pointer (some ⟨gm, 0, none⟩)), eqS (.pointer (some ⟨gm, 0, none⟩)), eqS (.pointer (some ⟨gm, 1, none⟩)), eqS (.map (some bm)), eqS (.pointer (some ⟨wr.heap.size, 1, none⟩)), eqS (.int .i64 (n0 : Int)), eqS (.pointer (some ⟨gm, 0, none⟩)), eqS (.pointer (some ⟨gm, 0, none⟩)), eqS (.pointer (some ⟨gm, 1, none⟩)), eqS (.map (some bm)), eqS (.pointer (some ⟨wr.heap.size, 1, none⟩)), eqS (.int .i64 (n0 : Int)), eqS (vAt mf n0), eqS (.agg (edgC dd)), oneS w6.heap.size dd, moreS lo w6.heap.size rw0 (edgesAt (l.take k) n0 ++ [dd])] [27, 28, 29, 30, 31, 32, 33, 34, 35, 36, 37, 38, 39, 40, 41, 42] rfl ?_ (by kernel_rfl) rfl ?_ ?_
        · intro j hj v wa wb hp hg
          match j, hj, hp with
          | 0, _, hp => exact hp
          | 1, _, hp => exact hp
          | 2, _, hp => exact hp
          | 3, _, hp => exact hp
          | 4, _, hp => exact hp
          | 5, _, hp => exact hp
          | 6, _, hp => exact hp
          | 7, _, hp => exact hp
          | 8, _, hp => exact hp
          | 9, _, hp => exact hp
          | 10, _, hp => exact hp
          | 11, _, hp => exact hp
          | 12, _, hp => exact hp
          | 13, _, hp => exact hp
          | 14, _, hp =>
            obtain ⟨g, q1, q2, q3⟩ := hp
            exact ⟨g, q1, q2, q3.grown hg (fun e => by have := (hlt0 g e.symm).2; omega)⟩
          | 15, hj, _ => exact absurd rfl hj
          | j + 16, _, hp => exact hp
        · skip
          refine StepsR.cons (fun a' w' hG hW hP dep => GStepR.of (gs_move (want_none rfl) _ rfl (hG.other 4 rfl))) ?_
          refine StepsR.cons (fun a' w' hG hW hP dep => GStepR.of (gs_nil (want_none rfl) _ rfl _ (dep 0 rfl 27 rfl) rfl)) ?_
          refine StepsR.cons (fun a' w' hG hW hP dep => GStepR.of (gs_field (want_none rfl) _ _ _ rfl gm 0 1 (dep 1 rfl 28 rfl) (field_mach_1 gm) rfl)) ?_
          refine StepsR.cons (fun a' w' hG hW hP dep => GStepR.of (gs_load1 (want_none rfl) _ _ rfl gm 1 (dep 2 rfl 29 rfl) _ ((hgm.grown hW hne_gm).cellv (i := 1) rfl) _ Tryd.underlying144 rfl rfl)) ?_
          refine StepsR.cons (fun a' w' hG hW hP dep => GStepR.of (gs_field (want_none rfl) _ _ _ rfl wr.heap.size 0 1 (hG.other 6 rfl) (field_edge_1 _ _) rfl)) ?_
          refine StepsR.cons (fun a' w' hG hW hP dep => GStepR.of (gs_load1 (want_none rfl) _ _ rfl wr.heap.size 1 (dep 4 rfl 31 rfl) (.int .i64 (n0 : Int)) (by rw [← hfr]; exact (h6.grown hW hne_6).cellv (i := 1) rfl) _ Tryd.underlying3 rfl rfl)) ?_
          refine StepsR.cons (fun a' w' hG hW hP dep => GStepR.of (gs_move (want_none rfl) _ rfl (hG.other 4 rfl))) ?_
          refine StepsR.cons (fun a' w' hG hW hP dep => GStepR.of (gs_nil (want_none rfl) _ rfl _ (dep 6 rfl 33 rfl) rfl)) ?_
          refine StepsR.cons (fun a' w' hG hW hP dep => GStepR.of (gs_field (want_none rfl) _ _ _ rfl gm 0 1 (dep 7 rfl 34 rfl) (field_mach_1 gm) rfl)) ?_
          refine StepsR.cons (fun a' w' hG hW hP dep => GStepR.of (gs_load1 (want_none rfl) _ _ rfl gm 1 (dep 8 rfl 35 rfl) _ ((hgm.grown hW hne_gm).cellv (i := 1) rfl) _ Tryd.underlying144 rfl rfl)) ?_
          refine StepsR.cons (fun a' w' hG hW hP dep => GStepR.of (gs_field (want_none rfl) _ _ _ rfl wr.heap.size 0 1 (hG.other 6 rfl) (field_edge_1 _ _) rfl)) ?_
          refine StepsR.cons (fun a' w' hG hW hP dep => GStepR.of (gs_load1 (want_none rfl) _ _ rfl wr.heap.size 1 (dep 10 rfl 37 rfl) (.int .i64 (n0 : Int)) (by rw [← hfr]; exact (h6.grown hW hne_6).cellv (i := 1) rfl) _ Tryd.underlying3 rfl rfl)) ?_
          refine StepsR.cons (fun a' w' hG hW hP dep => GStepR.of (gs_lookup_v (want_none rfl) _ _ rfl (hed.map.keep (hW.block bm hed.map.lt hne_bm)) _ (wf_of_nat (by omega)) (dep 9 rfl 36 rfl) (dep 11 rfl 38 rfl) rfl)) ?_
          refine StepsR.cons (fun a' w' hG hW hP dep => GStepR.of (gs_load_edge_at (want_none rfl) _ rfl wr.heap.size 0 (hG.other 6 rfl) dd (RowAt.of_blk (h6.grown hW hne_6)) rfl)) ?_
          refine StepsR.cons (fun a' w' hG hW hP dep => GStepR.of (gs_one (want_none rfl) _ rfl (lo := w6.heap.size) hW.size dd (dep 13 rfl 40 rfl) (fun _ _ h => h))) ?_
          refine StepsR.cons (fun a' w' hG hW hP dep => gs_more (want_none rfl) _ _ rfl (lo := lo) (k0 := w6.heap.size) (by have := hW.size; omega) hW.size (vAt mf n0) _ dd (dep 12 rfl 39 rfl) hrw ((hed.own n0 hn0).then_ (hP rfl)) hel w6.heap.size (dep 14 rfl 41 rfl) (fun _ _ h => h)) ?_
          exact trivial
        intro uf w7 hW7 ans
        have u30 : uf 30 = .map (some bm) := ans 3 30 (by decide) rfl
        have u32 : uf 32 = .int .i64 (n0 : Int) := ans 5 32 (by decide) rfl
        obtain ⟨hv7, hat7⟩ := ans 15 42 (by decide) rfl
        clear ans
        simp only [putAll, List.foldl_cons, List.foldl_nil, Act.put, List.setIfInBounds_toArray, List.set_cons_zero, List.set_cons_succ, u30, u32]
        clear u30 u32
        simp only [List.drop]
        have hm7 : ValMap w7 bm nm mf := hed.map.keep (hW7.block bm hed.map.lt hne_bm)
        have hnm := hed.cnt
        rw [List.length_take] at hnm
        refine wl_vmap_put hm7 (by unfold maxLen; omega) rfl _ _ _ rfl rfl n0 (wf_of_nat (by omega)) rfl _ rfl ?_
        intro w8 hm8 hg8
        refine wpList_nil ?_
        have hgm7 : Blk w7 gm _ _ := hgm.grown hW7 hne_gm
        have huR7 := huR.kept_ hW7 (fun j h1 h2 => huN j h1 h2)
        have hgm8 := blk_grown hgm7 hg8 (blk_map_ne hgm7 hm7)
        have huR8 := huR7.kept_ hg8 (fun j h1 h2 => by injection h2 with h2; subst h2; exact own_map_ne huR7 hm7 h1)
        have hed8 := hed.step hn0 hfr (by rw [hrw]; exact hW7) hm7 hv7 (by rw [hrw]; exact hat7) hm8 hg8
        rw [← Htk.out] at hed8
        have hB8 : Below w.heap.size w w8 := (hB1.grown hW7 hB1.size (fun j e => by have := (hlt0 j e).1; omega)).grown hg8 (by have := hB1.size; have := hW7.size; omega) (fun j e => by injection e with e; omega)
        have hlo8 : lo ≤ w8.heap.size := by have := hW7.size; have := hg8.size; omega
        clear hgm hgm7 huR huR7 hed hB1 hlo4 hm7 hm8 hg8 hv7 hat7 hW7 h6
        go_wp2_with (fail)
        exact ⟨⟨k + 1, by omega, rfl, hgm8, huR8, ⟨_, _, hed8⟩, hB8, hlo8⟩, by simp only [intOf]; omega⟩
      · have hkI : ¬ (k : Int) < n := by omega
        rw [List.take_of_length_le (by rw [← hnl.out]; omega), Hl.out] at hed
        have hMI := mach_of hf (by rw [hNR.out]; exact hRl) hE hR (by have := hT.size; omega) hgmlo hgm huR hed
        have hM := hMI.ok
        clear hgm huR hed
        go_upto_region 10 with (fail)
        have hgw := Blk.new wr 149 (walkC gm (.slice none 0 0) 0 true)
        have hBw : Below wr.heap.size wr (wr.alloc (.cells #[.pointer (some ⟨gm, 0, none⟩), .slice none 0 0, .int .u32 0, .bool true] 149)) := below_alloc (Below.refl _ _) _
        obtain ⟨wa, hwa⟩ : ∃ y, y = wr.alloc (.cells #[.pointer (some ⟨gm, 0, none⟩), .slice none 0 0, .int .u32 0, .bool true] 149) := ⟨_, rfl⟩
        have hgw' : Blk wa wr.heap.size 149 (walkC gm (.slice none 0 0) 0 true) := by rw [hwa]; exact hgw
        rw [← hwa] at hBw ⊢
        clear hwa hgw
        have hMa := hM.below hBw hM.2.2.2.2.2.1
        have hTr := hT.then_ hT.size hB1
        have hMIa := hMI.keep (fun i _ hi => hBw.block i hi) hBw.size
        have hBa := below_then hB1 hBw
        go_upto_region 11 with (first
          | (go_at_call 73; refine (none_any wr.heap.size gm N E R wa hMa).mono ?_; rintro e wb ⟨g, c, rfl, hg, hs, hBb⟩)
          | (go_at_call 72; refine (at_any wr.heap.size gm N E R wa.heap.size wr.heap.size g c 0 0 true _ (fun i hi => by simp at hi) (by decide) wb (hMa.below hBb hMa.2.2.2.2.2.1) (blk_then hgw' hBb) (Nat.le_refl _) hs hBw.size (by have := hgw'.lt; omega) ((hTr.then_ hTr.size hBw).then_ (by have := hBw.size; have := hTr.size; omega) hBb)).mono ?_; rintro e wc ⟨rfl, hwc, hsc, hG⟩))
        have hBb2 := below_then hBa hBb
        have hz1 := hBw.size
        have hz2 := hBb.size
        have hz3 := hB1.size
        have hlw := hgw'.lt
        rw [Nat.zero_or, Nat.zero_or] at hwc
        rw [Nat.zero_or] at hsc
        have hMc : MachIn lo wr.heap.size wc gm N E R := hMIa.keep (fun i _ hi => (hG.block i (by omega) (by omega) (by omega)).trans (hBb.block i (by omega))) (Nat.le_trans hz2 hG.size)
        have hBc : Below w.heap.size w wc := ⟨hG.os.trans hBb2.os, hG.tape.trans hBb2.tape, hG.output.trans hBb2.output, Nat.le_trans hBb2.size hG.size, fun i hi => (hG.block i (by omega) (by omega) (by omega)).trans (hBb2.block i hi)⟩
        clear hs
        go_wp2_with (fail)
        go_ret2
        refine ⟨hBc, .inr ⟨hrb, wr.heap.size, gm, lo, wr.heap.size, rfl, hlo2, hB1.size, ?_⟩⟩
        rw [← hNR.out]
        exact ⟨hMc, Nat.le_refl _, met_lt hR _ _, spread_below _ _ _ _ _, g, c, by omega, hwc, hsc.mono (by omega)⟩
end Go.Proofs.YtkedgombccdamaaDoor
namespace Go.Proofs.YtkedgombccdamaaDoor
open Go.RowKit Go.Shelf Go.Maps
set_option linter.unusedVariables false
set_option linter.unusedSimpArgs false
attribute [local go_sem] Oper.semAt_some

/-- the bytes of a line -/
def bytesL (ln : ByteArray) : List Nat := ln.data.toList.map (·.toNat)
theorem bytesL_length (ln : ByteArray) : (bytesL ln).length = ln.size := by
  unfold bytesL
  rw [List.length_map]
  rfl
noncomputable def goesW (E : List Edg) (N : Nat) (R : List Nat) (cs : List Nat) (k : Wk) : Wk := cs.foldl (byteW E N R) k
theorem goesW_snoc (E : List Edg) (N : Nat) (R : List Nat) (cs : List Nat) (c : Nat) (k : Wk) : goesW E N R (cs ++ [c]) k = byteW E N R (goesW E N R cs k) c := by simp [goesW]
theorem bytesL_get (ln : ByteArray) (k : Nat) (h : k < ln.size) (h2 : k < (bytesL ln).length) : (bytesL ln)[k] = (ln[k]).toNat :=
  (List.getElem_map (fun x : UInt8 => x.toNat) (l := ln.data.toList) (i := k) (h := h2)).trans rfl
theorem bytesL_take (ln : ByteArray) (k : Nat) (h : k < ln.size) : (bytesL ln).take (k + 1) = (bytesL ln).take k ++ [(ln[k]).toNat] := by
  have h2 : k < (bytesL ln).length := by rw [bytesL_length]; exact h
  rw [List.take_succ_eq_append_getElem h2, bytesL_get ln k h h2]
set_option maxRecDepth 100000 in
set_option maxHeartbeats 4000000 in
theorem line_any (s : Int) (A : Option Addr) (n c0 : Nat) (B : Option Addr) (m d0 : Nat) (E : List Edg) (R : List Nat) (ln : ByteArray) (hn : n = E.length) (hm : m = R.length) (hE : E.length ≤ 1099511627776) (hRl : R.length ≤ 1099511627776) (hR : ∀ r ∈ R, r < 4294967296) (w : World)
    (hsE : SliceOf w w.heap.size 7 edgC A E) (hsR : SliceOf w w.heap.size 1 encR B R) (hT : TabOk w) (hln : ln.size ≤ 1099511627776) :
    Calls Tryd.prog 48 #[.agg (nfaC s A n c0 B m d0), .string ln] w fun e w' => Below w.heap.size w w' ∧
      ((rightB s E m = false ∧ e = .returned (.tuple #[.int .u32 0, .int .i64 70])) ∨
       (rightB s E m = true ∧ e = .returned (.tuple #[.int .u32 (endW E R.length R (goesW E R.length R (bytesL ln) (begW E R.length R)) : Nat), .int .i64 0]))) := by
  have hbeg := fun w1 h1 h2 h3 => s_begin_any s A n c0 B m d0 E R hn hm hE hRl hR w1 h1 h2 h3
  clear hn hm
  go_enter Tryd.func48, Tryd.ntmps48
  have h1 := Blk.new w 25 (nfaC s A n c0 B m d0)
  have hB1 : Below w.heap.size w (w.alloc (.cells (nfaC s A n c0 B m d0) 25)) := below_alloc (Below.refl _ _) _
  go_upto_region 1 with (fail)
  obtain ⟨W1, hW1⟩ : ∃ y, y = w.alloc (.cells (nfaC s A n c0 B m d0) 25) := ⟨_, rfl⟩
  rw [← hW1] at h1 hB1 ⊢
  clear hW1
  replace hbeg := hbeg W1 ((hsE.below hB1).more hB1.size) ((hsR.below hB1).more hB1.size) (hT.then_ hT.size hB1)
  rcases hrb : rightB s E m with _ | _
  · have hbeg2 : Calls Tryd.prog 50 #[.agg (nfaC s A n c0 B m d0)] W1 fun e w' => Below W1.heap.size W1 w' ∧ e = .returned (.tuple #[.pointer none, .int .i64 70]) := hbeg.mono (fun e w' ⟨q1, q2⟩ => ⟨q1, by
      rcases q2 with q2 | q2
      · exact q2.2
      · rw [hrb] at q2; exact absurd q2.1 (by decide)⟩)
    clear hbeg
    go_wp2_with (first | (refine wl_load_nfa rfl _ rfl _ rfl _ _ _ _ _ _ _ h1 ?_) | (go_at_call 50; refine hbeg2.mono ?_; rintro e w3 ⟨hB3, rfl⟩))
    go_ret2
    exact ⟨below_then hB1 hB3, .inl ⟨hrb, rfl⟩⟩
  · have hbeg2 : Calls Tryd.prog 50 #[.agg (nfaC s A n c0 B m d0)] W1 fun e w' => Below W1.heap.size W1 w' ∧ ∃ gw gm lo nb, e = .returned (.tuple #[.pointer (some ⟨gw, 0, none⟩), .int .i64 0]) ∧ W1.heap.size ≤ lo ∧ W1.heap.size ≤ gw ∧ WalkOk lo nb w' gw gm R.length E R (begW E R.length R) := hbeg.mono (fun e w' ⟨q1, q2⟩ => ⟨q1, by
      rcases q2 with q2 | q2
      · rw [hrb] at q2; exact absurd q2.1 (by decide)
      · exact q2.2⟩)
    clear hbeg
    go_upto_region 4 with (first | (refine wl_load_nfa rfl _ rfl _ rfl _ _ _ _ _ _ _ h1 ?_) | (go_at_call 50; refine hbeg2.mono ?_; rintro e w3 ⟨hB3, gw, gm, lo, nb, rfl, hlo, hgw, hW3⟩))
    replace hB1 := below_then hB1 hB3
    have hT3 := hT.then_ hT.size hB1
    have hgw2 : w.heap.size ≤ gw := by have := h1.lt; omega
    clear hbeg2 hB3 h1 hlo hgw
    obtain ⟨N, hN⟩ : ∃ N, N = R.length := ⟨_, rfl⟩
    rw [← hN] at hW3
    have HN := Lib.hid hN
    clear hN
    go_wp2_with (fail)
    have Hsz := Lib.hid (bytesL_length ln).symm
    go_loopw [19] (fun i wr => ∃ k : Nat, k ≤ ln.size ∧ i = .int .i64 k ∧ WalkOk lo nb wr gw gm N E R (goesW E N R ((bytesL ln).take k) (begW E N R)) ∧ Below w.heap.size w wr ∧ TabOk wr) (fun i _ => ln.size - (intOf i).toNat)
    case atStart => exact ⟨0, by omega, rfl, hW3, hB1, hT3⟩
    case round =>
      clear hW3 hB1 hT3
      obtain ⟨k, hk, rfl, hW3, hB1, hT3⟩ := hrel
      by_cases hkl : k < ln.size
      · have hkI : (k : Int) < ln.size := by omega
        have hstep : goesW E N R ((bytesL ln).take (k + 1)) (begW E N R) = byteW E N R (goesW E N R ((bytesL ln).take k) (begW E N R)) (ln[k]).toNat := by
          rw [bytesL_take ln k hkl, goesW_snoc]
        have Hst := Lib.hid hstep
        clear hstep
        go_wp2_with (go_at_call 51; refine (s_byte_any lo nb gw gm N E R _ (ln[k]).toNat (UInt8.toNat_lt _) wr hW3 hT3).mono ?_; rintro e wc ⟨rfl, hWc, hgc⟩)
        have hlb := hW3.lt
        exact ⟨⟨k + 1, by omega, rfl, by rw [Hst.out]; exact hWc, below_grown hB1 hgc hgw2, tab_grown hT3 hgc (by have := hW3.1.ok.2.2.2.2.1; have := hW3.2.1; omega)⟩, by simp only [intOf]; omega⟩
      · have hkI : ¬ (k : Int) < ln.size := by omega
        rw [List.take_of_length_le (by rw [← Hsz.out]; omega)] at hW3
        go_wp2_with (go_at_call 54; refine (s_end_any lo nb gw gm N E R _ wr hW3 hT3).mono ?_; rintro e wc ⟨rfl, hBc⟩)
        go_ret2
        refine ⟨below_then hB1 hBc, .inr ⟨hrb, ?_⟩⟩
        rw [← HN.out]
        rfl
end Go.Proofs.YtkedgombccdamaaDoor
namespace Go.Proofs.YtkedgombccdamaaDoor
open Go.RowKit
set_option linter.unusedVariables false
set_option linter.unusedSimpArgs false

theorem spread_none {E : List Edg} {N x : Nat} {b e : Bool} (hE : ∀ d ∈ E, 0 ≤ d.tt ∧ d.tt < N) (hm : ∀ d ∈ E, may b e d = false) (hx : below x N) : spreadN E N b e x = x := by
  apply bits_ext
  intro i
  rw [spread_bit hE hx]
  constructor
  · intro h
    cases h with
    | base h => exact h
    | step hd h1 _ => rw [hm _ hd] at h1; cases h1
  · exact fun h => .base h
def s97 : BSet := 1#256 <<< 97
def letE : List Edg := [⟨2, 0, 1, s97⟩]
def letR : List Nat := [0, 1]
theorem letE_b : ∀ d ∈ letE, (0 ≤ d.fr ∧ d.fr < (2 : Nat)) ∧ 0 ≤ d.tt ∧ d.tt < (2 : Nat) := by decide
theorem let_spread (b e : Bool) {x : Nat} (hx : below x 2) : spreadN letE 2 b e x = x :=
  spread_none (fun d hd => (letE_b d hd).2) (fun d hd => by
    have : d = ⟨2, 0, 1, s97⟩ := by simpa [letE] using hd
    subst this
    cases b <;> cases e <;> rfl) hx
theorem below_of {x N : Nat} (h : x < 2 ^ N) : below x N := fun i hi => by
  rcases Nat.lt_or_ge i N with h1 | h1
  · exact h1
  · have := Nat.testBit_lt_two_pow (Nat.lt_of_lt_of_le h (Nat.pow_le_pow_right (by decide) h1))
    rw [hi] at this
    cases this
theorem let_beg : begW letE 2 letR = ⟨1, 0, true⟩ := by
  unfold begW
  rw [let_spread _ _ (below_of (by decide))]
  rfl
theorem let_byte {x c y : Nat} (h : hopL letE c (bitsTo x 2) 0 ||| 1 = y) (hy : y < 4) (m : Nat) (b : Bool) : byteW letE 2 letR ⟨x, m, b⟩ c = ⟨y, m ||| metN letR y 2, false⟩ := by
  have h1 : byteN letE 2 x c = y := by rw [← hopL_byte (by decide) letE_b, h]
  unfold byteW
  simp only [h1]
  rw [let_spread _ _ (below_of hy)]
theorem let_a (m : Nat) (b : Bool) : byteW letE 2 letR ⟨1, m, b⟩ 97 = ⟨3, m ||| 1, false⟩ := let_byte (by decide) (by decide) m b
theorem let_x1 (m : Nat) (b : Bool) : byteW letE 2 letR ⟨1, m, b⟩ 120 = ⟨1, m ||| 0, false⟩ := let_byte (by decide) (by decide) m b
theorem let_x3 (m : Nat) (b : Bool) : byteW letE 2 letR ⟨3, m, b⟩ 120 = ⟨1, m ||| 0, false⟩ := let_byte (by decide) (by decide) m b
theorem let_end (m : Nat) (b : Bool) : endW letE 2 letR ⟨1, m, b⟩ = m ||| 0 := by
  unfold endW
  simp only
  rw [let_spread _ _ (below_of (by decide))]
  rfl
theorem let_xax : endW letE 2 letR (goesW letE 2 letR [120, 97, 120] (begW letE 2 letR)) = 1 := by
  rw [let_beg]
  show endW letE 2 letR (byteW letE 2 letR (byteW letE 2 letR (byteW letE 2 letR ⟨1, 0, true⟩ 120) 97) 120) = 1
  rw [let_x1, let_a, let_x3, let_end]
  rfl
theorem let_x : endW letE 2 letR (goesW letE 2 letR [120] (begW letE 2 letR)) = 0 := by
  rw [let_beg]
  show endW letE 2 letR (byteW letE 2 letR ⟨1, 0, true⟩ 120) = 0
  rw [let_x1, let_end]
  rfl
end Go.Proofs.YtkedgombccdamaaDoor
namespace Go.Proofs.YtkedgombccdamaaDoor
open Go.RowKit Go.Shelf Go.Maps
set_option linter.unusedVariables false
set_option linter.unusedSimpArgs false
attribute [local go_sem] Oper.semAt_some

theorem slice_two {w : World} {g : Nat} {t : TypeId} (h : Blk w g t #[.int .u32 0, .int .u32 1]) : SliceOf w w.heap.size 1 encR (some ⟨g, 0, none⟩) letR := by
  refine .inr ⟨g, 0, rfl, h.lt, fun i hi => ?_⟩
  match i, hi with
  | 0, _ =>
    intro j v hv
    match j, hv with
    | 0, hv => exact h.cellv (i := 0) hv
    | j + 1, hv => simp [encR] at hv
  | 1, _ =>
    intro j v hv
    match j, hv with
    | 0, hv => exact h.cellv (i := 1) hv
    | j + 1, hv => simp [encR] at hv
set_option maxRecDepth 100000 in
set_option maxHeartbeats 4000000 in
theorem letter_any (w : World) : Calls Tryd.prog 49 #[.int .u8 97] w fun e w' => ∃ A B c d, e = .returned (.agg (nfaC 2 A 1 c B 2 d)) ∧ SliceOf w' w'.heap.size 7 edgC A letE ∧ SliceOf w' w'.heap.size 1 encR B letR ∧ Below w.heap.size w w' := by
  go_enter Tryd.func49, Tryd.ntmps49
  go_wp2_with (fail)
  have h1 : ∀ (o1 o2 o3 : Obj) (cs : Array Value) (t : TypeId), Blk ((((w.alloc (.cells cs t)).alloc o1).alloc o2).alloc o3) w.heap.size t cs := fun o1 o2 o3 cs t => (((Blk.new w t cs).alloc o1).alloc o2).alloc o3
  have h3 : ∀ (o0 o1 o3 : Obj) (cs : Array Value) (t : TypeId), Blk ((((w.alloc o0).alloc o1).alloc (.cells cs t)).alloc o3) (w.heap.size + 1 + 1) t cs := fun o0 o1 o3 cs t => (Blk.new' ((w.alloc o0).alloc o1) t cs (by simp)).alloc o3
  have h4 : ∀ (o0 o1 o2 : Obj) (cs : Array Value) (t : TypeId), Blk ((((w.alloc o0).alloc o1).alloc o2).alloc (.cells cs t)) (w.heap.size + 1 + 1 + 1) t cs := fun o0 o1 o2 cs t => Blk.new' (((w.alloc o0).alloc o1).alloc o2) t cs (by simp)
  have hB : ∀ (o0 o1 o2 o3 : Obj), Below w.heap.size w ((((w.alloc o0).alloc o1).alloc o2).alloc o3) := fun o0 o1 o2 o3 => below_alloc (below_alloc (below_alloc (below_alloc (Below.refl _ _) o0) o1) o2) o3
  refine ret_cell rfl _ rfl (h1 _ _ _ _ _) Tryd.underlying25 rfl (by kernel_rfl) rfl ⟨some ⟨w.heap.size + 1 + 1, 0, none⟩, some ⟨w.heap.size + 1 + 1 + 1, 0, none⟩, 1, 2, rfl, ?_, ?_, hB _ _ _ _⟩
  · exact slice_one (enc := edgC) (y := (⟨2, 0, 1, s97⟩ : Edg)) (h3 _ _ _ _ _)
  · exact slice_two (h4 _ _ _ _ _)
end Go.Proofs.YtkedgombccdamaaDoor
namespace Go.Proofs.YtkedgombccdamaaDoor
open Go.RowKit Go.Shelf Go.Maps
set_option linter.unusedVariables false
set_option linter.unusedSimpArgs false
attribute [local go_sem] Oper.semAt_some

def xax : ByteArray := ⟨#[120, 97, 120]⟩
def xOne : ByteArray := ⟨#[120]⟩
theorem bytes_xax : bytesL xax = [120, 97, 120] := by decide
theorem bytes_x : bytesL xOne = [120] := by decide
theorem letR_lt : ∀ r ∈ letR, r < 4294967296 := by decide
theorem line_let (w : World) (A B : Option Addr) (c d : Nat) (ln : ByteArray) (r : Nat) (hln : ln.size ≤ 1099511627776) (hr : endW letE 2 letR (goesW letE 2 letR (bytesL ln) (begW letE 2 letR)) = r) (hE : SliceOf w w.heap.size 7 edgC A letE) (hR : SliceOf w w.heap.size 1 encR B letR) (hT : TabOk w) :
    Calls Tryd.prog 48 #[.agg (nfaC 2 A 1 c B 2 d), .string ln] w fun e w' => e = .returned (.tuple #[.int .u32 (r : Int), .int .i64 0]) ∧ Below w.heap.size w w' := by
  refine (line_any 2 A 1 c B 2 d letE letR ln rfl rfl (by decide) (by decide) letR_lt w hE hR hT hln).mono ?_
  rintro e w' ⟨h1, h2⟩
  rcases h2 with ⟨h2, _⟩ | ⟨_, h2⟩
  · exact absurd h2 (by decide)
  · refine ⟨?_, h1⟩
    rw [h2]
    have : letR.length = 2 := rfl
    rw [this, hr]
theorem begin_let (w : World) (A B : Option Addr) (c d : Nat) (hE : SliceOf w w.heap.size 7 edgC A letE) (hR : SliceOf w w.heap.size 1 encR B letR) (hT : TabOk w) :
    Calls Tryd.prog 50 #[.agg (nfaC 2 A 1 c B 2 d)] w fun e w' => Below w.heap.size w w' ∧ ∃ gw gm lo nb, e = .returned (.tuple #[.pointer (some ⟨gw, 0, none⟩), .int .i64 0]) ∧ w.heap.size ≤ lo ∧ w.heap.size ≤ gw ∧ WalkOk lo nb w' gw gm 2 letE letR ⟨1, 0, true⟩ := by
  refine (s_begin_any 2 A 1 c B 2 d letE letR rfl rfl (by decide) (by decide) letR_lt w hE hR hT).mono ?_
  rintro e w' ⟨h1, h2⟩
  rcases h2 with ⟨h2, _⟩ | ⟨_, gw, gm, lo, nb, h2, h3, h4, h5⟩
  · exact absurd h2 (by decide)
  · refine ⟨h1, gw, gm, lo, nb, h2, h3, h4, ?_⟩
    have : letR.length = 2 := rfl
    rw [this, let_beg] at h5
    exact h5
theorem begin_zero (w : World) (hT : TabOk w) : Calls Tryd.prog 50 #[.agg (nfaC 0 none 0 0 none 0 0)] w fun e w' => e = .returned (.tuple #[.pointer none, .int .i64 70]) ∧ Below w.heap.size w w' := by
  refine (s_begin_any 0 none 0 0 none 0 0 [] [] rfl rfl (by decide) (by decide) (by simp) w (.inl rfl) (.inl rfl) hT).mono ?_
  rintro e w' ⟨h1, h2⟩
  rcases h2 with ⟨_, h2⟩ | ⟨h2, _⟩
  · exact ⟨h2, h1⟩
  · exact absurd h2 (by decide)
theorem states_of (lo nb gw gm N : Nat) (E : List Edg) (R : List Nat) (k : Wk) (w : World) (h : WalkOk lo nb w gw gm N E R k) (hT : TabOk w) (l : List Nat) (hl : bitsTo k.at_ N = l) (h0 : 0 < l.length) :
    Calls Tryd.prog 52 #[.pointer (some ⟨gw, 0, none⟩)] w fun e w' => ∃ g c, e = .returned (.slice (some ⟨g, 0, none⟩) l.length c) ∧ Own w' w.heap.size 3 1 encN (.slice (some ⟨g, 0, none⟩) l.length c) l ∧ Below w.heap.size w w' := by
  refine (states_any lo nb gw gm N E R k w h hT).mono ?_
  rintro e w' ⟨v, rfl, h1, h2⟩
  rw [hl] at h1
  obtain ⟨g, c, rfl, _, _⟩ := h1.form h0
  exact ⟨g, c, rfl, h1, h2⟩
theorem tab_walk {lo nb gw gm N : Nat} {E : List Edg} {R : List Nat} {k : Wk} {w w' : World} (h : WalkOk lo nb w gw gm N E R k) (hT : TabOk w) (hg : w.grownBy w' (some gw)) : TabOk w' :=
  tab_grown hT hg (by have := h.1.ok.2.2.2.2.1; have := h.2.1; omega)
theorem WalkOk.own_ {α : Type} {enc : α → Array Value} {lo nb gw gm N base size : Nat} {E : List Edg} {R : List Nat} {k : Wk} {w w' : World} {e : TypeId} {v : Value} {ys : List α} (h : WalkOk lo nb w gw gm N E R k) (ho : Own w base e size enc v ys) (hg : w.grownBy w' (some gw)) (he : e ≠ 149) : Own w' base e size enc v ys := by
  obtain ⟨_, _, _, _, g, c, _, h6, _⟩ := h
  exact own_box ho h6 hg he
set_option maxRecDepth 100000 in
set_option maxHeartbeats 4000000 in
theorem fixed_any (w : World) (hT : TabOk w) : Calls Tryd.prog 20 #[] w fun e w' => e = .returned (.bool true) ∧ Below w.heap.size w w' := by
  go_enter Tryd.func20, Tryd.ntmps20
  go_upto_region 2 with (first
    | (go_at_call 49; refine (letter_any w).mono ?_; rintro e w1 ⟨A1, B1, c1, d1, rfl, hE1, hR1, hB1⟩)
    | (go_at_call 48; refine (line_let w1 A1 B1 c1 d1 xax 1 (by decide) (bytes_xax ▸ let_xax) hE1 hR1 (hT.then_ hT.size hB1)).mono ?_; rintro e w2 ⟨rfl, hB2⟩))
  replace hB2 := below_then hB1 hB2
  replace hT := hT.then_ hT.size hB2
  clear hE1 hR1 hB1
  go_upto_region 3 with (first
    | (go_at_call 49; refine (letter_any w2).mono ?_; rintro e w3 ⟨A1, B1, c1, d1, rfl, hE1, hR1, hB1⟩)
    | (go_at_call 48; refine (line_let w3 A1 B1 c1 d1 xOne 0 (by decide) (bytes_x ▸ let_x) hE1 hR1 (hT.then_ hT.size hB1)).mono ?_; rintro e w4 ⟨rfl, hB4⟩))
  replace hB4 := below_then hB1 hB4
  replace hT := hT.then_ hT.size hB4
  replace hB4 := below_then hB2 hB4
  clear hE1 hR1 hB1 hB2
  go_upto_region 4 with (first
    | (go_at_call 49; refine (letter_any w4).mono ?_; rintro e w5 ⟨A1, B1, c1, d1, rfl, hE1, hR1, hB1⟩)
    | (go_at_call 50; refine (begin_let w5 A1 B1 c1 d1 hE1 hR1 (hT.then_ hT.size hB1)).mono ?_; rintro e w6 ⟨hB6, gw, gm, lo, nb, rfl, hlo, hgw, hW6⟩))
  replace hB6 := below_then hB1 hB6
  replace hT := hT.then_ hT.size hB6
  replace hB6 := below_then hB4 hB6
  have hgw2 : w.heap.size ≤ gw := by have := hB4.size; have := hB1.size; omega
  clear hE1 hR1 hB1 hB4 hlo hgw
  go_upto_region 7 with (go_at_call 51; refine (s_byte_any lo nb gw gm 2 letE letR _ 97 (by decide) w6 hW6 hT).mono ?_; rintro e w7 ⟨rfl, hW7, hg7⟩)
  replace hT := tab_walk hW6 hT hg7
  have hB7 := below_grown hB6 hg7 hgw2
  rw [let_a] at hW7
  clear hW6 hB6 hg7
  go_upto_region 8 with (go_at_call 52; refine (states_of lo nb gw gm 2 letE letR _ w7 hW7 hT [0, 1] (by decide) (by decide)).mono ?_; rintro e w8 ⟨gl, cl, rfl, hl8, hB8⟩)
  replace hT := hT.then_ hT.size hB8
  have hW8 := hW7.then_ hB8
  replace hB8 := below_then hB7 hB8
  clear hW7 hB7
  go_upto_region 9 with (go_at_call 53; refine (rules_any lo nb gw gm 2 letE letR _ w8 hW8).mono ?_; rintro e w9 ⟨rfl, rfl⟩)
  go_upto_region 10 with (go_at_call 51; refine (s_byte_any lo nb gw gm 2 letE letR _ 120 (by decide) w9 hW8 hT).mono ?_; rintro e wa ⟨rfl, hWa, hga⟩)
  replace hT := tab_walk hW8 hT hga
  have hBa := below_grown hB8 hga hgw2
  have hla := hW8.own_ hl8 hga (by decide)
  rw [let_x3] at hWa
  clear hW8 hB8 hga hl8
  go_upto_region 11 with (go_at_call 52; refine (states_of lo nb gw gm 2 letE letR _ wa hWa hT [0] (by decide) (by decide)).mono ?_; rintro e wb ⟨gk, ck, rfl, _, hBb⟩)
  replace hT := hT.then_ hT.size hBb
  replace hWa := hWa.then_ hBb
  replace hla := hla.then_ hBb
  replace hBb := below_then hBa hBb
  clear hBa
  go_upto_region 12 with (go_at_call 50; refine (begin_zero wb hT).mono ?_; rintro e wc ⟨rfl, hBc⟩)
  replace hT := hT.then_ hT.size hBc
  replace hWa := hWa.then_ hBc
  replace hla := hla.then_ hBc
  replace hBc := below_then hBb hBc
  clear hBb
  have cl1 : wc.cell? ⟨gl, 1, none⟩ = some (.int .i64 1) := hla.row encN_size 1 (by decide) 0 _ rfl
  have hend := s_end_any lo nb gw gm 2 letE letR _ wc hWa hT
  rw [let_end] at hend
  go_wp2_with (go_at_call 54; refine hend.mono ?_; rintro e wd ⟨rfl, hBd⟩)
  go_ret
  exact ⟨rfl, below_then hBc hBd⟩
end Go.Proofs.YtkedgombccdamaaDoor
namespace Go.Proofs.YtkedgombccdamaaDoor
open Go.RowKit Go.Maps
set_option linter.unusedVariables false
set_option linter.unusedSimpArgs false

theorem enc8_one_size (y : UInt8) : (enc8 y).size = 1 := rfl
theorem enc8_one_cell (y : UInt8) : (enc8 y).all (·.oneCell') = true := by simp [enc8, Value.oneCell']
theorem info_b3 : (Tryd.prog.info? 5).map (fun i => (i.zero, i.size, i.bytes)) = some (some (.int .u8 0), 1, 1) := by kernel_rfl
theorem run_bs1 (w : World) (y : Int) : (Instr.buildSlice 85 1 #[(0, .int .u8 y)]).run Tryd.prog w = .ok (.slice (some ⟨w.heap.size, 0, none⟩) 1 1) (w.alloc (.cells #[.int .u8 y] 5)) := by kernel_rfl
section
variable {ops : Array Oper} {rest : List Oper} {o : Oper} {a : Act} {w : World} {Q : Exit → Act → World → Prop}
theorem wl_bs1 (hgd : o.guard = none) (x : Operand) (ho : o.op = .buildSlice 85 1 #[(0, x)]) (y : UInt8) (hx : a.eval x = .int .u8 (y.toNat : Int))
    (h : wpList Tryd.prog ops Q rest (a.put o.dst (.slice (some ⟨w.heap.size, 0, none⟩) 1 1)) (w.alloc (.cells (enc8 y) 5))) : wpList Tryd.prog ops Q (o :: rest) a w :=
  wpList_plain hgd fun _ hK => by
    unfold Oper.wp execOp
    simp only [ho, List.map_toArray, List.map_cons, List.map_nil, hx, Sem.run_bind, run_bs1, Result.andThen_ok, Sem.run_pure]
    exact hK _ _ h
/-- one byte appended to a row of the call's own -/
theorem wl_pushB (hgd : o.guard = none) (s x : Operand) (ho : o.op = .call { callee := .builtin .append, args := #[s, x], argTypes := #[85, 85] })
    (base : Nat) (l : List UInt8) (z : UInt8) {A : Option Addr} {n c g : Nat} (hs : a.eval s = .slice A n c) (hx : a.eval x = .slice (some ⟨g, 0, none⟩) 1 1) (hb1 : Blk w g 5 (enc8 z)) (hown : Own w base 5 1 enc8 (.slice A n c) l) (hn : n = l.length) (hl : l.length ≤ 1099511627776) (hbase : base ≤ w.heap.size)
    (h : ∀ A' c' w', Own w' base 5 1 enc8 (.slice A' (n + 1) c') (l ++ [z]) → w.grownBy w' (Value.slice A n c).ownBlock → wpList Tryd.prog ops Q rest (a.put o.dst (.slice A' (n + 1) c')) w') : wpList Tryd.prog ops Q (o :: rest) a w := by
  obtain ⟨ii, hii, hz0, hz1, hz2⟩ := info_parts info_b3
  subst hn
  refine wl_append _ hgd _ _ 85 ho base 5 ii _ 1 1 Tryd.underlying85 hii hz0 hz1 hz2 rfl (by decide) enc8_one_size enc8_one_cell (.slice A l.length c) l hs hown _ _ 1 1 [z] hx rfl (slice_one (enc := enc8) hb1) (by unfold maxLen; omega) (by omega) hbase ?_
  intro v' w' ho' hg hv
  obtain ⟨A', c', rfl, _, _⟩ := ho'.shape
  have hl8 : (l ++ [z]).length = l.length + 1 := by simp
  rw [hl8] at ho' hv ⊢
  exact h _ _ _ ho' hg
theorem str_of8 {A : Option Addr} {n c B : Nat} {l : List UInt8} (hn : n = l.length) (hs : SliceOf w B 1 enc8 A l) : (Go.convert 85 9 (.slice A n c)).run Tryd.prog w = .ok (.string ⟨l.toArray⟩) w := by
  subst hn
  rcases A with _ | a
  · have hl : l = [] := by
      rcases hs with h | ⟨b, off, h, _⟩
      · exact h
      · cases h
    subst hl
    rw [run_convert_bytes_string w _ _ 5 none _ c Tryd.underlying85 Tryd.underlying5 Tryd.underlying9]
    rfl
  · refine run_convert_bytes_back w _ _ 5 a c l Tryd.underlying85 Tryd.underlying5 Tryd.underlying9 fun j hj => ?_
    obtain ⟨b, off, e, _, hrow⟩ := hs.at_ (by omega)
    injection e with e
    subst e
    have := hrow j hj 0 _ rfl
    rw [Nat.mul_one] at this
    rw [addr_add]
    exact this
theorem wl_conv_str (hgd : o.guard = none) (x : Operand) (ho : o.op = .convert 85 9 x) {A : Option Addr} {n c B : Nat} (l : List UInt8) (hx : a.eval x = .slice A n c) (hn : n = l.length) (hs : SliceOf w B 1 enc8 A l)
    (h : wpList Tryd.prog ops Q rest (a.put o.dst (.string ⟨l.toArray⟩)) w) : wpList Tryd.prog ops Q (o :: rest) a w :=
  wpList_plain hgd fun _ hK => by
    unfold Oper.wp execOp
    simp only [ho, hx, Sem.run_bind, str_of8 hn hs, Result.andThen_ok, Sem.run_pure]
    exact hK _ _ h
end
end Go.Proofs.YtkedgombccdamaaDoor
namespace Go.Proofs.YtkedgombccdamaaDoor
open Go.RowKit Go.Shelf Go.Maps
set_option linter.unusedVariables false
set_option linter.unusedSimpArgs false
attribute [local go_sem] Oper.semAt_some

set_option maxHeartbeats 1000000 in
theorem has8_any (st : BSet) (b : Nat) (hb8 : b < 256) (w : World) :
    Calls Tryd.prog 104 #[.agg (setC st), .int .u8 b] w fun e w' => e = .returned (.bool (st.getLsbD b)) ∧ Below w.heap.size w w' := by
  have hc := (Blk.new w 52 (setC st)).cellv (setC_at st (b / 64) (by omega))
  obtain ⟨wd, hwd⟩ : ∃ v, v = word st (b / 64) := ⟨_, rfl⟩
  have hwl : wd < 18446744073709551616 := by rw [hwd]; exact word_lt _ _
  rw [← hwd] at hc
  have Hwd := Lib.hid hwd
  clear hwd
  go_enter Tryd.func104, Tryd.ntmps104
  go_wp2_with (fail)
  go_ret
  refine ⟨?_, (Below.refl _ _).alloc (Nat.le_refl _) _⟩
  have e := hasB (x := st) hb8
  rw [← Hwd.out] at e
  rw [← e]
  simp
set_option maxRecDepth 100000 in
set_option maxHeartbeats 4000000 in
theorem join8_any (base base2 g g2 N c c2 x y : Nat) (hN : N ≤ 1099511627776) (hx : below x N) (hy : below y N) (hne : g ≠ g2) (w : World) (hS : Own w base 4 1 encB (.slice (some ⟨g, 0, none⟩) N c) (boolsN x N)) (hY : Own w base2 4 1 encB (.slice (some ⟨g2, 0, none⟩) N c2) (boolsN y N)) :
    Calls Tryd.prog 106 #[.slice (some ⟨g, 0, none⟩) N c, .slice (some ⟨g2, 0, none⟩) N c2] w fun e w' => e = .returned (.tuple #[]) ∧ Own w' base 4 1 encB (.slice (some ⟨g, 0, none⟩) N c) (boolsN (x ||| y) N) ∧ Turn g (g + 1) w w' := by
  have HY := Lib.hid hY
  clear hY
  have hT0 := Turn.refl g (g + 1) w
  go_enter Tryd.func106, Tryd.ntmps106
  go_wp2_with (fail)
  go_loopw [4] (fun iv wr => ∃ (k z : Nat), k ≤ N ∧ iv = .int .i64 k ∧ below z N ∧ (∀ i, z.testBit i = (x.testBit i || (decide (i < k) && y.testBit i))) ∧ Own wr base 4 1 encB (.slice (some ⟨g, 0, none⟩) N c) (boolsN z N) ∧ Turn g (g + 1) w wr) (fun iv _ => N - (intOf iv).toNat)
  case atStart => exact ⟨0, x, by omega, rfl, hx, fun i => by simp, hS, hT0⟩
  case round =>
    clear hS hT0
    obtain ⟨k, z, hk, rfl, hz, hzb, hS, hT⟩ := hrel
    have Hzb := Lib.hid hzb
    clear hzb
    by_cases hkl : k < N
    · have hkI : (k : Int) < N := by omega
      have hkb : k < 1099511628000 := by omega
      have c1 := own_bits hS k hkl
      have c2' : wr.cell? ⟨g2, k, none⟩ = some (.bool (y.testBit k)) := own_bits (own_turn HY.out hT (by omega)) k hkl
      obtain ⟨yk, hyk⟩ : ∃ b, y.testBit k = b := ⟨_, rfl⟩
      obtain ⟨zk, hzk⟩ : ∃ b, z.testBit k = b := ⟨_, rfl⟩
      rw [hyk] at c2'
      rw [hzk] at c1
      have hxk : x.testBit k = zk := by
        have := Hzb.out k
        rw [hzk] at this
        simpa using this.symm
      have hgb := hS.lt g rfl
      have fin : ∀ b, b = (zk || yk) → ∃ z', below z' N ∧ (∀ i, z'.testBit i = (x.testBit i || (decide (i < k + 1) && y.testBit i))) ∧ (boolsN z N).set k b = boolsN z' N := fun b hb => by
        have hstep : ∀ i, i ≠ k → (decide (i < k) : Bool) = decide (i < k + 1) := fun i hi => by
          rw [Bool.eq_iff_iff]; simp; omega
        by_cases hyt : yk = true
        · have hbt : b = true := by rw [hb, hyt]; simp
          subst hbt
          refine ⟨z ||| 2 ^ k, below_or hz (below_pow hkl), fun i => ?_, boolsN_set _ _ _⟩
          rw [testBit_or_pow, Hzb.out i]
          by_cases e : k = i
          · subst e; rw [hyk, hyt]; simp
          · rw [hstep i (fun h => e h.symm)]; simp [e]
        · have hyf : yk = false := by cases yk <;> simp_all
          have hbz : b = zk := by rw [hb, hyf]; simp
          refine ⟨z, hz, fun i => ?_, ?_⟩
          · rw [Hzb.out i]
            by_cases e : i = k
            · subst e; rw [hyk, hyf]; simp
            · rw [hstep i e]
          · apply List.ext_getElem
            · simp [boolsN]
            · intro i h1 h2
              rw [List.getElem_set]
              by_cases e : k = i
              · subst e; rw [if_pos rfl, boolsN_get, hbz, hzk]
              · rw [if_neg e]
      have Fin := Lib.hid fin
      clear fin hyk hzk hxk
      cases zk with
      | true =>
        go_wp2_with (refine wl_store_one (enc := encB) encB_size rfl _ info_bool1 _ _ rfl g k N c rfl true rfl rfl rfl hS (by rw [boolsN_length]; exact hkl) ?_; intro w7 hS7 hg7)
        obtain ⟨z', h1, h2, h3⟩ := Fin.out true (by simp)
        rw [h3] at hS7
        exact ⟨⟨k + 1, z', by omega, rfl, h1, h2, hS7, hT.grown hg7 (fun r e => by injection e with e; omega)⟩, by simp only [intOf]; omega⟩
      | false =>
        go_wp2_with (refine wl_store_one (enc := encB) encB_size rfl _ info_bool1 _ _ rfl g k N c rfl yk rfl rfl rfl hS (by rw [boolsN_length]; exact hkl) ?_; intro w7 hS7 hg7)
        obtain ⟨z', h1, h2, h3⟩ := Fin.out yk (by simp)
        rw [h3] at hS7
        exact ⟨⟨k + 1, z', by omega, rfl, h1, h2, hS7, hT.grown hg7 (fun r e => by injection e with e; omega)⟩, by simp only [intOf]; omega⟩
    · have hkI : ¬ (k : Int) < N := by omega
      have hzx : z = x ||| y := by
        apply bits_ext
        intro i
        rw [Hzb.out i, Nat.testBit_or]
        by_cases e : i < k
        · simp [e]
        · have : y.testBit i = false := by
            cases h : y.testBit i with
            | false => rfl
            | true => have := hy i h; omega
          simp [this]
      have Hzx := Lib.hid hzx
      clear hzx
      go_wp2_with (fail)
      first | (refine bodyPost_end (results_none rfl _ _ _) rfl ?_) | (refine bodyPost_ret (results_none rfl _ _ _) rfl ?_)
      rw [← Hzx.out]
      exact ⟨rfl, hS, hT⟩
set_option maxHeartbeats 2000000 in
theorem short8_any (q : ByteArray) (hq : q.size ≤ 1099511627776) (w : World) :
    Calls Tryd.prog 25 #[.string q] w fun e w' => (∃ q' : ByteArray, e = .returned (.string q') ∧ q'.size ≤ 8) ∧ Below w.heap.size w w' := by
  go_enter Tryd.func25, Tryd.ntmps25
  go_wp2_with (fail)
  go_loopw [3, 4] (fun bv iv wr => ∃ (k : Nat) (A : Option Addr) (n c : Nat) (l : List UInt8), k ≤ q.size ∧ iv = .int .i64 k ∧ bv = .slice A n c ∧ n = l.length ∧ n ≤ 8 ∧ Own wr w.heap.size 5 1 enc8 (.slice A n c) l ∧ Below w.heap.size w wr) (fun _ iv _ => q.size - (intOf iv).toNat)
  case atStart => exact ⟨0, none, 0, 0, [], by omega, rfl, rfl, rfl, by omega, Own.nil_ _ _ _ _ _, Below.refl _ _⟩
  case round =>
    obtain ⟨k, A, n, c, l, hk, rfl, rfl, hnl, hn8, hO, hB⟩ := hrel
    have Hnl := Lib.hid hnl
    clear hnl
    by_cases hkl : k < q.size
    · have hkI : (k : Int) < q.size := by omega
      have hkb : k < 1099511628000 := by omega
      have hk0 : ¬ (k : Int) < 0 := by omega
      by_cases hn : n < 8
      · have hnI : (n : Int) < 8 := by omega
        obtain ⟨b, hb⟩ : ∃ b, q[k] = b := ⟨_, rfl⟩
        by_cases hb10 : b.toNat = 10
        · have hbI : ((b.toNat : Nat) : Int) = 10 := by omega
          go_wp2_with (fail)
          exact ⟨⟨k + 1, A, n, c, l, by omega, rfl, rfl, Hnl.out, hn8, hO, hB⟩, by simp only [intOf]; omega⟩
        · have hbI : ¬ ((b.toNat : Nat) : Int) = 10 := by omega
          go_wp2_with (first | (refine wl_bs1 rfl _ rfl b (congrArg (Value.int .u8) (by rw [hb])) ?_) | (at_builtin; refine wl_pushB rfl _ _ rfl w.heap.size l b rfl rfl (Blk.new wr _ _) ((hO.then_ (below_alloc (Below.refl _ _) _))) Hnl.out (by have := Hnl.out; omega) (by have := hB.size; simp; omega) ?_; intro A' c' w5 hO5 hg5))
          have hB5 : Below w.heap.size w w5 := (below_alloc hB _).grown hg5 (by have := hB.size; simp; omega) (fun k e => by have := hO.lt k e; omega)
          exact ⟨⟨k + 1, A', n + 1, c', l ++ [b], by omega, rfl, rfl, by have := Hnl.out; simp; omega, by omega, hO5, hB5⟩, by simp only [intOf]; omega⟩
      · have hnI : ¬ (n : Int) < 8 := by omega
        go_wp2_with (refine wl_conv_str rfl _ rfl l rfl Hnl.out (hO.slice_all enc8_one_size) ?_)
        go_ret
        exact ⟨⟨_, rfl, by have := Hnl.out; show l.toArray.size ≤ 8; simp; omega⟩, hB⟩
    · have hkI : ¬ (k : Int) < q.size := by omega
      go_wp2_with (refine wl_conv_str rfl _ rfl l rfl Hnl.out (hO.slice_all enc8_one_size) ?_)
      go_ret
      exact ⟨⟨_, rfl, by have := Hnl.out; show l.toArray.size ≤ 8; simp; omega⟩, hB⟩
end Go.Proofs.YtkedgombccdamaaDoor
namespace Go.Proofs.YtkedgombccdamaaDoor
set_option linter.unusedVariables false
set_option linter.unusedSimpArgs false

mutual
/-- how many nodes a tree has, each counted so often -/
def Nd.tot (c : Nat) : Nd → Nat
  | .mk _ _ l _ _ => c + Nd.tots c l
def Nd.tots (c : Nat) : List Nd → Nat
  | [] => 0
  | x :: l => Nd.tot c x + Nd.tots c l
end
theorem Nd.tots_append (c : Nat) (l m : List Nd) : Nd.tots c (l ++ m) = Nd.tots c l + Nd.tots c m := by
  induction l with
  | nil => simp [Nd.tots]
  | cons x l ih => simp [Nd.tots, ih]; omega
theorem Nd.tots_one (c : Nat) (x : Nd) : Nd.tots c [x] = Nd.tot c x := by simp [Nd.tots]
theorem Nd.tots_step (c : Nat) (l : List Nd) (k : Nat) (h : k < l.length) : Nd.tots c (l.take (k + 1)) = Nd.tots c (l.take k) + Nd.tot c l[k] := by
  rw [List.take_succ_eq_append_getElem h, Nd.tots_append, Nd.tots_one]
theorem Nd.tots_take (c : Nat) (l : List Nd) (k : Nat) : Nd.tots c (l.take k) ≤ Nd.tots c l := by
  have := Nd.tots_append c (l.take k) (l.drop k)
  rw [List.take_append_drop] at this
  omega
theorem Nd.tots_mem {c : Nat} {l : List Nd} {x : Nd} (h : x ∈ l) : Nd.tot c x ≤ Nd.tots c l := by
  induction l with
  | nil => cases h
  | cons y l ih =>
    simp only [Nd.tots]
    rcases List.mem_cons.1 h with rfl | h
    · omega
    · have := ih h; omega
theorem Nd.tot_ge (c : Nat) (x : Nd) : c ≤ x.tot c := by
  cases x
  simp only [Nd.tot]
  omega
theorem Nd.tot_mul (c : Nat) (nd : Nd) : nd.tot c = c * nd.tot 1 := by
  induction nd using Nd.ind with
  | h kd st l mi ma ih =>
  have key : ∀ m : List Nd, (∀ x ∈ m, x.tot c = c * x.tot 1) → Nd.tots c m = c * Nd.tots 1 m := fun m => by
    induction m with
    | nil => intro _; simp [Nd.tots]
    | cons x m ih2 =>
      intro h
      simp only [Nd.tots]
      rw [h x (by simp), ih2 fun y hy => h y (by simp [hy]), Nat.mul_add]
  simp only [Nd.tot]
  rw [key l ih, Nat.mul_add, Nat.mul_one]
namespace Ere
section
variable {p : ByteArray}
theorem someN_tot (k : Int) (l : List Nd) : (someN k l).tot 1 ≤ Nd.tots 1 l + 1 ∧ (l.length = 1 → (someN k l).tot 1 = Nd.tots 1 l) := by
  rcases l with _ | ⟨x, _ | ⟨y, l⟩⟩
  · simp [someN, Nd.tot, Nd.tots]
  · simp [someN, Nd.tots]
  · refine ⟨?_, fun h => by simp at h⟩
    simp only [someN, Nd.tot]
    omega
theorem repeatR_tot {t u : Nd} {i j : Nat} (h : repeatR p t i = .got u j) : u.tot 1 + 2 * i ≤ t.tot 1 + 2 * j := by
  have key : ∀ a b, (timesN t a b).tot 1 = t.tot 1 + 1 := fun a b => by simp [timesN, Nd.tot, Nd.tots]; omega
  unfold repeatR at h
  split at h
  · injection h with h1 h2; rw [← h1, key]; omega
  split at h
  · injection h with h1 h2; rw [← h1, key]; omega
  split at h
  · injection h with h1 h2; rw [← h1, key]; omega
  split at h
  · cases hc : countsR p i with
    | fault e a => rw [hc] at h; cases h
    | got c k =>
      rw [hc] at h
      injection h with h1 h2
      have := countsR_fwd hc
      rw [← h1, key]
      omega
  · injection h with h1 h2; rw [← h1]; omega
theorem leaf_tot (k : Int) (s : BSet) (a b : Int) : (Nd.mk k s [] a b).tot 1 = 1 := by simp [Nd.tot, Nd.tots]
theorem setR_tot {s i j : Nat} {t : Nd} (h : setR p s i = .got t j) : t.tot 1 = 1 := by
  unfold setR at h
  cases hc : itemsR p s (p.size + 2) true (if isAt p i 94 then i + 1 else i) 0 with
  | fault e a => rw [hc] at h; cases h
  | got y k =>
    rw [hc] at h
    injection h with h _
    rw [← h]
    exact leaf_tot _ _ _ _
theorem pieceR_tot {inner : Option (Nat → Res Nd)} (hin : ∀ f, inner = some f → ∀ i t j, f i = .got t j → t.tot 1 + 2 * i ≤ 2 * j + 1) (hfw : ∀ f, inner = some f → ∀ i t j, i ≤ p.size → f i = .got t j → i ≤ j ∧ j ≤ p.size) {i j : Nat} {t : Nd} (hi : i < p.size) (h : pieceR p inner i = .got t j) : t.tot 1 + 2 * i + 1 ≤ 2 * j := by
  have hf := pieceR_fwd hfw h hi
  unfold pieceR at h
  simp only at h
  split at h
  · injection h with h1 h2; rw [← h1, leaf_tot]; omega
  split at h
  · injection h with h1 h2; rw [← h1, leaf_tot]; omega
  split at h
  · cases h
  split at h
  · cases inner with
    | none => cases h
    | some f =>
      simp only at h
      cases hf : f (i + 1) with
      | fault e k => rw [hf] at h; cases h
      | got u k =>
        rw [hf] at h
        simp only [Res.bind] at h
        have h1 := hin f rfl (i + 1) u k hf
        split at h
        · cases h
        · have := repeatR_tot h
          omega
  split at h
  · cases hf : setR p i (i + 1) with
    | fault e k => rw [hf] at h; cases h
    | got u k =>
      rw [hf] at h
      simp only [Res.bind] at h
      have h1 := setR_fwd hf
      have h2 := setR_tot hf
      have := repeatR_tot h
      omega
  split at h
  · have := repeatR_tot h
    unfold setN at this
    rw [leaf_tot] at this
    omega
  split at h
  · split at h
    · have := repeatR_tot h
      unfold setN at this
      rw [leaf_tot] at this
      omega
    · cases h
  · have := repeatR_tot h
    unfold setN at this
    rw [leaf_tot] at this
    omega
theorem altR_tot {top : Bool} {pc : Nat → Res Nd} (hpc : ∀ i t j, i < p.size → pc i = .got t j → t.tot 1 + 2 * i + 1 ≤ 2 * j) {i0 : Nat} : ∀ n i l t j, Nd.tots 1 l + l.length + 2 * i0 ≤ 2 * i → altR p top pc n i l = .got t j → t.tot 1 + 2 * i0 ≤ 2 * j + 1
  | 0, _, _, _, _, _, h => by cases h
  | n + 1, i, l, t, j, hl, h => by
    have hs := (someN_tot 3 l).1
    have hle : (someN 3 l).tot 1 + 2 * i0 ≤ 2 * i + 1 := by omega
    unfold altR at h
    split at h
    · injection h with h1 h2; rw [← h1, ← h2]; exact hle
    · rename_i hd
      simp only [Bool.or_eq_true, decide_eq_true_eq, not_or] at hd
      split at h
      · split at h
        · cases h
        · injection h with h1 h2; rw [← h1, ← h2]; exact hle
      · cases hc : pc i with
        | fault e k => rw [hc] at h; cases h
        | got u k =>
          rw [hc] at h
          have h1 := hpc i u k (by omega) hc
          exact altR_tot hpc n k (l ++ [u]) t j (by rw [Nd.tots_append, Nd.tots_one, List.length_append]; simp only [List.length_cons, List.length_nil]; omega) h
theorem patL_tot {al : Nat → Res Nd} (hal : ∀ i t j, al i = .got t j → t.tot 1 + 2 * i ≤ 2 * j + 1) {i0 : Nat} : ∀ n i l t j, Nd.tots 1 l + l.length + 2 * i0 ≤ 2 * i → patL p al n i l = .got t j → t.tot 1 + 2 * i0 ≤ 2 * j + 1
  | 0, _, _, _, _, _, h => by cases h
  | n + 1, i, l, t, j, hl, h => by
    unfold patL at h
    cases hc : al i with
    | fault e k => rw [hc] at h; cases h
    | got u k =>
      rw [hc] at h
      simp only [Res.bind] at h
      have h1 := hal i u k hc
      have e1 : Nd.tots 1 (l ++ [u]) = Nd.tots 1 l + u.tot 1 := by rw [Nd.tots_append, Nd.tots_one]
      have e2 : (l ++ [u]).length = l.length + 1 := by simp
      split at h
      · exact patL_tot hal n (k + 1) (l ++ [u]) t j (by omega) h
      · injection h with h2 h3
        have hs := someN_tot 4 (l ++ [u])
        rw [← h2, ← h3]
        by_cases h4 : l.length = 0
        · have := hs.2 (by omega)
          omega
        · have := hs.1
          omega
theorem patR_tot : ∀ n i t j, patR p n i = .got t j → t.tot 1 + 2 * i ≤ 2 * j + 1
  | 0, i, t, j, h => by
    unfold patR at h
    exact patL_tot (fun i t j h => altR_tot (fun i t j hi h => pieceR_tot (fun f e => by cases e) (fun f e => by cases e) hi h) _ _ _ _ _ (by simp [Nd.tots]) h) _ _ _ _ _ (by simp [Nd.tots]) h
  | n + 1, i, t, j, h => by
    unfold patR at h
    exact patL_tot (fun i t j h => altR_tot (fun i t j hi h => pieceR_tot (fun f e => by injection e with e; subst e; exact fun i t j h => patR_tot n i t j h) (fun f e => by injection e with e; subst e; exact fun i t j h1 h2 => patR_fwd n i t j h1 h2) hi h) _ _ _ _ _ (by simp [Nd.tots]) h) _ _ _ _ _ (by simp [Nd.tots]) h
theorem parse_tot (p : ByteArray) : (parseR p).1.tot 1 ≤ 2049 := by
  have hz : zeroN.tot 1 = 1 := leaf_tot _ _ _ _
  obtain ⟨R, hR⟩ : ∃ R, parseR p = R := ⟨_, rfl⟩
  rw [hR]
  unfold parseR at hR
  split at hR
  · subst hR; simp only; omega
  rename_i hs
  split at hR
  · subst hR; simp only; omega
  split at hR
  · subst hR; simp only; omega
  rename_i t j he
  have h1 := patR_tot _ _ _ _ he
  have h2 := patR_fwd 64 0 t j (by omega) he
  split at hR
  · subst hR; simp only; omega
  · subst hR; simp only; omega
end
end Ere
end Go.Proofs.YtkedgombccdamaaDoor
namespace Go.Proofs.YtkedgombccdamaaDoor
open Go.RowKit Go.Shelf Go.Maps
set_option linter.unusedVariables false
set_option linter.unusedSimpArgs false
attribute [local go_sem] Oper.semAt_some

/-- a walker: the line, and how much may be done yet -/
def wkrC (q : ByteArray) (L : Int) : Array Value := #[.string q, .int .i64 L]
/-- what a search from the places x answers: K: how far below none it may go from where there is some left; D: how far, where there is none -/
def SAns (q : ByteArray) (N gw : Nat) (T : Mt.Rel) (x K D : Nat) (L : Int) (w : World) (e : Ending) (w' : World) : Prop :=
  ∃ (g y : Nat) (L' : Int), e = .returned (.slice (some ⟨g, 0, none⟩) N N) ∧ w.heap.size ≤ g ∧ Own w' w.heap.size 4 1 encB (.slice (some ⟨g, 0, none⟩) N N) (boolsN y N) ∧ below y N ∧ Turn gw (gw + 1) w w' ∧ Blk w' gw 164 (wkrC q L') ∧
    Hid (L' ≤ L ∧ (0 ≤ L → 0 ≤ L' + K) ∧ (L < 0 → L ≤ L' + D) ∧ (0 ≤ L' → y = Mt.im q.size T x))
theorem Turn.above {lo hi lo2 hi2 : Nat} {w w' w2 : World} (h : Turn lo hi w w') (k : Turn lo2 hi2 w' w2) (hl : w.heap.size ≤ lo2) : Turn lo hi w w2 :=
  ⟨k.os.trans h.os, k.tape.trans h.tape, k.output.trans h.output, Nat.le_trans h.size k.size, fun j hj hh => (k.block j (by have := h.size; omega) (.inl (by omega))).trans (h.block j hj hh)⟩
/-- what a walker may have left -/
def LOk (L : Int) : Prop := -2305843009213693952 ≤ L ∧ L ≤ 1000000
set_option maxRecDepth 100000 in
set_option maxHeartbeats 4000000 in
theorem all8_of (q : ByteArray) (N gw K base2 gf cf x B : Nat) (L : Int) (kd : Int) (st : BSet) (A : Option Addr) (n c : Nat) (mi ma : Int) (T : Mt.Rel) (hT : Mt.InR q.size T) (hNq : N = q.size + 1) (hN : N ≤ 1000000) (hK : K ≤ 1000000000000) (hL : LOk L) (hx : below x N) (w : World) (hBg : B ≤ gw)
    (hW : Blk w gw 164 (wkrC q L)) (hF : Own w base2 4 1 encB (.slice (some ⟨gf, 0, none⟩) N cf) (boolsN x N))
    (hcall : ∀ (W : World) (L2 : Int) (i : Nat), (∀ k, k < B → W.heap[k]? = w.heap[k]?) → w.heap.size ≤ W.heap.size → -2305843009214693960 ≤ L2 → L2 ≤ L → i < N → Blk W gw 164 (wkrC q L2) → Calls Tryd.prog 85 #[.pointer (some ⟨gw, 0, none⟩), .agg (nodeC kd st A n c mi ma), .int .i64 (i : Int)] W (SAns q N gw T (2 ^ i) K 1 L2 W)) :
    Calls Tryd.prog 105 #[.pointer (some ⟨gw, 0, none⟩), .agg (nodeC kd st A n c mi ma), .slice (some ⟨gf, 0, none⟩) N cf] w (SAns q N gw T x (K + N) N L w) := by
  have hone : 1 ≤ N := by omega
  have HNq := Lib.hid hNq
  have hqs : q.size < 1099511627776 := by omega
  have hxq : below x (q.size + 1) := by rw [← hNq]; exact hx
  have Hxq := Lib.hid hxq
  have Hcall := Lib.hid hcall
  have HL := Lib.hid hL
  have HK := Lib.hid hK
  have hgwl := hW.lt
  have hgfl := (hF.lt gf rfl).2
  have hgg : gf ≠ gw := fun e => own_blk_ne hF hW (by decide) (by rw [e]; rfl)
  have hl40 : N ≤ 1099511627776 := by omega
  clear hcall hNq hL hK hxq
  go_enter Tryd.func105, Tryd.ntmps105
  have h1 := Blk.new w 54 (nodeC kd st A n c mi ma)
  have hB1 : Below w.heap.size w (w.alloc (.cells (nodeC kd st A n c mi ma) 54)) := below_alloc (Below.refl _ _) _
  go_upto_region 1 with (fail)
  obtain ⟨W1, hW1⟩ : ∃ y, y = w.alloc (.cells (nodeC kd st A n c mi ma) 54) := ⟨_, rfl⟩
  rw [← hW1] at h1 hB1 ⊢
  clear hW1
  obtain ⟨gn, hgn⟩ : ∃ y, y = w.heap.size := ⟨_, rfl⟩
  have hgn2 : w.heap.size ≤ gn := by omega
  rw [← hgn] at h1 ⊢
  clear hgn
  replace hW := blk_then hW hB1
  replace hF := hF.then_ hB1
  have cl : W1.cell? ⟨gw, 0, none⟩ = some (.string q) := hW.cellv (i := 0) rfl
  go_upto_region 2 with (refine wl_makeB rfl _ _ rfl N w.heap.size (congrArg (Value.int .i64) (by have := HNq.out; omega)) (congrArg (Value.int .i64) (by have := HNq.out; omega)) hl40 hB1.size ?_; intro w2 hS2 hB2)
  obtain ⟨g, hg⟩ : ∃ y, y = W1.heap.size := ⟨_, rfl⟩
  have hgw : w.heap.size ≤ g := by rw [hg]; exact hB1.size
  have hgn3 : gn < g := by rw [hg]; exact h1.lt
  rw [← hg] at hS2 ⊢
  clear hg cl
  replace h1 := blk_then h1 hB2
  replace hW := blk_then hW hB2
  replace hF := hF.then_ hB2
  have hT2 : Turn gw (gw + 1) w w2 := Turn.of_below (below_then hB1 hB2)
  have hr0 : Hid (L ≤ L ∧ (0 ≤ L → 0 ≤ L + (K + 0 : Nat)) ∧ (L < 0 → L ≤ L + (0 : Nat)) ∧ (0 ≤ L → 0 = Mt.im q.size T (x % 2 ^ 0))) := Lib.hid ⟨by omega, fun _ => by omega, fun _ => by omega, fun _ => (Mt.im_low_zero hT).symm⟩
  clear hB2 hB1
  go_wp2_with (fail)
  go_loopw [8] (fun iv wr => ∃ (k y : Nat) (L2 : Int), k ≤ N ∧ iv = .int .i64 k ∧ below y N ∧ Own wr w.heap.size 4 1 encB (.slice (some ⟨g, 0, none⟩) N N) (boolsN y N) ∧ Own wr base2 4 1 encB (.slice (some ⟨gf, 0, none⟩) N cf) (boolsN x N) ∧ Blk wr gn 54 (nodeC kd st A n c mi ma) ∧ Blk wr gw 164 (wkrC q L2) ∧ Turn gw (gw + 1) w wr ∧
    Hid (L2 ≤ L ∧ (0 ≤ L → 0 ≤ L2 + (K + k : Nat)) ∧ (L < 0 → L ≤ L2 + k) ∧ (0 ≤ L2 → y = Mt.im q.size T (x % 2 ^ k)))) (fun iv _ => N - (intOf iv).toNat)
  case atStart => exact ⟨0, 0, L, by omega, rfl, below_zero _, hS2, hF, h1, hW, hT2, hr0⟩
  case round =>
    clear hS2 hF h1 hW hT2 hr0
    obtain ⟨k, y, L2, hk, rfl, hy, hS, hF, h1, hW, hT2, Hr⟩ := hrel
    by_cases hkl : k < N
    · have hkI : (k : Int) < N := by omega
      have hkb : k < 1099511628000 := by omega
      have cc := own_bits hF k hkl
      obtain ⟨b, hb⟩ : ∃ b, x.testBit k = b := ⟨_, rfl⟩
      rw [hb] at cc
      have Hb := Lib.hid hb
      clear hb
      cases b with
      | false =>
        go_wp2_with (fail)
        refine ⟨⟨k + 1, y, L2, by omega, rfl, hy, hS, hF, h1, hW, hT2, Lib.hid ?_⟩, by simp only [intOf]; omega⟩
        obtain ⟨r1, r2, r3, r4⟩ := Hr.out
        rw [Mt.low_no Hb.out]
        exact ⟨r1, fun h => by have := r2 h; omega, fun h => by have := r3 h; omega, r4⟩
      | true =>
        have hL2 : -2305843009214693960 ≤ L2 ∧ L2 ≤ L := by
          obtain ⟨r1, r2, r3, r4⟩ := Hr.out
          have h1 := HL.out
          have h2 := HK.out
          unfold LOk at h1
          refine ⟨?_, r1⟩
          by_cases h : 0 ≤ L
          · have := r2 h; omega
          · have := r3 (by omega); omega
        have kc := Hcall.out wr L2 k (fun j hj => hT2.block j (by omega) (.inl (by omega))) hT2.size hL2.1 hL2.2 hkl hW
        clear hL2
        have hgl := (hS.lt g rfl).2
        have hgnl := h1.lt
        go_wp2_with (first | (refine wl_load_node rfl _ rfl _ rfl _ _ _ _ _ _ _ h1 ?_) | (go_at_call 85; refine kc.mono ?_; rintro e w5 ⟨g5, y5, L5, rfl, hg5, hS5, hy5, hT5, hW5, Hr5⟩) | (go_at_call 106; refine (join8_any w.heap.size wr.heap.size g g5 N N N y y5 hl40 hy hy5 (by omega) _ (own_turn hS hT5 (by omega)) hS5).mono ?_; rintro e w6 ⟨rfl, hS6, hT6⟩))
        refine ⟨⟨k + 1, y ||| y5, L5, by omega, rfl, below_or hy hy5, hS6, own_turn (own_turn hF hT5 (by omega)) hT6 (by omega), blk_turn (blk_turn h1 hT5 (by omega)) hT6 (by omega), blk_turn hW5 hT6 (by omega), (hT2.trans hT5).above hT6 hgw, Lib.hid ?_⟩, by simp only [intOf]; omega⟩
        · obtain ⟨r1, r2, r3, r4⟩ := Hr.out
          obtain ⟨s1, s2, s3, s4⟩ := Hr5.out
          refine ⟨by omega, fun h => ?_, fun h => ?_, fun h => ?_⟩
          · have := r2 h
            by_cases h2 : 0 ≤ L2
            · have := s2 h2; omega
            · have := s3 (by omega); omega
          · have := r3 h
            have := s3 (by omega)
            omega
          · rw [Mt.im_low_yes hT Hxq.out Hb.out, r4 (by omega), s4 h]
    · have hkI : ¬ (k : Int) < N := by omega
      obtain rfl : k = N := by omega
      go_wp2_with (fail)
      go_ret
      refine ⟨g, y, L2, rfl, hgw, hS, hy, hT2, hW, Lib.hid ?_⟩
      obtain ⟨r1, r2, r3, r4⟩ := Hr.out
      have hl := Mt.low_all Hxq.out
      rw [← HNq.out] at hl
      rw [hl] at r4
      exact ⟨r1, r2, r3, r4⟩
end Go.Proofs.YtkedgombccdamaaDoor
