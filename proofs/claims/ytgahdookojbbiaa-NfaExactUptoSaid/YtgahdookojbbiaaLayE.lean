/- times of heronref07's Maker. No condition beyond those named in each lemma. -/
import Derived.Test.YtgahdookojbbiaaLayD
namespace Go.Proofs.Ytgahdookojbbiaa
open Go.RowKit Go.Maps
set_option linter.unusedVariables false
set_option linter.unusedSimpArgs false
attribute [local go_sem] Oper.semAt_some

set_option maxRecDepth 100000 in
set_option maxHeartbeats 16000000 in
theorem rtimes_any (kd : Int) (st : BSet) (x : Nd) (mi ma : Int) (hT : x.isT = true) (ih : LayOk 42 78 mkR x) (hmi0 : 0 ≤ mi) (hmi1 : mi ≤ 255) (hma : ma = -1 ∨ (mi ≤ ma ∧ ma ≤ 255)) (gk lo B : Nat) (m : Ly) (a : Nat) (w : World) (cs : Array Value) (hin : NdIn w B (.mk kd st [x] mi ma) cs) (hBl : B ≤ lo) (h : MkIs 78 mkR w gk lo m)
    (hms : m.s + tU x.U mi ma ≤ 524288) (hme : m.e.length + 3 * tU x.U mi ma ≤ 524288) :
    Calls Try.prog 65 #[.pointer (some ⟨gk, 0, none⟩), .agg cs, .int .i64 (a : Int)] w (LayEnd 78 mkR gk lo w (timesP x.lay x.U mi ma m a)) := by
  obtain ⟨A, n, c, cl, rfl, hn, hcl, hmax, hs, hr⟩ := hin.inv
  have hlo := h.lt
  have hkc : 0 < cl.length := by rw [hcl]; exact Nat.zero_lt_one
  have hn1 : 0 < n := by rw [hn]; exact Nat.zero_lt_one
  obtain ⟨ba, off, rfl, hba, hrows⟩ := hs.at_ hkc
  have hrow0 := hrows 0 hkc
  have hsub := hr 0 (by simp) hkc
  simp only [List.getElem_cons_zero] at hsub
  have hgood := lay_good x hT
  have hpl := fun W h1 h2 => placesR_any x B W _ (NdIn.keep (w' := W) h1 hsub) h2
  have hone := placesN_one hT
  obtain ⟨V, hV⟩ : ∃ V, placesN x = V := ⟨_, rfl⟩
  obtain ⟨u, hu⟩ : ∃ u, x.U = u := ⟨_, rfl⟩
  obtain ⟨f, hf⟩ : ∃ f, x.lay = f := ⟨_, rfl⟩
  rw [hV] at hpl hone
  rw [hu] at hone hgood hms hme ⊢
  rw [hf] at hgood ⊢
  have hih : ∀ (m : Ly) (a : Nat) (w : World) (cs : Array Value), NdIn w B x cs → MkIs 78 mkR w gk lo m → m.s + u ≤ 524288 → m.e.length + 3 * u ≤ 524288 →
      Calls Try.prog 42 #[.pointer (some ⟨gk, 0, none⟩), .agg cs, .int .i64 (a : Int)] w (LayEnd 78 mkR gk lo w (f m a)) := fun m a w cs q1 q2 q3 q4 => by
    have := ih gk lo B m a w cs q1 hBl hT q2 (by rw [hu]; exact q3) (by rw [hu]; exact q4)
    rw [hf] at this
    exact this
  obtain ⟨⟨kd', st', l', mi', ma'⟩, hx⟩ : ∃ y, y = x := ⟨_, rfl⟩
  rw [← hx] at hsub hih
  obtain ⟨A', n', c', cl', hce, -⟩ := hsub.inv
  rw [hce] at hrow0 hsub hpl
  obtain ⟨mn, rfl⟩ := Int.eq_ofNat_of_zero_le hmi0
  have hsubl := fun W h1 => NdIn.keep (w' := W) h1 hsub
  have hrowl := fun W (hh : ∀ k, k < B → (W : World).heap[k]? = w.heap[k]?) => hrow0.keep (hh ba hba)
  have Hsub := Lib.hid hsubl
  have Hrow := Lib.hid hrowl
  have Hih := Lib.hid hih
  have Hpl := Lib.hid hpl
  have Hone := Lib.hid hone
  have Hgood := Lib.hid hgood
  clear hn hcl hr ih hT hin hgood hpl hone hih hx hce hsub hu hf hV hsubl hs hrows hrow0 hrowl
  go_enter Try.func65, Try.ntmps65
  have h1 := Blk.new w 27 (nodeC kd st (some ⟨ba, off, none⟩) n c mn ma)
  have hB1 : Below w.heap.size w (w.alloc (.cells (nodeC kd st (some ⟨ba, off, none⟩) n c mn ma) 27)) := below_alloc (Below.refl _ _) _
  go_upto_region 1 with (fail)
  obtain ⟨w1, hw1⟩ : ∃ y, y = w.alloc (.cells (nodeC kd st (some ⟨ba, off, none⟩) n c mn ma) 27) := ⟨_, rfl⟩
  rw [← hw1] at h1 hB1 ⊢
  clear hw1
  replace h := h.then_ hB1
  have c5 : w1.cell? ⟨w.heap.size, 5, none⟩ = some (.slice (some ⟨ba, off, none⟩) n c) := h1.cellv (i := 5) rfl
  have hrow := Hrow.out w1 (fun j hj => hB1.block j (by omega))
  have hp := Hpl.out w1 (fun j hj => hB1.block j (by omega)) (by have := hB1.size; omega)
  have Hp := Lib.hid hp
  clear hp Hpl
  by_cases hu0 : u = 0
  · have hV1 := Hone.out.2 hu0
    have e1 : timesP f u mn ma m a = (m, a) := by unfold timesP; rw [if_pos hu0]
    have Hp1 : Hid _ := Lib.hid (hV1 ▸ Hp.out)
    have E1 := Lib.hid e1
    clear hV1 Hp e1 hms hme
    go_wp2_with (first | (refine wl_load_node_at rfl _ rfl _ _ rfl _ _ _ _ _ _ _ hrow ?_) | (go_at_call 41; refine Hp1.out.mono ?_; rintro e w4 ⟨rfl, hB4⟩) | (go_at_call 41; refine park ?_))
    go_ret
    exact ⟨by rw [E1.out]; rfl, by rw [E1.out]; exact h.then_ hB4, Fr.below (below_then hB1 hB4)⟩
  have hVI : ((V : Int) == 1) = false := by
    have := Hone.out
    have h2 : ¬ V = 1 := fun h => hu0 (this.1 h)
    simp only [beq_eq_false_iff_ne, ne_eq]
    omega
  go_upto_region 3 with (first | (refine wl_load_node_at rfl _ rfl _ _ rfl _ _ _ _ _ _ _ hrow ?_) | (go_at_call 41; refine Hp.out.mono ?_; rintro e w4 ⟨rfl, hB4⟩) | (go_at_call 41; refine park ?_))
  replace h := h.then_ hB4
  replace h1 := blk_then h1 hB4
  have hF1 : Fr 78 69 lo w w4 := Fr.below (below_then hB1 hB4)
  clear hB4 hB1 Hp Hone hVI hrow c5
  go_wp2_with (fail)
  go_loopw [2, 7] (fun v i wr => ∃ k : Nat, k ≤ mn ∧ i = .int .i64 k ∧ v = .int .i64 ((reps f k (m, a)).2 : Int) ∧ MkIs 78 mkR wr gk lo (reps f k (m, a)).1 ∧ Blk wr w.heap.size 27 (nodeC kd st (some ⟨ba, off, none⟩) n c mn ma) ∧ Fr 78 69 lo w wr) (fun _ i _ => mn - (intOf i).toNat)
  case atStart => exact ⟨0, by omega, rfl, rfl, h, h1, hF1⟩
  case round =>
    clear h h1 hF1
    obtain ⟨k, hk, rfl, rfl, h, h1, hFw⟩ := hrel
    have hsz := hFw.size
    obtain ⟨hr1, hr2, hr3⟩ := reps_at Hgood.out m a k mn hk
    have hmul : mn * u ≤ tU u mn ma := by unfold tU; rw [if_neg hu0]; simp
    have hrow := Hrow.out wr (fun j hj => hFw.block j (by omega) (.inl (by omega)))
    have c5 : wr.cell? ⟨w.heap.size, 5, none⟩ = some (.slice (some ⟨ba, off, none⟩) n c) := h1.cellv (i := 5) rfl
    have c6 : wr.cell? ⟨w.heap.size, 6, none⟩ = some (.int .i64 (mn : Int)) := h1.cellv (i := 6) rfl
    by_cases hkn : k < mn
    · have hkI : (k : Int) < mn := by omega
      have hsucc := succ_mul_le u k mn hkn
      have hc := Hih.out _ (reps f k (m, a)).2 wr _ (Hsub.out wr (fun j hj => hFw.block j (by omega) (.inl (by omega)))) h (by omega) (by omega)
      have hst : f (reps f k (m, a)).1 (reps f k (m, a)).2 = reps f (k + 1) (m, a) := rfl
      rw [hst] at hc
      have Hc := Lib.hid hc
      have hkb : k < 1099511628000 := by omega
      clear hc hst h hr1 hr2 hr3 hsucc hmul hms hme
      go_wp2_with (first | (refine wl_load_node_at rfl _ rfl _ _ rfl _ _ _ _ _ _ _ hrow ?_) | (go_at_call 42; refine Hc.out.mono ?_; rintro e w5 ⟨rfl, h6, hF5⟩) | (go_at_call 42; refine park ?_))
      exact ⟨⟨k + 1, by omega, rfl, rfl, h6, blk_fr h1 hF5 (.inr ⟨by decide, by decide⟩), hFw.trans hF5⟩, by simp only [intOf]; omega⟩
    · have hkI : ¬ (k : Int) < mn := by omega
      obtain rfl : k = mn := by omega
      have c7 : wr.cell? ⟨w.heap.size, 7, none⟩ = some (.int .i64 ma) := h1.cellv (i := 7) rfl
      obtain ⟨q, hq⟩ : ∃ q, q = reps f k (m, a) := ⟨_, rfl⟩
      rw [← hq] at h hr1 hr2
      rw [← hq]
      by_cases hm1 : ma = -1
      · subst hm1
        have e2 : tU u (k : Int) (-1) = k * u + (u + 2) := by unfold tU; rw [if_neg hu0, if_pos rfl]; simp
        rw [e2] at hms hme
        have hc1 := rstate_any gk lo q.1 wr h (by omega)
        have Hc1 := Lib.hid hc1
        have hb1 : q.1.s + 1 + u ≤ 524288 := by omega
        have hb2 : q.1.e.length + 3 + 3 * u ≤ 524288 := by omega
        have e3 : timesP f u (k : Int) (-1) m a = ((f (q.1.new.free q.2 q.1.s) q.1.s).1.free (f (q.1.new.free q.2 q.1.s) q.1.s).2 q.1.s).joined [q.1.s] := by
          unfold timesP
          rw [if_neg hu0, if_pos rfl]
          simp only [Int.toNat_natCast]
          rw [← hq]
        have E3 := Lib.hid e3
        have hub := Hgood.out.st (q.1.new.free q.2 q.1.s) q.1.s
        have hue := Hgood.out.ed (q.1.new.free q.2 q.1.s) q.1.s
        rw [newfree_s] at hub
        rw [newfree_e] at hue
        clear hc1 e3 e2 hq hr1 hr2 hr3 h hmul hms hme hrow
        go_upto_region 9 with (first | (go_at_call 62; refine Hc1.out.mono ?_; rintro e w4 ⟨rfl, h4, hF4⟩) | (go_at_call 62; refine park ?_))
        have hc2 := rfree_any gk lo q.1.new q.2 q.1.s w4 h4 (by have : q.1.new.e = q.1.e := rfl; rw [this]; omega)
        have Hc2 := Lib.hid hc2
        clear hc2 Hc1 h4
        go_upto_region 10 with (first | (go_at_call 64; refine Hc2.out.mono ?_; rintro e w5 ⟨rfl, h6, hF5⟩) | (go_at_call 64; refine park ?_))
        have hF45 := hF4.trans hF5
        replace h1 := blk_fr h1 hF45 (.inr ⟨by decide, by decide⟩)
        replace hFw := hFw.trans hF45
        have hsz5 := hFw.size
        have hrow := Hrow.out w5 (fun j hj => hFw.block j (by omega) (.inl (by omega)))
        have hc3 := Hih.out (q.1.new.free q.2 q.1.s) q.1.s w5 _ (Hsub.out w5 (fun j hj => hFw.block j (by omega) (.inl (by omega)))) h6 (by rw [newfree_s]; omega) (by rw [newfree_e]; omega)
        obtain ⟨p, hp⟩ : ∃ p, p = f (q.1.new.free q.2 q.1.s) q.1.s := ⟨_, rfl⟩
        rw [← hp] at hc3 hub hue
        have e4 := E3.out
        rw [← hp] at e4
        have E4 := Lib.hid e4
        have Hc3 := Lib.hid hc3
        clear hc3 e4 E3 hp h6 hF4 hF5 Hc2 c5 c6 c7
        have c5 : w5.cell? ⟨w.heap.size, 5, none⟩ = some (.slice (some ⟨ba, off, none⟩) n c) := h1.cellv (i := 5) rfl
        go_upto_region 11 with (first | (refine wl_load_node_at rfl _ rfl _ _ rfl _ _ _ _ _ _ _ hrow ?_) | (go_at_call 42; refine Hc3.out.mono ?_; rintro e w6 ⟨rfl, h7, hF6⟩) | (go_at_call 42; refine park ?_))
        have hc4 := rfree_any gk lo p.1 p.2 q.1.s w6 h7 (by omega)
        have Hc4 := Lib.hid hc4
        clear hc4 Hc3 h7 c5
        go_upto_region 12 with (first | (go_at_call 64; refine Hc4.out.mono ?_; rintro e w7 ⟨rfl, h8, hF7⟩) | (go_at_call 64; refine park ?_))
        have hc5 := rstate_any gk lo (p.1.free p.2 q.1.s) w7 h8 (by show p.1.s ≤ 1048576; omega)
        have Hc5 := Lib.hid hc5
        clear hc5 Hc4 h8
        go_upto_region 13 with (first | (go_at_call 62; refine Hc5.out.mono ?_; rintro e w8 ⟨rfl, h9, hF8⟩) | (go_at_call 62; refine park ?_))
        have hc6 := rfree_any gk lo (p.1.free p.2 q.1.s).new q.1.s (p.1.free p.2 q.1.s).s w8 h9 (by simp [Ly.free, Ly.edge, Ly.new]; omega)
        have Hc6 := Lib.hid hc6
        clear hc6 Hc5 h9
        go_wp2_with (first | (go_at_call 64; refine Hc6.out.mono ?_; rintro e w9 ⟨rfl, h10, hF9⟩) | (go_at_call 64; refine park ?_))
        have hFe := (hFw.trans (hF6.trans hF7)).trans (hF8.trans hF9)
        go_ret
        exact ⟨by rw [E4.out]; rfl, by rw [E4.out]; exact h10, hFe⟩
      have hm1b : (ma == -1) = false := by simpa using hm1
      by_cases hm2 : (k : Int) < ma
      · have hm2b : (ma == (k : Int)) = false := by simp; omega
        obtain ⟨d, hd⟩ : ∃ d : Nat, ma = (k : Int) + (d : Int) := ⟨(ma - (k : Int)).toNat, by omega⟩
        have hdd : ma - (k : Int) = d := by omega
        have e2 : tU u (k : Int) ma = k * u + (d * u + 1) := by unfold tU; rw [if_neg hu0, if_neg hm1, if_pos hm2, hdd]; simp
        rw [e2] at hms hme
        have e3 : timesP f u (k : Int) ma m a = (opts f d (q, [q.2])).1.1.joined (opts f d (q, [q.2])).2 := by
          unfold timesP
          rw [if_neg hu0, if_neg hm1, if_pos hm2, hdd]
          simp only [Int.toNat_natCast]
          rw [← hq]
        have E3 := Lib.hid e3
        have hd2 : d ≤ 255 := by omega
        have Hd := Lib.hid hd
        clear e3 e2 hq hdd hd hrow
        go_upto_region 18 with (refine wl_int1 rfl _ rfl _ rfl ?_)
        have hB4 : Below wr.heap.size wr (wr.alloc (.cells (encI1 q.2) 3)) := below_alloc (Below.refl _ _) _
        have hv := own_new1 (w := wr) (base := w.heap.size) (y := q.2) (by omega)
        obtain ⟨w4, hw4⟩ : ∃ y, y = wr.alloc (.cells (encI1 q.2) 3) := ⟨_, rfl⟩
        rw [← hw4] at hB4 hv ⊢
        clear hw4 c5 c6 c7
        replace h := h.then_ hB4
        replace h1 := blk_then h1 hB4
        replace hFw := hFw.trans (Fr.below hB4)
        have c6 : w4.cell? ⟨w.heap.size, 6, none⟩ = some (.int .i64 (k : Int)) := h1.cellv (i := 6) rfl
        clear hB4
        go_wp2_with (fail)
        clear c6
        go_loopw [2, 11, 12] (fun v x i wz => ∃ j : Nat, j ≤ d ∧ i = .int .i64 ((k : Int) + (j : Int)) ∧ v = .int .i64 ((opts f j (q, [q.2])).1.2 : Int) ∧ Own wz w.heap.size 3 1 encI1 x (opts f j (q, [q.2])).2 ∧ MkIs 78 mkR wz gk lo (opts f j (q, [q.2])).1.1 ∧ Blk wz w.heap.size 27 (nodeC kd st (some ⟨ba, off, none⟩) n c k ma) ∧ Fr 78 69 lo w wz) (fun _ _ i _ => k + d - (intOf i).toNat)
        case atStart => exact ⟨0, by omega, by simp, rfl, hv, h, h1, hFw⟩
        case round =>
          clear h h1 hFw hv
          obtain ⟨j, hj, rfl, rfl, hv, h, h1, hFz⟩ := hrel
          have hszz := hFz.size
          obtain ⟨ho1, ho2, ho3, ho4⟩ := opts_at Hgood.out q j d hj
          have c5 : wr.cell? ⟨w.heap.size, 5, none⟩ = some (.slice (some ⟨ba, off, none⟩) n c) := h1.cellv (i := 5) rfl
          have c7 : wr.cell? ⟨w.heap.size, 7, none⟩ = some (.int .i64 ma) := h1.cellv (i := 7) rfl
          by_cases hjd : j < d
          · have hjI : (k : Int) + (j : Int) < ma := by have := Hd.out; omega
            have hsucc := succ_mul_le u j d hjd
            have hrow := Hrow.out wr (fun i hi => hFz.block i (by omega) (.inl (by omega)))
            have hc := Hih.out _ (opts f j (q, [q.2])).1.2 wr _ (Hsub.out wr (fun i hi => hFz.block i (by omega) (.inl (by omega)))) h (by omega) (by omega)
            obtain ⟨o, ho⟩ : ∃ o, o = opts f j (q, [q.2]) := ⟨_, rfl⟩
            have hst : opts f (j + 1) (q, [q.2]) = (f o.1.1 o.1.2, o.2 ++ [(f o.1.1 o.1.2).2]) := by rw [ho]; rfl
            rw [← ho] at hc hv h ho4
            rw [← ho]
            obtain ⟨p, hp⟩ : ∃ p, p = f o.1.1 o.1.2 := ⟨_, rfl⟩
            rw [← hp] at hc hst
            obtain ⟨A7, k7, rfl, _, _⟩ := hv.shape
            obtain ⟨on, hon⟩ : ∃ x, x = o.2.length := ⟨_, rfl⟩
            rw [← hon] at hv ho4
            rw [← hon]
            have Hon := Lib.hid hon
            have hon2 : on ≤ 300 := by omega
            have Hc := Lib.hid hc
            have Hst := Lib.hid hst
            have hjb : j < 1099511628000 := by omega
            obtain ⟨i1, hi1, hy0, hy1, hy2⟩ := info_parts info_int3
            clear hc hst h ho1 ho2 ho3 ho4 hsucc hmul hms hme hp ho hon
            go_wp2_with (first | (refine wl_load_node_at rfl _ rfl _ _ rfl _ _ _ _ _ _ _ hrow ?_) | (go_at_call 42; refine Hc.out.mono ?_; rintro e w6 ⟨rfl, h7, hF6⟩) | (refine wl_int1 rfl _ rfl _ rfl ?_) | (at_builtin; refine park ?_) | (go_at_call 42; refine park ?_))
            refine Parked.mk ?_
            replace hv := hv.fr hF6 ⟨by decide, by decide⟩
            have hB7 : Below w6.heap.size w6 (w6.alloc (.cells (encI1 p.2) 3)) := below_alloc (Below.refl _ _) _
            have hv7 := hv.then_ hB7
            have hone := slice_one (enc := encI1) (size := 1) (y := p.2) (w := w6.alloc (.cells (encI1 p.2) 3)) (g := w6.heap.size) (t := 3) (Blk.new _ _ _)
            have hsz6 := hF6.size
            have hsz7 := hB7.size
            replace h1 := blk_then (blk_fr h1 hF6 (.inr ⟨by decide, by decide⟩)) hB7
            refine wl_append _ rfl _ _ 57 rfl w.heap.size 3 i1 _ 1 8 Try.underlying57 hi1 hy0 hy1 hy2 rfl (by decide) encI1_size encI1_one (.slice A7 _ k7) _ rfl hv7 _ _ 1 1 [p.2] rfl rfl hone (by rw [← Hon.out]; unfold maxLen; omega) (by rw [← Hon.out]; omega) (by omega) ?_
            intro v9 w8 hv8 hg8 hat8
            have hF8 : Fr 78 69 lo w w8 := (hFz.trans (hF6.trans (Fr.below hB7))).grown hg8 (fun i e => (hv7.lt i e).1)
            have h8 := (h7.then_ hB7).row hv7 hg8 (by decide) (by decide)
            have h1b : Blk w8 w.heap.size 27 _ := h1.grown hg8 (fun e => own_blk_ne hv7 h1 (by decide) e.symm)
            simp only [Act.put, List.setIfInBounds_toArray, List.set_cons_zero, List.set_cons_succ]
            clear hv7 hg8 hat8 hone hi1 hy0 hy1 hy2 hv h7 hB7 h1
            go_wp2_with (fail)
            exact ⟨⟨j + 1, by omega, congrArg (Value.int .i64) (by omega), by rw [Hst.out], by rw [Hst.out]; exact hv8, by rw [Hst.out]; exact h8, h1b, hF8⟩, by simp only [intOf]; omega⟩
          · have hjI : ¬ (k : Int) + (j : Int) < ma := by have := Hd.out; omega
            obtain rfl : j = d := by omega
            have e4 := E3.out
            obtain ⟨o, ho⟩ : ∃ o, o = opts f j (q, [q.2]) := ⟨_, rfl⟩
            rw [← ho] at hv h ho1 ho2 ho4 e4
            rw [← ho]
            obtain ⟨A7, k7, rfl, _, _⟩ := hv.shape
            obtain ⟨en, hen⟩ : ∃ x, x = o.2.length := ⟨_, rfl⟩
            rw [← hen] at hv ho4
            rw [← hen]
            have henb : en ≤ 300 := by omega
            have hob1 : o.1.1.s ≤ 524288 := by omega
            have hob2 : o.1.1.e.length + en ≤ 1048576 := by omega
            have hc := rstate_any gk lo o.1.1 wr h (by omega)
            have Hc := Lib.hid hc
            have E4 := Lib.hid e4
            have Hen := Lib.hid hen
            clear hc e4 ho E3 ho1 ho2 ho3 ho4 h hms hme hen c5
            go_upto_region 24 with (first | (go_at_call 62; refine Hc.out.mono ?_; rintro e w5 ⟨rfl, h8, hF5⟩) | (go_at_call 62; refine park ?_))
            have hv8 := hv.fr hF5 ⟨by decide, by decide⟩
            have hF8 := hFz.trans hF5
            clear hv hF5 Hc h1
            go_wp2_with (fail)
            go_loopw [14] (fun i wr => ∃ j : Nat, j ≤ en ∧ i = .int .i64 j ∧ MkIs 78 mkR wr gk lo (o.1.1.new.frees o.1.1.s (o.2.take j)) ∧ Own wr w.heap.size 3 1 encI1 (.slice A7 en k7) o.2 ∧ Fr 78 69 lo w wr) (fun i _ => en - (intOf i).toNat)
            case atStart => exact ⟨0, by omega, rfl, h8, hv8, hF8⟩
            case round =>
              clear h8 hv8 hF8
              obtain ⟨j, hj, rfl, h8, hv8, hF8⟩ := hrel
              by_cases hje : j < en
              · have hjI : (j : Int) < en := by omega
                have hjl : j < o.2.length := by rw [← Hen.out]; exact hje
                obtain ⟨g, cap, hvf, _, _, _⟩ := hv8.form (by omega)
                injection hvf with hA hnn hcap
                clear hnn
                subst hA hcap
                have hrowe := hv8.row encI1_size j hjl
                obtain ⟨x, hx⟩ : ∃ x, x = o.2[j] := ⟨_, rfl⟩
                rw [← hx, Nat.mul_one] at hrowe
                have hce0 : wr.cell? ⟨g, j, none⟩ = some (.int .i64 (x : Int)) := hrowe 0 _ rfl
                have hst : o.1.1.new.frees o.1.1.s (o.2.take (j + 1)) = (o.1.1.new.frees o.1.1.s (o.2.take j)).free x o.1.1.s := by rw [Ly.frees_snoc _ _ _ _ hjl, hx]
                have hel : (o.1.1.new.frees o.1.1.s (o.2.take j)).e.length ≤ 1048576 := by
                  rw [Ly.frees_e, List.length_take]
                  have : o.1.1.new.e.length = o.1.1.e.length := rfl
                  omega
                have hc2 := rfree_any gk lo _ x o.1.1.s wr h8 hel
                rw [← hst] at hc2
                have hjb : j < 1099511628000 := by omega
                clear hx hst hrowe hel h8
                go_wp2_with (first | (go_at_call 64; refine hc2.mono ?_; rintro e w3 ⟨rfl, h3, hF3⟩) | (go_at_call 64; refine park ?_))
                exact ⟨⟨j + 1, by omega, rfl, h3, hv8.fr hF3 ⟨by decide, by decide⟩, hF8.trans hF3⟩, by simp only [intOf]; omega⟩
              · have hjI : ¬ (j : Int) < en := by omega
                have hke : o.2.take j = o.2 := List.take_of_length_le (by have := Hen.out; omega)
                rw [hke] at h8
                clear hke
                go_wp2_with (fail)
                go_ret
                exact ⟨by rw [E4.out]; rfl, by rw [E4.out]; exact h8, hF8⟩
      · have hm2b : (ma == (k : Int)) = true := by simp; omega
        have e3 : timesP f u (k : Int) ma m a = q := by
          unfold timesP
          rw [if_neg hu0, if_neg hm1, if_neg hm2, hq]
          simp
        have E3 := Lib.hid e3
        clear e3 hq
        go_wp2_with (fail)
        go_ret
        exact ⟨by rw [E3.out]; rfl, by rw [E3.out]; exact h, hFw⟩
end Go.Proofs.Ytgahdookojbbiaa
