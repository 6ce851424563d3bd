/- lay of heronref07's Maker. No condition beyond those named in each lemma. -/
import Derived.Test.YtgahdookojbbiaaLayE
namespace Go.Proofs.Ytgahdookojbbiaa
open Go.RowKit Go.Maps
set_option linter.unusedVariables false
set_option linter.unusedSimpArgs false
attribute [local go_sem] Oper.semAt_some

theorem headOk_kinds {kd : Int} {st : BSet} {n : Nat} {mi ma : Int} (this : headOk kd st n mi ma = true) : kd = 1 ∨ kd = 2 ∨ kd = 3 ∨ kd = 4 ∨ kd = 5 ∨ kd = 6 ∨ kd = 7 := by
  unfold headOk at this
  by_cases k1 : kd = 1 ∨ kd = 6 ∨ kd = 7
  · omega
  rw [if_neg k1] at this
  by_cases k2 : kd = 2
  · omega
  rw [if_neg k2] at this
  by_cases k3 : kd = 3 ∨ kd = 4
  · omega
  rw [if_neg k3] at this
  by_cases k5 : kd = 5
  · omega
  rw [if_neg k5] at this
  cases this
set_option maxRecDepth 100000 in
set_option maxHeartbeats 16000000 in
theorem rlay_ok (nd : Nd) : LayOk 42 78 mkR nd := by
  induction nd using Nd.ind with
  | h kd st l mi ma ih =>
  intro gk lo B m a w cs hin hBl hT h hms hme
  have hT2 := hT
  simp only [Nd.isT, Bool.and_eq_true, Nd.areT_all, List.all_eq_true] at hT2
  obtain ⟨hh, hl⟩ := hT2
  obtain ⟨A, n, c, cl, hce, hn, hcl, hmax, hs, hr⟩ := hin.inv
  subst hce
  have hlo := h.lt
  have hk := headOk_kinds hh
  have Hh := Lib.hid hh
  have Hl := Lib.hid hl
  have Ih := Lib.hid ih
  have Hms := Lib.hid hms
  have Hme := Lib.hid hme
  have Hn := Lib.hid hn
  have Hcl := Lib.hid hcl
  have Hr := Lib.hid hr
  have Hin := Lib.hid hin
  clear hh hl ih hT hms hme hn hcl hr hin
  go_enter Try.func42, Try.ntmps42
  have h1 := Blk.new w 27 (nodeC kd st A n c mi ma)
  have hB1 : Below w.heap.size w (w.alloc (.cells (nodeC kd st A n c mi ma) 27)) := below_alloc (Below.refl _ _) _
  go_upto_region 1 with (fail)
  obtain ⟨w1, hw1⟩ : ∃ y, y = w.alloc (.cells (nodeC kd st A n c mi ma) 27) := ⟨_, rfl⟩
  rw [← hw1] at h1 hB1 ⊢
  clear hw1
  replace h := h.then_ hB1
  have hF1 : Fr 78 69 lo w w1 := Fr.below hB1
  have hsz1 := hB1.size
  have c0 : w1.cell? ⟨w.heap.size, 0, none⟩ = some (.int .i64 kd) := h1.cellv (i := 0) rfl
  have c5 : w1.cell? ⟨w.heap.size, 5, none⟩ = some (.slice A n c) := h1.cellv (i := 5) rfl
  rcases hk with rfl | rfl | rfl | rfl | rfl | rfl | rfl
  · have hL : (Nd.mk 1 st l mi ma).lay m a = (m, a) := by simp [Nd.lay]
    have HL := Lib.hid hL
    clear hL
    go_wp2_with (fail)
    go_ret
    exact ⟨by rw [HL.out]; rfl, by rw [HL.out]; exact h, hF1⟩
  · have hst0 : st = st := by
      rfl
    have hL : (Nd.mk 2 st l mi ma).lay m a = m.over 2 a st := by simp [Nd.lay]
    have hU : (Nd.mk 2 st l mi ma).U = 1 := by simp [Nd.U]
    have hms := Hms.out
    have hme := Hme.out
    rw [hU] at hms hme
    have HL := Lib.hid hL
    have hc1 := rstate_any gk lo m w1 h (by omega)
    have Hc1 := Lib.hid hc1
    clear hL hU hst0 hc1 h
    go_upto_region 6 with (first | (go_at_call 62; refine Hc1.out.mono ?_; rintro e w2 ⟨rfl, h2, hF2⟩) | (go_at_call 62; refine park ?_))
    have hc2 := redge_any gk lo m.new 2 a m.s st w2 h2 (by show m.e.length ≤ _; omega)
    have Hc2 := Lib.hid hc2
    replace h1 := blk_fr h1 hF2 (.inr ⟨by decide, by decide⟩)
    have c0 : w2.cell? ⟨w.heap.size, 0, none⟩ = some (.int .i64 2) := h1.cellv (i := 0) rfl
    clear hc2 Hc1 h2
    go_wp2_with (first | (refine wl_load_set_at rfl _ rfl _ _ rfl _ (node_st h1) ?_) | (go_at_call 63; refine Hc2.out.mono ?_; rintro e w3 ⟨rfl, h3, hF3⟩) | (go_at_call 63; refine park ?_))
    go_ret
    exact ⟨by rw [HL.out]; rfl, by rw [HL.out]; exact h3, (hF1.trans hF2).trans hF3⟩
  · have hL : (Nd.mk 3 st l mi ma).lay m a = Nd.row l (m, a) := by simp [Nd.lay]
    have hU : (Nd.mk 3 st l mi ma).U = Nd.Us l := by simp [Nd.U]
    have hms := Hms.out
    have hme := Hme.out
    rw [hU] at hms hme
    have HL := Lib.hid hL
    clear hL hU
    go_wp2_with (fail)
    go_loopw [2, 9] (fun v i wr => ∃ k : Nat, k ≤ n ∧ i = .int .i64 k ∧ v = .int .i64 ((Nd.row (l.take k) (m, a)).2 : Int) ∧ MkIs 78 mkR wr gk lo (Nd.row (l.take k) (m, a)).1 ∧ Blk wr w.heap.size 27 (nodeC 3 st A n c mi ma) ∧ Fr 78 69 lo w wr) (fun _ i _ => n - (intOf i).toNat)
    case atStart => exact ⟨0, by omega, rfl, rfl, h, h1, hF1⟩
    case round =>
      clear h hF1 h1 hB1 c5 c0
      obtain ⟨k, hk, rfl, rfl, h, h1, hFw⟩ := hrel
      have hsz := hFw.size
      by_cases hkn : k < n
      · skip
        have hkI : (k : Int) < n := by omega
        have hkl : k < l.length := by rw [← Hn.out]; exact hkn
        have hkc : k < cl.length := by rw [Hcl.out]; exact hkl
        obtain ⟨ba, off, rfl, hba, hrows⟩ := hs.at_ (by omega)
        have hrow := (hrows k hkc).keep (hFw.block ba (by omega) (.inl (by omega)))
        have hsub := (Hr.out k hkl hkc).fr hFw (by omega) (by omega)
        have hmem : l[k] ∈ l := List.getElem_mem hkl
        have hUs := Nd.Us_step l k hkl
        have hUt := Nd.Us_take l (k + 1)
        have hT := Hl.out _ hmem
        have hih := Ih.out _ hmem
        have c5 : wr.cell? ⟨w.heap.size, 5, none⟩ = some (.slice (some ⟨ba, off, none⟩) n c) := h1.cellv (i := 5) rfl
        have hrs := row_at l Hl.out m a k
        have hst := Nd.row_step l (m, a) k hkl
        obtain ⟨r, hrk⟩ : ∃ r, r = Nd.row (l.take k) (m, a) := ⟨_, rfl⟩
        rw [← hrk] at h hrs hst
        rw [← hrk]
        obtain ⟨⟨kd', st', l', mi', ma'⟩, hx⟩ : ∃ x, x = l[k] := ⟨_, rfl⟩
        rw [← hx] at hsub hUs hmem hT hih hst
        obtain ⟨A', n', c', cl', hce, -⟩ := hsub.inv
        rw [hce] at hrow hsub
        have Hst := Lib.hid hst
        have hc := hih gk lo B r.1 r.2 wr _ hsub hBl hT h (by omega) (by omega)
        have Hc := Lib.hid hc
        clear hst hih hT hrk hx hce hUs hUt hrs hmem hc h hsub
        have hkb : k < 1099511628000 := by omega
        go_wp2_with (first | (refine wl_load_node_at rfl _ rfl _ _ rfl _ _ _ _ _ _ _ hrow ?_) | (go_at_call 42; refine Hc.out.mono ?_; rintro e w4 ⟨rfl, h4, hF4⟩) | (go_at_call 42; refine park ?_))
        exact ⟨⟨k + 1, by omega, rfl, by rw [Hst.out], by rw [Hst.out]; exact h4, blk_fr h1 hF4 (.inr ⟨by decide, by decide⟩), hFw.trans hF4⟩, by simp only [intOf]; omega⟩
      · have hkI : ¬ (k : Int) < n := by omega
        have hke : l.take k = l := List.take_of_length_le (by have := Hn.out; omega)
        have c5 : wr.cell? ⟨w.heap.size, 5, none⟩ = some (.slice A n c) := h1.cellv (i := 5) rfl
        rw [hke] at h
        rw [hke]
        clear hke
        go_wp2_with (fail)
        go_ret
        exact ⟨by rw [HL.out]; rfl, by rw [HL.out]; exact h, hFw⟩
  · have hL : (Nd.mk 4 st l mi ma).lay m a = (Nd.alt l a (m, [])).1.joined (Nd.alt l a (m, [])).2 := by simp [Nd.lay]
    have hU : (Nd.mk 4 st l mi ma).U = n + 1 + Nd.Us l := by simp [Nd.U, Hn.out]
    have hms := Hms.out
    have hme := Hme.out
    rw [hU] at hms hme
    have HL := Lib.hid hL
    clear hL hU
    go_wp2_with (fail)
    go_loopw [10, 11] (fun v i wr => ∃ k : Nat, k ≤ n ∧ i = .int .i64 k ∧ Own wr w.heap.size 3 1 encI1 v (Nd.alt (l.take k) a (m, [])).2 ∧ MkIs 78 mkR wr gk lo (Nd.alt (l.take k) a (m, [])).1 ∧ Blk wr w.heap.size 27 (nodeC 4 st A n c mi ma) ∧ Fr 78 69 lo w wr) (fun _ i _ => n - (intOf i).toNat)
    case atStart => exact ⟨0, by omega, rfl, Own.nil_ _ _ _ _ _, h, h1, hF1⟩
    case round =>
      clear h hF1 h1 hB1 c5 c0
      obtain ⟨k, hk, rfl, hv, h, h1, hFw⟩ := hrel
      have hsz := hFw.size
      have hrs := alt_at l Hl.out m a k (by rw [← Hn.out]; exact hk)
      by_cases hkn : k < n
      · skip
        have hkI : (k : Int) < n := by omega
        have hkl : k < l.length := by rw [← Hn.out]; exact hkn
        have hkc : k < cl.length := by rw [Hcl.out]; exact hkl
        obtain ⟨ba, off, rfl, hba, hrows⟩ := hs.at_ (by omega)
        have hrow := (hrows k hkc).keep (hFw.block ba (by omega) (.inl (by omega)))
        have hsub := (Hr.out k hkl hkc).fr hFw (by omega) (by omega)
        have hmem : l[k] ∈ l := List.getElem_mem hkl
        have hUs := Nd.Us_step l k hkl
        have hUt := Nd.Us_take l (k + 1)
        have hT := Hl.out _ hmem
        have hih := Ih.out _ hmem
        have c5 : wr.cell? ⟨w.heap.size, 5, none⟩ = some (.slice (some ⟨ba, off, none⟩) n c) := h1.cellv (i := 5) rfl
        have hst := Nd.alt_step l a (m, []) k hkl
        obtain ⟨r, hrk⟩ : ∃ r, r = Nd.alt (l.take k) a (m, []) := ⟨_, rfl⟩
        rw [← hrk] at h hrs hst hv
        obtain ⟨⟨kd', st', l', mi', ma'⟩, hx⟩ : ∃ x, x = l[k] := ⟨_, rfl⟩
        rw [← hx] at hsub hUs hmem hT hih hst
        obtain ⟨A', n', c', cl', hce, -⟩ := hsub.inv
        rw [hce] at hrow hsub
        have Hst := Lib.hid hst
        have Hih := Lib.hid hih
        have HT := Lib.hid hT
        have hb1 : r.1.s + 1 + (Nd.mk kd' st' l' mi' ma').U ≤ 524288 := by omega
        have hb2 : r.1.e.length + 1 + 3 * (Nd.mk kd' st' l' mi' ma').U ≤ 524288 := by omega
        have hb3 : r.2.length ≤ 524288 := by omega
        clear hst hih hT hrk hx hce hUs hUt hrs hmem
        have hkb : k < 1099511628000 := by omega
        obtain ⟨A7, k7, rfl, _, _⟩ := hv.shape
        obtain ⟨rn, hrn⟩ : ∃ q, q = r.2.length := ⟨_, rfl⟩
        rw [← hrn]
        rw [← hrn] at hv hb3
        have Hrn := Lib.hid hrn
        clear hrn
        have hc1 := rstate_any gk lo r.1 wr h (by omega)
        have Hc1 := Lib.hid hc1
        clear hc1 h
        go_upto_region 22 with (first | (go_at_call 62; refine Hc1.out.mono ?_; rintro e w4 ⟨rfl, h4, hF4⟩) | (go_at_call 62; refine park ?_))
        have hc2 := rfree_any gk lo r.1.new a r.1.s w4 h4 (by have : r.1.new.e = r.1.e := rfl; rw [this]; omega)
        have Hc2 := Lib.hid hc2
        clear hc2 Hc1 h4 c5
        go_upto_region 23 with (first | (go_at_call 64; refine Hc2.out.mono ?_; rintro e w5 ⟨rfl, h6, hF5⟩) | (go_at_call 64; refine park ?_))
        have hF35 := (hFw.trans hF4).trans hF5
        have hF45 := hF4.trans hF5
        replace h1 := blk_fr h1 hF45 (.inr ⟨by decide, by decide⟩)
        replace hv := hv.fr hF45 ⟨by decide, by decide⟩
        have hsub5 := hsub.fr hF45 hBl (by have := hFw.size; omega)
        have hrow5 := hrow.keep (hF45.block ba (by omega) (.inl (by omega)))
        have hc3 := Hih.out gk lo B (r.1.new.free a r.1.s) r.1.s w5 _ hsub5 hBl HT.out h6 (by rw [newfree_s]; omega) (by rw [newfree_e]; omega)
        obtain ⟨p, hp⟩ : ∃ p, p = (Nd.mk kd' st' l' mi' ma').lay (r.1.new.free a r.1.s) r.1.s := ⟨_, rfl⟩
        have hst2 : Nd.alt (l.take (k + 1)) a (m, []) = (p.1, r.2 ++ [p.2]) := by rw [Hst.out, hp]; rfl
        rw [← hp] at hc3
        have Hc4 := Lib.hid hc3
        have Hst2 := Lib.hid hst2
        clear hc3 Hc2 Hih h6 hF4 hF5 hsub hsub5 hrow hrows hp hst2 Hst
        obtain ⟨i1, hi1, hy0, hy1, hy2⟩ := info_parts info_int3
        have c5 : w5.cell? ⟨w.heap.size, 5, none⟩ = some (.slice (some ⟨ba, off, none⟩) n c) := h1.cellv (i := 5) rfl
        go_wp2_with (first | (refine wl_load_node_at rfl _ rfl _ _ rfl _ _ _ _ _ _ _ hrow5 ?_) | (go_at_call 42; refine Hc4.out.mono ?_; rintro e w6 ⟨rfl, h7, hF6⟩) | (refine wl_int1 rfl _ rfl _ rfl ?_) | (at_builtin; refine park ?_) | (go_at_call 42; refine park ?_))
        refine Parked.mk ?_
        clear c5
        replace hv := hv.fr hF6 ⟨by decide, by decide⟩
        have hB7 : Below w6.heap.size w6 (w6.alloc (.cells (encI1 p.2) 3)) := below_alloc (Below.refl _ _) _
        have hv7 := hv.then_ hB7
        have hone := slice_one (enc := encI1) (size := 1) (y := p.2) (w := w6.alloc (.cells (encI1 p.2) 3)) (g := w6.heap.size) (t := 3) (Blk.new _ _ _)
        have hsz5 := hF35.size
        have hsz6 := hF6.size
        have hsz7 := hB7.size
        replace h1 := blk_then (blk_fr h1 hF6 (.inr ⟨by decide, by decide⟩)) hB7
        refine wl_append _ rfl _ _ 57 rfl w.heap.size 3 i1 _ 1 8 Try.underlying57 hi1 hy0 hy1 hy2 rfl (by decide) encI1_size encI1_one (.slice A7 _ k7) _ rfl hv7 _ _ 1 1 [p.2] rfl rfl hone (by rw [← Hrn.out]; unfold maxLen; omega) (by rw [← Hrn.out]; omega) (by omega) ?_
        intro v9 w8 hv8 hg8 hat8
        have hF8 : Fr 78 69 lo w w8 := (hF35.trans (hF6.trans (Fr.below hB7))).grown hg8 (fun i e => (hv7.lt i e).1)
        have h8 := (h7.then_ hB7).row hv7 hg8 (by decide) (by decide)
        have h1b : Blk w8 w.heap.size 27 _ := h1.grown hg8 (fun e => own_blk_ne hv7 h1 (by decide) e.symm)
        simp only [Act.put, List.setIfInBounds_toArray, List.set_cons_zero, List.set_cons_succ]
        clear hv7 hg8 hat8 hone hi1 hy0 hy1 hy2 hv h7 hB7 h1
        go_wp2_with (fail)
        exact ⟨⟨k + 1, by omega, rfl, by rw [Hst2.out]; exact hv8, by rw [Hst2.out]; exact h8, h1b, hF8⟩, by simp only [intOf]; omega⟩
      · have hkI : ¬ (k : Int) < n := by omega
        have hke : l.take k = l := List.take_of_length_le (by have := Hn.out; omega)
        have c5 : wr.cell? ⟨w.heap.size, 5, none⟩ = some (.slice A n c) := h1.cellv (i := 5) rfl
        rw [hke] at h hv
        have hk2 : k = n := by omega
        obtain ⟨r, hrk⟩ : ∃ r, r = Nd.alt l a (m, []) := ⟨_, rfl⟩
        rw [← hrk] at h hv
        rw [hke, hk2, ← hrk] at hrs
        obtain ⟨A7, k7, rfl, _, _⟩ := hv.shape
        obtain ⟨en, hen⟩ : ∃ x, x = r.2.length := ⟨_, rfl⟩
        rw [← hen] at hv hrs
        rw [← hen]
        have henb : en ≤ 524288 := by omega
        have hob1 : r.1.s ≤ 524288 := by omega
        have hob2 : r.1.e.length + en ≤ 1048576 := by omega
        have hc := rstate_any gk lo r.1 wr h (by omega)
        have Hc := Lib.hid hc
        have Hrk := Lib.hid hrk
        have Hen := Lib.hid hen
        clear hc hke hk2 hrk hrs h hms hme hen
        go_upto_region 25 with (first | (go_at_call 62; refine Hc.out.mono ?_; rintro e w5 ⟨rfl, h8, hF5⟩) | (go_at_call 62; refine park ?_))
        have hv8 := hv.fr hF5 ⟨by decide, by decide⟩
        have hF8 := hFw.trans hF5
        clear hv hF5 Hc h1 c5
        go_wp2_with (fail)
        go_loopw [14] (fun i wr => ∃ j : Nat, j ≤ en ∧ i = .int .i64 j ∧ MkIs 78 mkR wr gk lo (r.1.new.frees r.1.s (r.2.take j)) ∧ Own wr w.heap.size 3 1 encI1 (.slice A7 en k7) r.2 ∧ Fr 78 69 lo w wr) (fun i _ => en - (intOf i).toNat)
        case atStart => exact ⟨0, by omega, rfl, h8, hv8, hF8⟩
        case round =>
          clear h8 hv8 hF8
          obtain ⟨j, hj, rfl, h8, hv8, hF8⟩ := hrel
          by_cases hje : j < en
          · have hjI : (j : Int) < en := by omega
            have hjl : j < r.2.length := by rw [← Hen.out]; exact hje
            obtain ⟨g, cap, hvf, _, _, _⟩ := hv8.form (by omega)
            injection hvf with hA hnn hcap
            clear hnn
            subst hA hcap
            have hrowe := hv8.row encI1_size j hjl
            obtain ⟨x, hx⟩ : ∃ x, x = r.2[j] := ⟨_, rfl⟩
            rw [← hx, Nat.mul_one] at hrowe
            have hce0 : wr.cell? ⟨g, j, none⟩ = some (.int .i64 (x : Int)) := hrowe 0 _ rfl
            have hst : r.1.new.frees r.1.s (r.2.take (j + 1)) = (r.1.new.frees r.1.s (r.2.take j)).free x r.1.s := by rw [Ly.frees_snoc _ _ _ _ hjl, hx]
            have hel : (r.1.new.frees r.1.s (r.2.take j)).e.length ≤ 1048576 := by
              rw [Ly.frees_e, List.length_take]
              have : r.1.new.e.length = r.1.e.length := rfl
              omega
            have hc2 := rfree_any gk lo _ x r.1.s wr h8 hel
            rw [← hst] at hc2
            have hjb : j < 1099511628000 := by omega
            clear hx hst hrowe hel h8
            go_wp2_with (first | (go_at_call 64; refine hc2.mono ?_; rintro e w3 ⟨rfl, h3, hF3⟩) | (go_at_call 64; refine park ?_))
            exact ⟨⟨j + 1, by omega, rfl, h3, hv8.fr hF3 ⟨by decide, by decide⟩, hF8.trans hF3⟩, by simp only [intOf]; omega⟩
          · have hjI : ¬ (j : Int) < en := by omega
            have hke : r.2.take j = r.2 := List.take_of_length_le (by have := Hen.out; omega)
            rw [hke] at h8
            clear hke
            go_wp2_with (fail)
            go_ret
            exact ⟨by rw [HL.out, ← Hrk.out]; rfl, by rw [HL.out, ← Hrk.out]; exact h8, hF8⟩
  · obtain ⟨-, hn1, hmi0, hmi1, hma⟩ := headOk_times Hh.out
    obtain ⟨x, rfl⟩ := List.length_eq_one_iff.1 hn1
    have hxT := Hl.out x (by simp)
    have hxI := Ih.out x (by simp)
    have hL : (Nd.mk 5 st [x] mi ma).lay m a = timesP x.lay x.U mi ma m a := by simp [Nd.lay, Nd.tim]
    have hU : (Nd.mk 5 st [x] mi ma).U = tU x.U mi ma := by simp [Nd.U, Nd.Us]
    have hms := Hms.out
    have hme := Hme.out
    rw [hU] at hms hme
    have hc := rtimes_any 5 st x mi ma hxT hxI hmi0 hmi1 hma gk lo B m a w1 _ (Hin.out.then_ hB1 (by omega)) hBl h hms hme
    have HL := Lib.hid hL
    have Hc := Lib.hid hc
    clear hL hU hc hms hme hxT hxI
    go_wp2_with (first | (refine wl_load_node rfl _ rfl _ rfl _ _ _ _ _ _ _ h1 ?_) | (go_at_call 65; refine Hc.out.mono ?_; rintro e w4 ⟨rfl, h4, hF4⟩) | (go_at_call 65; refine park ?_))
    go_ret
    exact ⟨by rw [HL.out]; rfl, by rw [HL.out]; exact h4, hF1.trans hF4⟩
  · have hst0 : st = 0 := by
      have h9 := Hh.out
      rw [headOk_1 (by omega) rfl] at h9
      simp only [Bool.and_eq_true, decide_eq_true_eq] at h9
      exact h9.1.1.1
    have hL : (Nd.mk 6 st l mi ma).lay m a = m.over 3 a st := by rw [hst0]; simp [Nd.lay]
    have hU : (Nd.mk 6 st l mi ma).U = 1 := by simp [Nd.U]
    have hms := Hms.out
    have hme := Hme.out
    rw [hU] at hms hme
    have HL := Lib.hid hL
    have hc1 := rstate_any gk lo m w1 h (by omega)
    have Hc1 := Lib.hid hc1
    clear hL hU hst0 hc1 h
    go_upto_region 6 with (first | (go_at_call 62; refine Hc1.out.mono ?_; rintro e w2 ⟨rfl, h2, hF2⟩) | (go_at_call 62; refine park ?_))
    have hc2 := redge_any gk lo m.new 3 a m.s st w2 h2 (by show m.e.length ≤ _; omega)
    have Hc2 := Lib.hid hc2
    replace h1 := blk_fr h1 hF2 (.inr ⟨by decide, by decide⟩)
    have c0 : w2.cell? ⟨w.heap.size, 0, none⟩ = some (.int .i64 6) := h1.cellv (i := 0) rfl
    clear hc2 Hc1 h2
    go_wp2_with (first | (refine wl_load_set_at rfl _ rfl _ _ rfl _ (node_st h1) ?_) | (go_at_call 63; refine Hc2.out.mono ?_; rintro e w3 ⟨rfl, h3, hF3⟩) | (go_at_call 63; refine park ?_))
    go_ret
    exact ⟨by rw [HL.out]; rfl, by rw [HL.out]; exact h3, (hF1.trans hF2).trans hF3⟩
  · have hst0 : st = 0 := by
      have h9 := Hh.out
      rw [headOk_1 (by omega) rfl] at h9
      simp only [Bool.and_eq_true, decide_eq_true_eq] at h9
      exact h9.1.1.1
    have hL : (Nd.mk 7 st l mi ma).lay m a = m.over 4 a st := by rw [hst0]; simp [Nd.lay]
    have hU : (Nd.mk 7 st l mi ma).U = 1 := by simp [Nd.U]
    have hms := Hms.out
    have hme := Hme.out
    rw [hU] at hms hme
    have HL := Lib.hid hL
    have hc1 := rstate_any gk lo m w1 h (by omega)
    have Hc1 := Lib.hid hc1
    clear hL hU hst0 hc1 h
    go_upto_region 6 with (first | (go_at_call 62; refine Hc1.out.mono ?_; rintro e w2 ⟨rfl, h2, hF2⟩) | (go_at_call 62; refine park ?_))
    have hc2 := redge_any gk lo m.new 4 a m.s st w2 h2 (by show m.e.length ≤ _; omega)
    have Hc2 := Lib.hid hc2
    replace h1 := blk_fr h1 hF2 (.inr ⟨by decide, by decide⟩)
    have c0 : w2.cell? ⟨w.heap.size, 0, none⟩ = some (.int .i64 7) := h1.cellv (i := 0) rfl
    clear hc2 Hc1 h2
    go_wp2_with (first | (refine wl_load_set_at rfl _ rfl _ _ rfl _ (node_st h1) ?_) | (go_at_call 63; refine Hc2.out.mono ?_; rintro e w3 ⟨rfl, h3, hF3⟩) | (go_at_call 63; refine park ?_))
    go_ret
    exact ⟨by rw [HL.out]; rfl, by rw [HL.out]; exact h3, (hF1.trans hF2).trans hF3⟩
end Go.Proofs.Ytgahdookojbbiaa
