/- row and choice of nfa's maker. No condition beyond those named in each lemma. -/
import Derived.Test.YtgahdookojbbiaaLayA
namespace Go.Proofs.Ytgahdookojbbiaa
open Go.RowKit Go.Maps
set_option linter.unusedVariables false
set_option linter.unusedSimpArgs false
attribute [local go_sem] Oper.semAt_some

/-- how a tree is laid -/
def LayOk (f : FuncId) (t : TypeId) (mc : Int → Value → Array Value) (nd : Nd) : Prop :=
  ∀ (gk lo B : Nat) (m : Ly) (a : Nat) (w : World) (cs : Array Value), NdIn w B nd cs → B ≤ lo → nd.isT = true → MkIs t mc w gk lo m → m.s + nd.U ≤ 524288 → m.e.length + 3 * nd.U ≤ 524288 →
    Calls Try.prog f #[.pointer (some ⟨gk, 0, none⟩), .agg cs, .int .i64 (a : Int)] w (LayEnd t mc gk lo w (nd.lay m a))
theorem Fr.grown {t1 t2 : TypeId} {gk : Nat} {w W W' : World} {row : Option Nat} (h : Fr t1 t2 gk w W) (hg : W.grownBy W' row) (hr : ∀ i, row = some i → w.heap.size ≤ i) : Fr t1 t2 gk w W' :=
  ⟨hg.os.trans h.os, hg.tape.trans h.tape, hg.output.trans h.output, Nat.le_trans h.size hg.size, fun i hi hd => (hg.block i (Nat.lt_of_lt_of_le hi h.size) (fun e => by have := hr i e.symm; omega)).trans (h.block i hi hd)⟩
theorem newfree_s (m : Ly) (a b : Nat) : (m.new.free a b).s = m.s + 1 := rfl
theorem newfree_e (m : Ly) (a b : Nat) : (m.new.free a b).e.length = m.e.length + 1 := by simp [Ly.free, Ly.edge, Ly.new]
theorem MkIs.row {t : TypeId} {mc : Int → Value → Array Value} {W W' : World} {gk lo base size : Nat} {m : Ly} {α : Type} {enc : α → Array Value} {e : TypeId} {v : Value} {ys : List α} (h : MkIs t mc W gk lo m) (ho : Own W base e size enc v ys) (hg : W.grownBy W' v.ownBlock) (he : e ≠ t) (he2 : e ≠ 69) : MkIs t mc W' gk lo m := by
  obtain ⟨x, h1, h2, h3⟩ := h
  exact ⟨x, h1.grown hg (fun q => own_blk_ne ho h1 he q.symm), own_own h2 ho hg he2, h3⟩
theorem row_at (l : List Nd) (hl : ∀ x ∈ l, x.isT = true) (m : Ly) (a k : Nat) : (Nd.row (l.take k) (m, a)).1.s = m.s + Nd.Us (l.take k) ∧ (Nd.row (l.take k) (m, a)).1.e.length ≤ m.e.length + 3 * Nd.Us (l.take k) := by
  have hg := row_good (l.take k) (fun x hx => lay_good x (hl x (List.mem_of_mem_take hx)))
  have h1 := hg.st m a
  have h2 := hg.ed m a
  exact ⟨h1, by omega⟩
theorem alt_at (l : List Nd) (hl : ∀ x ∈ l, x.isT = true) (m : Ly) (a k : Nat) (hk : k ≤ l.length) : (Nd.alt (l.take k) a (m, [])).1.s = m.s + k + Nd.Us (l.take k) ∧ (Nd.alt (l.take k) a (m, [])).1.e.length ≤ m.e.length + k + 3 * Nd.Us (l.take k) ∧ (Nd.alt (l.take k) a (m, [])).2.length = k := by
  have hg := alt_good (l.take k) (fun x hx => lay_good x (hl x (List.mem_of_mem_take hx))) a (m, [])
  simp only [List.length_take, List.length_nil, Nat.min_eq_left hk] at hg
  exact ⟨hg.1, hg.2.1, by omega⟩
set_option maxRecDepth 100000 in
set_option maxHeartbeats 4000000 in
theorem row_any (kd : Int) (st : BSet) (l : List Nd) (mi ma : Int) (ih : ∀ x ∈ l, LayOk 38 72 mkP x) (hl : ∀ x ∈ l, x.isT = true) (gk lo B : Nat) (m : Ly) (a : Nat) (w : World) (cs : Array Value) (hin : NdIn w B (.mk kd st l mi ma) cs) (hBl : B ≤ lo) (h : MkIs 72 mkP w gk lo m)
    (hms : m.s + Nd.Us l ≤ 524288) (hme : m.e.length + 3 * Nd.Us l ≤ 524288) :
    Calls Try.prog 77 #[.pointer (some ⟨gk, 0, none⟩), .agg cs, .int .i64 (a : Int)] w (LayEnd 72 mkP gk lo w (Nd.row l (m, a))) := by
  obtain ⟨A, n, c, cl, rfl, hn, hcl, hmax, hs, hr⟩ := hin.inv
  have hlo := h.lt
  have Hn := Lib.hid hn
  have Hcl := Lib.hid hcl
  have Hr := Lib.hid hr
  have Ih := Lib.hid ih
  have Hl := Lib.hid hl
  clear hn hcl hr ih hl hin
  go_enter Try.func77, Try.ntmps77
  have h1 := Blk.new w 27 (nodeC kd st A n c mi ma)
  have hB1 : Below w.heap.size w (w.alloc (.cells (nodeC kd st A n c mi ma) 27)) := below_alloc (Below.refl _ _) _
  go_upto_region 1 with (fail)
  obtain ⟨w1, hw1⟩ : ∃ y, y = w.alloc (.cells (nodeC kd st A n c mi ma) 27) := ⟨_, rfl⟩
  rw [← hw1] at h1 hB1 ⊢
  clear hw1
  replace h := h.then_ hB1
  have hF1 : Fr 72 69 lo w w1 := Fr.below hB1
  have c5 : w1.cell? ⟨w.heap.size, 5, none⟩ = some (.slice A n c) := h1.cellv (i := 5) rfl
  go_wp2_with (fail)
  go_loopw [2, 12] (fun v i wr => ∃ k : Nat, k ≤ n ∧ i = .int .i64 k ∧ v = .int .i64 ((Nd.row (l.take k) (m, a)).2 : Int) ∧ MkIs 72 mkP wr gk lo (Nd.row (l.take k) (m, a)).1 ∧ Fr 72 69 lo w wr) (fun _ i _ => n - (intOf i).toNat)
  case atStart => exact ⟨0, by omega, rfl, rfl, h, hF1⟩
  case round =>
    clear h hF1 h1 hB1 c5
    obtain ⟨k, hk, rfl, rfl, h, hFw⟩ := hrel
    have hsz := hFw.size
    by_cases hkn : k < n
    · skip
      have hkI : (k : Int) < n := by omega
      have hkl : k < l.length := by rw [← Hn.out]; exact hkn
      have hkc : k < cl.length := by rw [Hcl.out]; exact hkl
      obtain ⟨ba, off, rfl, hba, hrows⟩ := hs.at_ (by omega)
      have hrow := (hrows k hkc).keep (hFw.block ba (by omega) (.inl (by omega)))
      have hsub := (Hr.out k hkl hkc).fr hFw (by omega) (by omega)
      have hmem : l[k] ∈ l := List.getElem_mem hkl
      have hUs := Nd.Us_step l k hkl
      have hUt := Nd.Us_take l (k + 1)
      have hT := Hl.out _ hmem
      have hih := Ih.out _ hmem
      have hrs := row_at l Hl.out m a k
      have hst := Nd.row_step l (m, a) k hkl
      obtain ⟨r, hrk⟩ : ∃ r, r = Nd.row (l.take k) (m, a) := ⟨_, rfl⟩
      rw [← hrk] at h hrs hst
      rw [← hrk]
      obtain ⟨⟨kd', st', l', mi', ma'⟩, hx⟩ : ∃ x, x = l[k] := ⟨_, rfl⟩
      rw [← hx] at hsub hUs hmem hT hih hst
      obtain ⟨A', n', c', cl', hce, -⟩ := hsub.inv
      rw [hce] at hrow hsub
      have Hst := Lib.hid hst
      have Hih := Lib.hid hih
      have HT := Lib.hid hT
      have hb1 : r.1.s + (Nd.mk kd' st' l' mi' ma').U ≤ 524288 := by omega
      have hb2 : r.1.e.length + 3 * (Nd.mk kd' st' l' mi' ma').U ≤ 524288 := by omega
      clear hst hih hT hrk hx hce hUs hUt hrs hmem
      have hkb : k < 1099511628000 := by omega
      go_upto_region 4 with (first | (refine wl_load_node_at rfl _ rfl _ _ rfl _ _ _ _ _ _ _ hrow ?_) | (refine wl_store_node rfl _ _ rfl _ _ _ _ _ _ _ _ rfl rfl (nodeC 0 0 none 0 0 0 0) rfl (Blk.new _ _ _) ?_; intro w3 h5 hg3))
      have hB3 := below_grown (below_alloc (Below.refl _ wr) (.cells (nodeC 0 0 none 0 0 0 0) 27)) hg3 (Nat.le_refl _)
      have hF3 := hFw.trans (Fr.below hB3)
      replace h := h.then_ hB3
      replace hsub := hsub.then_ hB3 (by have := hFw.size; omega)
      clear hrow hrows hg3
      have hc := Hih.out gk lo B r.1 r.2 w3 _ hsub hBl HT.out h hb1 hb2
      have Hc := Lib.hid hc
      clear hc Hih HT h hb1 hb2
      go_wp2_with (first | (refine wl_load_node rfl _ rfl _ rfl _ _ _ _ _ _ _ h5 ?_) | (go_at_call 38; refine Hc.out.mono ?_; rintro e w4 ⟨rfl, h4, hF4⟩) | (go_at_call 38; refine park ?_))
      exact ⟨⟨k + 1, by omega, rfl, by rw [Hst.out], by rw [Hst.out]; exact h4, hF3.trans hF4⟩, by simp only [intOf]; omega⟩
    · have hkI : ¬ (k : Int) < n := by omega
      have hke : l.take k = l := List.take_of_length_le (by have := Hn.out; omega)
      rw [hke] at h
      rw [hke]
      clear hke
      go_wp2_with (fail)
      go_ret
      exact ⟨rfl, h, hFw⟩
set_option maxRecDepth 100000 in
set_option maxHeartbeats 4000000 in
theorem choice_any (kd : Int) (st : BSet) (l : List Nd) (mi ma : Int) (ih : ∀ x ∈ l, LayOk 38 72 mkP x) (hl : ∀ x ∈ l, x.isT = true) (gk lo B : Nat) (m : Ly) (a : Nat) (w : World) (cs : Array Value) (hin : NdIn w B (.mk kd st l mi ma) cs) (hBl : B ≤ lo) (h : MkIs 72 mkP w gk lo m)
    (hms : m.s + (l.length + 1 + Nd.Us l) ≤ 524288) (hme : m.e.length + 3 * (l.length + 1 + Nd.Us l) ≤ 524288) :
    Calls Try.prog 78 #[.pointer (some ⟨gk, 0, none⟩), .agg cs, .int .i64 (a : Int)] w (LayEnd 72 mkP gk lo w ((Nd.alt l a (m, [])).1.joined (Nd.alt l a (m, [])).2)) := by
  obtain ⟨A, n, c, cl, rfl, hn, hcl, hmax, hs, hr⟩ := hin.inv
  have hlo := h.lt
  have Hn := Lib.hid hn
  have Hcl := Lib.hid hcl
  have Hr := Lib.hid hr
  have Ih := Lib.hid ih
  have Hl := Lib.hid hl
  rw [← hn] at hms hme
  clear hn hcl hr ih hl hin
  go_enter Try.func78, Try.ntmps78
  have h1 := Blk.new w 27 (nodeC kd st A n c mi ma)
  have hB1 : Below w.heap.size w (w.alloc (.cells (nodeC kd st A n c mi ma) 27)) := below_alloc (Below.refl _ _) _
  go_upto_region 1 with (fail)
  obtain ⟨w1, hw1⟩ : ∃ y, y = w.alloc (.cells (nodeC kd st A n c mi ma) 27) := ⟨_, rfl⟩
  rw [← hw1] at h1 hB1 ⊢
  clear hw1
  replace h := h.then_ hB1
  have hF1 : Fr 72 69 lo w w1 := Fr.below hB1
  have c5 : w1.cell? ⟨w.heap.size, 5, none⟩ = some (.slice A n c) := h1.cellv (i := 5) rfl
  go_wp2_with (fail)
  go_loopw [7, 14] (fun v i wr => ∃ k : Nat, k ≤ n ∧ i = .int .i64 k ∧ Own wr w.heap.size 3 1 encI1 v (Nd.alt (l.take k) a (m, [])).2 ∧ MkIs 72 mkP wr gk lo (Nd.alt (l.take k) a (m, [])).1 ∧ Fr 72 69 lo w wr) (fun _ i _ => n - (intOf i).toNat)
  case atStart => exact ⟨0, by omega, rfl, Own.nil_ _ _ _ _ _, h, hF1⟩
  case round =>
    clear h hF1 h1 hB1 c5
    obtain ⟨k, hk, rfl, hv, h, hFw⟩ := hrel
    have hsz := hFw.size
    have hrs := alt_at l Hl.out m a k (by rw [← Hn.out]; exact hk)
    by_cases hkn : k < n
    · skip
      have hkI : (k : Int) < n := by omega
      have hkl : k < l.length := by rw [← Hn.out]; exact hkn
      have hkc : k < cl.length := by rw [Hcl.out]; exact hkl
      obtain ⟨ba, off, rfl, hba, hrows⟩ := hs.at_ (by omega)
      have hrow := (hrows k hkc).keep (hFw.block ba (by omega) (.inl (by omega)))
      have hsub := (Hr.out k hkl hkc).fr hFw (by omega) (by omega)
      have hmem : l[k] ∈ l := List.getElem_mem hkl
      have hUs := Nd.Us_step l k hkl
      have hUt := Nd.Us_take l (k + 1)
      have hT := Hl.out _ hmem
      have hih := Ih.out _ hmem
      have hst := Nd.alt_step l a (m, []) k hkl
      obtain ⟨r, hrk⟩ : ∃ r, r = Nd.alt (l.take k) a (m, []) := ⟨_, rfl⟩
      rw [← hrk] at h hrs hst hv
      obtain ⟨⟨kd', st', l', mi', ma'⟩, hx⟩ : ∃ x, x = l[k] := ⟨_, rfl⟩
      rw [← hx] at hsub hUs hmem hT hih hst
      obtain ⟨A', n', c', cl', hce, -⟩ := hsub.inv
      rw [hce] at hrow hsub
      have Hst := Lib.hid hst
      have Hih := Lib.hid hih
      have HT := Lib.hid hT
      have hb1 : r.1.s + 1 + (Nd.mk kd' st' l' mi' ma').U ≤ 524288 := by omega
      have hb2 : r.1.e.length + 1 + 3 * (Nd.mk kd' st' l' mi' ma').U ≤ 524288 := by omega
      have hb3 : r.2.length ≤ 524288 := by omega
      clear hst hih hT hrk hx hce hUs hUt hrs hmem
      have hkb : k < 1099511628000 := by omega
      obtain ⟨A7, k7, rfl, _, _⟩ := hv.shape
      obtain ⟨rn, hrn⟩ : ∃ q, q = r.2.length := ⟨_, rfl⟩
      rw [← hrn]
      rw [← hrn] at hv hb3
      have Hrn := Lib.hid hrn
      clear hrn
      go_upto_region 5 with (first | (refine wl_load_node_at rfl _ rfl _ _ rfl _ _ _ _ _ _ _ hrow ?_) | (refine wl_store_node rfl _ _ rfl _ _ _ _ _ _ _ _ rfl rfl (nodeC 0 0 none 0 0 0 0) rfl (Blk.new _ _ _) ?_; intro w3 h5 hg3))
      have hB3 := below_grown (below_alloc (Below.refl _ wr) (.cells (nodeC 0 0 none 0 0 0 0) 27)) hg3 (Nat.le_refl _)
      have hF3 := hFw.trans (Fr.below hB3)
      replace h := h.then_ hB3
      replace hsub := hsub.then_ hB3 (by have := hFw.size; omega)
      clear hrow hrows hg3
      replace hv := hv.then_ hB3
      have hc1 := pstate_any gk lo r.1 w3 h (by omega)
      have Hc1 := Lib.hid hc1
      clear hc1 h
      go_upto_region 6 with (first | (go_at_call 39; refine Hc1.out.mono ?_; rintro e w4 ⟨rfl, h4, hF4⟩) | (go_at_call 39; refine park ?_))
      have hc2 := pfree_any gk lo r.1.new a r.1.s w4 h4 (by have : r.1.new.e = r.1.e := rfl; rw [this]; omega)
      have Hc2 := Lib.hid hc2
      clear hc2 Hc1 h4
      go_upto_region 7 with (first | (go_at_call 83; refine Hc2.out.mono ?_; rintro e w5 ⟨rfl, h6, hF5⟩) | (go_at_call 83; refine park ?_))
      have hF35 := (hF3.trans hF4).trans hF5
      have hF45 := hF4.trans hF5
      replace h5 := blk_fr h5 hF45 (.inr ⟨by decide, by decide⟩)
      replace hv := hv.fr hF45 ⟨by decide, by decide⟩
      replace hsub := hsub.fr hF45 hBl (by have := hF3.size; omega)
      have hc3 := Hih.out gk lo B (r.1.new.free a r.1.s) r.1.s w5 _ hsub hBl HT.out h6 (by rw [newfree_s]; omega) (by rw [newfree_e]; omega)
      have Hc3 := Lib.hid hc3
      clear hc3 Hc2 Hih h6 hF4 hF5 hsub
      obtain ⟨i1, hi1, hy0, hy1, hy2⟩ := info_parts info_int3
      obtain ⟨p, hp⟩ : ∃ p, p = (Nd.mk kd' st' l' mi' ma').lay (r.1.new.free a r.1.s) r.1.s := ⟨_, rfl⟩
      have hst2 : Nd.alt (l.take (k + 1)) a (m, []) = (p.1, r.2 ++ [p.2]) := by rw [Hst.out, hp]; rfl
      have hc4 := Hc3.out
      rw [← hp] at hc4
      have Hc4 := Lib.hid hc4
      have Hst2 := Lib.hid hst2
      clear hc4 Hc3 hp hst2 Hst
      go_wp2_with (first | (refine wl_load_node rfl _ rfl _ rfl _ _ _ _ _ _ _ h5 ?_) | (go_at_call 38; refine Hc4.out.mono ?_; rintro e w6 ⟨rfl, h7, hF6⟩) | (refine wl_int1 rfl _ rfl _ rfl ?_) | (at_builtin; refine park ?_) | (go_at_call 38; refine park ?_))
      refine Parked.mk ?_
      replace hv := hv.fr hF6 ⟨by decide, by decide⟩
      have hB7 : Below w6.heap.size w6 (w6.alloc (.cells (encI1 p.2) 3)) := below_alloc (Below.refl _ _) _
      have hv7 := hv.then_ hB7
      have hone := slice_one (enc := encI1) (size := 1) (y := p.2) (w := w6.alloc (.cells (encI1 p.2) 3)) (g := w6.heap.size) (t := 3) (Blk.new _ _ _)
      have hsz3 := hF3.size
      have hsz5 := hF35.size
      have hsz6 := hF6.size
      have hsz7 := hB7.size
      refine wl_append _ rfl _ _ 57 rfl w.heap.size 3 i1 _ 1 8 Try.underlying57 hi1 hy0 hy1 hy2 rfl (by decide) encI1_size encI1_one (.slice A7 _ k7) _ rfl hv7 _ _ 1 1 [p.2] rfl rfl hone (by rw [← Hrn.out]; unfold maxLen; omega) (by rw [← Hrn.out]; omega) (by omega) ?_
      intro v9 w8 hv8 hg8 hat8
      have hF8 : Fr 72 69 lo w w8 := (hF35.trans (hF6.trans (Fr.below hB7))).grown hg8 (fun i e => (hv7.lt i e).1)
      have h8 := (h7.then_ hB7).row hv7 hg8 (by decide) (by decide)
      simp only [Act.put, List.setIfInBounds_toArray, List.set_cons_zero, List.set_cons_succ]
      clear hv7 hg8 hat8 hone hi1 hy0 hy1 hy2 hv h7 hB7 h5
      go_wp2_with (fail)
      exact ⟨⟨k + 1, by omega, rfl, by rw [Hst2.out]; exact hv8, by rw [Hst2.out]; exact h8, hF8⟩, by simp only [intOf]; omega⟩
    · have hkI : ¬ (k : Int) < n := by omega
      have hke : l.take k = l := List.take_of_length_le (by have := Hn.out; omega)
      rw [hke] at h hv
      have hk2 : k = n := by omega
      obtain ⟨r, hrk⟩ : ∃ r, r = Nd.alt l a (m, []) := ⟨_, rfl⟩
      rw [← hrk] at h hv
      rw [hke, hk2, ← hrk] at hrs
      rw [← hrk]
      obtain ⟨A7, k7, rfl, _, _⟩ := hv.shape
      have hc := joined_any gk lo w.heap.size r.1 r.2 A7 r.2.length k7 rfl wr h hv (by omega) (by omega)
      have Hc := Lib.hid hc
      have Hrk := Lib.hid hrk
      clear hke hk2 hrk hrs hc h hv
      go_wp2_with (first | (go_at_call 84; refine Hc.out.mono ?_; rintro e w4 ⟨rfl, h4, hF4⟩) | (go_at_call 84; refine park ?_))
      go_ret
      exact ⟨by rw [← Hrk.out]; rfl, by rw [← Hrk.out]; exact h4, hFw.trans hF4⟩
end Go.Proofs.Ytgahdookojbbiaa
