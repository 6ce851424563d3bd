/- heronlaw07.NfaExact: the walk. No condition beyond those named in each lemma. -/
import Derived.Test.YtgahdookojbbiaaKnown
namespace Go.Proofs.Ytgahdookojbbiaa
open Go.RowKit Go.Maps
set_option linter.unusedVariables false
set_option linter.unusedSimpArgs false
attribute [local go_sem] Oper.semAt_some

def CP.mv (x : CP) : MV := ⟨x.F, some ⟨x.ge, 0, none⟩, x.ce, some ⟨x.gu, 0, none⟩, x.cu⟩
theorem CP.mv_C (x : CP) : x.mv.C = x.C := rfl
def m99 : MV := ⟨⟨99, [], []⟩, none, 0, none, 0⟩
theorem info_nfa3 : (Try.prog.info? 34).map (fun i => (i.zero, i.size, i.bytes)) = some (some (.agg #[.int .i64 0, .slice none 0 0, .slice none 0 0]), 3, 56) := by kernel_rfl
theorem MV.C_one (x : MV) : x.C.all (·.oneCell') = true := by simp [MV.C, nfaC, Value.oneCell']
theorem bs_nfa1 (w : World) (s : Int) (A : Option Addr) (n c : Nat) (B : Option Addr) (m d : Nat) : (Instr.buildSlice 28 1 #[(0, .agg (nfaC s A n c B m d))]).run Try.prog w = .ok (.slice (some ⟨w.heap.size, 0, none⟩) 1 1) (w.alloc (.cells (nfaC s A n c B m d) 34)) := by kernel_rfl
section
variable {ops : Array Oper} {rest : List Oper} {o : Oper} {a : Act} {w : World} {Q : Exit → Act → World → Prop}
theorem wl_bs_mv (hgd : o.guard = none) (x : Operand) (ho : o.op = .buildSlice 28 1 #[(0, x)]) (y : MV) (hx : a.eval x = .agg y.C)
    (h : wpList Try.prog ops Q rest (a.put o.dst (.slice (some ⟨w.heap.size, 0, none⟩) 1 1)) (w.alloc (.cells y.C 34))) : wpList Try.prog ops Q (o :: rest) a w :=
  wl_run hgd (v := .slice (some ⟨w.heap.size, 0, none⟩) 1 1) (by unfold execOp; simp only [ho, List.map_toArray, List.map_cons, List.map_nil, hx, Sem.run_bind, MV.C, bs_nfa1, Result.andThen_ok, Sem.run_pure]) h
theorem wl_reslice {P : Program} (hgd : o.guard = none) (t : TypeId) (x y : Operand) (ho : o.op = .slice t x none (some y) none)
    (hu : P.underlying t = some (.slice (P.elem t))) (sz : Nat) (hsz : ∀ w, (sizeOf (P.elem t)).run P w = .ok sz w) (ad : Addr) (n c k : Nat) (hx : a.eval x = .slice (some ad) n c) (hy : a.eval y = .int .i64 (k : Int)) (hk : k ≤ c)
    (h : wpList P ops Q rest (a.put o.dst (.slice (some ad) k c)) w) : wpList P ops Q (o :: rest) a w :=
  wl_run hgd (v := .slice (some ad) k c) (by
    unfold execOp
    have e := run_slice_h (P := P) w t (some ad) n c hu .i64 (k : Int) (by omega) (by omega)
    simp only [Int.toNat_natCast, hsz, Result.andThen_ok, sliced_to] at e
    simp only [ho, Option.map_none, Option.map_some, hx, hy, Sem.run_bind, run_sliceAt_slice (P := P) w t _ _ _ _ hu, e, Result.andThen_ok, Sem.run_pure]) h
end
theorem gs_load_mv_at {ops : Array Oper} {S : Nat → GSpec} {Q : Exit → Act → World → Prop} {i : Nat} {o : Oper} {a : Act} {w : World} (hw : Region.wanted o (yielded ops a.tmps) = true) (x : Operand) (ho : o.op = .load 34 x) (b off : Nat) (hx : a.eval x = .pointer (some ⟨b, off, none⟩)) (y : MV) (hr : RowAt w b off y.C)
    (hp : (S i).p (.agg y.C) w) : GStep Try.prog ops S Q i o a w :=
  gs_run hw (v := .agg y.C) (by unfold execOp; simp only [ho, hx, Instr.loadAt, Instr.sureAddr, Sem.run_bind, Sem.run_pure, Result.andThen_ok, run_loadVar_at w b off _ _ _ hr Try.underlying34 rfl (info_nfaN.trans rfl)]) (Below.refl _ _) hp
theorem gs_load_mv {ops : Array Oper} {S : Nat → GSpec} {Q : Exit → Act → World → Prop} {i : Nat} {o : Oper} {a : Act} {w : World} (hw : Region.wanted o (yielded ops a.tmps) = true) (x : Operand) (ho : o.op = .load 34 x) (g : Nat) (hx : a.eval x = .pointer (some ⟨g, 0, none⟩)) (y : MV) (hg : Blk w g 34 y.C)
    (hp : (S i).p (.agg y.C) w) : GStep Try.prog ops S Q i o a w :=
  gs_load hw _ x ho g hx _ _ hg _ Try.underlying34 rfl (info_nfaN.trans rfl) hp
theorem buildF_len (nd : Nd) (rule : Int) : (buildF nd rule).1.E.length ≤ 6144 ∧ (buildF nd rule).1.R.length ≤ 6144 := by
  unfold buildF
  by_cases h1 : nd.isT = false
  · rw [if_pos h1]; simp [NF.none]
  · rw [if_neg h1]
    by_cases h2 : 2048 ≤ nd.U
    · rw [if_pos h2]; simp [NF.none]
    · rw [if_neg h2]
      by_cases h3 : rule < 0 ∨ 32 ≤ rule
      · rw [if_pos h3]; simp [NF.none]
      · rw [if_neg h3]
        obtain ⟨g1, g2, g3⟩ := layF_good (nd := nd) (by simpa using h1)
        simp only [List.length_set, List.length_replicate]
        omega
theorem unionF_len (l : List NF) (hl : l.length ≤ 1048576) (h : ∀ x ∈ l, x.E.length ≤ 1048576 ∧ x.R.length ≤ 1048576) : (unionF l).1.E.length ≤ 2199023255552 ∧ (unionF l).1.R.length ≤ 2199023255552 := by
  unfold unionF
  by_cases hr : l.all rightF = true
  · rw [if_pos hr]
    have := uFold_bound l (fun x hx => ⟨List.all_eq_true.1 hr x hx, h x hx⟩)
    simp only
    omega
  · rw [if_neg hr]; simp [NF.none]
theorem CP.In.row {W W' : World} {base b2 size : Nat} {x : CP} {α : Type} {enc : α → Array Value} {v : Value} {ys : List α} (h : x.In W base) (ho : Own W b2 34 size enc v ys) (hg : W.grownBy W' v.ownBlock) : x.In W' base := ⟨own_own h.1 ho hg (by decide), own_own h.2 ho hg (by decide)⟩
theorem CP.In.slices {W : World} {base : Nat} {x : CP} (h : x.In W base) : SliceOf W W.heap.size 7 edgC (some ⟨x.ge, 0, none⟩) (x.F.E ++ [edge77]) ∧ SliceOf W W.heap.size 1 encR (some ⟨x.gu, 0, none⟩) (x.F.R ++ [77]) ∧ x.F.E.length + 1 ≤ x.ce ∧ x.F.R.length + 1 ≤ x.cu :=
  ⟨h.1.slice_all edgC_size, h.2.slice_all encR_size, h.1.cap.1, h.2.cap.1⟩
theorem enter_right (args : Array Value) (w : World) : (callFunc 16 args).run Try.prog w = .ok (.enter 16 args) w := by kernel_rfl
theorem enter_rright (args : Array Value) (w : World) : (callFunc 17 args).run Try.prog w = .ok (.enter 17 args) w := by kernel_rfl
theorem enter_kept (args : Array Value) (w : World) : (callFunc 18 args).run Try.prog w = .ok (.enter 18 args) w := by kernel_rfl
set_option maxRecDepth 100000 in
set_option maxHeartbeats 16000000 in
theorem nfaExact_any (nd : Nd) (rule : Int) (A : Option Addr) (n c : Nat) (l : List MV) (hn : n = l.length) (hn2 : n ≤ 1048576) (w : World) (cs : Array Value) (hin : NdIn w w.heap.size nd cs) (hs : SliceOf w w.heap.size 3 MV.C A l) (hM : MsIn w w.heap.size l) :
    Calls Try.prog 3 #[.agg cs, .int .i64 rule, .slice A n c] w fun e w' => e = .returned (.bool true) ∧ Below w.heap.size w w' := by
  have hnodes := fun W h => nodes_any nd w.heap.size W cs (hin.keep (w' := W) h)
  have hbuild := fun W h => build_any nd rule w.heap.size W cs (hin.keep (w' := W) h)
  have hrbuild := fun W h => rbuild_any nd rule w.heap.size W cs (hin.keep (w' := W) h)
  have hblen := buildF_len nd rule
  have hulen := unionF_len (l.map MV.F) (by rw [List.length_map, ← hn]; exact hn2) (fun x hx => by
    obtain ⟨y, hy, rfl⟩ := List.mem_map.1 hx
    exact (hM y hy).2.2)
  obtain ⟨⟨F, er⟩, hbf⟩ : ∃ b, buildF nd rule = b := ⟨_, rfl⟩
  rw [hbf] at hbuild hrbuild hblen
  obtain ⟨⟨G, eu⟩, huf⟩ : ∃ b, unionF (l.map MV.F) = b := ⟨_, rfl⟩
  rw [huf] at hulen
  simp only at hblen hulen
  obtain ⟨kd, st, l0, mi, ma⟩ := nd
  obtain ⟨A0, n0, c0, cl, rfl, -⟩ := hin.inv
  have Hn := Lib.hid hn
  have HM := Lib.hid hM
  have Hnodes := Lib.hid hnodes
  have Hbuild := Lib.hid hbuild
  have Hrbuild := Lib.hid hrbuild
  have Huf := Lib.hid huf
  clear hn hM hnodes hbuild hrbuild huf hin hbf
  go_enter Try.func3, Try.ntmps3
  have h1 := Blk.new w 27 (nodeC kd st A0 n0 c0 mi ma)
  have hB1 : Below w.heap.size w (w.alloc (.cells (nodeC kd st A0 n0 c0 mi ma) 27)) := below_alloc (Below.refl _ _) _
  go_upto_region 1 with (fail)
  obtain ⟨w1, hw1⟩ : ∃ y, y = w.alloc (.cells (nodeC kd st A0 n0 c0 mi ma) 27) := ⟨_, rfl⟩
  rw [← hw1] at h1 hB1 ⊢
  clear hw1
  go_upto_region 3 with (first | (go_at_call 8; refine (known_any _).mono ?_; rintro e w2 ⟨rfl, hB2⟩) | (go_at_call 8; refine park ?_))
  replace h1 := blk_then h1 hB2
  replace hB1 := below_then hB1 hB2
  have hq := Hnodes.out w2 (fun j hj => hB1.block j hj) hB1.size
  have Hq := Lib.hid hq
  clear hq hB2 Hnodes
  go_cut [22] from 20 to 22 (fun v wx => (∃ m : Bool, v = .bool m) ∧ Below w2.heap.size w2 wx)
  case first =>
    go_wp2_with (first | (refine wl_load_node rfl _ rfl _ rfl _ _ _ _ _ _ _ h1 ?_) | (go_at_call 9; refine Hq.out.mono ?_; rintro e w3 ⟨hB3, m, rfl⟩) | (go_at_call 9; refine park ?_))
    all_goals
      go_meet
      exact ⟨⟨_, rfl⟩, hB3⟩
  case rest =>
    obtain ⟨⟨mb, rfl⟩, hBc⟩ := hcut
    replace h1 := blk_then h1 hBc
    replace hB1 := below_then hB1 hBc
    clear hBc Hq
    cases mb
    case true =>
      go_wp2_with (fail)
      go_ret
      exact ⟨rfl, hB1⟩
    have hb := Hbuild.out wc (fun j hj => hB1.block j hj) hB1.size
    have Hb := Lib.hid hb
    clear hb Hbuild
    go_upto_region 6 with (first | (refine wl_load_node rfl _ rfl _ rfl _ _ _ _ _ _ _ h1 ?_) | (go_at_call 10; refine Hb.out.mono ?_; rintro e w4 ⟨hB4, v, rfl, A1, c1, B1, d1, rfl, hsE1, hsR1⟩) | (refine wl_store_nfa rfl _ _ rfl _ F.s A1 F.E.length c1 B1 F.R.length d1 rfl rfl 0 none 0 0 none 0 0 (Blk.new _ _ _) ?_; intro w5 h7 hg5) | (go_at_call 10; refine park ?_))
    have hB5 := below_grown (below_alloc (Below.refl _ w4) (.cells #[.int .i64 0, .slice none 0 0, .slice none 0 0] 34)) hg5 (Nat.le_refl _)
    have hB45 := below_then hB4 hB5
    replace h1 := blk_then h1 hB45
    replace hB1 := below_then hB1 hB45
    have hsE2 := (hsE1.below hB5).more hB5.size
    have hsR2 := (hsR1.below hB5).more hB5.size
    obtain ⟨g7, hg7⟩ : ∃ g, g = w4.heap.size := ⟨_, rfl⟩
    rw [← hg7] at h7
    rw [← hg7]
    have hb := Hrbuild.out w5 (fun j hj => hB1.block j hj) hB1.size
    have Hb2 := Lib.hid hb
    clear hb Hrbuild hg7 hg5 hB4 hB5 hB45 hsE1 hsR1 Hb
    go_upto_region 7 with (first | (refine wl_load_node rfl _ rfl _ rfl _ _ _ _ _ _ _ h1 ?_) | (go_at_call 11; refine Hb2.out.mono ?_; rintro e w6 ⟨hB6, v, rfl, A3, c3, B3, d3, rfl, hsE3, hsR3⟩) | (refine wl_store_nfa rfl _ _ rfl _ F.s A3 F.E.length c3 B3 F.R.length d3 rfl rfl 0 none 0 0 none 0 0 (Blk.new _ _ _) ?_; intro w8 h9 hg8) | (go_at_call 11; refine park ?_))
    have hB8 := below_grown (below_alloc (Below.refl _ w6) (.cells #[.int .i64 0, .slice none 0 0, .slice none 0 0] 34)) hg8 (Nat.le_refl _)
    have hB68 := below_then hB6 hB8
    replace h1 := blk_then h1 hB68
    replace h7 := blk_then h7 hB68
    replace hB1 := below_then hB1 hB68
    have hsE4 := (hsE3.below hB8).more hB8.size
    have hsR4 := (hsR3.below hB8).more hB8.size
    replace hsE2 := (hsE2.below hB68).more hB68.size
    replace hsR2 := (hsR2.below hB68).more hB68.size
    obtain ⟨g9, hg9⟩ : ∃ g, g = w6.heap.size := ⟨_, rfl⟩
    rw [← hg9] at h9
    try rw [← hg9]
    have hsm := same_any F.s A1 A3 F.E.length c1 c3 B1 B3 F.R.length d1 d3 F.E F.R rfl rfl (by omega) (by omega) w8 hsE2 hsE4 hsR2 hsR4
    have Hsm := Lib.hid hsm
    clear hsm hg9 hg8 hB6 hB8 hB68 hsE3 hsR3 hsE4 hsR4 hsE2 hsR2 Hb2
    go_upto_region 9 with (first | (refine wl_load_nfa_g (want_yes rfl rfl rfl) _ rfl _ rfl _ _ _ _ _ _ _ h7 ?_) | (refine wl_load_nfa_g (want_yes rfl rfl rfl) _ rfl _ rfl _ _ _ _ _ _ _ h9 ?_) | (go_at_call 12; refine Hsm.out.mono ?_; rintro e w9 ⟨rfl, hB9⟩) | (go_at_call 12; refine park ?_))
    replace hB1 := below_then hB1 hB9
    clear h7 h9 h1 hB9 Hsm
    go_wp2_with (fail)
    go_loopw [11, 46] (fun v i wr => ∃ (k : Nat) (xs : List CP), k ≤ n ∧ i = .int .i64 k ∧ Hid (xs.map CP.F = (l.take k).map MV.F) ∧ xs.length = k ∧ Own wr w.heap.size 34 3 MV.C v (xs.map CP.mv) ∧ (∀ x ∈ xs, x.In wr w.heap.size) ∧ Below w.heap.size w wr) (fun _ i _ => n - (intOf i).toNat)
    case atStart => exact ⟨0, [], by omega, rfl, Lib.hid rfl, rfl, Own.nil_ _ _ _ _ _, fun x hx => by simp at hx, hB1⟩
    case round =>
      clear hB1
      obtain ⟨k, xs, hk, rfl, hxs, hxl, hv, hxi, hBw⟩ := hrel
      have hszw := hBw.size
      have hML : (xs.map CP.mv).length = k := by rw [List.length_map, hxl]
      by_cases hkn : k < n
      · have hkI : (k : Int) < n := by omega
        have hkl : k < l.length := by rw [← Hn.out]; exact hkn
        obtain ⟨ba, off, rfl, hba, hrows⟩ := hs.at_ (by omega)
        have hrow := (hrows k hkl).keep (hBw.block ba (by omega))
        have hmem : l[k] ∈ l := List.getElem_mem hkl
        obtain ⟨x, hx⟩ : ∃ x, x = l[k] := ⟨_, rfl⟩
        have htk : (l.take (k + 1)).map MV.F = (l.take k).map MV.F ++ [x.F] := by
          rw [List.take_succ_eq_append_getElem hkl, List.map_append, ← hx]; rfl
        rw [← hx] at hrow hmem
        obtain ⟨hx1, hx2, hx3, hx4⟩ := HM.out x hmem
        have Htk := Lib.hid htk
        have Hxl := Lib.hid hxl
        have Hxi := Lib.hid hxi
        have hkb : k < 1099511628000 := by omega
        obtain ⟨A7, k7, rfl, _, _⟩ := hv.shape
        rw [hML] at hv
        try rw [hML]
        have HML := Lib.hid hML
        clear htk hx hrows hxl hxi hML hmem
        go_upto_region 13 with (first | (refine wl_load_nfa_row rfl _ rfl _ _ rfl x hrow ?_) | (refine wl_store_mv rfl _ _ rfl _ x rfl rfl _ rfl (Blk.new _ _ _) ?_; intro w3 h5 hg3))
        have hB3 := below_grown (below_alloc (Below.refl _ wr) (.cells #[.int .i64 0, .slice none 0 0, .slice none 0 0] 34)) hg3 (Nat.le_refl _)
        have hB3w := below_then hBw hB3
        have hcp := copied_any x.F x.A x.F.E.length x.c x.B x.F.R.length x.d rfl rfl hx3 hx4 w3 ((hx1.below hB3w).more hB3w.size) ((hx2.below hB3w).more hB3w.size)
        have hv3 := hv.then_ hB3
        have Hcp := Lib.hid hcp
        clear hcp hg3 hrow hv
        obtain ⟨i3, hi3, hz0, hz1, hz2⟩ := info_parts info_nfa3
        go_wp2_with (first | (refine wl_load_mv rfl _ rfl _ rfl x h5 ?_) | (go_at_call 13; refine Hcp.out.mono ?_; rintro e w4 ⟨hB4, y, hyF, rfl, hyI⟩; have HyF := Lib.hid hyF; clear hyF) | (refine wl_bs_mv rfl _ rfl y.mv rfl ?_) | (at_builtin; refine park ?_) | (go_at_call 13; refine park ?_))
        refine Parked.mk ?_
        have hBq : Below w4.heap.size w4 (w4.alloc (.cells y.mv.C 34)) := below_alloc (Below.refl _ _) _
        have hBw4 := below_then hB3w hB4
        have hvq := (hv3.then_ hB4).then_ hBq
        have hone := slice_one (enc := MV.C) (size := 3) (y := y.mv) (w := w4.alloc (.cells y.mv.C 34)) (g := w4.heap.size) (t := 34) (Blk.new _ _ _)
        refine wl_append _ rfl _ _ 28 rfl w.heap.size 34 i3 _ 3 56 Try.underlying28 hi3 hz0 hz1 hz2 rfl (by decide) MV.C_size MV.C_one (.slice A7 _ k7) _ rfl hvq _ _ 1 1 [y.mv] rfl rfl hone (by rw [HML.out]; unfold maxLen; omega) (by rw [HML.out]; omega) (by have := hBw4.size; have := hBq.size; omega) ?_
        intro v8 w8 hv8 hg8 _
        have hxi8 : ∀ z ∈ xs ++ [y], z.In w8 w.heap.size := fun z hz => by
          rcases List.mem_append.1 hz with hz | hz
          · exact ((((Hxi.out z hz).then_ hB3).then_ hB4).then_ hBq).row hvq hg8
          · have : z = y := by simpa using hz
            subst this
            exact (CP.In.then_ ⟨hyI.1.mono hB3w.size, hyI.2.mono hB3w.size⟩ hBq).row hvq hg8
        have hBw8 := (below_then hBw4 hBq).grown hg8 (by have := hBw4.size; have := hBq.size; omega) (fun j e => (hvq.lt j e).1)
        simp only [Act.put, List.setIfInBounds_toArray, List.set_cons_zero, List.set_cons_succ]
        clear hone hi3 hz0 hz1 hz2 hvq hg8 hBq hBw4 hv3 h5 hyI
        go_wp2_with (fail)
        exact ⟨⟨k + 1, xs ++ [y], by omega, rfl, Lib.hid (by rw [Htk.out, List.map_append, hxs.out]; simp [HyF.out]), by rw [List.length_append, Hxl.out]; rfl, by rw [List.map_append]; exact hv8, hxi8, hBw8⟩, by simp only [intOf]; omega⟩
      · have hkI : ¬ (k : Int) < n := by omega
        have hke : l.take k = l := List.take_of_length_le (by have := Hn.out; omega)
        have hxs2 : xs.map CP.F = l.map MV.F := by rw [hxs.out, hke]
        have hkn2 : k = n := by omega
        rw [hkn2] at hML
        have HXS := Lib.hid hxs2
        have HML := Lib.hid hML
        have HXI := Lib.hid hxi
        obtain ⟨A7, k7, rfl, _, _⟩ := hv.shape
        rw [hML] at hv
        try rw [hML]
        clear hke hxs2 hkn2 hML hxi hxs hxl
        obtain ⟨i3, hi3, hz0, hz1, hz2⟩ := info_parts info_nfa3
        go_upto_region 16 with (first | (refine wl_build_nfa1 rfl 99 rfl ?_) | (refine wl_bs_mv rfl _ rfl m99 rfl ?_) | (at_builtin; refine park ?_))
        refine Parked.mk ?_
        have hBq : Below wr.heap.size wr (wr.alloc (.cells m99.C 34)) := below_alloc (Below.refl _ _) _
        have hvq := hv.then_ hBq
        have hone := slice_one (enc := MV.C) (size := 3) (y := m99) (w := wr.alloc (.cells m99.C 34)) (g := wr.heap.size) (t := 34) (Blk.new _ _ _)
        refine wl_append _ rfl _ _ 28 rfl w.heap.size 34 i3 _ 3 56 Try.underlying28 hi3 hz0 hz1 hz2 rfl (by decide) MV.C_size MV.C_one (.slice A7 _ k7) _ rfl hvq _ _ 1 1 [m99] rfl rfl hone (by rw [HML.out]; unfold maxLen; omega) (by rw [HML.out]; omega) (by have := hBq.size; omega) ?_
        intro v8 w8 hv8 hg8 _
        have hxi8 : ∀ z ∈ xs, z.In w8 w.heap.size := fun z hz => ((HXI.out z hz).then_ hBq).row hvq hg8
        have hBw8 := (below_then hBw hBq).grown hg8 (by have := hBq.size; omega) (fun j e => (hvq.lt j e).1)
        obtain ⟨gi, ci, rfl, hgi, hgil, hci, _⟩ := hv8.form (by simp)
        have hl1 : (xs.map CP.mv ++ [m99]).length = n + 1 := by rw [List.length_append, HML.out]; rfl
        rw [hl1] at hv8 hci ⊢
        simp only [Act.put, List.setIfInBounds_toArray, List.set_cons_zero, List.set_cons_succ]
        have hall := hv8.slice_all MV.C_size
        have HXI8 := Lib.hid hxi8
        clear hone hi3 hz0 hz1 hz2 hvq hg8 hBq hv HXI hxi8 hl1
        go_upto_region 16 with (fail)
        have hsX := hall.take n
        rw [List.take_left' HML.out] at hsX
        have hlen : ∀ x ∈ xs, x.F.E.length ≤ 1048576 ∧ x.F.R.length ≤ 1048576 := fun x hx => by
          have h1 : x.F ∈ l.map MV.F := by rw [← HXS.out]; exact List.mem_map_of_mem hx
          obtain ⟨y, hy, he⟩ := List.mem_map.1 h1
          rw [← he]
          exact (HM.out y hy).2.2
        have hMX : MsIn w8 w8.heap.size (xs.map CP.mv) := fun z hz => by
          obtain ⟨x, hx, rfl⟩ := List.mem_map.1 hz
          obtain ⟨t1, t2, _, _⟩ := (HXI8.out x hx).slices
          have t1 := t1.take x.F.E.length
          have t2 := t2.take x.F.R.length
          rw [List.take_left' rfl] at t1 t2
          exact ⟨t1, t2, hlen x hx⟩
        have hmm : (xs.map CP.mv).map MV.F = l.map MV.F := by rw [List.map_map]; exact HXS.out
        have hu := union_any (some ⟨gi, 0, none⟩) n ci (xs.map CP.mv) HML.out.symm hn2 w8 hsX hMX
        rw [hmm, Huf.out] at hu
        have hru := fun W (hb : Below w.heap.size w W) => runion_any A n c l Hn.out hn2 W ((hs.below hb).more hb.size) ((HM.out.low hb).more hb.size)
        rw [Huf.out] at hru
        have c99 : w8.cell? ⟨gi, n * 3, none⟩ = some (.int .i64 99) := by
          have h := hv8.row MV.C_size n (by rw [List.length_append, HML.out]; simp)
          have h2 : (xs.map CP.mv ++ [m99])[n]'(by rw [List.length_append, HML.out]; simp) = m99 := by
            rw [List.getElem_append_right (by rw [HML.out]; exact Nat.le_refl _)]
            simp
          rw [h2] at h
          exact h 0 _ rfl
        have C99 := Lib.hid c99
        have Hu := Lib.hid hu
        have Hru := Lib.hid hru
        have Hlen := Lib.hid hlen
        have Hall := Lib.hid hall
        have hcin : n ≤ ci := by omega
        clear hu hru hsX hMX hmm hlen c99 hall hv8
        go_upto_region 17 with (first | (refine wl_reslice rfl _ _ _ rfl under_nfas 3 size_nfaE ⟨gi, 0, none⟩ (n + 1) ci n rfl rfl hcin ?_) | (go_at_call 14; refine Hu.out.mono ?_; rintro e w10 ⟨hB10, v, rfl, A5, c5, B5, d5, rfl, hsE5, hsR5⟩) | (refine wl_store_nfa rfl _ _ rfl _ G.s A5 G.E.length c5 B5 G.R.length d5 rfl rfl 0 none 0 0 none 0 0 (Blk.new _ _ _) ?_; intro w11 h14 hg11) | (go_at_call 14; refine park ?_))
        have hB11 := below_grown (below_alloc (Below.refl _ w10) (.cells #[.int .i64 0, .slice none 0 0, .slice none 0 0] 34)) hg11 (Nat.le_refl _)
        have hB8w := below_then hB10 hB11
        have hBw11 := below_then hBw8 hB8w
        have hsE6 := (hsE5.below hB11).more hB11.size
        have hsR6 := (hsR5.below hB11).more hB11.size
        obtain ⟨g14, hg14⟩ : ∃ g, g = w10.heap.size := ⟨_, rfl⟩
        rw [← hg14] at h14
        try rw [← hg14]
        have hru := Hru.out w11 hBw11
        have Hru2 := Lib.hid hru
        clear hru hg14 hg11 hB10 hB11 hsE5 hsR5 Hu Hru
        go_upto_region 18 with (first | (go_at_call 15; refine Hru2.out.mono ?_; rintro e w12 ⟨hB12, v, rfl, A7, c7, B7, d7, rfl, hsE7, hsR7⟩) | (refine wl_store_nfa rfl _ _ rfl _ G.s A7 G.E.length c7 B7 G.R.length d7 rfl rfl 0 none 0 0 none 0 0 (Blk.new _ _ _) ?_; intro w13 h15 hg13) | (go_at_call 15; refine park ?_))
        have hB13 := below_grown (below_alloc (Below.refl _ w12) (.cells #[.int .i64 0, .slice none 0 0, .slice none 0 0] 34)) hg13 (Nat.le_refl _)
        have hB1213 := below_then hB12 hB13
        replace h14 := blk_then h14 hB1213
        replace hB8w := below_then hB8w hB1213
        have hBw13 := below_then hBw8 hB8w
        replace hsE6 := (hsE6.below hB1213).more hB1213.size
        replace hsR6 := (hsR6.below hB1213).more hB1213.size
        have hsE8 := (hsE7.below hB13).more hB13.size
        have hsR8 := (hsR7.below hB13).more hB13.size
        obtain ⟨g15, hg15⟩ : ∃ g, g = w12.heap.size := ⟨_, rfl⟩
        rw [← hg15] at h15
        try rw [← hg15]
        have hsm := same_any G.s A5 A7 G.E.length c5 c7 B5 B7 G.R.length d5 d7 G.E G.R rfl rfl hulen.1 hulen.2 w13 hsE6 hsE8 hsR6 hsR8
        have Hsm := Lib.hid hsm
        clear hsm hg15 hg13 hB12 hB13 hB1213 hsE7 hsR7 hsE6 hsR6 hsE8 hsR8 Hru2 hBw11
        have hc99 : ∀ W : World, Below w13.heap.size w13 W → W.cell? ⟨gi, n * 3, none⟩ = some (.int .i64 99) := fun W hb => (World.cell?_of_block ((below_then hB8w hb).block gi hgil)).trans C99.out
        have HC99 := Lib.hid hc99
        clear hc99
        go_upto_region 20 with (first | (refine wl_load_nfa_g (want_yes rfl rfl rfl) _ rfl _ rfl _ _ _ _ _ _ _ h14 ?_) | (refine wl_load_nfa_g (want_yes rfl rfl rfl) _ rfl _ rfl _ _ _ _ _ _ _ h15 ?_) | (go_at_call 12; refine Hsm.out.mono ?_; rintro e w14 ⟨rfl, hB14⟩; have k99 := HC99.out _ hB14) | (go_at_call 12; refine park ?_))
        have hB8x := below_then hB8w hB14
        have hBw14 := below_then hBw8 hB8x
        clear h14 h15 hB14 Hsm HC99 k99 hB8w hBw13 C99
        go_wp2_with (fail)
        go_loopw [93] (fun i wr => ∃ k : Nat, k ≤ n ∧ i = .int .i64 k ∧ Below w8.heap.size w8 wr) (fun i _ => n - (intOf i).toNat)
        case atStart => exact ⟨0, by omega, rfl, hB8x⟩
        case round =>
          clear hB8x hBw14 hkn hkI hk hBw
          obtain ⟨k, hk, rfl, hBr⟩ := hrel
          have hBw := below_then hBw8 hBr
          have hszw := hBw.size
          by_cases hkn : k < n
          · have hkI : (k : Int) < n := by omega
            have hkl : k < l.length := by rw [← Hn.out]; exact hkn
            have hkx : k < xs.length := by have := HML.out; rw [List.length_map] at this; omega
            obtain ⟨ba, off, rfl, hba, hrows⟩ := hs.at_ (by omega)
            have hrow := (hrows k hkl).keep (hBw.block ba (by omega))
            have hmem : l[k] ∈ l := List.getElem_mem hkl
            have hmemy : xs[k] ∈ xs := List.getElem_mem hkx
            have hFe : xs[k].F = l[k].F := by
              have h := HXS.out
              have h2 : (xs.map CP.F)[k]'(by rw [List.length_map]; exact hkx) = (l.map MV.F)[k]'(by rw [List.length_map]; exact hkl) := by simp only [h]
              simpa using h2
            have hrI : ∀ W : World, Below w8.heap.size w8 W → RowAt W gi (0 + k * 3) xs[k].mv.C := fun W hb => by
              obtain ⟨b, o, e1, hb2, hr⟩ := Hall.out.at_ (by simp)
              injection e1 with e1
              injection e1 with e1 e2
              subst e1 e2
              have h := (hr k (by rw [List.length_append, List.length_map]; omega)).keep (hb.block _ hb2)
              have h2 : (xs.map CP.mv ++ [m99])[k]'(by rw [List.length_append, List.length_map]; omega) = xs[k].mv := by
                rw [List.getElem_append_left (by rw [List.length_map]; exact hkx), List.getElem_map]
              rw [h2] at h
              exact h
            obtain ⟨x, hx⟩ : ∃ x, x = l[k] := ⟨_, rfl⟩
            obtain ⟨y, hy⟩ : ∃ y, y = xs[k] := ⟨_, rfl⟩
            rw [← hx] at hrow hmem hFe
            rw [← hy] at hmemy hFe hrI
            obtain ⟨hx1, hx2, hx3, hx4⟩ := HM.out x hmem
            have hyI := HXI8.out y hmemy
            have hkb : k < 1099511628000 := by omega
            clear hx hy hrows hmem hmemy
            go_upto_region 23 with (first | (refine wl_load_nfa_row rfl _ rfl _ _ rfl x hrow ?_) | (refine wl_store_mv rfl _ _ rfl _ x rfl rfl _ rfl (Blk.new _ _ _) ?_; intro w3 h5 hg3))
            have hB3 := below_grown (below_alloc (Below.refl _ wr) (.cells #[.int .i64 0, .slice none 0 0, .slice none 0 0] 34)) hg3 (Nat.le_refl _)
            have hB8r := below_then hBr hB3
            have hBw3 := below_then hBw8 hB8r
            obtain ⟨g17, hg17⟩ : ∃ g, g = wr.heap.size := ⟨_, rfl⟩
            rw [← hg17] at h5
            try rw [← hg17]
            have hrowI : ∀ W : World, Below w3.heap.size w3 W → RowAt W gi (0 + k * 3) y.mv.C := fun W hb => hrI W (below_then hB8r hb)
            obtain ⟨rb, hrb⟩ : ∃ b, rightF x.F = b := ⟨_, rfl⟩
            have hR1 : ∀ W : World, Below w3.heap.size w3 W → Calls Try.prog 16 #[.agg y.mv.C] W fun e w' => e = .returned (.bool rb) ∧ Below W.heap.size W w' := fun W hb => by
              have hI := hyI.then_ (below_then hB8r hb)
              have t1 := hI.slices.1.take y.F.E.length
              rw [List.take_left' rfl] at t1
              have h := right_any y.F.s _ y.F.E.length y.ce (some ⟨y.gu, 0, none⟩) y.F.R.length y.cu y.F.E rfl (by rw [hFe]; omega) W t1
              have h2 : rightB y.F.s y.F.E y.F.R.length = rb := by rw [hFe]; exact hrb
              rw [h2] at h
              exact h
            have hR2 : ∀ W : World, Below w3.heap.size w3 W → Calls Try.prog 17 #[.agg x.C] W fun e w' => e = .returned (.bool rb) ∧ Below W.heap.size W w' := fun W hb => by
              have hb2 := below_then hBw3 hb
              have h := rright_any x.F.s _ x.F.E.length x.c x.B x.F.R.length x.d x.F.E rfl (by omega) W ((hx1.below hb2).more hb2.size)
              have h2 : rightB x.F.s x.F.E x.F.R.length = rb := hrb
              rw [h2] at h
              exact h
            have hK : ∀ W : World, Below w3.heap.size w3 W → Calls Try.prog 18 #[.agg y.mv.C, .agg x.C] W fun e w' => e = .returned (.bool true) ∧ Below W.heap.size W w' := fun W hb => by
              have hb2 := below_then hBw3 hb
              have hI := (hyI.then_ (below_then hB8r hb)).slices
              obtain ⟨yF, ge, ce, gu, cu⟩ := y
              obtain ⟨xF, xA, xc, xB, xd⟩ := x
              simp only at hFe hI hx1 hx2 hx3 hx4
              subst hFe
              exact kept_any yF.s xA yF.E.length xc xB yF.R.length xd ge ce gu cu yF.E yF.R rfl rfl hx3 hx4 hI.2.2.1 hI.2.2.2 W ((hx1.below hb2).more hb2.size) ((hx2.below hb2).more hb2.size) hI.1 hI.2.1
            obtain ⟨Y, hY⟩ : ∃ Y, Y = y.mv := ⟨_, rfl⟩
            obtain ⟨X, hX⟩ : ∃ X, X = x := ⟨_, rfl⟩
            rw [← hY] at hrowI hR1 hK
            rw [← hX] at h5 hR2 hK
            clear hY hX hrb hyI hg17 hg3 hrow hrI hFe hx1 hx2 hx3 hx4
            refine wp_region_steps 17 [eqS (.slice (some ⟨gi, 0, none⟩) (n + 1) ci), eqS (.int .i64 ((k : Int))), eqS (.pointer (some ⟨gi, 0 + k * 3, none⟩)), eqS (.agg Y.C), eqS (.bool rb), eqS (.agg X.C), eqS (.bool rb), eqS (.bool false), eqS (.bool false), eqS (vF (true && (false == false)) (.slice (some ⟨gi, 0, none⟩) (n + 1) ci)), eqS (vF (true && (false == false)) (.int .i64 ((k : Int)))), eqS (vF (true && (false == false)) (.pointer (some ⟨gi, 0 + k * 3, none⟩))), eqS (vF (true && (false == false)) (.agg Y.C)), eqS (vF (true && (false == false)) (.agg X.C)), eqS (vF (true && (false == false)) (.bool true)), eqS (vF (true && (false == false)) (.bool (!true))), eqS (.bool (false || (!true)))] [98, 99, 100, 101, 102, 103, 104, 105, 106, 107, 108, 109, 110, 111, 112, 113, 114] rfl (by kernel_rfl) rfl ?_ ?_
            · skip
              refine Steps.cons (fun a' w' hG hB dep => gs_move (want_none rfl) _ rfl (id (hG.other 11 rfl))) ?_
              refine Steps.cons (fun a' w' hG hB dep => gs_move (want_none rfl) _ rfl (id (hG.other 16 rfl))) ?_
              refine Steps.cons (fun a' w' hG hB dep => gs_index (want_none rfl) _ _ _ rfl under_nfas 3 size_nfaE gi 0 (n + 1) ci (k) (dep 0 rfl 98 rfl) (dep 1 rfl 99 rfl) (Nat.lt_succ_of_lt hkn) rfl) ?_
              refine Steps.cons (fun a' w' hG hB dep => gs_load_mv_at (want_none rfl) _ rfl gi (0 + k * 3) (dep 2 rfl 100 rfl) _ (hrowI w' hB) rfl) ?_
              refine Steps.cons (fun a' w' hG hB dep => gs_call (want_none rfl) _ _ _ rfl enter_right _ (map1 (dep 3 rfl 101 rfl)) ((hR1 w' hB).mono fun e w2 ⟨he, hb⟩ => ⟨_, he, hb, rfl⟩)) ?_
              refine Steps.cons (fun a' w' hG hB dep => gs_load_mv (want_none rfl) _ rfl g17 (hG.other 17 rfl) _ (blk_then h5 hB) rfl) ?_
              refine Steps.cons (fun a' w' hG hB dep => gs_call (want_none rfl) _ _ _ rfl enter_rright _ (map1 (dep 5 rfl 103 rfl)) ((hR2 w' hB).mono fun e w2 ⟨he, hb⟩ => ⟨_, he, hb, rfl⟩)) ?_
              refine Steps.cons (fun a' w' hG hB dep => gs_neq_bool (want_none rfl) _ _ _ rfl _ _ (dep 4 rfl 102 rfl) (dep 6 rfl 104 rfl) (id (congrArg Value.bool (bne_self_eq_false _)))) ?_
              refine Steps.cons (fun a' w' hG hB dep => gs_move (want_none rfl) _ rfl (id (dep 7 rfl 105 rfl))) ?_
              refine Steps.cons (fun a' w' hG hB dep => gs_guard (c := true) (b' := false) rfl rfl (dep 8 rfl 106 rfl) (fun hc he hw => gs_move hw _ rfl (Eq.trans (hG.other 11 rfl) (vF_yes (on_g hc he) _).symm)) (fun hn => vF_no hn _)) ?_
              refine Steps.cons (fun a' w' hG hB dep => gs_guard (c := true) (b' := false) rfl rfl (dep 8 rfl 106 rfl) (fun hc he hw => gs_move hw _ rfl (Eq.trans (hG.other 16 rfl) (vF_yes (on_g hc he) _).symm)) (fun hn => vF_no hn _)) ?_
              refine Steps.cons (fun a' w' hG hB dep => gs_guard (c := true) (b' := false) rfl rfl (dep 8 rfl 106 rfl) (fun hc he hw => gs_index hw _ _ _ rfl under_nfas 3 size_nfaE gi 0 (n + 1) ci (k) (Eq.trans (dep 9 rfl 107 rfl) (vF_yes (on_g hc he) _)) (Eq.trans (dep 10 rfl 108 rfl) (vF_yes (on_g hc he) _)) (Nat.lt_succ_of_lt hkn) (vF_yes (on_g hc he) _).symm) (fun hn => vF_no hn _)) ?_
              refine Steps.cons (fun a' w' hG hB dep => gs_guard (c := true) (b' := false) rfl rfl (dep 8 rfl 106 rfl) (fun hc he hw => gs_load_mv_at hw _ rfl gi (0 + k * 3) (Eq.trans (dep 11 rfl 109 rfl) (vF_yes (on_g hc he) _)) _ (hrowI w' hB) (vF_yes (on_g hc he) _).symm) (fun hn => vF_no hn _)) ?_
              refine Steps.cons (fun a' w' hG hB dep => gs_guard (c := true) (b' := false) rfl rfl (dep 8 rfl 106 rfl) (fun hc he hw => gs_load_mv hw _ rfl g17 (hG.other 17 rfl) _ (blk_then h5 hB) (vF_yes (on_g hc he) _).symm) (fun hn => vF_no hn _)) ?_
              refine Steps.cons (fun a' w' hG hB dep => gs_guard (c := true) (b' := false) rfl rfl (dep 8 rfl 106 rfl) (fun hc he hw => gs_call hw _ _ _ rfl enter_kept _ (map2 (Eq.trans (dep 12 rfl 110 rfl) (vF_yes (on_g hc he) _)) (Eq.trans (dep 13 rfl 111 rfl) (vF_yes (on_g hc he) _))) ((hK w' hB).mono fun e w2 ⟨hq, hb⟩ => ⟨_, hq, hb, (vF_yes (on_g hc he) _).symm⟩)) (fun hn => vF_no hn _)) ?_
              refine Steps.cons (fun a' w' hG hB dep => gs_guard (c := true) (b' := false) rfl rfl (dep 8 rfl 106 rfl) (fun hc he hw => gs_not_bool hw _ _ rfl _ (Eq.trans (dep 14 rfl 112 rfl) (vF_yes (on_g hc he) _)) (vF_yes (on_g hc he) _).symm) (fun hn => vF_no hn _)) ?_
              refine Steps.cons (fun a' w' hG hB dep => gs_pick (want_none rfl) _ _ _ rfl false (dep 8 rfl 106 rfl) (id (pick_or2 (c := true) rfl (dep 15 rfl 113 rfl)))) ?_
              exact Steps.nil
            intro u w5 hB5 ans
            have hus : u 114 = .bool false := ans 16 114 (by decide) rfl
            clear ans
            simp only [putAll, List.foldl_cons, List.foldl_nil, Act.put, List.setIfInBounds_toArray, List.set_cons_zero, List.set_cons_succ, hus]
            clear hus hR1 hR2 hK hrowI h5
            simp only [List.drop]
            refine wpList_nil ?_
            have hBe := below_then hB8r hB5
            clear hB5 hB8r hBw3 hB3
            go_wp2_with (fail)
            exact ⟨⟨k + 1, by omega, rfl, hBe⟩, by simp only [intOf]; omega⟩
          · have hkI : ¬ (k : Int) < n := by omega
            go_wp2_with (fail)
            go_ret
            exact ⟨rfl, hBw⟩
end Go.Proofs.Ytgahdookojbbiaa
