/- heronref07.Build. No condition beyond those named in each lemma. -/
import Derived.Test.YtgahdookojbbiaaMakeB
namespace Go.Proofs.Ytgahdookojbbiaa
open Go.RowKit Go.Maps
set_option linter.unusedVariables false
set_option linter.unusedSimpArgs false
attribute [local go_sem] Oper.semAt_some

theorem enter_rlay (args : Array Value) (w : World) : (callFunc 42 args).run Try.prog w = .ok (.enter 42 args) w := by kernel_rfl
set_option maxRecDepth 100000 in
set_option maxHeartbeats 8000000 in
theorem rbuild_any (nd : Nd) (rule : Int) (B : Nat) (w : World) (cs : Array Value) (hin : NdIn w B nd cs) (hB : B ≤ w.heap.size) :
    Calls Try.prog 11 #[.agg cs, .int .i64 rule] w fun e w' => Below w.heap.size w w' ∧ ∃ v, e = .returned (.tuple #[v, .int .i64 (buildF nd rule).2]) ∧ NfaAt w' v (buildF nd rule).1 := by
  have hpl := fun W h1 h2 => placesR_any nd B W _ (NdIn.keep (w' := W) h1 hin) h2
  have his := fun W h1 h2 => ris_any nd B W _ (NdIn.keep (w' := W) h1 hin) h2
  have hlay := rlay_ok nd
  have hgood := fun h => layF_good (nd := nd) h
  obtain ⟨V, hV⟩ : ∃ V, placesN nd = V := ⟨_, rfl⟩
  rw [hV] at hpl
  have hV0 : nd.isT = false → V = 0 := fun h => by rw [← hV]; unfold placesN; rw [if_neg (by simp [h])]
  have hV1 : nd.isT = true → V = min (nd.U + 1) 2049 := fun h => by rw [← hV]; unfold placesN; rw [if_pos h]
  have hb0 := fun h => buildF_tree (nd := nd) (rule := rule) h
  have hb1 := fun h h2 => buildF_big (nd := nd) (rule := rule) h h2
  have hb2 := fun h h2 h3 => buildF_rule (nd := nd) (rule := rule) h h2 h3
  obtain ⟨bf, hbf⟩ : ∃ b, buildF nd rule = b := ⟨_, rfl⟩
  rw [hbf] at hb0 hb1 hb2 ⊢
  obtain ⟨⟨kd, st, l, mi, ma⟩, hx⟩ : ∃ y, y = nd := ⟨_, rfl⟩
  obtain ⟨A, n, c, cl, rfl, -⟩ := (hx ▸ hin : NdIn w B (Nd.mk kd st l mi ma) cs).inv
  have Hx := Lib.hid hx
  have Hbf := Lib.hid hbf
  have Hin := Lib.hid hin
  obtain ⟨tt, htt⟩ : ∃ t, nd.isT = t := ⟨_, rfl⟩
  rw [htt] at his
  have Htt := Lib.hid htt
  have His := Lib.hid his
  have Hpl := Lib.hid hpl
  have Hlay := Lib.hid hlay
  have Hgood := Lib.hid hgood
  have HV0 := Lib.hid hV0
  have HV1 := Lib.hid hV1
  have HB0 := Lib.hid hb0
  have HB1 := Lib.hid hb1
  have HB2 := Lib.hid hb2
  clear htt his hpl hlay hgood hV hV0 hV1 hb0 hb1 hb2 hin hx hbf
  go_enter Try.func11, Try.ntmps11
  have h1 := (Blk.new w 27 (nodeC kd st A n c mi ma)).alloc (.cells #[.int .i64 0, .slice none 0 0, .slice none 0 0] 34)
  have h4 : Blk ((w.alloc (.cells (nodeC kd st A n c mi ma) 27)).alloc (.cells #[.int .i64 0, .slice none 0 0, .slice none 0 0] 34)) (w.heap.size + 1) 34 (nfaC 0 none 0 0 none 0 0) := Blk.new' _ _ _ (by simp)
  have hBw := below_alloc (below_alloc (Below.refl w.heap.size w) (.cells (nodeC kd st A n c mi ma) 27)) (.cells #[.int .i64 0, .slice none 0 0, .slice none 0 0] 34)
  go_upto_region 1 with (fail)
  obtain ⟨w1, hw1⟩ : ∃ y, y = (w.alloc (.cells (nodeC kd st A n c mi ma) 27)).alloc (.cells #[.int .i64 0, .slice none 0 0, .slice none 0 0] 34) := ⟨_, rfl⟩
  rw [← hw1] at h1 h4 hBw ⊢
  clear hw1
  obtain ⟨g4, hg4⟩ : ∃ g, g = w.heap.size + 1 := ⟨_, rfl⟩
  rw [← hg4] at h4
  have hg4b : w.heap.size ≤ g4 := by omega
  try rw [← hg4]
  clear hg4
  have hi := His.out w1 (fun j hj => hBw.block j (by omega)) (by have := hBw.size; omega)
  cases tt
  · have HE := Lib.hid (HB0.out Htt.out)
    have Hi := Lib.hid hi
    clear hi HV0 HV1 HB0 HB1 HB2 Hpl His
    go_wp2_with (first | (refine wl_load_node rfl _ rfl _ rfl _ _ _ _ _ _ _ h1 ?_) | (go_at_call 40; refine Hi.out.mono ?_; rintro e w4 ⟨rfl, hB4⟩; replace h1 := blk_then h1 hB4; replace h4 := blk_then h4 hB4; replace hBw := below_then hBw hB4) | (refine wl_build_nfa0 rfl rfl ?_) | (refine wl_store_nfa rfl _ _ rfl g4 0 none 0 0 none 0 0 rfl rfl _ _ _ _ _ _ _ h4 ?_; intro w5 h5 hg5) | (go_at_call 40; refine park ?_))
    have hBe := hBw.grown hg5 (by have := hBw.size; omega) (fun j e => by injection e with e; omega)
    refine ret_nfa2 rfl rfl h5 rfl ?_
    refine ⟨hBe, .agg (nfaC 0 none 0 0 none 0 0), ?_, ?_⟩
    · rw [HE.out]; rfl
    · rw [HE.out]; exact NfaAt.none_ _
  have hT := Htt.out
  have hV := HV1.out hT
  have Hi := Lib.hid hi
  clear hi
  go_upto_region 3 with (first | (refine wl_load_node rfl _ rfl _ rfl _ _ _ _ _ _ _ h1 ?_) | (go_at_call 40; refine Hi.out.mono ?_; rintro e w4 ⟨rfl, hB4⟩) | (go_at_call 40; refine park ?_))
  replace h1 := blk_then h1 hB4
  replace h4 := blk_then h4 hB4
  replace hBw := below_then hBw hB4
  have hp := Hpl.out w4 (fun j hj => hBw.block j (by omega)) (by have := hBw.size; omega)
  have Hp := Lib.hid hp
  clear hp Hpl hB4 Hi His
  by_cases hU : 2048 ≤ nd.U
  · have HE := Lib.hid (HB1.out hT hU)
    have hVb : decide ((2048 : Int) < (V : Int)) = true := by simp; omega
    clear hT HV0 HV1 HB0 HB1 HB2 hV hU
    go_wp2_with (first | (refine wl_load_node rfl _ rfl _ rfl _ _ _ _ _ _ _ h1 ?_) | (go_at_call 41; refine Hp.out.mono ?_; rintro e w6 ⟨rfl, hB4⟩; replace h1 := blk_then h1 hB4; replace h4 := blk_then h4 hB4; replace hBw := below_then hBw hB4) | (refine wl_build_nfa0 rfl rfl ?_) | (refine wl_store_nfa rfl _ _ rfl g4 0 none 0 0 none 0 0 rfl rfl _ _ _ _ _ _ _ h4 ?_; intro w5 h5 hg5) | (go_at_call 41; refine park ?_))
    have hBe := hBw.grown hg5 (by have := hBw.size; omega) (fun j e => by injection e with e; omega)
    refine ret_nfa2 rfl rfl h5 rfl ?_
    refine ⟨hBe, .agg (nfaC 0 none 0 0 none 0 0), ?_, ?_⟩
    · rw [HE.out]; rfl
    · rw [HE.out]; exact NfaAt.none_ _
  have hVb : decide ((2048 : Int) < (V : Int)) = false := by simp; omega
  clear hV HV0 HV1 HB0 HB1
  go_upto_region 5 with (first | (refine wl_load_node rfl _ rfl _ rfl _ _ _ _ _ _ _ h1 ?_) | (go_at_call 41; refine Hp.out.mono ?_; rintro e w6 ⟨rfl, hB6⟩) | (go_at_call 41; refine park ?_))
  replace h1 := blk_then h1 hB6
  replace h4 := blk_then h4 hB6
  replace hBw := below_then hBw hB6
  clear hB6 Hp
  by_cases hr0 : rule < 0
  · have HE := Lib.hid (HB2.out hT hU (.inl hr0))
    have hrb : decide (rule < 0) = true := by simpa using hr0
    clear HB2 hT
    go_wp2_with (first | (refine wl_load_node rfl _ rfl _ rfl _ _ _ _ _ _ _ h1 ?_) | (go_at_call 40; refine Hi.out.mono ?_; rintro e w4 ⟨rfl, hB4⟩; replace h1 := blk_then h1 hB4; replace h4 := blk_then h4 hB4; replace hBw := below_then hBw hB4) | (refine wl_build_nfa0 rfl rfl ?_) | (refine wl_store_nfa rfl _ _ rfl g4 0 none 0 0 none 0 0 rfl rfl _ _ _ _ _ _ _ h4 ?_; intro w5 h5 hg5) | (go_at_call 40; refine park ?_))
    have hBe := hBw.grown hg5 (by have := hBw.size; omega) (fun j e => by injection e with e; omega)
    refine ret_nfa2 rfl rfl h5 rfl ?_
    refine ⟨hBe, .agg (nfaC 0 none 0 0 none 0 0), ?_, ?_⟩
    · rw [HE.out]; rfl
    · rw [HE.out]; exact NfaAt.none_ _
  have hrb : decide (rule < 0) = false := by simpa using hr0
  by_cases hr1 : 32 ≤ rule
  · have HE := Lib.hid (HB2.out hT hU (.inr hr1))
    have hrb1 : decide ((31 : Int) < rule) = true := by simp; omega
    clear HB2 hT
    go_wp2_with (first | (refine wl_load_node rfl _ rfl _ rfl _ _ _ _ _ _ _ h1 ?_) | (go_at_call 40; refine Hi.out.mono ?_; rintro e w4 ⟨rfl, hB4⟩; replace h1 := blk_then h1 hB4; replace h4 := blk_then h4 hB4; replace hBw := below_then hBw hB4) | (refine wl_build_nfa0 rfl rfl ?_) | (refine wl_store_nfa rfl _ _ rfl g4 0 none 0 0 none 0 0 rfl rfl _ _ _ _ _ _ _ h4 ?_; intro w5 h5 hg5) | (go_at_call 40; refine park ?_))
    have hBe := hBw.grown hg5 (by have := hBw.size; omega) (fun j e => by injection e with e; omega)
    refine ret_nfa2 rfl rfl h5 rfl ?_
    refine ⟨hBe, .agg (nfaC 0 none 0 0 none 0 0), ?_, ?_⟩
    · rw [HE.out]; rfl
    · rw [HE.out]; exact NfaAt.none_ _
  have hrb1 : decide ((31 : Int) < rule) = false := by simp; omega
  obtain ⟨r, rfl⟩ := Int.eq_ofNat_of_zero_le (show 0 ≤ rule by omega)
  have hr32 : r < 32 := by omega
  have hbo := Hbf.out.symm.trans (buildF_ok hT hU hr32)
  have HBO := Lib.hid hbo
  obtain ⟨hg1, hg2, hg3⟩ := Hgood.out hT
  clear hbo HB2 Hbf Hgood
  go_upto_region 8 with (first | (refine wl_build_mkR rfl rfl ?_) | (refine wl_box_mkR rfl _ rfl rfl ?_))
  have hk := Blk.new w6 78 (mkR 1 (.slice none 0 0))
  have hB5 : Below w6.heap.size w6 (w6.alloc (.cells (mkR 1 (.slice none 0 0)) 78)) := below_alloc (Below.refl _ _) _
  obtain ⟨w5, hw5⟩ : ∃ y, y = w6.alloc (.cells (mkR 1 (.slice none 0 0)) 78) := ⟨_, rfl⟩
  rw [← hw5] at hk hB5 ⊢
  clear hw5
  replace h1 := blk_then h1 hB5
  replace h4 := blk_then h4 hB5
  have hsz4 := hBw.size
  replace hBw := below_then hBw hB5
  obtain ⟨gk, hgk⟩ : ∃ g, g = w6.heap.size := ⟨_, rfl⟩
  rw [← hgk] at hk hsz4
  try rw [← hgk]
  clear hgk hB5 hrb hrb1 hVb
  have hgl := hk.lt
  have hMk : MkIs 78 mkR w5 gk gk ⟨1, []⟩ := ⟨_, hk, Own.nil_ _ _ _ _ _, Nat.le_refl _⟩
  have hin5 := NdIn.keep (w' := w5) (fun j hj => hBw.block j (by omega)) Hin.out
  have hcl := Hlay.out gk gk B ⟨1, []⟩ 0 w5 _ hin5 (by omega) hT hMk (by show 1 + nd.U ≤ _; omega) (by show 0 + 3 * nd.U ≤ _; omega)
  have hlay : nd.lay ⟨1, []⟩ 0 = layF nd := rfl
  rw [hlay] at hcl
  obtain ⟨m, hm⟩ : ∃ m, m = layF nd := ⟨_, rfl⟩
  rw [← hm] at hcl hg1 hg2 hg3
  have hbo := HBO.out
  rw [← hm] at hbo
  replace HBO := Lib.hid hbo
  have hms : m.1.s ≤ 2048 := by omega
  have hme : m.1.e.length ≤ 6144 := by omega
  have Hcl := Lib.hid hcl
  clear hbo hm hlay hcl hin5 hMk hg1 hg2 hT hU Hlay hr0 hr1 Htt
  go_upto_region 9 with (first | (refine wl_load_node rfl _ rfl _ rfl _ _ _ _ _ _ _ h1 ?_) | (go_at_call 42; refine Hcl.out.mono ?_; rintro e w7 ⟨rfl, hM7, hF7⟩) | (go_at_call 42; refine park ?_))
  have hBw7 := Below.fr hBw hF7 (by omega) (by have := hBw.size; omega)
  have h47 := blk_fr h4 hF7 (.inr ⟨by decide, by decide⟩)
  obtain ⟨v, hk7, hE7, -⟩ := hM7
  obtain ⟨Ae, ke, rfl, _, _⟩ := hE7.shape
  have c0 : w7.cell? ⟨gk, 0, none⟩ = some (.int .i64 (m.1.s : Int)) := hk7.cellv (i := 0) rfl
  have hgl7 := hk7.lt
  clear hF7 h4 h1 hk hBw Hcl
  go_upto_region 10 with (refine wl_makeR rfl _ _ rfl m.1.s w7.heap.size rfl rfl (by omega) (Nat.le_refl _) ?_; intro w8 hR8 hB8)
  obtain ⟨gR, hgR⟩ : ∃ g, g = w7.heap.size := ⟨_, rfl⟩
  rw [← hgR] at hR8
  try rw [← hgR]
  have hgR1 : gk < gR := by omega
  have hk8 := blk_then hk7 hB8
  have hE8 := hE7.then_ hB8
  have h48 := blk_then h47 hB8
  have hBw8 := below_then hBw7 hB8
  have hsz7 := hBw7.size
  have hg3I : (m.2 : Int) < m.1.s := by omega
  have hz2 : m.2 ≤ 2048 := by omega
  clear hE7 hk7 h47 c0 hBw7 hB8 hgR
  go_upto_region 11 with (first | (refine wl_shl_u32 rfl _ _ _ rfl r hr32 rfl rfl ?_) | (refine wl_store_rule rfl _ _ rfl gR m.2 m.1.s m.1.s rfl (2 ^ r) rfl hR8 (by rw [List.length_replicate]; exact hg3) ?_; intro w9 hR9 hg9))
  have hE9 := own_own hE8 hR8 hg9 (by decide)
  have hk9 : Blk w9 gk 78 _ := hk8.grown hg9 (fun e => own_blk_ne hR8 hk8 (by decide) e.symm)
  have h49 : Blk w9 g4 34 _ := h48.grown hg9 (fun e => own_blk_ne hR8 h48 (by decide) e.symm)
  have hBw9 := hBw8.grown hg9 (by have := hBw8.size; omega) (fun j e => by injection e with e; omega)
  clear hE8 hk8 h48 hR8 hBw8 hg9
  refine wp_region_steps 10 [eqS (.pointer (some ⟨gk, 0, none⟩)), eqS (.pointer (some ⟨gk, 0, none⟩)), eqS (.pointer (some ⟨gk, 0, none⟩)), eqS (.int .i64 (m.1.s : Int)), eqS (.pointer (some ⟨gk, 0, none⟩)), eqS (.pointer (some ⟨gk, 0, none⟩)), eqS (.pointer (some ⟨gk, 1, none⟩)), eqS (.slice Ae m.1.e.length ke), eqS (.slice (some ⟨gR, 0, none⟩) m.1.s m.1.s), eqS (.agg (nfaC (m.1.s : Int) Ae m.1.e.length ke (some ⟨gR, 0, none⟩) m.1.s m.1.s))] [39, 40, 41, 42, 43, 44, 45, 46, 47, 48] rfl (by kernel_rfl) rfl ?_ ?_
  · skip
    refine Steps.cons (fun a' w' hG hB dep => gs_move (want_none rfl) _ rfl (hG.other 6 rfl)) ?_
    refine Steps.cons (fun a' w' hG hB dep => gs_nil (want_none rfl) _ rfl _ (dep 0 rfl 39 rfl) rfl) ?_
    refine Steps.cons (fun a' w' hG hB dep => gs_field (want_none rfl) _ _ _ rfl gk 0 0 (dep 1 rfl 40 rfl) (fun wz => field_rmaker_0 gk 0 wz) rfl) ?_
    refine Steps.cons (fun a' w' hG hB dep => gs_load1 (want_none rfl) _ _ rfl gk 0 (dep 2 rfl 41 rfl) (.int .i64 (m.1.s : Int)) ((blk_then hk9 hB).cellv (i := 0) rfl) _ Try.underlying3 rfl rfl) ?_
    refine Steps.cons (fun a' w' hG hB dep => gs_move (want_none rfl) _ rfl (hG.other 6 rfl)) ?_
    refine Steps.cons (fun a' w' hG hB dep => gs_nil (want_none rfl) _ rfl _ (dep 4 rfl 43 rfl) rfl) ?_
    refine Steps.cons (fun a' w' hG hB dep => gs_field (want_none rfl) _ _ _ rfl gk 0 1 (dep 5 rfl 44 rfl) (fun wz => field_rmaker_1 gk 0 wz) rfl) ?_
    refine Steps.cons (fun a' w' hG hB dep => gs_load1 (want_none rfl) _ _ rfl gk 1 (dep 6 rfl 45 rfl) (.slice Ae m.1.e.length ke) ((blk_then hk9 hB).cellv (i := 1) rfl) _ Try.underlying31 rfl rfl) ?_
    refine Steps.cons (fun a' w' hG hB dep => gs_move (want_none rfl) _ rfl (hG.other 8 rfl)) ?_
    refine Steps.cons (fun a' w' hG hB dep => gs_build_nfa (want_none rfl) _ _ _ rfl _ _ _ _ _ _ _ (dep 3 rfl 42 rfl) (dep 7 rfl 46 rfl) (dep 8 rfl 47 rfl) rfl) ?_
    exact Steps.nil
  intro uz w10 hB10 ans
  have v48 : uz 48 = .agg (nfaC (m.1.s : Int) Ae m.1.e.length ke (some ⟨gR, 0, none⟩) m.1.s m.1.s) := ans 9 48 (by decide) rfl
  clear ans
  simp only [putAll, List.foldl_cons, List.foldl_nil, Act.put, List.setIfInBounds_toArray, List.set_cons_zero, List.set_cons_succ, v48]
  clear v48
  simp only [List.drop]
  have h410 := blk_then h49 hB10
  refine wl_store_nfa rfl _ _ rfl g4 _ _ _ _ _ _ _ rfl rfl _ _ _ _ _ _ _ h410 ?_
  intro w12 h412 hg12
  have hR12 := own_box (hR9.then_ hB10) h410 hg12 (by decide)
  have hE12 := own_box (hE9.then_ hB10) h410 hg12 (by decide)
  have hBe := (below_then hBw9 hB10).grown hg12 (by have := hBw9.size; have := hB10.size; omega) (fun j e => by injection e with e; omega)
  clear hR9 hE9 h49 h410 hBw9 hB10 hg12 hk9
  simp only [Act.put, List.setIfInBounds_toArray, List.set_cons_zero, List.set_cons_succ]
  go_wp2_with (fail)
  refine ret_nfa2 rfl rfl h412 rfl ?_
  refine ⟨hBe, .agg (nfaC (m.1.s : Int) Ae m.1.e.length ke (some ⟨gR, 0, none⟩) m.1.s m.1.s), ?_, ?_⟩
  · rw [HBO.out]; rfl
  · rw [HBO.out]
    exact ⟨Ae, ke, some ⟨gR, 0, none⟩, m.1.s, by simp, hE12.slice_all edgC_size, hR12.slice_all encR_size⟩
end Go.Proofs.Ytgahdookojbbiaa
