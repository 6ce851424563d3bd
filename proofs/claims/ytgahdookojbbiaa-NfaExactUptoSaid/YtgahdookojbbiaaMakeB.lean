/- nfa.Build. No condition beyond those named in each lemma. -/
import Derived.Test.YtgahdookojbbiaaMake
namespace Go.Proofs.Ytgahdookojbbiaa
open Go.RowKit Go.Maps
set_option linter.unusedVariables false
set_option linter.unusedSimpArgs false
attribute [local go_sem] Oper.semAt_some

theorem buildF_tree {nd : Nd} {rule : Int} (h : nd.isT = false) : buildF nd rule = (.none, 50) := by unfold buildF; rw [if_pos h]
theorem buildF_big {nd : Nd} {rule : Int} (h : nd.isT = true) (h2 : 2048 ≤ nd.U) : buildF nd rule = (.none, 48) := by unfold buildF; rw [if_neg (by simp [h]), if_pos h2]
theorem buildF_rule {nd : Nd} {rule : Int} (h : nd.isT = true) (h2 : ¬ 2048 ≤ nd.U) (h3 : rule < 0 ∨ 32 ≤ rule) : buildF nd rule = (.none, 1) := by unfold buildF; rw [if_neg (by simp [h]), if_neg h2, if_pos h3]
theorem buildF_ok {nd : Nd} {r : Nat} (h : nd.isT = true) (h2 : ¬ 2048 ≤ nd.U) (h3 : r < 32) : buildF nd (r : Int) = (⟨(layF nd).1.s, (layF nd).1.e, (List.replicate (layF nd).1.s 0).set (layF nd).2 (2 ^ r)⟩, 0) := by
  unfold buildF; rw [if_neg (by simp [h]), if_neg h2, if_neg (by omega)]; simp
/-- the block that a region's call turns -/
def stS (gk : Nat) (v : Value) : GSpec := ⟨fun u w => u = .int .i64 ((0 : Nat) : Int) ∧ Blk w gk 72 (mkP ((1 : Nat) : Int) v), fun u w w' ⟨h1, h2⟩ hb => ⟨h1, blk_then h2 hb⟩⟩
set_option maxRecDepth 100000 in
set_option maxHeartbeats 8000000 in
theorem build_any (nd : Nd) (rule : Int) (B : Nat) (w : World) (cs : Array Value) (hin : NdIn w B nd cs) (hB : B ≤ w.heap.size) :
    Calls Try.prog 10 #[.agg cs, .int .i64 rule] w fun e w' => Below w.heap.size w w' ∧ ∃ v, e = .returned (.tuple #[v, .int .i64 (buildF nd rule).2]) ∧ NfaAt w' v (buildF nd rule).1 := by
  have hpl := fun W h1 h2 => placesE_any nd B W _ (NdIn.keep (w' := W) h1 hin) h2
  have hlay := lay_ok nd
  have hgood := fun h => layF_good (nd := nd) h
  obtain ⟨V, hV⟩ : ∃ V, placesN nd = V := ⟨_, rfl⟩
  rw [hV] at hpl
  have hV0 : nd.isT = false → V = 0 := fun h => by rw [← hV]; unfold placesN; rw [if_neg (by simp [h])]
  have hV1 : nd.isT = true → V = min (nd.U + 1) 2049 := fun h => by rw [← hV]; unfold placesN; rw [if_pos h]
  have hb0 := fun h => buildF_tree (nd := nd) (rule := rule) h
  have hb1 := fun h h2 => buildF_big (nd := nd) (rule := rule) h h2
  have hb2 := fun h h2 h3 => buildF_rule (nd := nd) (rule := rule) h h2 h3
  obtain ⟨bf, hbf⟩ : ∃ b, buildF nd rule = b := ⟨_, rfl⟩
  rw [hbf] at hb0 hb1 hb2 ⊢
  obtain ⟨⟨kd, st, l, mi, ma⟩, hx⟩ : ∃ y, y = nd := ⟨_, rfl⟩
  obtain ⟨A, n, c, cl, rfl, -⟩ := (hx ▸ hin : NdIn w B (Nd.mk kd st l mi ma) cs).inv
  have Hx := Lib.hid hx
  have Hbf := Lib.hid hbf
  have Hin := Lib.hid hin
  have Hpl := Lib.hid hpl
  have Hlay := Lib.hid hlay
  have Hgood := Lib.hid hgood
  have HV0 := Lib.hid hV0
  have HV1 := Lib.hid hV1
  have HB0 := Lib.hid hb0
  have HB1 := Lib.hid hb1
  have HB2 := Lib.hid hb2
  clear hpl hlay hgood hV hV0 hV1 hb0 hb1 hb2 hin hx hbf
  go_enter Try.func10, Try.ntmps10
  have h1 := (Blk.new w 27 (nodeC kd st A n c mi ma)).alloc (.cells #[.int .i64 0, .slice none 0 0, .slice none 0 0] 34)
  have h4 : Blk ((w.alloc (.cells (nodeC kd st A n c mi ma) 27)).alloc (.cells #[.int .i64 0, .slice none 0 0, .slice none 0 0] 34)) (w.heap.size + 1) 34 (nfaC 0 none 0 0 none 0 0) := Blk.new' _ _ _ (by simp)
  have hBw := below_alloc (below_alloc (Below.refl w.heap.size w) (.cells (nodeC kd st A n c mi ma) 27)) (.cells #[.int .i64 0, .slice none 0 0, .slice none 0 0] 34)
  go_upto_region 1 with (fail)
  obtain ⟨w1, hw1⟩ : ∃ y, y = (w.alloc (.cells (nodeC kd st A n c mi ma) 27)).alloc (.cells #[.int .i64 0, .slice none 0 0, .slice none 0 0] 34) := ⟨_, rfl⟩
  rw [← hw1] at h1 h4 hBw ⊢
  clear hw1
  obtain ⟨g4, hg4⟩ : ∃ g, g = w.heap.size + 1 := ⟨_, rfl⟩
  rw [← hg4] at h4
  have hg4b : w.heap.size ≤ g4 := by omega
  try rw [← hg4]
  clear hg4
  have hp := Hpl.out w1 (fun j hj => hBw.block j (by omega)) (by have := hBw.size; omega)
  have Hp := Lib.hid hp
  clear hp Hpl
  go_upto_block 0 with (first | (refine wl_load_node rfl _ rfl _ rfl _ _ _ _ _ _ _ h1 ?_) | (go_at_call 37; refine Hp.out.mono ?_; rintro e w4 ⟨rfl, hB4⟩) | (go_at_call 37; refine park ?_))
  replace h1 := blk_then h1 hB4
  replace h4 := blk_then h4 hB4
  replace hBw := below_then hBw hB4
  clear hB4 Hp
  by_cases hT : nd.isT = false
  · have HE := Lib.hid (HB0.out hT)
    obtain rfl : V = 0 := HV0.out hT
    clear hT HV0 HV1 HB0 HB1 HB2
    go_wp2_with (first | (refine wl_build_nfa0 rfl rfl ?_) | (refine wl_store_nfa rfl _ _ rfl g4 0 none 0 0 none 0 0 rfl rfl _ _ _ _ _ _ _ h4 ?_; intro w5 h5 hg5))
    have hBe := hBw.grown hg5 (by have := hBw.size; omega) (fun j e => by injection e with e; omega)
    refine ret_nfa2 rfl rfl h5 rfl ?_
    refine ⟨hBe, .agg (nfaC 0 none 0 0 none 0 0), ?_, ?_⟩
    · rw [HE.out]; rfl
    · rw [HE.out]; exact NfaAt.none_ _
  have hT : nd.isT = true := by simpa using hT
  have hV := HV1.out hT
  have hV0b : ((V : Int) == 0) = false := by simp; omega
  by_cases hU : 2048 ≤ nd.U
  · have HE := Lib.hid (HB1.out hT hU)
    have hVb : decide ((2048 : Int) < (V : Int)) = true := by simp; omega
    clear hT HV0 HV1 HB0 HB1 HB2 hV hU
    go_wp2_with (first | (refine wl_build_nfa0 rfl rfl ?_) | (refine wl_store_nfa rfl _ _ rfl g4 0 none 0 0 none 0 0 rfl rfl _ _ _ _ _ _ _ h4 ?_; intro w5 h5 hg5))
    have hBe := hBw.grown hg5 (by have := hBw.size; omega) (fun j e => by injection e with e; omega)
    refine ret_nfa2 rfl rfl h5 rfl ?_
    refine ⟨hBe, .agg (nfaC 0 none 0 0 none 0 0), ?_, ?_⟩
    · rw [HE.out]; rfl
    · rw [HE.out]; exact NfaAt.none_ _
  have hVb : decide ((2048 : Int) < (V : Int)) = false := by simp; omega
  clear hV HV0 HV1 HB0 HB1
  by_cases hr0 : rule < 0
  · have HE := Lib.hid (HB2.out hT hU (.inl hr0))
    have hrb : decide (rule < 0) = true := by simpa using hr0
    clear HB2 hT
    go_wp2_with (first | (refine wl_build_nfa0 rfl rfl ?_) | (refine wl_store_nfa rfl _ _ rfl g4 0 none 0 0 none 0 0 rfl rfl _ _ _ _ _ _ _ h4 ?_; intro w5 h5 hg5))
    have hBe := hBw.grown hg5 (by have := hBw.size; omega) (fun j e => by injection e with e; omega)
    refine ret_nfa2 rfl rfl h5 rfl ?_
    refine ⟨hBe, .agg (nfaC 0 none 0 0 none 0 0), ?_, ?_⟩
    · rw [HE.out]; rfl
    · rw [HE.out]; exact NfaAt.none_ _
  have hrb : decide (rule < 0) = false := by simpa using hr0
  by_cases hr1 : 32 ≤ rule
  · have HE := Lib.hid (HB2.out hT hU (.inr hr1))
    have hrb1 : decide (32 ≤ rule) = true := by simpa using hr1
    clear HB2 hT
    go_wp2_with (first | (refine wl_build_nfa0 rfl rfl ?_) | (refine wl_store_nfa rfl _ _ rfl g4 0 none 0 0 none 0 0 rfl rfl _ _ _ _ _ _ _ h4 ?_; intro w5 h5 hg5))
    have hBe := hBw.grown hg5 (by have := hBw.size; omega) (fun j e => by injection e with e; omega)
    refine ret_nfa2 rfl rfl h5 rfl ?_
    refine ⟨hBe, .agg (nfaC 0 none 0 0 none 0 0), ?_, ?_⟩
    · rw [HE.out]; rfl
    · rw [HE.out]; exact NfaAt.none_ _
  have hrb1 : decide (32 ≤ rule) = false := by simpa using hr1
  obtain ⟨r, rfl⟩ := Int.eq_ofNat_of_zero_le (show 0 ≤ rule by omega)
  have hr32 : r < 32 := by omega
  have hbo := Hbf.out.symm.trans (buildF_ok hT hU hr32)
  have HBO := Lib.hid hbo
  obtain ⟨hg1, hg2, hg3⟩ := Hgood.out hT
  clear hbo HB2 Hbf Hgood
  go_upto_region 9 with (first | (refine wl_build_mkP rfl rfl ?_) | (refine wl_box_mkP rfl _ rfl rfl ?_))
  have hk := Blk.new w4 72 (mkP 0 (.slice none 0 0))
  have hB5 : Below w4.heap.size w4 (w4.alloc (.cells (mkP 0 (.slice none 0 0)) 72)) := below_alloc (Below.refl _ _) _
  obtain ⟨w5, hw5⟩ : ∃ y, y = w4.alloc (.cells (mkP 0 (.slice none 0 0)) 72) := ⟨_, rfl⟩
  rw [← hw5] at hk hB5 ⊢
  clear hw5
  replace h1 := blk_then h1 hB5
  replace h4 := blk_then h4 hB5
  have hsz4 := hBw.size
  replace hBw := below_then hBw hB5
  obtain ⟨gk, hgk⟩ : ∃ g, g = w4.heap.size := ⟨_, rfl⟩
  rw [← hgk] at hk hsz4
  try rw [← hgk]
  clear hgk hB5 hrb hrb1 hVb hV0b
  have hgl := hk.lt
  have hne1 : some w.heap.size ≠ some gk := fun e => Blk.ne_ h1 hk (by decide) (by injection e)
  have hne4 : some g4 ≠ some gk := fun e => Blk.ne_ h4 hk (by decide) (by injection e)
  refine wp_region_stepsR (rw := some gk) (i0 := 3) 4 [eqS (.pointer (some ⟨gk, 0, none⟩)), eqS (.agg (nodeC kd st A n c mi ma)), eqS (.pointer (some ⟨gk, 0, none⟩)), stS gk (.slice none 0 0)] [29, 30, 31, 32] rfl ?_ (by kernel_rfl) rfl ?_ ?_
  · intro j hj v wa wb hp hg
    match j, hj, hp with
    | 0, _, hp => exact hp
    | 1, _, hp => exact hp
    | 2, _, hp => exact hp
    | 3, hj, _ => exact absurd rfl hj
    | j + 4, _, hp => exact hp
  · skip
    refine StepsR.cons (fun a' w' hG hW hP dep => GStepR.of (gs_move (want_none rfl) _ rfl (hG.other 7 rfl))) ?_
    refine StepsR.cons (fun a' w' hG hW hP dep => GStepR.of (gs_load_node (want_none rfl) _ rfl w.heap.size (hG.other 2 rfl) kd st A n c mi ma (h1.grown hW hne1) rfl)) ?_
    refine StepsR.cons (fun a' w' hG hW hP dep => GStepR.of (gs_move (want_none rfl) _ rfl (hG.other 7 rfl))) ?_
    refine StepsR.cons (fun a' w' hG hW hP dep => GStepR.call (want_none rfl) _ _ _ rfl enter_pstate _ (map1 (dep 2 rfl 31 rfl)) ((pstate_g gk 0 (.slice none 0 0) w' (blk_then hk (hP rfl)) (by omega)).mono fun e w2 ⟨he, hb, hg⟩ => ⟨_, he, hg, ⟨rfl, hb⟩⟩)) ?_
    exact StepsR.nil
  intro uf w6 hW6 ans
  have v29 : uf 29 = .pointer (some ⟨gk, 0, none⟩) := ans 0 29 (by decide) rfl
  have v30 : uf 30 = .agg (nodeC kd st A n c mi ma) := ans 1 30 (by decide) rfl
  obtain ⟨v32, hk6⟩ := ans 3 32 (by decide) rfl
  clear ans
  simp only [putAll, List.foldl_cons, List.foldl_nil, Act.put, List.setIfInBounds_toArray, List.set_cons_zero, List.set_cons_succ, v29, v30, v32]
  clear v29 v30 v32
  simp only [List.drop]
  have hBw6 := hBw.grown hW6 (by have := hBw.size; omega) (fun j e => by injection e with e; omega)
  have h46 : Blk w6 g4 34 _ := h4.grown hW6 hne4
  have hMk : MkIs 72 mkP w6 gk gk ⟨1, []⟩ := ⟨_, hk6, Own.nil_ _ _ _ _ _, Nat.le_refl _⟩
  have hin6 := NdIn.keep (w' := w6) (fun j hj => hBw6.block j (by omega)) Hin.out
  have hcl := Hlay.out gk gk B ⟨1, []⟩ 0 w6 _ hin6 (by omega) hT hMk (by show 1 + nd.U ≤ _; omega) (by show 0 + 3 * nd.U ≤ _; omega)
  refine wl_call rfl _ _ _ rfl enter_play #[.pointer (some ⟨gk, 0, none⟩), .agg (nodeC kd st A n c mi ma), .int .i64 ((0 : Nat) : Int)] (map3 rfl rfl rfl) ?_
  refine hcl.mono ?_
  rintro e w7 ⟨rfl, hM7, hF7⟩
  refine ⟨_, rfl, ?_⟩
  have hlay : nd.lay ⟨1, []⟩ 0 = layF nd := rfl
  rw [hlay] at hM7
  obtain ⟨m, hm⟩ : ∃ m, m = layF nd := ⟨_, rfl⟩
  simp only [hlay]
  rw [← hm] at hM7 hg1 hg2 hg3
  have hbo := HBO.out
  rw [← hm] at hbo
  rw [← hm]
  replace HBO := Lib.hid hbo
  have hBw7 := Below.fr hBw6 hF7 (by omega) (by have := hBw6.size; omega)
  have h47 := blk_fr h46 hF7 (.inr ⟨by decide, by decide⟩)
  have hms : m.1.s ≤ 2048 := by omega
  have hme : m.1.e.length ≤ 6144 := by omega
  clear hbo hm hlay hcl hin6 hMk hk6 hW6 hF7 h46 hBw6 hBw h1 h4 hk hg1 hg2 hT hU Hlay hne1 hne4 hr0 hr1
  simp only [Act.put, List.setIfInBounds_toArray, List.set_cons_zero, List.set_cons_succ]
  obtain ⟨v, hk7, hE7, -⟩ := hM7
  have c0 : w7.cell? ⟨gk, 0, none⟩ = some (.int .i64 (m.1.s : Int)) := hk7.cellv (i := 0) rfl
  go_upto_region 10 with (fail)
  obtain ⟨Ae, ke, rfl, _, _⟩ := hE7.shape
  have hgl7 := hk7.lt
  go_upto_region 11 with (first | (refine wl_makeR rfl _ _ rfl m.1.s w7.heap.size rfl rfl (by omega) (Nat.le_refl _) ?_; intro w8 hR8 hB8; have hk8 := blk_then hk7 hB8) | (refine wl_store_cell rfl _ _ _ rfl gk 2 rfl _ _ (nfaC (m.1.s : Int) Ae m.1.e.length ke (some ⟨w7.heap.size, 0, none⟩) m.1.s m.1.s) hk8 (by simp [mkP]) info_rules1 rfl rfl rfl ?_; intro w9 hk9 hg9))
  have hR9 := own_box hR8 hk8 hg9 (by decide)
  have hE9 := own_box (hE7.then_ hB8) hk8 hg9 (by decide)
  have h48 := blk_then h47 hB8
  have h49 : Blk w9 g4 34 _ := h48.grown hg9 (fun e => Blk.ne_ h48 hk8 (by decide) (by injection e))
  have hBw9 := (below_then hBw7 hB8).grown hg9 (by have := hBw7.size; have := hB8.size; omega) (fun j e => by injection e with e; omega)
  obtain ⟨gR, hgR⟩ : ∃ g, g = w7.heap.size := ⟨_, rfl⟩
  rw [← hgR] at hR9 hk9
  try rw [← hgR]
  have hgR1 : gk < gR := by omega
  clear hR8 hk8 hg9 hE7 hB8 hk7 h47 h48 c0 hBw7 hgR hgl7
  refine wp_region_steps 9 [eqS (.pointer (some ⟨gk, 0, none⟩)), eqS (.pointer (some ⟨gk, 0, none⟩)), eqS (.pointer (some ⟨gk, 0, none⟩)), eqS (.pointer (some ⟨gk, 2, none⟩)), eqS (.slice (some ⟨gR, 0, none⟩) m.1.s m.1.s), eqS (.int .i64 (m.2 : Int)), eqS (.int .i64 (r : Int)), eqS (.int .u32 ((2 ^ r : Nat) : Int)), eqS (.pointer (some ⟨gR, m.2, none⟩))] [44, 45, 46, 47, 48, 49, 50, 51, 52] rfl (by kernel_rfl) rfl ?_ ?_
  · skip
    refine Steps.cons (fun a' w' hG hB dep => gs_move (want_none rfl) _ rfl (hG.other 7 rfl)) ?_
    refine Steps.cons (fun a' w' hG hB dep => gs_nil (want_none rfl) _ rfl _ (dep 0 rfl 44 rfl) rfl) ?_
    refine Steps.cons (fun a' w' hG hB dep => gs_field (want_none rfl) _ _ _ rfl gk 0 0 (dep 1 rfl 45 rfl) (fun wz => field_maker_0 gk 0 wz) rfl) ?_
    refine Steps.cons (fun a' w' hG hB dep => gs_field (want_none rfl) _ _ _ rfl gk 0 2 (dep 2 rfl 46 rfl) (fun wz => field_nfa_2 gk 0 wz) rfl) ?_
    refine Steps.cons (fun a' w' hG hB dep => gs_load1 (want_none rfl) _ _ rfl gk 2 (dep 3 rfl 47 rfl) (.slice (some ⟨gR, 0, none⟩) m.1.s m.1.s) ((blk_then hk9 hB).cellv (i := 2) rfl) _ Try.underlying32 rfl rfl) ?_
    refine Steps.cons (fun a' w' hG hB dep => gs_move (want_none rfl) _ rfl (hG.other 8 rfl)) ?_
    refine Steps.cons (fun a' w' hG hB dep => gs_move (want_none rfl) _ rfl (hG.other 1 rfl)) ?_
    refine Steps.cons (fun a' w' hG hB dep => gs_shl_u32 (want_none rfl) _ _ _ rfl r hr32 rfl (dep 6 rfl 50 rfl) rfl) ?_
    refine Steps.cons (fun a' w' hG hB dep => gs_index (want_none rfl) _ _ _ rfl under_rules 1 size_ruleE gR 0 m.1.s m.1.s m.2 (dep 4 rfl 48 rfl) (dep 5 rfl 49 rfl) hg3 (congrArg (fun q => Value.pointer (some ⟨gR, q, none⟩)) (by omega))) ?_
    exact Steps.nil
  intro uz w10 hB10 ans
  have v51 : uz 51 = .int .u32 ((2 ^ r : Nat) : Int) := ans 7 51 (by decide) rfl
  have v52 : uz 52 = .pointer (some ⟨gR, m.2, none⟩) := ans 8 52 (by decide) rfl
  clear ans
  simp only [putAll, List.foldl_cons, List.foldl_nil, Act.put, List.setIfInBounds_toArray, List.set_cons_zero, List.set_cons_succ, v51, v52]
  clear v51 v52
  simp only [List.drop]
  have hR10 := hR9.then_ hB10
  refine wl_store_rule rfl _ _ rfl gR m.2 m.1.s m.1.s rfl (2 ^ r) rfl hR10 (by rw [List.length_replicate]; exact hg3) ?_
  intro w11 hR11 hg11
  refine wpList_nil ?_
  have hE11 := own_own (hE9.then_ hB10) hR10 hg11 (by decide)
  have hk11 : Blk w11 gk 72 _ := (blk_then hk9 hB10).grown hg11 (fun e => by injection e with e; omega)
  have h411 : Blk w11 g4 34 _ := (blk_then h49 hB10).grown hg11 (fun e => own_blk_ne hR10 (blk_then h49 hB10) (by decide) e.symm)
  have hBw11 := (below_then hBw9 hB10).grown hg11 (by have := hBw9.size; have := hB10.size; omega) (fun j e => by injection e with e; omega)
  clear hR10 hR9 hE9 hk9 h49 hBw9 hB10 hg11
  go_wp2_with (first | (refine wl_load_nfa_at rfl _ rfl gk 0 rfl _ _ _ _ _ _ _ (RowAt.of_blk hk11) ?_) | (refine wl_store_nfa rfl _ _ rfl g4 _ _ _ _ _ _ _ rfl rfl _ _ _ _ _ _ _ h411 ?_; intro w12 h412 hg12))
  have hR12 := own_box hR11 h411 hg12 (by decide)
  have hE12 := own_box hE11 h411 hg12 (by decide)
  have hBe := hBw11.grown hg12 (by have := hBw11.size; omega) (fun j e => by injection e with e; omega)
  refine ret_nfa2 rfl rfl h412 rfl ?_
  refine ⟨hBe, .agg (nfaC (m.1.s : Int) Ae m.1.e.length ke (some ⟨gR, 0, none⟩) m.1.s m.1.s), ?_, ?_⟩
  · rw [HBO.out]; rfl
  · rw [HBO.out]
    exact ⟨Ae, ke, some ⟨gR, 0, none⟩, m.1.s, by simp, hE12.slice_all edgC_size, hR12.slice_all encR_size⟩
end Go.Proofs.Ytgahdookojbbiaa
