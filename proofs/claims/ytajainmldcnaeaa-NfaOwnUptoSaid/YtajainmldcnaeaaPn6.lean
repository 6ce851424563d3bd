/- Part 6 of a proof; packed: the texts that it was made of follow one another. No condition beyond those named in each lemma. -/
import Derived.Test.YtajainmldcnaeaaPn3
import Derived.Test.YtajainmldcnaeaaPn4
import Derived.Test.YtajainmldcnaeaaPn5
namespace Go.Proofs.Ytajainmldcnaeaa
open Go.RowKit Go.Maps
set_option linter.unusedVariables false
set_option linter.unusedSimpArgs false
attribute [local go_sem] Oper.semAt_some

theorem buildF_tree {nd : Nd} {rule : Int} (h : nd.isT = false) : buildF nd rule = (.none, 50) := by unfold buildF; rw [if_pos h]
theorem buildF_big {nd : Nd} {rule : Int} (h : nd.isT = true) (h2 : 2048 ≤ nd.U) : buildF nd rule = (.none, 48) := by unfold buildF; rw [if_neg (by simp [h]), if_pos h2]
theorem buildF_rule {nd : Nd} {rule : Int} (h : nd.isT = true) (h2 : ¬ 2048 ≤ nd.U) (h3 : rule < 0 ∨ 32 ≤ rule) : buildF nd rule = (.none, 1) := by unfold buildF; rw [if_neg (by simp [h]), if_neg h2, if_pos h3]
theorem buildF_ok {nd : Nd} {r : Nat} (h : nd.isT = true) (h2 : ¬ 2048 ≤ nd.U) (h3 : r < 32) : buildF nd (r : Int) = (⟨(layF nd).1.s, (layF nd).1.e, (List.replicate (layF nd).1.s 0).set (layF nd).2 (2 ^ r)⟩, 0) := by
  unfold buildF; rw [if_neg (by simp [h]), if_neg h2, if_neg (by omega)]; simp
/-- the block that a region's call turns -/
def stS (gk : Nat) (v : Value) : GSpec := ⟨fun u w => u = .int .i64 ((0 : Nat) : Int) ∧ Blk w gk 90 (mkP ((1 : Nat) : Int) v), fun u w w' ⟨h1, h2⟩ hb => ⟨h1, blk_then h2 hb⟩⟩
set_option maxRecDepth 100000 in
set_option maxHeartbeats 8000000 in
theorem build_any (nd : Nd) (rule : Int) (B : Nat) (w : World) (cs : Array Value) (hin : NdIn w B nd cs) (hB : B ≤ w.heap.size) :
    Calls Try.prog 28 #[.agg cs, .int .i64 rule] w fun e w' => Below w.heap.size w w' ∧ ∃ v, e = .returned (.tuple #[v, .int .i64 (buildF nd rule).2]) ∧ NfaAt w' v (buildF nd rule).1 := by
  have hpl := fun W h1 h2 => placesE_any nd B W _ (NdIn.keep (w' := W) h1 hin) h2
  have hlay := lay_ok nd
  have hgood := fun h => layF_good (nd := nd) h
  obtain ⟨V, hV⟩ : ∃ V, placesN nd = V := ⟨_, rfl⟩
  rw [hV] at hpl
  have hV0 : nd.isT = false → V = 0 := fun h => by rw [← hV]; unfold placesN; rw [if_neg (by simp [h])]
  have hV1 : nd.isT = true → V = min (nd.U + 1) 2049 := fun h => by rw [← hV]; unfold placesN; rw [if_pos h]
  have hb0 := fun h => buildF_tree (nd := nd) (rule := rule) h
  have hb1 := fun h h2 => buildF_big (nd := nd) (rule := rule) h h2
  have hb2 := fun h h2 h3 => buildF_rule (nd := nd) (rule := rule) h h2 h3
  obtain ⟨bf, hbf⟩ : ∃ b, buildF nd rule = b := ⟨_, rfl⟩
  rw [hbf] at hb0 hb1 hb2 ⊢
  obtain ⟨⟨kd, st, l, mi, ma⟩, hx⟩ : ∃ y, y = nd := ⟨_, rfl⟩
  obtain ⟨A, n, c, cl, rfl, -⟩ := (hx ▸ hin : NdIn w B (Nd.mk kd st l mi ma) cs).inv
  have Hx := Lib.hid hx
  have Hbf := Lib.hid hbf
  have Hin := Lib.hid hin
  have Hpl := Lib.hid hpl
  have Hlay := Lib.hid hlay
  have Hgood := Lib.hid hgood
  have HV0 := Lib.hid hV0
  have HV1 := Lib.hid hV1
  have HB0 := Lib.hid hb0
  have HB1 := Lib.hid hb1
  have HB2 := Lib.hid hb2
  clear hpl hlay hgood hV hV0 hV1 hb0 hb1 hb2 hin hx hbf
  go_enter Try.func28, Try.ntmps28
  have h1 := (Blk.new w 27 (nodeC kd st A n c mi ma)).alloc (.cells #[.int .i64 0, .slice none 0 0, .slice none 0 0] 52)
  have h4 : Blk ((w.alloc (.cells (nodeC kd st A n c mi ma) 27)).alloc (.cells #[.int .i64 0, .slice none 0 0, .slice none 0 0] 52)) (w.heap.size + 1) 52 (nfaC 0 none 0 0 none 0 0) := Blk.new' _ _ _ (by simp)
  have hBw := below_alloc (below_alloc (Below.refl w.heap.size w) (.cells (nodeC kd st A n c mi ma) 27)) (.cells #[.int .i64 0, .slice none 0 0, .slice none 0 0] 52)
  go_upto_region 1 with (fail)
  obtain ⟨w1, hw1⟩ : ∃ y, y = (w.alloc (.cells (nodeC kd st A n c mi ma) 27)).alloc (.cells #[.int .i64 0, .slice none 0 0, .slice none 0 0] 52) := ⟨_, rfl⟩
  rw [← hw1] at h1 h4 hBw ⊢
  clear hw1
  obtain ⟨g4, hg4⟩ : ∃ g, g = w.heap.size + 1 := ⟨_, rfl⟩
  rw [← hg4] at h4
  have hg4b : w.heap.size ≤ g4 := by omega
  try rw [← hg4]
  clear hg4
  have hp := Hpl.out w1 (fun j hj => hBw.block j (by omega)) (by have := hBw.size; omega)
  have Hp := Lib.hid hp
  clear hp Hpl
  go_upto_block 0 with (first | (refine wl_load_node rfl _ rfl _ rfl _ _ _ _ _ _ _ h1 ?_) | (go_at_call 16; refine Hp.out.mono ?_; rintro e w4 ⟨rfl, hB4⟩) | (go_at_call 16; refine park ?_))
  replace h1 := blk_then h1 hB4
  replace h4 := blk_then h4 hB4
  replace hBw := below_then hBw hB4
  clear hB4 Hp
  by_cases hT : nd.isT = false
  · have HE := Lib.hid (HB0.out hT)
    obtain rfl : V = 0 := HV0.out hT
    clear hT HV0 HV1 HB0 HB1 HB2
    go_wp2_with (first | (refine wl_build_nfa0 rfl rfl ?_) | (refine wl_store_nfa rfl _ _ rfl g4 0 none 0 0 none 0 0 rfl rfl _ _ _ _ _ _ _ h4 ?_; intro w5 h5 hg5))
    have hBe := hBw.grown hg5 (by have := hBw.size; omega) (fun j e => by injection e with e; omega)
    refine ret_nfa2 rfl rfl h5 rfl ?_
    refine ⟨hBe, .agg (nfaC 0 none 0 0 none 0 0), ?_, ?_⟩
    · rw [HE.out]; rfl
    · rw [HE.out]; exact NfaAt.none_ _
  have hT : nd.isT = true := by simpa using hT
  have hV := HV1.out hT
  have hV0b : ((V : Int) == 0) = false := by simp; omega
  by_cases hU : 2048 ≤ nd.U
  · have HE := Lib.hid (HB1.out hT hU)
    have hVb : decide ((2048 : Int) < (V : Int)) = true := by simp; omega
    clear hT HV0 HV1 HB0 HB1 HB2 hV hU
    go_wp2_with (first | (refine wl_build_nfa0 rfl rfl ?_) | (refine wl_store_nfa rfl _ _ rfl g4 0 none 0 0 none 0 0 rfl rfl _ _ _ _ _ _ _ h4 ?_; intro w5 h5 hg5))
    have hBe := hBw.grown hg5 (by have := hBw.size; omega) (fun j e => by injection e with e; omega)
    refine ret_nfa2 rfl rfl h5 rfl ?_
    refine ⟨hBe, .agg (nfaC 0 none 0 0 none 0 0), ?_, ?_⟩
    · rw [HE.out]; rfl
    · rw [HE.out]; exact NfaAt.none_ _
  have hVb : decide ((2048 : Int) < (V : Int)) = false := by simp; omega
  clear hV HV0 HV1 HB0 HB1
  by_cases hr0 : rule < 0
  · have HE := Lib.hid (HB2.out hT hU (.inl hr0))
    have hrb : decide (rule < 0) = true := by simpa using hr0
    clear HB2 hT
    go_wp2_with (first | (refine wl_build_nfa0 rfl rfl ?_) | (refine wl_store_nfa rfl _ _ rfl g4 0 none 0 0 none 0 0 rfl rfl _ _ _ _ _ _ _ h4 ?_; intro w5 h5 hg5))
    have hBe := hBw.grown hg5 (by have := hBw.size; omega) (fun j e => by injection e with e; omega)
    refine ret_nfa2 rfl rfl h5 rfl ?_
    refine ⟨hBe, .agg (nfaC 0 none 0 0 none 0 0), ?_, ?_⟩
    · rw [HE.out]; rfl
    · rw [HE.out]; exact NfaAt.none_ _
  have hrb : decide (rule < 0) = false := by simpa using hr0
  by_cases hr1 : 32 ≤ rule
  · have HE := Lib.hid (HB2.out hT hU (.inr hr1))
    have hrb1 : decide (32 ≤ rule) = true := by simpa using hr1
    clear HB2 hT
    go_wp2_with (first | (refine wl_build_nfa0 rfl rfl ?_) | (refine wl_store_nfa rfl _ _ rfl g4 0 none 0 0 none 0 0 rfl rfl _ _ _ _ _ _ _ h4 ?_; intro w5 h5 hg5))
    have hBe := hBw.grown hg5 (by have := hBw.size; omega) (fun j e => by injection e with e; omega)
    refine ret_nfa2 rfl rfl h5 rfl ?_
    refine ⟨hBe, .agg (nfaC 0 none 0 0 none 0 0), ?_, ?_⟩
    · rw [HE.out]; rfl
    · rw [HE.out]; exact NfaAt.none_ _
  have hrb1 : decide (32 ≤ rule) = false := by simpa using hr1
  obtain ⟨r, rfl⟩ := Int.eq_ofNat_of_zero_le (show 0 ≤ rule by omega)
  have hr32 : r < 32 := by omega
  have hbo := Hbf.out.symm.trans (buildF_ok hT hU hr32)
  have HBO := Lib.hid hbo
  obtain ⟨hg1, hg2, hg3⟩ := Hgood.out hT
  clear hbo HB2 Hbf Hgood
  go_upto_region 9 with (first | (refine wl_build_mkP rfl rfl ?_) | (refine wl_box_mkP rfl _ rfl rfl ?_))
  have hk := Blk.new w4 90 (mkP 0 (.slice none 0 0))
  have hB5 : Below w4.heap.size w4 (w4.alloc (.cells (mkP 0 (.slice none 0 0)) 90)) := below_alloc (Below.refl _ _) _
  obtain ⟨w5, hw5⟩ : ∃ y, y = w4.alloc (.cells (mkP 0 (.slice none 0 0)) 90) := ⟨_, rfl⟩
  rw [← hw5] at hk hB5 ⊢
  clear hw5
  replace h1 := blk_then h1 hB5
  replace h4 := blk_then h4 hB5
  have hsz4 := hBw.size
  replace hBw := below_then hBw hB5
  obtain ⟨gk, hgk⟩ : ∃ g, g = w4.heap.size := ⟨_, rfl⟩
  rw [← hgk] at hk hsz4
  try rw [← hgk]
  clear hgk hB5 hrb hrb1 hVb hV0b
  have hgl := hk.lt
  have hne1 : some w.heap.size ≠ some gk := fun e => Blk.ne_ h1 hk (by decide) (by injection e)
  have hne4 : some g4 ≠ some gk := fun e => Blk.ne_ h4 hk (by decide) (by injection e)
  refine wp_region_stepsR (rw := some gk) (i0 := 3) 4 [eqS (.pointer (some ⟨gk, 0, none⟩)), eqS (.agg (nodeC kd st A n c mi ma)), eqS (.pointer (some ⟨gk, 0, none⟩)), stS gk (.slice none 0 0)] [29, 30, 31, 32] rfl ?_ (by kernel_rfl) rfl ?_ ?_
  · intro j hj v wa wb hp hg
    match j, hj, hp with
    | 0, _, hp => exact hp
    | 1, _, hp => exact hp
    | 2, _, hp => exact hp
    | 3, hj, _ => exact absurd rfl hj
    | j + 4, _, hp => exact hp
  · skip
    refine StepsR.cons (fun a' w' hG hW hP dep => GStepR.of (gs_move (want_none rfl) _ rfl (hG.other 7 rfl))) ?_
    refine StepsR.cons (fun a' w' hG hW hP dep => GStepR.of (gs_load_node (want_none rfl) _ rfl w.heap.size (hG.other 2 rfl) kd st A n c mi ma (h1.grown hW hne1) rfl)) ?_
    refine StepsR.cons (fun a' w' hG hW hP dep => GStepR.of (gs_move (want_none rfl) _ rfl (hG.other 7 rfl))) ?_
    refine StepsR.cons (fun a' w' hG hW hP dep => GStepR.call (want_none rfl) _ _ _ rfl enter_pstate _ (map1 (dep 2 rfl 31 rfl)) ((pstate_g gk 0 (.slice none 0 0) w' (blk_then hk (hP rfl)) (by omega)).mono fun e w2 ⟨he, hb, hg⟩ => ⟨_, he, hg, ⟨rfl, hb⟩⟩)) ?_
    exact StepsR.nil
  intro uf w6 hW6 ans
  have v29 : uf 29 = .pointer (some ⟨gk, 0, none⟩) := ans 0 29 (by decide) rfl
  have v30 : uf 30 = .agg (nodeC kd st A n c mi ma) := ans 1 30 (by decide) rfl
  obtain ⟨v32, hk6⟩ := ans 3 32 (by decide) rfl
  clear ans
  simp only [putAll, List.foldl_cons, List.foldl_nil, Act.put, List.setIfInBounds_toArray, List.set_cons_zero, List.set_cons_succ, v29, v30, v32]
  clear v29 v30 v32
  simp only [List.drop]
  have hBw6 := hBw.grown hW6 (by have := hBw.size; omega) (fun j e => by injection e with e; omega)
  have h46 : Blk w6 g4 52 _ := h4.grown hW6 hne4
  have hMk : MkIs 90 mkP w6 gk gk ⟨1, []⟩ := ⟨_, hk6, Own.nil_ _ _ _ _ _, Nat.le_refl _⟩
  have hin6 := NdIn.keep (w' := w6) (fun j hj => hBw6.block j (by omega)) Hin.out
  have hcl := Hlay.out gk gk B ⟨1, []⟩ 0 w6 _ hin6 (by omega) hT hMk (by show 1 + nd.U ≤ _; omega) (by show 0 + 3 * nd.U ≤ _; omega)
  refine wl_call rfl _ _ _ rfl enter_play #[.pointer (some ⟨gk, 0, none⟩), .agg (nodeC kd st A n c mi ma), .int .i64 ((0 : Nat) : Int)] (map3 rfl rfl rfl) ?_
  refine hcl.mono ?_
  rintro e w7 ⟨rfl, hM7, hF7⟩
  refine ⟨_, rfl, ?_⟩
  have hlay : nd.lay ⟨1, []⟩ 0 = layF nd := rfl
  rw [hlay] at hM7
  obtain ⟨m, hm⟩ : ∃ m, m = layF nd := ⟨_, rfl⟩
  simp only [hlay]
  rw [← hm] at hM7 hg1 hg2 hg3
  have hbo := HBO.out
  rw [← hm] at hbo
  rw [← hm]
  replace HBO := Lib.hid hbo
  have hBw7 := Below.fr hBw6 hF7 (by omega) (by have := hBw6.size; omega)
  have h47 := blk_fr h46 hF7 (.inr ⟨by decide, by decide⟩)
  have hms : m.1.s ≤ 2048 := by omega
  have hme : m.1.e.length ≤ 6144 := by omega
  clear hbo hm hlay hcl hin6 hMk hk6 hW6 hF7 h46 hBw6 hBw h1 h4 hk hg1 hg2 hT hU Hlay hne1 hne4 hr0 hr1
  simp only [Act.put, List.setIfInBounds_toArray, List.set_cons_zero, List.set_cons_succ]
  obtain ⟨v, hk7, hE7, -⟩ := hM7
  have c0 : w7.cell? ⟨gk, 0, none⟩ = some (.int .i64 (m.1.s : Int)) := hk7.cellv (i := 0) rfl
  go_upto_region 10 with (fail)
  obtain ⟨Ae, ke, rfl, _, _⟩ := hE7.shape
  have hgl7 := hk7.lt
  go_upto_region 11 with (first | (refine wl_makeR rfl _ _ rfl m.1.s w7.heap.size rfl rfl (by omega) (Nat.le_refl _) ?_; intro w8 hR8 hB8; have hk8 := blk_then hk7 hB8) | (refine wl_store_cell rfl _ _ _ rfl gk 2 rfl _ _ (nfaC (m.1.s : Int) Ae m.1.e.length ke (some ⟨w7.heap.size, 0, none⟩) m.1.s m.1.s) hk8 (by simp [mkP]) info_rules1 rfl rfl rfl ?_; intro w9 hk9 hg9))
  have hR9 := own_box hR8 hk8 hg9 (by decide)
  have hE9 := own_box (hE7.then_ hB8) hk8 hg9 (by decide)
  have h48 := blk_then h47 hB8
  have h49 : Blk w9 g4 52 _ := h48.grown hg9 (fun e => Blk.ne_ h48 hk8 (by decide) (by injection e))
  have hBw9 := (below_then hBw7 hB8).grown hg9 (by have := hBw7.size; have := hB8.size; omega) (fun j e => by injection e with e; omega)
  obtain ⟨gR, hgR⟩ : ∃ g, g = w7.heap.size := ⟨_, rfl⟩
  rw [← hgR] at hR9 hk9
  try rw [← hgR]
  have hgR1 : gk < gR := by omega
  clear hR8 hk8 hg9 hE7 hB8 hk7 h47 h48 c0 hBw7 hgR hgl7
  refine wp_region_steps 9 [eqS (.pointer (some ⟨gk, 0, none⟩)), eqS (.pointer (some ⟨gk, 0, none⟩)), eqS (.pointer (some ⟨gk, 0, none⟩)), eqS (.pointer (some ⟨gk, 2, none⟩)), eqS (.slice (some ⟨gR, 0, none⟩) m.1.s m.1.s), eqS (.int .i64 (m.2 : Int)), eqS (.int .i64 (r : Int)), eqS (.int .u32 ((2 ^ r : Nat) : Int)), eqS (.pointer (some ⟨gR, m.2, none⟩))] [44, 45, 46, 47, 48, 49, 50, 51, 52] rfl (by kernel_rfl) rfl ?_ ?_
  · skip
    refine Steps.cons (fun a' w' hG hB dep => gs_move (want_none rfl) _ rfl (hG.other 7 rfl)) ?_
    refine Steps.cons (fun a' w' hG hB dep => gs_nil (want_none rfl) _ rfl _ (dep 0 rfl 44 rfl) rfl) ?_
    refine Steps.cons (fun a' w' hG hB dep => gs_field (want_none rfl) _ _ _ rfl gk 0 0 (dep 1 rfl 45 rfl) (fun wz => field_maker_0 gk 0 wz) rfl) ?_
    refine Steps.cons (fun a' w' hG hB dep => gs_field (want_none rfl) _ _ _ rfl gk 0 2 (dep 2 rfl 46 rfl) (fun wz => field_nfa_2 gk 0 wz) rfl) ?_
    refine Steps.cons (fun a' w' hG hB dep => gs_load1 (want_none rfl) _ _ rfl gk 2 (dep 3 rfl 47 rfl) (.slice (some ⟨gR, 0, none⟩) m.1.s m.1.s) ((blk_then hk9 hB).cellv (i := 2) rfl) _ Try.underlying50 rfl rfl) ?_
    refine Steps.cons (fun a' w' hG hB dep => gs_move (want_none rfl) _ rfl (hG.other 8 rfl)) ?_
    refine Steps.cons (fun a' w' hG hB dep => gs_move (want_none rfl) _ rfl (hG.other 1 rfl)) ?_
    refine Steps.cons (fun a' w' hG hB dep => gs_shl_u32 (want_none rfl) _ _ _ rfl r hr32 rfl (dep 6 rfl 50 rfl) rfl) ?_
    refine Steps.cons (fun a' w' hG hB dep => gs_index (want_none rfl) _ _ _ rfl under_rules 1 size_ruleE gR 0 m.1.s m.1.s m.2 (dep 4 rfl 48 rfl) (dep 5 rfl 49 rfl) hg3 (congrArg (fun q => Value.pointer (some ⟨gR, q, none⟩)) (by omega))) ?_
    exact Steps.nil
  intro uz w10 hB10 ans
  have v51 : uz 51 = .int .u32 ((2 ^ r : Nat) : Int) := ans 7 51 (by decide) rfl
  have v52 : uz 52 = .pointer (some ⟨gR, m.2, none⟩) := ans 8 52 (by decide) rfl
  clear ans
  simp only [putAll, List.foldl_cons, List.foldl_nil, Act.put, List.setIfInBounds_toArray, List.set_cons_zero, List.set_cons_succ, v51, v52]
  clear v51 v52
  simp only [List.drop]
  have hR10 := hR9.then_ hB10
  refine wl_store_rule rfl _ _ rfl gR m.2 m.1.s m.1.s rfl (2 ^ r) rfl hR10 (by rw [List.length_replicate]; exact hg3) ?_
  intro w11 hR11 hg11
  refine wpList_nil ?_
  have hE11 := own_own (hE9.then_ hB10) hR10 hg11 (by decide)
  have hk11 : Blk w11 gk 90 _ := (blk_then hk9 hB10).grown hg11 (fun e => by injection e with e; omega)
  have h411 : Blk w11 g4 52 _ := (blk_then h49 hB10).grown hg11 (fun e => own_blk_ne hR10 (blk_then h49 hB10) (by decide) e.symm)
  have hBw11 := (below_then hBw9 hB10).grown hg11 (by have := hBw9.size; have := hB10.size; omega) (fun j e => by injection e with e; omega)
  clear hR10 hR9 hE9 hk9 h49 hBw9 hB10 hg11
  go_wp2_with (first | (refine wl_load_nfa_at rfl _ rfl gk 0 rfl _ _ _ _ _ _ _ (RowAt.of_blk hk11) ?_) | (refine wl_store_nfa rfl _ _ rfl g4 _ _ _ _ _ _ _ rfl rfl _ _ _ _ _ _ _ h411 ?_; intro w12 h412 hg12))
  have hR12 := own_box hR11 h411 hg12 (by decide)
  have hE12 := own_box hE11 h411 hg12 (by decide)
  have hBe := hBw11.grown hg12 (by have := hBw11.size; omega) (fun j e => by injection e with e; omega)
  refine ret_nfa2 rfl rfl h412 rfl ?_
  refine ⟨hBe, .agg (nfaC (m.1.s : Int) Ae m.1.e.length ke (some ⟨gR, 0, none⟩) m.1.s m.1.s), ?_, ?_⟩
  · rw [HBO.out]; rfl
  · rw [HBO.out]
    exact ⟨Ae, ke, some ⟨gR, 0, none⟩, m.1.s, by simp, hE12.slice_all edgC_size, hR12.slice_all encR_size⟩
end Go.Proofs.Ytajainmldcnaeaa
namespace Go.Proofs.Ytajainmldcnaeaa
open Go.RowKit Go.Maps
set_option linter.unusedVariables false
set_option linter.unusedSimpArgs false
attribute [local go_sem] Oper.semAt_some

def inS (s v : Int) : Bool := decide (0 ≤ v) && decide (v < s)
theorem in_any (s : Int) (A : Option Addr) (n c : Nat) (B : Option Addr) (m d : Nat) (g : Nat) (v : Int) (w : World) (hb : Blk w g 52 (nfaC s A n c B m d)) :
    Calls Try.prog 51 #[.int .i64 v, .pointer (some ⟨g, 0, none⟩)] w fun e w' => e = .returned (.bool (inS s v)) ∧ w' = w := by
  have c0 : w.cell? ⟨g, 0, none⟩ = some (.int .i64 s) := hb.cellv (i := 0) rfl
  go_enter Try.func51, Try.ntmps51
  by_cases h : 0 ≤ v
  · have h2 : (0 ≤ v) = True := by simpa using h
    go_wp2_with (fail)
    go_ret
    exact ⟨by simp [inS, h], rfl⟩
  · go_wp2_with (fail)
    go_ret
    refine ⟨?_, rfl⟩
    simp only [inS]
    rw [decide_eq_false (show ¬ 0 ≤ v by omega)]
    rfl
theorem enter_in (args : Array Value) (w : World) : (callFunc 51 args).run Try.prog w = .ok (.enter 51 args) w := by kernel_rfl
/-- an edge that fits a machine of s states -/
def badE (s : Int) (d : Edg) : Bool := ((((decide (d.kd < 1) || decide (4 < d.kd)) || !inS s d.fr) || !inS s d.tt) || ((d.kd != 2) && !decide (d.st = 0)))
def rightB (s : Int) (E : List Edg) (m : Nat) : Bool := decide (1 ≤ s) && decide ((m : Int) = s) && E.all fun d => !badE s d
set_option maxRecDepth 100000 in
set_option maxHeartbeats 4000000 in
theorem right_any (s : Int) (A : Option Addr) (n c0 : Nat) (B : Option Addr) (m d0 : Nat) (E : List Edg) (hn : n = E.length) (hE : E.length ≤ 1099511627776) (w : World) (hs : SliceOf w w.heap.size 7 edgC A E) :
    Calls Try.prog 29 #[.agg (nfaC s A n c0 B m d0)] w fun e w' => e = .returned (.bool (rightB s E m)) ∧ Below w.heap.size w w' := by
  obtain ⟨l, hl⟩ : ∃ l, l = E := ⟨_, rfl⟩
  rw [← hl] at hn hE hs ⊢
  clear hl
  have Hn := Lib.hid hn
  have hn2 : n ≤ 1099511627776 := by omega
  clear hn
  go_enter Try.func29, Try.ntmps29
  have h1 := Blk.new w 52 (nfaC s A n c0 B m d0)
  have hB1 : Below w.heap.size w (w.alloc (.cells (nfaC s A n c0 B m d0) 52)) := below_alloc (Below.refl _ _) _
  go_upto_region 1 with (fail)
  obtain ⟨W1, hW1⟩ : ∃ y, y = w.alloc (.cells (nfaC s A n c0 B m d0) 52) := ⟨_, rfl⟩
  rw [← hW1] at h1 hB1 ⊢
  clear hW1
  have c1 : W1.cell? ⟨w.heap.size, 0, none⟩ = some (.int .i64 s) := h1.cellv (i := 0) rfl
  have c2 : W1.cell? ⟨w.heap.size, 1, none⟩ = some (.slice A n c0) := h1.cellv (i := 1) rfl
  have c3 : W1.cell? ⟨w.heap.size, 2, none⟩ = some (.slice B m d0) := h1.cellv (i := 2) rfl
  by_cases hs1 : s < 1
  · have hs1b : decide (s < 1) = true := by simpa using hs1
    go_wp2_with (fail)
    go_ret
    refine ⟨?_, hB1⟩
    unfold rightB
    rw [decide_eq_false (show ¬ 1 ≤ s by omega)]
    rfl
  by_cases hsm : ¬ (m : Int) = s
  · have hsb : ((m : Int) == s) = false := by simpa using hsm
    go_wp2_with (fail)
    go_ret
    refine ⟨?_, hB1⟩
    unfold rightB
    rw [decide_eq_false hsm, Bool.and_false]
    rfl
  have hsm := Classical.not_not.1 hsm
  have hr0 : ∀ b, l.all (fun d => !badE s d) = b → rightB s l m = b := fun b hb => by
    unfold rightB
    rw [decide_eq_true (show 1 ≤ s by omega), decide_eq_true hsm, hb]
    rfl
  have Hr0 := Lib.hid hr0
  have hms : ((m : Int) != s) = false := by simpa using hsm
  have hlw := h1.lt
  clear hr0
  go_wp2_with (fail)
  clear c1 c2 c3
  go_loopw [21] (fun i wr => ∃ k : Nat, k ≤ n ∧ i = .int .i64 k ∧ Blk wr w.heap.size 52 (nfaC s A n c0 B m d0) ∧ Hid ((l.take k).all (fun d => !badE s d) = true) ∧ Below w.heap.size w wr ∧ w.heap.size < wr.heap.size) (fun i _ => n - (intOf i).toNat)
  case atStart => exact ⟨0, by omega, rfl, h1, Lib.hid rfl, hB1, hlw⟩
  case round =>
    clear h1 hB1 hlw
    obtain ⟨k, hk, rfl, h1, hall, hB1, hlw⟩ := hrel
    by_cases hkl : k < n
    · have hkI : (k : Int) < n := by omega
      have hkl2 : k < l.length := by rw [← Hn.out]; exact hkl
      obtain ⟨b, off, rfl, hb, hrows⟩ := hs.at_ (by omega)
      have hr0 := (hrows k hkl2).keep (hB1.block b hb)
      obtain ⟨dd, hd⟩ : ∃ d, d = l[k] := ⟨_, rfl⟩
      rw [← hd] at hr0
      have hst : (l.take (k + 1)).all (fun d => !badE s d) = !badE s dd := by
        rw [List.take_succ_eq_append_getElem hkl2, List.all_append, hall.out, ← hd]
        simp
      have hbad : badE s dd = true → l.all (fun d => !badE s d) = false := fun h => by
        rw [List.all_eq_false]
        exact ⟨dd, by rw [hd]; exact List.getElem_mem hkl2, by rw [h]; simp⟩
      have Hst := Lib.hid hst
      have Hbad := Lib.hid hbad
      clear hst hbad hd
      have hkb : k < 1099511628000 := by omega
      go_upto_region 7 with (first | (refine wl_load_edge_at rfl _ rfl _ _ rfl _ hr0 ?_) | (refine wl_store_edge rfl _ _ rfl _ _ rfl rfl edge0 (Blk.new _ _ _) ?_; intro w3 h5 hg3))
      have hB3 := below_grown (below_alloc (Below.refl _ wr) (.cells #[.int .i64 0, .int .i64 0, .int .i64 0, .int .u64 0, .int .u64 0, .int .u64 0, .int .u64 0] 67)) hg3 (Nat.le_refl _)
      replace h1 := blk_then h1 hB3
      replace hB1 := below_then hB1 hB3
      replace hlw := Nat.lt_of_lt_of_le hlw hB3.size
      clear hr0 hg3
      obtain ⟨k1, hk1⟩ : ∃ q, decide (dd.kd < 1) = q := ⟨_, rfl⟩
      obtain ⟨k4, hk4⟩ : ∃ q, decide (4 < dd.kd) = q := ⟨_, rfl⟩
      obtain ⟨k2, hk2⟩ : ∃ q, (dd.kd != 2) = q := ⟨_, rfl⟩
      obtain ⟨f, hf⟩ : ∃ q, inS s dd.fr = q := ⟨_, rfl⟩
      obtain ⟨t, ht⟩ : ∃ q, inS s dd.tt = q := ⟨_, rfl⟩
      obtain ⟨z, hz⟩ : ∃ q, (!decide (dd.st = 0)) = q := ⟨_, rfl⟩
      have hbd : badE s dd = ((((k1 || k4) || !f) || !t) || (k2 && z)) := by unfold badE; rw [hk1, hk4, hk2, hf, ht, hz]
      refine wp_region_text 33 [eqS (.pointer (some ⟨wr.heap.size, 0, none⟩)), eqS (.int .i64 dd.kd), eqS (.bool k1), eqS (.bool k1), eqS (vF (!k1) (.pointer (some ⟨wr.heap.size, 0, none⟩))), eqS (vF (!k1) (.int .i64 dd.kd)), eqS (vF (!k1) (.bool k4)), eqS (.bool (k1 || k4)), eqS (.bool (k1 || k4)), eqS (vF (!(k1 || k4)) (.func (.func 51) #[] #[.pointer (some ⟨w.heap.size, 0, none⟩)])), eqS (vF (!(k1 || k4)) (.pointer (some ⟨wr.heap.size, 1, none⟩))), eqS (vF (!(k1 || k4)) (.int .i64 dd.fr)), eqS (vF (!(k1 || k4)) (.bool f)), eqS (vF (!(k1 || k4)) (.bool (!f))), eqS (.bool ((k1 || k4) || !f)), eqS (.bool ((k1 || k4) || !f)), eqS (vF (!((k1 || k4) || !f)) (.func (.func 51) #[] #[.pointer (some ⟨w.heap.size, 0, none⟩)])), eqS (vF (!((k1 || k4) || !f)) (.pointer (some ⟨wr.heap.size, 2, none⟩))), eqS (vF (!((k1 || k4) || !f)) (.int .i64 dd.tt)), eqS (vF (!((k1 || k4) || !f)) (.bool t)), eqS (vF (!((k1 || k4) || !f)) (.bool (!t))), eqS (.bool (((k1 || k4) || !f) || !t)), eqS (.bool (((k1 || k4) || !f) || !t)), eqS (vF (!(((k1 || k4) || !f) || !t)) (.pointer (some ⟨wr.heap.size, 0, none⟩))), eqS (vF (!(((k1 || k4) || !f) || !t)) (.int .i64 dd.kd)), eqS (vF (!(((k1 || k4) || !f) || !t)) (.bool k2)), eqS (vF (!(((k1 || k4) || !f) || !t)) (.bool k2)), eqS (vF (!(((k1 || k4) || !f) || !t) && k2) (.pointer (some ⟨wr.heap.size, 3, none⟩))), eqS (vF (!(((k1 || k4) || !f) || !t) && k2) (.agg (setC dd.st))), eqS (vF (!(((k1 || k4) || !f) || !t) && k2) (.agg (setC 0))), eqS (vF (!(((k1 || k4) || !f) || !t) && k2) (.bool z)), eqS (vF (!(((k1 || k4) || !f) || !t)) (.bool (k2 && z))), eqS (.bool ((((k1 || k4) || !f) || !t) || (k2 && z)))] [25, 26, 27, 28, 29, 30, 31, 32, 33, 34, 35, 36, 37, 38, 39, 40, 41, 42, 43, 44, 45, 46, 47, 48, 49, 50, 51, 52, 53, 54, 55, 56, 57] (by kernel_rfl) rfl ?_ ?_
      · skip
        refine Steps.cons (fun a' w' hG hB dep => gs_field (want_none rfl) _ _ _ rfl wr.heap.size 0 0 (hG.other 5 rfl) (field_edge_0 _ _) rfl) ?_
        refine Steps.cons (fun a' w' hG hB dep => gs_load1 (want_none rfl) _ _ rfl wr.heap.size 0 (dep 0 rfl 25 rfl) (.int .i64 dd.kd) ((blk_then h5 hB).cellv (i := 0) rfl) _ Try.underlying3 rfl rfl) ?_
        refine Steps.cons (fun a' w' hG hB dep => gs_lss_int (want_none rfl) _ _ _ _ rfl _ _ _ (dep 1 rfl 26 rfl) rfl (congrArg Value.bool hk1)) ?_
        refine Steps.cons (fun a' w' hG hB dep => gs_move (want_none rfl) _ rfl (dep 2 rfl 27 rfl)) ?_
        refine Steps.cons (fun a' w' hG hB dep => gs_guard (c := true) rfl rfl (dep 3 rfl 28 rfl) (fun _ e hw => gs_field hw _ _ _ rfl wr.heap.size 0 0 (hG.other 5 rfl) (field_edge_0 _ _) (vF_yes (on_not e) _).symm) (fun e => vF_no (off_not e) _)) ?_
        refine Steps.cons (fun a' w' hG hB dep => gs_guard (c := true) rfl rfl (dep 3 rfl 28 rfl) (fun _ e hw => gs_load1 hw _ _ rfl wr.heap.size 0 (Eq.trans (dep 4 rfl 29 rfl) (vF_yes (on_not e) _)) (.int .i64 dd.kd) ((blk_then h5 hB).cellv (i := 0) rfl) _ Try.underlying3 rfl (vF_yes (on_not e) _).symm) (fun e => vF_no (off_not e) _)) ?_
        refine Steps.cons (fun a' w' hG hB dep => gs_guard (c := true) rfl rfl (dep 3 rfl 28 rfl) (fun _ e hw => gs_gtr_int hw _ _ _ _ rfl _ _ _ (Eq.trans (dep 5 rfl 30 rfl) (vF_yes (on_not e) _)) rfl ((congrArg Value.bool hk4).trans (vF_yes (on_not e) _).symm)) (fun e => vF_no (off_not e) _)) ?_
        refine Steps.cons (fun a' w' hG hB dep => gs_pick (want_none rfl) _ _ _ rfl k1 (dep 3 rfl 28 rfl) (pick_or (dep 6 rfl 31 rfl))) ?_
        refine Steps.cons (fun a' w' hG hB dep => gs_move (want_none rfl) _ rfl (dep 7 rfl 32 rfl)) ?_
        refine Steps.cons (fun a' w' hG hB dep => gs_guard (c := true) rfl rfl (dep 8 rfl 33 rfl) (fun _ e hw => gs_move hw _ rfl (Eq.trans (hG.other 3 rfl) (vF_yes (on_not e) _).symm)) (fun e => vF_no (off_not e) _)) ?_
        refine Steps.cons (fun a' w' hG hB dep => gs_guard (c := true) rfl rfl (dep 8 rfl 33 rfl) (fun _ e hw => gs_field hw _ _ _ rfl wr.heap.size 0 1 (hG.other 5 rfl) (field_edge_1 _ _) (vF_yes (on_not e) _).symm) (fun e => vF_no (off_not e) _)) ?_
        refine Steps.cons (fun a' w' hG hB dep => gs_guard (c := true) rfl rfl (dep 8 rfl 33 rfl) (fun _ e hw => gs_load1 hw _ _ rfl wr.heap.size 1 (Eq.trans (dep 10 rfl 35 rfl) (vF_yes (on_not e) _)) (.int .i64 dd.fr) ((blk_then h5 hB).cellv (i := 1) rfl) _ Try.underlying3 rfl (vF_yes (on_not e) _).symm) (fun e => vF_no (off_not e) _)) ?_
        refine Steps.cons (fun a' w' hG hB dep => gs_guard (c := true) rfl rfl (dep 8 rfl 33 rfl) (fun _ e hw => gs_callv hw 51 _ _ _ _ rfl (Eq.trans (dep 9 rfl 34 rfl) (vF_yes (on_not e) _)) enter_in _ (map1c _ (Eq.trans (dep 11 rfl 36 rfl) (vF_yes (on_not e) _))) ((in_any _ _ _ _ _ _ _ _ _ _ (blk_then h1 hB)).mono fun e2 w2 ⟨he, hb⟩ => ⟨_, he, by rw [hb]; exact Below.refl _ _, (congrArg Value.bool hf).trans (vF_yes (on_not e) _).symm⟩)) (fun e => vF_no (off_not e) _)) ?_
        refine Steps.cons (fun a' w' hG hB dep => gs_guard (c := true) rfl rfl (dep 8 rfl 33 rfl) (fun _ e hw => gs_not_bool hw _ _ rfl _ (Eq.trans (dep 12 rfl 37 rfl) (vF_yes (on_not e) _)) (vF_yes (on_not e) _).symm) (fun e => vF_no (off_not e) _)) ?_
        refine Steps.cons (fun a' w' hG hB dep => gs_pick (want_none rfl) _ _ _ rfl (k1 || k4) (dep 8 rfl 33 rfl) (pick_or (dep 13 rfl 38 rfl))) ?_
        refine Steps.cons (fun a' w' hG hB dep => gs_move (want_none rfl) _ rfl (dep 14 rfl 39 rfl)) ?_
        refine Steps.cons (fun a' w' hG hB dep => gs_guard (c := true) rfl rfl (dep 15 rfl 40 rfl) (fun _ e hw => gs_move hw _ rfl (Eq.trans (hG.other 3 rfl) (vF_yes (on_not e) _).symm)) (fun e => vF_no (off_not e) _)) ?_
        refine Steps.cons (fun a' w' hG hB dep => gs_guard (c := true) rfl rfl (dep 15 rfl 40 rfl) (fun _ e hw => gs_field hw _ _ _ rfl wr.heap.size 0 2 (hG.other 5 rfl) (field_edge_2 _ _) (vF_yes (on_not e) _).symm) (fun e => vF_no (off_not e) _)) ?_
        refine Steps.cons (fun a' w' hG hB dep => gs_guard (c := true) rfl rfl (dep 15 rfl 40 rfl) (fun _ e hw => gs_load1 hw _ _ rfl wr.heap.size 2 (Eq.trans (dep 17 rfl 42 rfl) (vF_yes (on_not e) _)) (.int .i64 dd.tt) ((blk_then h5 hB).cellv (i := 2) rfl) _ Try.underlying3 rfl (vF_yes (on_not e) _).symm) (fun e => vF_no (off_not e) _)) ?_
        refine Steps.cons (fun a' w' hG hB dep => gs_guard (c := true) rfl rfl (dep 15 rfl 40 rfl) (fun _ e hw => gs_callv hw 51 _ _ _ _ rfl (Eq.trans (dep 16 rfl 41 rfl) (vF_yes (on_not e) _)) enter_in _ (map1c _ (Eq.trans (dep 18 rfl 43 rfl) (vF_yes (on_not e) _))) ((in_any _ _ _ _ _ _ _ _ _ _ (blk_then h1 hB)).mono fun e2 w2 ⟨he, hb⟩ => ⟨_, he, by rw [hb]; exact Below.refl _ _, (congrArg Value.bool ht).trans (vF_yes (on_not e) _).symm⟩)) (fun e => vF_no (off_not e) _)) ?_
        refine Steps.cons (fun a' w' hG hB dep => gs_guard (c := true) rfl rfl (dep 15 rfl 40 rfl) (fun _ e hw => gs_not_bool hw _ _ rfl _ (Eq.trans (dep 19 rfl 44 rfl) (vF_yes (on_not e) _)) (vF_yes (on_not e) _).symm) (fun e => vF_no (off_not e) _)) ?_
        refine Steps.cons (fun a' w' hG hB dep => gs_pick (want_none rfl) _ _ _ rfl ((k1 || k4) || !f) (dep 15 rfl 40 rfl) (pick_or (dep 20 rfl 45 rfl))) ?_
        refine Steps.cons (fun a' w' hG hB dep => gs_move (want_none rfl) _ rfl (dep 21 rfl 46 rfl)) ?_
        refine Steps.cons (fun a' w' hG hB dep => gs_guard (c := true) rfl rfl (dep 22 rfl 47 rfl) (fun _ e hw => gs_field hw _ _ _ rfl wr.heap.size 0 0 (hG.other 5 rfl) (field_edge_0 _ _) (vF_yes (on_not e) _).symm) (fun e => vF_no (off_not e) _)) ?_
        refine Steps.cons (fun a' w' hG hB dep => gs_guard (c := true) rfl rfl (dep 22 rfl 47 rfl) (fun _ e hw => gs_load1 hw _ _ rfl wr.heap.size 0 (Eq.trans (dep 23 rfl 48 rfl) (vF_yes (on_not e) _)) (.int .i64 dd.kd) ((blk_then h5 hB).cellv (i := 0) rfl) _ Try.underlying3 rfl (vF_yes (on_not e) _).symm) (fun e => vF_no (off_not e) _)) ?_
        refine Steps.cons (fun a' w' hG hB dep => gs_guard (c := true) rfl rfl (dep 22 rfl 47 rfl) (fun _ e hw => gs_neq_int hw _ _ _ _ rfl _ _ _ (Eq.trans (dep 24 rfl 49 rfl) (vF_yes (on_not e) _)) rfl ((congrArg Value.bool hk2).trans (vF_yes (on_not e) _).symm)) (fun e => vF_no (off_not e) _)) ?_
        refine Steps.cons (fun a' w' hG hB dep => gs_guard (c := true) rfl rfl (dep 22 rfl 47 rfl) (fun _ e hw => gs_move hw _ rfl (dep 25 rfl 50 rfl)) (fun e => vF_no (off_not e) _)) ?_
        refine Steps.cons (fun a' w' hG hB dep => gs_guard (c := !(((k1 || k4) || !f) || !t)) rfl rfl (dep 26 rfl 51 rfl) (fun c e hw => gs_field hw _ _ _ rfl wr.heap.size 0 3 (hG.other 5 rfl) (field_edge_3 _ _) (vF_and c e _).symm) (fun e => vF_no (off_and e) _)) ?_
        refine Steps.cons (fun a' w' hG hB dep => gs_guard (c := !(((k1 || k4) || !f) || !t)) rfl rfl (dep 26 rfl 51 rfl) (fun c e hw => gs_load_set_at hw _ rfl wr.heap.size 3 (Eq.trans (dep 27 rfl 52 rfl) (vF_and c e _)) dd.st ((blk_then h5 hB).st) (vF_and c e _).symm) (fun e => vF_no (off_and e) _)) ?_
        refine Steps.cons (fun a' w' hG hB dep => gs_guard (c := !(((k1 || k4) || !f) || !t)) rfl rfl (dep 26 rfl 51 rfl) (fun c e hw => gs_build_set0 hw rfl (vF_and c e _).symm) (fun e => vF_no (off_and e) _)) ?_
        refine Steps.cons (fun a' w' hG hB dep => gs_guard (c := !(((k1 || k4) || !f) || !t)) rfl rfl (dep 26 rfl 51 rfl) (fun c e hw => gs_neq_set hw _ _ _ rfl _ _ (Eq.trans (dep 28 rfl 53 rfl) (vF_and c e _)) (Eq.trans (dep 29 rfl 54 rfl) (vF_and c e _)) ((congrArg Value.bool hz).trans (vF_and c e _).symm)) (fun e => vF_no (off_and e) _)) ?_
        refine Steps.cons (fun a' w' hG hB dep => gs_guard (c := true) rfl rfl (dep 22 rfl 47 rfl) (fun _ e hw => gs_pick hw _ _ _ rfl k2 (Eq.trans (dep 26 rfl 51 rfl) (vF_yes (on_not e) _)) ((pick_and ((dep 30 rfl 55 rfl).trans (congrArg (fun q => vF (q && k2) (.bool z)) (on_not e)))).trans (vF_yes (on_not e) _).symm)) (fun e => vF_no (off_not e) _)) ?_
        refine Steps.cons (fun a' w' hG hB dep => gs_pick (want_none rfl) _ _ _ rfl (((k1 || k4) || !f) || !t) (dep 22 rfl 47 rfl) (pick_or (dep 31 rfl 56 rfl))) ?_
        exact Steps.nil
      rw [← hbd]
      intro u W4 hB4 ans
      have u57 : u 57 = .bool (badE s dd) := ans 32 57 (by decide) rfl
      obtain ⟨q, hq⟩ : ∃ q, badE s dd = q := ⟨_, rfl⟩
      rw [hq] at u57
      clear ans hbd hk1 hk4 hk2 hf ht hz
      simp only [putAll, List.foldl_cons, List.foldl_nil, Act.put, List.setIfInBounds_toArray, List.set_cons_zero, List.set_cons_succ, u57]
      clear u57
      simp only [List.drop]
      refine wpList_nil ?_
      replace h1 := blk_then h1 hB4
      replace hB1 := below_then hB1 hB4
      replace hlw := Nat.lt_of_lt_of_le hlw hB4.size
      cases q
      · go_wp2_with (fail)
        exact ⟨⟨k + 1, by omega, rfl, h1, Lib.hid (Hst.out.trans (by rw [hq]; rfl)), hB1, hlw⟩, by simp only [intOf]; omega⟩
      · go_wp2_with (fail)
        go_ret
        exact ⟨by rw [Hr0.out _ (Hbad.out hq)]; rfl, hB1⟩
    · have hkI : ¬ (k : Int) < n := by omega
      go_wp2_with (fail)
      go_ret
      have hall2 := hall.out
      rw [List.take_of_length_le (by rw [← Hn.out]; omega)] at hall2
      exact ⟨by rw [Hr0.out _ hall2]; rfl, hB1⟩
end Go.Proofs.Ytajainmldcnaeaa
namespace Go.Proofs.Ytajainmldcnaeaa
open Go.RowKit Go.Maps
set_option linter.unusedVariables false
set_option linter.unusedSimpArgs false
attribute [local go_sem] Oper.semAt_some

def edge77 : Edg := { edge0 with kd := 77 }
section
variable {ops : Array Oper} {rest : List Oper} {o : Oper} {a : Act} {w : World} {Q : Exit → Act → World → Prop}
theorem wl_one {d : Edg} (hgd : o.guard = none) (x : Operand) (ho : o.op = .buildSlice 49 1 #[(0, x)]) (hx : a.eval x = .agg (edgC d))
    (h : wpList Try.prog ops Q rest (a.put o.dst (.slice (some ⟨w.heap.size, 0, none⟩) 1 1)) (w.alloc (.cells (edgC d) 67))) : wpList Try.prog ops Q (o :: rest) a w :=
  wl_run hgd (v := .slice (some ⟨w.heap.size, 0, none⟩) 1 1) (by unfold execOp; simp only [ho, List.map_toArray, List.map_cons, List.map_nil, hx, Sem.run_bind, run_edge1, Result.andThen_ok, Sem.run_pure]) h
end
/-- a machine in memory, with room behind its lists -/
structure CP where
  F : NF
  ge : Nat
  ce : Nat
  gu : Nat
  cu : Nat
def CP.C (x : CP) : Array Value := nfaC x.F.s (some ⟨x.ge, 0, none⟩) x.F.E.length x.ce (some ⟨x.gu, 0, none⟩) x.F.R.length x.cu
def CP.In (W : World) (base : Nat) (x : CP) : Prop :=
  Own W base 67 7 edgC (.slice (some ⟨x.ge, 0, none⟩) (x.F.E.length + 1) x.ce) (x.F.E ++ [edge77]) ∧ Own W base 57 1 encR (.slice (some ⟨x.gu, 0, none⟩) (x.F.R.length + 1) x.cu) (x.F.R ++ [77])
theorem CP.In.then_ {W W' : World} {base : Nat} {x : CP} (h : x.In W base) (hb : Below W.heap.size W W') : x.In W' base := ⟨h.1.then_ hb, h.2.then_ hb⟩
end Go.Proofs.Ytajainmldcnaeaa
namespace Go.Proofs.Ytajainmldcnaeaa
open Go.RowKit Go.Maps
set_option linter.unusedVariables false
set_option linter.unusedSimpArgs false
attribute [local go_sem] Oper.semAt_some

theorem gs_load_nfa {ops : Array Oper} {S : Nat → GSpec} {Q : Exit → Act → World → Prop} {i : Nat} {o : Oper} {a : Act} {w : World} (hw : Region.wanted o (yielded ops a.tmps) = true) (x : Operand) (ho : o.op = .load 52 x) (g : Nat) (hx : a.eval x = .pointer (some ⟨g, 0, none⟩)) (s : Int) (A : Option Addr) (n c : Nat) (B : Option Addr) (m d : Nat) (hg : Blk w g 52 (nfaC s A n c B m d))
    (hp : (S i).p (.agg (nfaC s A n c B m d)) w) : GStep Try.prog ops S Q i o a w :=
  gs_load hw _ x ho g hx _ _ hg _ Try.underlying52 rfl (info_nfaN.trans rfl) hp
theorem gs_add_nat {P : Program} {ops : Array Oper} {S : Nat → GSpec} {Q : Exit → Act → World → Prop} {i : Nat} {o : Oper} {a : Act} {w : World} (hw : Region.wanted o (yielded ops a.tmps) = true) (t t2 : TypeId) (x y : Operand) (ho : o.op = .binOp .add t x y t2) (p q r : Nat) (hx : a.eval x = .int .i64 p) (hy : a.eval y = .int .i64 q) (hr : p + q = r) (hr64 : r < 9223372036854775808)
    (hp : (S i).p (.int .i64 (r : Nat)) w) : GStep P ops S Q i o a w :=
  gs_bin hw _ _ _ x y ho _ _ _ hx hy (by rw [eqGuard_at_int]; rfl) (by
    have e : (p : Int) + q = r := by omega
    have e2 : IntKind.i64.wrap (r : Int) = r := by rw [IntKind.wrap_i64]; omega
    rw [binOp_add]
    simp [Op.intArith, e, e2]) hp
end Go.Proofs.Ytajainmldcnaeaa
namespace Go.Proofs.Ytajainmldcnaeaa
open Go.RowKit Go.Maps
set_option linter.unusedVariables false
set_option linter.unusedSimpArgs false
attribute [local go_sem] Oper.semAt_some

def shiftE (by_ : Int) (e : Edg) : Edg := ⟨e.kd, e.fr + by_, e.tt + by_, e.st⟩
def uStep (F x : NF) : NF := ⟨F.s + x.s, F.E ++ [⟨1, 0, F.s, 0⟩] ++ x.E.map (shiftE F.s), F.R ++ x.R⟩
def uFold (l : List NF) : NF := l.foldl uStep ⟨1, [], [0]⟩
def rightF (x : NF) : Bool := rightB x.s x.E x.R.length
def unionF (l : List NF) : NF × Int := if l.all rightF then (uFold l, 0) else (.none, 70)
theorem uFold_snoc (l : List NF) (x : NF) : uFold (l ++ [x]) = uStep (uFold l) x := by simp [uFold]
theorem right_parts {x : NF} (h : rightF x = true) : (x.R.length : Int) = x.s ∧ ∀ d ∈ x.E, 0 ≤ d.fr ∧ d.fr < x.s ∧ 0 ≤ d.tt ∧ d.tt < x.s := by
  unfold rightF rightB at h
  simp only [Bool.and_eq_true, decide_eq_true_eq, List.all_eq_true, Bool.not_eq_true'] at h
  refine ⟨h.1.2, fun d hd => ?_⟩
  have hb := h.2 d hd
  unfold badE at hb
  simp only [Bool.or_eq_false_iff, Bool.not_eq_false', inS, Bool.and_eq_true, decide_eq_true_eq] at hb
  exact ⟨hb.1.1.2.1, hb.1.1.2.2, hb.1.2.1, hb.1.2.2⟩
/-- what the folded machine's numbers are bounded by -/
theorem uFold_bound : ∀ (l : List NF), (∀ x ∈ l, rightF x = true ∧ x.E.length ≤ 1048576 ∧ x.R.length ≤ 1048576) → 1 ≤ (uFold l).s ∧ (uFold l).s ≤ 1 + l.length * 1048576 ∧ (uFold l).E.length ≤ l.length * 1048577 ∧ (uFold l).R.length ≤ 1 + l.length * 1048576 := by
  intro l
  obtain ⟨r, hr⟩ : ∃ r, r = l.reverse := ⟨_, rfl⟩
  have : l = r.reverse := by rw [hr, List.reverse_reverse]
  clear hr
  subst this
  induction r with
  | nil => intro _; simp [uFold]
  | cons x r ih =>
    intro h
    rw [List.reverse_cons] at h ⊢
    have h1 := ih (fun y hy => h y (by simp at hy ⊢; exact .inl hy))
    have h2 := h x (by simp)
    have h3 := (right_parts h2.1).1
    rw [uFold_snoc]
    simp only [uStep, List.length_append, List.length_cons, List.length_nil, List.length_map, List.length_reverse] at h1 ⊢
    omega
structure MV where
  F : NF
  A : Option Addr
  c : Nat
  B : Option Addr
  d : Nat
def MV.C (x : MV) : Array Value := nfaC x.F.s x.A x.F.E.length x.c x.B x.F.R.length x.d
theorem MV.C_size (x : MV) : x.C.size = 3 := rfl
def MsIn (w : World) (B : Nat) (l : List MV) : Prop := ∀ x ∈ l, SliceOf w B 7 edgC x.A x.F.E ∧ SliceOf w B 1 encR x.B x.F.R ∧ x.F.E.length ≤ 1048576 ∧ x.F.R.length ≤ 1048576
theorem MsIn.low {w w' : World} {B : Nat} {l : List MV} (h : MsIn w B l) (hb : Below B w w') : MsIn w' B l := fun x hx => ⟨(h x hx).1.below hb, (h x hx).2.1.below hb, (h x hx).2.2⟩
theorem MsIn.more {w : World} {B B' : Nat} {l : List MV} (h : MsIn w B l) (hb : B ≤ B') : MsIn w B' l := fun x hx => ⟨(h x hx).1.more hb, (h x hx).2.1.more hb, (h x hx).2.2⟩
theorem run_bs0 (w : World) : (Instr.buildSlice 50 1 #[(0, .int .u32 0)]).run Try.prog w = .ok (.slice (some ⟨w.heap.size, 0, none⟩) 1 1) (w.alloc (.cells (encR 0) 57)) := by kernel_rfl
theorem run_buildN1 (w : World) (B : Option Addr) (m d : Nat) : (Instr.build 52 #[(0, .int .i64 1), (2, .slice B m d)]).run Try.prog w = .ok (.agg (nfaC 1 none 0 0 B m d)) w := by kernel_rfl
theorem run_buildE0 (w : World) (x : Int) : (Instr.build 67 #[(0, .int .i64 1), (1, .int .i64 0), (2, .int .i64 x)]).run Try.prog w = .ok (.agg (edgC ⟨1, 0, x, 0⟩)) w := by kernel_rfl
section
variable {ops : Array Oper} {rest : List Oper} {o : Oper} {a : Act} {w : World} {Q : Exit → Act → World → Prop}
theorem wl_bs0 (hgd : o.guard = none) (ho : o.op = .buildSlice 50 1 #[(0, .const (.int .u32 0))])
    (h : wpList Try.prog ops Q rest (a.put o.dst (.slice (some ⟨w.heap.size, 0, none⟩) 1 1)) (w.alloc (.cells (encR 0) 57))) : wpList Try.prog ops Q (o :: rest) a w := by
  have e : (#[(0, Operand.const (Value.int .u32 0))].map fun p : Nat × Operand => (p.1, a.eval p.2)) = #[(0, Value.int .u32 0)] := by simp; rfl
  exact wl_run hgd (v := .slice (some ⟨w.heap.size, 0, none⟩) 1 1) (by unfold execOp; simp only [ho, e, Sem.run_bind, run_bs0, Result.andThen_ok, Sem.run_pure]) h
theorem wl_buildN1 (hgd : o.guard = none) (x : Operand) (ho : o.op = .build 52 #[(0, .const (.int .i64 1)), (2, x)]) (B : Option Addr) (m d : Nat) (hx : a.eval x = .slice B m d)
    (h : wpList Try.prog ops Q rest (a.put o.dst (.agg (nfaC 1 none 0 0 B m d))) w) : wpList Try.prog ops Q (o :: rest) a w := by
  have e : (#[(0, Operand.const (Value.int .i64 1)), (2, x)].map fun p : Nat × Operand => (p.1, a.eval p.2)) = #[(0, Value.int .i64 1), (2, .slice B m d)] := by simp [hx]; rfl
  exact wl_run hgd (v := .agg (nfaC 1 none 0 0 B m d)) (by unfold execOp; simp only [ho, e, Sem.run_bind, run_buildN1, Result.andThen_ok, Sem.run_pure]) h
theorem wl_buildE0 (hgd : o.guard = none) (x : Operand) (ho : o.op = .build 67 #[(0, .const (.int .i64 1)), (1, .const (.int .i64 0)), (2, x)]) (z : Int) (hx : a.eval x = .int .i64 z)
    (h : wpList Try.prog ops Q rest (a.put o.dst (.agg (edgC ⟨1, 0, z, 0⟩))) w) : wpList Try.prog ops Q (o :: rest) a w := by
  have e : (#[(0, Operand.const (Value.int .i64 1)), (1, Operand.const (Value.int .i64 0)), (2, x)].map fun p : Nat × Operand => (p.1, a.eval p.2)) = #[(0, Value.int .i64 1), (1, .int .i64 0), (2, .int .i64 z)] := by simp [hx]; exact ⟨rfl, rfl⟩
  exact wl_run hgd (v := .agg (edgC ⟨1, 0, z, 0⟩)) (by unfold execOp; simp only [ho, e, Sem.run_bind, run_buildE0, Result.andThen_ok, Sem.run_pure]) h
theorem wl_load_nfa_row (hgd : o.guard = none) (x : Operand) (ho : o.op = .load 52 x) (b off : Nat) (hx : a.eval x = .pointer (some ⟨b, off, none⟩)) (y : MV) (hr : RowAt w b off y.C)
    (h : wpList Try.prog ops Q rest (a.put o.dst (.agg y.C)) w) : wpList Try.prog ops Q (o :: rest) a w :=
  wl_load_nfa_at hgd x ho b off hx _ _ _ _ _ _ _ hr h
theorem wl_store_mv (hgd : o.guard = none) (x y : Operand) (ho : o.op = .store 52 x y) (g : Nat) (z : MV) (hx : a.eval x = .pointer (some ⟨g, 0, none⟩)) (hy : a.eval y = .agg z.C) (old : Array Value) (ho2 : old.size = 3) (hb : Blk w g 52 old)
    (h : ∀ w', Blk w' g 52 z.C → w.grownBy w' (some g) → wpList Try.prog ops Q rest (a.put o.dst undef) w') : wpList Try.prog ops Q (o :: rest) a w :=
  wpList_store_row hgd _ x y ho g _ hx hy _ _ hb (info_nfaN.trans rfl) (by rw [ho2]; rfl) (by simp [MV.C, nfaC, Value.oneCell']) (h _ (hb.setRow_same _) (only_setRow (only_refl _ _) _))
theorem wl_load_mv (hgd : o.guard = none) (x : Operand) (ho : o.op = .load 52 x) (g : Nat) (hx : a.eval x = .pointer (some ⟨g, 0, none⟩)) (z : MV) (hb : Blk w g 52 z.C)
    (h : wpList Try.prog ops Q rest (a.put o.dst (.agg z.C)) w) : wpList Try.prog ops Q (o :: rest) a w :=
  wpList_load_row hgd _ x ho g hx _ _ _ _ hb Try.underlying52 rfl (info_nfaN.trans rfl) h
end
set_option maxRecDepth 100000 in
set_option maxHeartbeats 16000000 in
theorem union_any (A : Option Addr) (n c : Nat) (l : List MV) (hn : n = l.length) (hn2 : n ≤ 1048576) (w : World) (hs : SliceOf w w.heap.size 3 MV.C A l) (hM : MsIn w w.heap.size l) :
    Calls Try.prog 33 #[.slice A n c] w fun e w' => Below w.heap.size w w' ∧ ∃ v, e = .returned (.tuple #[v, .int .i64 (unionF (l.map MV.F)).2]) ∧ NfaAt w' v (unionF (l.map MV.F)).1 := by
  have hright : ∀ x ∈ l, ∀ W : World, Below w.heap.size w W → Calls Try.prog 29 #[.agg x.C] W fun e w' => e = .returned (.bool (rightF x.F)) ∧ Below W.heap.size W w' := fun x hx W hb =>
    right_any x.F.s x.A _ x.c x.B _ x.d x.F.E rfl (by have := (hM x hx).2.2.1; omega) W (((hM x hx).1.below hb).more hb.size)
  have huno : (l.map MV.F).all rightF = false → unionF (l.map MV.F) = (.none, 70) := fun h => by unfold unionF; rw [h]; rfl
  have huyes : (l.map MV.F).all rightF = true → unionF (l.map MV.F) = (uFold (l.map MV.F), 0) := fun h => by unfold unionF; rw [h]; rfl
  obtain ⟨bf, hbf⟩ : ∃ b, unionF (l.map MV.F) = b := ⟨_, rfl⟩
  rw [hbf] at huno huyes ⊢
  have Hn := Lib.hid hn
  have HM := Lib.hid hM
  have HR := Lib.hid hright
  have Hno := Lib.hid huno
  have Hyes := Lib.hid huyes
  clear hn hM hright huno huyes hbf
  go_enter Try.func33, Try.ntmps33
  have h2 : Blk (w.alloc (.cells #[.int .i64 0, .slice none 0 0, .slice none 0 0] 52)) w.heap.size 52 (nfaC 0 none 0 0 none 0 0) := Blk.new _ _ _
  have hB1 : Below w.heap.size w (w.alloc (.cells #[.int .i64 0, .slice none 0 0, .slice none 0 0] 52)) := below_alloc (Below.refl _ _) _
  go_upto_region 1 with (fail)
  obtain ⟨w1, hw1⟩ : ∃ y, y = w.alloc (.cells #[.int .i64 0, .slice none 0 0, .slice none 0 0] 52) := ⟨_, rfl⟩
  rw [← hw1] at h2 hB1 ⊢
  clear hw1
  have hl1 := h2.lt
  go_wp2_with (fail)
  go_loopw [14] (fun i wr => ∃ k : Nat, k ≤ n ∧ i = .int .i64 k ∧ Hid ((l.take k).all (fun x => rightF x.F) = true) ∧ Below w.heap.size w wr ∧ Blk wr w.heap.size 52 (nfaC 0 none 0 0 none 0 0)) (fun i _ => n - (intOf i).toNat)
  case atStart => exact ⟨0, by omega, rfl, Lib.hid rfl, hB1, h2⟩
  case round =>
    clear h2 hB1
    obtain ⟨k, hk, rfl, hall, hBw, h2⟩ := hrel
    have hszw := hBw.size
    by_cases hkn : k < n
    · have hkI : (k : Int) < n := by omega
      have hkl : k < l.length := by rw [← Hn.out]; exact hkn
      obtain ⟨ba, off, rfl, hba, hrows⟩ := hs.at_ (by omega)
      have hrow := (hrows k hkl).keep (hBw.block ba (by omega))
      have hmem : l[k] ∈ l := List.getElem_mem hkl
      obtain ⟨x, hx⟩ : ∃ x, x = l[k] := ⟨_, rfl⟩
      rw [← hx] at hrow hmem
      obtain ⟨y, hy⟩ : ∃ y, rightF x.F = y := ⟨_, rfl⟩
      have hst : (l.take (k + 1)).all (fun x => rightF x.F) = y := by
        rw [List.take_succ_eq_append_getElem hkl, List.all_append, hall.out, ← hx]
        simp [hy]
      have hno : y = false → (l.map MV.F).all rightF = false := fun h => by
        rw [List.all_eq_false]
        exact ⟨x.F, List.mem_map_of_mem hmem, by rw [hy, h]; decide⟩
      have hcall := fun W h => HR.out x hmem W h
      rw [hy] at hcall
      have Hcall := Lib.hid hcall
      have Hst := Lib.hid hst
      have Hno2 := Lib.hid hno
      have hkb : k < 1099511628000 := by omega
      clear hcall hst hno hy hx hrows
      go_upto_region 4 with (first | (refine wl_load_nfa_row rfl _ rfl _ _ rfl x hrow ?_) | (refine wl_store_mv rfl _ _ rfl _ x rfl rfl _ rfl (Blk.new _ _ _) ?_; intro w3 h5 hg3))
      have hB3 := below_grown (below_alloc (Below.refl _ wr) (.cells #[.int .i64 0, .slice none 0 0, .slice none 0 0] 52)) hg3 (Nat.le_refl _)
      have hB3w := below_then hBw hB3
      have h23 := blk_then h2 hB3
      clear hg3 hrow
      cases y
      · go_wp2_with (first | (refine wl_load_mv rfl _ rfl _ rfl x h5 ?_) | (go_at_call 29; refine (Hcall.out _ hB3w).mono ?_; rintro e w4 ⟨rfl, hB4⟩; have hBw4 := below_then hB3w hB4; have h24 := blk_then h23 hB4) | (go_at_call 29; refine park ?_) | (refine wl_build_nfa0 rfl rfl ?_) | (refine wl_store_nfa rfl _ _ rfl w.heap.size 0 none 0 0 none 0 0 rfl rfl _ _ _ _ _ _ _ h24 ?_; intro w7 h7 hg7))
        have hBe := hBw4.grown hg7 (by have := hBw4.size; omega) (fun j e => by injection e with e; omega)
        refine ret_nfa2 rfl rfl h7 rfl ?_
        refine ⟨hBe, .agg (nfaC 0 none 0 0 none 0 0), ?_, ?_⟩
        · rw [Hno.out (Hno2.out (by first | rfl | trivial))]; rfl
        · rw [Hno.out (Hno2.out (by first | rfl | trivial))]; exact NfaAt.none_ _
      · go_wp2_with (first | (refine wl_load_mv rfl _ rfl _ rfl x h5 ?_) | (go_at_call 29; refine (Hcall.out _ hB3w).mono ?_; rintro e w4 ⟨rfl, hB4⟩; have hBw4 := below_then hB3w hB4; have h24 := blk_then h23 hB4) | (go_at_call 29; refine park ?_))
        exact ⟨⟨k + 1, by omega, rfl, Lib.hid Hst.out, hBw4, h24⟩, by simp only [intOf]; omega⟩
    · have hkI : ¬ (k : Int) < n := by omega
      have hke : l.take k = l := List.take_of_length_le (by have := Hn.out; omega)
      have hallr : ∀ x ∈ l, rightF x.F = true := fun x hx => by
        have := hall.out
        rw [hke, List.all_eq_true] at this
        exact this x hx
      have hye := Hyes.out (by rw [List.all_eq_true]; intro z hz; obtain ⟨x, hx, rfl⟩ := List.mem_map.1 hz; exact hallr x hx)
      have HE := Lib.hid hye
      have HA := Lib.hid hallr
      clear hke hallr hye hall
      go_upto_region 7 with (fail)
      obtain ⟨WA, hWA⟩ : ∃ y, y = wr := ⟨_, rfl⟩
      rw [← hWA] at hBw h2 ⊢
      clear hWA
      have hBA := hBw
      have o1 : Own (WA.alloc (.cells (encR 0) 57)) w.heap.size 57 1 encR (.slice (some ⟨WA.heap.size, 0, none⟩) 1 1) [0] := ⟨rfl, .inr ⟨WA.heap.size, 1, encR 0, rfl, hBA.size, heap_alloc_new WA _, Nat.le_refl _, by unfold maxLen; omega, rfl, rfl⟩⟩
      have hBa : Below WA.heap.size WA (WA.alloc (.cells (encR 0) 57)) := below_alloc (Below.refl _ _) _
      go_upto_region 8 with (first | (refine wl_bs0 rfl rfl ?_) | (refine wl_buildN1 rfl _ rfl _ _ _ rfl ?_) | (refine wl_store_nfa rfl _ _ rfl _ _ _ _ _ _ _ _ rfl rfl 0 none 0 0 none 0 0 (Blk.new' _ _ _ (by simp)) ?_; intro w5 h6 hg6))
      have hBb := below_grown (below_alloc (Below.refl _ (WA.alloc (.cells (encR 0) 57))) (.cells #[.int .i64 0, .slice none 0 0, .slice none 0 0] 52)) hg6 (by simp)
      have o5 := o1.then_ hBb
      have hB5 := below_then (below_then hBA hBa) hBb
      have h25 := blk_then (blk_then h2 hBa) hBb
      obtain ⟨g6, hg6e⟩ : ∃ g, g = WA.heap.size + 1 := ⟨_, rfl⟩
      rw [← hg6e] at h6
      try rw [← hg6e]
      have hg6b : w.heap.size < g6 := by have := hBA.size; omega
      obtain ⟨gz, hgz⟩ : ∃ g, g = WA.heap.size := ⟨_, rfl⟩
      rw [← hgz] at o5 h6
      clear o1 hBa hg6 hBb hg6e hgz
      clear hBA hBw h2
      go_wp2_with (fail)
      go_loopw [27] (fun i wr => ∃ k : Nat, k ≤ n ∧ i = .int .i64 k ∧ (∃ vE vR, Blk wr g6 52 #[.int .i64 (uFold ((l.take k).map MV.F)).s, vE, vR] ∧ Own wr w.heap.size 67 7 edgC vE (uFold ((l.take k).map MV.F)).E ∧ Own wr w.heap.size 57 1 encR vR (uFold ((l.take k).map MV.F)).R) ∧ Blk wr w.heap.size 52 (nfaC 0 none 0 0 none 0 0) ∧ Below w.heap.size w wr) (fun i _ => n - (intOf i).toNat)
      case atStart => exact ⟨0, by omega, rfl, ⟨_, _, h6, Own.nil_ _ _ _ _ _, o5⟩, h25, hB5⟩
      case round =>
        clear h6 o5 h25 hB5
        obtain ⟨k, hk, rfl, ⟨vE, vR, hk6, hE, hR⟩, h2, hBw⟩ := hrel
        have hszw := hBw.size
        have hgk6 := hk6.lt
        have hbd := uFold_bound ((l.take k).map MV.F) (fun x hx => by
          obtain ⟨y, hy, rfl⟩ := List.mem_map.1 hx
          have hy2 := List.mem_of_mem_take hy
          exact ⟨HA.out y hy2, (HM.out y hy2).2.2⟩)
        rw [List.length_map, List.length_take, ← Hn.out, Nat.min_eq_left hk] at hbd
        by_cases hkn : k < n
        · have hkI : (k : Int) < n := by omega
          have hkl : k < l.length := by rw [← Hn.out]; exact hkn
          have hst : uFold ((l.take (k + 1)).map MV.F) = uStep (uFold ((l.take k).map MV.F)) l[k].F := by
            rw [List.take_succ_eq_append_getElem hkl, List.map_append, List.map_cons, List.map_nil, uFold_snoc]
          obtain ⟨F, hF⟩ : ∃ F, F = uFold ((l.take k).map MV.F) := ⟨_, rfl⟩
          rw [← hF] at hk6 hE hR hbd hst
          obtain ⟨hb1, hb2, hb3, hb4⟩ := hbd
          obtain ⟨ba, off, rfl, hba, hrows⟩ := hs.at_ (by omega)
          have hrow := (hrows k hkl).keep (hBw.block ba (by omega))
          have hmem : l[k] ∈ l := List.getElem_mem hkl
          obtain ⟨x, hx⟩ : ∃ x, x = l[k] := ⟨_, rfl⟩
          rw [← hx] at hrow hmem hst
          obtain ⟨hx1, hx2, hx3, hx4⟩ := HM.out x hmem
          obtain ⟨hx5, hx6⟩ := right_parts (HA.out x hmem)
          obtain ⟨⟨xs, xE, xR⟩, xA, xc, xB, xd⟩ := x
          simp only [MV.C] at hrow
          simp only at hx1 hx2 hx3 hx4 hx5 hx6 hst
          have Hst := Lib.hid hst
          have Hx6 := Lib.hid hx6
          clear hst hF hx hmem hrows hx6
          obtain ⟨ne, hne⟩ : ∃ q, q = xE.length := ⟨_, rfl⟩
          obtain ⟨nr, hnr⟩ : ∃ q, q = xR.length := ⟨_, rfl⟩
          rw [← hne, ← hnr] at hrow
          rw [← hne] at hx3
          rw [← hnr] at hx4 hx5
          have Hne := Lib.hid hne
          have Hnr := Lib.hid hnr
          have hkb : k < 1099511628000 := by omega
          have hxs0 : 0 ≤ xs := by omega
          have hxs1 : xs ≤ 1048576 := by omega
          clear hne hnr hx5
          go_upto_region 11 with (first | (refine wl_load_nfa_at rfl _ rfl _ _ rfl _ _ _ _ _ _ _ hrow ?_) | (refine wl_store_nfa rfl _ _ rfl _ _ _ _ _ _ _ _ rfl rfl 0 none 0 0 none 0 0 (Blk.new _ _ _) ?_; intro w3 h5 hg3))
          have hB3 := below_grown (below_alloc (Below.refl _ wr) (.cells #[.int .i64 0, .slice none 0 0, .slice none 0 0] 52)) hg3 (Nat.le_refl _)
          replace hBw := below_then hBw hB3
          replace h2 := blk_then h2 hB3
          replace hk6 := blk_then hk6 hB3
          replace hE := hE.then_ hB3
          replace hR := hR.then_ hB3
          obtain ⟨g8, hg8⟩ : ∃ g, g = wr.heap.size := ⟨_, rfl⟩
          rw [← hg8] at h5
          try rw [← hg8]
          have hg68 : g6 < g8 := by omega
          clear hB3 hg3 hrow hg8
          have c60 : w3.cell? ⟨g6, 0, none⟩ = some (.int .i64 F.s) := hk6.cellv (i := 0) rfl
          go_upto_region 12 with (fail)
          clear c60
          have hBq : Below w3.heap.size w3 (w3.alloc (.cells (edgC ⟨1, 0, F.s, 0⟩) 67)) := below_alloc (Below.refl _ _) _
          obtain ⟨Ae, ke, rfl, _, _⟩ := hE.shape
          obtain ⟨en, hen⟩ : ∃ x, x = (F.E).length := ⟨_, rfl⟩
          rw [← hen] at hE hk6
          try rw [← hen]
          have henb : en ≤ 1099513724928 := by omega
          have Hen := Lib.hid hen
          clear hen
          have c61 : w3.cell? ⟨g6, 1, none⟩ = some (.slice Ae en ke) := hk6.cellv (i := 1) rfl
          go_upto_region 13 with (first | (refine wl_buildE0 rfl _ rfl F.s rfl ?_) | (refine wl_one (d := ⟨1, 0, F.s, 0⟩) rfl _ rfl rfl ?_) | (at_builtin; refine park ?_))
          refine Parked.mk ?_
          clear c61
          have hEq := hE.then_ hBq
          have hRq := hR.then_ hBq
          have hkq := blk_then hk6 hBq
          have hBwq := below_then hBw hBq
          have hone := slice_one (enc := edgC) (size := 7) (y := ⟨1, 0, F.s, 0⟩) (w := w3.alloc (.cells (edgC ⟨1, 0, F.s, 0⟩) 67)) (g := w3.heap.size) (t := 67) (Blk.new _ _ _)
          obtain ⟨ie, hie, hye0, hye1, hye2⟩ := info_parts info_edge3
          refine wl_append _ rfl _ _ 49 rfl w.heap.size 67 ie _ 7 56 Try.underlying49 hie hye0 hye1 hye2 rfl (by decide) edgC_size edgC_one (.slice Ae _ ke) _ rfl hEq _ _ 1 1 [⟨1, 0, F.s, 0⟩] rfl rfl hone (by rw [← Hen.out]; unfold maxLen; omega) (by rw [← Hen.out]; omega) hBwq.size ?_
          intro v8 w8 hE8 hg8 _
          have hk8 : Blk w8 g6 52 _ := hkq.grown hg8 (fun e => own_blk_ne hEq hkq (by decide) e.symm)
          have hR8 := own_own hRq hEq hg8 (by decide)
          have h28 : Blk w8 w.heap.size 52 _ := (blk_then h2 hBq).grown hg8 (fun e => own_blk_ne hEq (blk_then h2 hBq) (by decide) e.symm)
          have h58 : Blk w8 g8 52 _ := (blk_then h5 hBq).grown hg8 (fun e => own_blk_ne hEq (blk_then h5 hBq) (by decide) e.symm)
          have hBw8 := hBwq.grown hg8 hBwq.size (fun j e => (hEq.lt j e).1)
          obtain ⟨A8, k8, rfl, _, _⟩ := hE8.shape
          obtain ⟨en8, hen8⟩ : ∃ q, q = ((F.E : List Edg) ++ [(⟨1, 0, F.s, 0⟩ : Edg)]).length := ⟨_, rfl⟩
          rw [← hen8] at hE8
          rw [← hen8]
          simp only [Act.put, List.setIfInBounds_toArray, List.set_cons_zero, List.set_cons_succ]
          clear hen8 hone hie hye0 hye1 hye2 hEq hRq hkq hg8 hE hR hk6 hBwq hBq
          go_upto_region 13 with (refine wl_store_cell rfl _ _ _ rfl g6 1 rfl _ _ #[.int .i64 F.s, .slice A8 en8 k8, vR] hk8 (by simp) info_edges1 rfl rfl rfl ?_; intro w9 hk9 hg9)
          have hE9 := own_box hE8 hk8 hg9 (by decide)
          have hR9 := own_box hR8 hk8 hg9 (by decide)
          have hBw9 := hBw8.grown hg9 (by have := hBw8.size; omega) (fun j e => by injection e with e; omega)
          have h29 := blk_grown h28 hg9 (by omega)
          have h59 := blk_grown h58 hg9 (by omega)
          clear hE8 hR8 hBw8 h28 h58 hk8 hg9 h5 h2
          have c81 : w9.cell? ⟨g8, 1, none⟩ = some (.slice xA ne xc) := h59.cellv (i := 1) rfl
          go_wp2_with (fail)
          clear c81
          obtain ⟨E0, hE0⟩ : ∃ q, q = F.E ++ [⟨1, 0, F.s, 0⟩] := ⟨_, rfl⟩
          have hE0l : E0.length ≤ 1099512676352 := by rw [hE0, List.length_append]; simp only [List.length_cons, List.length_nil]; omega
          rw [← hE0] at hE9
          have HE0 := Lib.hid hE0
          clear hE0
          go_loopw [43] (fun i wr => ∃ j : Nat, j ≤ ne ∧ i = .int .i64 j ∧ (∃ vE, Blk wr g6 52 #[.int .i64 F.s, vE, vR] ∧ Own wr w.heap.size 67 7 edgC vE (E0 ++ (xE.take j).map (shiftE F.s)) ∧ Own wr w.heap.size 57 1 encR vR F.R) ∧ Blk wr w.heap.size 52 (nfaC 0 none 0 0 none 0 0) ∧ Blk wr g8 52 (nfaC xs xA ne xc xB nr xd) ∧ Below w.heap.size w wr) (fun i _ => ne - (intOf i).toNat)
          case atStart => exact ⟨0, by omega, rfl, ⟨_, hk9, by rw [List.take_zero, List.map_nil, List.append_nil]; exact hE9, hR9⟩, h29, h59, hBw9⟩
          case round =>
            clear hk9 hE9 hR9 h29 h59 hBw9 hBw
            obtain ⟨j, hj, rfl, ⟨vE2, hk6, hE, hR⟩, h2, h5, hBw⟩ := hrel
            have hszz := hBw.size
            have hgk6 := hk6.lt
            have hgk8 := h5.lt
            have c81 : wr.cell? ⟨g8, 1, none⟩ = some (.slice xA ne xc) := h5.cellv (i := 1) rfl
            by_cases hjn : j < ne
            · have hjI : (j : Int) < ne := by omega
              have hjl : j < xE.length := by rw [← Hne.out]; exact hjn
              obtain ⟨be, oe, rfl, hbe, hre⟩ := hx1.at_ (by omega)
              have hrowe := (hre j hjl).keep (hBw.block be (by omega))
              obtain ⟨dd, hdd⟩ : ∃ q, q = xE[j] := ⟨_, rfl⟩
              have hst2 : (xE.take (j + 1)).map (shiftE F.s) = (xE.take j).map (shiftE F.s) ++ [shiftE F.s dd] := by
                rw [List.take_succ_eq_append_getElem hjl, List.map_append, ← hdd]; rfl
              rw [← hdd] at hrowe
              obtain ⟨q1, q2, q3, q4⟩ := Hx6.out dd (by rw [hdd]; exact List.getElem_mem hjl)
              have hlE : (E0 ++ (xE.take j).map (shiftE F.s)).length ≤ 1099513724928 := by
                rw [List.length_append, List.length_map, List.length_take]; omega
              have Hst2 := Lib.hid hst2
              have hjb : j < 1099511628000 := by omega
              clear hst2 hdd hre
              go_upto_region 16 with (first | (refine wl_load_edge_at rfl _ rfl _ _ rfl dd hrowe ?_) | (refine wl_store_edge rfl _ _ rfl _ _ rfl rfl edge0 (Blk.new _ _ _) ?_; intro w3 h11 hg3))
              have hB3 := below_grown (below_alloc (Below.refl _ wr) (.cells #[.int .i64 0, .int .i64 0, .int .i64 0, .int .u64 0, .int .u64 0, .int .u64 0, .int .u64 0] 67)) hg3 (Nat.le_refl _)
              replace hBw := below_then hBw hB3
              replace h2 := blk_then h2 hB3
              replace h5 := blk_then h5 hB3
              replace hk6 := blk_then hk6 hB3
              have hltE := fun q hq => (hE.lt q hq).2
              replace hE := hE.then_ hB3
              replace hR := hR.then_ hB3
              obtain ⟨g11, hg11⟩ : ∃ g, g = wr.heap.size := ⟨_, rfl⟩
              rw [← hg11] at h11 hltE
              try rw [← hg11]
              have hg611 : g6 < g11 := by omega
              have hg811 : g8 < g11 := by omega
              clear hB3 hg3 hrowe c81 hg11
              have c111 : w3.cell? ⟨g11, 1, none⟩ = some (.int .i64 dd.fr) := h11.cellv (i := 1) rfl
              have c112 : w3.cell? ⟨g11, 2, none⟩ = some (.int .i64 dd.tt) := h11.cellv (i := 2) rfl
              have f111 := h11.frozen 1
              have f112 := h11.frozen 2
              go_upto_region 17 with (fail)
              have h11x : Blk ((w3.setCell ⟨g11, 1, none⟩ (.int .i64 (dd.fr + F.s))).setCell ⟨g11, 2, none⟩ (.int .i64 (dd.tt + F.s))) g11 67 (edgC (shiftE F.s dd)) := (h11.set_eq (i := 1) (u := .int .i64 (dd.fr + F.s)) rfl).set_eq (i := 2) (u := .int .i64 (dd.tt + F.s)) rfl
              have hgx : w3.grownBy ((w3.setCell ⟨g11, 1, none⟩ (.int .i64 (dd.fr + F.s))).setCell ⟨g11, 2, none⟩ (.int .i64 (dd.tt + F.s))) (some g11) := only_setCell (only_setCell (only_refl w3 (some g11)) (p := ⟨g11, 1, none⟩) (.inl rfl) _) (p := ⟨g11, 2, none⟩) (.inl rfl) _
              obtain ⟨w4, hw4⟩ : ∃ y, y = (w3.setCell ⟨g11, 1, none⟩ (.int .i64 (dd.fr + F.s))).setCell ⟨g11, 2, none⟩ (.int .i64 (dd.tt + F.s)) := ⟨_, rfl⟩
              rw [← hw4] at h11x hgx ⊢
              clear hw4
              replace hk6 := blk_grown hk6 hgx (by omega)
              replace h2 := blk_grown h2 hgx (by omega)
              replace h5 := blk_grown h5 hgx (by omega)
              replace hR := own_box hR h11 hgx (by decide)
              replace hE := hE.kept_ hgx (fun q e1 e2 => by have := hltE q e1; injection e2; omega)
              replace hBw := hBw.grown hgx (by have := hBw.size; omega) (fun q e => by injection e; omega)
              clear c111 c112 f111 f112 hgx h11 hltE
              have hBq : Below w4.heap.size w4 (w4.alloc (.cells (edgC (shiftE F.s dd)) 67)) := below_alloc (Below.refl _ _) _
              obtain ⟨Ae, ke, rfl, _, _⟩ := hE.shape
              obtain ⟨en, hen⟩ : ∃ x, x = (E0 ++ (xE.take j).map (shiftE F.s)).length := ⟨_, rfl⟩
              rw [← hen] at hE hk6
              try rw [← hen]
              have henb : en ≤ 1099513724928 := by omega
              have Hen := Lib.hid hen
              clear hen
              have c61 : w4.cell? ⟨g6, 1, none⟩ = some (.slice Ae en ke) := hk6.cellv (i := 1) rfl
              go_upto_region 18 with (first | (refine wl_load_edge rfl _ rfl g11 rfl _ h11x ?_) | (refine wl_one (d := (shiftE F.s dd)) rfl _ rfl rfl ?_) | (at_builtin; refine park ?_))
              refine Parked.mk ?_
              clear c61
              have hEq := hE.then_ hBq
              have hRq := hR.then_ hBq
              have hkq := blk_then hk6 hBq
              have hBwq := below_then hBw hBq
              have hone := slice_one (enc := edgC) (size := 7) (y := (shiftE F.s dd)) (w := w4.alloc (.cells (edgC (shiftE F.s dd)) 67)) (g := w4.heap.size) (t := 67) (Blk.new _ _ _)
              obtain ⟨ie, hie, hye0, hye1, hye2⟩ := info_parts info_edge3
              refine wl_append _ rfl _ _ 49 rfl w.heap.size 67 ie _ 7 56 Try.underlying49 hie hye0 hye1 hye2 rfl (by decide) edgC_size edgC_one (.slice Ae _ ke) _ rfl hEq _ _ 1 1 [(shiftE F.s dd)] rfl rfl hone (by rw [← Hen.out]; unfold maxLen; omega) (by rw [← Hen.out]; omega) hBwq.size ?_
              intro v8 w8 hE8 hg8 _
              have hk8 : Blk w8 g6 52 _ := hkq.grown hg8 (fun e => own_blk_ne hEq hkq (by decide) e.symm)
              have hR8 := own_own hRq hEq hg8 (by decide)
              have h28 : Blk w8 w.heap.size 52 _ := (blk_then h2 hBq).grown hg8 (fun e => own_blk_ne hEq (blk_then h2 hBq) (by decide) e.symm)
              have h58 : Blk w8 g8 52 _ := (blk_then h5 hBq).grown hg8 (fun e => own_blk_ne hEq (blk_then h5 hBq) (by decide) e.symm)
              have hBw8 := hBwq.grown hg8 hBwq.size (fun j e => (hEq.lt j e).1)
              obtain ⟨A8, k8, rfl, _, _⟩ := hE8.shape
              obtain ⟨en8, hen8⟩ : ∃ q, q = ((E0 ++ (xE.take j).map (shiftE F.s) : List Edg) ++ [((shiftE F.s dd) : Edg)]).length := ⟨_, rfl⟩
              rw [← hen8] at hE8
              rw [← hen8]
              simp only [Act.put, List.setIfInBounds_toArray, List.set_cons_zero, List.set_cons_succ]
              clear hen8 hone hie hye0 hye1 hye2 hEq hRq hkq hg8 hE hR hk6 hBwq hBq
              go_upto_region 18 with (refine wl_store_cell rfl _ _ _ rfl g6 1 rfl _ _ #[.int .i64 F.s, .slice A8 en8 k8, vR] hk8 (by simp) info_edges1 rfl rfl rfl ?_; intro w9 hk9 hg9)
              have hE9 := own_box hE8 hk8 hg9 (by decide)
              have hR9 := own_box hR8 hk8 hg9 (by decide)
              have hBw9 := hBw8.grown hg9 (by have := hBw8.size; omega) (fun j e => by injection e with e; omega)
              have h29 := blk_grown h28 hg9 (by omega)
              have h59 := blk_grown h58 hg9 (by omega)
              clear hE8 hR8 hBw8 h28 h58 hk8 hg9 h5 h2 h11x
              go_wp2_with (fail)
              exact ⟨⟨j + 1, by omega, rfl, ⟨_, hk9, by rw [Hst2.out, ← List.append_assoc]; exact hE9, hR9⟩, h29, h59, hBw9⟩, by simp only [intOf]; omega⟩
            · have hjI : ¬ (j : Int) < ne := by omega
              have hke : xE.take j = xE := List.take_of_length_le (by have := Hne.out; omega)
              rw [hke] at hE
              obtain ⟨Ar, kr, rfl, _, _⟩ := hR.shape
              obtain ⟨mr, hmr⟩ : ∃ q, q = F.R.length := ⟨_, rfl⟩
              rw [← hmr] at hR hk6
              try rw [← hmr]
              have hmrb : mr ≤ 1099513724928 := by omega
              have Hmr := Lib.hid hmr
              have c62 : wr.cell? ⟨g6, 2, none⟩ = some (.slice Ar mr kr) := hk6.cellv (i := 2) rfl
              have c82 : wr.cell? ⟨g8, 2, none⟩ = some (.slice xB nr xd) := h5.cellv (i := 2) rfl
              obtain ⟨iu, hiu, hyu0, hyu1, hyu2⟩ := info_parts info_r3
              clear hke hmr
              go_upto_region 20 with (at_builtin; refine park ?_)
              refine Parked.mk ?_
              clear c62 c82 c81
              refine wl_append _ rfl _ _ 50 rfl w.heap.size 57 iu _ 1 4 Try.underlying50 hiu hyu0 hyu1 hyu2 rfl (by decide) encR_size encR_one (.slice Ar _ kr) _ rfl hR _ xB nr xd xR rfl Hnr.out (hx2.below hBw) (by rw [← Hmr.out]; unfold maxLen; omega) (by rw [← Hmr.out]; omega) hBw.size ?_
              intro v8 w8 hR8 hg8 _
              have hk8 : Blk w8 g6 52 _ := hk6.grown hg8 (fun e => own_blk_ne hR hk6 (by decide) e.symm)
              have hE8 := own_own hE hR hg8 (by decide)
              have h28 : Blk w8 w.heap.size 52 _ := h2.grown hg8 (fun e => own_blk_ne hR h2 (by decide) e.symm)
              have h58 : Blk w8 g8 52 _ := h5.grown hg8 (fun e => own_blk_ne hR h5 (by decide) e.symm)
              have hBw8 := hBw.grown hg8 hBw.size (fun j e => (hR.lt j e).1)
              obtain ⟨A8, k8, rfl, _, _⟩ := hR8.shape
              simp only [Act.put, List.setIfInBounds_toArray, List.set_cons_zero, List.set_cons_succ]
              clear hiu hyu0 hyu1 hyu2 hg8 hE hR hk6 h2 h5 hBw
              go_upto_region 20 with (refine wl_store_cell rfl _ _ _ rfl g6 2 rfl _ _ #[.int .i64 F.s, vE2, .slice A8 _ k8] hk8 (by simp) info_rules1 rfl rfl rfl ?_; intro w9 hk9 hg9)
              have hE9 := own_box hE8 hk8 hg9 (by decide)
              have hR9 := own_box hR8 hk8 hg9 (by decide)
              have hBw9 := hBw8.grown hg9 (by have := hBw8.size; omega) (fun j e => by injection e with e; omega)
              have h29 := blk_grown h28 hg9 (by omega)
              have h59 := blk_grown h58 hg9 (by omega)
              clear hE8 hR8 hBw8 h28 h58 hk8 hg9
              have c60 : w9.cell? ⟨g6, 0, none⟩ = some (.int .i64 F.s) := hk9.cellv (i := 0) rfl
              have c80 : w9.cell? ⟨g8, 0, none⟩ = some (.int .i64 xs) := h59.cellv (i := 0) rfl
              have f60 := hk9.frozen 0
              go_upto_region 21 with (fail)
              have hk10 : Blk (w9.setCell ⟨g6, 0, none⟩ (.int .i64 (F.s + xs))) g6 52 #[.int .i64 (F.s + xs), vE2, .slice A8 _ k8] := hk9.set_eq (i := 0) (u := .int .i64 (F.s + xs)) rfl
              have hg10 : w9.grownBy (w9.setCell ⟨g6, 0, none⟩ (.int .i64 (F.s + xs))) (some g6) := only_setCell (only_refl w9 (some g6)) (p := ⟨g6, 0, none⟩) (.inl rfl) _
              obtain ⟨w10, hw10⟩ : ∃ y, y = w9.setCell ⟨g6, 0, none⟩ (.int .i64 (F.s + xs)) := ⟨_, rfl⟩
              rw [← hw10] at hk10 hg10 ⊢
              clear hw10 c60 c80 f60
              have hE10 := own_box hE9 hk9 hg10 (by decide)
              have hR10 := own_box hR9 hk9 hg10 (by decide)
              have hBw10 := hBw9.grown hg10 (by have := hBw9.size; omega) (fun j e => by injection e with e; omega)
              have h210 := blk_grown h29 hg10 (by omega)
              rw [HE0.out] at hE10
              clear hE9 hR9 hBw9 h29 h59 hk9 hg10
              go_wp2_with (fail)
              exact ⟨⟨k + 1, by omega, rfl, ⟨_, _, by rw [Hst.out]; exact hk10, by rw [Hst.out]; exact hE10, by rw [Hst.out]; exact hR10⟩, h210, hBw10⟩, by simp only [intOf]; omega⟩
        · have hkI : ¬ (k : Int) < n := by omega
          have hke : l.take k = l := List.take_of_length_le (by have := Hn.out; omega)
          rw [hke] at hk6 hE hR
          obtain ⟨F, hF⟩ : ∃ F, F = uFold (l.map MV.F) := ⟨_, rfl⟩
          have he := HE.out
          rw [← hF] at hk6 hE hR he
          have HEF := Lib.hid he
          obtain ⟨Ae, ke, rfl, _, _⟩ := hE.shape
          obtain ⟨Ar, kr, rfl, _, _⟩ := hR.shape
          have hk6n : Blk wr g6 52 (nfaC F.s Ae F.E.length ke Ar F.R.length kr) := hk6
          clear hke hF hbd he hk6
          go_wp2_with (first | (refine wl_load_nfa rfl _ rfl g6 rfl _ _ _ _ _ _ _ hk6n ?_) | (refine wl_store_nfa rfl _ _ rfl w.heap.size _ _ _ _ _ _ _ rfl rfl 0 none 0 0 none 0 0 h2 ?_; intro w7 h7 hg7))
          have hE7 := own_box hE h2 hg7 (by decide)
          have hR7 := own_box hR h2 hg7 (by decide)
          have hBe := hBw.grown hg7 (by omega) (fun j e => by injection e with e; omega)
          refine ret_nfa2 rfl rfl h7 rfl ?_
          refine ⟨hBe, .agg (nfaC F.s Ae F.E.length ke Ar F.R.length kr), ?_, ?_⟩
          · rw [HEF.out]; rfl
          · rw [HEF.out]
            exact ⟨Ae, ke, Ar, kr, rfl, hE7.slice_all edgC_size, hR7.slice_all encR_size⟩
end Go.Proofs.Ytajainmldcnaeaa
namespace Go.Proofs.Ytajainmldcnaeaa
open Go.RowKit Go.Maps
set_option linter.unusedVariables false
set_option linter.unusedSimpArgs false
attribute [local go_sem] Oper.semAt_some

def x120 : BSet := bit 120
def starN : Nd := .mk 5 0 [.mk 2 x120 [] 0 0] 0 (-1)
def starF : NF := ⟨4, [⟨1, 0, 1, 0⟩, ⟨2, 1, 2, x120⟩, ⟨1, 2, 1, 0⟩, ⟨1, 1, 3, 0⟩], [0, 0, 0, 8]⟩
theorem star_build : buildF starN 3 = (starF, 0) := by rfl
theorem star_union : (unionF [starF, starF]).2 = 0 ∧ (unionF [starF, starF]).1.s = 9 ∧ (unionF [starF, starF]).1.E.length = 10 ∧ rightF (unionF [starF, starF]).1 = true := by decide
theorem build_byte (w : World) : (Instr.build 27 #[(0, .int .i64 2), (1, .agg (setC x120))]).run Try.prog w = .ok (.agg (nodeC 2 x120 none 0 0 0 0)) w := by kernel_rfl
theorem build_star (w : World) (A : Option Addr) (n c : Nat) : (Instr.build 27 #[(0, .int .i64 5), (2, .slice A n c), (4, .int .i64 (-1))]).run Try.prog w = .ok (.agg (nodeC 5 0 A n c 0 (-1))) w := by kernel_rfl
theorem bs_node (w : World) : (Instr.buildSlice 25 1 #[(0, .agg (nodeC 2 x120 none 0 0 0 0))]).run Try.prog w = .ok (.slice (some ⟨w.heap.size, 0, none⟩) 1 1) (w.alloc (.cells (nodeC 2 x120 none 0 0 0 0) 27)) := by kernel_rfl
section
variable {ops : Array Oper} {rest : List Oper} {o : Oper} {a : Act} {w : World} {Q : Exit → Act → World → Prop}
theorem wl_build_byte (hgd : o.guard = none) (x : Operand) (ho : o.op = .build 27 #[(0, .const (.int .i64 2)), (1, x)]) (hx : a.eval x = .agg (setC x120)) (h : wpList Try.prog ops Q rest (a.put o.dst (.agg (nodeC 2 x120 none 0 0 0 0))) w) : wpList Try.prog ops Q (o :: rest) a w := by
  have e : (#[(0, Operand.const (Value.int .i64 2)), (1, x)].map fun p : Nat × Operand => (p.1, a.eval p.2)) = #[(0, Value.int .i64 2), (1, .agg (setC x120))] := by simp [hx]; rfl
  exact wl_run hgd (v := .agg (nodeC 2 x120 none 0 0 0 0)) (by unfold execOp; simp only [ho, e, Sem.run_bind, build_byte, Result.andThen_ok, Sem.run_pure]) h
theorem wl_build_star (hgd : o.guard = none) (x : Operand) (ho : o.op = .build 27 #[(0, .const (.int .i64 5)), (2, x), (4, .const (.int .i64 (-1)))]) (A : Option Addr) (n c : Nat) (hx : a.eval x = .slice A n c) (h : wpList Try.prog ops Q rest (a.put o.dst (.agg (nodeC 5 0 A n c 0 (-1)))) w) : wpList Try.prog ops Q (o :: rest) a w := by
  have e : (#[(0, Operand.const (Value.int .i64 5)), (2, x), (4, Operand.const (Value.int .i64 (-1)))].map fun p : Nat × Operand => (p.1, a.eval p.2)) = #[(0, Value.int .i64 5), (2, .slice A n c), (4, .int .i64 (-1))] := by simp [hx]; exact ⟨rfl, rfl⟩
  exact wl_run hgd (v := .agg (nodeC 5 0 A n c 0 (-1))) (by unfold execOp; simp only [ho, e, Sem.run_bind, build_star, Result.andThen_ok, Sem.run_pure]) h
theorem wl_bs_node (hgd : o.guard = none) (x : Operand) (ho : o.op = .buildSlice 25 1 #[(0, x)]) (hx : a.eval x = .agg (nodeC 2 x120 none 0 0 0 0)) (h : wpList Try.prog ops Q rest (a.put o.dst (.slice (some ⟨w.heap.size, 0, none⟩) 1 1)) (w.alloc (.cells (nodeC 2 x120 none 0 0 0 0) 27))) : wpList Try.prog ops Q (o :: rest) a w :=
  wl_run hgd (v := .slice (some ⟨w.heap.size, 0, none⟩) 1 1) (by unfold execOp; simp only [ho, List.map_toArray, List.map_cons, List.map_nil, hx, Sem.run_bind, bs_node, Result.andThen_ok, Sem.run_pure]) h
theorem ret_node {fn : Func} {p : Tmp} {g : Nat} {kd : Int} {st : BSet} {A : Option Addr} {n c : Nat} {mi ma : Int} (hres : fn.results = #[.cell p 27])
    (hp : a.tmps.getD p undef = .pointer (some ⟨g, 0, none⟩)) (hb : Blk w g 27 (nodeC kd st A n c mi ma))
    (hdf : a.defers = []) {R : Ending → World → Prop} (hR : R (.returned (.agg (nodeC kd st A n c mi ma))) w) : bodyPost Try.prog fn R .ret a w :=
  ret_cell hres _ hp hb Try.underlying27 rfl (info_node.trans rfl) hdf hR
end
theorem num_any (v : Int) (w : World) : Calls Try.prog 27 #[.int .i64 v] w fun e w' => e = .returned (.int .i64 v) ∧ w' = w := by
  go_enter Try.func27, Try.ntmps27
  go_wp2_with (fail)
  go_ret
  exact ⟨rfl, rfl⟩
set_option maxRecDepth 100000 in
set_option maxHeartbeats 4000000 in
theorem byteSet_any (w : World) : Calls Try.prog 48 #[.int .u8 120] w fun e w' => e = .returned (.agg (nodeC 2 x120 none 0 0 0 0)) ∧ Below w.heap.size w w' := by
  go_enter Try.func48, Try.ntmps48
  go_upto_region 3 with (fail)
  have h2 : Blk ((w.alloc (.cells #[.int .i64 0, .int .u64 0, .int .u64 0, .int .u64 0, .int .u64 0, .slice none 0 0, .int .i64 0, .int .i64 0] 27)).alloc (.cells #[.int .u64 0, .int .u64 72057594037927936, .int .u64 0, .int .u64 0] 24)) w.heap.size 27 (nodeC 0 0 none 0 0 0 0) := (Blk.new w _ _).alloc _
  have h3 : Blk ((w.alloc (.cells #[.int .i64 0, .int .u64 0, .int .u64 0, .int .u64 0, .int .u64 0, .slice none 0 0, .int .i64 0, .int .i64 0] 27)).alloc (.cells #[.int .u64 0, .int .u64 72057594037927936, .int .u64 0, .int .u64 0] 24)) (w.heap.size + 1) 24 (setC x120) := Blk.new' _ _ _ (by simp)
  have hB1 := below_alloc (below_alloc (Below.refl w.heap.size w) (.cells #[.int .i64 0, .int .u64 0, .int .u64 0, .int .u64 0, .int .u64 0, .slice none 0 0, .int .i64 0, .int .i64 0] 27)) (.cells #[.int .u64 0, .int .u64 72057594037927936, .int .u64 0, .int .u64 0] 24)
  obtain ⟨w1, hw1⟩ : ∃ y, y = (w.alloc (.cells #[.int .i64 0, .int .u64 0, .int .u64 0, .int .u64 0, .int .u64 0, .slice none 0 0, .int .i64 0, .int .i64 0] 27)).alloc (.cells #[.int .u64 0, .int .u64 72057594037927936, .int .u64 0, .int .u64 0] 24) := ⟨_, rfl⟩
  rw [← hw1] at h2 h3 hB1 ⊢
  clear hw1
  go_wp2_with (first | (refine wl_load_set rfl _ rfl _ rfl x120 h3 ?_) | (refine wl_build_byte rfl _ rfl rfl ?_) | (refine wl_store_node rfl _ _ rfl _ _ _ _ _ _ _ _ rfl rfl _ rfl h2 ?_; intro w2 h5 hg2))
  have hBe := hB1.grown hg2 hB1.size (fun j e => by injection e with e; omega)
  refine ret_node rfl rfl h5 rfl ?_
  exact ⟨rfl, hBe⟩
theorem bs_nfa2 (w : World) (A : Option Addr) (c : Nat) (B : Option Addr) (d : Nat) : (Instr.buildSlice 61 2 #[(0, .agg (nfaC 4 A 4 c B 4 d)), (1, .agg (nfaC 4 A 4 c B 4 d))]).run Try.prog w = .ok (.slice (some ⟨w.heap.size, 0, none⟩) 2 2) (w.alloc (.cells #[.int .i64 4, .slice A 4 c, .slice B 4 d, .int .i64 4, .slice A 4 c, .slice B 4 d] 52)) := by kernel_rfl
theorem wl_bs_nfa2 {ops : Array Oper} {rest : List Oper} {o : Oper} {a : Act} {w : World} {Q : Exit → Act → World → Prop} (hgd : o.guard = none) (x y : Operand) (ho : o.op = .buildSlice 61 2 #[(0, x), (1, y)]) (A : Option Addr) (c : Nat) (B : Option Addr) (d : Nat) (hx : a.eval x = .agg (nfaC 4 A 4 c B 4 d)) (hy : a.eval y = .agg (nfaC 4 A 4 c B 4 d))
    (h : wpList Try.prog ops Q rest (a.put o.dst (.slice (some ⟨w.heap.size, 0, none⟩) 2 2)) (w.alloc (.cells #[.int .i64 4, .slice A 4 c, .slice B 4 d, .int .i64 4, .slice A 4 c, .slice B 4 d] 52))) : wpList Try.prog ops Q (o :: rest) a w :=
  wl_run hgd (v := .slice (some ⟨w.heap.size, 0, none⟩) 2 2) (by unfold execOp; simp only [ho, List.map_toArray, List.map_cons, List.map_nil, hx, hy, Sem.run_bind, bs_nfa2, Result.andThen_ok, Sem.run_pure]) h
theorem two_rows {w : World} {g : Nat} {A : Option Addr} {c : Nat} {B : Option Addr} {d : Nat} (h : Blk w g 52 #[.int .i64 4, .slice A 4 c, .slice B 4 d, .int .i64 4, .slice A 4 c, .slice B 4 d]) : SliceOf w w.heap.size 3 MV.C (some ⟨g, 0, none⟩) [⟨starF, A, c, B, d⟩, ⟨starF, A, c, B, d⟩] := by
  refine .inr ⟨g, 0, rfl, h.lt, fun i hi => ?_⟩
  have key : ∀ j v, (nfaC 4 A 4 c B 4 d)[j]? = some v → j < 3 := fun j v hv => by
    rcases Nat.lt_or_ge j 3 with h1 | h1
    · exact h1
    · rw [Array.getElem?_eq_none (by exact h1)] at hv; cases hv
  match i, hi with
  | 0, _ =>
    intro j v hv
    have hj := key j v hv
    refine h.cellv ?_
    match j, hj, hv with
    | 0, _, hv => exact hv
    | 1, _, hv => exact hv
    | 2, _, hv => exact hv
  | 1, _ =>
    intro j v hv
    have hj := key j v hv
    refine h.cellv ?_
    match j, hj, hv with
    | 0, _, hv => exact hv
    | 1, _, hv => exact hv
    | 2, _, hv => exact hv
theorem build_edge3 (w : World) (x y z : Int) : (Instr.build 67 #[(0, .int .i64 x), (1, .int .i64 y), (2, .int .i64 z)]).run Try.prog w = .ok (.agg (edgC ⟨x, y, z, 0⟩)) w := by kernel_rfl
theorem build_nfa1 (w : World) (x : Int) : (Instr.build 52 #[(0, .int .i64 x)]).run Try.prog w = .ok (.agg (nfaC x none 0 0 none 0 0)) w := by kernel_rfl
section
variable {ops : Array Oper} {rest : List Oper} {o : Oper} {a : Act} {w : World} {Q : Exit → Act → World → Prop}
theorem wl_build_edge3 (hgd : o.guard = none) (x y z : Int) (ho : o.op = .build 67 #[(0, .const (.int .i64 x)), (1, .const (.int .i64 y)), (2, .const (.int .i64 z))]) (h : wpList Try.prog ops Q rest (a.put o.dst (.agg (edgC ⟨x, y, z, 0⟩))) w) : wpList Try.prog ops Q (o :: rest) a w := by
  have e : (#[(0, Operand.const (Value.int .i64 x)), (1, Operand.const (Value.int .i64 y)), (2, Operand.const (Value.int .i64 z))].map fun p : Nat × Operand => (p.1, a.eval p.2)) = #[(0, Value.int .i64 x), (1, .int .i64 y), (2, .int .i64 z)] := by simp; exact ⟨rfl, rfl, rfl⟩
  exact wl_run hgd (v := .agg (edgC ⟨x, y, z, 0⟩)) (by unfold execOp; simp only [ho, e, Sem.run_bind, build_edge3, Result.andThen_ok, Sem.run_pure]) h
theorem wl_build_edge3_g (hw : Region.wanted o (yielded ops a.tmps) = true) (x y z : Int) (ho : o.op = .build 67 #[(0, .const (.int .i64 x)), (1, .const (.int .i64 y)), (2, .const (.int .i64 z))]) (h : wpList Try.prog ops Q rest (a.put o.dst (.agg (edgC ⟨x, y, z, 0⟩))) w) : wpList Try.prog ops Q (o :: rest) a w :=
  wpList_w hw (wl_build_edge3 (o := { o with guard := none }) rfl x y z ho h)
theorem wl_build_nfa1 (hgd : o.guard = none) (x : Int) (ho : o.op = .build 52 #[(0, .const (.int .i64 x))]) (h : wpList Try.prog ops Q rest (a.put o.dst (.agg (nfaC x none 0 0 none 0 0))) w) : wpList Try.prog ops Q (o :: rest) a w := by
  have e : (#[(0, Operand.const (Value.int .i64 x))].map fun p : Nat × Operand => (p.1, a.eval p.2)) = #[(0, Value.int .i64 x)] := by simp; rfl
  exact wl_run hgd (v := .agg (nfaC x none 0 0 none 0 0)) (by unfold execOp; simp only [ho, e, Sem.run_bind, build_nfa1, Result.andThen_ok, Sem.run_pure]) h
theorem wl_build_nfa1_g (hw : Region.wanted o (yielded ops a.tmps) = true) (x : Int) (ho : o.op = .build 52 #[(0, .const (.int .i64 x))]) (h : wpList Try.prog ops Q rest (a.put o.dst (.agg (nfaC x none 0 0 none 0 0))) w) : wpList Try.prog ops Q (o :: rest) a w :=
  wpList_w hw (wl_build_nfa1 (o := { o with guard := none }) rfl x ho h)
theorem wl_eql_edge (hgd : o.guard = none) (x y : Operand) (t2 : TypeId) (ho : o.op = .binOp .eql 67 x y t2) (p q : Edg) (hx : a.eval x = .agg (edgC p)) (hy : a.eval y = .agg (edgC q)) (z : Bool) (hz : decide (p = q) = z)
    (h : wpList Try.prog ops Q rest (a.put o.dst (.bool z)) w) : wpList Try.prog ops Q (o :: rest) a w :=
  wl_bin hgd _ _ _ x y ho _ _ _ hx hy (run_eqGuard_agg w _ _ _ _ _ _ guard_edge) (run_eql_edge p q w) (hz ▸ h)
theorem wl_eql_edge_g (hw : Region.wanted o (yielded ops a.tmps) = true) (x y : Operand) (t2 : TypeId) (ho : o.op = .binOp .eql 67 x y t2) (p q : Edg) (hx : a.eval x = .agg (edgC p)) (hy : a.eval y = .agg (edgC q)) (z : Bool) (hz : decide (p = q) = z)
    (h : wpList Try.prog ops Q rest (a.put o.dst (.bool z)) w) : wpList Try.prog ops Q (o :: rest) a w :=
  wpList_w hw (wl_eql_edge (o := { o with guard := none }) rfl x y t2 ho p q hx hy z hz h)
theorem wl_load_edge_at_g (hw : Region.wanted o (yielded ops a.tmps) = true) (x : Operand) (ho : o.op = .load 67 x) (b off : Nat) (hx : a.eval x = .pointer (some ⟨b, off, none⟩)) (y : Edg) (hr : RowAt w b off (edgC y))
    (h : wpList Try.prog ops Q rest (a.put o.dst (.agg (edgC y))) w) : wpList Try.prog ops Q (o :: rest) a w :=
  wpList_w hw (wl_load_edge_at (o := { o with guard := none }) rfl x ho b off hx y hr h)
theorem wl_load_nfa_g (hw : Region.wanted o (yielded ops a.tmps) = true) (x : Operand) (ho : o.op = .load 52 x)
    (g : Nat) (hx : a.eval x = .pointer (some ⟨g, 0, none⟩)) (s : Int) (A : Option Addr) (n c : Nat) (B : Option Addr) (m d : Nat) (hb : Blk w g 52 (nfaC s A n c B m d))
    (h : wpList Try.prog ops Q rest (a.put o.dst (.agg (nfaC s A n c B m d))) w) : wpList Try.prog ops Q (o :: rest) a w :=
  wpList_w hw (wl_load_nfa (o := { o with guard := none }) rfl x ho g hx s A n c B m d hb h)
end
set_option maxRecDepth 100000 in
set_option maxHeartbeats 16000000 in
theorem known_any (w : World) : Calls Try.prog 25 #[] w fun e w' => e = .returned (.bool true) ∧ Below w.heap.size w w' := by
  go_enter Try.func25, Try.ntmps25
  go_upto_region 2 with (first | (go_at_call 48; refine (byteSet_any _).mono ?_; rintro e w1 ⟨rfl, hB1⟩) | (refine wl_bs_node rfl _ rfl rfl ?_) | (refine wl_build_star rfl _ rfl _ _ _ rfl ?_) | (refine wl_store_node rfl _ _ rfl _ _ _ _ _ _ _ _ rfl rfl (nodeC 0 0 none 0 0 0 0) rfl (Blk.new' _ _ _ (by simp)) ?_; intro w3 h1 hg3))
  have hl0 := Blk.new w1 27 (nodeC 2 x120 none 0 0 0 0)
  have hBa : Below w1.heap.size w1 (w1.alloc (.cells (nodeC 2 x120 none 0 0 0 0) 27)) := below_alloc (Below.refl _ _) _
  have hBb := below_grown (below_alloc (Below.refl _ (w1.alloc (.cells (nodeC 2 x120 none 0 0 0 0) 27))) (.cells #[.int .i64 0, .int .u64 0, .int .u64 0, .int .u64 0, .int .u64 0, .slice none 0 0, .int .i64 0, .int .i64 0] 27)) hg3 (by simp)
  have hl3 := blk_then hl0 hBb
  have hBw := below_then (below_then hB1 hBa) hBb
  have hsl := slice_one (enc := fun x : Array Value => x) (size := 8) (y := nodeC 2 x120 none 0 0 0 0) hl3
  have hin : NdIn w3 w3.heap.size starN (nodeC 5 0 (some ⟨w1.heap.size, 0, none⟩) 1 1 0 (-1)) :=
    .mk 5 0 [.mk 2 x120 [] 0 0] 0 (-1) _ 1 1 [nodeC 2 x120 none 0 0 0 0] rfl rfl (by omega) hsl (fun i h h2 => by
      have hi : i = 0 := by simp at h; exact h
      subst hi
      exact .mk 2 x120 [] 0 0 none 0 0 [] rfl rfl (by omega) (.inl rfl) (fun i h => by simp at h))
  have hb := build_any starN 3 w3.heap.size w3 _ hin (Nat.le_refl _)
  rw [star_build] at hb
  have Hb := Lib.hid hb
  clear hb hin hsl hl3 hBa hBb hl0 hg3
  go_upto_region 3 with (first | (refine wl_load_node rfl _ rfl _ rfl _ _ _ _ _ _ _ h1 ?_) | (go_at_call 28; refine Hb.out.mono ?_; rintro e w4 ⟨hB4, v, rfl, A, c, B, d, rfl, hsE, hsR⟩) | (refine wl_store_nfa rfl _ _ rfl _ 4 A 4 c B 4 d rfl rfl 0 none 0 0 none 0 0 (Blk.new _ _ _) ?_; intro w5 h2 hg5) | (go_at_call 28; refine park ?_))
  have hB5 := below_grown (below_alloc (Below.refl _ w4) (.cells #[.int .i64 0, .slice none 0 0, .slice none 0 0] 52)) hg5 (Nat.le_refl _)
  have hsE5 := (hsE.below hB5).more hB5.size
  have hsR5 := (hsR.below hB5).more hB5.size
  have hBw5 := below_then (below_then hBw hB4) hB5
  obtain ⟨g2, hg2⟩ : ∃ g, g = w4.heap.size := ⟨_, rfl⟩
  rw [← hg2] at h2
  rw [← hg2]
  clear hg2 hg5 hsE hsR hB5 hB4 h1 Hb hBw
  have hW := Blk.new w5 52 #[.int .i64 4, .slice A 4 c, .slice B 4 d, .int .i64 4, .slice A 4 c, .slice B 4 d]
  have hBa : Below w5.heap.size w5 (w5.alloc (.cells #[.int .i64 4, .slice A 4 c, .slice B 4 d, .int .i64 4, .slice A 4 c, .slice B 4 d] 52)) := below_alloc (Below.refl _ _) _
  have htwo := two_rows hW
  have hu := union_any (some ⟨w5.heap.size, 0, none⟩) 2 2 [⟨starF, A, c, B, d⟩, ⟨starF, A, c, B, d⟩] rfl (by omega) _ htwo (fun x hx => by
    have hx2 : x = ⟨starF, A, c, B, d⟩ := by simp at hx; exact hx
    subst hx2
    exact ⟨(hsE5.below hBa).more hBa.size, (hsR5.below hBa).more hBa.size, by show 4 ≤ 1048576; omega, by show 4 ≤ 1048576; omega⟩)
  obtain ⟨q0, q1, q2, q3⟩ := star_union
  have hmap : ([⟨starF, A, c, B, d⟩, ⟨starF, A, c, B, d⟩] : List MV).map MV.F = [starF, starF] := rfl
  rw [hmap, q0] at hu
  obtain ⟨U, hU⟩ : ∃ U, (unionF [starF, starF]).1 = U := ⟨_, rfl⟩
  rw [hU] at hu q1 q2 q3
  have q4 : U.R.length = 9 := by have := (right_parts q3).1; omega
  have hu2 := hu.mono (R' := fun e w' => Below (w5.alloc (.cells #[.int .i64 4, .slice A 4 c, .slice B 4 d, .int .i64 4, .slice A 4 c, .slice B 4 d] 52)).heap.size (w5.alloc (.cells #[.int .i64 4, .slice A 4 c, .slice B 4 d, .int .i64 4, .slice A 4 c, .slice B 4 d] 52)) w' ∧ ∃ A2 c2 B2 d2, e = .returned (.tuple #[.agg (nfaC 9 A2 10 c2 B2 9 d2), .int .i64 0]) ∧ SliceOf w' w'.heap.size 7 edgC A2 U.E) (by
    rintro e w' ⟨hb, v, rfl, A2, c2, B2, d2, rfl, h1, _⟩
    refine ⟨hb, A2, c2, B2, d2, ?_, h1⟩
    rw [q1, q2, q4])
  have Hu := Lib.hid hu2
  have Q2 := Lib.hid q2
  have Q3 := Lib.hid q3
  have Q1 := Lib.hid q1
  have Q4 := Lib.hid q4
  clear hu hu2 q0 q1 q2 q3 q4 hU hmap htwo
  go_upto_region 4 with (first | (refine wl_load_nfa rfl _ rfl _ rfl 4 A 4 c B 4 d h2 ?_) | (refine wl_bs_nfa2 rfl _ _ rfl A c B d rfl rfl ?_) | (go_at_call 33; refine Hu.out.mono ?_; rintro e w6 ⟨hB6, A2, c2, B2, d2, rfl, hsU⟩) | (refine wl_store_nfa rfl _ _ rfl _ 9 A2 10 c2 B2 9 d2 rfl rfl 0 none 0 0 none 0 0 (Blk.new _ _ _) ?_; intro w7 h4 hg7) | (go_at_call 33; refine park ?_))
  have hB7 := below_grown (below_alloc (Below.refl _ w6) (.cells #[.int .i64 0, .slice none 0 0, .slice none 0 0] 52)) hg7 (Nat.le_refl _)
  have hB57 := below_then (below_then hBa hB6) hB7
  have h27 := blk_then h2 hB57
  have hsE7 := (hsE5.below hB57).more hB57.size
  have hsR7 := (hsR5.below hB57).more hB57.size
  have hsU7 := (hsU.below hB7).more hB7.size
  have hBw7 := below_then hBw5 hB57
  obtain ⟨g4, hg4⟩ : ∃ g, g = w6.heap.size := ⟨_, rfl⟩
  rw [← hg4] at h4
  try rw [← hg4]
  clear hg4 hg7 hB7 hB57 hsU hB6 h2 hsE5 hsR5 hBa hW Hu hBw5
  obtain ⟨be, oe, rfl, hbe, hre⟩ := hsE7.at_ (by decide)
  obtain ⟨bR, oR, rfl, hbR, hrR⟩ := hsR7.at_ (by decide)
  have e0 : RowAt w7 be oe (edgC ⟨1, 0, 1, 0⟩) := by
    have := hre 0 (by decide)
    rw [Nat.zero_mul, Nat.add_zero] at this
    exact this
  have e2 : RowAt w7 be (oe + 14) (edgC ⟨1, 2, 1, 0⟩) := hre 2 (by decide)
  have hright := right_any 9 A2 10 c2 B2 9 d2 U.E Q2.out.symm (by rw [Q2.out]; omega) w7 hsU7
  have hrb : rightB 9 U.E 9 = true := by have := Q3.out; unfold rightF at this; rw [Q1.out, Q4.out] at this; exact this
  rw [hrb] at hright
  have Hright := Lib.hid hright
  have c20 : w7.cell? ⟨g2, 0, none⟩ = some (.int .i64 4) := h27.cellv (i := 0) rfl
  have c21 : w7.cell? ⟨g2, 1, none⟩ = some (.slice (some ⟨be, oe, none⟩) 4 c) := h27.cellv (i := 1) rfl
  have c22 : w7.cell? ⟨g2, 2, none⟩ = some (.slice (some ⟨bR, oR, none⟩) 4 d) := h27.cellv (i := 2) rfl
  have c40 : w7.cell? ⟨g4, 0, none⟩ = some (.int .i64 9) := h4.cellv (i := 0) rfl
  have c41 : w7.cell? ⟨g4, 1, none⟩ = some (.slice A2 10 c2) := h4.cellv (i := 1) rfl
  have cr3 : w7.cell? ⟨bR, oR + 3, none⟩ = some (.int .u32 8) := hrR 3 (by decide) 0 _ rfl
  clear hright hrb hre hrR hsU7 hsE7 hsR7
  go_upto_region 6 with (first | (go_at_call 27; refine (num_any _ _).mono ?_; rintro e w9 ⟨rfl, rfl⟩) | (refine wl_load_nfa_g (want_yes rfl rfl rfl) _ rfl _ rfl 9 A2 10 c2 B2 9 d2 h4 ?_) | (go_at_call 29; refine Hright.out.mono ?_; rintro e w8 ⟨rfl, hB8⟩) | (go_at_call 29; refine park ?_))
  have f0 := e0.keep (hB8.block be hbe)
  have f2 := e2.keep (hB8.block be hbe)
  have k21 : w8.cell? ⟨g2, 1, none⟩ = some (.slice (some ⟨be, oe, none⟩) 4 c) := (blk_then h27 hB8).cellv (i := 1) rfl
  have hBw8 := below_then hBw7 hB8
  have hright1 := right_any 1 none 0 0 none 0 0 [] rfl (by simp) w8 (.inl rfl)
  have hrb1 : rightB 1 [] 0 = false := by decide
  rw [hrb1] at hright1
  have Hright1 := Lib.hid hright1
  clear hright1 hrb1 c20 c21 c22 c40 c41 cr3 e0 e2 h27 h4 hB8 hBw7 Hright
  go_wp2_with (first | (refine wl_load_edge_at rfl _ rfl _ _ rfl _ f0 ?_) | (refine wl_load_edge_at_g (want_yes rfl rfl rfl) _ rfl _ _ rfl _ f2 ?_) | (refine wl_build_edge3 rfl 1 0 1 rfl ?_) | (refine wl_build_edge3_g (want_yes rfl rfl rfl) 1 2 1 rfl ?_) | (refine wl_eql_edge rfl _ _ _ rfl _ _ rfl rfl true (decide_eq_true rfl) ?_) | (refine wl_eql_edge_g (want_yes rfl rfl rfl) _ _ _ rfl _ _ rfl rfl true (decide_eq_true rfl) ?_) | (refine wl_build_nfa1_g (want_yes rfl rfl rfl) 1 rfl ?_) | (go_at_call 29; refine Hright1.out.mono ?_; rintro e w10 ⟨rfl, hB10⟩) | (go_at_call 29; refine park ?_))
  go_ret
  exact ⟨rfl, below_then hBw8 hB10⟩
end Go.Proofs.Ytajainmldcnaeaa
namespace Go.Proofs.Ytajainmldcnaeaa
open Go.RowKit Go.Maps
set_option linter.unusedVariables false
set_option linter.unusedSimpArgs false

theorem field_reader_0 (b off : Nat) (w : World) : (Instr.fieldAt 76 (.pointer (some ⟨b, off, none⟩)) 0).run Try.prog w = .ok (.pointer (some ⟨b, off, none⟩)) w := by kernel_rfl
theorem field_reader_1 (b off : Nat) (w : World) : (Instr.fieldAt 76 (.pointer (some ⟨b, off, none⟩)) 1).run Try.prog w = .ok (.pointer (some ⟨b, off + 1, none⟩)) w := by kernel_rfl
theorem gs_len_str {ops : Array Oper} {S : Nat → GSpec} {Q : Exit → Act → World → Prop} {i : Nat} {o : Oper} {a : Act} {w : World} (hw : Region.wanted o (yielded ops a.tmps) = true) (x : Operand) (ho : o.op = .call { callee := .builtin .len, args := #[x], argTypes := #[9] })
    (p : ByteArray) (hx : a.eval x = .string p) (hp : (S i).p (.int .i64 (p.size : Int)) w) : GStep Try.prog ops S Q i o a w :=
  gs_run hw (v := .int .i64 (p.size : Int)) (w' := w) (by
    unfold execOp
    simp only [ho, resolve, invoke, builtin, Sem.run_bind, Sem.run_pure, Result.andThen_ok, List.map_toArray, List.map_cons, List.map_nil, hx, run_len_string w 9 o.type p Try.underlying9]
    rfl) (Below.refl _ _) hp
/-- a call that turns one block, or ends in a panic -/
theorem GStepR.call_or {rw : Option Nat} {i0 : Nat} {P : Program} {ops : Array Oper} {S : Nat → GSpec} {Q : Exit → Act → World → Prop} {o : Oper} {a : Act} {w : World} (hw : Region.wanted o (yielded ops a.tmps) = true) (f : FuncId) (xs : Array Operand) (ats : Array TypeId) (ho : o.op = .call { callee := .value (.func f), args := xs, argTypes := ats })
    (hf : ∀ args w, (callFunc f args).run P w = .ok (.enter f args) w) (vs : Array Value) (hv : xs.map a.eval = vs)
    (hc : Calls P f vs w fun e w' => (∃ v, e = .returned v ∧ w.grownBy w' rw ∧ (S i0).p v w') ∨ ∃ ch, e = .panicked ch ∧ Q (.panic ch) a w') : GStepR rw i0 P ops S Q i0 o a w := by
  unfold GStepR
  rw [if_pos hw]
  unfold Oper.wp
  have hr : (execOp a.eval o).run P w = .ok (.enter f vs) w := by
    have he : execOp a.eval o = callFunc f (#[] ++ xs.map a.eval ++ #[]) := by
      unfold execOp; rw [ho]; rfl
    rw [he, hv]
    simpa using hf vs w
  rw [hr, Oper.upon_enter]
  refine hc.mono ?_
  rintro e w' (⟨v, rfl, hb, hp⟩ | ⟨ch, rfl, hq⟩)
  · exact ⟨v, rfl, ⟨hb, fun h => (h rfl).elim⟩, hp⟩
  · exact hq
theorem Turn.one {g : Nat} {w w' : World} (h : Turn g (g + 1) w w') : w.grownBy w' (some g) := ⟨h.os, h.tape, h.output, h.size, fun k hk hn => h.block k hk (by
  rcases Nat.lt_trichotomy k g with h1 | h1 | h1
  · exact .inl h1
  · exact absurd (by rw [h1]) hn
  · exact .inr h1)⟩
theorem Turn.of_one {g : Nat} {w w' : World} (h : w.grownBy w' (some g)) : Turn g (g + 1) w w' := ⟨h.os, h.tape, h.output, h.size, fun k hk hn => h.block k hk (fun e => by injection e with e; omega)⟩
/-- what a reader's item hands back, and where the reader stands then -/
def rdS (g : Nat) (p : ByteArray) (y : Value) (k : Nat) (r : Prop) : GSpec := ⟨fun v w => r → v = y ∧ Blk w g 76 (rdC p k), fun v w w' h hB hr => ⟨(h hr).1, blk_then (h hr).2 hB⟩⟩
theorem enter_item (args : Array Value) (w : World) : (callFunc 90 args).run Try.prog w = .ok (.enter 90 args) w := by kernel_rfl
/-- an operation that never answers -/
def noS : GSpec := ⟨fun _ _ => False, fun _ _ _ h _ => h⟩
theorem wl_sets2 {ops : Array Oper} {rest : List Oper} {o : Oper} {a : Act} {w : World} {Q : Exit → Act → World → Prop} (hgd : o.guard = none) (x y : Operand) (ho : o.op = .buildSlice 123 2 #[(0, x), (1, y)]) (p q : BSet) (hx : a.eval x = .agg (setC p)) (hy : a.eval y = .agg (setC q))
    (h : wpList Try.prog ops Q rest (a.put o.dst (.slice (some ⟨w.heap.size, 0, none⟩) 2 2)) (w.alloc (.cells (setC p ++ setC q) 24))) : wpList Try.prog ops Q (o :: rest) a w :=
  wpList_plain hgd fun _ hK => by
    have e : (#[(0, x), (1, y)] : Array (Nat × Operand)).map (fun (i, x) => (i, a.eval x)) = #[(0, .agg (setC p)), (1, .agg (setC q))] := by simp [hx, hy]
    unfold Oper.wp execOp
    simp only [ho, e, Sem.run_bind, build_sets2, Result.andThen_ok, Sem.run_pure]
    exact hK _ _ h
theorem ofB_one (b : UInt8) : ofB [b] = bit b.toNat := by simp [ofB]
theorem rd_cell {g : Nat} {p : ByteArray} {i : Nat} {w w' : World} (h : Blk w g 76 (rdC p i)) (hB : Below w.heap.size w w') : w'.cell? ⟨g, 0, none⟩ = some (.string p) ∧ w'.cell? ⟨g, 0 + 1, none⟩ = some (.int .i64 (i : Int)) := ⟨(blk_then h hB).cellv rfl, (blk_then h hB).cellv rfl⟩
end Go.Proofs.Ytajainmldcnaeaa
