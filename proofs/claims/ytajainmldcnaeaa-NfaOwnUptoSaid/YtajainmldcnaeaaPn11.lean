/- Part 11 of a proof; packed: the texts that it was made of follow one another. No condition beyond those named in each lemma. -/
import Derived.Test.YtajainmldcnaeaaPn10
import Derived.Test.YtajainmldcnaeaaPn3
namespace Go.Proofs.Ytajainmldcnaeaa
open Go.RowKit Go.Maps
set_option linter.unusedVariables false
set_option linter.unusedSimpArgs false
attribute [local go_sem] Oper.semAt_some

/-- a machine in memory of one's own -/
def NfaOw (B : Nat) (w : World) (v : Value) (F : NF) : Prop :=
  ∃ A c B' d, v = .agg (nfaC F.s A F.E.length c B' F.R.length d) ∧ Own w B 67 7 edgC (.slice A F.E.length c) F.E ∧ Own w B 57 1 encR (.slice B' F.R.length d) F.R
theorem NfaOw.none_ (B : Nat) (w : World) : NfaOw B w (.agg (nfaC 0 none 0 0 none 0 0)) .none := ⟨_, _, _, _, rfl, Own.nil_ _ _ _ _ _, Own.nil_ _ _ _ _ _⟩
set_option maxRecDepth 100000 in
set_option maxHeartbeats 8000000 in
theorem build_own (nd : Nd) (rule : Int) (B : Nat) (w : World) (cs : Array Value) (hin : NdIn w B nd cs) (hB : B ≤ w.heap.size) :
    Calls Try.prog 28 #[.agg cs, .int .i64 rule] w fun e w' => Below w.heap.size w w' ∧ ∃ v, e = .returned (.tuple #[v, .int .i64 (buildF nd rule).2]) ∧ NfaOw w.heap.size w' v (buildF nd rule).1 := by
  have hpl := fun W h1 h2 => placesE_any nd B W _ (NdIn.keep (w' := W) h1 hin) h2
  have hlay := lay_ok nd
  have hgood := fun h => layF_good (nd := nd) h
  obtain ⟨V, hV⟩ : ∃ V, placesN nd = V := ⟨_, rfl⟩
  rw [hV] at hpl
  have hV0 : nd.isT = false → V = 0 := fun h => by rw [← hV]; unfold placesN; rw [if_neg (by simp [h])]
  have hV1 : nd.isT = true → V = min (nd.U + 1) 2049 := fun h => by rw [← hV]; unfold placesN; rw [if_pos h]
  have hb0 := fun h => buildF_tree (nd := nd) (rule := rule) h
  have hb1 := fun h h2 => buildF_big (nd := nd) (rule := rule) h h2
  have hb2 := fun h h2 h3 => buildF_rule (nd := nd) (rule := rule) h h2 h3
  obtain ⟨bf, hbf⟩ : ∃ b, buildF nd rule = b := ⟨_, rfl⟩
  rw [hbf] at hb0 hb1 hb2 ⊢
  obtain ⟨⟨kd, st, l, mi, ma⟩, hx⟩ : ∃ y, y = nd := ⟨_, rfl⟩
  obtain ⟨A, n, c, cl, rfl, -⟩ := (hx ▸ hin : NdIn w B (Nd.mk kd st l mi ma) cs).inv
  have Hx := Lib.hid hx
  have Hbf := Lib.hid hbf
  have Hin := Lib.hid hin
  have Hpl := Lib.hid hpl
  have Hlay := Lib.hid hlay
  have Hgood := Lib.hid hgood
  have HV0 := Lib.hid hV0
  have HV1 := Lib.hid hV1
  have HB0 := Lib.hid hb0
  have HB1 := Lib.hid hb1
  have HB2 := Lib.hid hb2
  clear hpl hlay hgood hV hV0 hV1 hb0 hb1 hb2 hin hx hbf
  go_enter Try.func28, Try.ntmps28
  have h1 := (Blk.new w 27 (nodeC kd st A n c mi ma)).alloc (.cells #[.int .i64 0, .slice none 0 0, .slice none 0 0] 52)
  have h4 : Blk ((w.alloc (.cells (nodeC kd st A n c mi ma) 27)).alloc (.cells #[.int .i64 0, .slice none 0 0, .slice none 0 0] 52)) (w.heap.size + 1) 52 (nfaC 0 none 0 0 none 0 0) := Blk.new' _ _ _ (by simp)
  have hBw := below_alloc (below_alloc (Below.refl w.heap.size w) (.cells (nodeC kd st A n c mi ma) 27)) (.cells #[.int .i64 0, .slice none 0 0, .slice none 0 0] 52)
  go_upto_region 1 with (fail)
  obtain ⟨w1, hw1⟩ : ∃ y, y = (w.alloc (.cells (nodeC kd st A n c mi ma) 27)).alloc (.cells #[.int .i64 0, .slice none 0 0, .slice none 0 0] 52) := ⟨_, rfl⟩
  rw [← hw1] at h1 h4 hBw ⊢
  clear hw1
  obtain ⟨g4, hg4⟩ : ∃ g, g = w.heap.size + 1 := ⟨_, rfl⟩
  rw [← hg4] at h4
  have hg4b : w.heap.size ≤ g4 := by omega
  try rw [← hg4]
  clear hg4
  have hp := Hpl.out w1 (fun j hj => hBw.block j (by omega)) (by have := hBw.size; omega)
  have Hp := Lib.hid hp
  clear hp Hpl
  go_upto_block 0 with (first | (refine wl_load_node rfl _ rfl _ rfl _ _ _ _ _ _ _ h1 ?_) | (go_at_call 16; refine Hp.out.mono ?_; rintro e w4 ⟨rfl, hB4⟩) | (go_at_call 16; refine park ?_))
  replace h1 := blk_then h1 hB4
  replace h4 := blk_then h4 hB4
  replace hBw := below_then hBw hB4
  clear hB4 Hp
  by_cases hT : nd.isT = false
  · have HE := Lib.hid (HB0.out hT)
    obtain rfl : V = 0 := HV0.out hT
    clear hT HV0 HV1 HB0 HB1 HB2
    go_wp2_with (first | (refine wl_build_nfa0 rfl rfl ?_) | (refine wl_store_nfa rfl _ _ rfl g4 0 none 0 0 none 0 0 rfl rfl _ _ _ _ _ _ _ h4 ?_; intro w5 h5 hg5))
    have hBe := hBw.grown hg5 (by have := hBw.size; omega) (fun j e => by injection e with e; omega)
    refine ret_nfa2 rfl rfl h5 rfl ?_
    refine ⟨hBe, .agg (nfaC 0 none 0 0 none 0 0), ?_, ?_⟩
    · rw [HE.out]; rfl
    · rw [HE.out]; exact NfaOw.none_ _ _
  have hT : nd.isT = true := by simpa using hT
  have hV := HV1.out hT
  have hV0b : ((V : Int) == 0) = false := by simp; omega
  by_cases hU : 2048 ≤ nd.U
  · have HE := Lib.hid (HB1.out hT hU)
    have hVb : decide ((2048 : Int) < (V : Int)) = true := by simp; omega
    clear hT HV0 HV1 HB0 HB1 HB2 hV hU
    go_wp2_with (first | (refine wl_build_nfa0 rfl rfl ?_) | (refine wl_store_nfa rfl _ _ rfl g4 0 none 0 0 none 0 0 rfl rfl _ _ _ _ _ _ _ h4 ?_; intro w5 h5 hg5))
    have hBe := hBw.grown hg5 (by have := hBw.size; omega) (fun j e => by injection e with e; omega)
    refine ret_nfa2 rfl rfl h5 rfl ?_
    refine ⟨hBe, .agg (nfaC 0 none 0 0 none 0 0), ?_, ?_⟩
    · rw [HE.out]; rfl
    · rw [HE.out]; exact NfaOw.none_ _ _
  have hVb : decide ((2048 : Int) < (V : Int)) = false := by simp; omega
  clear hV HV0 HV1 HB0 HB1
  by_cases hr0 : rule < 0
  · have HE := Lib.hid (HB2.out hT hU (.inl hr0))
    have hrb : decide (rule < 0) = true := by simpa using hr0
    clear HB2 hT
    go_wp2_with (first | (refine wl_build_nfa0 rfl rfl ?_) | (refine wl_store_nfa rfl _ _ rfl g4 0 none 0 0 none 0 0 rfl rfl _ _ _ _ _ _ _ h4 ?_; intro w5 h5 hg5))
    have hBe := hBw.grown hg5 (by have := hBw.size; omega) (fun j e => by injection e with e; omega)
    refine ret_nfa2 rfl rfl h5 rfl ?_
    refine ⟨hBe, .agg (nfaC 0 none 0 0 none 0 0), ?_, ?_⟩
    · rw [HE.out]; rfl
    · rw [HE.out]; exact NfaOw.none_ _ _
  have hrb : decide (rule < 0) = false := by simpa using hr0
  by_cases hr1 : 32 ≤ rule
  · have HE := Lib.hid (HB2.out hT hU (.inr hr1))
    have hrb1 : decide (32 ≤ rule) = true := by simpa using hr1
    clear HB2 hT
    go_wp2_with (first | (refine wl_build_nfa0 rfl rfl ?_) | (refine wl_store_nfa rfl _ _ rfl g4 0 none 0 0 none 0 0 rfl rfl _ _ _ _ _ _ _ h4 ?_; intro w5 h5 hg5))
    have hBe := hBw.grown hg5 (by have := hBw.size; omega) (fun j e => by injection e with e; omega)
    refine ret_nfa2 rfl rfl h5 rfl ?_
    refine ⟨hBe, .agg (nfaC 0 none 0 0 none 0 0), ?_, ?_⟩
    · rw [HE.out]; rfl
    · rw [HE.out]; exact NfaOw.none_ _ _
  have hrb1 : decide (32 ≤ rule) = false := by simpa using hr1
  obtain ⟨r, rfl⟩ := Int.eq_ofNat_of_zero_le (show 0 ≤ rule by omega)
  have hr32 : r < 32 := by omega
  have hbo := Hbf.out.symm.trans (buildF_ok hT hU hr32)
  have HBO := Lib.hid hbo
  obtain ⟨hg1, hg2, hg3⟩ := Hgood.out hT
  clear hbo HB2 Hbf Hgood
  go_upto_region 9 with (first | (refine wl_build_mkP rfl rfl ?_) | (refine wl_box_mkP rfl _ rfl rfl ?_))
  have hk := Blk.new w4 90 (mkP 0 (.slice none 0 0))
  have hB5 : Below w4.heap.size w4 (w4.alloc (.cells (mkP 0 (.slice none 0 0)) 90)) := below_alloc (Below.refl _ _) _
  obtain ⟨w5, hw5⟩ : ∃ y, y = w4.alloc (.cells (mkP 0 (.slice none 0 0)) 90) := ⟨_, rfl⟩
  rw [← hw5] at hk hB5 ⊢
  clear hw5
  replace h1 := blk_then h1 hB5
  replace h4 := blk_then h4 hB5
  have hsz4 := hBw.size
  replace hBw := below_then hBw hB5
  obtain ⟨gk, hgk⟩ : ∃ g, g = w4.heap.size := ⟨_, rfl⟩
  rw [← hgk] at hk hsz4
  try rw [← hgk]
  clear hgk hB5 hrb hrb1 hVb hV0b
  have hgl := hk.lt
  have hne1 : some w.heap.size ≠ some gk := fun e => Blk.ne_ h1 hk (by decide) (by injection e)
  have hne4 : some g4 ≠ some gk := fun e => Blk.ne_ h4 hk (by decide) (by injection e)
  refine wp_region_stepsR (rw := some gk) (i0 := 3) 4 [eqS (.pointer (some ⟨gk, 0, none⟩)), eqS (.agg (nodeC kd st A n c mi ma)), eqS (.pointer (some ⟨gk, 0, none⟩)), stS gk (.slice none 0 0)] [29, 30, 31, 32] rfl ?_ (by kernel_rfl) rfl ?_ ?_
  · intro j hj v wa wb hp hg
    match j, hj, hp with
    | 0, _, hp => exact hp
    | 1, _, hp => exact hp
    | 2, _, hp => exact hp
    | 3, hj, _ => exact absurd rfl hj
    | j + 4, _, hp => exact hp
  · skip
    refine StepsR.cons (fun a' w' hG hW hP dep => GStepR.of (gs_move (want_none rfl) _ rfl (hG.other 7 rfl))) ?_
    refine StepsR.cons (fun a' w' hG hW hP dep => GStepR.of (gs_load_node (want_none rfl) _ rfl w.heap.size (hG.other 2 rfl) kd st A n c mi ma (h1.grown hW hne1) rfl)) ?_
    refine StepsR.cons (fun a' w' hG hW hP dep => GStepR.of (gs_move (want_none rfl) _ rfl (hG.other 7 rfl))) ?_
    refine StepsR.cons (fun a' w' hG hW hP dep => GStepR.call (want_none rfl) _ _ _ rfl enter_pstate _ (map1 (dep 2 rfl 31 rfl)) ((pstate_g gk 0 (.slice none 0 0) w' (blk_then hk (hP rfl)) (by omega)).mono fun e w2 ⟨he, hb, hg⟩ => ⟨_, he, hg, ⟨rfl, hb⟩⟩)) ?_
    exact StepsR.nil
  intro uf w6 hW6 ans
  have v29 : uf 29 = .pointer (some ⟨gk, 0, none⟩) := ans 0 29 (by decide) rfl
  have v30 : uf 30 = .agg (nodeC kd st A n c mi ma) := ans 1 30 (by decide) rfl
  obtain ⟨v32, hk6⟩ := ans 3 32 (by decide) rfl
  clear ans
  simp only [putAll, List.foldl_cons, List.foldl_nil, Act.put, List.setIfInBounds_toArray, List.set_cons_zero, List.set_cons_succ, v29, v30, v32]
  clear v29 v30 v32
  simp only [List.drop]
  have hBw6 := hBw.grown hW6 (by have := hBw.size; omega) (fun j e => by injection e with e; omega)
  have h46 : Blk w6 g4 52 _ := h4.grown hW6 hne4
  have hMk : MkIs 90 mkP w6 gk gk ⟨1, []⟩ := ⟨_, hk6, Own.nil_ _ _ _ _ _, Nat.le_refl _⟩
  have hin6 := NdIn.keep (w' := w6) (fun j hj => hBw6.block j (by omega)) Hin.out
  have hcl := Hlay.out gk gk B ⟨1, []⟩ 0 w6 _ hin6 (by omega) hT hMk (by show 1 + nd.U ≤ _; omega) (by show 0 + 3 * nd.U ≤ _; omega)
  refine wl_call rfl _ _ _ rfl enter_play #[.pointer (some ⟨gk, 0, none⟩), .agg (nodeC kd st A n c mi ma), .int .i64 ((0 : Nat) : Int)] (map3 rfl rfl rfl) ?_
  refine hcl.mono ?_
  rintro e w7 ⟨rfl, hM7, hF7⟩
  refine ⟨_, rfl, ?_⟩
  have hlay : nd.lay ⟨1, []⟩ 0 = layF nd := rfl
  rw [hlay] at hM7
  obtain ⟨m, hm⟩ : ∃ m, m = layF nd := ⟨_, rfl⟩
  simp only [hlay]
  rw [← hm] at hM7 hg1 hg2 hg3
  have hbo := HBO.out
  rw [← hm] at hbo
  rw [← hm]
  replace HBO := Lib.hid hbo
  have hBw7 := Below.fr hBw6 hF7 (by omega) (by have := hBw6.size; omega)
  have h47 := blk_fr h46 hF7 (.inr ⟨by decide, by decide⟩)
  have hms : m.1.s ≤ 2048 := by omega
  have hme : m.1.e.length ≤ 6144 := by omega
  clear hbo hm hlay hcl hin6 hMk hk6 hW6 hF7 h46 hBw6 hBw h1 h4 hk hg1 hg2 hT hU Hlay hne1 hne4 hr0 hr1
  simp only [Act.put, List.setIfInBounds_toArray, List.set_cons_zero, List.set_cons_succ]
  obtain ⟨v, hk7, hE7, -⟩ := hM7
  have c0 : w7.cell? ⟨gk, 0, none⟩ = some (.int .i64 (m.1.s : Int)) := hk7.cellv (i := 0) rfl
  go_upto_region 10 with (fail)
  obtain ⟨Ae, ke, rfl, _, _⟩ := hE7.shape
  have hgl7 := hk7.lt
  go_upto_region 11 with (first | (refine wl_makeR rfl _ _ rfl m.1.s w7.heap.size rfl rfl (by omega) (Nat.le_refl _) ?_; intro w8 hR8 hB8; have hk8 := blk_then hk7 hB8) | (refine wl_store_cell rfl _ _ _ rfl gk 2 rfl _ _ (nfaC (m.1.s : Int) Ae m.1.e.length ke (some ⟨w7.heap.size, 0, none⟩) m.1.s m.1.s) hk8 (by simp [mkP]) info_rules1 rfl rfl rfl ?_; intro w9 hk9 hg9))
  have hR9 := own_box hR8 hk8 hg9 (by decide)
  have hE9 := own_box (hE7.then_ hB8) hk8 hg9 (by decide)
  have h48 := blk_then h47 hB8
  have h49 : Blk w9 g4 52 _ := h48.grown hg9 (fun e => Blk.ne_ h48 hk8 (by decide) (by injection e))
  have hBw9 := (below_then hBw7 hB8).grown hg9 (by have := hBw7.size; have := hB8.size; omega) (fun j e => by injection e with e; omega)
  obtain ⟨gR, hgR⟩ : ∃ g, g = w7.heap.size := ⟨_, rfl⟩
  rw [← hgR] at hR9 hk9
  try rw [← hgR]
  have hgR1 : gk < gR := by omega
  clear hR8 hk8 hg9 hE7 hB8 hk7 h47 h48 c0 hBw7 hgR hgl7
  refine wp_region_steps 9 [eqS (.pointer (some ⟨gk, 0, none⟩)), eqS (.pointer (some ⟨gk, 0, none⟩)), eqS (.pointer (some ⟨gk, 0, none⟩)), eqS (.pointer (some ⟨gk, 2, none⟩)), eqS (.slice (some ⟨gR, 0, none⟩) m.1.s m.1.s), eqS (.int .i64 (m.2 : Int)), eqS (.int .i64 (r : Int)), eqS (.int .u32 ((2 ^ r : Nat) : Int)), eqS (.pointer (some ⟨gR, m.2, none⟩))] [44, 45, 46, 47, 48, 49, 50, 51, 52] rfl (by kernel_rfl) rfl ?_ ?_
  · skip
    refine Steps.cons (fun a' w' hG hB dep => gs_move (want_none rfl) _ rfl (hG.other 7 rfl)) ?_
    refine Steps.cons (fun a' w' hG hB dep => gs_nil (want_none rfl) _ rfl _ (dep 0 rfl 44 rfl) rfl) ?_
    refine Steps.cons (fun a' w' hG hB dep => gs_field (want_none rfl) _ _ _ rfl gk 0 0 (dep 1 rfl 45 rfl) (fun wz => field_maker_0 gk 0 wz) rfl) ?_
    refine Steps.cons (fun a' w' hG hB dep => gs_field (want_none rfl) _ _ _ rfl gk 0 2 (dep 2 rfl 46 rfl) (fun wz => field_nfa_2 gk 0 wz) rfl) ?_
    refine Steps.cons (fun a' w' hG hB dep => gs_load1 (want_none rfl) _ _ rfl gk 2 (dep 3 rfl 47 rfl) (.slice (some ⟨gR, 0, none⟩) m.1.s m.1.s) ((blk_then hk9 hB).cellv (i := 2) rfl) _ Try.underlying50 rfl rfl) ?_
    refine Steps.cons (fun a' w' hG hB dep => gs_move (want_none rfl) _ rfl (hG.other 8 rfl)) ?_
    refine Steps.cons (fun a' w' hG hB dep => gs_move (want_none rfl) _ rfl (hG.other 1 rfl)) ?_
    refine Steps.cons (fun a' w' hG hB dep => gs_shl_u32 (want_none rfl) _ _ _ rfl r hr32 rfl (dep 6 rfl 50 rfl) rfl) ?_
    refine Steps.cons (fun a' w' hG hB dep => gs_index (want_none rfl) _ _ _ rfl under_rules 1 size_ruleE gR 0 m.1.s m.1.s m.2 (dep 4 rfl 48 rfl) (dep 5 rfl 49 rfl) hg3 (congrArg (fun q => Value.pointer (some ⟨gR, q, none⟩)) (by omega))) ?_
    exact Steps.nil
  intro uz w10 hB10 ans
  have v51 : uz 51 = .int .u32 ((2 ^ r : Nat) : Int) := ans 7 51 (by decide) rfl
  have v52 : uz 52 = .pointer (some ⟨gR, m.2, none⟩) := ans 8 52 (by decide) rfl
  clear ans
  simp only [putAll, List.foldl_cons, List.foldl_nil, Act.put, List.setIfInBounds_toArray, List.set_cons_zero, List.set_cons_succ, v51, v52]
  clear v51 v52
  simp only [List.drop]
  have hR10 := hR9.then_ hB10
  refine wl_store_rule rfl _ _ rfl gR m.2 m.1.s m.1.s rfl (2 ^ r) rfl hR10 (by rw [List.length_replicate]; exact hg3) ?_
  intro w11 hR11 hg11
  refine wpList_nil ?_
  have hE11 := own_own (hE9.then_ hB10) hR10 hg11 (by decide)
  have hk11 : Blk w11 gk 90 _ := (blk_then hk9 hB10).grown hg11 (fun e => by injection e with e; omega)
  have h411 : Blk w11 g4 52 _ := (blk_then h49 hB10).grown hg11 (fun e => own_blk_ne hR10 (blk_then h49 hB10) (by decide) e.symm)
  have hBw11 := (below_then hBw9 hB10).grown hg11 (by have := hBw9.size; have := hB10.size; omega) (fun j e => by injection e with e; omega)
  clear hR10 hR9 hE9 hk9 h49 hBw9 hB10 hg11
  go_wp2_with (first | (refine wl_load_nfa_at rfl _ rfl gk 0 rfl _ _ _ _ _ _ _ (RowAt.of_blk hk11) ?_) | (refine wl_store_nfa rfl _ _ rfl g4 _ _ _ _ _ _ _ rfl rfl _ _ _ _ _ _ _ h411 ?_; intro w12 h412 hg12))
  have hR12 := own_box hR11 h411 hg12 (by decide)
  have hE12 := own_box hE11 h411 hg12 (by decide)
  have hBe := hBw11.grown hg12 (by have := hBw11.size; omega) (fun j e => by injection e with e; omega)
  refine ret_nfa2 rfl rfl h412 rfl ?_
  refine ⟨hBe, .agg (nfaC (m.1.s : Int) Ae m.1.e.length ke (some ⟨gR, 0, none⟩) m.1.s m.1.s), ?_, ?_⟩
  · rw [HBO.out]; rfl
  · rw [HBO.out]
    refine ⟨Ae, ke, some ⟨gR, 0, none⟩, m.1.s, by simp, hE12.mono (by omega), ?_⟩
    simp only [List.length_set, List.length_replicate]
    exact hR12.mono (by omega)
end Go.Proofs.Ytajainmldcnaeaa
namespace Go.Proofs.Ytajainmldcnaeaa
open Go.RowKit Go.Maps
set_option linter.unusedVariables false
set_option linter.unusedSimpArgs false
attribute [local go_sem] Oper.semAt_some

set_option maxRecDepth 100000 in
set_option maxHeartbeats 16000000 in
theorem union_own (A : Option Addr) (n c : Nat) (l : List MV) (hn : n = l.length) (hn2 : n ≤ 1048576) (w : World) (hs : SliceOf w w.heap.size 3 MV.C A l) (hM : MsIn w w.heap.size l) :
    Calls Try.prog 33 #[.slice A n c] w fun e w' => Below w.heap.size w w' ∧ ∃ v, e = .returned (.tuple #[v, .int .i64 (unionF (l.map MV.F)).2]) ∧ NfaOw w.heap.size w' v (unionF (l.map MV.F)).1 := by
  have hright : ∀ x ∈ l, ∀ W : World, Below w.heap.size w W → Calls Try.prog 29 #[.agg x.C] W fun e w' => e = .returned (.bool (rightF x.F)) ∧ Below W.heap.size W w' := fun x hx W hb =>
    right_any x.F.s x.A _ x.c x.B _ x.d x.F.E rfl (by have := (hM x hx).2.2.1; omega) W (((hM x hx).1.below hb).more hb.size)
  have huno : (l.map MV.F).all rightF = false → unionF (l.map MV.F) = (.none, 70) := fun h => by unfold unionF; rw [h]; rfl
  have huyes : (l.map MV.F).all rightF = true → unionF (l.map MV.F) = (uFold (l.map MV.F), 0) := fun h => by unfold unionF; rw [h]; rfl
  obtain ⟨bf, hbf⟩ : ∃ b, unionF (l.map MV.F) = b := ⟨_, rfl⟩
  rw [hbf] at huno huyes ⊢
  have Hn := Lib.hid hn
  have HM := Lib.hid hM
  have HR := Lib.hid hright
  have Hno := Lib.hid huno
  have Hyes := Lib.hid huyes
  clear hn hM hright huno huyes hbf
  go_enter Try.func33, Try.ntmps33
  have h2 : Blk (w.alloc (.cells #[.int .i64 0, .slice none 0 0, .slice none 0 0] 52)) w.heap.size 52 (nfaC 0 none 0 0 none 0 0) := Blk.new _ _ _
  have hB1 : Below w.heap.size w (w.alloc (.cells #[.int .i64 0, .slice none 0 0, .slice none 0 0] 52)) := below_alloc (Below.refl _ _) _
  go_upto_region 1 with (fail)
  obtain ⟨w1, hw1⟩ : ∃ y, y = w.alloc (.cells #[.int .i64 0, .slice none 0 0, .slice none 0 0] 52) := ⟨_, rfl⟩
  rw [← hw1] at h2 hB1 ⊢
  clear hw1
  have hl1 := h2.lt
  go_wp2_with (fail)
  go_loopw [14] (fun i wr => ∃ k : Nat, k ≤ n ∧ i = .int .i64 k ∧ Hid ((l.take k).all (fun x => rightF x.F) = true) ∧ Below w.heap.size w wr ∧ Blk wr w.heap.size 52 (nfaC 0 none 0 0 none 0 0)) (fun i _ => n - (intOf i).toNat)
  case atStart => exact ⟨0, by omega, rfl, Lib.hid rfl, hB1, h2⟩
  case round =>
    clear h2 hB1
    obtain ⟨k, hk, rfl, hall, hBw, h2⟩ := hrel
    have hszw := hBw.size
    by_cases hkn : k < n
    · have hkI : (k : Int) < n := by omega
      have hkl : k < l.length := by rw [← Hn.out]; exact hkn
      obtain ⟨ba, off, rfl, hba, hrows⟩ := hs.at_ (by omega)
      have hrow := (hrows k hkl).keep (hBw.block ba (by omega))
      have hmem : l[k] ∈ l := List.getElem_mem hkl
      obtain ⟨x, hx⟩ : ∃ x, x = l[k] := ⟨_, rfl⟩
      rw [← hx] at hrow hmem
      obtain ⟨y, hy⟩ : ∃ y, rightF x.F = y := ⟨_, rfl⟩
      have hst : (l.take (k + 1)).all (fun x => rightF x.F) = y := by
        rw [List.take_succ_eq_append_getElem hkl, List.all_append, hall.out, ← hx]
        simp [hy]
      have hno : y = false → (l.map MV.F).all rightF = false := fun h => by
        rw [List.all_eq_false]
        exact ⟨x.F, List.mem_map_of_mem hmem, by rw [hy, h]; decide⟩
      have hcall := fun W h => HR.out x hmem W h
      rw [hy] at hcall
      have Hcall := Lib.hid hcall
      have Hst := Lib.hid hst
      have Hno2 := Lib.hid hno
      have hkb : k < 1099511628000 := by omega
      clear hcall hst hno hy hx hrows
      go_upto_region 4 with (first | (refine wl_load_nfa_row rfl _ rfl _ _ rfl x hrow ?_) | (refine wl_store_mv rfl _ _ rfl _ x rfl rfl _ rfl (Blk.new _ _ _) ?_; intro w3 h5 hg3))
      have hB3 := below_grown (below_alloc (Below.refl _ wr) (.cells #[.int .i64 0, .slice none 0 0, .slice none 0 0] 52)) hg3 (Nat.le_refl _)
      have hB3w := below_then hBw hB3
      have h23 := blk_then h2 hB3
      clear hg3 hrow
      cases y
      · go_wp2_with (first | (refine wl_load_mv rfl _ rfl _ rfl x h5 ?_) | (go_at_call 29; refine (Hcall.out _ hB3w).mono ?_; rintro e w4 ⟨rfl, hB4⟩; have hBw4 := below_then hB3w hB4; have h24 := blk_then h23 hB4) | (go_at_call 29; refine park ?_) | (refine wl_build_nfa0 rfl rfl ?_) | (refine wl_store_nfa rfl _ _ rfl w.heap.size 0 none 0 0 none 0 0 rfl rfl _ _ _ _ _ _ _ h24 ?_; intro w7 h7 hg7))
        have hBe := hBw4.grown hg7 (by have := hBw4.size; omega) (fun j e => by injection e with e; omega)
        refine ret_nfa2 rfl rfl h7 rfl ?_
        refine ⟨hBe, .agg (nfaC 0 none 0 0 none 0 0), ?_, ?_⟩
        · rw [Hno.out (Hno2.out (by first | rfl | trivial))]; rfl
        · rw [Hno.out (Hno2.out (by first | rfl | trivial))]; exact NfaOw.none_ _ _
      · go_wp2_with (first | (refine wl_load_mv rfl _ rfl _ rfl x h5 ?_) | (go_at_call 29; refine (Hcall.out _ hB3w).mono ?_; rintro e w4 ⟨rfl, hB4⟩; have hBw4 := below_then hB3w hB4; have h24 := blk_then h23 hB4) | (go_at_call 29; refine park ?_))
        exact ⟨⟨k + 1, by omega, rfl, Lib.hid Hst.out, hBw4, h24⟩, by simp only [intOf]; omega⟩
    · have hkI : ¬ (k : Int) < n := by omega
      have hke : l.take k = l := List.take_of_length_le (by have := Hn.out; omega)
      have hallr : ∀ x ∈ l, rightF x.F = true := fun x hx => by
        have := hall.out
        rw [hke, List.all_eq_true] at this
        exact this x hx
      have hye := Hyes.out (by rw [List.all_eq_true]; intro z hz; obtain ⟨x, hx, rfl⟩ := List.mem_map.1 hz; exact hallr x hx)
      have HE := Lib.hid hye
      have HA := Lib.hid hallr
      clear hke hallr hye hall
      go_upto_region 7 with (fail)
      obtain ⟨WA, hWA⟩ : ∃ y, y = wr := ⟨_, rfl⟩
      rw [← hWA] at hBw h2 ⊢
      clear hWA
      have hBA := hBw
      have o1 : Own (WA.alloc (.cells (encR 0) 57)) w.heap.size 57 1 encR (.slice (some ⟨WA.heap.size, 0, none⟩) 1 1) [0] := ⟨rfl, .inr ⟨WA.heap.size, 1, encR 0, rfl, hBA.size, heap_alloc_new WA _, Nat.le_refl _, by unfold maxLen; omega, rfl, rfl⟩⟩
      have hBa : Below WA.heap.size WA (WA.alloc (.cells (encR 0) 57)) := below_alloc (Below.refl _ _) _
      go_upto_region 8 with (first | (refine wl_bs0 rfl rfl ?_) | (refine wl_buildN1 rfl _ rfl _ _ _ rfl ?_) | (refine wl_store_nfa rfl _ _ rfl _ _ _ _ _ _ _ _ rfl rfl 0 none 0 0 none 0 0 (Blk.new' _ _ _ (by simp)) ?_; intro w5 h6 hg6))
      have hBb := below_grown (below_alloc (Below.refl _ (WA.alloc (.cells (encR 0) 57))) (.cells #[.int .i64 0, .slice none 0 0, .slice none 0 0] 52)) hg6 (by simp)
      have o5 := o1.then_ hBb
      have hB5 := below_then (below_then hBA hBa) hBb
      have h25 := blk_then (blk_then h2 hBa) hBb
      obtain ⟨g6, hg6e⟩ : ∃ g, g = WA.heap.size + 1 := ⟨_, rfl⟩
      rw [← hg6e] at h6
      try rw [← hg6e]
      have hg6b : w.heap.size < g6 := by have := hBA.size; omega
      obtain ⟨gz, hgz⟩ : ∃ g, g = WA.heap.size := ⟨_, rfl⟩
      rw [← hgz] at o5 h6
      clear o1 hBa hg6 hBb hg6e hgz
      clear hBA hBw h2
      go_wp2_with (fail)
      go_loopw [27] (fun i wr => ∃ k : Nat, k ≤ n ∧ i = .int .i64 k ∧ (∃ vE vR, Blk wr g6 52 #[.int .i64 (uFold ((l.take k).map MV.F)).s, vE, vR] ∧ Own wr w.heap.size 67 7 edgC vE (uFold ((l.take k).map MV.F)).E ∧ Own wr w.heap.size 57 1 encR vR (uFold ((l.take k).map MV.F)).R) ∧ Blk wr w.heap.size 52 (nfaC 0 none 0 0 none 0 0) ∧ Below w.heap.size w wr) (fun i _ => n - (intOf i).toNat)
      case atStart => exact ⟨0, by omega, rfl, ⟨_, _, h6, Own.nil_ _ _ _ _ _, o5⟩, h25, hB5⟩
      case round =>
        clear h6 o5 h25 hB5
        obtain ⟨k, hk, rfl, ⟨vE, vR, hk6, hE, hR⟩, h2, hBw⟩ := hrel
        have hszw := hBw.size
        have hgk6 := hk6.lt
        have hbd := uFold_bound ((l.take k).map MV.F) (fun x hx => by
          obtain ⟨y, hy, rfl⟩ := List.mem_map.1 hx
          have hy2 := List.mem_of_mem_take hy
          exact ⟨HA.out y hy2, (HM.out y hy2).2.2⟩)
        rw [List.length_map, List.length_take, ← Hn.out, Nat.min_eq_left hk] at hbd
        by_cases hkn : k < n
        · have hkI : (k : Int) < n := by omega
          have hkl : k < l.length := by rw [← Hn.out]; exact hkn
          have hst : uFold ((l.take (k + 1)).map MV.F) = uStep (uFold ((l.take k).map MV.F)) l[k].F := by
            rw [List.take_succ_eq_append_getElem hkl, List.map_append, List.map_cons, List.map_nil, uFold_snoc]
          obtain ⟨F, hF⟩ : ∃ F, F = uFold ((l.take k).map MV.F) := ⟨_, rfl⟩
          rw [← hF] at hk6 hE hR hbd hst
          obtain ⟨hb1, hb2, hb3, hb4⟩ := hbd
          obtain ⟨ba, off, rfl, hba, hrows⟩ := hs.at_ (by omega)
          have hrow := (hrows k hkl).keep (hBw.block ba (by omega))
          have hmem : l[k] ∈ l := List.getElem_mem hkl
          obtain ⟨x, hx⟩ : ∃ x, x = l[k] := ⟨_, rfl⟩
          rw [← hx] at hrow hmem hst
          obtain ⟨hx1, hx2, hx3, hx4⟩ := HM.out x hmem
          obtain ⟨hx5, hx6⟩ := right_parts (HA.out x hmem)
          obtain ⟨⟨xs, xE, xR⟩, xA, xc, xB, xd⟩ := x
          simp only [MV.C] at hrow
          simp only at hx1 hx2 hx3 hx4 hx5 hx6 hst
          have Hst := Lib.hid hst
          have Hx6 := Lib.hid hx6
          clear hst hF hx hmem hrows hx6
          obtain ⟨ne, hne⟩ : ∃ q, q = xE.length := ⟨_, rfl⟩
          obtain ⟨nr, hnr⟩ : ∃ q, q = xR.length := ⟨_, rfl⟩
          rw [← hne, ← hnr] at hrow
          rw [← hne] at hx3
          rw [← hnr] at hx4 hx5
          have Hne := Lib.hid hne
          have Hnr := Lib.hid hnr
          have hkb : k < 1099511628000 := by omega
          have hxs0 : 0 ≤ xs := by omega
          have hxs1 : xs ≤ 1048576 := by omega
          clear hne hnr hx5
          go_upto_region 11 with (first | (refine wl_load_nfa_at rfl _ rfl _ _ rfl _ _ _ _ _ _ _ hrow ?_) | (refine wl_store_nfa rfl _ _ rfl _ _ _ _ _ _ _ _ rfl rfl 0 none 0 0 none 0 0 (Blk.new _ _ _) ?_; intro w3 h5 hg3))
          have hB3 := below_grown (below_alloc (Below.refl _ wr) (.cells #[.int .i64 0, .slice none 0 0, .slice none 0 0] 52)) hg3 (Nat.le_refl _)
          replace hBw := below_then hBw hB3
          replace h2 := blk_then h2 hB3
          replace hk6 := blk_then hk6 hB3
          replace hE := hE.then_ hB3
          replace hR := hR.then_ hB3
          obtain ⟨g8, hg8⟩ : ∃ g, g = wr.heap.size := ⟨_, rfl⟩
          rw [← hg8] at h5
          try rw [← hg8]
          have hg68 : g6 < g8 := by omega
          clear hB3 hg3 hrow hg8
          have c60 : w3.cell? ⟨g6, 0, none⟩ = some (.int .i64 F.s) := hk6.cellv (i := 0) rfl
          go_upto_region 12 with (fail)
          clear c60
          have hBq : Below w3.heap.size w3 (w3.alloc (.cells (edgC ⟨1, 0, F.s, 0⟩) 67)) := below_alloc (Below.refl _ _) _
          obtain ⟨Ae, ke, rfl, _, _⟩ := hE.shape
          obtain ⟨en, hen⟩ : ∃ x, x = (F.E).length := ⟨_, rfl⟩
          rw [← hen] at hE hk6
          try rw [← hen]
          have henb : en ≤ 1099513724928 := by omega
          have Hen := Lib.hid hen
          clear hen
          have c61 : w3.cell? ⟨g6, 1, none⟩ = some (.slice Ae en ke) := hk6.cellv (i := 1) rfl
          go_upto_region 13 with (first | (refine wl_buildE0 rfl _ rfl F.s rfl ?_) | (refine wl_one (d := ⟨1, 0, F.s, 0⟩) rfl _ rfl rfl ?_) | (at_builtin; refine park ?_))
          refine Parked.mk ?_
          clear c61
          have hEq := hE.then_ hBq
          have hRq := hR.then_ hBq
          have hkq := blk_then hk6 hBq
          have hBwq := below_then hBw hBq
          have hone := slice_one (enc := edgC) (size := 7) (y := ⟨1, 0, F.s, 0⟩) (w := w3.alloc (.cells (edgC ⟨1, 0, F.s, 0⟩) 67)) (g := w3.heap.size) (t := 67) (Blk.new _ _ _)
          obtain ⟨ie, hie, hye0, hye1, hye2⟩ := info_parts info_edge3
          refine wl_append _ rfl _ _ 49 rfl w.heap.size 67 ie _ 7 56 Try.underlying49 hie hye0 hye1 hye2 rfl (by decide) edgC_size edgC_one (.slice Ae _ ke) _ rfl hEq _ _ 1 1 [⟨1, 0, F.s, 0⟩] rfl rfl hone (by rw [← Hen.out]; unfold maxLen; omega) (by rw [← Hen.out]; omega) hBwq.size ?_
          intro v8 w8 hE8 hg8 _
          have hk8 : Blk w8 g6 52 _ := hkq.grown hg8 (fun e => own_blk_ne hEq hkq (by decide) e.symm)
          have hR8 := own_own hRq hEq hg8 (by decide)
          have h28 : Blk w8 w.heap.size 52 _ := (blk_then h2 hBq).grown hg8 (fun e => own_blk_ne hEq (blk_then h2 hBq) (by decide) e.symm)
          have h58 : Blk w8 g8 52 _ := (blk_then h5 hBq).grown hg8 (fun e => own_blk_ne hEq (blk_then h5 hBq) (by decide) e.symm)
          have hBw8 := hBwq.grown hg8 hBwq.size (fun j e => (hEq.lt j e).1)
          obtain ⟨A8, k8, rfl, _, _⟩ := hE8.shape
          obtain ⟨en8, hen8⟩ : ∃ q, q = ((F.E : List Edg) ++ [(⟨1, 0, F.s, 0⟩ : Edg)]).length := ⟨_, rfl⟩
          rw [← hen8] at hE8
          rw [← hen8]
          simp only [Act.put, List.setIfInBounds_toArray, List.set_cons_zero, List.set_cons_succ]
          clear hen8 hone hie hye0 hye1 hye2 hEq hRq hkq hg8 hE hR hk6 hBwq hBq
          go_upto_region 13 with (refine wl_store_cell rfl _ _ _ rfl g6 1 rfl _ _ #[.int .i64 F.s, .slice A8 en8 k8, vR] hk8 (by simp) info_edges1 rfl rfl rfl ?_; intro w9 hk9 hg9)
          have hE9 := own_box hE8 hk8 hg9 (by decide)
          have hR9 := own_box hR8 hk8 hg9 (by decide)
          have hBw9 := hBw8.grown hg9 (by have := hBw8.size; omega) (fun j e => by injection e with e; omega)
          have h29 := blk_grown h28 hg9 (by omega)
          have h59 := blk_grown h58 hg9 (by omega)
          clear hE8 hR8 hBw8 h28 h58 hk8 hg9 h5 h2
          have c81 : w9.cell? ⟨g8, 1, none⟩ = some (.slice xA ne xc) := h59.cellv (i := 1) rfl
          go_wp2_with (fail)
          clear c81
          obtain ⟨E0, hE0⟩ : ∃ q, q = F.E ++ [⟨1, 0, F.s, 0⟩] := ⟨_, rfl⟩
          have hE0l : E0.length ≤ 1099512676352 := by rw [hE0, List.length_append]; simp only [List.length_cons, List.length_nil]; omega
          rw [← hE0] at hE9
          have HE0 := Lib.hid hE0
          clear hE0
          go_loopw [43] (fun i wr => ∃ j : Nat, j ≤ ne ∧ i = .int .i64 j ∧ (∃ vE, Blk wr g6 52 #[.int .i64 F.s, vE, vR] ∧ Own wr w.heap.size 67 7 edgC vE (E0 ++ (xE.take j).map (shiftE F.s)) ∧ Own wr w.heap.size 57 1 encR vR F.R) ∧ Blk wr w.heap.size 52 (nfaC 0 none 0 0 none 0 0) ∧ Blk wr g8 52 (nfaC xs xA ne xc xB nr xd) ∧ Below w.heap.size w wr) (fun i _ => ne - (intOf i).toNat)
          case atStart => exact ⟨0, by omega, rfl, ⟨_, hk9, by rw [List.take_zero, List.map_nil, List.append_nil]; exact hE9, hR9⟩, h29, h59, hBw9⟩
          case round =>
            clear hk9 hE9 hR9 h29 h59 hBw9 hBw
            obtain ⟨j, hj, rfl, ⟨vE2, hk6, hE, hR⟩, h2, h5, hBw⟩ := hrel
            have hszz := hBw.size
            have hgk6 := hk6.lt
            have hgk8 := h5.lt
            have c81 : wr.cell? ⟨g8, 1, none⟩ = some (.slice xA ne xc) := h5.cellv (i := 1) rfl
            by_cases hjn : j < ne
            · have hjI : (j : Int) < ne := by omega
              have hjl : j < xE.length := by rw [← Hne.out]; exact hjn
              obtain ⟨be, oe, rfl, hbe, hre⟩ := hx1.at_ (by omega)
              have hrowe := (hre j hjl).keep (hBw.block be (by omega))
              obtain ⟨dd, hdd⟩ : ∃ q, q = xE[j] := ⟨_, rfl⟩
              have hst2 : (xE.take (j + 1)).map (shiftE F.s) = (xE.take j).map (shiftE F.s) ++ [shiftE F.s dd] := by
                rw [List.take_succ_eq_append_getElem hjl, List.map_append, ← hdd]; rfl
              rw [← hdd] at hrowe
              obtain ⟨q1, q2, q3, q4⟩ := Hx6.out dd (by rw [hdd]; exact List.getElem_mem hjl)
              have hlE : (E0 ++ (xE.take j).map (shiftE F.s)).length ≤ 1099513724928 := by
                rw [List.length_append, List.length_map, List.length_take]; omega
              have Hst2 := Lib.hid hst2
              have hjb : j < 1099511628000 := by omega
              clear hst2 hdd hre
              go_upto_region 16 with (first | (refine wl_load_edge_at rfl _ rfl _ _ rfl dd hrowe ?_) | (refine wl_store_edge rfl _ _ rfl _ _ rfl rfl edge0 (Blk.new _ _ _) ?_; intro w3 h11 hg3))
              have hB3 := below_grown (below_alloc (Below.refl _ wr) (.cells #[.int .i64 0, .int .i64 0, .int .i64 0, .int .u64 0, .int .u64 0, .int .u64 0, .int .u64 0] 67)) hg3 (Nat.le_refl _)
              replace hBw := below_then hBw hB3
              replace h2 := blk_then h2 hB3
              replace h5 := blk_then h5 hB3
              replace hk6 := blk_then hk6 hB3
              have hltE := fun q hq => (hE.lt q hq).2
              replace hE := hE.then_ hB3
              replace hR := hR.then_ hB3
              obtain ⟨g11, hg11⟩ : ∃ g, g = wr.heap.size := ⟨_, rfl⟩
              rw [← hg11] at h11 hltE
              try rw [← hg11]
              have hg611 : g6 < g11 := by omega
              have hg811 : g8 < g11 := by omega
              clear hB3 hg3 hrowe c81 hg11
              have c111 : w3.cell? ⟨g11, 1, none⟩ = some (.int .i64 dd.fr) := h11.cellv (i := 1) rfl
              have c112 : w3.cell? ⟨g11, 2, none⟩ = some (.int .i64 dd.tt) := h11.cellv (i := 2) rfl
              have f111 := h11.frozen 1
              have f112 := h11.frozen 2
              go_upto_region 17 with (fail)
              have h11x : Blk ((w3.setCell ⟨g11, 1, none⟩ (.int .i64 (dd.fr + F.s))).setCell ⟨g11, 2, none⟩ (.int .i64 (dd.tt + F.s))) g11 67 (edgC (shiftE F.s dd)) := (h11.set_eq (i := 1) (u := .int .i64 (dd.fr + F.s)) rfl).set_eq (i := 2) (u := .int .i64 (dd.tt + F.s)) rfl
              have hgx : w3.grownBy ((w3.setCell ⟨g11, 1, none⟩ (.int .i64 (dd.fr + F.s))).setCell ⟨g11, 2, none⟩ (.int .i64 (dd.tt + F.s))) (some g11) := only_setCell (only_setCell (only_refl w3 (some g11)) (p := ⟨g11, 1, none⟩) (.inl rfl) _) (p := ⟨g11, 2, none⟩) (.inl rfl) _
              obtain ⟨w4, hw4⟩ : ∃ y, y = (w3.setCell ⟨g11, 1, none⟩ (.int .i64 (dd.fr + F.s))).setCell ⟨g11, 2, none⟩ (.int .i64 (dd.tt + F.s)) := ⟨_, rfl⟩
              rw [← hw4] at h11x hgx ⊢
              clear hw4
              replace hk6 := blk_grown hk6 hgx (by omega)
              replace h2 := blk_grown h2 hgx (by omega)
              replace h5 := blk_grown h5 hgx (by omega)
              replace hR := own_box hR h11 hgx (by decide)
              replace hE := hE.kept_ hgx (fun q e1 e2 => by have := hltE q e1; injection e2; omega)
              replace hBw := hBw.grown hgx (by have := hBw.size; omega) (fun q e => by injection e; omega)
              clear c111 c112 f111 f112 hgx h11 hltE
              have hBq : Below w4.heap.size w4 (w4.alloc (.cells (edgC (shiftE F.s dd)) 67)) := below_alloc (Below.refl _ _) _
              obtain ⟨Ae, ke, rfl, _, _⟩ := hE.shape
              obtain ⟨en, hen⟩ : ∃ x, x = (E0 ++ (xE.take j).map (shiftE F.s)).length := ⟨_, rfl⟩
              rw [← hen] at hE hk6
              try rw [← hen]
              have henb : en ≤ 1099513724928 := by omega
              have Hen := Lib.hid hen
              clear hen
              have c61 : w4.cell? ⟨g6, 1, none⟩ = some (.slice Ae en ke) := hk6.cellv (i := 1) rfl
              go_upto_region 18 with (first | (refine wl_load_edge rfl _ rfl g11 rfl _ h11x ?_) | (refine wl_one (d := (shiftE F.s dd)) rfl _ rfl rfl ?_) | (at_builtin; refine park ?_))
              refine Parked.mk ?_
              clear c61
              have hEq := hE.then_ hBq
              have hRq := hR.then_ hBq
              have hkq := blk_then hk6 hBq
              have hBwq := below_then hBw hBq
              have hone := slice_one (enc := edgC) (size := 7) (y := (shiftE F.s dd)) (w := w4.alloc (.cells (edgC (shiftE F.s dd)) 67)) (g := w4.heap.size) (t := 67) (Blk.new _ _ _)
              obtain ⟨ie, hie, hye0, hye1, hye2⟩ := info_parts info_edge3
              refine wl_append _ rfl _ _ 49 rfl w.heap.size 67 ie _ 7 56 Try.underlying49 hie hye0 hye1 hye2 rfl (by decide) edgC_size edgC_one (.slice Ae _ ke) _ rfl hEq _ _ 1 1 [(shiftE F.s dd)] rfl rfl hone (by rw [← Hen.out]; unfold maxLen; omega) (by rw [← Hen.out]; omega) hBwq.size ?_
              intro v8 w8 hE8 hg8 _
              have hk8 : Blk w8 g6 52 _ := hkq.grown hg8 (fun e => own_blk_ne hEq hkq (by decide) e.symm)
              have hR8 := own_own hRq hEq hg8 (by decide)
              have h28 : Blk w8 w.heap.size 52 _ := (blk_then h2 hBq).grown hg8 (fun e => own_blk_ne hEq (blk_then h2 hBq) (by decide) e.symm)
              have h58 : Blk w8 g8 52 _ := (blk_then h5 hBq).grown hg8 (fun e => own_blk_ne hEq (blk_then h5 hBq) (by decide) e.symm)
              have hBw8 := hBwq.grown hg8 hBwq.size (fun j e => (hEq.lt j e).1)
              obtain ⟨A8, k8, rfl, _, _⟩ := hE8.shape
              obtain ⟨en8, hen8⟩ : ∃ q, q = ((E0 ++ (xE.take j).map (shiftE F.s) : List Edg) ++ [((shiftE F.s dd) : Edg)]).length := ⟨_, rfl⟩
              rw [← hen8] at hE8
              rw [← hen8]
              simp only [Act.put, List.setIfInBounds_toArray, List.set_cons_zero, List.set_cons_succ]
              clear hen8 hone hie hye0 hye1 hye2 hEq hRq hkq hg8 hE hR hk6 hBwq hBq
              go_upto_region 18 with (refine wl_store_cell rfl _ _ _ rfl g6 1 rfl _ _ #[.int .i64 F.s, .slice A8 en8 k8, vR] hk8 (by simp) info_edges1 rfl rfl rfl ?_; intro w9 hk9 hg9)
              have hE9 := own_box hE8 hk8 hg9 (by decide)
              have hR9 := own_box hR8 hk8 hg9 (by decide)
              have hBw9 := hBw8.grown hg9 (by have := hBw8.size; omega) (fun j e => by injection e with e; omega)
              have h29 := blk_grown h28 hg9 (by omega)
              have h59 := blk_grown h58 hg9 (by omega)
              clear hE8 hR8 hBw8 h28 h58 hk8 hg9 h5 h2 h11x
              go_wp2_with (fail)
              exact ⟨⟨j + 1, by omega, rfl, ⟨_, hk9, by rw [Hst2.out, ← List.append_assoc]; exact hE9, hR9⟩, h29, h59, hBw9⟩, by simp only [intOf]; omega⟩
            · have hjI : ¬ (j : Int) < ne := by omega
              have hke : xE.take j = xE := List.take_of_length_le (by have := Hne.out; omega)
              rw [hke] at hE
              obtain ⟨Ar, kr, rfl, _, _⟩ := hR.shape
              obtain ⟨mr, hmr⟩ : ∃ q, q = F.R.length := ⟨_, rfl⟩
              rw [← hmr] at hR hk6
              try rw [← hmr]
              have hmrb : mr ≤ 1099513724928 := by omega
              have Hmr := Lib.hid hmr
              have c62 : wr.cell? ⟨g6, 2, none⟩ = some (.slice Ar mr kr) := hk6.cellv (i := 2) rfl
              have c82 : wr.cell? ⟨g8, 2, none⟩ = some (.slice xB nr xd) := h5.cellv (i := 2) rfl
              obtain ⟨iu, hiu, hyu0, hyu1, hyu2⟩ := info_parts info_r3
              clear hke hmr
              go_upto_region 20 with (at_builtin; refine park ?_)
              refine Parked.mk ?_
              clear c62 c82 c81
              refine wl_append _ rfl _ _ 50 rfl w.heap.size 57 iu _ 1 4 Try.underlying50 hiu hyu0 hyu1 hyu2 rfl (by decide) encR_size encR_one (.slice Ar _ kr) _ rfl hR _ xB nr xd xR rfl Hnr.out (hx2.below hBw) (by rw [← Hmr.out]; unfold maxLen; omega) (by rw [← Hmr.out]; omega) hBw.size ?_
              intro v8 w8 hR8 hg8 _
              have hk8 : Blk w8 g6 52 _ := hk6.grown hg8 (fun e => own_blk_ne hR hk6 (by decide) e.symm)
              have hE8 := own_own hE hR hg8 (by decide)
              have h28 : Blk w8 w.heap.size 52 _ := h2.grown hg8 (fun e => own_blk_ne hR h2 (by decide) e.symm)
              have h58 : Blk w8 g8 52 _ := h5.grown hg8 (fun e => own_blk_ne hR h5 (by decide) e.symm)
              have hBw8 := hBw.grown hg8 hBw.size (fun j e => (hR.lt j e).1)
              obtain ⟨A8, k8, rfl, _, _⟩ := hR8.shape
              simp only [Act.put, List.setIfInBounds_toArray, List.set_cons_zero, List.set_cons_succ]
              clear hiu hyu0 hyu1 hyu2 hg8 hE hR hk6 h2 h5 hBw
              go_upto_region 20 with (refine wl_store_cell rfl _ _ _ rfl g6 2 rfl _ _ #[.int .i64 F.s, vE2, .slice A8 _ k8] hk8 (by simp) info_rules1 rfl rfl rfl ?_; intro w9 hk9 hg9)
              have hE9 := own_box hE8 hk8 hg9 (by decide)
              have hR9 := own_box hR8 hk8 hg9 (by decide)
              have hBw9 := hBw8.grown hg9 (by have := hBw8.size; omega) (fun j e => by injection e with e; omega)
              have h29 := blk_grown h28 hg9 (by omega)
              have h59 := blk_grown h58 hg9 (by omega)
              clear hE8 hR8 hBw8 h28 h58 hk8 hg9
              have c60 : w9.cell? ⟨g6, 0, none⟩ = some (.int .i64 F.s) := hk9.cellv (i := 0) rfl
              have c80 : w9.cell? ⟨g8, 0, none⟩ = some (.int .i64 xs) := h59.cellv (i := 0) rfl
              have f60 := hk9.frozen 0
              go_upto_region 21 with (fail)
              have hk10 : Blk (w9.setCell ⟨g6, 0, none⟩ (.int .i64 (F.s + xs))) g6 52 #[.int .i64 (F.s + xs), vE2, .slice A8 _ k8] := hk9.set_eq (i := 0) (u := .int .i64 (F.s + xs)) rfl
              have hg10 : w9.grownBy (w9.setCell ⟨g6, 0, none⟩ (.int .i64 (F.s + xs))) (some g6) := only_setCell (only_refl w9 (some g6)) (p := ⟨g6, 0, none⟩) (.inl rfl) _
              obtain ⟨w10, hw10⟩ : ∃ y, y = w9.setCell ⟨g6, 0, none⟩ (.int .i64 (F.s + xs)) := ⟨_, rfl⟩
              rw [← hw10] at hk10 hg10 ⊢
              clear hw10 c60 c80 f60
              have hE10 := own_box hE9 hk9 hg10 (by decide)
              have hR10 := own_box hR9 hk9 hg10 (by decide)
              have hBw10 := hBw9.grown hg10 (by have := hBw9.size; omega) (fun j e => by injection e with e; omega)
              have h210 := blk_grown h29 hg10 (by omega)
              rw [HE0.out] at hE10
              clear hE9 hR9 hBw9 h29 h59 hk9 hg10
              go_wp2_with (fail)
              exact ⟨⟨k + 1, by omega, rfl, ⟨_, _, by rw [Hst.out]; exact hk10, by rw [Hst.out]; exact hE10, by rw [Hst.out]; exact hR10⟩, h210, hBw10⟩, by simp only [intOf]; omega⟩
        · have hkI : ¬ (k : Int) < n := by omega
          have hke : l.take k = l := List.take_of_length_le (by have := Hn.out; omega)
          rw [hke] at hk6 hE hR
          obtain ⟨F, hF⟩ : ∃ F, F = uFold (l.map MV.F) := ⟨_, rfl⟩
          have he := HE.out
          rw [← hF] at hk6 hE hR he
          have HEF := Lib.hid he
          obtain ⟨Ae, ke, rfl, _, _⟩ := hE.shape
          obtain ⟨Ar, kr, rfl, _, _⟩ := hR.shape
          have hk6n : Blk wr g6 52 (nfaC F.s Ae F.E.length ke Ar F.R.length kr) := hk6
          clear hke hF hbd he hk6
          go_wp2_with (first | (refine wl_load_nfa rfl _ rfl g6 rfl _ _ _ _ _ _ _ hk6n ?_) | (refine wl_store_nfa rfl _ _ rfl w.heap.size _ _ _ _ _ _ _ rfl rfl 0 none 0 0 none 0 0 h2 ?_; intro w7 h7 hg7))
          have hE7 := own_box hE h2 hg7 (by decide)
          have hR7 := own_box hR h2 hg7 (by decide)
          have hBe := hBw.grown hg7 (by omega) (fun j e => by injection e with e; omega)
          refine ret_nfa2 rfl rfl h7 rfl ?_
          refine ⟨hBe, .agg (nfaC F.s Ae F.E.length ke Ar F.R.length kr), ?_, ?_⟩
          · rw [HEF.out]; rfl
          · rw [HEF.out]
            exact ⟨Ae, ke, Ar, kr, rfl, hE7, hR7⟩
end Go.Proofs.Ytajainmldcnaeaa
namespace Go.Proofs.Ytajainmldcnaeaa
open Go.RowKit Go.Maps
set_option linter.unusedVariables false
set_option linter.unusedSimpArgs false
attribute [local go_sem] Oper.semAt_some

theorem info_nfaR3 : (Try.prog.info? 52).map (fun i => (i.zero, i.size, i.bytes)) = some (some (.agg #[.int .i64 0, .slice none 0 0, .slice none 0 0]), 3, 56) := by kernel_rfl
theorem MV.C_one (x : MV) : x.C.all (·.oneCell') = true := by simp [MV.C, nfaC, Value.oneCell']
theorem bs_nfaR1 (w : World) (s : Int) (A : Option Addr) (n c : Nat) (B : Option Addr) (m d : Nat) : (Instr.buildSlice 61 1 #[(0, .agg (nfaC s A n c B m d))]).run Try.prog w = .ok (.slice (some ⟨w.heap.size, 0, none⟩) 1 1) (w.alloc (.cells (nfaC s A n c B m d) 52)) := by kernel_rfl
section
variable {ops : Array Oper} {rest : List Oper} {o : Oper} {a : Act} {w : World} {Q : Exit → Act → World → Prop}
theorem wl_bs_mv (hgd : o.guard = none) (x : Operand) (ho : o.op = .buildSlice 61 1 #[(0, x)]) (y : MV) (hx : a.eval x = .agg y.C)
    (h : wpList Try.prog ops Q rest (a.put o.dst (.slice (some ⟨w.heap.size, 0, none⟩) 1 1)) (w.alloc (.cells y.C 52))) : wpList Try.prog ops Q (o :: rest) a w :=
  wl_run hgd (v := .slice (some ⟨w.heap.size, 0, none⟩) 1 1) (by unfold execOp; simp only [ho, List.map_toArray, List.map_cons, List.map_nil, hx, Sem.run_bind, MV.C, bs_nfaR1, Result.andThen_ok, Sem.run_pure]) h
theorem sliced_any (A : Option Addr) (m c s : Nat) : sliced A 0 m c s = .slice A m c := by
  unfold sliced
  cases A <;> split <;> simp [Addr.add]
/-- the front of a slice -/
theorem wl_front {P : Program} (hgd : o.guard = none) (t : TypeId) (x y : Operand) (ho : o.op = .slice t x none (some y) none)
    (hu : P.underlying t = some (.slice (P.elem t))) (sz : Nat) (hsz : ∀ w, (sizeOf (P.elem t)).run P w = .ok sz w) (A : Option Addr) (n c k : Nat) (hx : a.eval x = .slice A n c) (hy : a.eval y = .int .i64 (k : Int)) (hk : k ≤ c)
    (h : wpList P ops Q rest (a.put o.dst (.slice A k c)) w) : wpList P ops Q (o :: rest) a w :=
  wl_run hgd (v := .slice A k c) (by
    unfold execOp
    have e := run_slice_h (P := P) w t A n c hu .i64 (k : Int) (by omega) (by omega)
    simp only [Int.toNat_natCast, hsz, Result.andThen_ok, sliced_any] at e
    simp only [ho, Option.map_none, Option.map_some, hx, hy, Sem.run_bind, run_sliceAt_slice (P := P) w t _ _ _ _ hu, e, Result.andThen_ok, Sem.run_pure]) h
end
theorem own_row {α : Type} {enc : α → Array Value} {size base : Nat} {e : TypeId} {w w' : World} {v : Value} {ys : List α} {row : Option Nat} (h : Own w base e size enc v ys) (k : w.grownBy w' row) (hne : ∀ g, v.ownBlock = some g → row ≠ some g) : Own w' base e size enc v ys :=
  own_block h fun g hg => k.block g (h.lt g hg).2 (fun e => hne g hg e.symm)
/-- a machine whose lists are the call's own -/
def MO (w : World) (B : Nat) (x : MV) : Prop := Own w B 67 7 edgC (.slice x.A x.F.E.length x.c) x.F.E ∧ Own w B 57 1 encR (.slice x.B x.F.R.length x.d) x.F.R
theorem MO.then_ {w w' : World} {B : Nat} {x : MV} (h : MO w B x) (hb : Below w.heap.size w w') : MO w' B x := ⟨h.1.then_ hb, h.2.then_ hb⟩
theorem MO.mono {w : World} {B B' : Nat} {x : MV} (h : MO w B x) (hb : B' ≤ B) : MO w B' x := ⟨h.1.mono hb, h.2.mono hb⟩
theorem MO.row {w w' : World} {B b2 : Nat} {x : MV} {v : Value} {ys : List MV} (h : MO w B x) (ho : Own w b2 52 3 MV.C v ys) (hg : w.grownBy w' v.ownBlock) : MO w' B x := ⟨own_own h.1 ho hg (by decide), own_own h.2 ho hg (by decide)⟩
theorem MO.box {w w' : World} {B g : Nat} {x : MV} {cs : Array Value} (h : MO w B x) (hb : Blk w g 52 cs) (hg : w.grownBy w' (some g)) : MO w' B x := ⟨own_box h.1 hb hg (by decide), own_box h.2 hb hg (by decide)⟩
/-- what is asked of each machine -/
structure MGood (x : MV) : Prop where
  fit : Mt.FitsF x.F x.F.s.toNat
  few : x.F.s.toNat ≤ 300
  ed : x.F.E.length ≤ 6144
  lt : ∀ r ∈ x.F.R, r < 4294967296
theorem fits_right7 {F : NF} {N : Nat} (h : Mt.FitsF F N) : rightF F = true := by
  obtain ⟨hs, f⟩ := h
  unfold rightF rightB
  have h1 := f.one
  rw [Bool.and_eq_true, Bool.and_eq_true, decide_eq_true_eq, decide_eq_true_eq, List.all_eq_true]
  refine ⟨⟨by omega, by rw [f.rules, hs]⟩, fun d hd => ?_⟩
  have h2 := f.kinds d hd
  have h3 := f.fr d hd
  have h4 := f.tt d hd
  have h5 := f.sets d hd
  unfold badE inS
  have h5' : ((d.kd != 2) && !decide (d.st = 0)) = false := by
    by_cases e : d.kd = 2
    · simp [e]
    · rw [h5 e]; simp
  rw [h5', hs]
  simp only [Bool.not_eq_true', Bool.or_eq_false_iff, decide_eq_false_iff_not, Bool.and_eq_true, decide_eq_true_eq, Bool.not_eq_false']
  exact ⟨⟨⟨⟨by omega, by omega⟩, h3⟩, h4⟩, trivial⟩
theorem MGood.vlt {x : MV} (h : MGood x) (q : ByteArray) : Mt.vF q x.F < 4294967296 := Mt.mV_lt (fun r hr => by have := h.lt r hr; omega) _ _ _
theorem orM_lt {l : List Nat} (h : ∀ x ∈ l, x < 4294967296) : Mt.orM l < 4294967296 := by
  induction l with
  | nil => simp [Mt.orM]
  | cons x l ih => exact Nat.or_lt_two_pow (n := 32) (h x (by simp)) (ih fun y hy => h y (by simp [hy]))
def sizesM (ms : List MV) : Nat := (ms.map fun x => x.F.s.toNat).sum
theorem sizesM_snoc (ms : List MV) (x : MV) : sizesM (ms ++ [x]) = sizesM ms + x.F.s.toNat := by simp [sizesM]
theorem sizesM_le {ms : List MV} (h : ∀ x ∈ ms, MGood x) : sizesM ms ≤ 300 * ms.length := by
  induction ms with
  | nil => simp [sizesM]
  | cons x l ih =>
    have h1 := (h x (by simp)).few
    have h2 := ih fun y hy => h y (by simp [hy])
    unfold sizesM at h2 ⊢
    rw [List.map_cons, List.sum_cons, List.length_cons]
    omega
noncomputable def metM (q : ByteArray) (ms : List MV) : Nat := Mt.orM (ms.map fun x => Mt.vF q x.F)
theorem metM_snoc (q : ByteArray) (ms : List MV) (x : MV) : metM q (ms ++ [x]) = metM q ms ||| Mt.vF q x.F := by
  unfold metM
  rw [List.map_append, Mt.orM_app]
  simp [Mt.orM]
theorem metM_lt {ms : List MV} (h : ∀ x ∈ ms, MGood x) (q : ByteArray) : metM q ms < 4294967296 := orM_lt fun v hv => by
  obtain ⟨x, hx, rfl⟩ := List.mem_map.1 hv
  exact (h x hx).vlt q
/-- two lists of machines under way -/
structure UI (base : Nat) (w : World) (v5 v6 : Value) (ms bs : List MV) : Prop where
  l : Own w base 52 3 MV.C v5 ms
  b : Own w base 52 3 MV.C v6 bs
  ne : ∀ g, v5.ownBlock = some g → v6.ownBlock ≠ some g
  m : ∀ x ∈ ms, MO w base x
theorem UI.then_ {base : Nat} {w w' : World} {v5 v6 : Value} {ms bs : List MV} (h : UI base w v5 v6 ms bs) (hb : Below w.heap.size w w') : UI base w' v5 v6 ms bs :=
  ⟨h.l.then_ hb, h.b.then_ hb, h.ne, fun x hx => (h.m x hx).then_ hb⟩
theorem UI.lpush {base : Nat} {w w' : World} {v5 v6 u : Value} {ms bs : List MV} {x : MV} (h : UI base w v5 v6 ms bs) (hx : MO w base x) (ho : Own w' base 52 3 MV.C u (ms ++ [x])) (hg : w.grownBy w' v5.ownBlock) (hu : u.ownBlock = v5.ownBlock ∨ u.ownBlock = some w.heap.size) : UI base w' u v6 (ms ++ [x]) bs := by
  refine ⟨ho, own_row h.b hg fun g hg2 e => h.ne g e hg2, fun g e e2 => ?_, fun y hy => ?_⟩
  · rcases hu with hu | hu
    · rw [hu] at e; exact h.ne g e e2
    · rw [hu] at e
      injection e with e
      have := (h.b.lt g e2).2
      omega
  · rcases List.mem_append.1 hy with hy | hy
    · exact (h.m y hy).row h.l hg
    · rw [List.mem_singleton] at hy; subst hy; exact hx.row h.l hg
theorem UI.bpush {base b2 : Nat} {w w' : World} {v5 v6 u : Value} {ms bs os : List MV} {bs' : List MV} {g : Nat} (h : UI base w v5 v6 ms bs) (h5 : ∀ k, v5.ownBlock = some k → k < g) (hone : Own w b2 52 3 MV.C (.slice (some ⟨g, 0, none⟩) 1 1) os) (ho : Own w' base 52 3 MV.C u bs')
    (hg : w.grownBy w' (some g)) (hu : u.ownBlock = some g ∨ u.ownBlock = some w.heap.size) : UI base w' v5 u ms bs' := by
  have hgw := (hone.lt g rfl).2
  refine ⟨own_row h.l hg fun k e e2 => ?_, ho, fun k e e2 => ?_, fun y hy => (h.m y hy).row hone hg⟩
  · injection e2 with e2
    have := h5 k e
    omega
  · have := h5 k e
    rcases hu with hu | hu
    · rw [hu] at e2; injection e2 with e2; omega
    · rw [hu] at e2; injection e2 with e2; omega
/-- what nfa.Build answers of a tree that may be -/
theorem build_mo (nd : Nd) (hT : nd.isT = true) (hU : ¬ 2048 ≤ nd.U) (r : Nat) (hr : r < 32) (B : Nat) (w : World) (cs : Array Value) (hin : NdIn w B nd cs) (hB : B ≤ w.heap.size) :
    Calls Try.prog 28 #[.agg cs, .int .i64 (r : Int)] w fun e w' => Below w.heap.size w w' ∧ ∃ x : MV, x.F = ⟨(Mt.mN nd : Nat), Mt.mE nd, Mt.mR nd r⟩ ∧ e = .returned (.tuple #[.agg x.C, .int .i64 0]) ∧ MO w' w.heap.size x := by
  refine (build_own nd (r : Int) B w cs hin hB).mono ?_
  rintro e w' ⟨hb, v, rfl, A, c, B', d, rfl, hE, hR⟩
  rw [buildF_ok hT hU hr] at hE hR ⊢
  exact ⟨hb, ⟨⟨(Mt.mN nd : Nat), Mt.mE nd, Mt.mR nd r⟩, A, c, B', d⟩, rfl, rfl, hE, hR⟩
theorem build_bad (nd : Nd) (hT : nd.isT = false) (r : Int) (B : Nat) (w : World) (cs : Array Value) (hin : NdIn w B nd cs) (hB : B ≤ w.heap.size) :
    Calls Try.prog 28 #[.agg cs, .int .i64 r] w fun e w' => Below w.heap.size w w' ∧ ∃ x : MV, e = .returned (.tuple #[.agg x.C, .int .i64 50]) := by
  refine (build_own nd r B w cs hin hB).mono ?_
  rintro e w' ⟨hb, v, rfl, A, c, B', d, rfl, hE, hR⟩
  rw [buildF_tree hT] at hE hR ⊢
  exact ⟨hb, ⟨NF.none, A, c, B', d⟩, rfl⟩
theorem m_good {nd : Nd} (hT : nd.isT = true) (hU : ¬ 2048 ≤ nd.U) {r : Nat} (hr : r < 32) {x : MV} (hx : x.F = ⟨(Mt.mN nd : Nat), Mt.mE nd, Mt.mR nd r⟩) : Mt.FitsF x.F (Mt.mN nd) ∧ x.F.s.toNat = Mt.mN nd ∧ x.F.E.length ≤ 6144 ∧ ∀ r ∈ x.F.R, r < 4294967296 := by
  obtain ⟨hs, hel, hend⟩ := layF_good hT
  rw [hx]
  refine ⟨⟨rfl, Mt.m_fits hT r⟩, by simp, ?_, Mt.mR_lt hr⟩
  have : (Mt.mE nd).length ≤ 3 * nd.U := hel
  show (Mt.mE nd).length ≤ 6144
  omega
theorem mo_met {w : World} {B N : Nat} {x : MV} (h : MO w B x) (hF : Mt.FitsF x.F N) (hE : x.F.E.length ≤ 1099511627776) (hN : N ≤ 1099511627776) (hR : ∀ r ∈ x.F.R, r < 4294967296) : RMach w.heap.size w N x.F.E x.F.R x.A x.F.E.length x.B N :=
  ⟨hF.2, rfl, rfl, hE, hN, hR, h.1.slice_all edgC_size, h.2.slice_all encR_size, Nat.le_refl _⟩
/-- what such a machine meets -/
theorem met_mo {x : MV} {N : Nat} (hF : Mt.FitsF x.F N) (hE : x.F.E.length ≤ 1099511627776) (hN : N ≤ 1099511627776) (hR : ∀ r ∈ x.F.R, r < 4294967296) (q : ByteArray) (hq : q.size ≤ 1099511627776) {B : Nat} (w : World) (h : MO w B x) :
    Calls Try.prog 32 #[.agg x.C, .string q] w fun e w' => e = .returned (.int .u32 ((Mt.vF q x.F : Nat) : Int)) ∧ Below w.heap.size w w' := by
  have e : x.C = nfaC (N : Int) x.A x.F.E.length x.c x.B N x.d := by unfold MV.C; rw [hF.1, hF.2.rules]
  have e2 : Mt.vF q x.F = Mt.mV x.F.E x.F.R N q (q.size + 1) := by unfold Mt.vF; rw [hF.1]; rfl
  rw [e, e2]
  exact met_any _ N _ _ N _ x.F.E x.F.R x.A x.B q hq w (mo_met h hF hE hN hR)
theorem right_mo {x : MV} {N : Nat} (hF : Mt.FitsF x.F N) (hE : x.F.E.length ≤ 1099511627776) {B : Nat} (w : World) (h : MO w B x) :
    Calls Try.prog 29 #[.agg x.C] w fun e w' => e = .returned (.bool true) ∧ Below w.heap.size w w' := by
  have := right_any x.F.s x.A x.F.E.length x.c x.B x.F.R.length x.d x.F.E rfl hE w (h.1.slice_all edgC_size)
  have hr := fits_right7 hF
  unfold rightF at hr
  rwa [hr] at this
/-- the union of machines that fit -/
theorem union_mo (A : Option Addr) (c : Nat) (ms : List MV) (hl : ms.length ≤ 12) (hG : ∀ x ∈ ms, MGood x) {base : Nat} (w : World) (ho : Own w base 52 3 MV.C (.slice A ms.length c) ms) (hm : ∀ x ∈ ms, MO w base x) :
    Calls Try.prog 33 #[.slice A ms.length c] w fun e w' => Below w.heap.size w w' ∧ ∃ x : MV, x.F = uFold (ms.map MV.F) ∧ e = .returned (.tuple #[.agg x.C, .int .i64 0]) ∧ MO w' w.heap.size x := by
  have hM : MsIn w w.heap.size ms := fun x hx => by
    have h1 := (hG x hx).ed
    have h2 := (hG x hx).few
    have h3 := (hG x hx).fit.2.rules
    exact ⟨(hm x hx).1.slice_all edgC_size, (hm x hx).2.slice_all encR_size, by omega, by omega⟩
  refine (union_own A ms.length c ms rfl (by omega) w (ho.slice_all MV.C_size) hM).mono ?_
  rintro e w' ⟨hb, v, rfl, A', c', B', d, rfl, hE, hR⟩
  have hall : (ms.map MV.F).all rightF = true := by
    rw [List.all_eq_true]
    intro F hF
    obtain ⟨x, hx, rfl⟩ := List.mem_map.1 hF
    exact fits_right7 (hG x hx).fit
  have hu : unionF (ms.map MV.F) = (uFold (ms.map MV.F), 0) := by unfold unionF; rw [hall]; rfl
  rw [hu] at hE hR ⊢
  exact ⟨hb, ⟨uFold (ms.map MV.F), A', c', B', d⟩, rfl, rfl, hE, hR⟩
theorem union_fits (q : ByteArray) (ms : List MV) (hl : ms.length ≤ 12) (hG : ∀ x ∈ ms, MGood x) : Mt.FitsF (uFold (ms.map MV.F)) (1 + sizesM ms) ∧ Mt.vF q (uFold (ms.map MV.F)) = metM q ms ∧ (uFold (ms.map MV.F)).E.length ≤ 1099511627776 ∧ (∀ r ∈ (uFold (ms.map MV.F)).R, r < 4294967296) ∧ sizesM ms ≤ 3600 := by
  have h0 : ∀ F ∈ ms.map MV.F, Mt.FitsF F F.s.toNat := fun F hF => by
    obtain ⟨x, hx, rfl⟩ := List.mem_map.1 hF
    exact (hG x hx).fit
  obtain ⟨h1, h2⟩ := Mt.fold_fits q (ms.map MV.F) h0
  rw [List.map_map] at h1 h2
  have hb := uFold_bound (ms.map MV.F) (fun F hF => by
    obtain ⟨x, hx, rfl⟩ := List.mem_map.1 hF
    have h1 := (hG x hx).ed
    have h2 := (hG x hx).few
    have h3 := (hG x hx).fit.2.rules
    exact ⟨fits_right7 (hG x hx).fit, by omega, by omega⟩)
  rw [List.length_map] at hb
  have hs := sizesM_le hG
  refine ⟨h1, h2, by omega, ?_, by omega⟩
  have key : ∀ l : List NF, (∀ F ∈ l, ∀ r ∈ F.R, r < 4294967296) → ∀ r ∈ (uFold l).R, r < 4294967296 := by
    intro l
    obtain ⟨k, hk⟩ : ∃ k, k = l.reverse := ⟨_, rfl⟩
    have : l = k.reverse := by rw [hk, List.reverse_reverse]
    clear hk
    subst this
    induction k with
    | nil =>
      intro _ r hr
      simp [uFold] at hr
      omega
    | cons F k ih =>
      intro h r hr
      rw [List.reverse_cons] at h hr
      rw [uFold_snoc] at hr
      rcases List.mem_append.1 hr with hr | hr
      · exact ih (fun G hG => h G (by simp at hG ⊢; exact .inl hG)) r hr
      · exact h F (by simp) r hr
  exact key _ fun F hF => by
    obtain ⟨x, hx, rfl⟩ := List.mem_map.1 hF
    exact (hG x hx).lt
theorem sizesM_rev (ms : List MV) : sizesM ms.reverse = sizesM ms := by
  induction ms with
  | nil => rfl
  | cons x l ih => rw [List.reverse_cons, sizesM_snoc, ih]; unfold sizesM; rw [List.map_cons, List.sum_cons]; omega
theorem metM_rev (q : ByteArray) (ms : List MV) : metM q ms.reverse = metM q ms := Mt.orM_perm fun x => by simp
theorem own_one7 {w : World} {base g : Nat} {x : MV} (h : Blk w g 52 x.C) (hb : base ≤ g) : Own w base 52 3 MV.C (.slice (some ⟨g, 0, none⟩) 1 1) [x] :=
  ⟨rfl, .inr ⟨g, 1, x.C, rfl, hb, h, Nat.le_refl _, by unfold maxLen; omega, rfl, by rw [List.take_of_length_le (by simp [MV.C, nfaC])]; simp [flat]⟩⟩
end Go.Proofs.Ytajainmldcnaeaa
namespace Go.Proofs.Ytajainmldcnaeaa
open Go.ChangeShapes Go.WideShapes Go.ChangeAt Go.RowKit
set_option linter.unusedVariables false
set_option linter.unusedSimpArgs false

theorem open_cap {H : Type} {enc : TypeId × Value → H} {W : World} {held : Bool} {d : DataW H} {ps : List MemPlace} {t e : TypeId} {A : Option Addr} {n c : Nat} (ht : Try.prog.underlying t = some (.slice e)) (hd : DataW.Trod enc Try.prog W 0 (fun _ => true) held t (.slice A n c) d ps) : n ≤ c ∧ c ≤ maxLen := by
  obtain ⟨fuel, hf⟩ := hd
  rcases Deep.open_slice ht hf with ⟨hcs, hx⟩ | ⟨a, len, cap, m, n', D, Pl, hcs, _, hl, hm, hmm, hx, hi⟩
  · simp [Value.cells] at hcs
    obtain ⟨rfl, rfl, rfl⟩ := hcs
    exact ⟨Nat.le_refl _, by unfold maxLen; omega⟩
  · simp [Value.cells] at hcs
    obtain ⟨rfl, rfl, rfl⟩ := hcs
    have hmc : m = c := by simpa using hmm
    subst hmc
    exact ⟨by omega, by omega⟩
def encStr (s : ByteArray) : Array Value := #[.string s]
theorem encStr_size (s : ByteArray) : (encStr s).size = 1 := rfl
theorem cells_string : Try.prog.cellsOf 9 = 1 := by kernel_rfl
set_option maxRecDepth 100000 in
theorem open_strs {H : Type} {enc : TypeId × Value → H} {W : World} {held : Bool} {r : Go.Reach} {b0 : Nat} {v : Value} {d : DataW H} {ps : List MemPlace} (hval : Value.okWide Try.prog W r b0 60 v) (hd : DataW.Trod enc Try.prog W 0 (fun _ => true) held 60 v d ps) :
    ∃ (A : Option Addr) (n c : Nat) (l : List ByteArray), v = .slice A n c ∧ n = l.length ∧ n ≤ maxLen ∧ SliceOf W W.heap.size 1 encStr A l ∧ ((d = .nil ∧ n = 0) ∨ ∃ el sp, d = .slice el sp ∧ el.length = n) :=
  open_slice_of Try.underlying60 cells_string (by omega) encStr_size (fun _ _ _ h => by
    obtain ⟨s, hc, _, hw⟩ := DataW.trod_string Try.underlying9 h
    exact ⟨s, by rw [hc]; rfl⟩) hval hd
end Go.Proofs.Ytajainmldcnaeaa
namespace Go.Proofs.Ytajainmldcnaeaa
open Go.RowKit Go.Maps
set_option linter.unusedVariables false
set_option linter.unusedSimpArgs false
attribute [local go_sem] Oper.semAt_some

theorem under_strs : Try.prog.underlying 60 = some (.slice (Try.prog.elem 60)) := by kernel_rfl
theorem size_strE (w : World) : (sizeOf (Try.prog.elem 60)).run Try.prog w = .ok 1 w := by kernel_rfl
theorem wl_load_mv_g {ops : Array Oper} {rest : List Oper} {o : Oper} {a : Act} {w : World} {Q : Exit → Act → World → Prop} (hw : Region.wanted o (yielded ops a.tmps) = true) (x : Operand) (ho : o.op = .load 52 x) (g : Nat) (hx : a.eval x = .pointer (some ⟨g, 0, none⟩)) (z : MV) (hb : Blk w g 52 z.C)
    (h : wpList Try.prog ops Q rest (a.put o.dst (.agg z.C)) w) : wpList Try.prog ops Q (o :: rest) a w :=
  wpList_w hw (wl_load_mv (o := { o with guard := none }) rfl x ho g hx z hb h)
theorem zeroN_bad : Ere.zeroN.isT = false := by decide
set_option maxRecDepth 100000 in
set_option maxHeartbeats 16000000 in
theorem united_any (A0 : Option Addr) (n0 c0 : Nat) (ps : List ByteArray) (hn0 : n0 = ps.length) (hn1 : n0 ≤ c0) (q0 : ByteArray) (w : World) (hM : Mx w) (hps : SliceOf w w.heap.size 1 encStr A0 ps) :
    Calls Try.prog 9 #[.slice A0 n0 c0, .string q0] w fun e w' => e = .returned (.bool true) ∧ Below w.heap.size w w' := by
  have Hn := Lib.hid hn0
  clear hn0
  replace hM := Lib.hid hM
  go_enter Try.func9, Try.ntmps9
  go_upto_region 3 with (go_at_call 25; refine (known_any _).mono ?_; rintro en w1 ⟨rfl, hB1⟩)
  go_upto_region 4 with (go_at_call 26; refine (short_any q0 _).mono ?_; rintro en ws ⟨⟨q, rfl, hq⟩, hws⟩; rw [hws]; clear hws)
  go_upto_region 6 with (fail)
  obtain ⟨N, hN⟩ : ∃ N, N = min n0 12 := ⟨_, rfl⟩
  have hmin : (min (n0 : Int) 12) = (N : Int) := by omega
  have hN12 : N ≤ 12 := by omega
  have hNn : N ≤ n0 := by omega
  clear hN
  go_wp2_with (refine wl_front rfl 60 _ _ rfl under_strs 1 size_strE A0 n0 c0 N rfl (congrArg (Value.int .i64) hmin) (by omega) ?_)
  clear hmin
  go_loopw [5, 6, 7, 8, 30] (fun v5 v6 v7 v8 iv wr => ∃ (k : Nat) (ms : List MV), k ≤ N ∧ iv = .int .i64 k ∧ v7 = .int .i64 ((1 + sizesM ms : Nat) : Int) ∧ v8 = .int .u32 ((metM q ms : Nat) : Int) ∧ ms.length ≤ k ∧ Hid (∀ x ∈ ms, MGood x) ∧ UI w.heap.size wr v5 v6 ms ms.reverse ∧ Below w.heap.size w wr) (fun _ _ _ _ iv _ => N - (intOf iv).toNat)
  case atStart => exact ⟨0, [], by omega, rfl, rfl, rfl, by simp, Lib.hid (fun x hx => absurd hx (by simp)), ⟨Own.nil_ _ _ _ _ _, Own.nil_ _ _ _ _ _, fun g e => absurd e (by simp [Value.ownBlock]), fun x hx => absurd hx (by simp)⟩, hB1⟩
  case round =>
    clear hB1
    obtain ⟨k, ms, hk, rfl, rfl, rfl, hlen, hG, hU, hBw⟩ := hrel
    by_cases hkn : k < N
    · have hkI : (k : Int) < N := by omega
      have hkl : k < ps.length := by rw [← Hn.out]; omega
      obtain ⟨ba, off, rfl, hba, hrows⟩ := hps.at_ (by omega)
      obtain ⟨s, hs⟩ : ∃ s, ps[k] = s := ⟨_, rfl⟩
      have hcs : wr.cell? ⟨ba, off + k, none⟩ = some (.string s) := by
        have := ((hrows k hkl).keep (hBw.block ba (by omega))) 0 _ rfl
        rw [hs, Nat.mul_one, Nat.add_zero] at this
        exact this
      have hkb : k < 1099511628000 := by omega
      clear hrows hs
      have kP := parse_any s wr (hM.out.then_ hBw)
      have hgood := (Ere.trees_hold s).good
      have hbad := (Ere.trees_hold s).bad
      obtain ⟨⟨nd, a, e⟩, hr⟩ : ∃ r, Ere.parseR s = r := ⟨_, rfl⟩
      rw [hr] at kP hgood hbad
      simp only at kP hgood hbad
      replace hgood := Lib.hid hgood
      replace hbad := Lib.hid hbad
      clear hr
      go_upto_region 9 with (fail)
      clear hcs
      go_upto_region 10 with (first
      | (go_at_call 12; refine kP.mono ?_; rintro en w2 ⟨hB2, x7, bs7, rfl, hO2⟩)
      | (refine wl_store_nv rfl _ _ rfl _ x7 rfl rfl _ rfl (Blk.new _ _ zeroC) ?_; intro w3 k11 hg3))
      have hBa := below_alloc (Below.refl w2.heap.size w2) (.cells zeroC 27)
      have hBr : Below wr.heap.size wr w3 := below_grown (below_then hB2 hBa) hg3 (by have := hB2.size; omega)
      have hO3 := (hO2.then_ hBa).keep (w' := w3) (fun b hb => hg3.block b (by have := (hO2.lt b hb).2; simp; omega) (fun e => by injection e with e; have := (hO2.lt b hb).2; omega))
      have hx := hO3.toIn
      replace hU := hU.then_ hBr
      replace hBw := below_then hBw hBr
      obtain ⟨g11, hg11⟩ : ∃ y, y = w2.heap.size := ⟨_, rfl⟩
      rw [← hg11] at k11 ⊢
      clear hg3 hO2 hB2 kP hBa hg11 hO3 hBr
      by_cases he : e = 0
      · obtain ⟨-, hT, hp1, hp2, -⟩ := hgood.out he
        subst he
        have hpl := placesN_eq nd
        rw [← hpl] at hp2
        have hUU : ¬ 2048 ≤ nd.U := by unfold placesN at hp2; rw [if_pos hT] at hp2; omega
        have kB := build_mo nd hT hUU k (by omega) w3.heap.size w3 x7.C hx (Nat.le_refl _)
        have kG := fun x hx => m_good hT hUU (r := k) (by omega) (x := x) hx
        have hMt := Mt.meets_plain (nd := nd) (q := q) hT k
        obtain ⟨M, hMe⟩ : ∃ y, Mt.mN nd = y := ⟨_, rfl⟩
        rw [hMe] at kB kG
        replace kB := Lib.hid kB
        replace kG := Lib.hid kG
        clear hMt hp1 hp2 hpl hT hUU hx hgood hbad hMe
        go_upto_region 11 with (first
        | (refine wl_load_nv rfl _ rfl g11 rfl x7 k11 ?_)
        | (go_at_call 28; refine kB.out.mono ?_; rintro en w4 ⟨hB4, x, hxF, rfl, hMO4⟩)
        | (refine wl_store_mv rfl _ _ rfl _ x rfl rfl _ rfl (Blk.new _ _ _) ?_; intro w5 k14 hg5))
        obtain ⟨kG1, kG2, kG3, kG4⟩ := kG.out x hxF
        have hxs : x.F.s = (M : Int) := kG1.1
        have hxr : x.F.R.length = M := kG1.2.rules
        have hBb := below_alloc (Below.refl w4.heap.size w4) (.cells #[.int .i64 0, .slice none 0 0, .slice none 0 0] 52)
        have hBn := below_then hB4 (below_grown hBb hg5 (Nat.le_refl _))
        have hMO := ((hMO4.then_ hBb).box (Blk.new _ _ _) hg5).mono (B' := w.heap.size) (by have := hBw.size; omega)
        have hl5 := fun g e => Nat.lt_of_lt_of_le (hU.l.lt g e).2 hB4.size
        replace hU := hU.then_ hBn
        replace hBw := below_then hBw hBn
        obtain ⟨g14, hg14⟩ : ∃ y, y = w4.heap.size := ⟨_, rfl⟩
        rw [← hg14] at k14 hl5 ⊢
        have k0 : w5.cell? ⟨g14, 0, none⟩ = some (.int .i64 (M : Int)) := by rw [← hxs]; exact k14.cellv (i := 0) rfl
        have k2 : w5.cell? ⟨g14, 2, none⟩ = some (.slice x.B M x.d) := by rw [← hxr]; exact k14.cellv (i := 2) rfl
        have kEd := Lib.hid kG3
        have kLt := Lib.hid kG4
        have kFit := Lib.hid kG1
        have kSn := Lib.hid kG2
        clear hxs hxr hBb hBn hMO4 hg5 hB4 hg14 kG1 kG2 kG3 kG4 kG kB k11 hxF
        by_cases h300 : 300 < M
        · have hM3 : decide ((300 : Int) < (M : Int)) = true := decide_eq_true (by omega)
          have hU' := Lib.hid hU
          have hBw' := Lib.hid hBw
          clear hU hBw hMO h300
          go_wp2_with (go_at_call 27; refine (num_any _ _).mono ?_; rintro en wn ⟨rfl, hwn⟩; rw [hwn]; clear hwn)
          exact ⟨⟨k + 1, ms, by omega, rfl, rfl, rfl, by omega, hG, hU'.out, hBw'.out⟩, by simp only [intOf]; omega⟩
        · have hM3 : decide ((300 : Int) < (M : Int)) = false := decide_eq_false (by omega)
          have hGx : MGood x := ⟨by rw [kSn.out]; exact kFit.out, by rw [kSn.out]; omega, kEd.out, kLt.out⟩
          have kR := right_mo kFit.out (by have := kEd.out; omega) w5 hMO
          go_upto_region 14 with (first
            | (go_at_call 27; refine (num_any _ _).mono ?_; rintro en wn ⟨rfl, hwn⟩; rw [hwn]; clear hwn)
            | (refine wl_load_mv_g (want_yes rfl rfl rfl) _ rfl g14 rfl x k14 ?_)
            | (go_at_call 29; refine kR.mono ?_; rintro en w6 ⟨rfl, hB6⟩))
          replace k14 := blk_then k14 hB6
          replace hMO := hMO.then_ hB6
          replace hU := hU.then_ hB6
          replace hBw := below_then hBw hB6
          have hl5' := Lib.hid hl5
          have hsz := sizesM_le hG.out
          have hor := u32_or_nat (metM q ms) (Mt.vF q x.F) (metM_lt hG.out q) (hGx.vlt q)
          have hGx' := Lib.hid hGx
          have hM300 : M ≤ 300 := by omega
          replace hor := Lib.hid hor
          clear hl5 kR hM3 h300 k0 k2 hGx hB6
          obtain ⟨A5, c5, rfl, _, _⟩ := hU.l.shape
          obtain ⟨A6, c6, rfl, _, _⟩ := hU.b.shape
          obtain ⟨i3, hi3, hz0, hz1, hz2⟩ := info_parts info_nfaR3
          go_upto_region 15 with (first | (refine wl_load_mv rfl _ rfl g14 rfl x k14 ?_) | (refine wl_bs_mv rfl _ rfl x rfl ?_) | (at_builtin; refine park ?_))
          refine Parked.mk ?_
          have hBq : Below w6.heap.size w6 (w6.alloc (.cells x.C 52)) := below_alloc (Below.refl _ _) _
          have hUq := hU.then_ hBq
          have hMOq := hMO.then_ hBq
          have k14q := blk_then k14 hBq
          have hBwq := below_then hBw hBq
          have hone := slice_one (enc := MV.C) (size := 3) (y := x) (w := w6.alloc (.cells x.C 52)) (g := w6.heap.size) (t := 52) (Blk.new _ _ _)
          refine wl_append _ rfl _ _ 61 rfl w.heap.size 52 i3 _ 3 56 Try.underlying61 hi3 hz0 hz1 hz2 rfl (by decide) MV.C_size MV.C_one (.slice A5 _ c5) _ rfl hUq.l _ _ 1 1 [x] rfl rfl hone (by unfold maxLen; omega) (by omega) hBwq.size ?_
          intro v8 w8 hl8 hg8 hb8
          have hU8 := hUq.lpush hMOq hl8 hg8 hb8
          have k148 : Blk w8 g14 52 x.C := k14q.grown hg8 (fun e => absurd (hl5'.out g14 e.symm) (Nat.lt_irrefl _))
          have hBw8 := hBwq.grown hg8 hBwq.size (fun j e => (hUq.l.lt j e).1)
          have hMO8 := hU8.m x (by simp)
          clear hl8 hg8 hb8 hone hBwq k14q hMOq hUq hBq hMO hU hBw k14
          simp only [Act.put, List.setIfInBounds_toArray, List.set_cons_zero, List.set_cons_succ]
          go_upto_region 16 with (first | (refine wl_load_mv rfl _ rfl g14 rfl x k148 ?_) | (refine wl_bs_mv rfl _ rfl x rfl ?_) | (at_builtin; refine park ?_))
          refine Parked.mk ?_
          have hBq : Below w8.heap.size w8 (w8.alloc (.cells x.C 52)) := below_alloc (Below.refl _ _) _
          have hl9 := fun g e => (hU8.l.lt g e).2
          have hUq := hU8.then_ hBq
          have k14q := blk_then k148 hBq
          have hBwq := below_then hBw8 hBq
          have hone : Own (w8.alloc (.cells x.C 52)) w.heap.size 52 3 MV.C (.slice (some ⟨w8.heap.size, 0, none⟩) 1 1) [x] := own_one7 (Blk.new _ _ _) hBw8.size
          have hk8 := k148.lt
          refine wl_append _ rfl _ _ 61 rfl w.heap.size 52 i3 _ 3 56 Try.underlying61 hi3 hz0 hz1 hz2 rfl (by decide) MV.C_size MV.C_one (.slice (some ⟨w8.heap.size, 0, none⟩) 1 1) [x] rfl hone _ A6 _ c6 ms.reverse rfl (by simp) (hUq.b.slice_all MV.C_size) (by simp only [List.length_reverse, List.length_cons, List.length_nil]; unfold maxLen; omega) (by simp only [List.length_reverse, List.length_cons, List.length_nil]; omega) hBwq.size ?_
          intro v9 w9 ho9 hg9 hb9
          have hU9 := hUq.bpush hl9 hone ho9 hg9 hb9
          have k149 : Blk w9 g14 52 x.C := k14q.grown hg9 (fun e => by have e' : g14 = w8.heap.size := Option.some.inj e; omega)
          have hBw9 := hBwq.grown hg9 hBwq.size (fun j e => (hone.lt j e).1)
          have hMO9 := hU9.m x (by simp)
          have hUN := Lib.hid hU9
          have e9 : [x] ++ ms.reverse = (ms ++ [x]).reverse := by simp
          rw [e9] at hUN
          replace e9 := Lib.hid e9
          clear ho9 hg9 hb9 hone hBwq k14q hUq hBq k148 hl9 hU8 hU9 hBw8 hMO8 hi3 hz0 hz1 hz2 hk8
          simp only [Act.put, List.setIfInBounds_toArray, List.set_cons_zero, List.set_cons_succ]
          have hxs : x.F.s = (M : Int) := kFit.out.1
          have k0 : w9.cell? ⟨g14, 0, none⟩ = some (.int .i64 (M : Int)) := by rw [← hxs]; exact k149.cellv (i := 0) rfl
          have kMe := met_mo kFit.out (by have := kEd.out; omega) (by omega) kLt.out q (by omega) w9 hMO9
          replace hxs := Lib.hid hxs
          go_upto_region 17 with (fail)
          replace hor := hor.out
          go_wp2_with (first
            | (refine wl_load_mv rfl _ rfl g14 rfl x k149 ?_)
            | (go_at_call 32; refine kMe.mono ?_; rintro en w10 ⟨rfl, hB10⟩))
          exact ⟨⟨k + 1, ms ++ [x], by omega, rfl, congrArg (Value.int .i64) (by rw [sizesM_snoc, kSn.out]; omega), by rw [metM_snoc], by simp only [List.length_append, List.length_cons, List.length_nil]; omega, Lib.hid (fun y hy => (List.mem_append.1 hy).elim (hG.out y) (fun h => (List.mem_singleton.1 h) ▸ hGx'.out)), hUN.out.then_ hB10, below_then hBw9 hB10⟩, by simp only [intOf]; omega⟩
      · have heI : ((e : Int) != 0) = true := by rw [bne_iff_ne]; omega
        have heI2 : ((e : Int) == 0) = false := by rw [beq_eq_false_iff_ne]; omega
        obtain ⟨hz, -⟩ := hbad.out he
        have kB := build_bad nd (by rw [hz]; exact zeroN_bad) (k : Int) w3.heap.size w3 x7.C hx (Nat.le_refl _)
        replace kB := Lib.hid kB
        replace he := Lib.hid he
        clear hx hgood hbad hz
        go_upto_region 11 with (first
        | (refine wl_load_nv rfl _ rfl g11 rfl x7 k11 ?_)
        | (go_at_call 28; refine kB.out.mono ?_; rintro en w4 ⟨hB4, x, rfl⟩)
        | (refine wl_store_mv rfl _ _ rfl _ x rfl rfl _ rfl (Blk.new _ _ _) ?_; intro w5 k14 hg5))
        have hBb := below_alloc (Below.refl w4.heap.size w4) (.cells #[.int .i64 0, .slice none 0 0, .slice none 0 0] 52)
        have hBn := below_then hB4 (below_grown hBb hg5 (Nat.le_refl _))
        replace hU := Lib.hid (hU.then_ hBn)
        replace hBw := Lib.hid (below_then hBw hBn)
        clear hBb hBn hg5 hB4 kB k11 k14
        go_wp2_with (go_at_call 27; refine (num_any _ _).mono ?_; rintro en wn ⟨rfl, hwn⟩; rw [hwn]; clear hwn)
        exact ⟨⟨k + 1, ms, by omega, rfl, rfl, rfl, by omega, hG, hU.out, hBw.out⟩, by simp only [intOf]; omega⟩
    · have hkI : ¬ (k : Int) < N := by omega
      obtain ⟨A5, c5, rfl, _, _⟩ := hU.l.shape
      obtain ⟨A6, c6, h6, _, _⟩ := hU.b.shape
      rw [List.length_reverse] at h6
      obtain rfl := h6
      have kU1 := union_mo A5 c5 ms (by omega) hG.out wr hU.l hU.m
      have hGr : ∀ x ∈ ms.reverse, MGood x := fun x hx => hG.out x (by simpa using hx)
      have kU2 : ∀ W, Below wr.heap.size wr W → _ := fun W (hW : Below wr.heap.size wr W) => union_mo A6 c6 ms.reverse (by rw [List.length_reverse]; omega) hGr W (by rw [List.length_reverse]; exact (hU.then_ hW).b) (fun x hx => (hU.then_ hW).m x (by simpa using hx))
      rw [List.length_reverse] at kU2
      obtain ⟨f1, f2, f3, f4, f5⟩ := union_fits q ms (by omega) hG.out
      obtain ⟨r1, r2, r3, r4, -⟩ := union_fits q ms.reverse (by rw [List.length_reverse]; omega) hGr
      rw [sizesM_rev] at r1
      rw [metM_rev] at r2
      obtain ⟨T, hT⟩ : ∃ T, T = 1 + sizesM ms := ⟨_, rfl⟩
      have hTI : (1 + (sizesM ms : Int)) = (T : Int) := by omega
      obtain ⟨V, hV⟩ : ∃ V, metM q ms = V := ⟨_, rfl⟩
      rw [← hT] at f1 r1
      rw [hV] at f2 r2
      have hTs : T ≤ 4000 := by omega
      simp only [Int.natCast_add, Int.natCast_one]
      rw [hTI, hV]
      replace kU1 := Lib.hid kU1
      replace kU2 := Lib.hid kU2
      replace f1 := Lib.hid f1
      replace f2 := Lib.hid f2
      replace f3 := Lib.hid f3
      replace f4 := Lib.hid f4
      replace r1 := Lib.hid r1
      replace r2 := Lib.hid r2
      replace r3 := Lib.hid r3
      replace r4 := Lib.hid r4
      clear hTI hV hT f5 hGr hG hU hlen
      go_upto_region 20 with (first
        | (go_at_call 33; refine kU1.out.mono ?_; rintro en w4 ⟨hB4, x, hxF, rfl, hMO4⟩)
        | (refine wl_store_mv rfl _ _ rfl _ x rfl rfl _ rfl (Blk.new _ _ _) ?_; intro w5 k16 hg5))
      have hBb := below_alloc (Below.refl w4.heap.size w4) (.cells #[.int .i64 0, .slice none 0 0, .slice none 0 0] 52)
      have hBn := below_then hB4 (below_grown hBb hg5 (Nat.le_refl _))
      have hMO := ((hMO4.then_ hBb).box (Blk.new _ _ _) hg5).mono (B' := w.heap.size) (by have := hBw.size; omega)
      have kU2' := kU2.out _ hBn
      replace kU2' := Lib.hid kU2'
      replace hBw := below_then hBw hBn
      obtain ⟨g16, hg16⟩ : ∃ y, y = w4.heap.size := ⟨_, rfl⟩
      rw [← hg16] at k16 ⊢
      clear hBb hBn hMO4 hg5 hB4 hg16 kU1 kU2
      go_upto_region 21 with (first
        | (go_at_call 33; refine kU2'.out.mono ?_; rintro en w6 ⟨hB6, y, hyF, rfl, hMO6⟩)
        | (refine wl_store_mv rfl _ _ rfl _ y rfl rfl _ rfl (Blk.new _ _ _) ?_; intro w7 k18 hg7))
      have hBb := below_alloc (Below.refl w6.heap.size w6) (.cells #[.int .i64 0, .slice none 0 0, .slice none 0 0] 52)
      have hBn := below_then hB6 (below_grown hBb hg7 (Nat.le_refl _))
      have hMOy := ((hMO6.then_ hBb).box (Blk.new _ _ _) hg7).mono (B' := w.heap.size) (by have := hBw.size; omega)
      replace hMO := hMO.then_ hBn
      replace k16 := blk_then k16 hBn
      replace hBw := below_then hBw hBn
      obtain ⟨g18, hg18⟩ : ∃ y, y = w6.heap.size := ⟨_, rfl⟩
      rw [← hg18] at k18 ⊢
      clear hBb hBn hMO6 hg7 hB6 hg18 kU2'
      have hF1 : Mt.FitsF x.F T := by rw [hxF]; exact f1.out
      have hF2 : Mt.FitsF y.F T := by rw [hyF]; exact r1.out
      have hV1 : Mt.vF q x.F = V := by rw [hxF]; exact f2.out
      have hV2 : Mt.vF q y.F = V := by rw [hyF]; exact r2.out
      have hE1 : x.F.E.length ≤ 1099511627776 := by rw [hxF]; exact f3.out
      have hE2 : y.F.E.length ≤ 1099511627776 := by rw [hyF]; exact r3.out
      have hL1 : ∀ r ∈ x.F.R, r < 4294967296 := by rw [hxF]; exact f4.out
      have hL2 : ∀ r ∈ y.F.R, r < 4294967296 := by rw [hyF]; exact r4.out
      have kR1 := fun W (hW : Below w7.heap.size w7 W) => right_mo hF1 hE1 W (hMO.then_ hW)
      have kR2 := fun W (hW : Below w7.heap.size w7 W) => right_mo hF2 hE2 W (hMOy.then_ hW)
      have kM1 := fun W (hW : Below w7.heap.size w7 W) => met_mo hF1 hE1 (by omega) hL1 q (by omega) W (hMO.then_ hW)
      have kM2 := fun W (hW : Below w7.heap.size w7 W) => met_mo hF2 hE2 (by omega) hL2 q (by omega) W (hMOy.then_ hW)
      rw [hV1] at kM1
      rw [hV2] at kM2
      have a0 : w7.cell? ⟨g16, 0, none⟩ = some (.int .i64 (T : Int)) := by rw [← hF1.1]; exact k16.cellv (i := 0) rfl
      have a2 : ∀ W, Below w7.heap.size w7 W → W.cell? ⟨g16, 2, none⟩ = some (.slice x.B T x.d) := fun W hW => by rw [← hF1.2.rules]; exact (blk_then k16 hW).cellv (i := 2) rfl
      have b0 : w7.cell? ⟨g18, 0, none⟩ = some (.int .i64 (T : Int)) := by rw [← hF2.1]; exact k18.cellv (i := 0) rfl
      have b2 : ∀ W, Below w7.heap.size w7 W → W.cell? ⟨g18, 2, none⟩ = some (.slice y.B T y.d) := fun W hW => by rw [← hF2.2.rules]; exact (blk_then k18 hW).cellv (i := 2) rfl
      have k16' := fun W (hW : Below w7.heap.size w7 W) => blk_then k16 hW
      have k18' := fun W (hW : Below w7.heap.size w7 W) => blk_then k18 hW
      replace kR1 := Lib.hid kR1
      replace kR2 := Lib.hid kR2
      replace kM1 := Lib.hid kM1
      replace kM2 := Lib.hid kM2
      replace a2 := Lib.hid a2
      replace b2 := Lib.hid b2
      replace k16' := Lib.hid k16'
      replace k18' := Lib.hid k18'
      clear hF1 hF2 hV1 hV2 hE1 hE2 hL1 hL2 hMO hMOy hxF hyF f1 f2 f3 f4 r1 r2 r3 r4
      go_upto_region 23 with (first
        | (go_at_call 27; refine (num_any _ _).mono ?_; rintro en wn ⟨rfl, hwn⟩; rw [hwn]; clear hwn)
        | (refine wl_load_mv_g (want_yes rfl rfl rfl) _ rfl g16 rfl x k16 ?_)
        | (refine wl_load_mv_g (want_yes rfl rfl rfl) _ rfl g18 rfl y k18b ?_)
        | (go_at_call 29; refine (kR1.out _ (Below.refl _ _)).mono ?_; clear kR1; rintro en w8 ⟨rfl, hB8⟩; have k18b := k18'.out _ hB8)
        | (go_at_call 29; refine (kR2.out _ hB8).mono ?_; clear kR2; rintro en w9 ⟨rfl, hB9⟩; have hB89 := below_then hB8 hB9; have a2b := a2.out _ hB89; have b2b := b2.out _ hB89; have k16b := k16'.out _ hB89))
      clear a0 b0 a2b b2b k16 k18
      go_wp2_with (first
        | (refine wl_load_mv rfl _ rfl g16 rfl x k16b ?_)
        | (go_at_call 32; refine (kM1.out _ hB89).mono ?_; clear kM1; rintro en w10 ⟨rfl, hB10⟩; have hB810 := below_then hB89 hB10; have k18c := k18'.out _ hB810)
        | (refine wl_load_mv_g (want_yes rfl rfl rfl) _ rfl g18 rfl y k18c ?_)
        | (go_at_call 32; refine (kM2.out _ hB810).mono ?_; clear kM2; rintro en w11 ⟨rfl, hB11⟩))
      go_ret
      exact ⟨rfl, below_then hBw (below_then hB810 hB11)⟩
end Go.Proofs.Ytajainmldcnaeaa
