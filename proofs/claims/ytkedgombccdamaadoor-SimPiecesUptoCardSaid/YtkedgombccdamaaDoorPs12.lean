/- Part 12 of a proof; packed: the texts that it was made of follow one another. No condition beyond those named in each lemma. -/
import Derived.Test.YtkedgombccdamaaDoorPs1
import Derived.Test.YtkedgombccdamaaDoorPs11
import Derived.Test.YtkedgombccdamaaDoorPs7
import Derived.Test.YtkedgombccdamaaDoorPs8
import Derived.Test.YtkedgombccdamaaDoorPs9
namespace Go.Proofs.YtkedgombccdamaaDoor
open Go.RowKit Go.Shelf Go.Maps
set_option linter.unusedVariables false
set_option linter.unusedSimpArgs false
attribute [local go_sem] Oper.semAt_some

/-- what a search from one place answers, a step being counted -/
def SRes (q : ByteArray) (N gw X K : Nat) (L : Int) (W : World) (e : Ending) (w' : World) : Prop :=
  ∃ (g y : Nat) (L' : Int), e = .returned (.slice (some ⟨g, 0, none⟩) N N) ∧ W.heap.size ≤ g ∧ Own w' W.heap.size 4 1 encB (.slice (some ⟨g, 0, none⟩) N N) (boolsN y N) ∧ below y N ∧ Turn gw (gw + 1) W w' ∧ Blk w' gw 164 (wkrC q L') ∧ Hid (L' ≤ L - 1 ∧ (0 ≤ L → 0 ≤ L' + (1 + K : Nat)) ∧ (L < 0 → L ≤ L' + (1 : Nat)) ∧ (0 ≤ L' → y = X))
theorem field_walker_0 (b off : Nat) (w : World) : (Instr.fieldAt 164 (.pointer (some ⟨b, off, none⟩)) 0).run Tryd.prog w = .ok (.pointer (some ⟨b, off, none⟩)) w := by kernel_rfl
theorem enter_has8 (args : Array Value) (w : World) : (callFunc 104 args).run Tryd.prog w = .ok (.enter 104 args) w := by kernel_rfl
theorem im_edge_set1 {q : ByteArray} {st : BSet} {i : Nat} (hx : below (2 ^ i) (q.size + 1)) : Mt.im q.size (Mt.edgeT q 2 st) (2 ^ i) = if i < q.size ∧ st.getLsbD (Ere.chr q i) = true then 2 ^ (i + 1) else 0 := by
  refine (Mt.im_ext (Mt.edgeT_in q 2 st) hx fun j => ?_).symm
  simp only [Nat.testBit_two_pow, decide_eq_true_eq]
  unfold Mt.edgeT
  constructor
  · intro h
    split at h
    · rename_i hc
      rw [Nat.testBit_two_pow, decide_eq_true_eq] at h
      exact ⟨i, rfl, .inr (.inl ⟨rfl, h.symm, hc.1, hc.2⟩)⟩
    · simp at h
  · rintro ⟨i', rfl, h2⟩
    rcases h2 with h2 | h2 | h2 | h2
    · omega
    · rw [if_pos ⟨h2.2.2.1, h2.2.2.2⟩, Nat.testBit_two_pow, decide_eq_true_eq]
      exact h2.2.1.symm
    · omega
    · omega
theorem wkr1 : (Tryd.prog.info? 3).map (·.size) = some 1 := by kernel_rfl
set_option maxRecDepth 100000 in
set_option maxHeartbeats 40000000 in
theorem ends8_any (nd : Nd) : nd.isT = true → ∀ (B : Nat) (w : World) (cs : Array Value) (q : ByteArray) (N gw i : Nat) (L : Int), N = q.size + 1 → N ≤ 1000000 → nd.tot (N + 1) ≤ 1000000000000 → NdIn w B nd cs → B ≤ gw → Blk w gw 164 (wkrC q L) → -2305843009214693960 ≤ L → L ≤ 1000000 → i < N →
    Calls Tryd.prog 85 #[.pointer (some ⟨gw, 0, none⟩), .agg cs, .int .i64 (i : Int)] w (SAns q N gw (Mt.tk q nd) (2 ^ i) (nd.tot (N + 1) - N) 1 L w) := by
  induction nd using Nd.ind with
  | h kd st l mi ma ih =>
  intro hT B w cs q N gw i L hNq hN hK hin hBg hW hL1 hL2 hi
  obtain ⟨A, n, c, cl, rfl, hn, hcl, hmax, hs, hr⟩ := hin.inv
  have hone : 1 ≤ N := by omega
  simp only [Nd.isT, Bool.and_eq_true, Nd.areT_all, List.all_eq_true] at hT
  obtain ⟨hh, hl⟩ := hT
  obtain ⟨X, hX⟩ : ∃ X, X = Mt.im q.size (Mt.tk q (Nd.mk kd st l mi ma)) (2 ^ i) := ⟨_, rfl⟩
  have htot : (Nd.mk kd st l mi ma).tot (N + 1) = N + 1 + Nd.tots (N + 1) l := by simp [Nd.tot]
  rw [htot] at hK
  obtain ⟨K, hKd⟩ : ∃ K, K = Nd.tots (N + 1) l := ⟨_, rfl⟩
  rw [← hKd] at hK htot
  have hSA : ∀ W e w', SRes q N gw X K L W e w' → SAns q N gw (Mt.tk q (Nd.mk kd st l mi ma)) (2 ^ i) ((Nd.mk kd st l mi ma).tot (N + 1) - N) 1 L W e w' := by
    rintro W e w' ⟨g, y, L', h1, h2, h3, h4, h5, h6, h7⟩
    refine ⟨g, y, L', h1, h2, h3, h4, h5, h6, Lib.hid ?_⟩
    obtain ⟨r1, r2, r3, r4⟩ := h7.out
    rw [htot]
    exact ⟨by omega, fun h => by have := r2 h; omega, r3, fun h => by rw [r4 h, hX]⟩
  refine Calls.mono ?_ (fun e w' => hSA w e w')
  clear hSA
  have HNq := Lib.hid hNq
  have hqs : q.size < 1099511627776 := by omega
  have hl40 : N ≤ 1099511627776 := by omega
  have hiq : i < q.size + 1 := by rw [← hNq]; exact hi
  have Hxq := Lib.hid (below_pow hiq)
  have HiN := Lib.hid hi
  have HK := Lib.hid (And.intro hK hKd)
  have HLb := Lib.hid (And.intro hL1 hL2)
  have Hn := Lib.hid hn
  have Hcl := Lib.hid hcl
  have Hr := Lib.hid hr
  have Ih := Lib.hid ih
  have Hl := Lib.hid hl
  have Hh := Lib.hid hh
  have HX := Lib.hid hX
  have hgwl := hW.lt
  clear hn hcl hr ih hh hin hl hX hNq hK hKd htot
  go_enter Tryd.func85, Tryd.ntmps85
  have h1 := Blk.new w 54 (nodeC kd st A n c mi ma)
  have hB1 : Below w.heap.size w (w.alloc (.cells (nodeC kd st A n c mi ma) 54)) := below_alloc (Below.refl _ _) _
  go_upto_region 1 with (fail)
  obtain ⟨W1, hW1⟩ : ∃ y, y = w.alloc (.cells (nodeC kd st A n c mi ma) 54) := ⟨_, rfl⟩
  rw [← hW1] at h1 hB1 ⊢
  clear hW1
  obtain ⟨gn, hgn⟩ : ∃ y, y = w.heap.size := ⟨_, rfl⟩
  have hgn2 : w.heap.size ≤ gn := by omega
  rw [← hgn] at h1 ⊢
  clear hgn
  replace hW := blk_then hW hB1
  have cq : W1.cell? ⟨gw, 0, none⟩ = some (.string q) := hW.cellv (i := 0) rfl
  go_upto_region 2 with (refine wl_makeB rfl _ _ rfl N w.heap.size (congrArg (Value.int .i64) (by have := HNq.out; omega)) (congrArg (Value.int .i64) (by have := HNq.out; omega)) hl40 hB1.size ?_; intro w2 hS2 hB2)
  obtain ⟨g, hg⟩ : ∃ y, y = W1.heap.size := ⟨_, rfl⟩
  have hgw : w.heap.size ≤ g := by rw [hg]; exact hB1.size
  have hgg : gn < g := by rw [hg]; exact h1.lt
  rw [← hg] at hS2 ⊢
  clear hg cq
  replace h1 := blk_then h1 hB2
  replace hW := blk_then hW hB2
  replace hB1 := below_then hB1 hB2
  clear hB2
  have cL : w2.cell? ⟨gw, 1, none⟩ = some (.int .i64 L) := hW.cellv (i := 1) rfl
  go_upto_region 3 with (refine wl_store_cell rfl _ _ _ rfl gw 1 rfl 164 _ (wkrC q (L - 1)) hW (Nat.lt_succ_self 1) wkr1 rfl rfl rfl ?_; intro w3 hW3 hg3)
  have hT1 : Turn gw (gw + 1) w w3 := (Turn.of_below hB1).grown hg3 (fun r e => by injection e with e; omega)
  replace h1 := blk_grown h1 hg3 (by omega)
  have hS3 := own_grown' hS2 hg3 (by omega)
  clear cL hW hS2 hB1 hg3
  have cL : w3.cell? ⟨gw, 1, none⟩ = some (.int .i64 (L - 1)) := hW3.cellv (i := 1) rfl
  have cq : w3.cell? ⟨gw, 0, none⟩ = some (.string q) := hW3.cellv (i := 0) rfl
  have hgl := (hS3.lt g rfl).2
  by_cases hneg : L - 1 < 0
  · have HLb2 := Lib.hid hneg
    go_wp2_with (fail)
    go_ret
    refine ⟨g, 0, L - 1, rfl, hgw, hS3, below_zero _, hT1, hW3, Lib.hid ?_⟩
    have := HLb2.out
    exact ⟨by omega, fun h => by omega, fun h => by omega, fun h => by omega⟩
  have Hfin : Hid (∀ y : Nat, y = X → (L - 1 ≤ L - 1 ∧ (0 ≤ L → 0 ≤ (L - 1) + (1 + K : Nat)) ∧ (L < 0 → L ≤ (L - 1) + (1 : Nat)) ∧ (0 ≤ L - 1 → y = X))) := Lib.hid fun y hy => ⟨by omega, fun h => by omega, fun h => by omega, fun _ => hy⟩
  have c0 : w3.cell? ⟨gn, 0, none⟩ = some (.int .i64 kd) := h1.cellv (i := 0) rfl
  have c5 : w3.cell? ⟨gn, 5, none⟩ = some (.slice A n c) := h1.cellv (i := 5) rfl
  have c6 : w3.cell? ⟨gn, 6, none⟩ = some (.int .i64 mi) := h1.cellv (i := 6) rfl
  have c7 : w3.cell? ⟨gn, 7, none⟩ = some (.int .i64 ma) := h1.cellv (i := 7) rfl
  have hiI : (i : Int) < N := by omega
  have hib : i < 1099511628000 := by omega
  by_cases k1 : kd = 1
  · subst k1
    have hXx : X = 2 ^ i := by
      rw [HX.out]
      exact (im_congr _ (fun i j => by simp [Mt.tk])).trans (Mt.im_id Hxq.out)
    clear hL1 hL2
    have HXx := Lib.hid hXx
    clear hXx
    go_wp2_with (refine wl_store_one (enc := encB) encB_size rfl _ info_bool1 _ _ rfl g i N N rfl true rfl rfl rfl hS3 (by rw [boolsN_length]; exact HiN.out) ?_; intro w4 hS4 hg4)
    go_ret
    rw [boolsN_set, Nat.zero_or] at hS4
    exact ⟨g, 2 ^ i, L - 1, rfl, hgw, hS4, below_pow HiN.out, hT1.grown hg4 (fun r e => by injection e with e; omega), blk_grown hW3 hg4 (by omega), Lib.hid (Hfin.out _ HXx.out.symm)⟩
  by_cases k6 : kd = 6
  · subst k6
    have hX2 : X = if decide (i = 0) = true then 2 ^ i else 0 := by
      rw [HX.out]
      refine ((im_congr _ (fun i j => by simp [Mt.tk])).trans (im_edge_begin Hxq.out)).trans ?_
      rw [Nat.testBit_two_pow]
      by_cases e : i = 0
      · subst e; simp
      · simp [e]
    have HX2 := Lib.hid hX2
    clear hX2
    obtain ⟨b, hb⟩ : ∃ b, decide (i = 0) = b := ⟨_, rfl⟩
    have hbv : ((i : Int) == 0) = b := by rw [← hb, Bool.eq_iff_iff]; simp
    have Hb := Lib.hid hb
    clear hL1 hL2 hb
    go_wp2_with (refine wl_store_one (enc := encB) encB_size rfl _ info_bool1 _ _ rfl g i N N rfl b (by rw [← hbv]; rfl) rfl rfl hS3 (by rw [boolsN_length]; exact HiN.out) ?_; intro w4 hS4 hg4)
    go_ret
    rw [boolsN_put] at hS4
    refine ⟨g, _, L - 1, rfl, hgw, hS4, ?_, hT1.grown hg4 (fun r e => by injection e with e; omega), blk_grown hW3 hg4 (by omega), Lib.hid (Hfin.out _ ?_)⟩
    · split
      · exact below_pow HiN.out
      · exact below_zero _
    · rw [HX2.out, Hb.out]
  by_cases k7 : kd = 7
  · subst k7
    have hX2 : X = if decide (i = q.size) = true then 2 ^ i else 0 := by
      rw [HX.out]
      refine ((im_congr _ (fun i j => by simp [Mt.tk])).trans (im_edge_end Hxq.out)).trans ?_
      rw [Nat.testBit_two_pow]
      by_cases e : i = q.size
      · subst e; simp
      · simp [e]
    have HX2 := Lib.hid hX2
    clear hX2
    obtain ⟨b, hb⟩ : ∃ b, decide (i = q.size) = b := ⟨_, rfl⟩
    have hbv : ((i : Int) == (q.size : Int)) = b := by rw [← hb, Bool.eq_iff_iff]; simp; omega
    have Hb := Lib.hid hb
    clear hL1 hL2 hb
    go_wp2_with (refine wl_store_one (enc := encB) encB_size rfl _ info_bool1 _ _ rfl g i N N rfl b (by rw [← hbv]; rfl) rfl rfl hS3 (by rw [boolsN_length]; exact HiN.out) ?_; intro w4 hS4 hg4)
    go_ret
    rw [boolsN_put] at hS4
    refine ⟨g, _, L - 1, rfl, hgw, hS4, ?_, hT1.grown hg4 (fun r e => by injection e with e; omega), blk_grown hW3 hg4 (by omega), Lib.hid (Hfin.out _ ?_)⟩
    · split
      · exact below_pow HiN.out
      · exact below_zero _
    · rw [HX2.out, Hb.out]
  by_cases k2 : kd = 2
  · subst k2
    have hX2 : X = if i < q.size ∧ st.getLsbD (Ere.chr q i) = true then 2 ^ (i + 1) else 0 := by
      rw [HX.out]
      exact (im_congr _ (fun i j => by simp [Mt.tk])).trans (im_edge_set1 Hxq.out)
    clear c5 c6 c7 hL1 hL2 k1 k6 k7
    by_cases hin : i < q.size
    · have hinI : (i : Int) < q.size := by omega
      have hiN1 : i + 1 < N := by have := HNq.out; omega
      obtain ⟨sb, hsb⟩ : ∃ v, st.getLsbD (Ere.chr q i) = v := ⟨_, rfl⟩
      have kHas : ∀ W, Calls Tryd.prog 104 #[.agg (setC st), .int .u8 ((Ere.chr q i : Nat) : Int)] W fun e w' => e = .returned (.bool sb) ∧ Below W.heap.size W w' := fun W => by rw [← hsb]; exact has8_any st _ (Ere.chr_lt _ _) W
      rw [hsb] at hX2
      have HX2 := Lib.hid hX2
      clear hX2 hsb
      go_upto_region 13 with (fail)
      refine wp_region_steps 18 [eqS (.int .i64 ((i : Int))), eqS (.pointer (some ⟨gw, 0, none⟩)), eqS (.pointer (some ⟨gw, 0, none⟩)), eqS (.pointer (some ⟨gw, 0, none⟩)), eqS (.string q), eqS (.int .i64 ((q.size : Int))), eqS (.bool true), eqS (.bool true), eqS (vF (true && (true == true)) (.pointer (some ⟨gn, 1, none⟩))), eqS (vF (true && (true == true)) (.agg (setC st))), eqS (vF (true && (true == true)) (.pointer (some ⟨gw, 0, none⟩))), eqS (vF (true && (true == true)) (.pointer (some ⟨gw, 0, none⟩))), eqS (vF (true && (true == true)) (.pointer (some ⟨gw, 0, none⟩))), eqS (vF (true && (true == true)) (.string q)), eqS (vF (true && (true == true)) (.int .i64 ((i : Int)))), eqS (vF (true && (true == true)) (.int .u8 (((Ere.chr q i : Nat) : Int)))), eqS (vF (true && (true == true)) (.bool sb)), eqS (.bool (true && sb))] [61, 62, 63, 64, 65, 66, 67, 68, 69, 70, 71, 72, 73, 74, 75, 76, 77, 78] follows_mixed (by kernel_rfl) (by kernel_rfl) ?_ ?_
      · skip
        refine Steps.cons (fun a' w' hG hB dep => gs_move (want_none rfl) _ rfl (id (hG.other 2 rfl))) ?_
        refine Steps.cons (fun a' w' hG hB dep => gs_move (want_none rfl) _ rfl (id (hG.other 0 rfl))) ?_
        refine Steps.cons (fun a' w' hG hB dep => gs_nil (want_none rfl) _ rfl _ (dep 1 rfl 62 rfl) rfl) ?_
        refine Steps.cons (fun a' w' hG hB dep => gs_field (want_none rfl) _ _ _ rfl gw (0) (0) (dep 2 rfl 63 rfl) (fun wz => field_walker_0 gw (0) wz) rfl) ?_
        refine Steps.cons (fun a' w' hG hB dep => gs_load1 (want_none rfl) _ _ rfl gw (0) (dep 3 rfl 64 rfl) (.string q) ((blk_then hW3 hB).cellv (i := 0) rfl) _ Tryd.underlying9 rfl rfl) ?_
        refine Steps.cons (fun a' w' hG hB dep => gs_len_str (want_none rfl) _ rfl q (dep 4 rfl 65 rfl) rfl) ?_
        refine Steps.cons (fun a' w' hG hB dep => gs_lss_int (want_none rfl) _ _ _ _ rfl _ _ _ (dep 0 rfl 61 rfl) (dep 5 rfl 66 rfl) (id (congrArg Value.bool (by rw [decide_eq_true hinI])))) ?_
        refine Steps.cons (fun a' w' hG hB dep => gs_move (want_none rfl) _ rfl (id (dep 6 rfl 67 rfl))) ?_
        refine Steps.cons (fun a' w' hG hB dep => gs_guard (c := true) (b' := true) rfl rfl (dep 7 rfl 68 rfl) (fun hc he hw => gs_field hw _ _ _ rfl gn (0) (1) (hG.other 4 rfl) (fun wz => field_node_1 gn (0) wz) (vF_yes (on_g hc he) _).symm) (fun hn => vF_no hn _)) ?_
        refine Steps.cons (fun a' w' hG hB dep => gs_guard (c := true) (b' := true) rfl rfl (dep 7 rfl 68 rfl) (fun hc he hw => gs_load_set_at hw _ rfl gn (1) (Eq.trans (dep 8 rfl 69 rfl) (vF_yes (on_g hc he) _)) _ (node_st (blk_then h1 hB)) (vF_yes (on_g hc he) _).symm) (fun hn => vF_no hn _)) ?_
        refine Steps.cons (fun a' w' hG hB dep => gs_guard (c := true) (b' := true) rfl rfl (dep 7 rfl 68 rfl) (fun hc he hw => gs_move hw _ rfl (Eq.trans (hG.other 0 rfl) (vF_yes (on_g hc he) _).symm)) (fun hn => vF_no hn _)) ?_
        refine Steps.cons (fun a' w' hG hB dep => gs_guard (c := true) (b' := true) rfl rfl (dep 7 rfl 68 rfl) (fun hc he hw => gs_nil hw _ rfl _ (Eq.trans (dep 10 rfl 71 rfl) (vF_yes (on_g hc he) _)) (vF_yes (on_g hc he) _).symm) (fun hn => vF_no hn _)) ?_
        refine Steps.cons (fun a' w' hG hB dep => gs_guard (c := true) (b' := true) rfl rfl (dep 7 rfl 68 rfl) (fun hc he hw => gs_field hw _ _ _ rfl gw (0) (0) (Eq.trans (dep 11 rfl 72 rfl) (vF_yes (on_g hc he) _)) (fun wz => field_walker_0 gw (0) wz) (vF_yes (on_g hc he) _).symm) (fun hn => vF_no hn _)) ?_
        refine Steps.cons (fun a' w' hG hB dep => gs_guard (c := true) (b' := true) rfl rfl (dep 7 rfl 68 rfl) (fun hc he hw => gs_load1 hw _ _ rfl gw (0) (Eq.trans (dep 12 rfl 73 rfl) (vF_yes (on_g hc he) _)) (.string q) ((blk_then hW3 hB).cellv (i := 0) rfl) _ Tryd.underlying9 rfl (vF_yes (on_g hc he) _).symm) (fun hn => vF_no hn _)) ?_
        refine Steps.cons (fun a' w' hG hB dep => gs_guard (c := true) (b' := true) rfl rfl (dep 7 rfl 68 rfl) (fun hc he hw => gs_move hw _ rfl (Eq.trans (hG.other 2 rfl) (vF_yes (on_g hc he) _).symm)) (fun hn => vF_no hn _)) ?_
        refine Steps.cons (fun a' w' hG hB dep => gs_guard (c := true) (b' := true) rfl rfl (dep 7 rfl 68 rfl) (fun hc he hw => gs_index_str hw _ _ rfl q i (Eq.trans (dep 13 rfl 74 rfl) (vF_yes (on_g hc he) _)) (Eq.trans (dep 14 rfl 75 rfl) (vF_yes (on_g hc he) _)) hin (vF_yes (on_g hc he) _).symm) (fun hn => vF_no hn _)) ?_
        refine Steps.cons (fun a' w' hG hB dep => gs_guard (c := true) (b' := true) rfl rfl (dep 7 rfl 68 rfl) (fun hc he hw => gs_call hw _ _ _ rfl enter_has8 #[(.agg (setC st)), (.int .u8 (((Ere.chr q i : Nat) : Int)))] (map2 (Eq.trans (dep 9 rfl 70 rfl) (vF_yes (on_g hc he) _)) (Eq.trans (dep 15 rfl 76 rfl) (vF_yes (on_g hc he) _))) (ret_step (kHas _) (fun _ => (vF_yes (on_g hc he) _).symm))) (fun hn => vF_no hn _)) ?_
        refine Steps.cons (fun a' w' hG hB dep => gs_pick (want_none rfl) _ _ _ rfl true (dep 7 rfl 68 rfl) (id (pick_and2 (c := true) rfl (dep 16 rfl 77 rfl)))) ?_
        exact Steps.nil
      intro u w4 hB4 ans
      have u78 : u 78 = .bool (true && sb) := ans 17 78 (by decide) rfl
      clear ans
      simp only [putAll, List.foldl_cons, List.foldl_nil, Act.put, List.setIfInBounds_toArray, List.set_cons_zero, List.set_cons_succ, u78]
      clear u78
      simp only [List.drop]
      refine wpList_nil ?_
      have hS4 := hS3.then_ hB4
      have hW4 := blk_then hW3 hB4
      have hT4 := hT1.then_ hB4
      clear hS3 hW3 hT1 hB4 cL cq c0 kHas h1 hin hinI
      rw [Bool.true_and]
      cases sb with
      | false =>
        go_wp2_with (fail)
        go_ret
        exact ⟨g, 0, L - 1, rfl, hgw, hS4, below_zero _, hT4, hW4, Lib.hid (Hfin.out _ (by rw [HX2.out]; simp))⟩
      | true =>
        have hgl4 := (hS4.lt g rfl).2
        go_wp2_with (refine wl_store_one (enc := encB) encB_size rfl _ info_bool1 _ _ rfl g (i + 1) N N rfl true rfl rfl rfl hS4 (by rw [boolsN_length]; exact hiN1) ?_; intro w5 hS5 hg5)
        go_ret
        rw [boolsN_set, Nat.zero_or] at hS5
        have hlt : i < q.size := by have := HNq.out; omega
        exact ⟨g, 2 ^ (i + 1), L - 1, rfl, hgw, hS5, below_pow hiN1, hT4.grown hg5 (fun r e => by injection e with e; omega), blk_grown hW4 hg5 (by omega), Lib.hid (Hfin.out _ (by rw [HX2.out]; simp [hlt]))⟩
    · have hinI : ¬ (i : Int) < q.size := by omega
      have HX2 := Lib.hid (show X = 0 by rw [hX2, if_neg fun h => hin h.1])
      clear hX2
      go_upto_region 13 with (fail)
      go_big_region
      go_wp2_with (fail)
      go_ret
      refine ⟨g, 0, L - 1, rfl, hgw, ?_, below_zero _, ?_, ?_, Lib.hid (Hfin.out _ HX2.out.symm)⟩
      · exact hS3.then_ (Below.refl _ _).drew
      · exact hT1.then_ (Below.refl _ _).drew
      · exact blk_then hW3 (Below.refl _ _).drew
  have hcall : ∀ (k : Nat) (hk : k < n) (W : World), (∀ j, j < B → W.heap[j]? = w.heap[j]?) → ∃ kd' st' A' n' c' mi' ma', ∃ ba off, A = some ⟨ba, off, none⟩ ∧ RowAt W ba (off + k * 8) (nodeC kd' st' A' n' c' mi' ma') ∧ ∃ hkl : k < l.length, N + 1 ≤ l[k].tot (N + 1) ∧ l[k].tot (N + 1) ≤ K ∧ ∀ (W' : World) (L2 : Int) (i2 : Nat), (∀ j, j < B → W'.heap[j]? = w.heap[j]?) → -2305843009214693960 ≤ L2 → L2 ≤ 1000000 → i2 < N → Blk W' gw 164 (wkrC q L2) → Calls Tryd.prog 85 #[.pointer (some ⟨gw, 0, none⟩), .agg (nodeC kd' st' A' n' c' mi' ma'), .int .i64 (i2 : Int)] W' (SAns q N gw (Mt.tk q l[k]) (2 ^ i2) (l[k].tot (N + 1) - N) 1 L2 W') := fun k hk W hW => by
    have hkl : k < l.length := by rw [← Hn.out]; exact hk
    have hkc : k < cl.length := by rw [Hcl.out]; exact hkl
    obtain ⟨ba, off, rfl, hba, hrows⟩ := hs.at_ (by omega)
    have hrow := (hrows k hkc).keep (hW ba hba)
    have hsub := Hr.out k hkl hkc
    have hmem : l[k] ∈ l := List.getElem_mem hkl
    have hTk := Hl.out _ hmem
    have htk : l[k].tot (N + 1) ≤ K := by rw [HK.out.2]; exact Nd.tots_mem hmem
    obtain ⟨⟨kd', st', l', mi', ma'⟩, hx'⟩ : ∃ x, x = l[k] := ⟨_, rfl⟩
    have hsub' := hsub
    rw [← hx'] at hsub'
    obtain ⟨A', n', c', cl', hce, -⟩ := hsub'.inv
    rw [hce] at hrow
    refine ⟨kd', st', A', n', c', mi', ma', ba, off, rfl, hrow, hkl, Nd.tot_ge _ _, htk, fun W' L2 i2 hW' hl1 hl2 hi2 hb2 => ?_⟩
    rw [← hce]
    exact Ih.out _ hmem hTk B W' _ q N gw i2 L2 HNq.out hN (by have := HK.out.1; omega) (hsub.keep fun j hj => hW' j hj) hBg hb2 hl1 hl2 hi2
  have Hcall := Lib.hid hcall
  clear hcall
  have hlow : ∀ W, Turn gw (gw + 1) w W → ∀ j, j < B → W.heap[j]? = w.heap[j]? := fun W hW j hj => hW.block j (by omega) (.inl (by omega))
  have Hlow := Lib.hid hlow
  clear hlow
  have HLp := Lib.hid (show 0 ≤ L - 1 by omega)
  by_cases k3 : kd = 3
  · subst k3
    have hX2 : X = Mt.im q.size (Mt.tkS q l) (2 ^ i) := by
      rw [HX.out]
      exact im_congr _ (fun i j => by simp [Mt.tk])
    have HX2 := Lib.hid hX2
    clear hX2 k1 k6 k7 k2 c6 c7 hL1 hL2
    go_upto_region 17 with (refine wl_store_one (enc := encB) encB_size rfl _ info_bool1 _ _ rfl g i N N rfl true rfl rfl rfl hS3 (by rw [boolsN_length]; exact HiN.out) ?_; intro w4 hS4 hg4)
    rw [boolsN_set, Nat.zero_or] at hS4
    replace hT1 := hT1.grown hg4 (fun r e => by injection e with e; omega)
    replace h1 := blk_grown h1 hg4 (by omega)
    replace hW3 := blk_grown hW3 hg4 (by omega)
    clear hg4 hS3 c0 c5 cL cq hneg
    have hr0 : Hid (L - 1 ≤ L - 1 ∧ 0 ≤ (L - 1) + Nd.tots (N + 1) (l.take 0) ∧ (0 ≤ L - 1 → 2 ^ i = Mt.im q.size (Mt.tkS q (l.take 0)) (2 ^ i))) := Lib.hid ⟨by omega, by have := HLp.out; omega, fun _ => by rw [List.take_zero, im_congr (2 ^ i) (U := fun i j => i = j) (fun i j => by simp [Mt.tkS]), Mt.im_id Hxq.out]⟩
    have hp0 := below_pow HiN.out
    go_wp2_with (fail)
    go_loopw [7, 8] (fun tv iv wr => ∃ (k g' y : Nat) (L2 : Int), k ≤ n ∧ tv = .slice (some ⟨g', 0, none⟩) N N ∧ iv = .int .i64 k ∧ w.heap.size ≤ g' ∧ below y N ∧ Own wr w.heap.size 4 1 encB (.slice (some ⟨g', 0, none⟩) N N) (boolsN y N) ∧ Blk wr gn 54 (nodeC 3 st A n c mi ma) ∧ Blk wr gw 164 (wkrC q L2) ∧ Turn gw (gw + 1) w wr ∧ Hid (L2 ≤ L - 1 ∧ 0 ≤ L2 + Nd.tots (N + 1) (l.take k) ∧ (0 ≤ L2 → y = Mt.im q.size (Mt.tkS q (l.take k)) (2 ^ i)))) (fun _ iv _ => n - (intOf iv).toNat)
    case atStart => exact ⟨0, g, 2 ^ i, L - 1, by omega, rfl, rfl, hgw, hp0, hS4, h1, hW3, hT1, hr0⟩
    case round =>
      clear hS4 h1 hW3 hT1 hr0 hp0
      obtain ⟨k, g', y, L2, hk, rfl, rfl, hgw', hy, hS, h1, hW, hT, Hr2⟩ := hrel
      have c5 : wr.cell? ⟨gn, 5, none⟩ = some (.slice A n c) := h1.cellv (i := 5) rfl
      by_cases hkn : k < n
      · have hkI : (k : Int) < n := by omega
        have hkb : k < 1099511628000 := by omega
        obtain ⟨kd', st', A', n', c', mi', ma', ba, off, hA, hrow, hkl, ht1, ht2, hcl'⟩ := Hcall.out k hkn wr (Hlow.out wr hT)
        have hTin := Mt.tk_in q (Hl.out _ (List.getElem_mem hkl))
        have hstep := Nd.tots_step (N + 1) l k hkl
        have htake := Nd.tots_take (N + 1) l (k + 1)
        have hLb2 : LOk L2 := by
          obtain ⟨r1, r2, r3⟩ := Hr2.out
          have h1 := HK.out
          have h2 := HLb.out
          unfold LOk
          rw [← h1.2] at htake
          omega
        have kc := all8_of q N gw (l[k].tot (N + 1) - N) w.heap.size g' N y B L2 kd' st' A' n' c' mi' ma' (Mt.tk q l[k]) hTin HNq.out hN (by have := HK.out.1; omega) hLb2 hy wr hBg hW hS (fun W L3 i3 q1 q2 q3 q4 q5 q6 => hcl' W L3 i3 (fun j hj => (q1 j hj).trans (Hlow.out wr hT j hj)) q3 (by have := hLb2.2; omega) q5 q6)
        have hrw := fun h => Mt.im_row q l (fun x hx => Hl.out x hx) k hkl (x := 2 ^ i) h
        have Hrw := Lib.hid (hrw Hxq.out)
        have Hm := Lib.hid (And.intro hstep (And.intro ht1 htake))
        subst hA
        clear hrw hcl' hstep ht1 ht2 htake hLb2
        go_wp2_with (first | (refine wl_load_node_at rfl _ rfl _ _ rfl _ _ _ _ _ _ _ hrow ?_) | (go_at_call 105; refine kc.mono ?_; rintro e w5 ⟨g5, y5, L5, rfl, hg5, hS5, hy5, hT5, hW5, Hr5⟩))
        have hsz := hT.size
        refine ⟨⟨k + 1, g5, y5, L5, by omega, rfl, rfl, by omega, hy5, hS5.mono hsz, blk_turn h1 hT5 (by omega), hW5, hT.trans hT5, Lib.hid ?_⟩, by simp only [intOf]; omega⟩
        obtain ⟨r1, r2, r3⟩ := Hr2.out
        obtain ⟨s1, s2, s3, s4⟩ := Hr5.out
        obtain ⟨m1, m2, -⟩ := Hm.out
        refine ⟨by omega, ?_, fun h => ?_⟩
        · rw [m1]
          by_cases h2 : 0 ≤ L2
          · have := s2 h2; omega
          · have := s3 (by omega); omega
        · rw [s4 h, r3 (by omega), Hrw.out]
      · have hkI : ¬ (k : Int) < n := by omega
        have hke : l.take k = l := List.take_of_length_le (by have := Hn.out; omega)
        rw [hke, ← HX2.out] at Hr2
        go_wp2_with (fail)
        go_ret
        refine ⟨g', y, L2, rfl, hgw', hS, hy, hT, hW, Lib.hid ?_⟩
        obtain ⟨r1, r2, r3⟩ := Hr2.out
        have h1 := HK.out.2
        have h2 := HLp.out
        exact ⟨r1, fun h => by omega, fun h => by omega, r3⟩
  by_cases k4 : kd = 4
  · subst k4
    have hX2 : X = Mt.im q.size (Mt.tkA q l) (2 ^ i) := by
      rw [HX.out]
      exact im_congr _ (fun i j => by simp [Mt.tk])
    have HX2 := Lib.hid hX2
    clear hX2 k1 k6 k7 k2 k3 c6 c7 hL1 hL2 cq
    have hr0 : Hid (L - 1 ≤ L - 1 ∧ 0 ≤ (L - 1) + Nd.tots (N + 1) (l.take 0) ∧ (0 ≤ L - 1 → 0 = Mt.im q.size (Mt.tkA q (l.take 0)) (2 ^ i))) := Lib.hid ⟨by omega, by have := HLp.out; omega, fun _ => by rw [List.take_zero, tkA_nil]⟩
    go_wp2_with (fail)
    go_loopw [9] (fun iv wr => ∃ (k y : Nat) (L2 : Int), k ≤ n ∧ iv = .int .i64 k ∧ below y N ∧ Own wr w.heap.size 4 1 encB (.slice (some ⟨g, 0, none⟩) N N) (boolsN y N) ∧ Blk wr gn 54 (nodeC 4 st A n c mi ma) ∧ Blk wr gw 164 (wkrC q L2) ∧ Turn gw (gw + 1) w wr ∧ Hid (L2 ≤ L - 1 ∧ 0 ≤ L2 + Nd.tots (N + 1) (l.take k) ∧ (0 ≤ L2 → y = Mt.im q.size (Mt.tkA q (l.take k)) (2 ^ i)))) (fun iv _ => n - (intOf iv).toNat)
    case atStart => exact ⟨0, 0, L - 1, by omega, rfl, below_zero _, hS3, h1, hW3, hT1, hr0⟩
    case round =>
      clear hS3 h1 hW3 hT1 hr0 c0 c5 cL hneg
      obtain ⟨k, y, L2, hk, rfl, hy, hS, h1, hW, hT, Hr2⟩ := hrel
      have c5 : wr.cell? ⟨gn, 5, none⟩ = some (.slice A n c) := h1.cellv (i := 5) rfl
      by_cases hkn : k < n
      · have hkI : (k : Int) < n := by omega
        have hkb : k < 1099511628000 := by omega
        obtain ⟨kd', st', A', n', c', mi', ma', ba, off, hA, hrow, hkl, ht1, ht2, hcl'⟩ := Hcall.out k hkn wr (Hlow.out wr hT)
        have hstep := Nd.tots_step (N + 1) l k hkl
        have htake := Nd.tots_take (N + 1) l (k + 1)
        have hLb2 : LOk L2 := by
          obtain ⟨r1, r2, r3⟩ := Hr2.out
          have h1 := HK.out
          have h2 := HLb.out
          unfold LOk
          rw [← h1.2] at htake
          omega
        have kc := hcl' wr L2 i (Hlow.out wr hT) (by have := hLb2.1; omega) hLb2.2 HiN.out hW
        have hrw := fun h => Mt.im_alt q l (fun x hx => Hl.out x hx) k hkl (x := 2 ^ i) h
        have Hrw := Lib.hid (hrw Hxq.out)
        have Hm := Lib.hid (And.intro hstep (And.intro ht1 htake))
        have hgl4 := (hS.lt g rfl).2
        have hgnl := h1.lt
        subst hA
        clear hrw hcl' hstep ht1 ht2 htake hLb2
        go_wp2_with (first | (refine wl_load_node_at rfl _ rfl _ _ rfl _ _ _ _ _ _ _ hrow ?_) | (go_at_call 85; refine kc.mono ?_; rintro e w5 ⟨g5, y5, L5, rfl, hg5, hS5, hy5, hT5, hW5, Hr5⟩) | (go_at_call 106; refine (join8_any w.heap.size wr.heap.size g g5 N N N y y5 hl40 hy hy5 (by omega) _ (own_turn hS hT5 (by omega)) hS5).mono ?_; rintro e w6 ⟨rfl, hS6, hT6⟩))
        refine ⟨⟨k + 1, y ||| y5, L5, by omega, rfl, below_or hy hy5, hS6, blk_turn (blk_turn h1 hT5 (by omega)) hT6 (by omega), blk_turn hW5 hT6 (by omega), (hT.trans hT5).above hT6 hgw, Lib.hid ?_⟩, by simp only [intOf]; omega⟩
        obtain ⟨r1, r2, r3⟩ := Hr2.out
        obtain ⟨s1, s2, s3, s4⟩ := Hr5.out
        obtain ⟨m1, m2, -⟩ := Hm.out
        refine ⟨by omega, ?_, fun h => ?_⟩
        · rw [m1]
          by_cases h2 : 0 ≤ L2
          · have := s2 h2; omega
          · have := s3 (by omega); omega
        · rw [s4 h, r3 (by omega), Hrw.out]
      · have hkI : ¬ (k : Int) < n := by omega
        have hke : l.take k = l := List.take_of_length_le (by have := Hn.out; omega)
        rw [hke, ← HX2.out] at Hr2
        go_wp2_with (fail)
        go_ret
        refine ⟨g, y, L2, rfl, hgw, hS, hy, hT, hW, Lib.hid ?_⟩
        obtain ⟨r1, r2, r3⟩ := Hr2.out
        have h1 := HK.out.2
        have h2 := HLp.out
        exact ⟨r1, fun h => by omega, fun h => by omega, r3⟩
  have k5 : kd = 5 := by
    have h := Hh.out
    unfold headOk at h
    rw [if_neg (by omega), if_neg k2, if_neg (by omega)] at h
    by_cases e : kd = 5
    · exact e
    · rw [if_neg e] at h; cases h
  subst k5
  obtain ⟨-, hn1, hmi0, hmi255, hma⟩ := headOk_times Hh.out
  have hn1' : n = 1 := by rw [Hn.out]; exact hn1
  obtain ⟨T, hTd⟩ : ∃ T, T = Mt.tk q (l[0]'(by omega)) := ⟨_, rfl⟩
  have hTin : Mt.InR q.size T := by rw [hTd]; exact Mt.tk_in q (Hl.out _ (List.getElem_mem _))
  obtain ⟨a, ha⟩ : ∃ a : Nat, mi = (a : Int) := ⟨mi.toNat, by omega⟩
  have hX2 : X = Mt.im q.size (fun i j => ∃ k : Nat, a ≤ k ∧ (ma = -1 ∨ (k : Int) ≤ ma) ∧ Mt.riter T k i j) (2 ^ i) := by
    rw [HX.out]
    refine im_congr _ (fun i j => ?_)
    obtain ⟨t0, rfl⟩ : ∃ x, l = [x] := List.length_eq_one_iff.1 hn1
    simp only [Mt.tk, Mt.tkT]
    rw [hTd, ha]
    simp
  have hm0 : ma = -1 ∨ (a : Int) ≤ ma := by omega
  have HX2 := Lib.hid hX2
  have Hm0 := Lib.hid hm0
  subst ha
  have hab : a < 1099511628 := by omega
  have hsub : ∀ W, Turn gw (gw + 1) w W → ∃ kd' st' A' n' c' mi' ma', ∃ ba off, A = some ⟨ba, off, none⟩ ∧ RowAt W ba off (nodeC kd' st' A' n' c' mi' ma') ∧ ∀ (base2 gf cf y : Nat) (L2 : Int), Own W base2 4 1 encB (.slice (some ⟨gf, 0, none⟩) N cf) (boolsN y N) → below y N → Blk W gw 164 (wkrC q L2) → 0 ≤ L2 → L2 ≤ L - 1 → Calls Tryd.prog 105 #[.pointer (some ⟨gw, 0, none⟩), .agg (nodeC kd' st' A' n' c' mi' ma'), .slice (some ⟨gf, 0, none⟩) N cf] W (SAns q N gw T y K N L2 W) := fun W hW => by
    obtain ⟨kd', st', A', n', c', mi', ma', ba, off, hA, hrow, hkl, ht1, ht2, hcl'⟩ := Hcall.out 0 (by omega) W (Hlow.out W hW)
    rw [Nat.zero_mul, Nat.add_zero] at hrow
    refine ⟨kd', st', A', n', c', mi', ma', ba, off, hA, hrow, fun base2 gf cf y L2 hF hy hb hL0 hLL => ?_⟩
    have hK0 : l[0].tot (N + 1) = K := by
      rw [HK.out.2]
      obtain ⟨t0, rfl⟩ : ∃ x, l = [x] := List.length_eq_one_iff.1 hn1
      simp [Nd.tots]
    have hKN : K = l[0].tot (N + 1) - N + N := by omega
    rw [hTd, hKN]
    exact all8_of q N gw (l[0].tot (N + 1) - N) base2 gf cf y B L2 kd' st' A' n' c' mi' ma' _ (by rw [← hTd]; exact hTin) HNq.out hN (by have := HK.out.1; omega) ⟨by omega, by have := HLb.out; omega⟩ hy W hBg hb hF (fun W2 L3 i3 q1 q2 q3 q4 q5 q6 => hcl' W2 L3 i3 (fun j hj => (q1 j hj).trans (Hlow.out W hW j hj)) q3 (by have := HLb.out; omega) q5 q6)
  have Hsub := Lib.hid hsub
  have Hn1 := Lib.hid hn1'
  have HTin := Lib.hid hTin
  clear hsub hX2 hm0 hn1 hn1' hmi0 hmi255 hma hTd hTin k1 k2 k3 k4 k6 k7 hL1 hL2
  go_upto_region 28 with (refine wl_makeB rfl _ _ rfl N w.heap.size (congrArg (Value.int .i64) (by have := HNq.out; omega)) (congrArg (Value.int .i64) (by have := HNq.out; omega)) hl40 hT1.size ?_; intro w4 hS4 hB4)
  obtain ⟨g2, hg2⟩ : ∃ y, y = w3.heap.size := ⟨_, rfl⟩
  have hg2w : w.heap.size ≤ g2 := by rw [hg2]; exact hT1.size
  have hg2g : g2 ≠ g := by omega
  have hg2n : gn ≠ g2 := by have := h1.lt; omega
  rw [← hg2] at hS4 ⊢
  replace h1 := blk_then h1 hB4
  replace hW3 := blk_then hW3 hB4
  replace hT1 := hT1.then_ hB4
  replace hS3 := hS3.then_ hB4
  clear hB4 hg2 cL cq c0 c5 c6 c7 hneg
  have hgl4 := (hS4.lt g2 rfl).2
  go_upto_region 29 with (refine wl_store_one (enc := encB) encB_size rfl _ info_bool1 _ _ rfl g2 i N N rfl true rfl rfl rfl hS4 (by rw [boolsN_length]; exact HiN.out) ?_; intro w5 hS5 hg5)
  rw [boolsN_set, Nat.zero_or] at hS5
  replace hT1 := hT1.grown hg5 (fun r e => by injection e with e; omega)
  replace h1 := blk_grown h1 hg5 (by omega)
  replace hW3 := blk_grown hW3 hg5 (by omega)
  replace hS3 := own_grown' hS3 hg5 (by omega)
  have hp0 := below_pow HiN.out
  have hr0 : Hid (L - 1 ≤ L - 1 ∧ 0 ≤ (L - 1) + K ∧ (0 ≤ L - 1 → 2 ^ i = Mt.im q.size (Mt.riter T 0) (2 ^ i))) := Lib.hid ⟨by omega, by have := HLp.out; omega, fun _ => (show Mt.im q.size (Mt.riter T 0) (2 ^ i) = 2 ^ i from Mt.im_id Hxq.out).symm⟩
  clear hg5 hS4 hgl4 hiI hib
  go_wp2_with (fail)
  go_loopw [10, 11] (fun tv iv wr => ∃ (k g' y : Nat) (L2 : Int), k ≤ a ∧ tv = .slice (some ⟨g', 0, none⟩) N N ∧ iv = .int .i64 k ∧ w.heap.size ≤ g' ∧ g' ≠ g ∧ below y N ∧ Own wr w.heap.size 4 1 encB (.slice (some ⟨g', 0, none⟩) N N) (boolsN y N) ∧ Own wr w.heap.size 4 1 encB (.slice (some ⟨g, 0, none⟩) N N) (boolsN 0 N) ∧ Blk wr gn 54 (nodeC 5 st A n c a ma) ∧ Blk wr gw 164 (wkrC q L2) ∧ Turn gw (gw + 1) w wr ∧ Hid (L2 ≤ L - 1 ∧ 0 ≤ L2 + K ∧ (0 ≤ L2 → y = Mt.im q.size (Mt.riter T k) (2 ^ i)))) (fun _ iv _ => a - (intOf iv).toNat)
  case atStart => exact ⟨0, g2, 2 ^ i, L - 1, by omega, rfl, rfl, hg2w, hg2g, hp0, hS5, hS3, h1, hW3, hT1, hr0⟩
  case round =>
    clear hS5 hS3 h1 hW3 hT1 hr0 hp0 hg2w hg2g hg2n
    obtain ⟨k, g', y, L2, hk, rfl, rfl, hgw', hgne, hy, hS, hS3, h1, hW, hT, Hr2⟩ := hrel
    have c5 : wr.cell? ⟨gn, 5, none⟩ = some (.slice A n c) := h1.cellv (i := 5) rfl
    have c6 : wr.cell? ⟨gn, 6, none⟩ = some (.int .i64 (a : Int)) := h1.cellv (i := 6) rfl
    have cL : wr.cell? ⟨gw, 1, none⟩ = some (.int .i64 L2) := hW.cellv (i := 1) rfl
    have hkb : k < 1099511628000 := by omega
    go_upto_region 30 with (fail)
    go_cut [144] from 134 to 145 (fun v wx => wx = wr ∧ v = .bool (decide (k < a) && decide (0 ≤ L2)))
    case first =>
      by_cases e : k < a
      · have eI : (k : Int) < a := by omega
        obtain ⟨v, hv0⟩ : ∃ v, decide (0 ≤ L2) = v := ⟨_, rfl⟩
        have hv := Lib.hid (show (decide (k < a) && decide (0 ≤ L2)) = v by rw [decide_eq_true e, Bool.true_and, hv0])
        clear e
        go_wp2_with (fail)
        go_meet
        exact ⟨rfl, congrArg Value.bool hv.out.symm⟩
      · have eI : ¬ (k : Int) < a := by omega
        have hv := Lib.hid (show (decide (k < a) && decide (0 ≤ L2)) = false by rw [decide_eq_false e, Bool.false_and])
        clear e
        go_wp2_with (fail)
        go_meet
        exact ⟨rfl, congrArg Value.bool hv.out.symm⟩
    obtain ⟨hwc, rfl⟩ := hcut
    subst hwc
    obtain ⟨co, hco⟩ : ∃ co, (decide (k < a) && decide (0 ≤ L2)) = co := ⟨_, rfl⟩
    rw [hco]
    have Hco := Lib.hid hco
    clear hco
    cases co with
    | true =>
      have hka : k < a ∧ 0 ≤ L2 := by have := Hco.out; simpa using this
      obtain ⟨kd', st', A', n', c', mi', ma', ba, off, hA, hrow, hall⟩ := Hsub.out wc hT
      have kc := hall w.heap.size g' N y L2 hS hy hW hka.2 Hr2.out.1
      have hn0 : (0 : Nat) < n := by rw [Hn1.out]; omega
      have hrw : Mt.im q.size T (Mt.im q.size (Mt.riter T k) (2 ^ i)) = Mt.im q.size (Mt.riter T (k + 1)) (2 ^ i) := Mt.im_comp (Mt.inR_riter HTin.out k) HTin.out Hxq.out
      have Hka := Lib.hid hka
      have Hrw := Lib.hid hrw
      subst hA
      clear hall hka hrw c6 cL
      go_wp2_with (first | (refine wl_load_node_at rfl _ rfl _ _ rfl _ _ _ _ _ _ _ hrow ?_) | (go_at_call 105; refine kc.mono ?_; rintro e w5 ⟨g5, y5, L5, rfl, hg5, hS5, hy5, hT5, hW5, Hr5⟩))
      have hsz := hT.size
      have hgl4 := (hS3.lt g rfl).2
      have hgnl := h1.lt
      obtain ⟨hka, hL0⟩ := Hka.out
      refine ⟨⟨k + 1, g5, y5, L5, by omega, rfl, rfl, by omega, by omega, hy5, hS5.mono hsz, own_turn hS3 hT5 (by omega), blk_turn h1 hT5 (by omega), hW5, hT.trans hT5, Lib.hid ?_⟩, by simp only [intOf]; omega⟩
      obtain ⟨r1, r2, r3⟩ := Hr2.out
      obtain ⟨s1, s2, s3, s4⟩ := Hr5.out
      exact ⟨by omega, s2 hL0, fun h => by rw [s4 h, r3 hL0, Hrw.out]⟩
    | false =>
      have hr3 : Hid (L2 ≤ L - 1 ∧ 0 ≤ L2 + K ∧ (0 ≤ L2 → y = Mt.im q.size (Mt.riter T a) (2 ^ i) ∧ y = Mt.im q.size (Mt.span T a a) (2 ^ i))) := by
        obtain ⟨r1, r2, r3⟩ := Hr2.out
        refine Lib.hid ⟨r1, r2, fun h => ?_⟩
        have hne := Hco.out
        rw [decide_eq_true h, Bool.and_true, decide_eq_false_iff_not] at hne
        obtain rfl : k = a := by omega
        rw [Mt.im_span_one]
        exact ⟨r3 h, r3 h⟩
      have hgl4 := (hS3.lt g rfl).2
      have hgnl := h1.lt
      clear Hco Hr2 cL c5
      go_upto_region 34 with (go_at_call 106; refine (join8_any w.heap.size w.heap.size g g' N N N 0 y hl40 (below_zero _) hy (by omega) _ hS3 hS).mono ?_; rintro e w6 ⟨rfl, hS6, hT6⟩)
      rw [Nat.zero_or] at hS6
      replace hS := own_turn hS hT6 (by omega)
      replace h1 := blk_turn h1 hT6 (by omega)
      replace hW := blk_turn hW hT6 (by omega)
      replace hT := hT.above hT6 hgw
      have c6' : w6.cell? ⟨gn, 6, none⟩ = some (.int .i64 (a : Int)) := h1.cellv (i := 6) rfl
      clear hS3 hT6 c6 hgl4 hgnl hk hkb
      go_wp2_with (fail)
      go_loopw [10, 12] (fun tv iv wr => ∃ (b g' y z : Nat) (L2 : Int), a ≤ b ∧ b ≤ a + N ∧ Hid (ma = -1 ∨ (b : Int) ≤ ma) ∧ tv = .slice (some ⟨g', 0, none⟩) N N ∧ iv = .int .i64 b ∧ w.heap.size ≤ g' ∧ g' ≠ g ∧ below y N ∧ below z N ∧ Own wr w.heap.size 4 1 encB (.slice (some ⟨g', 0, none⟩) N N) (boolsN y N) ∧ Own wr w.heap.size 4 1 encB (.slice (some ⟨g, 0, none⟩) N N) (boolsN z N) ∧ Blk wr gn 54 (nodeC 5 st A n c a ma) ∧ Blk wr gw 164 (wkrC q L2) ∧ Turn gw (gw + 1) w wr ∧ Hid (L2 ≤ L - 1 ∧ 0 ≤ L2 + K ∧ (0 ≤ L2 → y = Mt.im q.size (Mt.riter T b) (2 ^ i) ∧ z = Mt.im q.size (Mt.span T a b) (2 ^ i)))) (fun _ iv _ => a + N - (intOf iv).toNat)
      case atStart => exact ⟨a, g', y, y, L2, Nat.le_refl _, by omega, Hm0, rfl, rfl, hgw', hgne, hy, hy, hS, hS6, h1, hW, hT, hr3⟩
      case round =>
        clear hS hS6 h1 hW hT hr3 c6' hgw' hgne hy
        obtain ⟨b, g', y, z, L2, hab', hbN, Hmb, rfl, rfl, hgw', hgne, hy, hz, hS, hS6, h1, hW, hT, Hr2⟩ := hrel
        have c5 : wr.cell? ⟨gn, 5, none⟩ = some (.slice A n c) := h1.cellv (i := 5) rfl
        have c6 : wr.cell? ⟨gn, 6, none⟩ = some (.int .i64 (a : Int)) := h1.cellv (i := 6) rfl
        have c7 : wr.cell? ⟨gn, 7, none⟩ = some (.int .i64 ma) := h1.cellv (i := 7) rfl
        have cL : wr.cell? ⟨gw, 1, none⟩ = some (.int .i64 L2) := hW.cellv (i := 1) rfl
        have cq : wr.cell? ⟨gw, 0, none⟩ = some (.string q) := hW.cellv (i := 0) rfl
        have hbb : b < 1099511628000 := by omega
        go_upto_region 35 with (fail)
        go_cut [182] from 159 to 183 (fun v wx => Below wr.heap.size wr wx ∧ v = .bool ((decide ((b : Int) ≠ ma) && decide (b < a + N)) && decide (0 ≤ L2)))
        case first =>
          have Hall := Lib.hid (And.intro hS (And.intro hS6 (And.intro h1 (And.intro hW hT))))
          clear hS hS6 h1 hW hT
          by_cases e1 : (b : Int) = ma
          · have eI : ((b : Int) != ma) = false := by simpa using e1
            have hv := Lib.hid (show ((decide ((b : Int) ≠ ma) && decide (b < a + N)) && decide (0 ≤ L2)) = false by simp [e1])
            clear e1 hab' hbN hbb
            go_big_region
            go_wp2_with (fail)
            go_meet
            exact ⟨(Below.refl _ _).drew, congrArg Value.bool hv.out.symm⟩
          · have eI : ((b : Int) != ma) = true := by simpa using e1
            by_cases e2 : b < a + N
            · have eJ : (b : Int) < (a : Int) + (q.size : Int) + 1 := by have := HNq.out; omega
              by_cases e3 : 0 ≤ L2
              · have hv := Lib.hid (show ((decide ((b : Int) ≠ ma) && decide (b < a + N)) && decide (0 ≤ L2)) = true by simp [e1, e2, e3])
                clear e1 e2
                go_big_region
                go_wp2_with (fail)
                go_meet
                exact ⟨(Below.refl _ _).drew, congrArg Value.bool hv.out.symm⟩
              · have hv := Lib.hid (show ((decide ((b : Int) ≠ ma) && decide (b < a + N)) && decide (0 ≤ L2)) = false by simp [e3])
                clear e1 e2
                go_big_region
                go_wp2_with (fail)
                go_meet
                exact ⟨(Below.refl _ _).drew, congrArg Value.bool hv.out.symm⟩
            · have eJ : ¬ (b : Int) < (a : Int) + (q.size : Int) + 1 := by have := HNq.out; omega
              have hv := Lib.hid (show ((decide ((b : Int) ≠ ma) && decide (b < a + N)) && decide (0 ≤ L2)) = false by simp [e2])
              clear e1 e2
              go_big_region
              go_wp2_with (fail)
              go_meet
              exact ⟨(Below.refl _ _).drew, congrArg Value.bool hv.out.symm⟩
        obtain ⟨hBc, rfl⟩ := hcut
        obtain ⟨co, hco⟩ : ∃ co, ((decide ((b : Int) ≠ ma) && decide (b < a + N)) && decide (0 ≤ L2)) = co := ⟨_, rfl⟩
        rw [hco]
        have Hco := Lib.hid hco
        replace hS := hS.then_ hBc
        replace hS6 := hS6.then_ hBc
        replace h1 := blk_then h1 hBc
        replace hW := blk_then hW hBc
        replace hT := hT.then_ hBc
        clear hco hBc c5 c6 c7 cL cq
        cases co with
        | true =>
          have hka : ((b : Int) ≠ ma ∧ b < a + N) ∧ 0 ≤ L2 := by have := Hco.out; simpa using this
          obtain ⟨kd', st', A', n', c', mi', ma', ba, off, hA, hrow, hall⟩ := Hsub.out wc hT
          have kc := hall w.heap.size g' N y L2 hS hy hW hka.2 Hr2.out.1
          have hn0 : (0 : Nat) < n := by rw [Hn1.out]; omega
          have hrw : Mt.im q.size T (Mt.im q.size (Mt.riter T b) (2 ^ i)) = Mt.im q.size (Mt.riter T (b + 1)) (2 ^ i) := Mt.im_comp (Mt.inR_riter HTin.out b) HTin.out Hxq.out
          have Hka := Lib.hid hka
          have Hrw := Lib.hid hrw
          have c5 : wc.cell? ⟨gn, 5, none⟩ = some (.slice A n c) := h1.cellv (i := 5) rfl
          have hgl4 := (hS6.lt g rfl).2
          have hgnl := h1.lt
          subst hA
          clear hall hka hrw Hco
          go_wp2_with (first | (refine wl_load_node_at rfl _ rfl _ _ rfl _ _ _ _ _ _ _ hrow ?_) | (go_at_call 105; refine kc.mono ?_; rintro e w5 ⟨g5, y5, L5, rfl, hg5, hS5, hy5, hT5, hW5, Hr5⟩) | (go_at_call 106; refine (join8_any w.heap.size wc.heap.size g g5 N N N z y5 hl40 hz hy5 (by omega) _ (own_turn hS6 hT5 (by omega)) hS5).mono ?_; rintro e w6 ⟨rfl, hS7, hT6⟩))
          have hsz := hT.size
          obtain ⟨⟨hbm, hka⟩, hL0⟩ := Hka.out
          refine ⟨⟨b + 1, g5, y5, z ||| y5, L5, by omega, by omega, Lib.hid (by have := Hmb.out; omega), rfl, rfl, by omega, by omega, hy5, below_or hz hy5, own_turn (hS5.mono hsz) hT6 (by omega), hS7, blk_turn (blk_turn h1 hT5 (by omega)) hT6 (by omega), blk_turn hW5 hT6 (by omega), (hT.trans hT5).above hT6 hgw, Lib.hid ?_⟩, by simp only [intOf]; omega⟩
          obtain ⟨r1, r2, r3⟩ := Hr2.out
          obtain ⟨s1, s2, s3, s4⟩ := Hr5.out
          refine ⟨by omega, s2 hL0, fun h => ?_⟩
          have e1 : y5 = Mt.im q.size (Mt.riter T (b + 1)) (2 ^ i) := by rw [s4 h, (r3 hL0).1, Hrw.out]
          refine ⟨e1, ?_⟩
          rw [e1, (r3 hL0).2]
          exact Mt.im_span HTin.out hab' Hxq.out
        | false =>
          go_wp2_with (fail)
          go_ret
          refine ⟨g, z, L2, rfl, hgw, hS6, hz, hT, hW, Lib.hid ?_⟩
          obtain ⟨r1, r2, r3⟩ := Hr2.out
          have h2 := HLp.out
          refine ⟨r1, fun h => by omega, fun h => by omega, fun h => ?_⟩
          rw [(r3 h).2, HX2.out]
          have hne := Hco.out
          rw [decide_eq_true h, Bool.and_true, Bool.and_eq_false_iff, decide_eq_false_iff_not, decide_eq_false_iff_not] at hne
          have hNq := HNq.out
          have hmb := Hmb.out
          obtain ⟨d, rfl⟩ : ∃ d, b = a + d := ⟨b - a, by omega⟩
          refine Mt.im_turns HTin.out Hxq.out Hm0.out ?_
          rcases hne with hne | hne
          · left
            have : ((a + d : Nat) : Int) = ma := Classical.not_not.1 hne
            omega
          · right
            refine ⟨by omega, ?_⟩
            omega
end Go.Proofs.YtkedgombccdamaaDoor
namespace Go.Proofs.YtkedgombccdamaaDoor
open Go.RowKit Go.Shelf Go.Maps
set_option linter.unusedVariables false
set_option linter.unusedSimpArgs false
attribute [local go_sem] Oper.semAt_some

/-- whether a piece is taken; or that there was too much to do -/
def TkRes (V : Bool) (e : Ending) : Prop := ∃ over, e = .returned (.tuple #[.bool (V && !over), .bool over])
set_option maxRecDepth 100000 in
set_option maxHeartbeats 4000000 in
theorem takes8_any (nd : Nd) (hT : nd.isT = true) (B : Nat) (w : World) (kd : Int) (st : BSet) (A : Option Addr) (n c : Nat) (mi ma : Int) (q : ByteArray) (N : Nat) (hNq : N = q.size + 1) (hN : N ≤ 1000000) (hK : nd.tot (N + 1) ≤ 1000000000000) (hin : NdIn w B nd (nodeC kd st A n c mi ma)) (hB : B ≤ w.heap.size) (V : Bool) (hV : V = true ↔ ∃ i j, i ≤ q.size ∧ Mt.tk q nd i j) :
    Calls Tryd.prog 62 #[.agg (nodeC kd st A n c mi ma), .string q] w fun e w' => TkRes V e ∧ Below w.heap.size w w' := by
  have HV := Lib.hid hV
  clear hV
  have HNq := Lib.hid hNq
  have hone : 1 ≤ N := by omega
  have hqs : q.size < 1099511627776 := by omega
  obtain ⟨K, hKd⟩ : ∃ K, K = nd.tot (N + 1) := ⟨_, rfl⟩
  rw [← hKd] at hK
  have HK := Lib.hid (And.intro hK hKd)
  have hKN : N ≤ K := by have := Nd.tot_ge (N + 1) nd; omega
  have hns : ∀ W, Below w.heap.size w W → NdIn W B nd (nodeC kd st A n c mi ma) := fun W hW => hin.keep (fun j hj => hW.block j (by omega))
  have Hns := Lib.hid hns
  clear hNq hK hKd hns hin
  go_enter Tryd.func62, Tryd.ntmps62
  have h1 := Blk.new w 54 (nodeC kd st A n c mi ma)
  have hB1 : Below w.heap.size w (w.alloc (.cells (nodeC kd st A n c mi ma) 54)) := below_alloc (Below.refl _ _) _
  go_upto_region 1 with (fail)
  obtain ⟨W1, hW1⟩ : ∃ y, y = w.alloc (.cells (nodeC kd st A n c mi ma) 54) := ⟨_, rfl⟩
  rw [← hW1] at h1 hB1 ⊢
  clear hW1
  obtain ⟨gn, hgn⟩ : ∃ y, y = w.heap.size := ⟨_, rfl⟩
  have hgn2 : w.heap.size ≤ gn := by omega
  rw [← hgn] at h1 ⊢
  clear hgn
  have h2 := Blk.new W1 164 (wkrC q 20000)
  have hB2 : Below w.heap.size w (W1.alloc (.cells (wkrC q 20000) 164)) := hB1.alloc hB1.size _
  have hgn1 := h1.lt
  replace h1 := h1.alloc (.cells (wkrC q 20000) 164)
  go_upto_region 2 with (fail)
  have hgnl : gn < W1.heap.size := hgn1
  obtain ⟨gw, hgw⟩ : ∃ y, y = W1.heap.size := ⟨_, rfl⟩
  obtain ⟨W2, hW2⟩ : ∃ y, y = W1.alloc (.cells (wkrC q 20000) 164) := ⟨_, rfl⟩
  rw [← hgw] at h2 hgnl
  rw [← hW2] at h1 h2 hB2
  rw [← hgw, show W1.alloc (.cells #[.string q, .int .i64 20000] 164) = W2 from hW2.symm]
  clear hW2 hgw hB1 hgn1
  have hBgw : B ≤ gw := by omega
  have hr0 : Hid ((20000 : Int) ≤ 20000 ∧ 0 ≤ (20000 : Int) + K + (0 : Nat) ∧ (0 ≤ (20000 : Int) → ∀ i j, i < 0 → ¬ Mt.tk q nd i j)) := Lib.hid ⟨by omega, by omega, fun _ i j h => by omega⟩
  go_wp2_with (fail)
  go_loopw [7] (fun iv wr => ∃ (i : Nat) (L : Int), i ≤ N ∧ iv = .int .i64 i ∧ Blk wr gn 54 (nodeC kd st A n c mi ma) ∧ Blk wr gw 164 (wkrC q L) ∧ Below w.heap.size w wr ∧ Hid (L ≤ 20000 ∧ 0 ≤ L + K + i ∧ (0 ≤ L → ∀ i' j, i' < i → ¬ Mt.tk q nd i' j))) (fun iv _ => N - (intOf iv).toNat)
  case atStart => exact ⟨0, 20000, by omega, rfl, h1, h2, hB2, hr0⟩
  case round =>
    clear h1 h2 hB2 hr0
    obtain ⟨i, L, hi, rfl, h1, h2, hB1, Hr⟩ := hrel
    by_cases hin : i < N
    · have hiI : (i : Int) ≤ q.size := by have := HNq.out; omega
      have hib : i < 1099511628000 := by omega
      have kc := ends8_any nd hT B wr _ q N gw i L HNq.out hN (by have := HK.out; omega) (Hns.out wr hB1) hBgw h2 (by have := Hr.out; have := HK.out; omega) (by have := Hr.out; omega) hin
      go_upto_region 6 with (first | (refine wl_load_node rfl _ rfl _ rfl _ _ _ _ _ _ _ h1 ?_) | (go_at_call 85; refine kc.mono ?_; rintro e w5 ⟨g5, y, L5, rfl, hg5, hS5, hy5, hT5, hW5, Hr5⟩))
      have hsz := hB1.size
      have hB5 : Below w.heap.size w w5 := hB1.trans (hT5.below (by omega) hB1.size)
      replace h1 := blk_turn h1 hT5 (by omega)
      have Hc := Lib.hid (own_bits hS5)
      have cL : w5.cell? ⟨gw, 1, none⟩ = some (.int .i64 L5) := hW5.cellv (i := 1) rfl
      have hnew : Hid (L5 ≤ 20000 ∧ 0 ≤ L5 + K + (i + 1 : Nat) ∧ ((0 ≤ L5 → y = 0) → 0 ≤ L5 → ∀ i' j, i' < i + 1 → ¬ Mt.tk q nd i' j)) := by
        obtain ⟨r1, r2, r3⟩ := Hr.out
        obtain ⟨s1, s2, s3, s4⟩ := Hr5.out
        obtain ⟨-, hk⟩ := HK.out
        rw [← hk] at s2
        refine Lib.hid ⟨by omega, ?_, fun hy0 h0 i' j hi' htk => ?_⟩
        · by_cases h : 0 ≤ L
          · have := s2 h; omega
          · have := s3 (by omega); omega
        · by_cases e : i' = i
          · subst e
            have hb : (Mt.im q.size (Mt.tk q nd) (2 ^ i')).testBit j = true := (Mt.im_bit (Mt.tk_in q hT) (below_pow (by have := HNq.out; omega)) j).2 ⟨i', by rw [Nat.testBit_two_pow]; simp, htk⟩
            rw [← s4 h0, hy0 h0] at hb
            simp at hb
          · exact r3 (by omega) i' j (by omega) htk
      have hyes : Hid (0 ≤ L5 → ∀ j, y.testBit j = true → V = true) := by
        obtain ⟨s1, s2, s3, s4⟩ := Hr5.out
        refine Lib.hid fun h0 j hj => ?_
        rw [s4 h0, Mt.im_bit (Mt.tk_in q hT) (below_pow (by have := HNq.out; omega))] at hj
        obtain ⟨i', h1, h2⟩ := hj
        rw [Nat.testBit_two_pow, decide_eq_true_eq] at h1
        subst h1
        exact HV.out.2 ⟨i, j, by have := HNq.out; omega, h2⟩
      clear hS5 kc hT5 Hr Hr5 hsz
      go_wp2_with (fail)
      go_loopw [9] (fun iv wr => ∃ k : Nat, k ≤ N ∧ iv = .int .i64 k ∧ Hid (0 ≤ L5 → ∀ j, j < k → y.testBit j = false) ∧ wr = w5) (fun iv _ => N - (intOf iv).toNat)
      case atStart => exact ⟨0, by omega, rfl, Lib.hid (fun _ j hj => by omega), rfl⟩
      case round =>
        obtain ⟨k, hk, rfl, hno, rfl⟩ := hrel
        by_cases hkl : k < N
        · have hkI : (k : Int) < N := by omega
          have hkb : k < 1099511628000 := by omega
          have cc := Hc.out k hkl
          obtain ⟨b, hb⟩ : ∃ b, y.testBit k = b := ⟨_, rfl⟩
          rw [hb] at cc
          have Hb := Lib.hid hb
          clear hb
          cases b with
          | true =>
            by_cases hL : 0 ≤ L5
            · go_wp2_with (fail)
              go_ret2
              exact ⟨⟨false, by rw [hyes.out hL k Hb.out]; rfl⟩, hB5⟩
            · go_wp2_with (fail)
              exact ⟨⟨k + 1, by omega, rfl, Lib.hid (fun h => absurd h hL), trivial⟩, by simp only [intOf]; omega⟩
          | false =>
            go_wp2_with (fail)
            refine ⟨⟨k + 1, by omega, rfl, Lib.hid (fun h j hj => ?_), trivial⟩, by simp only [intOf]; omega⟩
            by_cases e : j = k
            · rw [e]; exact Hb.out
            · exact hno.out h j (by omega)
        · have hkI : ¬ (k : Int) < N := by omega
          obtain rfl : N = k := by omega
          go_wp2_with (fail)
          refine ⟨⟨i + 1, L5, by omega, rfl, h1, hW5, hB5, Lib.hid ?_⟩, by simp only [intOf]; omega⟩
          obtain ⟨r1, r2, r3⟩ := hnew.out
          refine ⟨r1, r2, r3 fun h0 => ?_⟩
          apply bits_ext
          intro j
          simp only [Nat.zero_testBit, Bool.false_eq_true, iff_false, Bool.not_eq_true]
          by_cases hj : j < N
          · exact hno.out h0 j hj
          · cases hb : y.testBit j with
            | false => rfl
            | true => exact absurd (hy5 j hb) hj
    · have hiI : ¬ (i : Int) ≤ q.size := by have := HNq.out; omega
      obtain rfl : i = N := by omega
      have cL : wr.cell? ⟨gw, 1, none⟩ = some (.int .i64 L) := h2.cellv (i := 1) rfl
      have hVf : Hid (0 ≤ L → V = false) := Lib.hid fun h0 => by
        obtain ⟨r1, r2, r3⟩ := Hr.out
        cases hv : V with
        | false => rfl
        | true =>
          obtain ⟨i', j, h1, h2⟩ := HV.out.1 hv
          exact absurd h2 (r3 h0 i' j (by have := HNq.out; omega))
      by_cases hL : L < 0
      · go_upto_region 11 with (fail)
        go_big_region
        go_wp2_with (fail)
        go_ret2
        exact ⟨⟨true, by simp⟩, hB1.trans (Below.refl _ _).drew⟩
      · go_upto_region 11 with (fail)
        go_big_region
        go_wp2_with (fail)
        go_ret2
        exact ⟨⟨false, by rw [hVf.out (by omega)]; rfl⟩, hB1.trans (Below.refl _ _).drew⟩
end Go.Proofs.YtkedgombccdamaaDoor
namespace Go.Proofs.YtkedgombccdamaaDoor
open Go.RowKit Go.Shelf Go.Maps
set_option linter.unusedVariables false
set_option linter.unusedSimpArgs false
attribute [local go_sem] Oper.semAt_some

theorem chr_of {q : ByteArray} {k : Nat} (h : k < q.size) : Ere.chr q k = (q[k]).toNat := by unfold Ere.chr; rw [dif_pos h]
theorem pre_size {q : ByteArray} {n : Nat} (h : n ≤ q.size) : (q.extract 0 n).size = n := by rw [ByteArray.size_extract]; omega
theorem chr_pre {q : ByteArray} {n j : Nat} (hj : j < n) (hn : n ≤ q.size) : Ere.chr (q.extract 0 n) j = Ere.chr q j := by
  rw [chr_of (by rw [pre_size hn]; exact hj), chr_of (by omega)]
  congr 1
  rw [ByteArray.getElem_extract]
  congr 1
  omega
namespace Mt
section
variable {E : List Edg} {N : Nat} {R : List Nat}
theorem goes_wk (q : ByteArray) : ∀ k, k ≤ q.size → goesW E N R ((bytesL q).take k) (begW E N R) = wkAt E N R q k
  | 0, _ => by rw [List.take_zero]; rfl
  | k + 1, h => by
    rw [bytesL_take q k (by omega), goesW_snoc, goes_wk q k (by omega)]
    show byteW E N R _ _ = byteW E N R _ (Ere.chr q k)
    rw [chr_of (by omega)]
theorem goes_all (q : ByteArray) : goesW E N R (bytesL q) (begW E N R) = wkAt E N R q q.size := by
  rw [← goes_wk q q.size (Nat.le_refl _), List.take_of_length_le (by rw [bytesL_length]; exact Nat.le_refl _)]
theorem wk_pre {q : ByteArray} {n : Nat} (hn : n ≤ q.size) : ∀ k, k ≤ n → wkAt E N R (q.extract 0 n) k = wkAt E N R q k
  | 0, _ => rfl
  | k + 1, h => by
    show byteW E N R _ (Ere.chr (q.extract 0 n) k) = byteW E N R _ (Ere.chr q k)
    rw [wk_pre hn k (by omega), chr_pre (by omega) hn]
end
theorem line_v {F : NF} {N : Nat} (hF : FitsF F N) (q : ByteArray) : endW F.E N F.R (goesW F.E N F.R (bytesL q) (begW F.E N F.R)) = vF q F := by
  rw [goes_all, endW_mV hF.2.one (fun d hd => ⟨hF.2.tt d hd |>.1, hF.2.tt d hd |>.2⟩)]
  unfold vF
  rw [hF.1]
  simp
/-- the end of a walk behind n bytes -/
theorem end_v {F : NF} {N : Nat} (hF : FitsF F N) {q : ByteArray} {n : Nat} (hn : n ≤ q.size) : endW F.E N F.R (wkAt F.E N F.R q n) = vF (q.extract 0 n) F := by
  rw [← line_v hF, goes_all, pre_size hn, wk_pre hn n (Nat.le_refl _)]
end Mt
/-- a tree and its machine, the k-th -/
structure MTk (nd : Nd) (x : MV) (k : Nat) : Prop where
  isT : nd.isT = true
  few : ¬ 2048 ≤ nd.U
  tot : nd.tot 1 ≤ 2049
  F : x.F = ⟨(Mt.mN nd : Nat), Mt.mE nd, Mt.mR nd (7 * k)⟩
theorem MTk.good {nd : Nd} {x : MV} {k : Nat} (h : MTk nd x k) (hk : k < 4) : MGood x := by
  obtain ⟨h1, h2, h3, h4⟩ := m_good h.isT h.few (r := 7 * k) (by omega) h.F
  have h5 : Mt.mN nd ≤ 2100 := by rw [Mt.mN_eq h.isT h.few]; unfold placesN; rw [if_pos h.isT]; have := h.few; omega
  exact ⟨by rw [h2]; exact h1, by omega, h3, h4⟩
theorem MTk.val {nd : Nd} {x : MV} {k : Nat} (h : MTk nd x k) (hk : k < 4) (q : ByteArray) (V : Bool) (hV : V = true ↔ ∃ i j, i ≤ q.size ∧ Mt.tk q nd i j) : Mt.vF q x.F = if V = true then 2 ^ (7 * k) else 0 := by
  have h1 := Mt.meets_plain (q := q) h.isT (7 * k) (fun d hd => ⟨⟨(Mt.layF_edges h.isT d hd).1.1, (Mt.layF_edges h.isT d hd).2.1⟩, (Mt.layF_edges h.isT d hd).1.2.1, (Mt.layF_edges h.isT d hd).2.2⟩) V hV
  unfold Mt.vF
  rw [h.F]
  exact h1
/-- a line over a machine -/
theorem line_mo {x : MV} {N : Nat} (hF : Mt.FitsF x.F N) (hE : x.F.E.length ≤ 16777216) (hN : N ≤ 1048576) (hR : ∀ r ∈ x.F.R, r < 4294967296) (hr : rightF x.F = true) (w : World) (hsE : SliceOf w w.heap.size 7 edgC x.A x.F.E) (hsR : SliceOf w w.heap.size 1 encR x.B x.F.R) (hT : TabOk w) (q : ByteArray) (hq : q.size ≤ 1000) :
    Calls Tryd.prog 48 #[.agg x.C, .string q] w fun e w' => e = .returned (.tuple #[.int .u32 ((Mt.vF q x.F : Nat) : Int), .int .i64 0]) ∧ Below w.heap.size w w' := by
  have hl : x.F.R.length = N := hF.2.rules
  refine (line_any x.F.s x.A x.F.E.length x.c x.B x.F.R.length x.d x.F.E x.F.R q rfl rfl (by omega) (by omega) hR w hsE hsR hT (by omega)).mono ?_
  rintro e w' ⟨hb, ⟨h1, -⟩ | ⟨-, rfl⟩⟩
  · unfold rightF at hr
    rw [hr] at h1
    cases h1
  · rw [hl, Mt.line_v hF]
    exact ⟨rfl, hb⟩
theorem begin_mo {x : MV} {N : Nat} (hF : Mt.FitsF x.F N) (hE : x.F.E.length ≤ 16777216) (hN : N ≤ 1048576) (hR : ∀ r ∈ x.F.R, r < 4294967296) (hr : rightF x.F = true) (w : World) (hsE : SliceOf w w.heap.size 7 edgC x.A x.F.E) (hsR : SliceOf w w.heap.size 1 encR x.B x.F.R) (hT : TabOk w) :
    Calls Tryd.prog 50 #[.agg x.C] w fun e w' => (∃ gw gm lo nb, e = .returned (.tuple #[.pointer (some ⟨gw, 0, none⟩), .int .i64 0]) ∧ w.heap.size ≤ gw ∧ WalkOk lo nb w' gw gm N x.F.E x.F.R (begW x.F.E N x.F.R)) ∧ Below w.heap.size w w' := by
  have hl : x.F.R.length = N := hF.2.rules
  refine (s_begin_any x.F.s x.A x.F.E.length x.c x.B x.F.R.length x.d x.F.E x.F.R rfl rfl (by omega) (by omega) hR w hsE hsR hT).mono ?_
  rintro e w' ⟨hb, ⟨h1, -⟩ | ⟨-, gw, gm, lo, nb, rfl, h2, h3, h4⟩⟩
  · unfold rightF at hr
    rw [hr] at h1
    cases h1
  · rw [hl] at h4
    exact ⟨⟨gw, gm, lo, nb, rfl, h3, h4⟩, hb⟩
end Go.Proofs.YtkedgombccdamaaDoor
namespace Go.Proofs.YtkedgombccdamaaDoor
open Go.RowKit
set_option linter.unusedVariables false
set_option linter.unusedSimpArgs false
set_option linter.unnecessarySimpa false
/-- the operations of D wait for i0, one through another -/
def waitsB (ops : Array Oper) (i0 : Nat) (D : List Nat) : Bool := D.all fun j => j == i0 || (match ops[j]? with | some o => o.after.any fun e => Region.binds .any e && (D.contains e.on && decide (e.on < j)) | none => false)
section
variable {G : Type} {i0 : Nat}
/-- there is some g -/
def exS (S : G → Nat → GSpec) (i0 : Nat) : GSpec := ⟨fun v w => ∃ g, (S g i0).p v w, fun v w w' ⟨g, h⟩ hb => ⟨g, (S g i0).st v w w' h hb⟩⟩
/-- what an operation's step shows -/
def ghoS (S : G → Nat → GSpec) (i0 : Nat) (g : G) (k : Nat) : GSpec := cond (Nat.beq k i0) (exS S i0) (S g k)
theorem getD_set_sameE {l : Array Bool} {i : Nat} (h : i < l.size) : (l.setIfInBounds i true).getD i false = true := by simp [h]
structure GInvE (i0 : Nat) (ops : Array Oper) (n : Nat) (S : G → Nat → GSpec) (a0 : Act) (W0 : World) (listed : Array Bool) (a : Act) (w : World) : Prop where
  head : HeadInv .any ops n listed
  base : GBase ops n a0 a
  below : Below W0.heap.size W0 w
  done : ∃ g, ∀ j, j < n → listed.getD j false = true → opOk ops (S g) a w j
  deps : ∀ j o, j < n → ops[j]? = some o → listed.getD j false = true → ∀ e ∈ o.after, Region.binds .any e = true → listed.getD e.on false = true
theorem waits_listed {ops : Array Oper} {n : Nat} {D : List Nat} {listed : Array Bool} (hD : waitsB ops i0 D = true) (hn : n ≤ ops.size)
    (deps : ∀ j o, j < n → ops[j]? = some o → listed.getD j false = true → ∀ e ∈ o.after, Region.binds .any e = true → listed.getD e.on false = true) : ∀ j, j < n → D.contains j = true → listed.getD j false = true → listed.getD i0 false = true := by
  intro j
  induction j using Nat.strongRecOn with
  | _ j ih =>
  intro hj hm hl
  unfold waitsB at hD
  have h1 := List.all_eq_true.1 hD j (by simpa [List.contains_eq_mem] using hm)
  rw [Bool.or_eq_true] at h1
  rcases h1 with h1 | h1
  · rw [beq_iff_eq] at h1
    rw [← h1]; exact hl
  · cases ho : ops[j]? with
    | none => rw [ho] at h1; cases h1
    | some o =>
      rw [ho] at h1
      simp only [Array.any_eq_true, Bool.and_eq_true, decide_eq_true_eq] at h1
      obtain ⟨q, hq, h2, h3, h4⟩ := h1
      exact ih _ h4 (by omega) h3 (deps j o hj ho hl _ (Array.getElem_mem hq) h2)
theorem wpAny_growE {P : Program} {ops : Array Oper} {n : Nat} {D : List Nat} {S : G → Nat → GSpec} (hD : waitsB ops i0 D = true) (hind : ∀ g g' j, D.contains j = false → S g j = S g' j) {Q : Exit → Act → World → Prop} {a0 : Act} {W0 : World} (hB : growB ops n a0.tmps.size = true)
    (hstep : ∀ i o, i < n → ops[i]? = some o → ∀ g a w, GBase ops n a0 a → Below W0.heap.size W0 w → (∀ e ∈ o.after, Region.binds .any e = true → opOk ops (S g) a w e.on) → GStep P ops (ghoS S i0 g) Q i o a w)
    (hend : ∀ g a w, GBase ops n a0 a → Below W0.heap.size W0 w → (∀ j, j < n → opOk ops (S g) a w j) → wpList P ops Q (ops.toList.drop n) a w) :
    ∀ (m : Nat) (listed : Array Bool) (a : Act) (w : World), GInvE i0 ops n S a0 W0 listed a w → unl n listed = m → wpAny P .any ops Q (m + (ops.size - n)) listed a w := by
  simp only [growB, Bool.and_eq_true, Bool.or_eq_true, decide_eq_true_eq] at hB
  obtain ⟨⟨⟨⟨⟨hn, hdup⟩, hlt⟩, hedge⟩, htail⟩, hseq⟩ := hB
  have hedge' : ∀ i o, i < n → ops[i]? = some o → ∀ e ∈ o.after, Region.binds .any e = true → e.on < i := by
    intro i o hi ho e he hb
    have h1 := List.all_eq_true.1 hedge i (List.mem_range.2 hi)
    simp only [ho] at h1
    have h2 := (Array.all_eq_true_iff_forall_mem.1 h1) e he
    simpa [hb] using h2
  have hready : ∀ (listed : Array Bool) (a : Act) (w : World), GInvE i0 ops n S a0 W0 listed a w → 0 < unl n listed → ∀ j ∈ Region.ready .any ops listed, j < n := by
    intro listed a w inv hpos j hj
    rcases htail with he | ⟨hs, hc⟩
    · obtain ⟨_, o, ho, _⟩ := mem_ready.1 hj
      have := (Array.getElem?_eq_some_iff.1 ho).1
      omega
    · rcases Nat.lt_or_ge n ops.size with hlt' | hge
      · unfold unl at hpos
        obtain ⟨i, hi⟩ := List.exists_mem_of_length_pos hpos
        simp only [List.mem_filter, List.mem_range, Bool.not_eq_true'] at hi
        have hun : listed.getD i true = false := getD_in (by rw [inv.head.size]; omega) hi.2
        rcases Nat.lt_or_ge j n with h | h
        · exact h
        · exact absurd hj (tail_waits hs hc hlt' inv.head _ i rfl hi.1 hun j h)
      · obtain ⟨_, o, ho, _⟩ := mem_ready.1 hj
        have := (Array.getElem?_eq_some_iff.1 ho).1
        omega
  have hne : ∀ (listed : Array Bool) (a : Act) (w : World), GInvE i0 ops n S a0 W0 listed a w → 0 < unl n listed → Region.ready .any ops listed ≠ [] := by
    intro listed a w inv hpos hnil
    have hex : ∃ i, i < n ∧ listed.getD i false = false := by
      unfold unl at hpos
      obtain ⟨i, hi⟩ := List.exists_mem_of_length_pos hpos
      simp only [List.mem_filter, List.mem_range, Bool.not_eq_true'] at hi
      exact ⟨i, hi.1, hi.2⟩
    have hmin : ∃ i, i < n ∧ listed.getD i false = false ∧ ∀ k, k < i → listed.getD k false = true := by
      obtain ⟨i, hi, hf⟩ := hex
      clear hpos
      induction i using Nat.strongRecOn with
      | _ i ih =>
        by_cases h : ∃ k, k < i ∧ listed.getD k false = false
        · obtain ⟨k, hk, hkf⟩ := h
          exact ih k hk (by omega) hkf
        · refine ⟨i, hi, hf, fun k hk => ?_⟩
          cases hc : listed.getD k false with
          | true => rfl
          | false => exact absurd ⟨k, hk, hc⟩ h
    obtain ⟨i, hi, hf, hall⟩ := hmin
    have ho : ops[i]? = some ops[i] := Array.getElem?_eq_getElem (by omega)
    have hmem : i ∈ Region.ready .any ops listed := mem_ready.2 ⟨getD_in (by rw [inv.head.size]; omega) hf, _, ho, fun e he hb => hall _ (hedge' i _ hi ho e he hb)⟩
    rw [hnil] at hmem
    cases hmem
  intro m
  induction m with
  | zero =>
    intro listed a w inv hm
    have hall : ∀ j, j < n → listed.getD j false = true := by
      intro j hj
      cases hc : listed.getD j false with
      | true => rfl
      | false => have := unl_pos hj hc; omega
    have hlist : listed = headTrue n (ops.size - n) := by
      have hsz := inv.head.size
      apply Array.ext
      · simp [headTrue, hsz]; omega
      · intro j h1 h2
        have hj : j < ops.size := by rw [← hsz]; exact h1
        simp only [headTrue, List.getElem_toArray, List.getElem_append, List.length_replicate, List.getElem_replicate]
        by_cases hjn : j < n
        · have := hall j hjn
          simp [h1] at this
          simp [hjn, this]
        · have := inv.head.tail j (by omega) hj
          simp [h1] at this
          simp [hjn, this]
    obtain ⟨g, hdone⟩ := inv.done
    have hw := hend g a w inv.base inv.below (fun j hj => hdone j hj (hall j hj))
    have hdl : (ops.toList.drop n).length = ops.size - n := by simp
    have := wpAny_of_seq (md := .any) (Q' := Q) (ops.toList.drop n) n listed a w (fun j => by simp [List.getElem?_drop]) (by rw [hdl, hlist]; exact hseq) hw
    rw [hdl] at this
    rw [Nat.zero_add]
    exact this
  | succ m ih =>
    intro listed a w inv hm
    rw [show m + 1 + (ops.size - n) = (m + (ops.size - n)) + 1 by omega]
    refine ⟨fun h => absurd h (hne listed a w inv (by omega)), fun i hi => ?_⟩
    have hin := hready listed a w inv (by omega) i hi
    obtain ⟨hun, o, ho, hall⟩ := mem_ready.1 hi
    have hlisted : listed.getD i false = false := getD_both hun
    obtain ⟨g, hdone⟩ := inv.done
    have hg := hstep i o hin ho g a w inv.base inv.below (fun e he hb => hdone e.on (by have := hedge' i o hin ho e he hb; omega) (hall e he hb))
    have hsz : i < listed.size := by rw [inv.head.size]; omega
    have hnext : ∀ a' w', GK (ghoS S i0 g) i o a w a' w' → wpAny P .any ops Q (m + (ops.size - n)) (listed.setIfInBounds i true) a' w' := by
      rintro a' w' ⟨v, rfl, hb, hp⟩
      obtain ⟨g2, hp2, hsame⟩ : ∃ g2, (S g2 i).p v w' ∧ ∀ j, j < n → listed.getD j false = true → S g2 j = S g j := by
        by_cases hi0 : i = i0
        · subst hi0
          unfold ghoS at hp
          rw [show Nat.beq i i = true from Nat.beq_refl i] at hp
          obtain ⟨g2, hp⟩ := hp
          refine ⟨g2, hp, fun j hj hl => hind g2 g j ?_⟩
          cases hc : D.contains j with
          | false => rfl
          | true =>
            have := waits_listed hD hn inv.deps j hj hc hl
            rw [hlisted] at this
            cases this
        · have hb0 : Nat.beq i i0 = false := by
            cases h : Nat.beq i i0 with
            | false => rfl
            | true => exact absurd (Nat.eq_of_beq_eq_true h) hi0
          unfold ghoS at hp
          rw [hb0] at hp
          exact ⟨g, hp, fun j _ _ => rfl⟩
      refine ih _ _ _ ⟨inv.head.set hi hin, ⟨by rw [put_defers]; exact inv.base.defers, by rw [put_size]; exact inv.base.size, fun t ht => ?_⟩, inv.below.trans (hb.mono inv.below.size), ⟨g2, fun j hj hl d hd => ?_⟩, fun j oj hj hoj hl e he hbd => ?_⟩ (by have := unl_set hin hsz hlisted; omega)
      · cases hd : o.dst with
        | none => exact inv.base.other t ht
        | some d =>
          have hmem : d ∈ headDsts ops n := List.mem_filterMap.2 ⟨o, by
            rw [List.mem_iff_getElem?]
            exact ⟨i, by rw [List.getElem?_take]; simp [hin, ho]⟩, hd⟩
          have hne : d ≠ t := by
            rintro rfl
            rw [List.contains_eq_mem] at ht
            simp [hmem] at ht
          rw [put_getD_ne hne]
          exact inv.base.other t ht
      · by_cases hij : i = j
        · subst hij
          rw [ho] at hd
          simp only [Option.bind_some] at hd
          rw [hd]
          have hmem : d ∈ headDsts ops n := List.mem_filterMap.2 ⟨o, by
            rw [List.mem_iff_getElem?]
            exact ⟨i, by rw [List.getElem?_take]; simp [hin, ho]⟩, hd⟩
          have hdl : d < a.tmps.size := by
            have := List.all_eq_true.1 hlt d hmem
            rw [inv.base.size]; simpa using this
          rw [put_getD_same hdl]
          exact hp2
        · rw [getD_set_ne false hij] at hl
          have hold := hdone j hj hl d hd
          have hkeep : (a.put o.dst v).tmps.getD d undef = a.tmps.getD d undef := by
            cases hod : o.dst with
            | none => rfl
            | some e =>
              apply put_getD_ne
              rintro rfl
              cases hoj : ops[j]? with
              | none => rw [hoj] at hd; cases hd
              | some oj =>
                rw [hoj] at hd
                simp only [Option.bind_some] at hd
                exact hij (noDup_spec _ hdup i j o oj e (by rw [List.getElem?_take]; simp [hin, ho]) (by rw [List.getElem?_take]; simp [hj, hoj]) hod hd)
          rw [hkeep]
          rw [hsame j hj hl]
          exact (S g j).st _ _ _ hold hb
      · by_cases hij : i = j
        · subst hij
          rw [ho] at hoj
          injection hoj with hoj
          subst hoj
          have h5 := hall e he hbd
          by_cases h6 : i = e.on
          · rw [← h6]; exact getD_set_sameE hsz
          · rw [getD_set_ne false h6]; exact h5
        · rw [getD_set_ne false hij] at hl
          have h5 := inv.deps j oj hj hoj hl e he hbd
          by_cases h6 : i = e.on
          · rw [← h6]; exact getD_set_sameE hsz
          · rw [getD_set_ne false h6]; exact h5
    unfold wpOp
    simp only [ho]
    unfold GStep at hg
    split
    · rename_i hw
      rw [if_pos hw] at hg
      exact .inl (Oper.wp_mono hnext hg)
    · rename_i hw
      rw [if_neg hw] at hg
      exact hnext _ _ ⟨undef, rfl, Below.refl _ _, hg⟩

/-- THE LAW. -/
theorem wp_region_growE {P : Program} {id : Nat} {l : List Oper} {Q : Exit → Act → World → Prop} {a : Act} {w : World} (n : Nat) (D : List Nat) (S : G → List GSpec) (g0 : G) (hm : P.follows .mixedOrders = true) (hB : growB l.toArray n a.tmps.size = true) (hD : waitsB l.toArray i0 D = true) (hind : ∀ g g' j, D.contains j = false → specAt (S g) j = specAt (S g') j)
    (hstep : ∀ i o, i < n → l[i]? = some o → ∀ g a' w', GBase l.toArray n a a' → Below w.heap.size w w' → (∀ e ∈ o.after, Region.binds .any e = true → opOk l.toArray (specAt (S g)) a' w' e.on) → GStep P l.toArray (ghoS (fun g => specAt (S g)) i0 g) Q i o a' w')
    (hend : ∀ g (u : Nat → Value) w', Below w.heap.size w w' → (∀ j d, j < n → (l[j]?).bind (·.dst) = some d → (specAt (S g) j).p (u d) w') → wpList P l.toArray Q (l.drop n) (putAll a (headDsts l.toArray n) u) w') :
    (Code.region id l.toArray true).wp P Q a w := by
  refine wp_region_any hm ?_
  have hdr : ∀ {x : World}, Below w.heap.size w x → Below w.heap.size w.drew x := fun h => ⟨h.os, h.tape, h.output, h.size, h.block⟩
  have hrd : ∀ {x : World}, Below w.heap.size w.drew x → Below w.heap.size w x := fun h => ⟨h.os, h.tape, h.output, h.size, h.block⟩
  have hn : n ≤ l.length := by
    simp only [growB, Bool.and_eq_true, decide_eq_true_eq] at hB
    simpa using hB.1.1.1.1.1
  have key := wpAny_growE (i0 := i0) (P := P) (ops := l.toArray) (n := n) (D := D) (S := fun g => specAt (S g)) hD hind (Q := Q) (a0 := a) (W0 := w.drew) hB
    (fun i o hi ho g a' w' hb hw hd => hstep i o hi (by simpa using ho) g a' w' hb (hrd hw) hd)
    (fun g a' w' hb hw hd => by
      rw [act_eq hb]
      have := hend g (fun d => a'.tmps.getD d undef) w' (hrd hw) (fun j d hj hd' => hd j hj d (by simpa using hd'))
      simpa using this)
    n (Array.replicate l.toArray.size false) a w.drew
    ⟨⟨by simp, fun j oj _ hl => (by rw [getD_replicate_false] at hl; cases hl), fun t _ ht => getD_in (by simpa using ht) (getD_replicate_false _ _)⟩, ⟨rfl, rfl, fun _ _ => rfl⟩, Below.refl _ _, ⟨g0, fun j _ hl => (by rw [getD_replicate_false] at hl; cases hl)⟩, fun j _ _ _ hl => (by rw [getD_replicate_false] at hl; cases hl)⟩
    (by
      unfold unl
      rw [List.filter_eq_self.2 (fun j _ => by rw [getD_replicate_false]; rfl), List.length_range])
  rw [show n + (l.toArray.size - n) = l.toArray.size by simp; omega] at key
  exact key

/-- the steps, one behind the other -/
def StepsE (i0 : Nat) (P : Program) (ops : Array Oper) (S : G → Nat → GSpec) (Q : Exit → Act → World → Prop) (n : Nat) (a : Act) (w : World) : List Oper → Nat → Prop
  | [], _ => True
  | o :: l, i => (∀ g a' w', GBase ops n a a' → Below w.heap.size w w' → (∀ j, (o.after.toList.any fun e => Region.binds .any e && e.on == j) = true → opOk ops (S g) a' w' j) → GStep P ops (ghoS S i0 g) Q i o a' w') ∧ StepsE i0 P ops S Q n a w l (i + 1)
theorem StepsE.nil {P : Program} {ops : Array Oper} {S : G → Nat → GSpec} {Q : Exit → Act → World → Prop} {n : Nat} {a : Act} {w : World} {i : Nat} : StepsE i0 P ops S Q n a w [] i := trivial
theorem StepsE.cons {P : Program} {ops : Array Oper} {S : G → Nat → GSpec} {Q : Exit → Act → World → Prop} {n : Nat} {a : Act} {w : World} {o : Oper} {l : List Oper} {i : Nat}
    (h : ∀ g a' w', GBase ops n a a' → Below w.heap.size w w' → (∀ j, (o.after.toList.any fun e => Region.binds .any e && e.on == j) = true → opOk ops (S g) a' w' j) → GStep P ops (ghoS S i0 g) Q i o a' w')
    (hl : StepsE i0 P ops S Q n a w l (i + 1)) : StepsE i0 P ops S Q n a w (o :: l) i := ⟨h, hl⟩
theorem StepsE.at_ {P : Program} {ops : Array Oper} {S : G → Nat → GSpec} {Q : Exit → Act → World → Prop} {n : Nat} {a : Act} {w : World} : ∀ {l : List Oper} {i : Nat}, StepsE i0 P ops S Q n a w l i → ∀ (k : Nat) (o : Oper), l[k]? = some o →
    ∀ g a' w', GBase ops n a a' → Below w.heap.size w w' → (∀ j, (o.after.toList.any fun e => Region.binds .any e && e.on == j) = true → opOk ops (S g) a' w' j) → GStep P ops (ghoS S i0 g) Q (i + k) o a' w'
  | [], _, _, k, o, hk => by simp at hk
  | o' :: l, i, h, k, o, hk => by
    rcases k with _ | k
    · simp only [List.getElem?_cons_zero, Option.some.injEq] at hk
      subst hk
      exact h.1
    · rw [List.getElem?_cons_succ] at hk
      have := StepsE.at_ h.2 k o hk
      rw [show i + (k + 1) = i + 1 + k by omega]
      exact this
/-- THE LAW, as it is used: S the answers (by g), i0 the operation that tells g, D what waits for it, ds the head's slots. -/
theorem wp_region_stepsE {P : Program} {id : Nat} {l : List Oper} {Q : Exit → Act → World → Prop} {a : Act} {w : World} (n i0 : Nat) (D : List Nat) (S : G → List GSpec) (g0 : G) (ds : List Nat) (hm : P.follows .mixedOrders = true) (hB : growB l.toArray n a.tmps.size = true) (hD : waitsB l.toArray i0 D = true) (hind : ∀ g g' j, D.contains j = false → specAt (S g) j = specAt (S g') j)
    (hds : headDsts l.toArray n = ds) (hstep : StepsE i0 P l.toArray (fun g => specAt (S g)) Q n a w (l.take n) 0)
    (hend : ∀ g (u : Nat → Value) w', Below w.heap.size w w' → (∀ j d, j < n → (l[j]?).bind (·.dst) = some d → (specAt (S g) j).p (u d) w') → wpList P l.toArray Q (l.drop n) (putAll a ds u) w') :
    (Code.region id l.toArray true).wp P Q a w := by
  subst hds
  refine wp_region_growE (i0 := i0) n D S g0 hm hB hD hind (fun i o hi ho g a' w' hb hw hd => ?_) hend
  have := hstep.at_ i o (by rw [List.getElem?_take, if_pos hi]; exact ho) g a' w' hb hw (fun j hj => by
    obtain ⟨e, he, hh⟩ := List.any_eq_true.1 hj
    simp only [Bool.and_eq_true, beq_iff_eq] at hh
    rw [← hh.2]
    exact hd e (Array.mem_toList_iff.1 he) hh.1)
  rw [Nat.zero_add] at this
  exact this
end
end Go.Proofs.YtkedgombccdamaaDoor
namespace Go.Proofs.YtkedgombccdamaaDoor
open Go.RowKit Go.Shelf Go.Maps
set_option linter.unusedVariables false
set_option linter.unusedSimpArgs false
attribute [local go_sem] Oper.semAt_some

theorem enter_takes8 (args : Array Value) (w : World) : (callFunc 62 args).run Tryd.prog w = .ok (.enter 62 args) w := by kernel_rfl
theorem enter_line8 (args : Array Value) (w : World) : (callFunc 48 args).run Tryd.prog w = .ok (.enter 48 args) w := by kernel_rfl
theorem gs_load_mv_at {ops : Array Oper} {S : Nat → GSpec} {Q : Exit → Act → World → Prop} {i : Nat} {o : Oper} {a : Act} {w : World} (hw : Region.wanted o (yielded ops a.tmps) = true) (x : Operand) (ho : o.op = .load 25 x) (b off : Nat) (hx : a.eval x = .pointer (some ⟨b, off, none⟩)) (y : MV) (hr : RowAt w b off y.C)
    (hp : (S i).p (.agg y.C) w) : GStep Tryd.prog ops S Q i o a w :=
  gs_run hw (v := .agg y.C) (by unfold execOp; simp only [ho, hx, Instr.loadAt, Instr.sureAddr, Sem.run_bind, Sem.run_pure, Result.andThen_ok, run_loadVar_at w b off _ _ _ hr Tryd.underlying25 rfl (info_nfaN.trans rfl)]) (Below.refl _ _) hp
theorem gs_load_mv {ops : Array Oper} {S : Nat → GSpec} {Q : Exit → Act → World → Prop} {i : Nat} {o : Oper} {a : Act} {w : World} (hw : Region.wanted o (yielded ops a.tmps) = true) (x : Operand) (ho : o.op = .load 25 x) (g : Nat) (hx : a.eval x = .pointer (some ⟨g, 0, none⟩)) (y : MV) (hg : Blk w g 25 y.C)
    (hp : (S i).p (.agg y.C) w) : GStep Tryd.prog ops S Q i o a w :=
  gs_load hw _ x ho g hx _ _ hg _ Tryd.underlying25 rfl (info_nfaN.trans rfl) hp
theorem gs_str_to {ops : Array Oper} {S : Nat → GSpec} {Q : Exit → Act → World → Prop} {i : Nat} {o : Oper} {a : Act} {w : World} (hw : Region.wanted o (yielded ops a.tmps) = true) (x y : Operand) (ho : o.op = .slice 9 x none (some y) none) (q : ByteArray) (n : Nat) (hx : a.eval x = .string q) (hy : a.eval y = .int .i64 (n : Int)) (hn : n ≤ q.size)
    (hp : (S i).p (.string (q.extract 0 n)) w) : GStep Tryd.prog ops S Q i o a w :=
  gs_run hw (v := .string (q.extract 0 n)) (by
    unfold execOp
    have e := run_slice_string_to_if (P := Tryd.prog) w 9 q .i64 (n : Int) Tryd.underlying9
    rw [if_pos ⟨by omega, by omega⟩, Int.toNat_natCast] at e
    simp only [ho, Option.map_none, Option.map_some, hx, hy, Sem.run_bind, run_sliceAt_string (P := Tryd.prog) w 9 _ _ _ _ Tryd.underlying9, e, Result.andThen_ok, Sem.run_pure]) (Below.refl _ _) hp
theorem gs_extract {ops : Array Oper} {S : Nat → GSpec} {Q : Exit → Act → World → Prop} {i : Nat} {o : Oper} {a : Act} {w : World} (hw : Region.wanted o (yielded ops a.tmps) = true) (x : Operand) (k : Nat) (ho : o.op = .extract x k) (vs : Array Value) (hx : a.eval x = .tuple vs) (u : Value) (hk : vs[k]? = some u)
    (hp : (S i).p u w) : GStep Tryd.prog ops S Q i o a w :=
  gs_run hw (v := u) (by unfold execOp; simp only [ho, hx, Instr.extract, hk, Sem.run_bind, Sem.run_pure, Result.andThen_ok]) (Below.refl _ _) hp
theorem tk_step {P : Program} {f : FuncId} {vs : Array Value} {w : World} {V : Bool} {T : GSpec} (hc : Calls P f vs w fun e w' => TkRes V e ∧ Below w.heap.size w w') (hp : ∀ o w', T.p (.tuple #[.bool (V && !o), .bool o]) w') : Calls P f vs w fun e w' => ∃ v, e = .returned v ∧ Below w.heap.size w w' ∧ T.p v w' :=
  hc.mono fun e w' ⟨⟨o, h1⟩, h2⟩ => ⟨_, h1, h2, hp o _⟩
theorem and_or_self8 (a b : Nat) : (a ||| b) &&& a = a := by
  apply bits_ext
  intro j
  rw [Nat.testBit_and, Nat.testBit_or]
  cases a.testBit j <;> simp
theorem orM_take (l : List Nat) (k : Nat) (h : k < l.length) : Mt.orM (l.take (k + 1)) = Mt.orM (l.take k) ||| l[k] := by
  rw [List.take_succ_eq_append_getElem h, Mt.orM_app]
  simp [Mt.orM]
/-- what a line meets with, by the machines of a list -/
noncomputable def valsM (q : ByteArray) (ms : List MV) : List Nat := ms.map fun x => Mt.vF q x.F
/-- what is handed to meets, in memory -/
structure MeetsIn (B : Nat) (w : World) (A1 : Option Addr) (n1 : Nat) (cl : List (Array Value)) (nds : List Nd) (A2 : Option Addr) (ms : List MV) (u : MV) : Prop where
  l1 : n1 = nds.length
  l2 : cl.length = nds.length
  l3 : ms.length = nds.length
  few : n1 ≤ 4
  s1 : SliceOf w B 8 (fun x => x) A1 cl
  nin : ∀ k (h : k < nds.length) (h2 : k < cl.length), NdIn w B nds[k] cl[k]
  s2 : SliceOf w B 3 MV.C A2 ms
  m : MsIn w B ms
  tm : ∀ k (h : k < nds.length) (h2 : k < ms.length), MTk nds[k] ms[k] k
  uE : SliceOf w B 7 edgC u.A u.F.E
  uR : SliceOf w B 1 encR u.B u.F.R
  uF : u.F = uFold (ms.map MV.F)
  low : B ≤ w.heap.size
theorem MeetsIn.below {B n1 : Nat} {w w' : World} {A1 A2 : Option Addr} {cl : List (Array Value)} {nds : List Nd} {ms : List MV} {u : MV} (h : MeetsIn B w A1 n1 cl nds A2 ms u) (hb : Below B w w') : MeetsIn B w' A1 n1 cl nds A2 ms u :=
  ⟨h.l1, h.l2, h.l3, h.few, h.s1.below hb, fun k h1 h2 => (h.nin k h1 h2).keep fun j hj => hb.block j hj, h.s2.below hb, h.m.low hb, h.tm, h.uE.below hb, h.uR.below hb, h.uF, Nat.le_trans h.low hb.size⟩
set_option maxRecDepth 100000 in
set_option maxHeartbeats 16000000 in
theorem meets8_any (B n1 c1 c2 : Nat) (A1 A2 : Option Addr) (cl : List (Array Value)) (nds : List Nd) (ms : List MV) (u : MV) (q : ByteArray) (hq : q.size ≤ 8) (w : World) (hI : MeetsIn B w A1 n1 cl nds A2 ms u) (hTab : TabOk w) :
    Calls Tryd.prog 24 #[.slice A1 n1 c1, .slice A2 n1 c2, .agg u.C, .string q] w fun e w' => e = .returned (.bool true) ∧ Below w.heap.size w w' := by
  have hlen : ms.length ≤ 12 := by have := hI.l1; have := hI.l3; have := hI.few; omega
  have hG : ∀ x ∈ ms, MGood x := fun x hx => by
    obtain ⟨k, hk, rfl⟩ := List.mem_iff_getElem.1 hx
    exact (hI.tm k (by have := hI.l3; omega) hk).good (by have := hI.l1; have := hI.l3; have := hI.few; omega)
  have hfit := fun q => union_fits q ms hlen hG
  rw [← hI.uF] at hfit
  obtain ⟨N, hN⟩ : ∃ N, N = 1 + sizesM ms := ⟨_, rfl⟩
  rw [← hN] at hfit
  obtain ⟨f1, -, -, f4, f5⟩ := hfit q
  have hNl : N ≤ 1048576 := by omega
  have hright := fits_right7 f1
  have hEl : u.F.E.length ≤ 16777216 := by
    have hb := uFold_bound (ms.map MV.F) (fun F hF => by
      obtain ⟨x, hx, rfl⟩ := List.mem_map.1 hF
      have h1 := (hG x hx).ed
      have h2 := (hG x hx).few
      have h3 := (hG x hx).fit.2.rules
      exact ⟨fits_right7 (hG x hx).fit, by omega, by omega⟩)
    rw [List.length_map, ← hI.uF] at hb
    have := hI.few
    have := hI.l1
    have := hI.l3
    omega
  have hval : ∀ p : ByteArray, Mt.vF p u.F = Mt.orM (valsM p ms) := fun p => (hfit p).2.1
  have hvlt : ∀ p : ByteArray, Mt.vF p u.F < 4294967296 := fun p => by rw [(hfit p).2.1]; exact metM_lt hG p
  have hkb : ∀ W, Below B w W → TabOk W → _ := fun W (hW : Below B w W) (hTW : TabOk W) => begin_mo f1 hEl hNl f4 hright W ((hI.below hW).uE.more (hI.below hW).low) ((hI.below hW).uR.more (hI.below hW).low) hTW
  have hka : ∀ (n : Nat) (W : World), n ≤ q.size → Below B w W → TabOk W → Calls Tryd.prog 48 #[.agg u.C, .string (q.extract 0 n)] W fun e w' => e = .returned (.tuple #[.int .u32 ((Mt.orM (valsM (q.extract 0 n) ms) : Nat) : Int), .int .i64 0]) ∧ Below W.heap.size W w' := fun n W hn hW hTW => by
    have hIW := hI.below hW
    rw [← hval]
    exact line_mo f1 hEl hNl f4 hright W (hIW.uE.more hIW.low) (hIW.uR.more hIW.low) hTW _ (by rw [pre_size hn]; omega)
  have hvE : ∀ n, n ≤ q.size → endW u.F.E N u.F.R (Mt.wkAt u.F.E N u.F.R q n) = Mt.orM (valsM (q.extract 0 n) ms) := fun n hn => by rw [Mt.end_v f1 hn, hval]
  have hvl : ∀ n, Mt.orM (valsM (q.extract 0 n) ms) < 4294967296 := fun n => by rw [← hval]; exact hvlt _
  have hbeg0 : begW u.F.E N u.F.R = Mt.wkAt u.F.E N u.F.R q 0 := rfl
  rw [hbeg0] at hkb
  obtain ⟨E, hE⟩ : ∃ E, u.F.E = E := ⟨_, rfl⟩
  obtain ⟨RR, hRR⟩ : ∃ R, u.F.R = R := ⟨_, rfl⟩
  rw [hE, hRR] at hkb hvE
  have hvE' := Lib.hid hvE
  have hvl' := Lib.hid hvl
  have hka' := Lib.hid hka
  have HI := Lib.hid hI
  have HG := Lib.hid hG
  have hn4 := hI.few
  have hBl := hI.low
  clear hvE hvl hka hI hG hval hvlt hfit f1 f4 f5 hNl hright hEl hbeg0 hN hlen hE hRR
  have Hq := Lib.hid hq
  have hqs : q.size < 1000 := by omega
  clear hq
  go_enter Tryd.func24, Tryd.ntmps24
  have h6 := Blk.new w 25 u.C
  have hB1 : Below w.heap.size w (w.alloc (.cells u.C 25)) := below_alloc (Below.refl _ _) _
  go_upto_region 1 with (fail)
  obtain ⟨W1, hW1⟩ : ∃ y, y = w.alloc (.cells u.C 25) := ⟨_, rfl⟩
  obtain ⟨g6, hg6⟩ : ∃ y, y = w.heap.size := ⟨_, rfl⟩
  rw [← hW1, ← hg6] at h6 ⊢
  rw [← hW1] at hB1
  have hkb1 := hkb W1 (hB1.mono hBl) (hTab.then_ hTab.size hB1)
  clear hW1 hkb hg6
  go_upto_region 2 with (first | (refine wl_load_mv rfl _ rfl g6 rfl u h6 ?_) | (go_at_call 50; refine hkb1.mono ?_; rintro e w2 ⟨⟨gw, gm, lo, nb, rfl, hgw, hW2⟩, hB2⟩))
  replace h6 := blk_then h6 hB2
  have hgwl : w.heap.size ≤ gw := by have := hB1.size; omega
  replace hB1 := below_then hB1 hB2
  have hT2 := hTab.then_ hTab.size hB1
  have hg6gw : g6 ≠ gw := by
    obtain ⟨_, _, _, _, g, c, _, hx, _⟩ := hW2
    exact Blk.ne_ h6 hx (by decide)
  have hmono : Hid (∀ n m, n ≤ m → (Mt.wkAt E N RR q n).met &&& (Mt.wkAt E N RR q m).met = (Mt.wkAt E N RR q n).met) := Lib.hid fun n m h => by
    apply bits_ext
    intro j
    rw [Nat.testBit_and, Bool.and_eq_true]
    exact ⟨fun h => h.1, fun h2 => ⟨h2, Mt.wk_grows E N RR q h j h2⟩⟩
  clear hB2 hkb1 hgw hTab
  go_wp2_with (fail)
  go_loopw [11, 12] (fun wv iv wr => ∃ (n was : Nat), n ≤ q.size + 1 ∧ iv = .int .i64 n ∧ wv = .int .u32 was ∧ Hid (was < 4294967296 ∧ was &&& (Mt.wkAt E N RR q (min n q.size)).met = was) ∧ WalkOk lo nb wr gw gm N E RR (Mt.wkAt E N RR q (min n q.size)) ∧ TabOk wr ∧ Blk wr g6 25 u.C ∧ Below w.heap.size w wr) (fun _ iv _ => q.size + 1 - (intOf iv).toNat)
  case atStart => exact ⟨0, 0, by omega, rfl, rfl, Lib.hid ⟨by omega, by simp⟩, by rw [Nat.zero_min]; exact hW2, hT2, h6, hB1⟩
  case round =>
    clear h6 hB1 hT2 hW2
    obtain ⟨n, was, hn, rfl, rfl, Hwas, hW, hT, h6, hB1⟩ := hrel
    by_cases hnq : n ≤ q.size
    · have hnI : (n : Int) ≤ q.size := by omega
      have hnb : n < 1099511628000 := by omega
      rw [Nat.min_eq_left hnq] at hW Hwas
      have hBB := hB1.mono hBl
      obtain ⟨p, hp⟩ : ∃ p, p = q.extract 0 n := ⟨_, rfl⟩
      have hvE := hvE'.out n hnq
      have hvl := hvl'.out n
      have hka := fun W h1 h2 => hka'.out n W hnq h1 h2
      rw [← hp] at hvE hvl hka
      obtain ⟨vs, hvs⟩ : ∃ l, l = valsM p ms := ⟨_, rfl⟩
      rw [← hvs] at hvE hvl hka
      have hvsl : vs.length = n1 := by rw [hvs]; unfold valsM; rw [List.length_map, HI.out.l3, HI.out.l1]
      have Hp := Lib.hid hp
      have Hvs := Lib.hid hvs
      have HvE := Lib.hid hvE
      have Hvl := Lib.hid hvl
      have Hvsl := Lib.hid hvsl
      have Hka := Lib.hid hka
      clear hp hvs hvE hvl hka hvsl
      go_wp2_with (fail)
      go_loopw [13, 14] (fun wv iv wi => ∃ k : Nat, k ≤ n1 ∧ iv = .int .i64 k ∧ wv = .int .u32 ((Mt.orM (vs.take k) : Nat) : Int) ∧ Below wr.heap.size wr wi) (fun _ iv _ => n1 - (intOf iv).toNat)
      case atStart => exact ⟨0, by omega, rfl, by simp [Mt.orM], Below.refl _ _⟩
      case round =>
        obtain ⟨k, hk, rfl, rfl, hBi⟩ := hrel
        by_cases hkn : k < n1
        · have hknI : (k : Int) < n1 := by omega
          have hkb2 : k < 1099511628000 := by omega
          have hBw := below_then hB1 hBi
          have hIi := HI.out.below (hBw.mono hBl)
          have hTi := hT.then_ hT.size hBi
          have hkl : k < nds.length := by rw [← hIi.l1]; exact hkn
          have hkc : k < cl.length := by rw [hIi.l2]; exact hkl
          have hkm : k < ms.length := by rw [hIi.l3]; exact hkl
          have hnd := hIi.nin k hkl hkc
          have htm := hIi.tm k hkl hkm
          have hGx := HG.out _ (List.getElem_mem hkm)
          obtain ⟨ba, off, rfl, hba, hrows⟩ := hIi.s1.at_ (by omega)
          obtain ⟨bb, of2, rfl, hbb, hrowm⟩ := hIi.s2.at_ (by omega)
          have hrow := hrows k hkc
          have hrx := hrowm k hkm
          have hMx := hIi.m _ (List.getElem_mem hkm)
          have hvk : vs[k]'(by rw [Hvsl.out]; exact hkn) = Mt.vF p ms[k].F := by simp only [Hvs.out, valsM, List.getElem_map]
          obtain ⟨kd, st, A', n', c', mi, ma, hce⟩ : ∃ kd st A' n' c' mi ma, cl[k] = nodeC kd st A' n' c' mi ma := by
            have h := hnd
            obtain ⟨⟨kd', st', l', mi', ma'⟩, hx'⟩ : ∃ x, x = nds[k] := ⟨_, rfl⟩
            rw [← hx'] at h
            obtain ⟨A', n', c', cl', hce, -⟩ := h.inv
            exact ⟨_, _, _, _, _, _, _, hce⟩
          rw [hce] at hnd hrow
          obtain ⟨nd, hndd⟩ : ∃ nd, nd = nds[k] := ⟨_, rfl⟩
          obtain ⟨x, hxd⟩ : ∃ x, x = ms[k] := ⟨_, rfl⟩
          rw [← hndd] at hnd htm
          rw [← hxd] at htm hGx hrx hMx hvk
          have hps : p.size = n := by rw [Hp.out]; exact pre_size hnq
          have hn8 : n ≤ 8 := by have := Hq.out; omega
          obtain ⟨V, hV⟩ : ∃ V : Bool, (V = true ↔ ∃ i j, i ≤ p.size ∧ Mt.tk p nd i j) := by
            by_cases h : ∃ i j, i ≤ p.size ∧ Mt.tk p nd i j
            · exact ⟨true, fun _ => h, fun _ => rfl⟩
            · exact ⟨false, fun h2 => (by cases h2), fun h2 => absurd h2 h⟩
          obtain ⟨one, hone⟩ : ∃ v, v = Mt.vF p x.F := ⟨_, rfl⟩
          have honeV : one = if V = true then 2 ^ (7 * k) else 0 := by rw [hone]; exact htm.val (by omega) p V hV
          have kt : ∀ W, Below wr.heap.size wr W → Calls Tryd.prog 62 #[.agg (nodeC kd st A' n' c' mi ma), .string (q.extract 0 n)] W fun e w' => TkRes V e ∧ Below W.heap.size W w' := fun W hW => by
            have hs := hW.size
            have hs2 := hBw.size
            rw [← Hp.out]
            refine takes8_any nd htm.isT B W kd st A' n' c' mi ma p (p.size + 1) rfl (by omega) ?_ (hnd.keep fun j hj => hW.block j (by omega)) (by omega) V hV
            rw [Nd.tot_mul]
            have h1 : (p.size + 1 + 1) * nd.tot 1 ≤ 10 * 2049 := Nat.mul_le_mul (by omega) htm.tot
            omega
          have kl : ∀ W, Below wr.heap.size wr W → Calls Tryd.prog 48 #[.agg x.C, .string (q.extract 0 n)] W fun e w' => e = .returned (.tuple #[.int .u32 ((one : Nat) : Int), .int .i64 0]) ∧ Below W.heap.size W w' := fun W hW => by
            have hs := hW.size
            have hs2 := hBw.size
            have hBlW : Below B wr W := hW.mono (by omega)
            rw [← Hp.out, hone]
            exact line_mo hGx.fit (by have := hGx.ed; omega) (by have := hGx.few; omega) hGx.lt (fits_right7 hGx.fit) W ((hMx.1.below hBlW).more (by omega)) ((hMx.2.1.below hBlW).more (by omega)) (hTi.then_ hTi.size hW) p (by omega)
          have hbai : ba < wr.heap.size := by have := hBw.size; omega
          have hbbi : bb < wr.heap.size := by have := hBw.size; omega
          have htk : Mt.orM (vs.take (k + 1)) = Mt.orM (vs.take k) ||| one := by rw [orM_take vs k (by rw [Hvsl.out]; exact hkn), hvk, hone]
          have htkl : Mt.orM (vs.take k) < 4294967296 := by
            refine orM_lt fun v hv => ?_
            have := List.mem_of_mem_take hv
            rw [Hvs.out] at this
            obtain ⟨y, hy, rfl⟩ := List.mem_map.1 this
            exact (HG.out y hy).vlt p
          have honel : one < 4294967296 := by rw [hone]; exact hGx.vlt p
          have hor := u32_or_nat (Mt.orM (vs.take k)) one htkl honel
          have Htk := Lib.hid htk
          have HoneV := Lib.hid honeV
          have Hkl := Lib.hid kl
          have Hor := Lib.hid hor
          have Hrx := Lib.hid hrx
          clear hvk htm hGx hMx hIi hTi hrows hrowm hnd hndd hxd hce hba hbb htk htkl honel hone honeV hor hV hkl hkc hkm kl hrx
          go_upto_region 12 with (fail)
          refine wp_region_stepsE 13 7 [7, 8, 9, 10, 11, 12] (fun g : Bool => [eqS (.slice (some ⟨ba, off, none⟩) n1 c1), eqS (.int .i64 (((k : Nat) : Int))), eqS (.pointer (some ⟨ba, off + k * 8, none⟩)), eqS (.agg (nodeC kd st A' n' c' mi ma)), eqS (.string q), eqS (.int .i64 (((n : Nat) : Int))), eqS (.string (q.extract 0 n)), eqS (.tuple #[(.bool (V && !g)), (.bool g)]), eqS (.tuple #[(.bool (V && !g)), (.bool g)]), eqS (.bool (V && !g)), eqS (.bool g), eqS (.bool (V && !g)), eqS (.bool g)]) false [46, 47, 48, 49, 50, 51, 52, 53, 45, 54, 55, 15, 16] follows_mixed (by kernel_rfl) (by kernel_rfl) (fun g g' j hj => by rcases j with _ | _ | _ | _ | _ | _ | _ | _ | _ | _ | _ | _ | _ | j <;> first | rfl | (exact absurd hj (by decide))) (by kernel_rfl) ?_ ?_
          · skip
            refine StepsE.cons (fun g a' w' hG hB dep => gs_move (want_none rfl) _ rfl (id (hG.other 0 rfl))) ?_
            refine StepsE.cons (fun g a' w' hG hB dep => gs_move (want_none rfl) _ rfl (id (hG.other 14 rfl))) ?_
            refine StepsE.cons (fun g a' w' hG hB dep => gs_index (want_none rfl) _ _ _ rfl under_nodes 8 size_nodeE ba off n1 c1 (k) (dep 0 rfl 46 rfl) (dep 1 rfl 47 rfl) hkn rfl) ?_
            refine StepsE.cons (fun g a' w' hG hB dep => gs_load_nd (want_none rfl) _ rfl ba (off + k * 8) (dep 2 rfl 48 rfl) _ ⟨(hrow.keep (hB.block ba hbai)), rfl⟩ rfl) ?_
            refine StepsE.cons (fun g a' w' hG hB dep => gs_move (want_none rfl) _ rfl (id (hG.other 3 rfl))) ?_
            refine StepsE.cons (fun g a' w' hG hB dep => gs_move (want_none rfl) _ rfl (id (hG.other 12 rfl))) ?_
            refine StepsE.cons (fun g a' w' hG hB dep => gs_str_to (want_none rfl) _ _ rfl q n (dep 4 rfl 50 rfl) (dep 5 rfl 51 rfl) hnq rfl) ?_
            refine StepsE.cons (fun g a' w' hG hB dep => gs_call (want_none rfl) _ _ _ rfl enter_takes8 #[(.agg (nodeC kd st A' n' c' mi ma)), (.string (q.extract 0 n))] (map2 (dep 3 rfl 49 rfl) (dep 6 rfl 52 rfl)) (tk_step (kt _ hB) (fun o _ => ⟨o, rfl⟩))) ?_
            refine StepsE.cons (fun g a' w' hG hB dep => gs_move (want_none rfl) _ rfl (id (dep 7 rfl 53 rfl))) ?_
            refine StepsE.cons (fun g a' w' hG hB dep => gs_extract (want_none rfl) _ 0 rfl _ (dep 8 rfl 45 rfl) _ rfl rfl) ?_
            refine StepsE.cons (fun g a' w' hG hB dep => gs_extract (want_none rfl) _ 1 rfl _ (dep 8 rfl 45 rfl) _ rfl rfl) ?_
            refine StepsE.cons (fun g a' w' hG hB dep => gs_assign (want_none rfl) _ rfl (id (dep 9 rfl 54 rfl))) ?_
            refine StepsE.cons (fun g a' w' hG hB dep => gs_assign (want_none rfl) _ rfl (id (dep 10 rfl 55 rfl))) ?_
            exact StepsE.nil
          intro over uu w3 hB3 ans
          have u15 : uu 15 = .bool (V && !over) := ans 11 15 (by decide) rfl
          have u16 : uu 16 = .bool over := ans 12 16 (by decide) rfl
          clear ans
          simp only [putAll, List.foldl_cons, List.foldl_nil, Act.put, List.setIfInBounds_toArray, List.set_cons_zero, List.set_cons_succ, u15, u16]
          clear u15 u16 kt hrow hbai
          simp only [List.drop]
          refine wpList_nil ?_
          cases over with
          | true =>
            go_wp2_with (fail)
            go_ret
            exact ⟨rfl, below_then hBw hB3⟩
          | false =>
            simp only [Bool.not_false, Bool.and_true]
            have kl := fun W hW => Hkl.out W (below_then hB3 hW)
            have hrx := Hrx.out.keep (hB3.block bb hbbi)
            replace hbbi : bb < w3.heap.size := by have := hB3.size; omega
            go_upto_region 15 with (fail)
            refine wp_region_steps 13 [eqS (.slice (some ⟨bb, of2, none⟩) n1 c2), eqS (.int .i64 (((k : Nat) : Int))), eqS (.pointer (some ⟨bb, of2 + k * 3, none⟩)), eqS (.agg x.C), eqS (.string q), eqS (.int .i64 (((n : Nat) : Int))), eqS (.string (q.extract 0 n)), eqS (.tuple #[(.int .u32 (((one : Nat) : Int))), (.int .i64 (0))]), eqS (.tuple #[(.int .u32 (((one : Nat) : Int))), (.int .i64 (0))]), eqS (.int .u32 (((one : Nat) : Int))), eqS (.int .i64 (0)), eqS (.int .u32 (((one : Nat) : Int))), eqS (.int .i64 (0))] [58, 59, 60, 61, 62, 63, 64, 65, 57, 66, 67, 17, 18] follows_mixed (by kernel_rfl) (by kernel_rfl) ?_ ?_
            · skip
              refine Steps.cons (fun a' w' hG hB dep => gs_move (want_none rfl) _ rfl (id (hG.other 1 rfl))) ?_
              refine Steps.cons (fun a' w' hG hB dep => gs_move (want_none rfl) _ rfl (id (hG.other 14 rfl))) ?_
              refine Steps.cons (fun a' w' hG hB dep => gs_index (want_none rfl) _ _ _ rfl under_nfas 3 size_nfaE bb of2 n1 c2 (k) (dep 0 rfl 58 rfl) (dep 1 rfl 59 rfl) hkn rfl) ?_
              refine Steps.cons (fun a' w' hG hB dep => gs_load_mv_at (want_none rfl) _ rfl bb (of2 + k * 3) (dep 2 rfl 60 rfl) _ (hrx.keep (hB.block bb hbbi)) rfl) ?_
              refine Steps.cons (fun a' w' hG hB dep => gs_move (want_none rfl) _ rfl (id (hG.other 3 rfl))) ?_
              refine Steps.cons (fun a' w' hG hB dep => gs_move (want_none rfl) _ rfl (id (hG.other 12 rfl))) ?_
              refine Steps.cons (fun a' w' hG hB dep => gs_str_to (want_none rfl) _ _ rfl q n (dep 4 rfl 62 rfl) (dep 5 rfl 63 rfl) hnq rfl) ?_
              refine Steps.cons (fun a' w' hG hB dep => gs_call (want_none rfl) _ _ _ rfl enter_line8 #[(.agg x.C), (.string (q.extract 0 n))] (map2 (dep 3 rfl 61 rfl) (dep 6 rfl 64 rfl)) (ret_step (kl _ hB) (fun _ => rfl))) ?_
              refine Steps.cons (fun a' w' hG hB dep => gs_move (want_none rfl) _ rfl (id (dep 7 rfl 65 rfl))) ?_
              refine Steps.cons (fun a' w' hG hB dep => gs_extract (want_none rfl) _ 0 rfl _ (dep 8 rfl 57 rfl) _ rfl rfl) ?_
              refine Steps.cons (fun a' w' hG hB dep => gs_extract (want_none rfl) _ 1 rfl _ (dep 8 rfl 57 rfl) _ rfl rfl) ?_
              refine Steps.cons (fun a' w' hG hB dep => gs_assign (want_none rfl) _ rfl (id (dep 9 rfl 66 rfl))) ?_
              refine Steps.cons (fun a' w' hG hB dep => gs_assign (want_none rfl) _ rfl (id (dep 10 rfl 67 rfl))) ?_
              exact Steps.nil
            intro uu w4 hB4 ans
            have u17 : uu 17 = .int .u32 ((one : Nat) : Int) := ans 11 17 (by decide) rfl
            have u18 : uu 18 = .int .i64 0 := ans 12 18 (by decide) rfl
            clear ans
            simp only [putAll, List.foldl_cons, List.foldl_nil, Act.put, List.setIfInBounds_toArray, List.set_cons_zero, List.set_cons_succ, u17, u18]
            clear u17 u18 kl hrx hbbi
            simp only [List.drop]
            refine wpList_nil ?_
            go_upto_region 16 with (fail)
            go_cut [86] from 68 to 87 (fun v wx => wx = w4 ∧ v = .bool false)
            case first =>
              have hk4 : k = 0 ∨ k = 1 ∨ k = 2 ∨ k = 3 := by omega
              have h1 := HoneV.out
              clear HoneV Hkl Hor Hrx Htk HvE Hvl Hka Hp Hvs HI HG hka' hvl' hvE' Hwas hW hT h6 hB1 hBi hBw hB3 hB4 hmono hknI hkn hnI hnq hkb2 hnb Hvsl
              cases V with
              | false =>
                rw [if_neg (by decide)] at h1
                subst h1
                rcases hk4 with rfl | rfl | rfl | rfl
                all_goals go_wp2_with (fail)
                all_goals go_meet
                all_goals exact ⟨rfl, rfl⟩
              | true =>
                rw [if_pos rfl] at h1
                rcases hk4 with rfl | rfl | rfl | rfl
                all_goals simp only [Nat.mul_zero, Nat.reduceMul, Nat.reducePow, Nat.pow_zero] at h1
                all_goals subst h1
                all_goals go_wp2_with (fail)
                all_goals go_meet
                all_goals exact ⟨rfl, rfl⟩
            obtain ⟨hwc, rfl⟩ := hcut
            subst hwc
            have hor := Hor.out
            go_wp2_with (fail)
            exact ⟨⟨k + 1, by omega, rfl, by rw [Htk.out], below_then hBi (below_then hB3 hB4)⟩, by simp only [intOf]; omega⟩
        · have hknI : ¬ (k : Int) < n1 := by omega
          obtain ⟨got, hgot⟩ : ∃ v, v = Mt.orM vs := ⟨_, rfl⟩
          have htake : vs.take k = vs := List.take_of_length_le (by rw [Hvsl.out]; omega)
          rw [htake, ← hgot]
          have ka := fun W (hW : Below wr.heap.size wr W) => Hka.out W ((below_then hB1 (below_then hBi hW)).mono hBl) ((hT.then_ hT.size hBi).then_ (hT.then_ hT.size hBi).size hW)
          have hvE := HvE.out
          have hvl := Hvl.out
          rw [← hgot] at ka hvE hvl
          simp only [Hp.out] at ka
          have hWi := hW.then_ hBi
          have hTi := hT.then_ hT.size hBi
          have hBw := below_then hB1 hBi
          replace h6 := blk_then h6 hBi
          have Hgot := Lib.hid hgot
          clear hgot htake HvE Hvl Hka Hvs Hvsl hW hT hB1 hBi
          go_upto_region 19 with (fail)
          refine wp_region_steps 10 [eqS (.agg u.C), eqS (.string q), eqS (.int .i64 (((n : Nat) : Int))), eqS (.string (q.extract 0 n)), eqS (.tuple #[(.int .u32 (((got : Nat) : Int))), (.int .i64 (0))]), eqS (.tuple #[(.int .u32 (((got : Nat) : Int))), (.int .i64 (0))]), eqS (.int .u32 (((got : Nat) : Int))), eqS (.int .i64 (0)), eqS (.int .u32 (((got : Nat) : Int))), eqS (.int .i64 (0))] [91, 92, 93, 94, 95, 90, 96, 97, 19, 20] follows_mixed (by kernel_rfl) (by kernel_rfl) ?_ ?_
          · skip
            refine Steps.cons (fun a' w' hG hB dep => gs_load_mv (want_none rfl) _ rfl g6 (hG.other 6 rfl) _ (blk_then h6 hB) rfl) ?_
            refine Steps.cons (fun a' w' hG hB dep => gs_move (want_none rfl) _ rfl (id (hG.other 3 rfl))) ?_
            refine Steps.cons (fun a' w' hG hB dep => gs_move (want_none rfl) _ rfl (id (hG.other 12 rfl))) ?_
            refine Steps.cons (fun a' w' hG hB dep => gs_str_to (want_none rfl) _ _ rfl q n (dep 1 rfl 92 rfl) (dep 2 rfl 93 rfl) hnq rfl) ?_
            refine Steps.cons (fun a' w' hG hB dep => gs_call (want_none rfl) _ _ _ rfl enter_line8 #[(.agg u.C), (.string (q.extract 0 n))] (map2 (dep 0 rfl 91 rfl) (dep 3 rfl 94 rfl)) (ret_step (ka _ hB) (fun _ => rfl))) ?_
            refine Steps.cons (fun a' w' hG hB dep => gs_move (want_none rfl) _ rfl (id (dep 4 rfl 95 rfl))) ?_
            refine Steps.cons (fun a' w' hG hB dep => gs_extract (want_none rfl) _ 0 rfl _ (dep 5 rfl 90 rfl) _ rfl rfl) ?_
            refine Steps.cons (fun a' w' hG hB dep => gs_extract (want_none rfl) _ 1 rfl _ (dep 5 rfl 90 rfl) _ rfl rfl) ?_
            refine Steps.cons (fun a' w' hG hB dep => gs_assign (want_none rfl) _ rfl (id (dep 6 rfl 96 rfl))) ?_
            refine Steps.cons (fun a' w' hG hB dep => gs_assign (want_none rfl) _ rfl (id (dep 7 rfl 97 rfl))) ?_
            exact Steps.nil
          intro uu w4 hB4 ans
          have u19 : uu 19 = .int .u32 ((got : Nat) : Int) := ans 8 19 (by decide) rfl
          have u20 : uu 20 = .int .i64 0 := ans 9 20 (by decide) rfl
          clear ans
          simp only [putAll, List.foldl_cons, List.foldl_nil, Act.put, List.setIfInBounds_toArray, List.set_cons_zero, List.set_cons_succ, u19, u20]
          clear u19 u20 ka
          simp only [List.drop]
          refine wpList_nil ?_
          replace hWi := hWi.then_ hB4
          replace hTi := hTi.then_ hTi.size hB4
          replace hBw := below_then hBw hB4
          replace h6 := blk_then h6 hB4
          clear hB4
          obtain ⟨wk, hwk⟩ : ∃ x, x = Mt.wkAt E N RR q n := ⟨_, rfl⟩
          rw [← hwk] at hWi hvE Hwas
          obtain ⟨met, hmet⟩ : ∃ x, x = wk.met := ⟨_, rfl⟩
          have hml : met < 4294967296 := by rw [hmet]; exact hWi.2.2.1
          have kR := rules_any lo nb gw gm N E RR wk w4 hWi
          have kE := s_end_any lo nb gw gm N E RR wk w4 hWi hTi
          rw [hvE] at kE
          rw [← hmet] at kR
          have hand1 : bits BinOp.and IntKind.u32 (met : Int) (was : Int) = (was : Int) := by
            rw [u32_and_nat met was hml Hwas.out.1, hmet, Nat.and_comm, Hwas.out.2]
          have hand2 : bits BinOp.and IntKind.u32 (met : Int) (got : Int) = (met : Int) := by
            rw [u32_and_nat met got hml hvl, hmet, ← hvE, Nat.and_comm]
            show ((((wk.met ||| _) &&& wk.met : Nat)) : Int) = _
            rw [and_or_self8]
          have Hmet := Lib.hid hmet
          have Hwk := Lib.hid hwk
          clear hmet hwk hvE hvl
          go_upto_region 21 with (go_at_call 53; refine kR.mono ?_; rintro e wx ⟨rfl, rfl⟩)
          go_upto_region 23 with (go_at_call 54; refine kE.mono ?_; rintro e w5 ⟨rfl, hB5⟩)
          replace hWi := hWi.then_ hB5
          replace hTi := hTi.then_ hTi.size hB5
          replace hBw := below_then hBw hB5
          replace h6 := blk_then h6 hB5
          clear hB5 kR kE hand1 hand2
          by_cases hnl : n < q.size
          · have hnlI : (n : Int) < q.size := by omega
            have hn0 : ¬ (n : Int) < 0 := by omega
            have kB := s_byte_any lo nb gw gm N E RR wk (q[n]).toNat (UInt8.toNat_lt _) w5 hWi hTi
            have hstep : Hid (byteW E N RR wk (q[n]).toNat = Mt.wkAt E N RR q (n + 1)) := Lib.hid (by
              rw [Hwk.out]
              show _ = byteW E N RR (Mt.wkAt E N RR q n) (Ere.chr q n)
              rw [chr_of hnl])
            rw [hstep.out] at kB
            go_wp2_with (go_at_call 51; refine kB.mono ?_; rintro e w6 ⟨rfl, hW6, hg6⟩)
            have hT6 := tab_walk hWi hTi hg6
            refine ⟨⟨n + 1, met, by omega, rfl, rfl, Lib.hid ⟨hml, ?_⟩, by rw [Nat.min_eq_left (by omega)]; exact hW6, hT6, blk_grown h6 hg6 hg6gw, below_grown hBw hg6 hgwl⟩, by simp only [intOf]; omega⟩
            rw [Nat.min_eq_left (by omega), Hmet.out, Hwk.out]
            exact hmono.out n (n + 1) (by omega)
          · have hnlI : ¬ (n : Int) < q.size := by omega
            go_wp2_with (fail)
            refine ⟨⟨n + 1, met, by omega, rfl, rfl, Lib.hid ⟨hml, ?_⟩, by rw [Nat.min_eq_right (by omega), show q.size = n by omega, ← Hwk.out]; exact hWi, hTi, h6, hBw⟩, by simp only [intOf]; omega⟩
            rw [Nat.min_eq_right (by omega), show q.size = n by omega, ← Hwk.out, Hmet.out, Nat.and_self]
    · have hnI : ¬ (n : Int) ≤ q.size := by omega
      go_wp2_with (fail)
      go_ret
      exact ⟨rfl, hB1⟩
end Go.Proofs.YtkedgombccdamaaDoor
