/- The walk of heronlaw26's ScriptLines. No condition beyond those named in each lemma. -/
import Derived.Test.YtjplgcmfifoefaaDoorQtX
import Derived.Test.YtjplgcmfifoefaaDoorWdC
namespace Go.Proofs.YtjplgcmfifoefaaDoor
open Go.RowKit Go.Maps
set_option linter.unusedVariables false
set_option linter.unusedSimpArgs false
attribute [local go_sem] Oper.semAt_some

theorem field_ev_0 (b : Nat) (w : World) : (Instr.fieldAt 24 (.pointer (some ⟨b, 0, none⟩)) 0).run Tryd.prog w = .ok (.pointer (some ⟨b, 0, none⟩)) w := by kernel_rfl
set_option maxRecDepth 100000 in
set_option maxHeartbeats 16000000 in
theorem scriptLines_any (q : ByteArray) (hq : q.size ≤ 1048576) (w : World) (hS : SOk w) :
    Calls Tryd.prog 4 #[.string q] w fun e w' => e = .returned (.bool true) ∧ Below w.heap.size w w' := by
  have h7 := hS.size
  replace hS := Lib.hid hS
  go_enter Tryd.func4, Tryd.ntmps4
  have kF := fixed_any w hS.out
  go_upto_region 3 with (go_at_call 6; refine kF.mono ?_; clear kF; rintro e w2 ⟨rfl, hB2⟩; refine Lib.hid ?_)
  have kQ := parse_small q (by omega) w2 (hS.out.then_ h7 hB2)
  go_upto_region 4 with (first
    | (go_at_call 8; refine kQ.mono ?_; clear kQ; rintro e w5 ⟨⟨er1, x, k1, rfl, hR⟩, hB5⟩; refine Lib.hid ?_)
    | (refine wl_store_ev rfl _ _ rfl w5.heap.size x (evK 0) rfl rfl (Blk.new _ _ _) ?_; intro w6 h3 hg6))
  have hB56 := below_grown (below_alloc (Below.refl w5.heap.size w5) _) hg6 (Nat.le_refl _)
  have hB26 : Below w2.heap.size w2 w6 := hB5.trans (hB56.mono hB5.size)
  have hBw := hB2.trans (hB26.mono hB2.size)
  have hWx := (hR.evW (by omega)).then_ hB56
  obtain ⟨g3, hg3⟩ : ∃ v, v = w5.heap.size := ⟨_, rfl⟩
  rw [← hg3] at h3 ⊢
  replace hg3 := Lib.hid hg3
  cases hp : parseE (tl q) with
  | none =>
    obtain ⟨he, hx, hk⟩ := hR.no hp
    subst he
    subst hx
    subst hk
    have c0 : w6.cell? ⟨g3, 0, none⟩ = some (.int .i64 0) := h3.cellv (by rfl)
    have c1 : w6.cell? ⟨g3, 1, none⟩ = some (.string ⟨#[]⟩) := h3.cellv (by rfl)
    have c2 : w6.cell? ⟨g3, 2, none⟩ = some (.string ⟨#[]⟩) := h3.cellv (by rfl)
    have c3 : w6.cell? ⟨g3, 3, none⟩ = some (.string ⟨#[]⟩) := h3.cellv (by rfl)
    have c4 : w6.cell? ⟨g3, 4, none⟩ = some (.int .i64 0) := h3.cellv (by rfl)
    have c5 : w6.cell? ⟨g3, 5, none⟩ = some (.bool false) := h3.cellv (by rfl)
    have c6 : w6.cell? ⟨g3, 6, none⟩ = some (.slice none 0 0) := h3.cellv (by rfl)
    have kS := same_any (evK 0) (evK 0) [] [] w6 hWx hWx
    rw [decide_eq_true rfl] at kS
    clear hR hg6 hB56 hB5 hB26 hWx h3
    go_wp2_with (go_at_call 9; refine kS.mono ?_; clear kS; rintro e w7 ⟨rfl, hB7⟩)
    go_ret
    exact ⟨rfl, hBw.trans (hB7.mono hBw.size)⟩
  | some e' =>
    obtain ⟨he, hv⟩ := hR.yes _ hp
    subst he
    obtain ⟨hu, hkd, hno, hyes⟩ := parse_more hp
    rw [← hv] at hu hkd hno hyes
    have hok : EvOk w5 x k1 := ⟨Nat.le_trans hR.n1 hq, Nat.le_trans hR.n2 hq, Nat.le_trans hR.n3 hq, hR.len, by have := hR.len; have := hR.few; omega, hR.ints, (hR.evW (by omega)).sl⟩
    have hok6 := hok.then_ hB56
    have hints : intsOk (x.ev k1) := hR.ints
    have kP := print_any x k1 w6 hok6 (hS.out.then_ h7 hBw)
    obtain ⟨s, hs⟩ : ∃ s : ByteArray, ⟨(printL (x.ev k1)).toArray⟩ = s := ⟨_, rfl⟩
    have hst : tl s = printL (x.ev k1) := by rw [← hs]
    have hsz : s.size ≤ 100000000 := by
      have h := printL_len (x.ev k1) hints (by show (tl x.name).length ≤ _; simpa [tl] using hok.n1) (by show (tl x.other).length ≤ _; simpa [tl] using hok.n2) (by show (tl x.data).length ≤ _; simpa [tl] using hok.n3) (by show k1.length ≤ _; rw [← hok.len]; exact hok.few)
      rw [← hs]
      exact h
    have hpe : printE (x.ev k1) = 0 := by
      unfold printE
      exact if_pos hkd
    have hp1 := parse_printL (x.ev k1) hkd hints
    rw [← hst, hu] at hp1
    unfold strV at kP
    rw [hs, hpe] at kP
    replace hs := Lib.hid hs
    replace hp := Lib.hid hp
    replace hu := Lib.hid hu
    replace hv := Lib.hid hv
    clear hR hg6 hB56 hB5 hB26 hok hok6 hpe hst
    go_upto_region 7 with (first
      | (refine wpList_load_row rfl _ _ rfl g3 rfl _ _ _ _ h3 Tryd.underlying24 rfl (info_ev.trans rfl) ?_)
      | (go_at_call 7; refine kP.mono ?_; clear kP; rintro e w7 ⟨rfl, hB7⟩; refine Lib.hid ?_))
    have h3' := blk_then h3 hB7
    have hWx' := hWx.then_ hB7
    have hBw' := hBw.trans (hB7.mono hBw.size)
    clear h3 hWx hBw hB7
    have kQ := parse_small s (by omega) w7 (hS.out.then_ h7 hBw')
    go_upto_region 8 with (first
      | (go_at_call 8; refine kQ.mono ?_; clear kQ; rintro e w5 ⟨⟨er1, y, k2, rfl, hR⟩, hB5⟩; refine Lib.hid ?_)
      | (refine wl_store_ev rfl _ _ rfl w5.heap.size y (evK 0) rfl rfl (Blk.new _ _ _) ?_; intro w8 h7y hg6))
    have hB56 := below_grown (below_alloc (Below.refl w5.heap.size w5) _) hg6 (Nat.le_refl _)
    obtain ⟨he, hvy⟩ := hR.yes _ hp1
    subst he
    have hB78 : Below w7.heap.size w7 w8 := hB5.trans (hB56.mono hB5.size)
    have hWy := (hR.evW (by omega)).then_ hB56
    have h3 := blk_then h3' hB78
    have hWx := hWx'.then_ hB78
    have hBw := hBw'.trans (hB78.mono hBw'.size)
    obtain ⟨g7, hg7⟩ : ∃ v, v = w5.heap.size := ⟨_, rfl⟩
    rw [← hg7] at h7y ⊢
    replace hg7 := Lib.hid hg7
    replace hvy := Lib.hid hvy
    clear hR hg6 hB56 hB5 hB78 h3' hWx' hBw' hp1
    have hcat : (q ++ ⟨#[32, 49]⟩ : ByteArray).size ≤ 1073741824 := by
      simp only [ByteArray.size_append]
      show q.size + 2 ≤ _
      omega
    have hcat2 : tl (q ++ ⟨#[32, 49]⟩ : ByteArray) = tl q ++ [32, 49] := by
      unfold tl
      simp [ByteArray.data_append]
    have kQ := parse_small (q ++ ⟨#[32, 49]⟩) hcat w8 (hS.out.then_ h7 hBw)
    go_upto_region 9 with (first
      | (go_at_call 8; refine kQ.mono ?_; clear kQ; rintro e w5 ⟨⟨er3, z, k3, rfl, hR⟩, hB5⟩; refine Lib.hid ?_)
      | (refine wl_store_ev rfl _ _ rfl w5.heap.size z (evK 0) rfl rfl (Blk.new _ _ _) ?_; intro w9 h9z hg6))
    have hB56 := below_grown (below_alloc (Below.refl w5.heap.size w5) _) hg6 (Nat.le_refl _)
    have hB89 : Below w8.heap.size w8 w9 := hB5.trans (hB56.mono hB5.size)
    have hBw9 := hBw.trans (hB89.mono hBw.size)
    have hW1 := hWx.then_ hB89
    have hW2 := hWy.then_ hB89
    have h3' := blk_then h3 hB89
    have h7' := blk_then h7y hB89
    have hno2 := hR.no
    have hyes2 := hR.yes
    rw [hcat2] at hno2 hyes2
    obtain ⟨bb, hbb⟩ : ∃ bb, (x.kind == 12) = bb := ⟨_, rfl⟩
    have he3 : (er3 == 0) = bb := by
      by_cases h12 : x.kind = 12
      · obtain ⟨e2, h2⟩ := hyes h12
        rw [(hyes2 e2 h2).1, ← hbb, beq_iff_eq.2 h12]
        rfl
      · rw [(hno2 (hno h12)).1, ← hbb, beq_eq_false_iff_ne.2 h12]
        rfl
    have hk1 : (1 : Int) ≤ x.kind := hkd.1
    have hk2 : x.kind ≤ 12 := hkd.2
    have hUx := used_w hW1
    have kU : ∀ w', Below w9.heap.size w9 w' → Calls Tryd.prog 10 #[.agg x.C] w' fun e w2 => e = .returned (.agg (usedV x).C) ∧ Below w'.heap.size w' w2 := fun w' _ => used_any x w'
    have kS1 : ∀ w', Below w9.heap.size w9 w' → Calls Tryd.prog 9 #[.agg x.C, .agg (usedV x).C] w' fun e w2 => e = .returned (.bool true) ∧ Below w'.heap.size w' w2 := fun w' hB => by
      have h := same_any x (usedV x) k1 (usedL x.kind k1) w' (hW1.then_ hB) (hUx.then_ hB)
      rw [used_ev, hu.out, decide_eq_true rfl] at h
      exact h
    have kS2 : ∀ w', Below w9.heap.size w9 w' → Calls Tryd.prog 9 #[.agg y.C, .agg x.C] w' fun e w2 => e = .returned (.bool true) ∧ Below w'.heap.size w' w2 := fun w' hB => by
      have h := same_any y x k2 k1 w' (hW2.then_ hB) (hW1.then_ hB)
      rw [hvy.out, decide_eq_true rfl] at h
      exact h
    replace hno := Lib.hid hno
    replace hyes := Lib.hid hyes
    clear hR hg6 hB56 hB5 hB89 hno2 hyes2 hcat hcat2 h3 h7y hWx hWy hUx
    have hbbH := Lib.hid hbb
    have he3H := Lib.hid he3
    have hk1H := Lib.hid hk1
    have hk2H := Lib.hid hk2
    clear hbb he3 hk1 hk2
    refine wp_region_steps 36 [eqS (.pointer (some ⟨g3, 0, none⟩)), eqS (.int .i64 (x.kind)), eqS (.bool true), eqS (.bool true), eqS (vF (true && (true == true)) (.pointer (some ⟨g3, 0, none⟩))), eqS (vF (true && (true == true)) (.int .i64 (x.kind))), eqS (vF (true && (true == true)) (.bool true)), eqS (.bool (true && true)), eqS (.bool (true && true)), eqS (vF (true && ((true && true) == true)) (.agg x.C)), eqS (vF (true && ((true && true) == true)) (.agg x.C)), eqS (vF (true && ((true && true) == true)) (.agg (usedV x).C)), eqS (vF (true && ((true && true) == true)) (.bool true)), eqS (.bool ((true && true) && true)), eqS (.bool ((true && true) && true)), eqS (vF (true && (((true && true) && true) == true)) (.int .i64 (0))), eqS (vF (true && (((true && true) && true) == true)) (.bool true)), eqS (.bool (((true && true) && true) && true)), eqS (.bool (((true && true) && true) && true)), eqS (vF (true && ((((true && true) && true) && true) == true)) (.int .i64 (0))), eqS (vF (true && ((((true && true) && true) && true) == true)) (.bool true)), eqS (.bool ((((true && true) && true) && true) && true)), eqS (.bool ((((true && true) && true) && true) && true)), eqS (vF (true && (((((true && true) && true) && true) && true) == true)) (.agg y.C)), eqS (vF (true && (((((true && true) && true) && true) && true) == true)) (.agg x.C)), eqS (vF (true && (((((true && true) && true) && true) && true) == true)) (.bool true)), eqS (.bool (((((true && true) && true) && true) && true) && true)), eqS (.bool (((((true && true) && true) && true) && true) && true)), eqS (vF (true && ((((((true && true) && true) && true) && true) && true) == true)) (.int .i64 (er3))), eqS (vF (true && ((((((true && true) && true) && true) && true) && true) == true)) (.bool bb)), eqS (vF (true && ((((((true && true) && true) && true) && true) && true) == true)) (.pointer (some ⟨g3, 0, none⟩))), eqS (vF (true && ((((((true && true) && true) && true) && true) && true) == true)) (.int .i64 (x.kind))), eqS (vF (true && ((((((true && true) && true) && true) && true) && true) == true)) (.bool bb)), eqS (vF (true && ((((((true && true) && true) && true) && true) && true) == true)) (.bool true)), eqS (.bool ((((((true && true) && true) && true) && true) && true) && true)), eqS (.bool ((((((true && true) && true) && true) && true) && true) && true))] [43, 44, 45, 46, 47, 48, 49, 50, 51, 52, 53, 54, 55, 56, 57, 58, 59, 60, 61, 62, 63, 64, 65, 66, 67, 68, 69, 70, 71, 72, 73, 74, 75, 76, 77, 2] (by kernel_rfl) (by kernel_rfl) (by kernel_rfl) ?_ ?_
    · skip
      refine Steps.cons (fun a' w' hG hB dep => gs_field (want_none rfl) _ _ _ rfl g3 (0) (0) (hG.other 3 rfl) (fun wz => field_ev_0 g3 wz) rfl) ?_
      refine Steps.cons (fun a' w' hG hB dep => gs_load1 (want_none rfl) _ _ rfl g3 (0) (dep 0 rfl 43 rfl) (.int .i64 (x.kind)) ((blk_then h3' hB).cellv (i := 0) rfl) _ Tryd.underlying3 rfl rfl) ?_
      refine Steps.cons (fun a' w' hG hB dep => gs_geq_int (want_none rfl) _ _ _ _ rfl _ _ _ (dep 1 rfl 44 rfl) rfl (id (congrArg Value.bool (decide_eq_true hk1H.out)))) ?_
      refine Steps.cons (fun a' w' hG hB dep => gs_move (want_none rfl) _ rfl (id (dep 2 rfl 45 rfl))) ?_
      refine Steps.cons (fun a' w' hG hB dep => gs_guard (c := true) (b' := true) rfl rfl (dep 3 rfl 46 rfl) (fun hc he hw => gs_field hw _ _ _ rfl g3 (0) (0) (hG.other 3 rfl) (fun wz => field_ev_0 g3 wz) (vF_yes (on_g hc he) _).symm) (fun hn => vF_no hn _)) ?_
      refine Steps.cons (fun a' w' hG hB dep => gs_guard (c := true) (b' := true) rfl rfl (dep 3 rfl 46 rfl) (fun hc he hw => gs_load1 hw _ _ rfl g3 (0) (Eq.trans (dep 4 rfl 47 rfl) (vF_yes (on_g hc he) _)) (.int .i64 (x.kind)) ((blk_then h3' hB).cellv (i := 0) rfl) _ Tryd.underlying3 rfl (vF_yes (on_g hc he) _).symm) (fun hn => vF_no hn _)) ?_
      refine Steps.cons (fun a' w' hG hB dep => gs_guard (c := true) (b' := true) rfl rfl (dep 3 rfl 46 rfl) (fun hc he hw => gs_leq_int hw _ _ _ _ rfl _ _ _ (Eq.trans (dep 5 rfl 48 rfl) (vF_yes (on_g hc he) _)) rfl (Eq.trans (congrArg Value.bool (decide_eq_true hk2H.out)) (vF_yes (on_g hc he) _).symm)) (fun hn => vF_no hn _)) ?_
      refine Steps.cons (fun a' w' hG hB dep => gs_pick (want_none rfl) _ _ _ rfl true (dep 3 rfl 46 rfl) (id (pick_and2 (c := true) rfl (dep 6 rfl 49 rfl)))) ?_
      refine Steps.cons (fun a' w' hG hB dep => gs_move (want_none rfl) _ rfl (id (dep 7 rfl 50 rfl))) ?_
      refine Steps.cons (fun a' w' hG hB dep => gs_guard (c := true) (b' := (true && true)) rfl rfl (dep 8 rfl 51 rfl) (fun hc he hw => gs_load hw _ _ rfl g3 (hG.other 3 rfl) _ _ (blk_then h3' hB) _ Tryd.underlying24 rfl (info_ev.trans rfl) (vF_yes (on_g hc he) _).symm) (fun hn => vF_no hn _)) ?_
      refine Steps.cons (fun a' w' hG hB dep => gs_guard (c := true) (b' := (true && true)) rfl rfl (dep 8 rfl 51 rfl) (fun hc he hw => gs_load hw _ _ rfl g3 (hG.other 3 rfl) _ _ (blk_then h3' hB) _ Tryd.underlying24 rfl (info_ev.trans rfl) (vF_yes (on_g hc he) _).symm) (fun hn => vF_no hn _)) ?_
      refine Steps.cons (fun a' w' hG hB dep => gs_guard (c := true) (b' := (true && true)) rfl rfl (dep 8 rfl 51 rfl) (fun hc he hw => gs_call hw _ _ _ rfl enter_used _ (map1 (Eq.trans (dep 10 rfl 53 rfl) (vF_yes (on_g hc he) _))) ((kU _ hB).mono fun e w2 ⟨hq9, hb9⟩ => ⟨_, hq9, hb9, (vF_yes (on_g hc he) _).symm⟩)) (fun hn => vF_no hn _)) ?_
      refine Steps.cons (fun a' w' hG hB dep => gs_guard (c := true) (b' := (true && true)) rfl rfl (dep 8 rfl 51 rfl) (fun hc he hw => gs_call hw _ _ _ rfl enter_same _ (map2 (Eq.trans (dep 9 rfl 52 rfl) (vF_yes (on_g hc he) _)) (Eq.trans (dep 11 rfl 54 rfl) (vF_yes (on_g hc he) _))) ((kS1 _ hB).mono fun e w2 ⟨hq9, hb9⟩ => ⟨_, hq9, hb9, (vF_yes (on_g hc he) _).symm⟩)) (fun hn => vF_no hn _)) ?_
      refine Steps.cons (fun a' w' hG hB dep => gs_pick (want_none rfl) _ _ _ rfl (true && true) (dep 8 rfl 51 rfl) (id (pick_and2 (c := true) rfl (dep 12 rfl 55 rfl)))) ?_
      refine Steps.cons (fun a' w' hG hB dep => gs_move (want_none rfl) _ rfl (id (dep 13 rfl 56 rfl))) ?_
      refine Steps.cons (fun a' w' hG hB dep => gs_guard (c := true) (b' := ((true && true) && true)) rfl rfl (dep 14 rfl 57 rfl) (fun hc he hw => gs_move hw _ rfl (Eq.trans (hG.other 6 rfl) (vF_yes (on_g hc he) _).symm)) (fun hn => vF_no hn _)) ?_
      refine Steps.cons (fun a' w' hG hB dep => gs_guard (c := true) (b' := ((true && true) && true)) rfl rfl (dep 14 rfl 57 rfl) (fun hc he hw => gs_eql_int hw _ _ _ _ rfl _ _ _ (Eq.trans (dep 15 rfl 58 rfl) (vF_yes (on_g hc he) _)) rfl (Eq.trans (congrArg Value.bool rfl) (vF_yes (on_g hc he) _).symm)) (fun hn => vF_no hn _)) ?_
      refine Steps.cons (fun a' w' hG hB dep => gs_pick (want_none rfl) _ _ _ rfl ((true && true) && true) (dep 14 rfl 57 rfl) (id (pick_and2 (c := true) rfl (dep 16 rfl 59 rfl)))) ?_
      refine Steps.cons (fun a' w' hG hB dep => gs_move (want_none rfl) _ rfl (id (dep 17 rfl 60 rfl))) ?_
      refine Steps.cons (fun a' w' hG hB dep => gs_guard (c := true) (b' := (((true && true) && true) && true)) rfl rfl (dep 18 rfl 61 rfl) (fun hc he hw => gs_move hw _ rfl (Eq.trans (hG.other 8 rfl) (vF_yes (on_g hc he) _).symm)) (fun hn => vF_no hn _)) ?_
      refine Steps.cons (fun a' w' hG hB dep => gs_guard (c := true) (b' := (((true && true) && true) && true)) rfl rfl (dep 18 rfl 61 rfl) (fun hc he hw => gs_eql_int hw _ _ _ _ rfl _ _ _ (Eq.trans (dep 19 rfl 62 rfl) (vF_yes (on_g hc he) _)) rfl (Eq.trans (congrArg Value.bool rfl) (vF_yes (on_g hc he) _).symm)) (fun hn => vF_no hn _)) ?_
      refine Steps.cons (fun a' w' hG hB dep => gs_pick (want_none rfl) _ _ _ rfl (((true && true) && true) && true) (dep 18 rfl 61 rfl) (id (pick_and2 (c := true) rfl (dep 20 rfl 63 rfl)))) ?_
      refine Steps.cons (fun a' w' hG hB dep => gs_move (want_none rfl) _ rfl (id (dep 21 rfl 64 rfl))) ?_
      refine Steps.cons (fun a' w' hG hB dep => gs_guard (c := true) (b' := ((((true && true) && true) && true) && true)) rfl rfl (dep 22 rfl 65 rfl) (fun hc he hw => gs_load hw _ _ rfl g7 (hG.other 7 rfl) _ _ (blk_then h7' hB) _ Tryd.underlying24 rfl (info_ev.trans rfl) (vF_yes (on_g hc he) _).symm) (fun hn => vF_no hn _)) ?_
      refine Steps.cons (fun a' w' hG hB dep => gs_guard (c := true) (b' := ((((true && true) && true) && true) && true)) rfl rfl (dep 22 rfl 65 rfl) (fun hc he hw => gs_load hw _ _ rfl g3 (hG.other 3 rfl) _ _ (blk_then h3' hB) _ Tryd.underlying24 rfl (info_ev.trans rfl) (vF_yes (on_g hc he) _).symm) (fun hn => vF_no hn _)) ?_
      refine Steps.cons (fun a' w' hG hB dep => gs_guard (c := true) (b' := ((((true && true) && true) && true) && true)) rfl rfl (dep 22 rfl 65 rfl) (fun hc he hw => gs_call hw _ _ _ rfl enter_same _ (map2 (Eq.trans (dep 23 rfl 66 rfl) (vF_yes (on_g hc he) _)) (Eq.trans (dep 24 rfl 67 rfl) (vF_yes (on_g hc he) _))) ((kS2 _ hB).mono fun e w2 ⟨hq9, hb9⟩ => ⟨_, hq9, hb9, (vF_yes (on_g hc he) _).symm⟩)) (fun hn => vF_no hn _)) ?_
      refine Steps.cons (fun a' w' hG hB dep => gs_pick (want_none rfl) _ _ _ rfl ((((true && true) && true) && true) && true) (dep 22 rfl 65 rfl) (id (pick_and2 (c := true) rfl (dep 25 rfl 68 rfl)))) ?_
      refine Steps.cons (fun a' w' hG hB dep => gs_move (want_none rfl) _ rfl (id (dep 26 rfl 69 rfl))) ?_
      refine Steps.cons (fun a' w' hG hB dep => gs_guard (c := true) (b' := (((((true && true) && true) && true) && true) && true)) rfl rfl (dep 27 rfl 70 rfl) (fun hc he hw => gs_move hw _ rfl (Eq.trans (hG.other 10 rfl) (vF_yes (on_g hc he) _).symm)) (fun hn => vF_no hn _)) ?_
      refine Steps.cons (fun a' w' hG hB dep => gs_guard (c := true) (b' := (((((true && true) && true) && true) && true) && true)) rfl rfl (dep 27 rfl 70 rfl) (fun hc he hw => gs_eql_int hw _ _ _ _ rfl _ _ _ (Eq.trans (dep 28 rfl 71 rfl) (vF_yes (on_g hc he) _)) rfl (Eq.trans (congrArg Value.bool he3H.out) (vF_yes (on_g hc he) _).symm)) (fun hn => vF_no hn _)) ?_
      refine Steps.cons (fun a' w' hG hB dep => gs_guard (c := true) (b' := (((((true && true) && true) && true) && true) && true)) rfl rfl (dep 27 rfl 70 rfl) (fun hc he hw => gs_field hw _ _ _ rfl g3 (0) (0) (hG.other 3 rfl) (fun wz => field_ev_0 g3 wz) (vF_yes (on_g hc he) _).symm) (fun hn => vF_no hn _)) ?_
      refine Steps.cons (fun a' w' hG hB dep => gs_guard (c := true) (b' := (((((true && true) && true) && true) && true) && true)) rfl rfl (dep 27 rfl 70 rfl) (fun hc he hw => gs_load1 hw _ _ rfl g3 (0) (Eq.trans (dep 30 rfl 73 rfl) (vF_yes (on_g hc he) _)) (.int .i64 (x.kind)) ((blk_then h3' hB).cellv (i := 0) rfl) _ Tryd.underlying3 rfl (vF_yes (on_g hc he) _).symm) (fun hn => vF_no hn _)) ?_
      refine Steps.cons (fun a' w' hG hB dep => gs_guard (c := true) (b' := (((((true && true) && true) && true) && true) && true)) rfl rfl (dep 27 rfl 70 rfl) (fun hc he hw => gs_eql_int hw _ _ _ _ rfl _ _ _ (Eq.trans (dep 31 rfl 74 rfl) (vF_yes (on_g hc he) _)) rfl (Eq.trans (congrArg Value.bool hbbH.out) (vF_yes (on_g hc he) _).symm)) (fun hn => vF_no hn _)) ?_
      refine Steps.cons (fun a' w' hG hB dep => gs_guard (c := true) (b' := (((((true && true) && true) && true) && true) && true)) rfl rfl (dep 27 rfl 70 rfl) (fun hc he hw => gs_eql_bool hw _ _ _ rfl _ _ (Eq.trans (dep 29 rfl 72 rfl) (vF_yes (on_g hc he) _)) (Eq.trans (dep 32 rfl 75 rfl) (vF_yes (on_g hc he) _)) (Eq.trans (congrArg Value.bool (beq_self_eq_true _)) (vF_yes (on_g hc he) _).symm)) (fun hn => vF_no hn _)) ?_
      refine Steps.cons (fun a' w' hG hB dep => gs_pick (want_none rfl) _ _ _ rfl (((((true && true) && true) && true) && true) && true) (dep 27 rfl 70 rfl) (id (pick_and2 (c := true) rfl (dep 33 rfl 76 rfl)))) ?_
      refine Steps.cons (fun a' w' hG hB dep => gs_assign (want_none rfl) _ rfl (id (dep 34 rfl 77 rfl))) ?_
      exact Steps.nil
    intro u w10 hw10 ans
    have hus2 : u 2 = (.bool true) := ans 35 2 (by decide) rfl
    clear ans
    simp only [putAll, List.foldl_cons, List.foldl_nil, Act.put, List.setIfInBounds_toArray, List.set_cons_zero, List.set_cons_succ, hus2]
    clear hus2
    simp only [List.drop]
    refine wpList_nil ?_
    go_wp2_with (fail)
    go_ret
    exact ⟨rfl, hBw9.trans (hw10.mono hBw9.size)⟩
end Go.Proofs.YtjplgcmfifoefaaDoor
