/- The walk of heronlaw26's ScriptBack. No condition beyond those named in each lemma. -/
import Derived.Test.YtjplgcmfifoefaaDoorQtW
namespace Go.Proofs.YtjplgcmfifoefaaDoor
open Go.RowKit Go.Maps
set_option linter.unusedVariables false
set_option linter.unusedSimpArgs false
attribute [local go_sem] Oper.semAt_some

theorem gs_eql_str {ops : Array Oper} {S : Nat → GSpec} {Q : Exit → Act → World → Prop} {i : Nat} {o : Oper} {a : Act} {w : World} (hw : Region.wanted o (yielded ops a.tmps) = true) (t t2 : TypeId) (x y : Operand) (ho : o.op = .binOp .eql t x y t2) (p q : ByteArray) (hx : a.eval x = .string p) (hy : a.eval y = .string q)
    (hp : (S i).p (.bool (p.toList == q.toList)) w) : GStep Tryd.prog ops S Q i o a w :=
  gs_bin hw _ _ _ x y ho _ _ _ hx hy (by rw [eqGuard_at_string]; rfl) (by rw [binOp_string_eql]; rfl) hp
theorem run_eql_boolQ (w : World) (p q : Bool) : (binOp .eql 4 (.bool p) (.bool q)).run Tryd.prog w = .ok (.bool (p == q)) w := by kernel_rfl
theorem gs_eql_bool {ops : Array Oper} {S : Nat → GSpec} {Q : Exit → Act → World → Prop} {i : Nat} {o : Oper} {a : Act} {w : World} (hw : Region.wanted o (yielded ops a.tmps) = true) (t2 : TypeId) (x y : Operand) (ho : o.op = .binOp .eql 4 x y t2) (p q : Bool) (hx : a.eval x = .bool p) (hy : a.eval y = .bool q)
    (hp : (S i).p (.bool (p == q)) w) : GStep Tryd.prog ops S Q i o a w :=
  gs_bin hw _ _ _ x y ho _ _ _ hx hy (by rfl) (run_eql_boolQ w p q) hp
theorem enter_used (args : Array Value) (w : World) : (callFunc 10 args).run Tryd.prog w = .ok (.enter 10 args) w := by kernel_rfl
theorem enter_same (args : Array Value) (w : World) : (callFunc 9 args).run Tryd.prog w = .ok (.enter 9 args) w := by kernel_rfl
theorem enter_oneLine (args : Array Value) (w : World) : (callFunc 11 args).run Tryd.prog w = .ok (.enter 11 args) w := by kernel_rfl
theorem PsR.evW {q : ByteArray} {base : Nat} {er : Int} {x : EvV} {ks : List Int} {w : World} (h : PsR q base er x ks w) (hq : q.size ≤ 1099511627776) : EvW w x ks :=
  ⟨h.len, by have := h.few; have := h.len; omega, h.own.slice_all encZ_size⟩
set_option maxRecDepth 100000 in
set_option maxHeartbeats 16000000 in
theorem scriptBack_any (a b : EvV) (ka kb : List Int) (w : World) (hA : EvOk w a ka) (hB0 : EvOk w b kb) (hS : SOk w) :
    Calls Tryd.prog 3 #[.agg a.C, .agg b.C] w fun e w' => e = .returned (.bool true) ∧ Below w.heap.size w w' := by
  have h7 := hS.size
  replace hS := Lib.hid hS
  go_enter Tryd.func3, Tryd.ntmps3
  go_upto_region 1 with (fail)
  have ha := blk_then (Blk.new w 24 a.C) (below_alloc (Below.refl (w.alloc (.cells a.C 24)).heap.size (w.alloc (.cells a.C 24))) (.cells b.C 24))
  have hb := Blk.new (w.alloc (.cells a.C 24)) 24 b.C
  have hB2 := below_alloc (below_alloc (Below.refl w.heap.size w) (.cells a.C 24)) (.cells b.C 24)
  have hz2 : (w.alloc (.cells a.C 24)).heap.size = w.heap.size + 1 := by rw [World.size_alloc]
  rw [hz2] at hb
  obtain ⟨w1, hw1⟩ : ∃ v, v = (w.alloc (.cells a.C 24)).alloc (.cells b.C 24) := ⟨_, rfl⟩
  rw [← hw1] at ha hb hB2 ⊢
  clear hz2 hw1
  obtain ⟨ga, hga⟩ : ∃ v, v = w.heap.size := ⟨_, rfl⟩
  obtain ⟨gb, hgb⟩ : ∃ v, v = ga + 1 := ⟨_, rfl⟩
  rw [← hga] at ha hb ⊢
  rw [← hgb] at hb ⊢
  replace hga := Lib.hid hga
  replace hgb := Lib.hid hgb
  have kF := fixed_any w1 (hS.out.then_ h7 hB2)
  go_upto_region 3 with (go_at_call 6; refine kF.mono ?_; clear kF; rintro e w2 ⟨rfl, hB3⟩; refine Lib.hid ?_)
  have ha2 := blk_then ha hB3
  have hb2 := blk_then hb hB3
  have hBw := hB2.trans (hB3.mono hB2.size)
  clear ha hb hB2 hB3
  have kP := print_any a ka w2 (hA.then_ hBw) (hS.out.then_ h7 hBw)
  obtain ⟨s, hs⟩ : ∃ s : ByteArray, ⟨(printL (a.ev ka)).toArray⟩ = s := ⟨_, rfl⟩
  obtain ⟨t, ht⟩ : ∃ t : ByteArray, ⟨(printL (b.ev kb)).toArray⟩ = t := ⟨_, rfl⟩
  unfold strV at kP
  rw [hs] at kP
  obtain ⟨e1, he1⟩ : ∃ e1, printE (a.ev ka) = e1 := ⟨_, rfl⟩
  obtain ⟨e2, he2⟩ : ∃ e2, printE (b.ev kb) = e2 := ⟨_, rfl⟩
  rw [he1] at kP
  replace hs := Lib.hid hs
  replace ht := Lib.hid ht
  go_upto_region 4 with (first
    | (refine wpList_load_row rfl _ _ rfl ga rfl _ _ _ _ ha2 Tryd.underlying24 rfl (info_ev.trans rfl) ?_)
    | (go_at_call 7; refine kP.mono ?_; clear kP; rintro e w3 ⟨rfl, hB3⟩; refine Lib.hid ?_))
  have ha3 := blk_then ha2 hB3
  have hb3 := blk_then hb2 hB3
  have hBw3 := hBw.trans (hB3.mono hBw.size)
  clear ha2 hb2 hBw hB3
  have kP := print_any b kb w3 (hB0.then_ hBw3) (hS.out.then_ h7 hBw3)
  unfold strV at kP
  rw [ht.out, he2] at kP
  go_upto_region 5 with (first
    | (refine wpList_load_row rfl _ _ rfl gb rfl _ _ _ _ hb3 Tryd.underlying24 rfl (info_ev.trans rfl) ?_)
    | (go_at_call 7; refine kP.mono ?_; clear kP; rintro e w4 ⟨rfl, hB4⟩; refine Lib.hid ?_))
  have ha := blk_then ha3 hB4
  have hb := blk_then hb3 hB4
  have hBw := hBw3.trans (hB4.mono hBw3.size)
  clear ha3 hb3 hBw3 hB4
  have cK : w4.cell? ⟨ga, 0, none⟩ = some (.int .i64 a.kind) := ha.cellv (by rfl)
  by_cases hk : kindOk a.kind
  case neg =>
    have hv : e1 = 260 := by
      rw [← he1]
      unfold printE
      exact if_neg hk
    have hs0 : s.toList = [] := by
      rw [← hs.out, Lib.toList_data]
      unfold printL
      rw [if_neg (show ¬ kindOk (a.ev ka).kind from hk)]
    have f1 : (s.toList == []) = true := by rw [hs0]; rfl
    have f2 : s.toList.isEmpty = true := by rw [hs0]; rfl
    subst hv
    clear he1 hs0
    replace hk := Lib.hid hk
    by_cases h1 : a.kind < 1
    · have f3 : ¬ (1 ≤ a.kind) := by omega
      clear h1
      go_wp2_with (fail)
      go_ret
      exact ⟨rfl, hBw⟩
    · have f3 : (1 ≤ a.kind) := by omega
      have f4 : ¬ (a.kind ≤ 12) := fun h => hk.out ⟨f3, h⟩
      clear h1
      go_wp2_with (fail)
      go_ret
      exact ⟨rfl, hBw⟩
  have hv : e1 = 0 := by
    rw [← he1]
    unfold printE
    exact if_pos hk
  subst hv
  clear he1
  have f3 : (1 ≤ a.kind) := hk.1
  have f4 : (a.kind ≤ 12) := hk.2
  replace hk := Lib.hid hk
  by_cases hkb : kindOk b.kind
  case neg =>
    have hv : e2 = 260 := by
      rw [← he2]
      unfold printE
      exact if_neg hkb
    subst hv
    clear he2 hkb
    go_wp2_with (fail)
    go_ret
    exact ⟨rfl, hBw⟩
  have hv : e2 = 0 := by
    rw [← he2]
    unfold printE
    exact if_pos hkb
  subst hv
  clear he2
  replace hkb := Lib.hid hkb
  have hia : intsOk (a.ev ka) := hA.ints
  have hib : intsOk (b.ev kb) := hB0.ints
  have hsz : s.size ≤ 100000000 := by
    have h := printL_len (a.ev ka) hia (by show (tl a.name).length ≤ _; simpa [tl] using hA.n1) (by show (tl a.other).length ≤ _; simpa [tl] using hA.n2) (by show (tl a.data).length ≤ _; simpa [tl] using hA.n3) (by show ka.length ≤ _; rw [← hA.len]; exact hA.few)
    rw [← hs.out]
    exact h
  have hst : tl s = printL (a.ev ka) := by rw [← hs.out]
  have htt : tl t = printL (b.ev kb) := by rw [← ht.out]
  have hp1 := parse_printL (a.ev ka) hk.out hia
  have hp2 := parse_blanks (a.ev ka) hk.out hia
  rw [← hst] at hp1 hp2
  have kQ := parse_small s (by omega) w4 (hS.out.then_ h7 hBw)
  have hWa := Lib.hid hA.toW
  have hWb := Lib.hid hB0.toW
  go_upto_region 10 with (first
    | (go_at_call 8; refine kQ.mono ?_; clear kQ; rintro e w5 ⟨⟨er1, x1, k1, rfl, hR1⟩, hB5⟩; refine Lib.hid ?_)
    | (refine wl_store_ev rfl _ _ rfl w5.heap.size x1 (evK 0) rfl rfl (Blk.new _ _ _) ?_; intro w6 h9 hg6))
  have hB56 := below_grown (below_alloc (Below.refl w5.heap.size w5) _) hg6 (Nat.le_refl _)
  obtain ⟨hq1, hv1⟩ := hR1.yes _ hp1
  subst hq1
  have hW1 := (hR1.evW (by omega)).then_ hB56
  have hB46 : Below w4.heap.size w4 w6 := hB5.trans (hB56.mono hB5.size)
  have ha6 := blk_then ha hB46
  have hb6 := blk_then hb hB46
  have hBw6 := hBw.trans (hB46.mono hBw.size)
  obtain ⟨g9, hg9⟩ : ∃ v, v = w5.heap.size := ⟨_, rfl⟩
  rw [← hg9] at h9 ⊢
  replace hg9 := Lib.hid hg9
  clear hR1 hg6 hB56 hB5 hB46 ha hb hBw cK
  have hcat : (⟨#[32, 32]⟩ ++ s ++ ⟨#[32]⟩ : ByteArray).size ≤ 1073741824 := by
    simp only [ByteArray.size_append]
    show 2 + s.size + 1 ≤ _
    omega
  have hcat2 : tl (⟨#[32, 32]⟩ ++ s ++ ⟨#[32]⟩ : ByteArray) = [32, 32] ++ (tl s ++ [32]) := by
    unfold tl
    simp [ByteArray.data_append]
  have kQ := parse_small (⟨#[32, 32]⟩ ++ s ++ ⟨#[32]⟩) hcat w6 (hS.out.then_ h7 hBw6)
  go_upto_region 11 with (first
    | (go_at_call 8; refine kQ.mono ?_; clear kQ; rintro e w5 ⟨⟨er1, x2, k2, rfl, hR1⟩, hB5⟩; refine Lib.hid ?_)
    | (refine wl_store_ev rfl _ _ rfl w5.heap.size x2 (evK 0) rfl rfl (Blk.new _ _ _) ?_; intro w7 h11 hg6))
  have hB56 := below_grown (below_alloc (Below.refl w5.heap.size w5) _) hg6 (Nat.le_refl _)
  obtain ⟨hq1, hv2⟩ := hR1.yes _ (by rw [hcat2]; exact hp2)
  subst hq1
  have hW2 := (hR1.evW (by omega)).then_ hB56
  have hB46 : Below w6.heap.size w6 w7 := hB5.trans (hB56.mono hB5.size)
  have ha := blk_then ha6 hB46
  have hb := blk_then hb6 hB46
  have h9' := blk_then h9 hB46
  have hW1' := hW1.then_ hB46
  have hBw := hBw6.trans (hB46.mono hBw6.size)
  have hWa7 := used_w (hWa.out.then_ hBw)
  have hWb7 := used_w (hWb.out.then_ hBw)
  obtain ⟨g11, hg11⟩ : ∃ v, v = w5.heap.size := ⟨_, rfl⟩
  rw [← hg11] at h11 ⊢
  replace hg11 := Lib.hid hg11
  clear hR1 hg6 hB56 hB5 hB46 ha6 hb6 h9 hW1 hBw6 hcat hcat2
  have h9 := h9'
  clear h9'
  have kU : ∀ w', Below w7.heap.size w7 w' → Calls Tryd.prog 10 #[.agg a.C] w' fun e w2 => e = .returned (.agg (usedV a).C) ∧ Below w'.heap.size w' w2 := fun w' _ => used_any a w'
  have kV : ∀ w', Below w7.heap.size w7 w' → Calls Tryd.prog 10 #[.agg b.C] w' fun e w2 => e = .returned (.agg (usedV b).C) ∧ Below w'.heap.size w' w2 := fun w' _ => used_any b w'
  have kS1 : ∀ w', Below w7.heap.size w7 w' → Calls Tryd.prog 9 #[.agg x1.C, .agg (usedV a).C] w' fun e w2 => e = .returned (.bool true) ∧ Below w'.heap.size w' w2 := fun w' hB => by
    have h := same_any x1 (usedV a) k1 (usedL a.kind ka) w' (hW1'.then_ hB) (hWa7.then_ hB)
    rw [used_ev, hv1, decide_eq_true rfl] at h
    exact h
  have kS2 : ∀ w', Below w7.heap.size w7 w' → Calls Tryd.prog 9 #[.agg x2.C, .agg x1.C] w' fun e w2 => e = .returned (.bool true) ∧ Below w'.heap.size w' w2 := fun w' hB => by
    have h := same_any x2 x1 k2 k1 w' (hW2.then_ hB) (hW1'.then_ hB)
    rw [hv2, hv1, decide_eq_true rfl] at h
    exact h
  have kO : ∀ w', Below w7.heap.size w7 w' → Calls Tryd.prog 11 #[.string s] w' fun e w2 => e = .returned (.bool true) ∧ Below w'.heap.size w' w2 := fun w' hB => by
    have h := oneLine_any s (by omega) w'
    rw [hst, print_one] at h
    exact h
  obtain ⟨bb, hbb⟩ : ∃ bb, (s.toList == t.toList) = bb := ⟨_, rfl⟩
  have hdd : decide (usedE (a.ev ka) = usedE (b.ev kb)) = bb := by
    rw [← hbb, Bool.eq_iff_iff, decide_eq_true_iff, beq_iff_eq, ← tl_eq, hst, htt]
    exact (print_inj (a.ev ka) (b.ev kb) hk.out hkb.out hia hib).symm
  have kS3 : ∀ w', Below w7.heap.size w7 w' → Calls Tryd.prog 9 #[.agg (usedV a).C, .agg (usedV b).C] w' fun e w2 => e = .returned (.bool bb) ∧ Below w'.heap.size w' w2 := fun w' hB => by
    have h := same_any (usedV a) (usedV b) (usedL a.kind ka) (usedL b.kind kb) w' (hWa7.then_ hB) (hWb7.then_ hB)
    rw [used_ev, used_ev, hdd] at h
    exact h
  have hbbH := Lib.hid hbb
  clear hbb hdd hst htt hp1 hp2 hv1 hv2
  refine wp_region_steps 24 [eqS (.int .i64 (0)), eqS (.bool false), eqS (.bool false), eqS (vF (true && (false == false)) (.int .i64 (0))), eqS (vF (true && (false == false)) (.bool false)), eqS (.bool (false || false)), eqS (.bool (false || false)), eqS (vF (true && ((false || false) == false)) (.agg x1.C)), eqS (vF (true && ((false || false) == false)) (.agg a.C)), eqS (vF (true && ((false || false) == false)) (.agg (usedV a).C)), eqS (vF (true && ((false || false) == false)) (.bool true)), eqS (vF (true && ((false || false) == false)) (.bool (!true))), eqS (.bool ((false || false) || (!true))), eqS (.bool ((false || false) || (!true))), eqS (vF (true && (((false || false) || (!true)) == false)) (.agg x2.C)), eqS (vF (true && (((false || false) || (!true)) == false)) (.agg x1.C)), eqS (vF (true && (((false || false) || (!true)) == false)) (.bool true)), eqS (vF (true && (((false || false) || (!true)) == false)) (.bool (!true))), eqS (.bool (((false || false) || (!true)) || (!true))), eqS (.bool (((false || false) || (!true)) || (!true))), eqS (vF (true && ((((false || false) || (!true)) || (!true)) == false)) (.string s)), eqS (vF (true && ((((false || false) || (!true)) || (!true)) == false)) (.bool true)), eqS (vF (true && ((((false || false) || (!true)) || (!true)) == false)) (.bool (!true))), eqS (.bool ((((false || false) || (!true)) || (!true)) || (!true)))] [66, 67, 68, 69, 70, 71, 72, 73, 74, 75, 76, 77, 78, 79, 80, 81, 82, 83, 84, 85, 86, 87, 88, 89] (by kernel_rfl) (by kernel_rfl) (by kernel_rfl) ?_ ?_
  · skip
    refine Steps.cons (fun a' w' hG hB dep => gs_move (want_none rfl) _ rfl (id (hG.other 10 rfl))) ?_
    refine Steps.cons (fun a' w' hG hB dep => gs_neq_int (want_none rfl) _ _ _ _ rfl _ _ _ (dep 0 rfl 66 rfl) rfl (id (congrArg Value.bool rfl))) ?_
    refine Steps.cons (fun a' w' hG hB dep => gs_move (want_none rfl) _ rfl (id (dep 1 rfl 67 rfl))) ?_
    refine Steps.cons (fun a' w' hG hB dep => gs_guard (c := true) (b' := false) rfl rfl (dep 2 rfl 68 rfl) (fun hc he hw => gs_move hw _ rfl (Eq.trans (hG.other 12 rfl) (vF_yes (on_g hc he) _).symm)) (fun hn => vF_no hn _)) ?_
    refine Steps.cons (fun a' w' hG hB dep => gs_guard (c := true) (b' := false) rfl rfl (dep 2 rfl 68 rfl) (fun hc he hw => gs_neq_int hw _ _ _ _ rfl _ _ _ (Eq.trans (dep 3 rfl 69 rfl) (vF_yes (on_g hc he) _)) rfl (Eq.trans (congrArg Value.bool rfl) (vF_yes (on_g hc he) _).symm)) (fun hn => vF_no hn _)) ?_
    refine Steps.cons (fun a' w' hG hB dep => gs_pick (want_none rfl) _ _ _ rfl false (dep 2 rfl 68 rfl) (id (pick_or2 (c := true) rfl (dep 4 rfl 70 rfl)))) ?_
    refine Steps.cons (fun a' w' hG hB dep => gs_move (want_none rfl) _ rfl (id (dep 5 rfl 71 rfl))) ?_
    refine Steps.cons (fun a' w' hG hB dep => gs_guard (c := true) (b' := (false || false)) rfl rfl (dep 6 rfl 72 rfl) (fun hc he hw => gs_load hw _ _ rfl g9 (hG.other 9 rfl) _ _ (blk_then h9 hB) _ Tryd.underlying24 rfl (info_ev.trans rfl) (vF_yes (on_g hc he) _).symm) (fun hn => vF_no hn _)) ?_
    refine Steps.cons (fun a' w' hG hB dep => gs_guard (c := true) (b' := (false || false)) rfl rfl (dep 6 rfl 72 rfl) (fun hc he hw => gs_load hw _ _ rfl ga (hG.other 2 rfl) _ _ (blk_then ha hB) _ Tryd.underlying24 rfl (info_ev.trans rfl) (vF_yes (on_g hc he) _).symm) (fun hn => vF_no hn _)) ?_
    refine Steps.cons (fun a' w' hG hB dep => gs_guard (c := true) (b' := (false || false)) rfl rfl (dep 6 rfl 72 rfl) (fun hc he hw => gs_call hw _ _ _ rfl enter_used _ (map1 (Eq.trans (dep 8 rfl 74 rfl) (vF_yes (on_g hc he) _))) ((kU _ hB).mono fun e w2 ⟨hq9, hb9⟩ => ⟨_, hq9, hb9, (vF_yes (on_g hc he) _).symm⟩)) (fun hn => vF_no hn _)) ?_
    refine Steps.cons (fun a' w' hG hB dep => gs_guard (c := true) (b' := (false || false)) rfl rfl (dep 6 rfl 72 rfl) (fun hc he hw => gs_call hw _ _ _ rfl enter_same _ (map2 (Eq.trans (dep 7 rfl 73 rfl) (vF_yes (on_g hc he) _)) (Eq.trans (dep 9 rfl 75 rfl) (vF_yes (on_g hc he) _))) ((kS1 _ hB).mono fun e w2 ⟨hq9, hb9⟩ => ⟨_, hq9, hb9, (vF_yes (on_g hc he) _).symm⟩)) (fun hn => vF_no hn _)) ?_
    refine Steps.cons (fun a' w' hG hB dep => gs_guard (c := true) (b' := (false || false)) rfl rfl (dep 6 rfl 72 rfl) (fun hc he hw => gs_not_bool hw _ _ rfl _ (Eq.trans (dep 10 rfl 76 rfl) (vF_yes (on_g hc he) _)) (vF_yes (on_g hc he) _).symm) (fun hn => vF_no hn _)) ?_
    refine Steps.cons (fun a' w' hG hB dep => gs_pick (want_none rfl) _ _ _ rfl (false || false) (dep 6 rfl 72 rfl) (id (pick_or2 (c := true) rfl (dep 11 rfl 77 rfl)))) ?_
    refine Steps.cons (fun a' w' hG hB dep => gs_move (want_none rfl) _ rfl (id (dep 12 rfl 78 rfl))) ?_
    refine Steps.cons (fun a' w' hG hB dep => gs_guard (c := true) (b' := ((false || false) || (!true))) rfl rfl (dep 13 rfl 79 rfl) (fun hc he hw => gs_load hw _ _ rfl g11 (hG.other 11 rfl) _ _ (blk_then h11 hB) _ Tryd.underlying24 rfl (info_ev.trans rfl) (vF_yes (on_g hc he) _).symm) (fun hn => vF_no hn _)) ?_
    refine Steps.cons (fun a' w' hG hB dep => gs_guard (c := true) (b' := ((false || false) || (!true))) rfl rfl (dep 13 rfl 79 rfl) (fun hc he hw => gs_load hw _ _ rfl g9 (hG.other 9 rfl) _ _ (blk_then h9 hB) _ Tryd.underlying24 rfl (info_ev.trans rfl) (vF_yes (on_g hc he) _).symm) (fun hn => vF_no hn _)) ?_
    refine Steps.cons (fun a' w' hG hB dep => gs_guard (c := true) (b' := ((false || false) || (!true))) rfl rfl (dep 13 rfl 79 rfl) (fun hc he hw => gs_call hw _ _ _ rfl enter_same _ (map2 (Eq.trans (dep 14 rfl 80 rfl) (vF_yes (on_g hc he) _)) (Eq.trans (dep 15 rfl 81 rfl) (vF_yes (on_g hc he) _))) ((kS2 _ hB).mono fun e w2 ⟨hq9, hb9⟩ => ⟨_, hq9, hb9, (vF_yes (on_g hc he) _).symm⟩)) (fun hn => vF_no hn _)) ?_
    refine Steps.cons (fun a' w' hG hB dep => gs_guard (c := true) (b' := ((false || false) || (!true))) rfl rfl (dep 13 rfl 79 rfl) (fun hc he hw => gs_not_bool hw _ _ rfl _ (Eq.trans (dep 16 rfl 82 rfl) (vF_yes (on_g hc he) _)) (vF_yes (on_g hc he) _).symm) (fun hn => vF_no hn _)) ?_
    refine Steps.cons (fun a' w' hG hB dep => gs_pick (want_none rfl) _ _ _ rfl ((false || false) || (!true)) (dep 13 rfl 79 rfl) (id (pick_or2 (c := true) rfl (dep 17 rfl 83 rfl)))) ?_
    refine Steps.cons (fun a' w' hG hB dep => gs_move (want_none rfl) _ rfl (id (dep 18 rfl 84 rfl))) ?_
    refine Steps.cons (fun a' w' hG hB dep => gs_guard (c := true) (b' := (((false || false) || (!true)) || (!true))) rfl rfl (dep 19 rfl 85 rfl) (fun hc he hw => gs_move hw _ rfl (Eq.trans (hG.other 5 rfl) (vF_yes (on_g hc he) _).symm)) (fun hn => vF_no hn _)) ?_
    refine Steps.cons (fun a' w' hG hB dep => gs_guard (c := true) (b' := (((false || false) || (!true)) || (!true))) rfl rfl (dep 19 rfl 85 rfl) (fun hc he hw => gs_call hw _ _ _ rfl enter_oneLine _ (map1 (Eq.trans (dep 20 rfl 86 rfl) (vF_yes (on_g hc he) _))) ((kO _ hB).mono fun e w2 ⟨hq9, hb9⟩ => ⟨_, hq9, hb9, (vF_yes (on_g hc he) _).symm⟩)) (fun hn => vF_no hn _)) ?_
    refine Steps.cons (fun a' w' hG hB dep => gs_guard (c := true) (b' := (((false || false) || (!true)) || (!true))) rfl rfl (dep 19 rfl 85 rfl) (fun hc he hw => gs_not_bool hw _ _ rfl _ (Eq.trans (dep 21 rfl 87 rfl) (vF_yes (on_g hc he) _)) (vF_yes (on_g hc he) _).symm) (fun hn => vF_no hn _)) ?_
    refine Steps.cons (fun a' w' hG hB dep => gs_pick (want_none rfl) _ _ _ rfl (((false || false) || (!true)) || (!true)) (dep 19 rfl 85 rfl) (id (pick_or2 (c := true) rfl (dep 22 rfl 88 rfl)))) ?_
    exact Steps.nil
  intro u w8 hw8 ans
  have hus89 : u 89 = (.bool false) := ans 23 89 (by decide) rfl
  clear ans
  simp only [putAll, List.foldl_cons, List.foldl_nil, Act.put, List.setIfInBounds_toArray, List.set_cons_zero, List.set_cons_succ, hus89]
  clear hus89
  simp only [List.drop]
  refine wpList_nil ?_
  go_upto_region 13 with (fail)
  have ha := blk_then ha hw8
  have hb := blk_then hb hw8
  have hBw := hBw.trans (hw8.mono hBw.size)
  have kU : ∀ w', Below w8.heap.size w8 w' → Calls Tryd.prog 10 #[.agg a.C] w' fun e w2 => e = .returned (.agg (usedV a).C) ∧ Below w'.heap.size w' w2 := fun w' h => used_any a w'
  have kV : ∀ w', Below w8.heap.size w8 w' → Calls Tryd.prog 10 #[.agg b.C] w' fun e w2 => e = .returned (.agg (usedV b).C) ∧ Below w'.heap.size w' w2 := fun w' h => used_any b w'
  have kS3' : ∀ w', Below w8.heap.size w8 w' → Calls Tryd.prog 9 #[.agg (usedV a).C, .agg (usedV b).C] w' fun e w2 => e = .returned (.bool bb) ∧ Below w'.heap.size w' w2 := fun w' hB => kS3 w' (below_then hw8 hB)
  refine wp_region_steps 10 [eqS (.string s), eqS (.string t), eqS (.bool bb), eqS (.agg a.C), eqS (.agg (usedV a).C), eqS (.agg b.C), eqS (.agg (usedV b).C), eqS (.bool bb), eqS (.bool true), eqS (.bool true)] [90, 91, 92, 93, 94, 95, 96, 97, 98, 4] (by kernel_rfl) (by kernel_rfl) (by kernel_rfl) ?_ ?_
  · skip
    refine Steps.cons (fun a' w' hG hB dep => gs_move (want_none rfl) _ rfl (id (hG.other 5 rfl))) ?_
    refine Steps.cons (fun a' w' hG hB dep => gs_move (want_none rfl) _ rfl (id (hG.other 7 rfl))) ?_
    refine Steps.cons (fun a' w' hG hB dep => gs_eql_str (want_none rfl) _ _ _ _ rfl s t (dep 0 rfl 90 rfl) (dep 1 rfl 91 rfl) (id (congrArg Value.bool hbbH.out))) ?_
    refine Steps.cons (fun a' w' hG hB dep => gs_load (want_none rfl) _ _ rfl ga (hG.other 2 rfl) _ _ (blk_then ha hB) _ Tryd.underlying24 rfl (info_ev.trans rfl) rfl) ?_
    refine Steps.cons (fun a' w' hG hB dep => gs_call (want_none rfl) _ _ _ rfl enter_used _ (map1 (dep 3 rfl 93 rfl)) ((kU _ hB).mono fun e w2 ⟨hq9, hb9⟩ => ⟨_, hq9, hb9, rfl⟩)) ?_
    refine Steps.cons (fun a' w' hG hB dep => gs_load (want_none rfl) _ _ rfl gb (hG.other 3 rfl) _ _ (blk_then hb hB) _ Tryd.underlying24 rfl (info_ev.trans rfl) rfl) ?_
    refine Steps.cons (fun a' w' hG hB dep => gs_call (want_none rfl) _ _ _ rfl enter_used _ (map1 (dep 5 rfl 95 rfl)) ((kV _ hB).mono fun e w2 ⟨hq9, hb9⟩ => ⟨_, hq9, hb9, rfl⟩)) ?_
    refine Steps.cons (fun a' w' hG hB dep => gs_call (want_none rfl) _ _ _ rfl enter_same _ (map2 (dep 4 rfl 94 rfl) (dep 6 rfl 96 rfl)) ((kS3' _ hB).mono fun e w2 ⟨hq9, hb9⟩ => ⟨_, hq9, hb9, rfl⟩)) ?_
    refine Steps.cons (fun a' w' hG hB dep => gs_eql_bool (want_none rfl) _ _ _ rfl _ _ (dep 2 rfl 92 rfl) (dep 7 rfl 97 rfl) (id (congrArg Value.bool (beq_self_eq_true _)))) ?_
    refine Steps.cons (fun a' w' hG hB dep => gs_assign (want_none rfl) _ rfl (id (dep 8 rfl 98 rfl))) ?_
    exact Steps.nil
  intro u w9 hw9 ans
  have hus4 : u 4 = (.bool true) := ans 9 4 (by decide) rfl
  clear ans
  simp only [putAll, List.foldl_cons, List.foldl_nil, Act.put, List.setIfInBounds_toArray, List.set_cons_zero, List.set_cons_succ, hus4]
  clear hus4
  simp only [List.drop]
  refine wpList_nil ?_
  go_wp2_with (fail)
  go_ret
  exact ⟨rfl, hBw.trans (hw9.mono hBw.size)⟩
end Go.Proofs.YtjplgcmfifoefaaDoor
