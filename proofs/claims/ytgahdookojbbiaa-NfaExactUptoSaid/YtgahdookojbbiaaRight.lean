/- nfa.Right and heronref07.Right. No condition beyond those named in each lemma. -/
import Derived.Test.YtgahdookojbbiaaMakeC
namespace Go.Proofs.Ytgahdookojbbiaa
open Go.RowKit Go.Maps
set_option linter.unusedVariables false
set_option linter.unusedSimpArgs false
attribute [local go_sem] Oper.semAt_some

def inS (s v : Int) : Bool := decide (0 ≤ v) && decide (v < s)
theorem in_any (s : Int) (A : Option Addr) (n c : Nat) (B : Option Addr) (m d : Nat) (g : Nat) (v : Int) (w : World) (hb : Blk w g 34 (nfaC s A n c B m d)) :
    Calls Try.prog 43 #[.int .i64 v, .pointer (some ⟨g, 0, none⟩)] w fun e w' => e = .returned (.bool (inS s v)) ∧ w' = w := by
  have c0 : w.cell? ⟨g, 0, none⟩ = some (.int .i64 s) := hb.cellv (i := 0) rfl
  go_enter Try.func43, Try.ntmps43
  by_cases h : 0 ≤ v
  · have h2 : (0 ≤ v) = True := by simpa using h
    go_wp2_with (fail)
    go_ret
    exact ⟨by simp [inS, h], rfl⟩
  · go_wp2_with (fail)
    go_ret
    refine ⟨?_, rfl⟩
    simp only [inS]
    rw [decide_eq_false (show ¬ 0 ≤ v by omega)]
    rfl
theorem enter_in (args : Array Value) (w : World) : (callFunc 43 args).run Try.prog w = .ok (.enter 43 args) w := by kernel_rfl
/-- an edge that fits a machine of s states -/
def badE (s : Int) (d : Edg) : Bool := ((((decide (d.kd < 1) || decide (4 < d.kd)) || !inS s d.fr) || !inS s d.tt) || ((d.kd != 2) && !decide (d.st = 0)))
def rightB (s : Int) (E : List Edg) (m : Nat) : Bool := decide (1 ≤ s) && decide ((m : Int) = s) && E.all fun d => !badE s d
set_option maxRecDepth 100000 in
set_option maxHeartbeats 4000000 in
theorem right_any (s : Int) (A : Option Addr) (n c0 : Nat) (B : Option Addr) (m d0 : Nat) (E : List Edg) (hn : n = E.length) (hE : E.length ≤ 1099511627776) (w : World) (hs : SliceOf w w.heap.size 7 edgC A E) :
    Calls Try.prog 16 #[.agg (nfaC s A n c0 B m d0)] w fun e w' => e = .returned (.bool (rightB s E m)) ∧ Below w.heap.size w w' := by
  obtain ⟨l, hl⟩ : ∃ l, l = E := ⟨_, rfl⟩
  rw [← hl] at hn hE hs ⊢
  clear hl
  have Hn := Lib.hid hn
  have hn2 : n ≤ 1099511627776 := by omega
  clear hn
  go_enter Try.func16, Try.ntmps16
  have h1 := Blk.new w 34 (nfaC s A n c0 B m d0)
  have hB1 : Below w.heap.size w (w.alloc (.cells (nfaC s A n c0 B m d0) 34)) := below_alloc (Below.refl _ _) _
  go_upto_region 1 with (fail)
  obtain ⟨W1, hW1⟩ : ∃ y, y = w.alloc (.cells (nfaC s A n c0 B m d0) 34) := ⟨_, rfl⟩
  rw [← hW1] at h1 hB1 ⊢
  clear hW1
  have c1 : W1.cell? ⟨w.heap.size, 0, none⟩ = some (.int .i64 s) := h1.cellv (i := 0) rfl
  have c2 : W1.cell? ⟨w.heap.size, 1, none⟩ = some (.slice A n c0) := h1.cellv (i := 1) rfl
  have c3 : W1.cell? ⟨w.heap.size, 2, none⟩ = some (.slice B m d0) := h1.cellv (i := 2) rfl
  by_cases hs1 : s < 1
  · have hs1b : decide (s < 1) = true := by simpa using hs1
    go_wp2_with (fail)
    go_ret
    refine ⟨?_, hB1⟩
    unfold rightB
    rw [decide_eq_false (show ¬ 1 ≤ s by omega)]
    rfl
  by_cases hsm : ¬ (m : Int) = s
  · have hsb : ((m : Int) == s) = false := by simpa using hsm
    go_wp2_with (fail)
    go_ret
    refine ⟨?_, hB1⟩
    unfold rightB
    rw [decide_eq_false hsm, Bool.and_false]
    rfl
  have hsm := Classical.not_not.1 hsm
  have hr0 : ∀ b, l.all (fun d => !badE s d) = b → rightB s l m = b := fun b hb => by
    unfold rightB
    rw [decide_eq_true (show 1 ≤ s by omega), decide_eq_true hsm, hb]
    rfl
  have Hr0 := Lib.hid hr0
  have hms : ((m : Int) != s) = false := by simpa using hsm
  have hlw := h1.lt
  clear hr0
  go_wp2_with (fail)
  clear c1 c2 c3
  go_loopw [21] (fun i wr => ∃ k : Nat, k ≤ n ∧ i = .int .i64 k ∧ Blk wr w.heap.size 34 (nfaC s A n c0 B m d0) ∧ Hid ((l.take k).all (fun d => !badE s d) = true) ∧ Below w.heap.size w wr ∧ w.heap.size < wr.heap.size) (fun i _ => n - (intOf i).toNat)
  case atStart => exact ⟨0, by omega, rfl, h1, Lib.hid rfl, hB1, hlw⟩
  case round =>
    clear h1 hB1 hlw
    obtain ⟨k, hk, rfl, h1, hall, hB1, hlw⟩ := hrel
    by_cases hkl : k < n
    · have hkI : (k : Int) < n := by omega
      have hkl2 : k < l.length := by rw [← Hn.out]; exact hkl
      obtain ⟨b, off, rfl, hb, hrows⟩ := hs.at_ (by omega)
      have hr0 := (hrows k hkl2).keep (hB1.block b hb)
      obtain ⟨dd, hd⟩ : ∃ d, d = l[k] := ⟨_, rfl⟩
      rw [← hd] at hr0
      have hst : (l.take (k + 1)).all (fun d => !badE s d) = !badE s dd := by
        rw [List.take_succ_eq_append_getElem hkl2, List.all_append, hall.out, ← hd]
        simp
      have hbad : badE s dd = true → l.all (fun d => !badE s d) = false := fun h => by
        rw [List.all_eq_false]
        exact ⟨dd, by rw [hd]; exact List.getElem_mem hkl2, by rw [h]; simp⟩
      have Hst := Lib.hid hst
      have Hbad := Lib.hid hbad
      clear hst hbad hd
      have hkb : k < 1099511628000 := by omega
      go_upto_region 7 with (first | (refine wl_load_edge_at rfl _ rfl _ _ rfl _ hr0 ?_) | (refine wl_store_edge rfl _ _ rfl _ _ rfl rfl edge0 (Blk.new _ _ _) ?_; intro w3 h5 hg3))
      have hB3 := below_grown (below_alloc (Below.refl _ wr) (.cells #[.int .i64 0, .int .i64 0, .int .i64 0, .int .u64 0, .int .u64 0, .int .u64 0, .int .u64 0] 69)) hg3 (Nat.le_refl _)
      replace h1 := blk_then h1 hB3
      replace hB1 := below_then hB1 hB3
      replace hlw := Nat.lt_of_lt_of_le hlw hB3.size
      clear hr0 hg3
      obtain ⟨k1, hk1⟩ : ∃ q, decide (dd.kd < 1) = q := ⟨_, rfl⟩
      obtain ⟨k4, hk4⟩ : ∃ q, decide (4 < dd.kd) = q := ⟨_, rfl⟩
      obtain ⟨k2, hk2⟩ : ∃ q, (dd.kd != 2) = q := ⟨_, rfl⟩
      obtain ⟨f, hf⟩ : ∃ q, inS s dd.fr = q := ⟨_, rfl⟩
      obtain ⟨t, ht⟩ : ∃ q, inS s dd.tt = q := ⟨_, rfl⟩
      obtain ⟨z, hz⟩ : ∃ q, (!decide (dd.st = 0)) = q := ⟨_, rfl⟩
      have hbd : badE s dd = ((((k1 || k4) || !f) || !t) || (k2 && z)) := by unfold badE; rw [hk1, hk4, hk2, hf, ht, hz]
      refine wp_region_text 33 [eqS (.pointer (some ⟨wr.heap.size, 0, none⟩)), eqS (.int .i64 dd.kd), eqS (.bool k1), eqS (.bool k1), eqS (vF (!k1) (.pointer (some ⟨wr.heap.size, 0, none⟩))), eqS (vF (!k1) (.int .i64 dd.kd)), eqS (vF (!k1) (.bool k4)), eqS (.bool (k1 || k4)), eqS (.bool (k1 || k4)), eqS (vF (!(k1 || k4)) (.func (.func 43) #[] #[.pointer (some ⟨w.heap.size, 0, none⟩)])), eqS (vF (!(k1 || k4)) (.pointer (some ⟨wr.heap.size, 1, none⟩))), eqS (vF (!(k1 || k4)) (.int .i64 dd.fr)), eqS (vF (!(k1 || k4)) (.bool f)), eqS (vF (!(k1 || k4)) (.bool (!f))), eqS (.bool ((k1 || k4) || !f)), eqS (.bool ((k1 || k4) || !f)), eqS (vF (!((k1 || k4) || !f)) (.func (.func 43) #[] #[.pointer (some ⟨w.heap.size, 0, none⟩)])), eqS (vF (!((k1 || k4) || !f)) (.pointer (some ⟨wr.heap.size, 2, none⟩))), eqS (vF (!((k1 || k4) || !f)) (.int .i64 dd.tt)), eqS (vF (!((k1 || k4) || !f)) (.bool t)), eqS (vF (!((k1 || k4) || !f)) (.bool (!t))), eqS (.bool (((k1 || k4) || !f) || !t)), eqS (.bool (((k1 || k4) || !f) || !t)), eqS (vF (!(((k1 || k4) || !f) || !t)) (.pointer (some ⟨wr.heap.size, 0, none⟩))), eqS (vF (!(((k1 || k4) || !f) || !t)) (.int .i64 dd.kd)), eqS (vF (!(((k1 || k4) || !f) || !t)) (.bool k2)), eqS (vF (!(((k1 || k4) || !f) || !t)) (.bool k2)), eqS (vF (!(((k1 || k4) || !f) || !t) && k2) (.pointer (some ⟨wr.heap.size, 3, none⟩))), eqS (vF (!(((k1 || k4) || !f) || !t) && k2) (.agg (setC dd.st))), eqS (vF (!(((k1 || k4) || !f) || !t) && k2) (.agg (setC 0))), eqS (vF (!(((k1 || k4) || !f) || !t) && k2) (.bool z)), eqS (vF (!(((k1 || k4) || !f) || !t)) (.bool (k2 && z))), eqS (.bool ((((k1 || k4) || !f) || !t) || (k2 && z)))] [25, 26, 27, 28, 29, 30, 31, 32, 33, 34, 35, 36, 37, 38, 39, 40, 41, 42, 43, 44, 45, 46, 47, 48, 49, 50, 51, 52, 53, 54, 55, 56, 57] (by kernel_rfl) rfl ?_ ?_
      · skip
        refine Steps.cons (fun a' w' hG hB dep => gs_field (want_none rfl) _ _ _ rfl wr.heap.size 0 0 (hG.other 5 rfl) (field_edge_0 _ _) rfl) ?_
        refine Steps.cons (fun a' w' hG hB dep => gs_load1 (want_none rfl) _ _ rfl wr.heap.size 0 (dep 0 rfl 25 rfl) (.int .i64 dd.kd) ((blk_then h5 hB).cellv (i := 0) rfl) _ Try.underlying3 rfl rfl) ?_
        refine Steps.cons (fun a' w' hG hB dep => gs_lss_int (want_none rfl) _ _ _ _ rfl _ _ _ (dep 1 rfl 26 rfl) rfl (congrArg Value.bool hk1)) ?_
        refine Steps.cons (fun a' w' hG hB dep => gs_move (want_none rfl) _ rfl (dep 2 rfl 27 rfl)) ?_
        refine Steps.cons (fun a' w' hG hB dep => gs_guard (c := true) rfl rfl (dep 3 rfl 28 rfl) (fun _ e hw => gs_field hw _ _ _ rfl wr.heap.size 0 0 (hG.other 5 rfl) (field_edge_0 _ _) (vF_yes (on_not e) _).symm) (fun e => vF_no (off_not e) _)) ?_
        refine Steps.cons (fun a' w' hG hB dep => gs_guard (c := true) rfl rfl (dep 3 rfl 28 rfl) (fun _ e hw => gs_load1 hw _ _ rfl wr.heap.size 0 (Eq.trans (dep 4 rfl 29 rfl) (vF_yes (on_not e) _)) (.int .i64 dd.kd) ((blk_then h5 hB).cellv (i := 0) rfl) _ Try.underlying3 rfl (vF_yes (on_not e) _).symm) (fun e => vF_no (off_not e) _)) ?_
        refine Steps.cons (fun a' w' hG hB dep => gs_guard (c := true) rfl rfl (dep 3 rfl 28 rfl) (fun _ e hw => gs_gtr_int hw _ _ _ _ rfl _ _ _ (Eq.trans (dep 5 rfl 30 rfl) (vF_yes (on_not e) _)) rfl ((congrArg Value.bool hk4).trans (vF_yes (on_not e) _).symm)) (fun e => vF_no (off_not e) _)) ?_
        refine Steps.cons (fun a' w' hG hB dep => gs_pick (want_none rfl) _ _ _ rfl k1 (dep 3 rfl 28 rfl) (pick_or (dep 6 rfl 31 rfl))) ?_
        refine Steps.cons (fun a' w' hG hB dep => gs_move (want_none rfl) _ rfl (dep 7 rfl 32 rfl)) ?_
        refine Steps.cons (fun a' w' hG hB dep => gs_guard (c := true) rfl rfl (dep 8 rfl 33 rfl) (fun _ e hw => gs_move hw _ rfl (Eq.trans (hG.other 3 rfl) (vF_yes (on_not e) _).symm)) (fun e => vF_no (off_not e) _)) ?_
        refine Steps.cons (fun a' w' hG hB dep => gs_guard (c := true) rfl rfl (dep 8 rfl 33 rfl) (fun _ e hw => gs_field hw _ _ _ rfl wr.heap.size 0 1 (hG.other 5 rfl) (field_edge_1 _ _) (vF_yes (on_not e) _).symm) (fun e => vF_no (off_not e) _)) ?_
        refine Steps.cons (fun a' w' hG hB dep => gs_guard (c := true) rfl rfl (dep 8 rfl 33 rfl) (fun _ e hw => gs_load1 hw _ _ rfl wr.heap.size 1 (Eq.trans (dep 10 rfl 35 rfl) (vF_yes (on_not e) _)) (.int .i64 dd.fr) ((blk_then h5 hB).cellv (i := 1) rfl) _ Try.underlying3 rfl (vF_yes (on_not e) _).symm) (fun e => vF_no (off_not e) _)) ?_
        refine Steps.cons (fun a' w' hG hB dep => gs_guard (c := true) rfl rfl (dep 8 rfl 33 rfl) (fun _ e hw => gs_callv hw 43 _ _ _ _ rfl (Eq.trans (dep 9 rfl 34 rfl) (vF_yes (on_not e) _)) enter_in _ (map1c _ (Eq.trans (dep 11 rfl 36 rfl) (vF_yes (on_not e) _))) ((in_any _ _ _ _ _ _ _ _ _ _ (blk_then h1 hB)).mono fun e2 w2 ⟨he, hb⟩ => ⟨_, he, by rw [hb]; exact Below.refl _ _, (congrArg Value.bool hf).trans (vF_yes (on_not e) _).symm⟩)) (fun e => vF_no (off_not e) _)) ?_
        refine Steps.cons (fun a' w' hG hB dep => gs_guard (c := true) rfl rfl (dep 8 rfl 33 rfl) (fun _ e hw => gs_not_bool hw _ _ rfl _ (Eq.trans (dep 12 rfl 37 rfl) (vF_yes (on_not e) _)) (vF_yes (on_not e) _).symm) (fun e => vF_no (off_not e) _)) ?_
        refine Steps.cons (fun a' w' hG hB dep => gs_pick (want_none rfl) _ _ _ rfl (k1 || k4) (dep 8 rfl 33 rfl) (pick_or (dep 13 rfl 38 rfl))) ?_
        refine Steps.cons (fun a' w' hG hB dep => gs_move (want_none rfl) _ rfl (dep 14 rfl 39 rfl)) ?_
        refine Steps.cons (fun a' w' hG hB dep => gs_guard (c := true) rfl rfl (dep 15 rfl 40 rfl) (fun _ e hw => gs_move hw _ rfl (Eq.trans (hG.other 3 rfl) (vF_yes (on_not e) _).symm)) (fun e => vF_no (off_not e) _)) ?_
        refine Steps.cons (fun a' w' hG hB dep => gs_guard (c := true) rfl rfl (dep 15 rfl 40 rfl) (fun _ e hw => gs_field hw _ _ _ rfl wr.heap.size 0 2 (hG.other 5 rfl) (field_edge_2 _ _) (vF_yes (on_not e) _).symm) (fun e => vF_no (off_not e) _)) ?_
        refine Steps.cons (fun a' w' hG hB dep => gs_guard (c := true) rfl rfl (dep 15 rfl 40 rfl) (fun _ e hw => gs_load1 hw _ _ rfl wr.heap.size 2 (Eq.trans (dep 17 rfl 42 rfl) (vF_yes (on_not e) _)) (.int .i64 dd.tt) ((blk_then h5 hB).cellv (i := 2) rfl) _ Try.underlying3 rfl (vF_yes (on_not e) _).symm) (fun e => vF_no (off_not e) _)) ?_
        refine Steps.cons (fun a' w' hG hB dep => gs_guard (c := true) rfl rfl (dep 15 rfl 40 rfl) (fun _ e hw => gs_callv hw 43 _ _ _ _ rfl (Eq.trans (dep 16 rfl 41 rfl) (vF_yes (on_not e) _)) enter_in _ (map1c _ (Eq.trans (dep 18 rfl 43 rfl) (vF_yes (on_not e) _))) ((in_any _ _ _ _ _ _ _ _ _ _ (blk_then h1 hB)).mono fun e2 w2 ⟨he, hb⟩ => ⟨_, he, by rw [hb]; exact Below.refl _ _, (congrArg Value.bool ht).trans (vF_yes (on_not e) _).symm⟩)) (fun e => vF_no (off_not e) _)) ?_
        refine Steps.cons (fun a' w' hG hB dep => gs_guard (c := true) rfl rfl (dep 15 rfl 40 rfl) (fun _ e hw => gs_not_bool hw _ _ rfl _ (Eq.trans (dep 19 rfl 44 rfl) (vF_yes (on_not e) _)) (vF_yes (on_not e) _).symm) (fun e => vF_no (off_not e) _)) ?_
        refine Steps.cons (fun a' w' hG hB dep => gs_pick (want_none rfl) _ _ _ rfl ((k1 || k4) || !f) (dep 15 rfl 40 rfl) (pick_or (dep 20 rfl 45 rfl))) ?_
        refine Steps.cons (fun a' w' hG hB dep => gs_move (want_none rfl) _ rfl (dep 21 rfl 46 rfl)) ?_
        refine Steps.cons (fun a' w' hG hB dep => gs_guard (c := true) rfl rfl (dep 22 rfl 47 rfl) (fun _ e hw => gs_field hw _ _ _ rfl wr.heap.size 0 0 (hG.other 5 rfl) (field_edge_0 _ _) (vF_yes (on_not e) _).symm) (fun e => vF_no (off_not e) _)) ?_
        refine Steps.cons (fun a' w' hG hB dep => gs_guard (c := true) rfl rfl (dep 22 rfl 47 rfl) (fun _ e hw => gs_load1 hw _ _ rfl wr.heap.size 0 (Eq.trans (dep 23 rfl 48 rfl) (vF_yes (on_not e) _)) (.int .i64 dd.kd) ((blk_then h5 hB).cellv (i := 0) rfl) _ Try.underlying3 rfl (vF_yes (on_not e) _).symm) (fun e => vF_no (off_not e) _)) ?_
        refine Steps.cons (fun a' w' hG hB dep => gs_guard (c := true) rfl rfl (dep 22 rfl 47 rfl) (fun _ e hw => gs_neq_int hw _ _ _ _ rfl _ _ _ (Eq.trans (dep 24 rfl 49 rfl) (vF_yes (on_not e) _)) rfl ((congrArg Value.bool hk2).trans (vF_yes (on_not e) _).symm)) (fun e => vF_no (off_not e) _)) ?_
        refine Steps.cons (fun a' w' hG hB dep => gs_guard (c := true) rfl rfl (dep 22 rfl 47 rfl) (fun _ e hw => gs_move hw _ rfl (dep 25 rfl 50 rfl)) (fun e => vF_no (off_not e) _)) ?_
        refine Steps.cons (fun a' w' hG hB dep => gs_guard (c := !(((k1 || k4) || !f) || !t)) rfl rfl (dep 26 rfl 51 rfl) (fun c e hw => gs_field hw _ _ _ rfl wr.heap.size 0 3 (hG.other 5 rfl) (field_edge_3 _ _) (vF_and c e _).symm) (fun e => vF_no (off_and e) _)) ?_
        refine Steps.cons (fun a' w' hG hB dep => gs_guard (c := !(((k1 || k4) || !f) || !t)) rfl rfl (dep 26 rfl 51 rfl) (fun c e hw => gs_load_set_at hw _ rfl wr.heap.size 3 (Eq.trans (dep 27 rfl 52 rfl) (vF_and c e _)) dd.st ((blk_then h5 hB).st) (vF_and c e _).symm) (fun e => vF_no (off_and e) _)) ?_
        refine Steps.cons (fun a' w' hG hB dep => gs_guard (c := !(((k1 || k4) || !f) || !t)) rfl rfl (dep 26 rfl 51 rfl) (fun c e hw => gs_build_set0 hw rfl (vF_and c e _).symm) (fun e => vF_no (off_and e) _)) ?_
        refine Steps.cons (fun a' w' hG hB dep => gs_guard (c := !(((k1 || k4) || !f) || !t)) rfl rfl (dep 26 rfl 51 rfl) (fun c e hw => gs_neq_set hw _ _ _ rfl _ _ (Eq.trans (dep 28 rfl 53 rfl) (vF_and c e _)) (Eq.trans (dep 29 rfl 54 rfl) (vF_and c e _)) ((congrArg Value.bool hz).trans (vF_and c e _).symm)) (fun e => vF_no (off_and e) _)) ?_
        refine Steps.cons (fun a' w' hG hB dep => gs_guard (c := true) rfl rfl (dep 22 rfl 47 rfl) (fun _ e hw => gs_pick hw _ _ _ rfl k2 (Eq.trans (dep 26 rfl 51 rfl) (vF_yes (on_not e) _)) ((pick_and ((dep 30 rfl 55 rfl).trans (congrArg (fun q => vF (q && k2) (.bool z)) (on_not e)))).trans (vF_yes (on_not e) _).symm)) (fun e => vF_no (off_not e) _)) ?_
        refine Steps.cons (fun a' w' hG hB dep => gs_pick (want_none rfl) _ _ _ rfl (((k1 || k4) || !f) || !t) (dep 22 rfl 47 rfl) (pick_or (dep 31 rfl 56 rfl))) ?_
        exact Steps.nil
      rw [← hbd]
      intro u W4 hB4 ans
      have u57 : u 57 = .bool (badE s dd) := ans 32 57 (by decide) rfl
      obtain ⟨q, hq⟩ : ∃ q, badE s dd = q := ⟨_, rfl⟩
      rw [hq] at u57
      clear ans hbd hk1 hk4 hk2 hf ht hz
      simp only [putAll, List.foldl_cons, List.foldl_nil, Act.put, List.setIfInBounds_toArray, List.set_cons_zero, List.set_cons_succ, u57]
      clear u57
      simp only [List.drop]
      refine wpList_nil ?_
      replace h1 := blk_then h1 hB4
      replace hB1 := below_then hB1 hB4
      replace hlw := Nat.lt_of_lt_of_le hlw hB4.size
      cases q
      · go_wp2_with (fail)
        exact ⟨⟨k + 1, by omega, rfl, h1, Lib.hid (Hst.out.trans (by rw [hq]; rfl)), hB1, hlw⟩, by simp only [intOf]; omega⟩
      · go_wp2_with (fail)
        go_ret
        exact ⟨by rw [Hr0.out _ (Hbad.out hq)]; rfl, hB1⟩
    · have hkI : ¬ (k : Int) < n := by omega
      go_wp2_with (fail)
      go_ret
      have hall2 := hall.out
      rw [List.take_of_length_le (by rw [← Hn.out]; omega)] at hall2
      exact ⟨by rw [Hr0.out _ hall2]; rfl, hB1⟩
theorem bad_ref (s : Int) (d : Edg) : badE s d = ((((((decide (d.kd < 1) || decide (4 < d.kd)) || decide (d.fr < 0)) || decide (s ≤ d.fr)) || decide (d.tt < 0)) || decide (s ≤ d.tt)) || ((d.kd != 2) && !decide (d.st = 0))) := by
  have h1 : ∀ v : Int, (!inS s v) = (decide (v < 0) || decide (s ≤ v)) := fun v => by
    unfold inS
    rw [Bool.eq_iff_iff]
    simp only [Bool.not_and, Bool.or_eq_true, Bool.not_eq_true', decide_eq_false_iff_not, decide_eq_true_eq]
    omega
  unfold badE
  rw [h1, h1, Bool.or_assoc (_ || _) (decide (d.fr < 0)), Bool.or_assoc _ (decide (d.tt < 0))]
set_option maxRecDepth 100000 in
set_option maxHeartbeats 4000000 in
theorem rright_any (s : Int) (A : Option Addr) (n c0 : Nat) (B : Option Addr) (m d0 : Nat) (E : List Edg) (hn : n = E.length) (hE : E.length ≤ 1099511627776) (w : World) (hs : SliceOf w w.heap.size 7 edgC A E) :
    Calls Try.prog 17 #[.agg (nfaC s A n c0 B m d0)] w fun e w' => e = .returned (.bool (rightB s E m)) ∧ Below w.heap.size w w' := by
  obtain ⟨l, hl⟩ : ∃ l, l = E := ⟨_, rfl⟩
  rw [← hl] at hn hE hs ⊢
  clear hl
  have Hn := Lib.hid hn
  have hn2 : n ≤ 1099511627776 := by omega
  clear hn
  go_enter Try.func17, Try.ntmps17
  have h1 := Blk.new w 34 (nfaC s A n c0 B m d0)
  have hB1 : Below w.heap.size w (w.alloc (.cells (nfaC s A n c0 B m d0) 34)) := below_alloc (Below.refl _ _) _
  go_upto_region 1 with (fail)
  obtain ⟨W1, hW1⟩ : ∃ y, y = w.alloc (.cells (nfaC s A n c0 B m d0) 34) := ⟨_, rfl⟩
  rw [← hW1] at h1 hB1 ⊢
  clear hW1
  have c1 : W1.cell? ⟨w.heap.size, 0, none⟩ = some (.int .i64 s) := h1.cellv (i := 0) rfl
  have c3 : W1.cell? ⟨w.heap.size, 2, none⟩ = some (.slice B m d0) := h1.cellv (i := 2) rfl
  by_cases hs1 : s < 1
  · have hs1b : decide (s < 1) = true := by simpa using hs1
    go_wp2_with (fail)
    go_ret
    refine ⟨?_, hB1⟩
    unfold rightB
    rw [decide_eq_false (show ¬ 1 ≤ s by omega)]
    rfl
  by_cases hsm : ¬ (m : Int) = s
  · have hsb : ((m : Int) == s) = false := by simpa using hsm
    go_wp2_with (fail)
    go_ret
    refine ⟨?_, hB1⟩
    unfold rightB
    rw [decide_eq_false hsm, Bool.and_false]
    rfl
  have hsm := Classical.not_not.1 hsm
  have hr0 : ∀ b, l.all (fun d => !badE s d) = b → rightB s l m = b := fun b hb => by
    unfold rightB
    rw [decide_eq_true (show 1 ≤ s by omega), decide_eq_true hsm, hb]
    rfl
  have Hr0 := Lib.hid hr0
  have hms : ((m : Int) != s) = false := by simpa using hsm
  have hlw := h1.lt
  clear hr0
  go_wp2_with (fail)
  clear c1 c3
  go_loopw [3] (fun i wr => ∃ k : Nat, k ≤ n ∧ i = .int .i64 k ∧ Blk wr w.heap.size 34 (nfaC s A n c0 B m d0) ∧ Hid ((l.take k).all (fun d => !badE s d) = true) ∧ Below w.heap.size w wr ∧ w.heap.size < wr.heap.size) (fun i _ => n - (intOf i).toNat)
  case atStart => exact ⟨0, by omega, rfl, h1, Lib.hid rfl, hB1, hlw⟩
  case round =>
    clear h1 hB1 hlw
    obtain ⟨k, hk, rfl, h1, hall, hB1, hlw⟩ := hrel
    have c2 : wr.cell? ⟨w.heap.size, 1, none⟩ = some (.slice A n c0) := h1.cellv (i := 1) rfl
    by_cases hkl : k < n
    · have hkI : (k : Int) < n := by omega
      have hkl2 : k < l.length := by rw [← Hn.out]; exact hkl
      obtain ⟨b, off, rfl, hb, hrows⟩ := hs.at_ (by omega)
      have hr0 := (hrows k hkl2).keep (hB1.block b hb)
      obtain ⟨dd, hd⟩ : ∃ d, d = l[k] := ⟨_, rfl⟩
      rw [← hd] at hr0
      have hst : (l.take (k + 1)).all (fun d => !badE s d) = !badE s dd := by
        rw [List.take_succ_eq_append_getElem hkl2, List.all_append, hall.out, ← hd]
        simp
      have hbad : badE s dd = true → l.all (fun d => !badE s d) = false := fun h => by
        rw [List.all_eq_false]
        exact ⟨dd, by rw [hd]; exact List.getElem_mem hkl2, by rw [h]; simp⟩
      have Hst := Lib.hid hst
      have Hbad := Lib.hid hbad
      clear hst hbad hd
      have hkb : k < 1099511628000 := by omega
      go_upto_region 7 with (first | (refine wl_load_edge_at rfl _ rfl _ _ rfl _ hr0 ?_) | (refine wl_store_edge rfl _ _ rfl _ _ rfl rfl edge0 (Blk.new _ _ _) ?_; intro w3 h5 hg3))
      have hB3 := below_grown (below_alloc (Below.refl _ wr) (.cells #[.int .i64 0, .int .i64 0, .int .i64 0, .int .u64 0, .int .u64 0, .int .u64 0, .int .u64 0] 69)) hg3 (Nat.le_refl _)
      replace h1 := blk_then h1 hB3
      replace hB1 := below_then hB1 hB3
      replace hlw := Nat.lt_of_lt_of_le hlw hB3.size
      clear hr0 hg3 c2
      obtain ⟨k1, hk1⟩ : ∃ q, decide (dd.kd < 1) = q := ⟨_, rfl⟩
      obtain ⟨k4, hk4⟩ : ∃ q, decide (4 < dd.kd) = q := ⟨_, rfl⟩
      obtain ⟨k2, hk2⟩ : ∃ q, (dd.kd != 2) = q := ⟨_, rfl⟩
      obtain ⟨f0, hf0⟩ : ∃ q, decide (dd.fr < 0) = q := ⟨_, rfl⟩
      obtain ⟨f1, hf1⟩ : ∃ q, decide (s ≤ dd.fr) = q := ⟨_, rfl⟩
      obtain ⟨t0, ht0⟩ : ∃ q, decide (dd.tt < 0) = q := ⟨_, rfl⟩
      obtain ⟨t1, ht1⟩ : ∃ q, decide (s ≤ dd.tt) = q := ⟨_, rfl⟩
      obtain ⟨z, hz⟩ : ∃ q, (!decide (dd.st = 0)) = q := ⟨_, rfl⟩
      have hbd : badE s dd = ((((((k1 || k4) || f0) || f1) || t0) || t1) || (k2 && z)) := by rw [bad_ref, hk1, hk4, hk2, hf0, hf1, ht0, ht1, hz]
      refine wp_region_text 43 [eqS (.pointer (some ⟨wr.heap.size, 0, none⟩)), eqS (.int .i64 (dd.kd)), eqS (.bool k1), eqS (.bool k1), eqS (vF (true && (k1 == false)) (.pointer (some ⟨wr.heap.size, 0, none⟩))), eqS (vF (true && (k1 == false)) (.int .i64 (dd.kd))), eqS (vF (true && (k1 == false)) (.bool k4)), eqS (.bool (k1 || k4)), eqS (.bool (k1 || k4)), eqS (vF (true && ((k1 || k4) == false)) (.pointer (some ⟨wr.heap.size, 1, none⟩))), eqS (vF (true && ((k1 || k4) == false)) (.int .i64 (dd.fr))), eqS (vF (true && ((k1 || k4) == false)) (.bool f0)), eqS (.bool ((k1 || k4) || f0)), eqS (.bool ((k1 || k4) || f0)), eqS (vF (true && (((k1 || k4) || f0) == false)) (.pointer (some ⟨wr.heap.size, 1, none⟩))), eqS (vF (true && (((k1 || k4) || f0) == false)) (.int .i64 (dd.fr))), eqS (vF (true && (((k1 || k4) || f0) == false)) (.pointer (some ⟨w.heap.size, 0, none⟩))), eqS (vF (true && (((k1 || k4) || f0) == false)) (.int .i64 (s))), eqS (vF (true && (((k1 || k4) || f0) == false)) (.bool f1)), eqS (.bool (((k1 || k4) || f0) || f1)), eqS (.bool (((k1 || k4) || f0) || f1)), eqS (vF (true && ((((k1 || k4) || f0) || f1) == false)) (.pointer (some ⟨wr.heap.size, 2, none⟩))), eqS (vF (true && ((((k1 || k4) || f0) || f1) == false)) (.int .i64 (dd.tt))), eqS (vF (true && ((((k1 || k4) || f0) || f1) == false)) (.bool t0)), eqS (.bool ((((k1 || k4) || f0) || f1) || t0)), eqS (.bool ((((k1 || k4) || f0) || f1) || t0)), eqS (vF (true && (((((k1 || k4) || f0) || f1) || t0) == false)) (.pointer (some ⟨wr.heap.size, 2, none⟩))), eqS (vF (true && (((((k1 || k4) || f0) || f1) || t0) == false)) (.int .i64 (dd.tt))), eqS (vF (true && (((((k1 || k4) || f0) || f1) || t0) == false)) (.pointer (some ⟨w.heap.size, 0, none⟩))), eqS (vF (true && (((((k1 || k4) || f0) || f1) || t0) == false)) (.int .i64 (s))), eqS (vF (true && (((((k1 || k4) || f0) || f1) || t0) == false)) (.bool t1)), eqS (.bool (((((k1 || k4) || f0) || f1) || t0) || t1)), eqS (.bool (((((k1 || k4) || f0) || f1) || t0) || t1)), eqS (vF (true && ((((((k1 || k4) || f0) || f1) || t0) || t1) == false)) (.pointer (some ⟨wr.heap.size, 0, none⟩))), eqS (vF (true && ((((((k1 || k4) || f0) || f1) || t0) || t1) == false)) (.int .i64 (dd.kd))), eqS (vF (true && ((((((k1 || k4) || f0) || f1) || t0) || t1) == false)) (.bool k2)), eqS (vF (true && ((((((k1 || k4) || f0) || f1) || t0) || t1) == false)) (.bool k2)), eqS (vF ((true && ((((((k1 || k4) || f0) || f1) || t0) || t1) == false)) && (k2 == true)) (.pointer (some ⟨wr.heap.size, 3, none⟩))), eqS (vF ((true && ((((((k1 || k4) || f0) || f1) || t0) || t1) == false)) && (k2 == true)) (.agg (setC dd.st))), eqS (vF ((true && ((((((k1 || k4) || f0) || f1) || t0) || t1) == false)) && (k2 == true)) (.agg (setC 0))), eqS (vF ((true && ((((((k1 || k4) || f0) || f1) || t0) || t1) == false)) && (k2 == true)) (.bool z)), eqS (vF (true && ((((((k1 || k4) || f0) || f1) || t0) || t1) == false)) (.bool (k2 && z))), eqS (.bool ((((((k1 || k4) || f0) || f1) || t0) || t1) || (k2 && z)))] [28, 29, 30, 31, 32, 33, 34, 35, 36, 37, 38, 39, 40, 41, 42, 43, 44, 45, 46, 47, 48, 49, 50, 51, 52, 53, 54, 55, 56, 57, 58, 59, 60, 61, 62, 63, 64, 65, 66, 67, 68, 69, 70] (by kernel_rfl) rfl ?_ ?_
      · skip
        refine Steps.cons (fun a' w' hG hB dep => gs_field (want_none rfl) _ _ _ rfl wr.heap.size 0 0 (hG.other 4 rfl) (fun wz => field_edge_0 wr.heap.size 0 wz) rfl) ?_
        refine Steps.cons (fun a' w' hG hB dep => gs_load1 (want_none rfl) _ _ rfl wr.heap.size (0) (dep 0 rfl 28 rfl) (.int .i64 (dd.kd)) ((blk_then h5 hB).cellv (i := 0) rfl) _ Try.underlying3 rfl rfl) ?_
        refine Steps.cons (fun a' w' hG hB dep => gs_lss_int (want_none rfl) _ _ _ _ rfl _ _ _ (dep 1 rfl 29 rfl) rfl (id (congrArg Value.bool hk1))) ?_
        refine Steps.cons (fun a' w' hG hB dep => gs_move (want_none rfl) _ rfl (id (dep 2 rfl 30 rfl))) ?_
        refine Steps.cons (fun a' w' hG hB dep => gs_guard (c := true) (b' := k1) rfl rfl (dep 3 rfl 31 rfl) (fun hc he hw => gs_field hw _ _ _ rfl wr.heap.size 0 0 (hG.other 4 rfl) (fun wz => field_edge_0 wr.heap.size 0 wz) (vF_yes (on_g hc he) _).symm) (fun hn => vF_no hn _)) ?_
        refine Steps.cons (fun a' w' hG hB dep => gs_guard (c := true) (b' := k1) rfl rfl (dep 3 rfl 31 rfl) (fun hc he hw => gs_load1 hw _ _ rfl wr.heap.size (0) (Eq.trans (dep 4 rfl 32 rfl) (vF_yes (on_g hc he) _)) (.int .i64 (dd.kd)) ((blk_then h5 hB).cellv (i := 0) rfl) _ Try.underlying3 rfl (vF_yes (on_g hc he) _).symm) (fun hn => vF_no hn _)) ?_
        refine Steps.cons (fun a' w' hG hB dep => gs_guard (c := true) (b' := k1) rfl rfl (dep 3 rfl 31 rfl) (fun hc he hw => gs_gtr_int hw _ _ _ _ rfl _ _ _ (Eq.trans (dep 5 rfl 33 rfl) (vF_yes (on_g hc he) _)) rfl (Eq.trans (congrArg Value.bool hk4) (vF_yes (on_g hc he) _).symm)) (fun hn => vF_no hn _)) ?_
        refine Steps.cons (fun a' w' hG hB dep => gs_pick (want_none rfl) _ _ _ rfl k1 (dep 3 rfl 31 rfl) (id (pick_or2 (c := true) rfl (dep 6 rfl 34 rfl)))) ?_
        refine Steps.cons (fun a' w' hG hB dep => gs_move (want_none rfl) _ rfl (id (dep 7 rfl 35 rfl))) ?_
        refine Steps.cons (fun a' w' hG hB dep => gs_guard (c := true) (b' := (k1 || k4)) rfl rfl (dep 8 rfl 36 rfl) (fun hc he hw => gs_field hw _ _ _ rfl wr.heap.size 0 1 (hG.other 4 rfl) (fun wz => field_edge_1 wr.heap.size 0 wz) (vF_yes (on_g hc he) _).symm) (fun hn => vF_no hn _)) ?_
        refine Steps.cons (fun a' w' hG hB dep => gs_guard (c := true) (b' := (k1 || k4)) rfl rfl (dep 8 rfl 36 rfl) (fun hc he hw => gs_load1 hw _ _ rfl wr.heap.size (1) (Eq.trans (dep 9 rfl 37 rfl) (vF_yes (on_g hc he) _)) (.int .i64 (dd.fr)) ((blk_then h5 hB).cellv (i := 1) rfl) _ Try.underlying3 rfl (vF_yes (on_g hc he) _).symm) (fun hn => vF_no hn _)) ?_
        refine Steps.cons (fun a' w' hG hB dep => gs_guard (c := true) (b' := (k1 || k4)) rfl rfl (dep 8 rfl 36 rfl) (fun hc he hw => gs_lss_int hw _ _ _ _ rfl _ _ _ (Eq.trans (dep 10 rfl 38 rfl) (vF_yes (on_g hc he) _)) rfl (Eq.trans (congrArg Value.bool hf0) (vF_yes (on_g hc he) _).symm)) (fun hn => vF_no hn _)) ?_
        refine Steps.cons (fun a' w' hG hB dep => gs_pick (want_none rfl) _ _ _ rfl (k1 || k4) (dep 8 rfl 36 rfl) (id (pick_or2 (c := true) rfl (dep 11 rfl 39 rfl)))) ?_
        refine Steps.cons (fun a' w' hG hB dep => gs_move (want_none rfl) _ rfl (id (dep 12 rfl 40 rfl))) ?_
        refine Steps.cons (fun a' w' hG hB dep => gs_guard (c := true) (b' := ((k1 || k4) || f0)) rfl rfl (dep 13 rfl 41 rfl) (fun hc he hw => gs_field hw _ _ _ rfl wr.heap.size 0 1 (hG.other 4 rfl) (fun wz => field_edge_1 wr.heap.size 0 wz) (vF_yes (on_g hc he) _).symm) (fun hn => vF_no hn _)) ?_
        refine Steps.cons (fun a' w' hG hB dep => gs_guard (c := true) (b' := ((k1 || k4) || f0)) rfl rfl (dep 13 rfl 41 rfl) (fun hc he hw => gs_load1 hw _ _ rfl wr.heap.size (1) (Eq.trans (dep 14 rfl 42 rfl) (vF_yes (on_g hc he) _)) (.int .i64 (dd.fr)) ((blk_then h5 hB).cellv (i := 1) rfl) _ Try.underlying3 rfl (vF_yes (on_g hc he) _).symm) (fun hn => vF_no hn _)) ?_
        refine Steps.cons (fun a' w' hG hB dep => gs_guard (c := true) (b' := ((k1 || k4) || f0)) rfl rfl (dep 13 rfl 41 rfl) (fun hc he hw => gs_field hw _ _ _ rfl w.heap.size 0 0 (hG.other 1 rfl) (fun wz => field_nfa_0 w.heap.size 0 wz) (vF_yes (on_g hc he) _).symm) (fun hn => vF_no hn _)) ?_
        refine Steps.cons (fun a' w' hG hB dep => gs_guard (c := true) (b' := ((k1 || k4) || f0)) rfl rfl (dep 13 rfl 41 rfl) (fun hc he hw => gs_load1 hw _ _ rfl w.heap.size (0) (Eq.trans (dep 16 rfl 44 rfl) (vF_yes (on_g hc he) _)) (.int .i64 (s)) ((blk_then h1 hB).cellv (i := 0) rfl) _ Try.underlying3 rfl (vF_yes (on_g hc he) _).symm) (fun hn => vF_no hn _)) ?_
        refine Steps.cons (fun a' w' hG hB dep => gs_guard (c := true) (b' := ((k1 || k4) || f0)) rfl rfl (dep 13 rfl 41 rfl) (fun hc he hw => gs_geq_int hw _ _ _ _ rfl _ _ _ (Eq.trans (dep 15 rfl 43 rfl) (vF_yes (on_g hc he) _)) (Eq.trans (dep 17 rfl 45 rfl) (vF_yes (on_g hc he) _)) (Eq.trans (congrArg Value.bool hf1) (vF_yes (on_g hc he) _).symm)) (fun hn => vF_no hn _)) ?_
        refine Steps.cons (fun a' w' hG hB dep => gs_pick (want_none rfl) _ _ _ rfl ((k1 || k4) || f0) (dep 13 rfl 41 rfl) (id (pick_or2 (c := true) rfl (dep 18 rfl 46 rfl)))) ?_
        refine Steps.cons (fun a' w' hG hB dep => gs_move (want_none rfl) _ rfl (id (dep 19 rfl 47 rfl))) ?_
        refine Steps.cons (fun a' w' hG hB dep => gs_guard (c := true) (b' := (((k1 || k4) || f0) || f1)) rfl rfl (dep 20 rfl 48 rfl) (fun hc he hw => gs_field hw _ _ _ rfl wr.heap.size 0 2 (hG.other 4 rfl) (fun wz => field_edge_2 wr.heap.size 0 wz) (vF_yes (on_g hc he) _).symm) (fun hn => vF_no hn _)) ?_
        refine Steps.cons (fun a' w' hG hB dep => gs_guard (c := true) (b' := (((k1 || k4) || f0) || f1)) rfl rfl (dep 20 rfl 48 rfl) (fun hc he hw => gs_load1 hw _ _ rfl wr.heap.size (2) (Eq.trans (dep 21 rfl 49 rfl) (vF_yes (on_g hc he) _)) (.int .i64 (dd.tt)) ((blk_then h5 hB).cellv (i := 2) rfl) _ Try.underlying3 rfl (vF_yes (on_g hc he) _).symm) (fun hn => vF_no hn _)) ?_
        refine Steps.cons (fun a' w' hG hB dep => gs_guard (c := true) (b' := (((k1 || k4) || f0) || f1)) rfl rfl (dep 20 rfl 48 rfl) (fun hc he hw => gs_lss_int hw _ _ _ _ rfl _ _ _ (Eq.trans (dep 22 rfl 50 rfl) (vF_yes (on_g hc he) _)) rfl (Eq.trans (congrArg Value.bool ht0) (vF_yes (on_g hc he) _).symm)) (fun hn => vF_no hn _)) ?_
        refine Steps.cons (fun a' w' hG hB dep => gs_pick (want_none rfl) _ _ _ rfl (((k1 || k4) || f0) || f1) (dep 20 rfl 48 rfl) (id (pick_or2 (c := true) rfl (dep 23 rfl 51 rfl)))) ?_
        refine Steps.cons (fun a' w' hG hB dep => gs_move (want_none rfl) _ rfl (id (dep 24 rfl 52 rfl))) ?_
        refine Steps.cons (fun a' w' hG hB dep => gs_guard (c := true) (b' := ((((k1 || k4) || f0) || f1) || t0)) rfl rfl (dep 25 rfl 53 rfl) (fun hc he hw => gs_field hw _ _ _ rfl wr.heap.size 0 2 (hG.other 4 rfl) (fun wz => field_edge_2 wr.heap.size 0 wz) (vF_yes (on_g hc he) _).symm) (fun hn => vF_no hn _)) ?_
        refine Steps.cons (fun a' w' hG hB dep => gs_guard (c := true) (b' := ((((k1 || k4) || f0) || f1) || t0)) rfl rfl (dep 25 rfl 53 rfl) (fun hc he hw => gs_load1 hw _ _ rfl wr.heap.size (2) (Eq.trans (dep 26 rfl 54 rfl) (vF_yes (on_g hc he) _)) (.int .i64 (dd.tt)) ((blk_then h5 hB).cellv (i := 2) rfl) _ Try.underlying3 rfl (vF_yes (on_g hc he) _).symm) (fun hn => vF_no hn _)) ?_
        refine Steps.cons (fun a' w' hG hB dep => gs_guard (c := true) (b' := ((((k1 || k4) || f0) || f1) || t0)) rfl rfl (dep 25 rfl 53 rfl) (fun hc he hw => gs_field hw _ _ _ rfl w.heap.size 0 0 (hG.other 1 rfl) (fun wz => field_nfa_0 w.heap.size 0 wz) (vF_yes (on_g hc he) _).symm) (fun hn => vF_no hn _)) ?_
        refine Steps.cons (fun a' w' hG hB dep => gs_guard (c := true) (b' := ((((k1 || k4) || f0) || f1) || t0)) rfl rfl (dep 25 rfl 53 rfl) (fun hc he hw => gs_load1 hw _ _ rfl w.heap.size (0) (Eq.trans (dep 28 rfl 56 rfl) (vF_yes (on_g hc he) _)) (.int .i64 (s)) ((blk_then h1 hB).cellv (i := 0) rfl) _ Try.underlying3 rfl (vF_yes (on_g hc he) _).symm) (fun hn => vF_no hn _)) ?_
        refine Steps.cons (fun a' w' hG hB dep => gs_guard (c := true) (b' := ((((k1 || k4) || f0) || f1) || t0)) rfl rfl (dep 25 rfl 53 rfl) (fun hc he hw => gs_geq_int hw _ _ _ _ rfl _ _ _ (Eq.trans (dep 27 rfl 55 rfl) (vF_yes (on_g hc he) _)) (Eq.trans (dep 29 rfl 57 rfl) (vF_yes (on_g hc he) _)) (Eq.trans (congrArg Value.bool ht1) (vF_yes (on_g hc he) _).symm)) (fun hn => vF_no hn _)) ?_
        refine Steps.cons (fun a' w' hG hB dep => gs_pick (want_none rfl) _ _ _ rfl ((((k1 || k4) || f0) || f1) || t0) (dep 25 rfl 53 rfl) (id (pick_or2 (c := true) rfl (dep 30 rfl 58 rfl)))) ?_
        refine Steps.cons (fun a' w' hG hB dep => gs_move (want_none rfl) _ rfl (id (dep 31 rfl 59 rfl))) ?_
        refine Steps.cons (fun a' w' hG hB dep => gs_guard (c := true) (b' := (((((k1 || k4) || f0) || f1) || t0) || t1)) rfl rfl (dep 32 rfl 60 rfl) (fun hc he hw => gs_field hw _ _ _ rfl wr.heap.size 0 0 (hG.other 4 rfl) (fun wz => field_edge_0 wr.heap.size 0 wz) (vF_yes (on_g hc he) _).symm) (fun hn => vF_no hn _)) ?_
        refine Steps.cons (fun a' w' hG hB dep => gs_guard (c := true) (b' := (((((k1 || k4) || f0) || f1) || t0) || t1)) rfl rfl (dep 32 rfl 60 rfl) (fun hc he hw => gs_load1 hw _ _ rfl wr.heap.size (0) (Eq.trans (dep 33 rfl 61 rfl) (vF_yes (on_g hc he) _)) (.int .i64 (dd.kd)) ((blk_then h5 hB).cellv (i := 0) rfl) _ Try.underlying3 rfl (vF_yes (on_g hc he) _).symm) (fun hn => vF_no hn _)) ?_
        refine Steps.cons (fun a' w' hG hB dep => gs_guard (c := true) (b' := (((((k1 || k4) || f0) || f1) || t0) || t1)) rfl rfl (dep 32 rfl 60 rfl) (fun hc he hw => gs_neq_int hw _ _ _ _ rfl _ _ _ (Eq.trans (dep 34 rfl 62 rfl) (vF_yes (on_g hc he) _)) rfl (Eq.trans (congrArg Value.bool hk2) (vF_yes (on_g hc he) _).symm)) (fun hn => vF_no hn _)) ?_
        refine Steps.cons (fun a' w' hG hB dep => gs_guard (c := true) (b' := (((((k1 || k4) || f0) || f1) || t0) || t1)) rfl rfl (dep 32 rfl 60 rfl) (fun hc he hw => gs_move hw _ rfl (Eq.trans (Eq.trans (dep 35 rfl 63 rfl) (vF_yes (on_g hc he) _)) (vF_yes (on_g hc he) _).symm)) (fun hn => vF_no hn _)) ?_
        refine Steps.cons (fun a' w' hG hB dep => gs_guard (c := (true && ((((((k1 || k4) || f0) || f1) || t0) || t1) == false))) (b' := k2) rfl rfl (dep 36 rfl 64 rfl) (fun hc he hw => gs_field hw _ _ _ rfl wr.heap.size 0 3 (hG.other 4 rfl) (fun wz => field_edge_3 wr.heap.size 0 wz) (vF_yes (on_g hc he) _).symm) (fun hn => vF_no hn _)) ?_
        refine Steps.cons (fun a' w' hG hB dep => gs_guard (c := (true && ((((((k1 || k4) || f0) || f1) || t0) || t1) == false))) (b' := k2) rfl rfl (dep 36 rfl 64 rfl) (fun hc he hw => gs_load_set_at hw _ rfl wr.heap.size 3 (Eq.trans (dep 37 rfl 65 rfl) (vF_yes (on_g hc he) _)) _ ((blk_then h5 hB).st) (vF_yes (on_g hc he) _).symm) (fun hn => vF_no hn _)) ?_
        refine Steps.cons (fun a' w' hG hB dep => gs_guard (c := (true && ((((((k1 || k4) || f0) || f1) || t0) || t1) == false))) (b' := k2) rfl rfl (dep 36 rfl 64 rfl) (fun hc he hw => gs_build_set0 hw rfl (vF_yes (on_g hc he) _).symm) (fun hn => vF_no hn _)) ?_
        refine Steps.cons (fun a' w' hG hB dep => gs_guard (c := (true && ((((((k1 || k4) || f0) || f1) || t0) || t1) == false))) (b' := k2) rfl rfl (dep 36 rfl 64 rfl) (fun hc he hw => gs_neq_set hw _ _ _ rfl _ _ (Eq.trans (dep 38 rfl 66 rfl) (vF_yes (on_g hc he) _)) (Eq.trans (dep 39 rfl 67 rfl) (vF_yes (on_g hc he) _)) (Eq.trans (congrArg Value.bool hz) (vF_yes (on_g hc he) _).symm)) (fun hn => vF_no hn _)) ?_
        refine Steps.cons (fun a' w' hG hB dep => gs_guard (c := true) (b' := (((((k1 || k4) || f0) || f1) || t0) || t1)) rfl rfl (dep 32 rfl 60 rfl) (fun hc he hw => gs_pick hw _ _ _ rfl k2 (Eq.trans (dep 36 rfl 64 rfl) (vF_yes (on_g hc he) _)) (Eq.trans (pick_and2 (c := (true && ((((((k1 || k4) || f0) || f1) || t0) || t1) == false))) (on_g hc he) (dep 40 rfl 68 rfl)) (vF_yes (on_g hc he) _).symm)) (fun hn => vF_no hn _)) ?_
        refine Steps.cons (fun a' w' hG hB dep => gs_pick (want_none rfl) _ _ _ rfl (((((k1 || k4) || f0) || f1) || t0) || t1) (dep 32 rfl 60 rfl) (id (pick_or2 (c := true) rfl (dep 41 rfl 69 rfl)))) ?_
        exact Steps.nil
      rw [← hbd]
      intro u W4 hB4 ans
      have u70 : u 70 = .bool (badE s dd) := ans 42 70 (by decide) rfl
      obtain ⟨q, hq⟩ : ∃ q, badE s dd = q := ⟨_, rfl⟩
      rw [hq] at u70
      clear ans hbd hk1 hk4 hk2 hf0 hf1 ht0 ht1 hz
      simp only [putAll, List.foldl_cons, List.foldl_nil, Act.put, List.setIfInBounds_toArray, List.set_cons_zero, List.set_cons_succ, u70]
      clear u70
      simp only [List.drop]
      refine wpList_nil ?_
      replace h1 := blk_then h1 hB4
      replace hB1 := below_then hB1 hB4
      replace hlw := Nat.lt_of_lt_of_le hlw hB4.size
      cases q
      · go_wp2_with (fail)
        exact ⟨⟨k + 1, by omega, rfl, h1, Lib.hid (Hst.out.trans (by rw [hq]; rfl)), hB1, hlw⟩, by simp only [intOf]; omega⟩
      · go_wp2_with (fail)
        go_ret
        exact ⟨by rw [Hr0.out _ (Hbad.out hq)]; rfl, hB1⟩
    · have hkI : ¬ (k : Int) < n := by omega
      go_wp2_with (fail)
      go_ret
      have hall2 := hall.out
      rw [List.take_of_length_le (by rw [← Hn.out]; omega)] at hall2
      exact ⟨by rw [Hr0.out _ hall2]; rfl, hB1⟩
end Go.Proofs.Ytgahdookojbbiaa
