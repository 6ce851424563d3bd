/- heronref08's Walk.spread. No condition beyond those named in each lemma. -/
import Derived.Test.YtgahdookojbbiaaDoorRefB
namespace Go.Proofs.YtgahdookojbbiaaDoor
open Go.RowKit Go.Shelf Go.Maps
set_option linter.unusedVariables false
set_option linter.unusedSimpArgs false
attribute [local go_sem] Oper.semAt_some

/-- more of a set's bits -/
theorem bits_grow {y z N q : Nat} (hyz : ∀ i, y.testBit i = true → z.testBit i = true) (hz : below z N) (hq : q < N) (h1 : z.testBit q = false) : (bitsTo y N).length < (bitsTo (z ||| 2 ^ q) N).length := by
  rw [bits_add hq h1]
  have : (bitsTo y N).length ≤ (bitsTo z N).length := by
    unfold bitsTo
    have key : ∀ l : List Nat, (l.filter y.testBit).length ≤ (l.filter z.testBit).length := fun l => by
      induction l with
      | nil => simp
      | cons a l ih =>
        simp only [List.filter_cons]
        cases hy : y.testBit a
        · cases z.testBit a <;> simp <;> omega
        · rw [hyz a hy]; simp; exact ih
    exact key _
  omega
set_option maxRecDepth 100000 in
set_option maxHeartbeats 4000000 in
theorem rspread_any (B0 gr N n c0 m d0 : Nat) (E : List Edg) (R : List Nat) (A B : Option Addr) (vin : Value) (met : Nat) (first : Bool) (Ai : Option Addr) (ci x Bi : Nat) (beg en : Bool) (hx : below x N) (w : World) (hM : RMach B0 w N E R A n B m) (hw : Blk w gr 61 (rwalkC N A n c0 B m d0 vin met first)) (hin : SliceOf w Bi 1 encB Ai (boolsN x N)) :
    Calls Tryd.prog 25 #[.pointer (some ⟨gr, 0, none⟩), .slice Ai N ci, .bool beg, .bool en] w fun e w' => ∃ g cap, e = .returned (.slice (some ⟨g, 0, none⟩) N cap) ∧ w.heap.size ≤ g ∧ Own w' w.heap.size 4 1 encB (.slice (some ⟨g, 0, none⟩) N cap) (boolsN (spreadN E N beg en x) N) ∧ Below w.heap.size w w' := by
  have hN := hM.lN
  have hone := hM.fits.one
  have hfr := hM.fits.fr
  have htt := hM.fits.tt
  have hn2 : n ≤ 1099511627776 := by rw [hM.nE]; exact hM.lE
  have Hn := Lib.hid hM.nE
  obtain ⟨i0, hi0, hz0, hz1, hz2⟩ := info_parts info_bool3
  go_enter Tryd.func25, Tryd.ntmps25
  go_wp2_with (at_builtin; refine wl_append (enc := encB) _ rfl _ _ 59 rfl w.heap.size 4 i0 _ 1 1 Tryd.underlying59 hi0 hz0 hz1 hz2 rfl (by decide) encB_size encB_one (.slice none 0 0) _ rfl (Own.nil_ w w.heap.size 4 1 encB) _ _ _ _ (boolsN x N) rfl (boolsN_length _ _).symm hin (by simp only [List.length_nil]; unfold maxLen; omega) (by simp only [List.length_nil]; omega) (Nat.le_refl _) ?_; intro v1 w1 hs1 hg1 _; rw [List.nil_append] at hs1; obtain ⟨g, cap, hv1, hgb, hgl, _⟩ := hs1.form (by rw [boolsN_length]; exact hone); rw [boolsN_length] at hv1; subst hv1)
  have hB1 : Below w.heap.size w w1 := ⟨hg1.os, hg1.tape, hg1.output, hg1.size, fun k hk => hg1.block k hk (by simp [Value.ownBlock])⟩
  have hM1 := hM.then_ hB1
  have hw1 := blk_then hw hB1
  clear hg1 hi0 hz0 hz1 hz2 hin
  have hgl' := hs1.lt g rfl
  go_loopw [10] (fun mv wr => ∃ (mb : Bool) (y : Nat), mv = .bool mb ∧ Own wr w.heap.size 4 1 encB (.slice (some ⟨g, 0, none⟩) N cap) (boolsN y N) ∧ RMach B0 wr N E R A n B m ∧ Blk wr gr 61 (rwalkC N A n c0 B m d0 vin met first) ∧ Below w.heap.size w wr ∧ (∀ i, x.testBit i = true → y.testBit i = true) ∧ below y N ∧ (∀ i, y.testBit i = true → Reach E beg en x i) ∧ (mb = false → ∀ d ∈ E, may beg en d = true → y.testBit d.fr.toNat = true → y.testBit d.tt.toNat = true)) (fun mv wr => 2 * (N - trues wr g N) + litN mv)
  case atStart => exact ⟨true, x, rfl, hs1, hM1, hw1, hB1, fun _ h => h, hx, fun _ h => .base h, fun h => by cases h⟩
  case round =>
    clear hs1 hM1 hw1 hB1
    obtain ⟨mb, y, rfl, hS, hM1, hw1, hB1, hxy, hyN, hrch, hcl⟩ := hrel
    have htr := trues_own hS
    cases mb
    · have hcl0 := hcl rfl
      go_wp2_with (fail)
      go_ret
      have hy := spread_is htt hx hxy hcl0 hrch
      rw [← hy]
      exact ⟨g, cap, rfl, hgb, hS, hB1⟩
    · clear hcl
      have Htr := Lib.hid htr
      clear htr
      go_wp2_with (fail)
      go_loopw [10, 11] (fun mv iv wi => ∃ (mb : Bool) (z k : Nat), k ≤ n ∧ mv = .bool mb ∧ iv = .int .i64 k ∧ Own wi w.heap.size 4 1 encB (.slice (some ⟨g, 0, none⟩) N cap) (boolsN z N) ∧ RMach B0 wi N E R A n B m ∧ Blk wi gr 61 (rwalkC N A n c0 B m d0 vin met first) ∧ Below w.heap.size w wi ∧ (∀ i, y.testBit i = true → z.testBit i = true) ∧ below z N ∧ (∀ i, z.testBit i = true → Reach E beg en x i) ∧ (mb = false → z = y ∧ ∀ d ∈ E.take k, may beg en d = true → y.testBit d.fr.toNat = true → y.testBit d.tt.toNat = true) ∧ (mb = true → (bitsTo y N).length < (bitsTo z N).length)) (fun _ iv _ => n - (intOf iv).toNat)
      case atStart => exact ⟨false, y, 0, by omega, rfl, rfl, hS, hM1, hw1, hB1, fun _ h => h, hyN, hrch, fun _ => ⟨rfl, fun d hd => by simp at hd⟩, fun h => by cases h⟩
      case round =>
        clear hS hM1 hw1 hB1 hrch hyN
        rename_i wr0 _ _
        obtain ⟨mb, z, k, hk, rfl, rfl, hS, hM1, hw1, hB1, hyz, hzN, hrch, hcl, hgr⟩ := hrel
        have cE : wr.cell? ⟨gr, 1, none⟩ = some (.slice A n c0) := hw1.cellv (i := 1) rfl
        by_cases hkl : k < n
        · have hkI : (k : Int) < n := by omega
          have hkE : k < E.length := by rw [← Hn.out]; exact hkl
          obtain ⟨bA, offA, rfl, hbA, hrows⟩ := hM1.edges.at_ (by omega)
          have hr0 := hrows k hkE
          obtain ⟨dd, hd⟩ : ∃ d, d = E[k] := ⟨_, rfl⟩
          rw [← hd] at hr0
          have hdE : dd ∈ E := by rw [hd]; exact List.getElem_mem hkE
          have htk : E.take (k + 1) = E.take k ++ [dd] := by rw [List.take_succ_eq_append_getElem hkE, ← hd]
          have Htk := Lib.hid htk
          clear hd htk
          have hkb : k < 1099511628000 := by omega
          go_upto_region 10 with (first | (refine wl_load_edge_at rfl _ rfl _ _ rfl _ hr0 ?_) | (refine wl_store_edge rfl _ _ rfl _ _ rfl rfl edge0 (Blk.new _ _ _) ?_; intro w3 h5 hg3))
          have hB3 := below_grown (below_alloc (Below.refl _ wr) (.cells #[.int .i64 0, .int .i64 0, .int .i64 0, .int .u64 0, .int .u64 0, .int .u64 0, .int .u64 0] 53)) hg3 (Nat.le_refl _)
          replace hS := hS.then_ hB3
          replace hM1 := hM1.then_ hB3
          replace hw1 := blk_then hw1 hB3
          replace hB1 := below_then hB1 hB3
          have hl5 := h5.lt
          clear hr0 hg3 hB3 cE
          obtain ⟨k1, hk1⟩ : ∃ q, (dd.kd == 1) = q := ⟨_, rfl⟩
          obtain ⟨k3, hk3⟩ : ∃ q, (dd.kd == 3) = q := ⟨_, rfl⟩
          obtain ⟨k4, hk4⟩ : ∃ q, (dd.kd == 4) = q := ⟨_, rfl⟩
          have hmay : may beg en dd = ((k1 || (k3 && beg)) || (k4 && en)) := by unfold may; rw [hk1, hk3, hk4, Bool.and_comm beg, Bool.and_comm en]
          refine wp_region_text 20 [eqS (.pointer (some ⟨wr.heap.size, 0, none⟩)), eqS (.int .i64 (dd.kd)), eqS (.bool k1), eqS (.bool k1), eqS (vF (true && (k1 == false)) (.pointer (some ⟨wr.heap.size, 0, none⟩))), eqS (vF (true && (k1 == false)) (.int .i64 (dd.kd))), eqS (vF (true && (k1 == false)) (.bool k3)), eqS (vF (true && (k1 == false)) (.bool k3)), eqS (vF ((true && (k1 == false)) && (k3 == true)) (.bool beg)), eqS (vF (true && (k1 == false)) (.bool (k3 && beg))), eqS (.bool (k1 || (k3 && beg))), eqS (.bool (k1 || (k3 && beg))), eqS (vF (true && ((k1 || (k3 && beg)) == false)) (.pointer (some ⟨wr.heap.size, 0, none⟩))), eqS (vF (true && ((k1 || (k3 && beg)) == false)) (.int .i64 (dd.kd))), eqS (vF (true && ((k1 || (k3 && beg)) == false)) (.bool k4)), eqS (vF (true && ((k1 || (k3 && beg)) == false)) (.bool k4)), eqS (vF ((true && ((k1 || (k3 && beg)) == false)) && (k4 == true)) (.bool en)), eqS (vF (true && ((k1 || (k3 && beg)) == false)) (.bool (k4 && en))), eqS (.bool ((k1 || (k3 && beg)) || (k4 && en))), eqS (.bool ((k1 || (k3 && beg)) || (k4 && en)))] [36, 37, 38, 39, 40, 41, 42, 43, 44, 45, 46, 47, 48, 49, 50, 51, 52, 53, 54, 13] (by kernel_rfl) rfl ?_ ?_
          · skip
            refine Steps.cons (fun a' w' hG hB dep => gs_field (want_none rfl) _ _ _ rfl wr.heap.size 0 0 (hG.other 12 rfl) (fun wz => field_edge_0 wr.heap.size 0 wz) rfl) ?_
            refine Steps.cons (fun a' w' hG hB dep => gs_load1 (want_none rfl) _ _ rfl wr.heap.size (0) (dep 0 rfl 36 rfl) (.int .i64 (dd.kd)) ((blk_then h5 hB).cellv (i := 0) rfl) _ Tryd.underlying3 rfl rfl) ?_
            refine Steps.cons (fun a' w' hG hB dep => gs_eql_int (want_none rfl) _ _ _ _ rfl _ _ _ (dep 1 rfl 37 rfl) rfl (id (congrArg Value.bool hk1))) ?_
            refine Steps.cons (fun a' w' hG hB dep => gs_move (want_none rfl) _ rfl (id (dep 2 rfl 38 rfl))) ?_
            refine Steps.cons (fun a' w' hG hB dep => gs_guard (c := true) (b' := k1) rfl rfl (dep 3 rfl 39 rfl) (fun hc he hw => gs_field hw _ _ _ rfl wr.heap.size 0 0 (hG.other 12 rfl) (fun wz => field_edge_0 wr.heap.size 0 wz) (vF_yes (on_g hc he) _).symm) (fun hn => vF_no hn _)) ?_
            refine Steps.cons (fun a' w' hG hB dep => gs_guard (c := true) (b' := k1) rfl rfl (dep 3 rfl 39 rfl) (fun hc he hw => gs_load1 hw _ _ rfl wr.heap.size (0) (Eq.trans (dep 4 rfl 40 rfl) (vF_yes (on_g hc he) _)) (.int .i64 (dd.kd)) ((blk_then h5 hB).cellv (i := 0) rfl) _ Tryd.underlying3 rfl (vF_yes (on_g hc he) _).symm) (fun hn => vF_no hn _)) ?_
            refine Steps.cons (fun a' w' hG hB dep => gs_guard (c := true) (b' := k1) rfl rfl (dep 3 rfl 39 rfl) (fun hc he hw => gs_eql_int hw _ _ _ _ rfl _ _ _ (Eq.trans (dep 5 rfl 41 rfl) (vF_yes (on_g hc he) _)) rfl (Eq.trans (congrArg Value.bool hk3) (vF_yes (on_g hc he) _).symm)) (fun hn => vF_no hn _)) ?_
            refine Steps.cons (fun a' w' hG hB dep => gs_guard (c := true) (b' := k1) rfl rfl (dep 3 rfl 39 rfl) (fun hc he hw => gs_move hw _ rfl (Eq.trans (Eq.trans (dep 6 rfl 42 rfl) (vF_yes (on_g hc he) _)) (vF_yes (on_g hc he) _).symm)) (fun hn => vF_no hn _)) ?_
            refine Steps.cons (fun a' w' hG hB dep => gs_guard (c := (true && (k1 == false))) (b' := k3) rfl rfl (dep 7 rfl 43 rfl) (fun hc he hw => gs_move hw _ rfl (Eq.trans (hG.other 2 rfl) (vF_yes (on_g hc he) _).symm)) (fun hn => vF_no hn _)) ?_
            refine Steps.cons (fun a' w' hG hB dep => gs_guard (c := true) (b' := k1) rfl rfl (dep 3 rfl 39 rfl) (fun hc he hw => gs_pick hw _ _ _ rfl k3 (Eq.trans (dep 7 rfl 43 rfl) (vF_yes (on_g hc he) _)) (Eq.trans (pick_and2 (c := (true && (k1 == false))) (on_g hc he) (dep 8 rfl 44 rfl)) (vF_yes (on_g hc he) _).symm)) (fun hn => vF_no hn _)) ?_
            refine Steps.cons (fun a' w' hG hB dep => gs_pick (want_none rfl) _ _ _ rfl k1 (dep 3 rfl 39 rfl) (id (pick_or2 (c := true) rfl (dep 9 rfl 45 rfl)))) ?_
            refine Steps.cons (fun a' w' hG hB dep => gs_move (want_none rfl) _ rfl (id (dep 10 rfl 46 rfl))) ?_
            refine Steps.cons (fun a' w' hG hB dep => gs_guard (c := true) (b' := (k1 || (k3 && beg))) rfl rfl (dep 11 rfl 47 rfl) (fun hc he hw => gs_field hw _ _ _ rfl wr.heap.size 0 0 (hG.other 12 rfl) (fun wz => field_edge_0 wr.heap.size 0 wz) (vF_yes (on_g hc he) _).symm) (fun hn => vF_no hn _)) ?_
            refine Steps.cons (fun a' w' hG hB dep => gs_guard (c := true) (b' := (k1 || (k3 && beg))) rfl rfl (dep 11 rfl 47 rfl) (fun hc he hw => gs_load1 hw _ _ rfl wr.heap.size (0) (Eq.trans (dep 12 rfl 48 rfl) (vF_yes (on_g hc he) _)) (.int .i64 (dd.kd)) ((blk_then h5 hB).cellv (i := 0) rfl) _ Tryd.underlying3 rfl (vF_yes (on_g hc he) _).symm) (fun hn => vF_no hn _)) ?_
            refine Steps.cons (fun a' w' hG hB dep => gs_guard (c := true) (b' := (k1 || (k3 && beg))) rfl rfl (dep 11 rfl 47 rfl) (fun hc he hw => gs_eql_int hw _ _ _ _ rfl _ _ _ (Eq.trans (dep 13 rfl 49 rfl) (vF_yes (on_g hc he) _)) rfl (Eq.trans (congrArg Value.bool hk4) (vF_yes (on_g hc he) _).symm)) (fun hn => vF_no hn _)) ?_
            refine Steps.cons (fun a' w' hG hB dep => gs_guard (c := true) (b' := (k1 || (k3 && beg))) rfl rfl (dep 11 rfl 47 rfl) (fun hc he hw => gs_move hw _ rfl (Eq.trans (Eq.trans (dep 14 rfl 50 rfl) (vF_yes (on_g hc he) _)) (vF_yes (on_g hc he) _).symm)) (fun hn => vF_no hn _)) ?_
            refine Steps.cons (fun a' w' hG hB dep => gs_guard (c := (true && ((k1 || (k3 && beg)) == false))) (b' := k4) rfl rfl (dep 15 rfl 51 rfl) (fun hc he hw => gs_move hw _ rfl (Eq.trans (hG.other 3 rfl) (vF_yes (on_g hc he) _).symm)) (fun hn => vF_no hn _)) ?_
            refine Steps.cons (fun a' w' hG hB dep => gs_guard (c := true) (b' := (k1 || (k3 && beg))) rfl rfl (dep 11 rfl 47 rfl) (fun hc he hw => gs_pick hw _ _ _ rfl k4 (Eq.trans (dep 15 rfl 51 rfl) (vF_yes (on_g hc he) _)) (Eq.trans (pick_and2 (c := (true && ((k1 || (k3 && beg)) == false))) (on_g hc he) (dep 16 rfl 52 rfl)) (vF_yes (on_g hc he) _).symm)) (fun hn => vF_no hn _)) ?_
            refine Steps.cons (fun a' w' hG hB dep => gs_pick (want_none rfl) _ _ _ rfl (k1 || (k3 && beg)) (dep 11 rfl 47 rfl) (id (pick_or2 (c := true) rfl (dep 17 rfl 53 rfl)))) ?_
            refine Steps.cons (fun a' w' hG hB dep => gs_assign (want_none rfl) _ rfl (id (dep 18 rfl 54 rfl))) ?_
            exact Steps.nil
          rw [← hmay]
          intro u W4 hB4 ans
          obtain ⟨f, hf⟩ : ∃ q, may beg en dd = q := ⟨_, rfl⟩
          have u13 : u 13 = .bool f := (ans 19 13 (by decide) rfl).trans (by rw [hf])
          clear ans hmay hk1 hk3 hk4
          simp only [putAll, List.foldl_cons, List.foldl_nil, Act.put, List.setIfInBounds_toArray, List.set_cons_zero, List.set_cons_succ, u13]
          clear u13
          simp only [List.drop]
          refine wpList_nil ?_
          replace hS := hS.then_ hB4
          replace hM1 := hM1.then_ hB4
          replace hw1 := blk_then hw1 hB4
          replace hB1 := below_then hB1 hB4
          replace h5 := blk_then h5 hB4
          have hl4 := hB4.size
          clear hB4
          have hfb := hfr dd hdE
          have htb := htt dd hdE
          obtain ⟨p, hp⟩ : ∃ q : Nat, dd.fr = (q : Int) := ⟨dd.fr.toNat, by omega⟩
          obtain ⟨q, hq⟩ : ∃ q : Nat, dd.tt = (q : Int) := ⟨dd.tt.toNat, by omega⟩
          have hpN : p < N := by omega
          have hqN : q < N := by omega
          have hpt : dd.fr.toNat = p := by omega
          have hqt : dd.tt.toNat = q := by omega
          obtain ⟨zp, hzp0⟩ : ∃ b, z.testBit p = b := ⟨_, rfl⟩
          obtain ⟨zq, hzq0⟩ : ∃ b, z.testBit q = b := ⟨_, rfl⟩
          have hcp : ∀ {X : World}, Below W4.heap.size W4 X → X.cell? ⟨wr.heap.size, 1, none⟩ = some (.int .i64 ((p : Nat) : Int)) := fun hb => by rw [← hp]; exact (blk_then h5 hb).cellv (i := 1) rfl
          have hcq : ∀ {X : World}, Below W4.heap.size W4 X → X.cell? ⟨wr.heap.size, 2, none⟩ = some (.int .i64 ((q : Nat) : Int)) := fun hb => by rw [← hq]; exact (blk_then h5 hb).cellv (i := 2) rfl
          have hrb : ∀ (j : Nat) (b : Bool), j < N → z.testBit j = b → ∀ {X : World}, Below W4.heap.size W4 X → X.cell? ⟨g, 0 + j * 1, none⟩ = some (.bool b) := fun j b hj hb0 X hb => by
            have hl : j < (boolsN z N).length := by rw [boolsN_length]; exact hj
            have := (hS.then_ hb).row encB_size j hl 0 _ rfl
            rw [boolsN_get, hb0] at this
            rw [Nat.zero_add]
            exact this
          have hzp : ∀ {X : World}, Below W4.heap.size W4 X → X.cell? ⟨g, 0 + p * 1, none⟩ = some (.bool zp) := fun hb => hrb p zp hpN hzp0 hb
          have hzq : ∀ {X : World}, Below W4.heap.size W4 X → X.cell? ⟨g, 0 + q * 1, none⟩ = some (.bool zq) := fun hb => hrb q zq hqN hzq0 hb
          go_upto_region 11 with (fail)
          refine wp_region_text 16 [eqS (.bool f), eqS (.bool f), eqS (vF (true && (f == true)) (.slice (some ⟨g, 0, none⟩) N cap)), eqS (vF (true && (f == true)) (.pointer (some ⟨wr.heap.size, 1, none⟩))), eqS (vF (true && (f == true)) (.int .i64 (((p : Nat) : Int)))), eqS (vF (true && (f == true)) (.pointer (some ⟨g, 0 + p * 1, none⟩))), eqS (vF (true && (f == true)) (.bool zp)), eqS (.bool (f && zp)), eqS (.bool (f && zp)), eqS (vF (true && ((f && zp) == true)) (.slice (some ⟨g, 0, none⟩) N cap)), eqS (vF (true && ((f && zp) == true)) (.pointer (some ⟨wr.heap.size, 2, none⟩))), eqS (vF (true && ((f && zp) == true)) (.int .i64 (((q : Nat) : Int)))), eqS (vF (true && ((f && zp) == true)) (.pointer (some ⟨g, 0 + q * 1, none⟩))), eqS (vF (true && ((f && zp) == true)) (.bool zq)), eqS (vF (true && ((f && zp) == true)) (.bool (!zq))), eqS (.bool ((f && zp) && (!zq)))] [55, 56, 57, 58, 59, 60, 61, 62, 63, 64, 65, 66, 67, 68, 69, 70] (by kernel_rfl) rfl ?_ ?_
          · skip
            refine Steps.cons (fun a' w' hG hB dep => gs_move (want_none rfl) _ rfl (id (hG.other 13 rfl))) ?_
            refine Steps.cons (fun a' w' hG hB dep => gs_move (want_none rfl) _ rfl (id (dep 0 rfl 55 rfl))) ?_
            refine Steps.cons (fun a' w' hG hB dep => gs_guard (c := true) (b' := f) rfl rfl (dep 1 rfl 56 rfl) (fun hc he hw => gs_move hw _ rfl (Eq.trans (hG.other 9 rfl) (vF_yes (on_g hc he) _).symm)) (fun hn => vF_no hn _)) ?_
            refine Steps.cons (fun a' w' hG hB dep => gs_guard (c := true) (b' := f) rfl rfl (dep 1 rfl 56 rfl) (fun hc he hw => gs_field hw _ _ _ rfl wr.heap.size 0 1 (hG.other 12 rfl) (fun wz => field_edge_1 wr.heap.size 0 wz) (vF_yes (on_g hc he) _).symm) (fun hn => vF_no hn _)) ?_
            refine Steps.cons (fun a' w' hG hB dep => gs_guard (c := true) (b' := f) rfl rfl (dep 1 rfl 56 rfl) (fun hc he hw => gs_load1 hw _ _ rfl wr.heap.size (1) (Eq.trans (dep 3 rfl 58 rfl) (vF_yes (on_g hc he) _)) (.int .i64 (((p : Nat) : Int))) (hcp hB) _ Tryd.underlying3 rfl (vF_yes (on_g hc he) _).symm) (fun hn => vF_no hn _)) ?_
            refine Steps.cons (fun a' w' hG hB dep => gs_guard (c := true) (b' := f) rfl rfl (dep 1 rfl 56 rfl) (fun hc he hw => gs_index hw _ _ _ rfl under_bools 1 size_boolE g 0 N cap (p) (Eq.trans (dep 2 rfl 57 rfl) (vF_yes (on_g hc he) _)) (Eq.trans (dep 4 rfl 59 rfl) (vF_yes (on_g hc he) _)) hpN (vF_yes (on_g hc he) _).symm) (fun hn => vF_no hn _)) ?_
            refine Steps.cons (fun a' w' hG hB dep => gs_guard (c := true) (b' := f) rfl rfl (dep 1 rfl 56 rfl) (fun hc he hw => gs_load1 hw _ _ rfl g (0 + p * 1) (Eq.trans (dep 5 rfl 60 rfl) (vF_yes (on_g hc he) _)) (.bool zp) (hzp hB) _ Tryd.underlying4 rfl (vF_yes (on_g hc he) _).symm) (fun hn => vF_no hn _)) ?_
            refine Steps.cons (fun a' w' hG hB dep => gs_pick (want_none rfl) _ _ _ rfl f (dep 1 rfl 56 rfl) (id (pick_and2 (c := true) rfl (dep 6 rfl 61 rfl)))) ?_
            refine Steps.cons (fun a' w' hG hB dep => gs_move (want_none rfl) _ rfl (id (dep 7 rfl 62 rfl))) ?_
            refine Steps.cons (fun a' w' hG hB dep => gs_guard (c := true) (b' := (f && zp)) rfl rfl (dep 8 rfl 63 rfl) (fun hc he hw => gs_move hw _ rfl (Eq.trans (hG.other 9 rfl) (vF_yes (on_g hc he) _).symm)) (fun hn => vF_no hn _)) ?_
            refine Steps.cons (fun a' w' hG hB dep => gs_guard (c := true) (b' := (f && zp)) rfl rfl (dep 8 rfl 63 rfl) (fun hc he hw => gs_field hw _ _ _ rfl wr.heap.size 0 2 (hG.other 12 rfl) (fun wz => field_edge_2 wr.heap.size 0 wz) (vF_yes (on_g hc he) _).symm) (fun hn => vF_no hn _)) ?_
            refine Steps.cons (fun a' w' hG hB dep => gs_guard (c := true) (b' := (f && zp)) rfl rfl (dep 8 rfl 63 rfl) (fun hc he hw => gs_load1 hw _ _ rfl wr.heap.size (2) (Eq.trans (dep 10 rfl 65 rfl) (vF_yes (on_g hc he) _)) (.int .i64 (((q : Nat) : Int))) (hcq hB) _ Tryd.underlying3 rfl (vF_yes (on_g hc he) _).symm) (fun hn => vF_no hn _)) ?_
            refine Steps.cons (fun a' w' hG hB dep => gs_guard (c := true) (b' := (f && zp)) rfl rfl (dep 8 rfl 63 rfl) (fun hc he hw => gs_index hw _ _ _ rfl under_bools 1 size_boolE g 0 N cap (q) (Eq.trans (dep 9 rfl 64 rfl) (vF_yes (on_g hc he) _)) (Eq.trans (dep 11 rfl 66 rfl) (vF_yes (on_g hc he) _)) hqN (vF_yes (on_g hc he) _).symm) (fun hn => vF_no hn _)) ?_
            refine Steps.cons (fun a' w' hG hB dep => gs_guard (c := true) (b' := (f && zp)) rfl rfl (dep 8 rfl 63 rfl) (fun hc he hw => gs_load1 hw _ _ rfl g (0 + q * 1) (Eq.trans (dep 12 rfl 67 rfl) (vF_yes (on_g hc he) _)) (.bool zq) (hzq hB) _ Tryd.underlying4 rfl (vF_yes (on_g hc he) _).symm) (fun hn => vF_no hn _)) ?_
            refine Steps.cons (fun a' w' hG hB dep => gs_guard (c := true) (b' := (f && zp)) rfl rfl (dep 8 rfl 63 rfl) (fun hc he hw => gs_not_bool hw _ _ rfl _ (Eq.trans (dep 13 rfl 68 rfl) (vF_yes (on_g hc he) _)) (vF_yes (on_g hc he) _).symm) (fun hn => vF_no hn _)) ?_
            refine Steps.cons (fun a' w' hG hB dep => gs_pick (want_none rfl) _ _ _ rfl (f && zp) (dep 8 rfl 63 rfl) (id (pick_and2 (c := true) rfl (dep 14 rfl 69 rfl)))) ?_
            exact Steps.nil
          intro u2 W5 hB5 ans
          obtain ⟨r, hr⟩ : ∃ b, ((f && zp) && (!zq)) = b := ⟨_, rfl⟩
          have u70 : u2 70 = .bool r := (ans 15 70 (by decide) rfl).trans (by rw [hr])
          clear ans
          simp only [putAll, List.foldl_cons, List.foldl_nil, Act.put, List.setIfInBounds_toArray, List.set_cons_zero, List.set_cons_succ, u70]
          clear u70
          simp only [List.drop]
          refine wpList_nil ?_
          replace hS := hS.then_ hB5
          replace hM1 := hM1.then_ hB5
          replace hw1 := blk_then hw1 hB5
          replace hB1 := below_then hB1 hB5
          have hcq5 := hcq hB5
          clear hcp hcq hzp hzq hrb hB5 h5
          cases r
          · clear hcq5
            go_wp2_with (fail)
            refine ⟨⟨mb, z, k + 1, by omega, rfl, rfl, hS, hM1, hw1, hB1, hyz, hzN, hrch, fun hmb => ⟨(hcl hmb).1, fun d hd hm h1 => ?_⟩, hgr⟩, by simp only [intOf]; omega⟩
            rw [Htk.out, List.mem_append, List.mem_singleton] at hd
            rcases hd with hd | rfl
            · exact (hcl hmb).2 d hd hm h1
            · rw [hpt, ← (hcl hmb).1] at h1
              rw [hqt, ← (hcl hmb).1]
              rw [hf] at hm
              rw [hzp0] at h1
              rw [hzq0]
              subst hm; subst h1
              simpa using hr
          · have hr3 : f = true ∧ zp = true ∧ zq = false := by
              cases f <;> cases zp <;> cases zq <;> simp_all
            obtain ⟨rfl, rfl, rfl⟩ := hr3
            have hgl5 := hS.lt g rfl
            go_wp2_with (refine wl_store_one (enc := encB) encB_size rfl _ info_bool1 _ _ rfl g q N cap rfl true rfl rfl rfl hS (by rw [boolsN_length]; exact hqN) ?_; intro w6 hS6 hg6)
            rw [boolsN_set] at hS6
            have hne : gr ≠ g := fun e => own_blk_ne hS hw1 (by decide) (by rw [e]; rfl)
            exact ⟨⟨true, z ||| 2 ^ q, k + 1, by omega, rfl, rfl, hS6, hM1.grown hg6 (by have := hM.low; omega), blk_grown hw1 hg6 hne, below_grown hB1 hg6 hgb, fun i hi => by rw [testBit_or_pow, hyz i hi]; rfl, below_or hzN (below_pow hqN), fun i hi => by
              rw [testBit_or_pow, Bool.or_eq_true, decide_eq_true_eq] at hi
              rcases hi with hi | rfl
              · exact hrch i hi
              · rw [← hqt]
                exact .step hdE hf (by rw [hpt]; exact hrch p hzp0), fun h => absurd h (by decide), fun _ => bits_grow hyz hzN hqN hzq0⟩, by simp only [intOf]; omega⟩
        · have hkI : ¬ (k : Int) < n := by omega
          go_wp2_with (fail)
          have htr2 := trues_own hS
          have hkn : E.take k = E := List.take_of_length_le (by rw [← Hn.out]; omega)
          rw [hkn] at hcl
          refine ⟨⟨mb, z, rfl, hS, hM1, hw1, hB1, fun i hi => hyz i (hxy i hi), hzN, hrch, fun hmb d hd hm h1 => ?_⟩, ?_⟩
          · have h2 := hcl hmb
            rw [h2.1] at h1 ⊢
            exact h2.2 d hd hm h1
          · rw [htr2, Htr.out]
            have hle := bitsTo_length z N
            cases mb
            · rw [(hcl rfl).1]
              simp [litN]
            · have := hgr rfl
              simp only [litN]
              omega
end Go.Proofs.YtgahdookojbbiaaDoor
