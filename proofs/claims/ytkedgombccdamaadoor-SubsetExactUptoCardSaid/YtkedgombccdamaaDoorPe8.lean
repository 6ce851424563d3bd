/- Part 8 of a proof; packed: the texts that it was made of follow one another. No condition beyond those named in each lemma. -/
import Derived.Test.YtkedgombccdamaaDoorPe3
import Derived.Test.YtkedgombccdamaaDoorPe5
import Derived.Test.YtkedgombccdamaaDoorPe7
namespace Go.Proofs.YtkedgombccdamaaDoor
open Go.RowKit Go.Maps Go.WideMaps
set_option linter.unusedVariables false
set_option linter.unusedSimpArgs false

theorem eqTI {p q : Int} (h : p = q) : Value.bool (p == q) = .bool true := by subst h; simp
theorem info_set3 : (Tryd.prog.info? 52).map (fun i => (i.zero, i.size, i.bytes)) = some (some (.agg #[.int .u64 0, .int .u64 0, .int .u64 0, .int .u64 0]), 4, 32) := by kernel_rfl
def SetsR (es : List Edg) (w : World) (e : Ending) (w' : World) : Prop :=
  ∃ A c, e = .returned (.slice A (setsL es).length c) ∧ Own w' w.heap.size 52 4 setC (.slice A (setsL es).length c) (setsL es) ∧ Below w.heap.size w w'

set_option maxRecDepth 100000 in
set_option maxHeartbeats 4000000 in
theorem psets_any (s : Int) (A : Option Addr) (n c : Nat) (B : Option Addr) (m d : Nat) (es : List Edg) (w : World) (hn : n = es.length) (hm : n ≤ 100000) (hs : SliceOf w w.heap.size 7 edgC A es) :
    Calls Tryd.prog 34 #[.agg (nfaC s A n c B m d)] w (SetsR es w) := by
  have Hn := Lib.hid hn
  clear hn
  have hzE := zero_edge
  have hmm := @Go.RowKit.run_makeMap Tryd.prog
  obtain ⟨i0, hi0, hz0, hz1, hz2⟩ := info_parts info_set3
  have hb0 := (Blk.new w 25 (nfaC s A n c B m d)).alloc (.map #[] 0)
  have hc0 : (w.alloc (.cells (nfaC s A n c B m d) 25)).cell? ⟨w.heap.size, 1, none⟩ = some (.slice A n c) := (Blk.new w 25 (nfaC s A n c B m d)).cellv rfl
  have hc1 := hb0.cellv (i := 1) (v := .slice A n c) rfl
  have hBa := below_alloc (below_alloc (Below.refl w.heap.size w) (.cells (nfaC s A n c B m d) 25)) (.map #[] 0)
  have hba : w.heap.size + 1 + 1 ≤ ((w.alloc (.cells (nfaC s A n c B m d) 25)).alloc (.map #[] 0)).heap.size := by simp
  have hM := IntMap.new (P := Tryd.prog) (e := 3) keySet (w.alloc (.cells (nfaC s A n c B m d) 25)) (g := w.heap.size + 1) (by simp)
  rw [show (fun _ : BSet => (none : Option Int)) = mapSt [] from mapSt_nil.symm] at hM
  have HM := Lib.hid hM
  have Hba := Lib.hid hba
  have HBa := Lib.hid hBa
  have hn1 : (nfaC s A n c B m d)[1]? = some (.slice A n c) := rfl
  clear hM hba hBa hb0
  go_enter Tryd.func34, Tryd.ntmps34
  go_wp2
  go_loopw [11, 3] (fun i v wr => ∃ k : Nat, k ≤ n ∧ i = .int .i64 k ∧ Own wr (w.heap.size + 1 + 1) 52 4 setC v (setsL (es.take k)) ∧ w.heap.size + 1 + 1 ≤ wr.heap.size ∧ SMap wr (w.heap.size + 1) k (setsL (es.take k)) ∧ Below w.heap.size w wr) (fun i _ _ => n - (intOf i).toNat)
  case atStart => exact ⟨0, by omega, rfl, Own.nil_ _ _ _ _ _, Hba.out, HM.out, HBa.out⟩
  case round =>
    clear HBa Hba HM hc0 hc1 hn1
    obtain ⟨k, hk, rfl, hown, hb1, hM, hB⟩ := hrel
    obtain ⟨A2, c2, rfl, hc2, hc3⟩ := hown.shape
    have hle := setsL_length (es.take k)
    rw [List.length_take] at hle
    obtain ⟨xs, hxs⟩ : ∃ xs, xs = setsL (es.take k) := ⟨_, rfl⟩
    rw [← hxs] at hle hc2 hown hM ⊢
    obtain ⟨q, hq⟩ : ∃ q, q = xs.length := ⟨_, rfl⟩
    rw [← hq] at hle hc2 hown ⊢
    have Hq := Lib.hid hq
    have hqk : q ≤ k := by omega
    clear hq hle
    by_cases hlt : k < n
    · have hkl : k < es.length := by have := Hn.out; omega
      have hkI : (k : Int) < n := by omega
      obtain ⟨b0, off, rfl, hbl, hrow⟩ := (hs.below hB).at_ (by omega)
      have hr := hrow k hkl
      have Hsn : Hid (setsL (es.take (k + 1)) = stepS xs es[k]) := Lib.hid (by rw [take_snoc' es k hkl, setsL_snoc, ← hxs])
      obtain ⟨e, he⟩ : ∃ e, e = es[k] := ⟨_, rfl⟩
      rw [← he] at hr Hsn
      clear hrow hxs he
      go_upto_region 6 with (first | (refine wl_load_edge_at rfl _ rfl _ _ rfl _ hr ?_) | (refine wl_store_edge rfl _ _ rfl _ _ rfl rfl edge0 (Blk.new _ _ _) ?_; intro w1 hbe hg5))
      have hK := below_grown (below_alloc (Below.refl wr.heap.size wr) (.cells (edgC edge0) 76)) hg5 (Nat.le_refl _)
      replace hown := hown.then_ hK
      replace hM := hM.then_ hK
      replace hB := below_then hB hK
      obtain ⟨ge, hge⟩ : ∃ g, g = wr.heap.size := ⟨_, rfl⟩
      rw [← hge] at hbe ⊢
      have hge2 : w.heap.size + 1 + 1 ≤ ge := by omega
      replace hb1 : w.heap.size + 1 + 1 ≤ w1.heap.size := Nat.le_trans hb1 hK.size
      have hkd := edgC_0 e
      clear hg5 hK hge hr
      by_cases h2 : e.kd = 2
      · rw [h2] at hkd
        have H2 := Lib.hid h2
        clear h2
        by_cases hx : e.st ∈ xs
        · replace hx := Lib.hid hx
          have hst := Lib.hid (stepS_old (l := xs) (e := e) hx.out)
          refine wp_region_text 10 [eqS (.pointer (some ⟨ge, 0, none⟩)), eqS (.int .i64 (2)), eqS (.bool true), eqS (.bool true), eqS (.map (some (w.heap.size + 1))), eqS (.pointer (some ⟨ge, 0 + 3, none⟩)), eqS (.agg (setC e.st)), eqS (.int .i64 (1)), eqS (.bool false), eqS (.bool false)] [15, 16, 17, 18, 19, 20, 21, 22, 23, 24] (by kernel_rfl) rfl ?_ ?_
          · refine Steps.cons (fun a' w' hG hB dep => gs_field (want_none rfl) _ _ _ rfl _ _ _ (hG.other 6 rfl) (field_edge_0 _ _) rfl) ?_
            refine Steps.cons (fun a' w' hG hB dep => gs_load1 (want_none rfl) _ _ rfl _ _ (dep 0 rfl 15 rfl) _ ((blk_then hbe hB).cellv hkd) _ Tryd.underlying3 rfl rfl) ?_
            refine Steps.cons (fun a' w' hG hB dep => gs_eql_int (want_none rfl) _ _ _ _ rfl _ _ _ (dep 1 rfl 16 rfl) rfl (eqTI rfl)) ?_
            refine Steps.cons (fun a' w' hG hB dep => gs_move (want_none rfl) _ rfl (dep 2 rfl 17 rfl)) ?_
            refine Steps.cons (fun a' w' hG hB dep => gs_move (want_yes rfl rfl (dep 3 rfl 18 rfl)) _ rfl (hG.other 4 rfl)) ?_
            refine Steps.cons (fun a' w' hG hB dep => gs_field (want_yes rfl rfl (dep 3 rfl 18 rfl)) _ _ _ rfl _ _ _ (hG.other 6 rfl) (field_edge_3 _ _) rfl) ?_
            refine Steps.cons (fun a' w' hG hB dep => gs_load_set_at (want_yes rfl rfl (dep 3 rfl 18 rfl)) _ rfl _ _ (dep 5 rfl 20 rfl) _ (by rw [Nat.zero_add]; exact (blk_then hbe hB).st) rfl) ?_
            refine Steps.cons (fun a' w' hG hB dep => gs_lookup_set (want_yes rfl rfl (dep 3 rfl 18 rfl)) _ _ rfl _ _ _ (hM.then_ hB) (dep 4 rfl 19 rfl) _ (dep 6 rfl 21 rfl) _ (mapSt_old hx.out) rfl) ?_
            refine Steps.cons (fun a' w' hG hB dep => gs_eql_int (want_yes rfl rfl (dep 3 rfl 18 rfl)) _ _ _ _ rfl _ _ _ (dep 7 rfl 22 rfl) rfl (eqNI (by decide))) ?_
            refine Steps.cons (fun a' w' hG hB dep => gs_pick (want_none rfl) _ _ _ rfl true (dep 3 rfl 18 rfl) (dep 8 rfl 23 rfl)) ?_
            exact Steps.nil
          intro u w3 hB3 ans
          have ux : u 24 = .bool false := ans 9 24 (by decide) rfl
          clear ans
          refine wpList_nil ?_
          simp only [putAll, List.foldl_cons, List.foldl_nil, Act.put, List.setIfInBounds_toArray, List.set_cons_zero, List.set_cons_succ, ux]
          clear ux

          go_wp2
          go_roundw
          case rel => exact ⟨k + 1, by omega, by go_num, by rw [Hsn.out, hst.out]; exact hown.then_ hB3, Nat.le_trans hb1 hB3.size, by rw [Hsn.out, hst.out]; exact IntMap.more (hM.then_ hB3) (Nat.le_succ k), below_then hB hB3⟩
          case measure => simp [intOf]; omega
        · replace hx := Lib.hid hx
          have hst := Lib.hid (stepS_yes (l := xs) (e := e) H2.out hx.out)
          refine wp_region_text 10 [eqS (.pointer (some ⟨ge, 0, none⟩)), eqS (.int .i64 (2)), eqS (.bool true), eqS (.bool true), eqS (.map (some (w.heap.size + 1))), eqS (.pointer (some ⟨ge, 0 + 3, none⟩)), eqS (.agg (setC e.st)), eqS (.int .i64 (0)), eqS (.bool true), eqS (.bool true)] [15, 16, 17, 18, 19, 20, 21, 22, 23, 24] (by kernel_rfl) rfl ?_ ?_
          · refine Steps.cons (fun a' w' hG hB dep => gs_field (want_none rfl) _ _ _ rfl _ _ _ (hG.other 6 rfl) (field_edge_0 _ _) rfl) ?_
            refine Steps.cons (fun a' w' hG hB dep => gs_load1 (want_none rfl) _ _ rfl _ _ (dep 0 rfl 15 rfl) _ ((blk_then hbe hB).cellv hkd) _ Tryd.underlying3 rfl rfl) ?_
            refine Steps.cons (fun a' w' hG hB dep => gs_eql_int (want_none rfl) _ _ _ _ rfl _ _ _ (dep 1 rfl 16 rfl) rfl (eqTI rfl)) ?_
            refine Steps.cons (fun a' w' hG hB dep => gs_move (want_none rfl) _ rfl (dep 2 rfl 17 rfl)) ?_
            refine Steps.cons (fun a' w' hG hB dep => gs_move (want_yes rfl rfl (dep 3 rfl 18 rfl)) _ rfl (hG.other 4 rfl)) ?_
            refine Steps.cons (fun a' w' hG hB dep => gs_field (want_yes rfl rfl (dep 3 rfl 18 rfl)) _ _ _ rfl _ _ _ (hG.other 6 rfl) (field_edge_3 _ _) rfl) ?_
            refine Steps.cons (fun a' w' hG hB dep => gs_load_set_at (want_yes rfl rfl (dep 3 rfl 18 rfl)) _ rfl _ _ (dep 5 rfl 20 rfl) _ (by rw [Nat.zero_add]; exact (blk_then hbe hB).st) rfl) ?_
            refine Steps.cons (fun a' w' hG hB dep => gs_lookup_set (want_yes rfl rfl (dep 3 rfl 18 rfl)) _ _ rfl _ _ _ (hM.then_ hB) (dep 4 rfl 19 rfl) _ (dep 6 rfl 21 rfl) _ (mapSt_new hx.out) rfl) ?_
            refine Steps.cons (fun a' w' hG hB dep => gs_eql_int (want_yes rfl rfl (dep 3 rfl 18 rfl)) _ _ _ _ rfl _ _ _ (dep 7 rfl 22 rfl) rfl (eqTI rfl)) ?_
            refine Steps.cons (fun a' w' hG hB dep => gs_pick (want_none rfl) _ _ _ rfl true (dep 3 rfl 18 rfl) (dep 8 rfl 23 rfl)) ?_
            exact Steps.nil
          intro u w3 hB3 ans
          have ux : u 24 = .bool true := ans 9 24 (by decide) rfl
          clear ans
          refine wpList_nil ?_
          simp only [putAll, List.foldl_cons, List.foldl_nil, Act.put, List.setIfInBounds_toArray, List.set_cons_zero, List.set_cons_succ, ux]
          clear ux

          have hb1' : w.heap.size + 1 + 1 ≤ w3.heap.size := Nat.le_trans hb1 hB3.size
          replace hown := hown.then_ hB3
          replace hM := hM.then_ hB3
          replace hB := below_then hB hB3
          have hre := (blk_then hbe hB3).st
          have hgl := (blk_then hbe hB3).lt
          have hnone := mapSt_none hx.out
          have hownlt : ∀ j, (Value.slice A2 q c2).ownBlock = some j → w.heap.size + 1 + 1 ≤ j := fun j e => (hown.lt j e).1
          clear hB3 hb1 hbe
          go_wp2_with (first
            | (refine wl_load_set_at rfl _ rfl _ _ rfl _ hre ?_)
            | (at_mapUpdate; refine wl_map_put keySet Tryd.underlying136 Tryd.underlying3 hM (by unfold maxLen; omega) rfl _ _ _ rfl rfl e.st trivial rfl 1 rfl (by decide) ?_; intro w4 hM4 hg4; replace hre := hre.keep (hg4.block ge hgl (fun e => by injection e; omega)); have hone := slice_one (enc := setC) (size := 4) (Blk.new w4 52 (setC e.st)); have hown1 := (hown.grown hg4 (fun e => by have := hownlt _ e; omega)).alloc (.cells (setC e.st) 52); have hb4 : w.heap.size + 1 + 1 ≤ w4.heap.size := Nat.le_trans hb1' hg4.size)
            | (refine wl_build1 rfl _ rfl _ rfl ?_)
            | (at_builtin; refine wl_append _ rfl _ _ 83 rfl (w.heap.size + 1 + 1) 52 i0 _ 4 32 Tryd.underlying83 hi0 hz0 hz1 hz2 rfl (by decide) setC_size setC_one _ xs rfl hown1 _ _ 1 1 [e.st] rfl rfl hone (by rw [← Hq.out]; unfold maxLen; omega) (by rw [← Hq.out]; omega) (by simp; omega) ?_; intro v2 w7 hown2 hg2 hat2))
          rw [hnone, mapSt_put] at hM4
          have hM5 : SMap w4 (w.heap.size + 1) (k + 1) (xs ++ [e.st]) := by
            have e1 : (xs ++ [e.st]).length = xs.length + 1 := by simp
            have := hM4
            rw [if_neg (by simp), ← e1] at this
            exact this
          go_roundw
          case rel => exact ⟨k + 1, by omega, by go_num, by rw [Hsn.out, hst.out]; exact hown2, by have := hg2.size; simp at this; omega, by rw [Hsn.out, hst.out]; exact (hM5.alloc _).grown' hg2 (fun e => by have := hownlt _ e.symm; omega), below_own (below_alloc (below_grown hB hg4 (by omega)) _) hg2 (fun j e => by have := hownlt j e; omega)⟩
          case measure => simp [intOf]; omega
      · obtain ⟨z, hz⟩ : ∃ z, z = e.kd := ⟨_, rfl⟩
        have hst := Lib.hid (stepS_kind (l := xs) h2)
        rw [← hz] at hkd h2
        clear hz
        refine wp_region_text 10 [eqS (.pointer (some ⟨ge, 0, none⟩)), eqS (.int .i64 (z)), eqS (.bool false), eqS (.bool false), eqS undef, eqS undef, eqS undef, eqS undef, eqS undef, eqS (.bool false)] [15, 16, 17, 18, 19, 20, 21, 22, 23, 24] (by kernel_rfl) rfl ?_ ?_
        · refine Steps.cons (fun a' w' hG hB dep => gs_field (want_none rfl) _ _ _ rfl _ _ _ (hG.other 6 rfl) (field_edge_0 _ _) rfl) ?_
          refine Steps.cons (fun a' w' hG hB dep => gs_load1 (want_none rfl) _ _ rfl _ _ (dep 0 rfl 15 rfl) _ ((blk_then hbe hB).cellv hkd) _ Tryd.underlying3 rfl rfl) ?_
          refine Steps.cons (fun a' w' hG hB dep => gs_eql_int (want_none rfl) _ _ _ _ rfl _ _ _ (dep 1 rfl 16 rfl) rfl (eqNI h2)) ?_
          refine Steps.cons (fun a' w' hG hB dep => gs_move (want_none rfl) _ rfl (dep 2 rfl 17 rfl)) ?_
          refine Steps.cons (fun a' w' hG hB dep => gs_skip (want_no rfl rfl (dep 3 rfl 18 rfl)) rfl) ?_
          refine Steps.cons (fun a' w' hG hB dep => gs_skip (want_no rfl rfl (dep 3 rfl 18 rfl)) rfl) ?_
          refine Steps.cons (fun a' w' hG hB dep => gs_skip (want_no rfl rfl (dep 3 rfl 18 rfl)) rfl) ?_
          refine Steps.cons (fun a' w' hG hB dep => gs_skip (want_no rfl rfl (dep 3 rfl 18 rfl)) rfl) ?_
          refine Steps.cons (fun a' w' hG hB dep => gs_skip (want_no rfl rfl (dep 3 rfl 18 rfl)) rfl) ?_
          refine Steps.cons (fun a' w' hG hB dep => gs_pick (want_none rfl) _ _ _ rfl false (dep 3 rfl 18 rfl) rfl) ?_
          exact Steps.nil
        intro u w3 hB3 ans
        have ux : u 24 = .bool false := ans 9 24 (by decide) rfl
        clear ans
        refine wpList_nil ?_
        simp only [putAll, List.foldl_cons, List.foldl_nil, Act.put, List.setIfInBounds_toArray, List.set_cons_zero, List.set_cons_succ, ux]
        clear ux

        go_wp2
        go_roundw
        case rel => exact ⟨k + 1, by omega, by go_num, by rw [Hsn.out, hst.out]; exact hown.then_ hB3, Nat.le_trans hb1 hB3.size, by rw [Hsn.out, hst.out]; exact IntMap.more (hM.then_ hB3) (Nat.le_succ k), below_then hB hB3⟩
        case measure => simp [intOf]; omega
    · have hkI : ¬ (k : Int) < n := by omega
      have hkn : es.take k = es := List.take_of_length_le (by have := Hn.out; omega)
      rw [hkn] at hxs
      have Hxs := Lib.hid hxs
      clear hkn hxs
      go_wp2
      go_ret
      exact ⟨A2, c2, by rw [← Hxs.out, ← Hq.out]; rfl, by rw [← Hxs.out, ← Hq.out]; exact hown.mono (by omega), hB⟩

end Go.Proofs.YtkedgombccdamaaDoor
namespace Go.Proofs.YtkedgombccdamaaDoor
open Go.RowKit Go.Shelf Go.Maps
set_option linter.unusedVariables false
set_option linter.unusedSimpArgs false
attribute [local go_sem] Oper.semAt_some

def zeroD : Value := .agg (dfaC (fun _ => 0) none 0 0 none 0 0 none 0 0)
/-- what Build tells -/
def DRes (s : Int) (E : List Edg) (m : Nat) (R : List Nat) (most : Int) (base : Nat) (e : Ending) (w' : World) : Prop :=
  (rightB s E m = false ∧ e = .returned (.tuple #[zeroD, .int .i64 70])) ∨
  (rightB s E m = true ∧ (∃ (i : Nat) (x : TV), Done (stepM E s.toNat R) (repE E) (mo0 E s.toNat R) i ∧ (i : Int) ≤ min most 4096 ∧ e = .returned (.tuple #[.agg x.C', .int .i64 0]) ∧ x.T = tabQ E s.toNat R (clsE E) (repE E) i ∧ TOwn w' base x [] [] [])) ∨
  (rightB s E m = true ∧ (∀ k : Nat, Done (stepM E s.toNat R) (repE E) (mo0 E s.toNat R) k → min most 4096 < (k : Int)) ∧ e = .returned (.tuple #[zeroD, .int .i64 100]))
set_option maxRecDepth 100000 in
set_option maxHeartbeats 16000000 in
theorem dfa_any (s : Int) (A : Option Addr) (n c : Nat) (B : Option Addr) (m d : Nat) (E : List Edg) (R : List Nat) (most : Int) (hn : n = E.length) (hE : E.length ≤ 100000) (hm : m = R.length) (hR : ∀ r ∈ R, r < 4294967296) (hsN : s ≤ 1048576) (w : World) (hs : SliceOf w w.heap.size 7 edgC A E) (hRs : SliceOf w w.heap.size 1 encR B R) :
    Calls Tryd.prog 10 #[.agg (nfaC s A n c B m d), .int .i64 most] w fun e w' => DRes s E m R most w.heap.size e w' ∧ Below w.heap.size w w' := by
  have Hn := Lib.hid hn
  have Hm := Lib.hid hm
  have HR := Lib.hid hR
  have kR := fun W (hW : Below w.heap.size w W) => right_any s A n c B m d E hn (by omega) W ((hs.below hW).more hW.size)
  clear hn hm hR
  go_enter Tryd.func10, Tryd.ntmps10
  go_upto_region 1 with (fail)
  go_step3
  go_upto_region 1 with (fail)
  rw [zero_cells_dfa]
  have h1 : Blk (w.alloc (.cells (nfaC s A n c B m d) 25)) w.heap.size 25 (nfaC s A n c B m d) := Blk.new w _ _
  have hB1 : Below w.heap.size w (w.alloc (.cells (nfaC s A n c B m d) 25)) := below_alloc (Below.refl _ _) _
  obtain ⟨w1, hw1⟩ : ∃ y, y = w.alloc (.cells (nfaC s A n c B m d) 25) := ⟨_, rfl⟩
  have hs1 : w1.heap.size = w.heap.size + 1 := by rw [hw1]; exact Array.size_push ..
  rw [← hw1] at h1 hB1 ⊢
  clear hw1
  have h4 : Blk (w1.alloc (.cells (dfaC (fun _ => 0) none 0 0 none 0 0 none 0 0) 33)) w1.heap.size 33 (dfaC (fun _ => 0) none 0 0 none 0 0 none 0 0) := Blk.new w1 _ _
  have hB2 : Below w1.heap.size w1 (w1.alloc (.cells (dfaC (fun _ => 0) none 0 0 none 0 0 none 0 0) 33)) := below_alloc (Below.refl _ _) _
  obtain ⟨w2, hw2⟩ : ∃ y, y = w1.alloc (.cells (dfaC (fun _ => 0) none 0 0 none 0 0 none 0 0) 33) := ⟨_, rfl⟩
  rw [← hw2, hs1] at h4
  rw [← hw2] at hB2 ⊢
  have h2 := blk_then h1 hB2
  have hB := below_then hB1 hB2
  obtain ⟨b, hb⟩ : ∃ b, b = rightB s E m := ⟨_, rfl⟩
  rw [← hb] at kR
  obtain ⟨g2, hg2⟩ : ∃ y, y = w.heap.size := ⟨_, rfl⟩
  have Hg2 := Lib.hid hg2
  rw [← hg2] at h2 h4 ⊢
  have kR2 := kR w2 hB
  have Hb := Lib.hid hb
  clear hw2 h1 hB1 hB2 hs1 kR hg2 hb
  cases b with
  | false =>
    go_wp2_with (first
      | (refine wpList_load_row rfl _ _ rfl _ rfl _ _ _ _ h2 Tryd.underlying25 rfl (info_nfa3.trans rfl) ?_)
      | (go_at_call 32; refine kR2.mono ?_; rintro e w3 ⟨rfl, hB3⟩; have h43 := blk_then h4 hB3)
      | (refine wl_build_dfa0 rfl rfl ?_)
      | (refine wl_store_dfa rfl _ _ rfl (g2 + 1) rfl rfl h43 ?_; intro w4 h44 hg4))
    rw [Exit.noGoto_ret]
    refine ret_dfa rfl rfl h44 rfl ?_
    exact ⟨.inl ⟨Hb.out.symm, rfl⟩, below_grown (below_then hB hB3) hg4 (by have := Hg2.out; omega)⟩
  | true =>
    go_upto_region 3 with (first
      | (refine wpList_load_row rfl _ _ rfl _ rfl _ _ _ _ h2 Tryd.underlying25 rfl (info_nfa3.trans rfl) ?_)
      | (go_at_call 32; refine kR2.mono ?_; rintro e w3 ⟨rfl, hB3⟩; have h43 := blk_then h4 hB3; have h23 := blk_then h2 hB3))
    have hrb := Hb.out.symm
    rw [Hm.out] at hrb
    obtain ⟨N, hsN2, hF⟩ := right_fits hrb
    have hB03 := below_then hB hB3
    subst hsN2
    have hN : N ≤ 1048576 := by omega
    have hs3 : g2 + 2 ≤ w3.heap.size := by have := h43.lt; omega
    have c23 : w3.cell? ⟨g2, 0, none⟩ = some (.int .i64 (N : Int)) := h23.cellv rfl
    clear kR2 hrb h4 h2 hB hB3 c23
    refine wp_region_stepsE (i0 := 3) 7 [3, 4, 5, 6] (fun g : Nat => [eqS (.agg (nfaC N A n c B m d)), eqS (.pointer (some ⟨g2, 0, none⟩)), eqS (.int .i64 (N : Int)), madeS w3.heap.size N g, eqS (.agg (kmC N A n c B m d g N)), newS w3.heap.size 80 (kmC N A n c B m d g N), newS w3.heap.size 80 (kmC N A n c B m d g N)]) 0 [24, 25, 26, 27, 28, 29, 6] follows_mixed (by kernel_rfl) (by kernel_rfl) ?_ (by kernel_rfl) ?_ ?_
    · intro g g' j hj
      rcases j with _ | _ | _ | _ | _ | _ | _ | j <;> first | rfl | (exact absurd hj (by decide))
    · skip
      refine StepsE.cons (fun g a' w' hG hB dep => gs_load_nfaB (want_none rfl) _ rfl g2 (hG.other 2 rfl) (blk_then h23 hB) rfl) ?_
      refine StepsE.cons (fun g a' w' hG hB dep => gs_field (want_none rfl) _ _ _ rfl g2 0 0 (hG.other 2 rfl) (fun wz => field_nfa_0 g2 0 wz) rfl) ?_
      refine StepsE.cons (fun g a' w' hG hB dep => gs_load1 (want_none rfl) _ _ rfl g2 0 (dep 1 rfl 25 rfl) (.int .i64 (N : Int)) ((blk_then h23 hB).cellv rfl) _ Tryd.underlying3 rfl rfl) ?_
      refine StepsE.cons (fun g a' w' hG hB dep => gs_makeE (want_none rfl) _ _ rfl N hN (dep 2 rfl 26 rfl) (dep 2 rfl 26 rfl) (fun g1 w1 h1 h2 => ⟨g1, rfl, Nat.le_trans hB.size h1, h2⟩)) ?_
      refine StepsE.cons (fun g a' w' hG hB dep => gs_buildK (want_none rfl) _ _ rfl N A n c B m d g N N (dep 0 rfl 24 rfl) (dep 3 rfl 27 rfl).1 rfl) ?_
      refine StepsE.cons (fun g a' w' hG hB dep => gs_boxK (want_none rfl) _ rfl N A n c B m d g N N (dep 4 rfl 28 rfl) (fun gk w1 h1 h2 => ⟨gk, rfl, Nat.le_trans hB.size h1, h2⟩)) ?_
      refine StepsE.cons (fun g a' w' hG hB dep => gs_assign (want_none rfl) _ rfl (id (dep 5 rfl 29 rfl))) ?_
      exact StepsE.nil
    intro bf uu w4 hB4 ans
    obtain ⟨hq, hbf, hbfb⟩ := ans 3 27 (by decide) rfl
    clear hq
    obtain ⟨gk, u6, hgk, hgkb⟩ := ans 6 6 (by decide) rfl
    clear ans
    simp only [putAll, List.foldl_cons, List.foldl_nil, Act.put, List.setIfInBounds_toArray, List.set_cons_zero, List.set_cons_succ, u6]
    clear u6
    simp only [List.drop]
    refine wpList_nil ?_
    replace h43 := blk_then h43 hB4
    replace h23 := blk_then h23 hB4
    replace hB03 := below_then hB03 hB4
    clear hB4
    have hfrom : FromI w3.heap.size bf N w4 (fun _ => .slice none 0 0) (E.take 0) := by rw [List.take_zero]; exact FromI.nil hbfb
    have c21 : w4.cell? ⟨g2, 1, none⟩ = some (.slice A n c) := h23.cellv (i := 1) rfl
    have hgk2 := hgk
    have hs34 := hB03.size
    have Hs := Lib.hid hs
    have HRs := Lib.hid hRs
    have HF := Lib.hid hF
    have Hs3 := Lib.hid (And.intro hbf hgk)
    clear hbfb hs hRs hF hbf
    go_wp2_with (fail)
    go_loopw [33] (fun iv wr => ∃ (j : Nat) (FV : Nat → Value), j ≤ n ∧ iv = .int .i64 j ∧ FromI w3.heap.size bf N wr FV (E.take j) ∧ Below w.heap.size w wr ∧ Blk wr g2 25 (nfaC N A n c B m d) ∧ Blk wr (g2 + 1) 33 (dfaC (fun _ => 0) none 0 0 none 0 0 none 0 0) ∧ Blk wr gk 80 (kmC N A n c B m d bf N) ∧ w3.heap.size ≤ wr.heap.size) (fun iv _ => n - (intOf iv).toNat)
    case atStart => exact ⟨0, _, by omega, rfl, hfrom, hB03, h23, h43, hgkb, by have := hgkb.lt; omega⟩
    case round =>
      clear hfrom hB03 h23 h43 hgkb c21 hs34
      obtain ⟨j, FV, hj, rfl, hI, hBw, h2, h4, hk, hw3⟩ := hrel
      by_cases hjl : j < n
      · have hjI : (j : Int) < n := by omega
        have hjl2 : j < E.length := by rw [← Hn.out]; exact hjl
        have hjb : j < 1099511628000 := by omega
        obtain ⟨ba, off, rfl, hba, hrows⟩ := (Hs.out.below hBw).at_ (by omega)
        have hr7 := hrows j hjl2
        have hdE := List.getElem_mem hjl2
        have htk : E.take (j + 1) = E.take j ++ [E[j]] := List.take_succ_eq_append_getElem hjl2
        obtain ⟨dd, hd⟩ : ∃ d, d = E[j] := ⟨_, rfl⟩
        rw [← hd] at hr7 htk hdE
        have hfrb := HF.out.fr dd hdE
        obtain ⟨n0, hfr⟩ : ∃ q : Nat, dd.fr = (q : Int) := ⟨dd.fr.toNat, by omega⟩
        have hn0 : n0 < N := by omega
        have Htk := Lib.hid htk
        have Hfr := Lib.hid hfr
        clear hd hdE htk hrows hfrb hfr
        go_upto_region 7 with (first | (refine wl_load_edge_at rfl _ rfl _ _ rfl _ hr7 ?_) | (refine wl_store_edge rfl _ _ rfl _ _ rfl rfl edge0 (Blk.new _ _ _) ?_; intro w6 h6 hg6))
        have hB6 := below_grown (below_alloc (Below.refl _ wr) (.cells #[.int .i64 0, .int .i64 0, .int .i64 0, .int .u64 0, .int .u64 0, .int .u64 0, .int .u64 0] 76)) hg6 (Nat.le_refl _)
        clear hr7 hg6
        have hgl := (hI.own n0 hn0).lt
        obtain ⟨ge, hge⟩ : ∃ y, y = wr.heap.size := ⟨_, rfl⟩
        rw [← hge] at h6 ⊢
        have hgew : w3.heap.size ≤ ge := by omega
        have hw6 : ge ≤ w6.heap.size := by rw [hge]; exact hB6.size
        replace hI := hI.then_ hB6
        replace hBw := below_then hBw hB6
        replace h2 := blk_then h2 hB6
        replace h4 := blk_then h4 hB6
        replace hk := blk_then hk hB6
        replace hw3 : w3.heap.size ≤ w6.heap.size := Nat.le_trans hw3 hB6.size
        have hel : (edgesAt (E.take j) n0).length ≤ 1099511627776 := Nat.le_trans (List.length_filter_le _ _) (by rw [List.length_take]; omega)
        have hne_2 : ∀ i, i < w3.heap.size → (some i : Option Nat) ≠ (FV n0).ownBlock := fun i hi e => by have := (hgl _ e.symm).1; omega
        have hne_k : (some gk : Option Nat) ≠ (FV n0).ownBlock := fun e => own_blk_ne (hI.own n0 hn0) hk (by decide) e.symm
        have hne_b : (some bf : Option Nat) ≠ (FV n0).ownBlock := fun e => own_blk_ne (hI.own n0 hn0) hI.b (by decide) e.symm
        have hne_e : (some ge : Option Nat) ≠ (FV n0).ownBlock := fun e => by have := (hgl _ e.symm).2; omega
        obtain ⟨rw0, hrw⟩ : ∃ y, (FV n0).ownBlock = y := ⟨_, rfl⟩
        have hvn : ∀ y, FV n0 = y → w6.cell? ⟨bf, n0, none⟩ = some y := fun y hy => by
          have := hI.b.cellv (arr_at eV N FV hn0)
          rw [← hy]; exact this
        rw [hrw] at hne_2 hne_k hne_b hne_e hgl
        rw [← hge] at hgl
        clear hB6 hge
        refine wp_region_stepsR (rw := rw0) (i0 := 16) 18 [eqS (.pointer (some ⟨gk, 0, none⟩)), eqS (.pointer (some ⟨gk, 0, none⟩)), eqS (.pointer (some ⟨gk, 3, none⟩)), eqS (.slice (some ⟨bf, 0, none⟩) N N), eqS (.pointer (some ⟨ge, 1, none⟩)), eqS (.int .i64 (n0 : Int)), eqS (.pointer (some ⟨gk, 0, none⟩)), eqS (.pointer (some ⟨gk, 0, none⟩)), eqS (.pointer (some ⟨gk, 3, none⟩)), eqS (.slice (some ⟨bf, 0, none⟩) N N), eqS (.pointer (some ⟨ge, 1, none⟩)), eqS (.int .i64 (n0 : Int)), eqS (.pointer (some ⟨bf, 0 + n0 * 1, none⟩)), eqS (FV n0), eqS (.agg (edgC dd)), oneS w6.heap.size dd, moreS w3.heap.size w6.heap.size rw0 (edgesAt (E.take j) n0 ++ [dd]), eqS (.pointer (some ⟨bf, 0 + n0 * 1, none⟩))] [37, 38, 39, 40, 41, 42, 43, 44, 45, 46, 47, 48, 49, 50, 51, 52, 53, 54] rfl ?_ (by kernel_rfl) (by kernel_rfl) ?_ ?_
        · intro i hi v wa wb hp hg
          rcases i with _ | _ | _ | _ | _ | _ | _ | _ | _ | _ | _ | _ | _ | _ | _ | _ | _ | _ | i
          all_goals first | exact hp | skip
          · obtain ⟨g, q1, q2, q3⟩ := hp
            exact ⟨g, q1, q2, q3.grown hg (fun e => by have := (hgl g e.symm).2; omega)⟩
          · exact absurd rfl hi
        · skip
          refine StepsR.cons (fun a' w' hG hW hP dep => GStepR.of (gs_move (want_none rfl) _ rfl (hG.other 6 rfl))) ?_
          refine StepsR.cons (fun a' w' hG hW hP dep => GStepR.of (gs_nil (want_none rfl) _ rfl _ (dep 0 rfl 37 rfl) rfl)) ?_
          refine StepsR.cons (fun a' w' hG hW hP dep => GStepR.of (gs_field (want_none rfl) _ _ _ rfl gk 0 3 (dep 1 rfl 38 rfl) (fun wz => field_k_1 gk 0 wz) rfl)) ?_
          refine StepsR.cons (fun a' w' hG hW hP dep => GStepR.of (gs_load1 (want_none rfl) _ _ rfl gk 3 (dep 2 rfl 39 rfl) (.slice (some ⟨bf, 0, none⟩) N N) ((hk.grown hW hne_k).cellv (i := 3) rfl) _ Tryd.underlying78 rfl rfl)) ?_
          refine StepsR.cons (fun a' w' hG hW hP dep => GStepR.of (gs_field (want_none rfl) _ _ _ rfl ge 0 1 (hG.other 8 rfl) (fun wz => field_edge_1 ge 0 wz) rfl)) ?_
          refine StepsR.cons (fun a' w' hG hW hP dep => GStepR.of (gs_load1 (want_none rfl) _ _ rfl ge 1 (dep 4 rfl 41 rfl) (.int .i64 (n0 : Int)) (by rw [← Hfr.out]; exact (h6.grown hW hne_e).cellv (i := 1) rfl) _ Tryd.underlying3 rfl rfl)) ?_
          refine StepsR.cons (fun a' w' hG hW hP dep => GStepR.of (gs_move (want_none rfl) _ rfl (hG.other 6 rfl))) ?_
          refine StepsR.cons (fun a' w' hG hW hP dep => GStepR.of (gs_nil (want_none rfl) _ rfl _ (dep 6 rfl 43 rfl) rfl)) ?_
          refine StepsR.cons (fun a' w' hG hW hP dep => GStepR.of (gs_field (want_none rfl) _ _ _ rfl gk 0 3 (dep 7 rfl 44 rfl) (fun wz => field_k_1 gk 0 wz) rfl)) ?_
          refine StepsR.cons (fun a' w' hG hW hP dep => GStepR.of (gs_load1 (want_none rfl) _ _ rfl gk 3 (dep 8 rfl 45 rfl) (.slice (some ⟨bf, 0, none⟩) N N) ((hk.grown hW hne_k).cellv (i := 3) rfl) _ Tryd.underlying78 rfl rfl)) ?_
          refine StepsR.cons (fun a' w' hG hW hP dep => GStepR.of (gs_field (want_none rfl) _ _ _ rfl ge 0 1 (hG.other 8 rfl) (fun wz => field_edge_1 ge 0 wz) rfl)) ?_
          refine StepsR.cons (fun a' w' hG hW hP dep => GStepR.of (gs_load1 (want_none rfl) _ _ rfl ge 1 (dep 10 rfl 47 rfl) (.int .i64 (n0 : Int)) (by rw [← Hfr.out]; exact (h6.grown hW hne_e).cellv (i := 1) rfl) _ Tryd.underlying3 rfl rfl)) ?_
          refine StepsR.cons (fun a' w' hG hW hP dep => GStepR.of (gs_index (want_none rfl) _ _ _ rfl under_edgesF 1 size_edgesF bf 0 N N n0 (dep 9 rfl 46 rfl) (dep 11 rfl 48 rfl) hn0 rfl)) ?_
          refine StepsR.cons (fun a' w' hG hW hP dep => GStepR.of (gs_load1 (want_none rfl) _ _ rfl bf (0 + n0 * 1) (dep 12 rfl 49 rfl) (FV n0) (by rw [show 0 + n0 * 1 = n0 by omega]; exact (hI.b.grown hW hne_b).cellv (arr_at eV N FV hn0)) _ Tryd.underlying22 rfl rfl)) ?_
          refine StepsR.cons (fun a' w' hG hW hP dep => GStepR.of (gs_load_edge_at (want_none rfl) _ rfl ge 0 (hG.other 8 rfl) dd (RowAt.of_blk (h6.grown hW hne_e)) rfl)) ?_
          refine StepsR.cons (fun a' w' hG hW hP dep => GStepR.of (gs_one (want_none rfl) _ rfl (lo := w6.heap.size) hW.size dd (dep 14 rfl 51 rfl) (fun _ _ h => h))) ?_
          refine StepsR.cons (fun a' w' hG hW hP dep => gs_more (want_none rfl) _ _ rfl (lo := w3.heap.size) (k0 := w6.heap.size) (by have := hW.size; omega) hW.size (FV n0) _ dd (dep 13 rfl 50 rfl) hrw ((hI.own n0 hn0).then_ (hP rfl)) hel w6.heap.size (dep 15 rfl 52 rfl) (fun _ _ h => h)) ?_
          refine StepsR.cons (fun a' w' hG hW hP dep => GStepR.of (gs_index (want_none rfl) _ _ _ rfl under_edgesF 1 size_edgesF bf 0 N N n0 (dep 3 rfl 40 rfl) (dep 5 rfl 42 rfl) hn0 rfl)) ?_
          exact trivial
        intro uf w7 hW7 ans
        have u54 : uf 54 = .pointer (some ⟨bf, 0 + n0 * 1, none⟩) := ans 17 54 (by decide) rfl
        obtain ⟨hv7, hat7⟩ := ans 16 53 (by decide) rfl
        clear ans
        obtain ⟨A7, c7, hv7e, _, _⟩ := hv7.shape
        rw [hv7e] at hv7 hat7
        simp only [putAll, List.foldl_cons, List.foldl_nil, Act.put, List.setIfInBounds_toArray, List.set_cons_zero, List.set_cons_succ, u54, hv7e]
        clear u54 hv7e
        simp only [List.drop]
        rw [show 0 + n0 * 1 = n0 by omega]
        have hb7 := hI.b.grown hW7 hne_b
        refine wl_store_cell rfl _ _ _ rfl bf n0 rfl 22 _ (arr eV N (upd FV n0 (.slice A7 (edgesAt (E.take j) n0 ++ [dd]).length c7))) hb7 (by rw [arr_size]; exact hn0) info_edgesS rfl rfl (arr_set eV N FV _) ?_
        intro w8 hb8 hg8
        refine wpList_nil ?_
        rw [← hrw] at hW7 hat7
        have hI8 := hI.step hn0 Hfr.out hW7 hv7 hat7 hb8 hb7 hg8
        rw [← Htk.out] at hI8
        rw [hrw] at hW7
        have hbk : bf ≠ gk := fun e => by
          subst e
          have h1 := hb7
          have h2 := hk.grown hW7 hne_k
          unfold Blk at h1 h2
          rw [h1] at h2
          injection h2 with h2
          injection h2 with _ h2
          exact absurd h2 (by decide)
        have h28 := blk_grown (h2.grown hW7 (hne_2 g2 (by omega))) hg8 (by have := Hs3.out.1; omega)
        have h48 := blk_grown (h4.grown hW7 (hne_2 (g2 + 1) (by omega))) hg8 (by have := Hs3.out.1; omega)
        have hk8 := blk_grown (hk.grown hW7 hne_k) hg8 hbk.symm
        have hs24 : w.heap.size ≤ w3.heap.size := by have := Hg2.out; omega
        have hB8 : Below w.heap.size w w8 := (hBw.grown hW7 hBw.size (fun j e => by have := (hgl j e).1; omega)).grown hg8 (Nat.le_trans hBw.size hW7.size) (fun j e => by injection e with e; have := Hs3.out.1; omega)
        have hw38 : w3.heap.size ≤ w8.heap.size := Nat.le_trans hw3 (Nat.le_trans hW7.size hg8.size)
        clear hb7 hb8 hg8 hW7 hI hv7 hat7 h2 h4 hk hBw h6 hvn hne_2 hne_k hne_b hne_e
        go_wp2_with (fail)
        exact ⟨⟨j + 1, _, by omega, rfl, hI8, hB8, h28, h48, hk8, hw38⟩, by simp only [intOf]; omega⟩
      · have hjI : ¬ (j : Int) < n := by omega
        rw [List.take_of_length_le (by rw [← Hn.out]; omega)] at hI
        have hM := hI.mach HF.out hN hE HR.out Hm.out hk ((HRs.out.below hBw).more hBw.size)
        have kP := psets_any N A n c B m d E wr Hn.out (by rw [Hn.out]; exact hE) ((Hs.out.below hBw).more hBw.size)
        have hsl := setsL_length E
        have hs24 : g2 + 2 ≤ wr.heap.size := by omega
        obtain ⟨nb, hnb⟩ : ∃ y, y = wr.heap.size := ⟨_, rfl⟩
        rw [← hnb] at hM
        have hg4n : g2 + 1 < nb := by omega
        have hwnb : w.heap.size ≤ nb := by have := Hg2.out; omega
        clear hI hk
        go_upto_region 10 with (first
          | (refine wpList_load_row rfl _ _ rfl _ rfl _ _ _ _ h2 Tryd.underlying25 rfl (info_nfa3.trans rfl) ?_)
          | (go_at_call 34; refine kP.mono ?_; rintro e wS ⟨AS, cS, rfl, hS, hBS⟩)
          | (go_at_call 33; refine (classes_any AS (setsL E).length cS (setsL E) wS rfl (by unfold maxLen; omega) (hS.slice_all setC_size)).mono ?_; rintro e wC ⟨rfl, hBC⟩; have hzc := Blk.new wC 30 Tryd.zeroCells30; rw [zero_cells_cls] at hzc)
          | (rw [zero_cells_cls]; refine wl_store_cls rfl _ _ rfl wC.heap.size _ rfl rfl _ hzc ?_; intro w5 h9 hg5))
        have hB5 : Below wr.heap.size wr w5 := below_grown (below_alloc (below_then hBS hBC) _) hg5 (Nat.le_trans hBS.size hBC.size)
        have hw5 := h9.lt
        obtain ⟨g9, hg9⟩ : ∃ y, y = wC.heap.size := ⟨_, rfl⟩
        have hg9w : nb ≤ g9 := by rw [hnb, hg9]; exact Nat.le_trans hBS.size hBC.size
        rw [← hg9] at h9 ⊢
        replace h4 := blk_then h4 hB5
        replace h2 := blk_then h2 hB5
        replace hBw := below_then hBw hB5
        rw [← hnb] at hB5
        replace hM := hM.below hB5 (Nat.le_refl _)
        have hnb5 : nb ≤ w5.heap.size := by rw [hnb]; exact hB5.size
        obtain ⟨f, hf⟩ : ∃ f, f = cls (setsL E) := ⟨_, rfl⟩
        obtain ⟨M, hMy⟩ : ∃ M, M = many (setsL E) := ⟨_, rfl⟩
        rw [← hf] at h9
        have Hf := Lib.hid hf
        have HMy := Lib.hid hMy
        have hM256 : M ≤ 256 := by rw [hMy]; exact many_le _
        have hfr : ∀ b, b < 256 → 0 ≤ f b ∧ f b < M := fun b hb => by rw [hf, hMy]; exact ⟨cls_ge _ _, cls_lt _ hb⟩
        have kF := kfirst_any f M hM256 hfr w5
        rw [← hMy]
        clear hf hMy hfr hg9 hg5 hzc hBC hBS hS kP hB5 hnb
        go_upto_region 11 with (first
          | (refine wl_load_cls rfl _ rfl g9 rfl f h9 ?_)
          | (go_at_call 35; refine kF.mono ?_; rintro e w6 ⟨gb, rfl, hgb, hb6, hB6⟩))
        have h96 := blk_then h9 hB6
        replace h4 := blk_then h4 hB6
        replace hBw := below_then hBw hB6
        replace hM := hM.below hB6 hnb5
        have hnb6 : nb ≤ w6.heap.size := Nat.le_trans hnb5 hB6.size
        have hgb5 : nb ≤ gb := Nat.le_trans hnb5 hgb
        replace hb6 := hb6.mono (base' := nb) hnb5
        have hgbl := (hb6.lt gb rfl).2
        clear hB6 h9 hnb5 hgb kF hw5 h2
        go_upto_region 12 with (first
          | (refine wl_load_cls rfl _ rfl g9 rfl f h96 ?_)
          | (refine wl_build_dfa1 rfl _ rfl f rfl ?_; have hzc := Blk.new w6 33 Tryd.zeroCells33; rw [zero_cells_dfa] at hzc)
          | (rw [zero_cells_dfa]; refine wl_store_dfa rfl _ _ rfl w6.heap.size rfl rfl hzc ?_; intro w7 hd7 hg7))
        have hB7 : Below w6.heap.size w6 w7 := below_grown (below_alloc (Below.refl _ _) _) hg7 (Nat.le_refl _)
        have hgd7 := hd7.lt
        obtain ⟨gd, hgd⟩ : ∃ y, y = w6.heap.size := ⟨_, rfl⟩
        rw [← hgd] at hd7 hgd7 ⊢
        have hgdn : nb ≤ gd := by omega
        have hgbd : gb < gd := by omega
        replace h4 := blk_then h4 hB7
        replace hBw := below_then hBw hB7
        replace hM := hM.below hB7 hnb6
        replace hb6 := hb6.then_ hB7
        have hnb7 : nb ≤ w7.heap.size := Nat.le_trans hnb6 hB7.size
        clear hB7 hg7 hzc hgd h96 hnb6
        have hmm : ∀ w : World, (Instr.makeMap 87 none).run Tryd.prog w = .ok (.map (some w.heap.size)) (w.alloc (.map #[] 0)) := fun w => by kernel_rfl
        go_upto_region 13 with (first
          | (have hbx : Blk ((w7.alloc (.map #[] 0)).alloc (.cells #[.map none] 87)) (w7.heap.size + 1) 87 #[.map none] := Blk.new' _ _ _ (World.size_alloc _ _).symm
             refine wl_store_cell rfl _ _ _ rfl (w7.heap.size + 1) 0 rfl 87 _ #[.map (some w7.heap.size)] hbx (Nat.lt_succ_self 0) (by kernel_rfl) rfl rfl rfl ?_; intro w8 hm8 hg8))
        have him8 : IntMap Tryd.prog 9 3 okS litK w8 w7.heap.size 0 (fun _ => none) 0 := ((IntMap.new (P := Tryd.prog) (e := 3) keyStr w7 rfl).then_ (below_alloc (Below.refl _ _) _)).grown hg8 (by omega)
        have hB8 : Below w7.heap.size w7 w8 := below_grown (below_alloc (below_alloc (Below.refl _ _) _) _) hg8 (by omega)
        obtain ⟨bm, hbm⟩ : ∃ y, y = w7.heap.size := ⟨_, rfl⟩
        rw [← hbm] at him8 hm8 ⊢
        have hm8l := hm8.lt
        have hbmd : gd < bm := by omega
        have hd8 := blk_then hd7 hB8
        replace h4 := blk_then h4 hB8
        replace hBw := below_then hBw hB8
        replace hM := hM.below hB8 hnb7
        replace hb6 := hb6.then_ hB8
        have hnb8 : nb ≤ w8.heap.size := Nat.le_trans hnb7 hB8.size
        clear hB8 hg8 hbx hd7 hgd7 hmm hnb7 hbm
        simp only [Act.put]
        go_upto_region 15 with (fail)
        have hB9 : Below w8.heap.size w8 (w8.alloc (.cells #[.slice none 0 0] 88)) := below_alloc (Below.refl _ _) _
        have hq9 : Blk (w8.alloc (.cells #[.slice none 0 0] 88)) w8.heap.size 88 #[.slice none 0 0] := Blk.new w8 _ _
        obtain ⟨gq, hgq⟩ : ∃ y, y = w8.heap.size := ⟨_, rfl⟩
        obtain ⟨w9, hw9⟩ : ∃ y, y = w8.alloc (.cells #[.slice none 0 0] 88) := ⟨_, rfl⟩
        rw [← hw9] at hB9 hq9 ⊢
        rw [← hgq] at hq9 ⊢
        have hq9l := hq9.lt
        have hQ : QSt N (wordsFor N) w9.heap.size gd bm (bm + 1) gq f none 0 0 [] w9 := QSt.start ⟨hbmd, by omega, by omega, hq9l⟩ (blk_then hm8 hB9) (him8.then_ hB9) hq9 (blk_then hd8 hB9)
        replace h4 := blk_then h4 hB9
        replace hBw := below_then hBw hB9
        replace hM := hM.below hB9 hnb8
        replace hb6 := hb6.then_ hB9
        have hnb9 : nb ≤ w9.heap.size := Nat.le_trans hnb8 hB9.size
        have hgql : bm + 1 < gq := by omega
        clear hB9 hw9 hgq hq9 hm8 him8 hd8 hnb8 hm8l
        obtain ⟨b0, hb0⟩ : ∃ y, y = w9.heap.size := ⟨_, rfl⟩
        have kN := knone_any nb gk N E R w9 hM
        rw [← hb0] at hQ hnb9 hq9l kN
        have kR := moN_ok (E := E) (N := N) (K := wordsFor N) (R := R) HR.out (words_room N) 0 0 true (by decide)
        have hK1 : wordsFor N ≤ 1048576 := by unfold wordsFor; omega
        have h00 : below 0 N := below_zero N
        have kQt : ∀ W, Below b0 w9 W → QSt N (wordsFor N) b0 gd bm (bm + 1) gq f none 0 0 [] W := fun W h => hQ.then_ (by rw [← hb0]; exact h)
        go_upto_region 16 with (first
          | (go_at_call 39; refine kN.mono ?_; rintro e wn ⟨g, rfl, hgl, hSn, hBn⟩; have hMn := hM.below hBn hnb9)
          | (go_at_call 38; refine (kmoment_any nb gk N b0 g (wordsFor N) 0 0 E R true h00 (by decide) wn hMn hSn (by omega)).mono ?_; rintro e wm ⟨rfl, hSm, hTm⟩; have hBm : Below b0 w9 wm := hBn.trans (Turn.below hTm hgl (by have := hBn.size; omega)); have hQm := kQt wm hBm)
          | (go_at_call 36; refine (state_any nb gk N (wordsFor N) b0 gd bm (bm + 1) gq f none 0 0 [] ⟨g, wordsFor N, moN E N R 0 0 true⟩ hK1 (by decide) wm hQm kR hSm).mono ?_; rintro e w10 ⟨rfl, hQ10, hF10⟩))
        have hI9 : BI w nb b0 gd bm (bm + 1) gq gk gb (g2 + 1) N (wordsFor N) M f E R none 0 [] [] w9 :=
          ⟨⟨hg4n, hgb5, hgbd, hwnb⟩, hM, hQ, hb6, h4, hBw, Own.nil_ _ _ _ _ _, fun i hi => absurd hi (by simp), fun i j hi => absurd hi (by simp)⟩
        have hI10 := (hI9.then_ (by rw [← hb0]; exact hBm)).fq hQ10 hF10
        have hF9 : b0 ≤ w10.heap.size := by rw [hb0]; exact Nat.le_trans (by have := hBm.size; exact this) hF10.size
        obtain ⟨x0, hx0⟩ : ∃ x : MQ, x = ⟨g, wordsFor N, moN E N R 0 0 true⟩ := ⟨_, rfl⟩
        have hL10 : addM [] (⟨g, wordsFor N, moN E N R 0 0 true⟩ : MQ) = [x0] := by rw [hx0]; rfl
        have hx0m : x0.mo = mo0 E N R := by rw [hx0]; rfl
        rw [hL10] at hI10
        have Hx0m := Lib.hid hx0m
        clear hI9 hL10 hx0m hx0 hQ10 hF10 hQm hTm hSm hMn hBn hSn hBm kN kQt hQ hM hb6 h4 hBw kR h00 hb0 hgl
        go_upto_region 17 with (fail)
        go_step3
        obtain ⟨mm, hmm⟩ : ∃ y, y = min most 4096 := ⟨_, rfl⟩
        rw [← hmm]
        have hmm4 : mm ≤ 4096 := by omega
        have Hmm := Lib.hid hmm
        obtain ⟨bs, hbs⟩ : ∃ l, l = repL f M 0 := ⟨_, rfl⟩
        have hbsE : bs = repE E := by rw [hbs, Hf.out, HMy.out]; rfl
        have hbl : bs.length = M := by rw [hbs, repL_length]
        have hb256 : ∀ b ∈ bs, b < 256 := by rw [hbs]; exact repL_lt _ _ _
        have Hbs := Lib.hid hbs
        have HbsE := Lib.hid hbsE
        have Hb256 := Lib.hid hb256
        clear hbs hbsE hmm hb256
        go_wp2_with (fail)
        obtain ⟨st, hst⟩ : ∃ y, y = stepM E N R := ⟨_, rfl⟩
        obtain ⟨a0, ha0⟩ : ∃ y, y = mo0 E N R := ⟨_, rfl⟩
        have Hst := Lib.hid hst
        have Ha0 := Lib.hid ha0
        have hL0 : Hid (([x0] : List MQ).map MQ.mo = bfsN st bs a0 0) := Lib.hid (by rw [Ha0.out, ← Hx0m.out]; rfl)
        have hR0 : Hid (([] : List RV).map (·.l) = (rowsQ st bs a0 0).map intsL) := Lib.hid (by simp [rowsQ])
        have hst' : ∀ q b, moN E N R (byteN E N q.at_ b) q.met false = st q b := fun q b => by rw [hst]; rfl
        have Hst' := Lib.hid hst'
        have HwN := Lib.hid (words_room N)
        clear hst ha0 hst'
        go_loopw [16] (fun iv wr => ∃ (i : Nat) (L : List MQ) (rs : List RV) (AN : Option Addr) (cN : Nat), iv = .int .i64 i ∧ BI w nb b0 gd bm (bm + 1) gq gk gb (g2 + 1) N (wordsFor N) M f E R AN cN rs L wr ∧ b0 ≤ wr.heap.size ∧ Hid (L.map MQ.mo = bfsN st bs a0 i) ∧ Hid (rs.map (·.l) = (rowsQ st bs a0 i).map intsL) ∧ i ≤ L.length ∧ L.length ≤ 4097) (fun iv _ => 5000 - (intOf iv).toNat)
        case atStart => exact ⟨0, [x0], [], none, 0, rfl, hI10, hF9, hL0, hR0, by simp, by simp⟩
        case round =>
          clear hI10 hF9 hL0 hR0
          obtain ⟨i, L, rs, AN, cN, rfl, hI, hbw, HL, HRo, hiL, hL⟩ := hrel
          have hLb : L.length = (bfsN st bs a0 i).length := by rw [← HL.out, List.length_map]
          have hrl : rs.length = i := by
            have h1 : (rs.map (·.l)).length = _ := congrArg List.length HRo.out
            rw [List.length_map, List.length_map, rows_len (by omega)] at h1
            exact h1
          obtain ⟨Aq, cq, hq1, hq2⟩ := hI.q.q
          have c14 : wr.cell? ⟨gq, 0, none⟩ = some (.slice Aq L.length cq) := hq1.cellv rfl
          obtain ⟨nL, hnL⟩ : ∃ y, y = L.length := ⟨_, rfl⟩
          rw [← hnL] at c14 hL hiL hLb
          have HnL := Lib.hid hnL
          have HLb := Lib.hid hLb
          have Hrl := Lib.hid hrl
          clear hnL hLb hrl hq1 hq2
          by_cases hil : i < nL
          · have hiI : (i : Int) < nL := by omega
            clear hiL
            have hib : i < (bfsN st bs a0 i).length := by rw [← HLb.out]; exact hil
            obtain ⟨q, hqd⟩ : ∃ q, (bfsN st bs a0 i)[i]? = some q := ⟨_, List.getElem?_eq_getElem hib⟩
            have HQ := Lib.hid hqd
            have hroL := hI.rowLt
            obtain ⟨bw, hbwE⟩ : ∃ y, y = wr.heap.size := ⟨_, rfl⟩
            rw [← hbwE] at hbw hroL
            have HroL := Lib.hid hroL
            have hbw2 : bw ≤ wr.heap.size := by omega
            clear hib hqd hroL hbwE
            go_wp2_with (fail)
            clear c14
            go_loopw [17, 85] (fun rv jv wi => ∃ (j : Nat) (L' : List MQ) (A' : Option Addr) (c' : Nat), jv = .int .i64 j ∧ j ≤ M ∧ rv = .slice A' j c' ∧ BI w nb b0 gd bm (bm + 1) gq gk gb (g2 + 1) N (wordsFor N) M f E R AN cN rs L' wi ∧ bw ≤ wi.heap.size ∧ Own wi bw 3 1 encZ (.slice A' j c') (intsL (entsQ st (bs.take j) (L'.map MQ.mo) q)) ∧ Hid (L'.map MQ.mo = rowQ st q (bs.take j) (bfsN st bs a0 i)) ∧ L'.length ≤ 4097) (fun _ jv _ => M - (intOf jv).toNat)
            case atStart =>
              refine ⟨0, L, none, 0, rfl, by omega, rfl, hI, hbw2, ?_, Lib.hid ?_, by rw [← HnL.out]; exact hL⟩
              · exact Own.nil_ _ _ _ _ _
              · rw [HL.out]; rfl
            case round =>
              clear hI
              obtain ⟨j, L', A', c', rfl, hjM, rfl, hI, hbi, hrow, HL', hL'⟩ := hrel
              obtain ⟨Aq, cq, hq1, hq2⟩ := hI.q.q
              have c14 : wr.cell? ⟨gq, 0, none⟩ = some (.slice Aq L'.length cq) := hq1.cellv rfl
              obtain ⟨nL', hnL'⟩ : ∃ y, y = L'.length := ⟨_, rfl⟩
              rw [← hnL'] at c14 hL' hq2
              have HnL' := Lib.hid hnL'
              clear hnL' hq1
              by_cases hjm : j < M
              · have hjI : (j : Int) < M := by omega
                have hjb : j < bs.length := by omega
                obtain ⟨b, hbd⟩ : ∃ b, b = bs[j] := ⟨_, rfl⟩
                have hb256 : b < 256 := by rw [hbd]; exact Hb256.out _ (List.getElem_mem hjb)
                have htk : bs.take (j + 1) = bs.take j ++ [b] := by rw [List.take_succ_eq_append_getElem hjb, hbd]
                have cb : wr.cell? ⟨gb, j, none⟩ = some (.int .u8 (b : Int)) := by
                  have hlj : j < (repL f M 0).length := by rw [← Hbs.out]; exact hjb
                  have := hI.bytes.row encY_size j hlj 0 _ rfl
                  rw [Nat.mul_one, Nat.add_zero] at this
                  rw [this, hbd]
                  simp only [Hbs.out]
                  rfl
                have Htk := Lib.hid htk
                clear hbd htk
                by_cases hcap : mm < (nL' : Int)
                · have hcapg : (nL' : Int) > mm := hcap
                  have hres := hI.res
                  have hgt : nL' ≤ (bfsN st bs a0 (i + 1)).length := by
                    obtain ⟨hl0, hq0⟩ := List.getElem?_eq_some_iff.1 HQ.out
                    rw [bfs_succ hl0, hq0]
                    obtain ⟨r, hr⟩ := rowQ_prefix (step := st) q (bs.drop j) (rowQ st q (bs.take j) (bfsN st bs a0 i))
                    have e : rowQ st q bs (bfsN st bs a0 i) = rowQ st q (bs.drop j) (rowQ st q (bs.take j) (bfsN st bs a0 i)) := by
                      unfold rowQ
                      rw [← List.foldl_append, List.take_append_drop]
                    rw [e, hr, List.length_append, ← HL'.out, List.length_map, ← HnL'.out]
                    omega
                  have Hgt := Lib.hid (And.intro hgt (And.intro hcap hI.bel))
                  have Hg4 := Lib.hid (And.intro hI.ord.1 hI.ord.2.2.2)
                  clear hgt hcap hI hrow hq2
                  go_wp2_with (first
                    | (refine wl_build_dfa0 rfl rfl ?_)
                    | (refine wl_store_dfa rfl _ _ rfl (g2 + 1) rfl rfl hres ?_; intro w6 h46 hg6))
                  try rw [Exit.noGoto_ret]
                  refine ret_dfa rfl rfl h46 rfl ?_
                  refine ⟨.inr (.inr ⟨Hb.out.symm, fun k hk => ?_, rfl⟩), below_grown Hgt.out.2.2 hg6 (by have := Hg2.out; omega)⟩
                  rw [Int.toNat_natCast, ← HbsE.out, ← Hst.out, ← Ha0.out] at hk
                  have h1 := hk.gt (List.getElem?_eq_some_iff.1 HQ.out).1 Hgt.out.1
                  rw [← Hmm.out]
                  have h2 := Hgt.out.2.1
                  omega
                · have hcapg : ¬ (nL' : Int) > mm := hcap
                  have hLq : (L'.map MQ.mo)[i]? = some q := by
                    obtain ⟨r, hr⟩ := rowQ_prefix (step := st) q (bs.take j) (bfsN st bs a0 i)
                    rw [HL'.out, hr, List.getElem?_append_left (List.getElem?_eq_some_iff.1 HQ.out).1]
                    exact HQ.out
                  obtain ⟨y, gA, hyL, hyq, hil', rfl, hry⟩ := hI.at_ hq2 hLq
                  have hiI' : (i : Int) < nL' := by have := HnL'.out; omega
                  have hyok := hI.q.ok y hyL
                  have kB := kbehind_any nb gk N wr.heap.size (wordsFor N) y.c y.mo.at_ y.mo.met y.mo.end_ b (some ⟨y.g, 0, none⟩) E R rfl hyok.met hb256 wr hI.mach (Nat.le_refl _) ((hI.q.ins y hyL).slice_all encU_size)
                  rw [Hst'.out, hyq] at kB
                  have hokN : MoOk N (wordsFor N) (st q b) := by rw [Hst.out]; exact stepM_ok HR.out HwN.out b (hyq ▸ hyok)
                  have hL10 : L'.length ≤ 10000 := by have := HnL'.out; omega
                  have hbwr : b0 ≤ wr.heap.size := by omega
                  have hnL'c : nL' ≤ 4096 := by omega
                  have hlen : j = (intsL (entsQ st (bs.take j) (L'.map MQ.mo) q)).length := by
                    rw [intsL_length]
                    unfold entsQ
                    rw [List.length_map, List.length_take]
                    omega
                  have Hlen := Lib.hid hlen
                  clear hyok hcap hLq hq2 hlen
                  go_upto_region 26 with (first
                    | (refine wl_load_mom_at rfl _ rfl gA _ rfl (wordsFor N) y hry ?_)
                    | (go_at_call 40; refine kB.mono ?_; rintro e wb ⟨g', rfl, hgb', hSb, hBb⟩; have hIb := hI.then_ hBb; have hSb0 := hSb.mono (base' := b0) hbwr)
                    | (go_at_call 36; refine (state_any nb gk N (wordsFor N) b0 gd bm (bm + 1) gq f AN rs.length cN L' ⟨g', wordsFor N, st q b⟩ hK1 hL10 wb hIb.q hokN hSb0).mono ?_; rintro e ws ⟨rfl, hQs, hFs⟩)
                    | (at_builtin; have hrow3 := (((hrow.then_ hBb).fq hFs (fun k e => by have := (hrow.lt k e).1; omega) (by decide)).then_ (below_alloc (Below.refl _ _) (.cells (encZ ((((addM L' ⟨g', wordsFor N, st q b⟩).map MQ.mo).idxOf (st q b) : Nat) : Int)) 3))); refine wl_pushZ rfl _ _ rfl bw _ _ rfl rfl (Blk.new _ _ _) hrow3 Hlen.out (by rw [← Hlen.out]; omega) (by have h1 := hFs.size; have h2 := hBb.size; simp; omega) ?_; intro A8 c8 w8 hrow8 hg8))
                  have hI8 := ((hIb.fq hQs hFs).then_ (below_alloc (Below.refl _ _) (.cells (encZ ((((addM L' ⟨g', wordsFor N, st q b⟩).map MQ.mo).idxOf (st q b) : Nat) : Int)) 3))).ownI hrow3 hbw HroL.out hg8
                  have hbi8 : bw ≤ w8.heap.size := Nat.le_trans hbi (Nat.le_trans hBb.size (Nat.le_trans hFs.size (Nat.le_trans (below_alloc (Below.refl ws.heap.size ws) _).size hg8.size)))
                  obtain ⟨L8, hL8⟩ : ∃ l, l = addM L' (⟨g', wordsFor N, st q b⟩ : MQ) := ⟨_, rfl⟩
                  have hL8m : L8.map MQ.mo = addQ (L'.map MQ.mo) (st q b) := by rw [hL8]; exact addM_mo L' _
                  have hL8l : L8.length ≤ 4097 := by
                    have := addM_len L' (⟨g', wordsFor N, st q b⟩ : MQ)
                    have h2 := HnL'.out
                    rw [hL8]; omega
                  rw [← hL8] at hI8 hrow8
                  have hin : ∀ c ∈ bs.take j, st q c ∈ L'.map MQ.mo := fun c hc => by rw [HL'.out]; exact rowQ_mem q _ _ c hc
                  have e8 := ents_snoc (step := st) (q := q) (bs := bs.take j) (b := b) hin
                  rw [← Htk.out, ← hL8m] at e8
                  have hrow9 : Own w8 bw 3 1 encZ (.slice A8 (j + 1) c8) (intsL (entsQ st (bs.take (j + 1)) (L8.map MQ.mo) q)) := by
                    rw [e8, intsL_snoc]
                    exact hrow8
                  have HL8 : Hid (L8.map MQ.mo = rowQ st q (bs.take (j + 1)) (bfsN st bs a0 i)) := Lib.hid (by rw [hL8m, Htk.out, rowQ_snoc, HL'.out])
                  rw [← hL8]
                  clear hL8 hL8m hin e8 hrow8 hrow3 hg8 hQs hFs hIb hSb hSb0 hBb hI kB hry c14 cb hrow hL10 hokN hnL'c hcapg
                  go_wp2_with (fail)
                  exact ⟨⟨j + 1, L8, A8, c8, rfl, by omega, rfl, hI8, hbi8, hrow9, HL8, hL8l⟩, by simp only [intOf]; omega⟩
              · have hjI : ¬ (j : Int) < M := by omega
                obtain rfl : M = j := by omega
                obtain ⟨AF, cF, AE, cE, hdn, hnext⟩ := hI.q.next
                have cd : wr.cell? ⟨gd, 256, none⟩ = some (.slice AN rs.length cN) := blk_d1 hdn
                obtain ⟨r, hr⟩ : ∃ r : RV, r = ⟨A', c', intsL (entsQ st (bs.take M) (L'.map MQ.mo) q)⟩ := ⟨_, rfl⟩
                have hrl8 : r.l.length = M := by
                  rw [hr]
                  show (intsL _).length = M
                  rw [intsL_length]
                  unfold entsQ
                  rw [List.length_map, List.length_take]
                  omega
                have hrC : rowC r = #[.slice A' M c'] := by
                  unfold rowC
                  rw [hrl8, hr]
                have hrow2 : Own wr bw 3 1 encZ (.slice r.a r.l.length r.c) r.l := by
                  rw [hrl8, hr]
                  exact hrow
                have Hr := Lib.hid hr
                have HrC := Lib.hid hrC
                have Hnext := Lib.hid hnext
                obtain ⟨nR, hnR⟩ : ∃ y, y = rs.length := ⟨_, rfl⟩
                have hrows := hI.rows
                rw [← hnR] at cd hdn hrows
                have HnR := Lib.hid hnR
                have hp := hI.q.ord
                have hbwr : b0 ≤ wr.heap.size := by omega
                have hnR4 : nR ≤ 4097 := by have := Hrl.out; omega
                clear hr hrl8 hrC hnext hnR hq2 c14 hrow
                go_upto_region 19 with (first
                  | (refine wl_bsRow rfl _ rfl A' M c' rfl ?_)
                  | (at_builtin; have hrows3 := hrows.then_ (below_alloc (Below.refl _ _) (.cells #[.slice A' M c'] 67)); refine wl_pushRow rfl _ _ rfl b0 rs r rfl rfl (blk_row HrC.out) hrows3 HnR.out (by rw [← HnR.out]; omega) (by simp; omega) ?_; intro A8 c8 w8 hrows8 hg8; have hQ8 := (hI.q.then_ (below_alloc (Below.refl _ _) (.cells #[.slice A' M c'] 67))).own hrows3 (Nat.le_refl _) (by decide) (by decide) (by decide) hg8; obtain ⟨AF8, cF8, AE8, cE8, hd8, hnext8⟩ := hQ8.next)
                  | (refine wl_store_d1 rfl _ _ rfl gd rfl rfl hd8 ?_; intro w9' hd9 hg9'))
                have hq9 := hnext8 w9' A8 (nR + 1) c8 hg9' hd9
                have hIa := hI.then_ (below_alloc (Below.refl wr.heap.size wr) (.cells #[.slice A' M c'] 67))
                have hrow3 := hrow2.then_ (below_alloc (Below.refl wr.heap.size wr) (.cells #[.slice A' M c'] 67))
                have hbw9 : b0 ≤ w9'.heap.size := Nat.le_trans hbwr (Nat.le_trans (below_alloc (Below.refl wr.heap.size wr) (.cells #[.slice A' M c'] 67)).size (Nat.le_trans hg8.size hg9'.size))
                rw [HnR.out] at hq9 hg8 hrows8
                have hI9 := hIa.addRow hrow3 hbw HroL.out hg8 hrows8 hg9' hq9
                obtain ⟨hl0, hq0⟩ := List.getElem?_eq_some_iff.1 HQ.out
                have hbsM : bs.take M = bs := List.take_of_length_le (by omega)
                have hL9 : L'.map MQ.mo = bfsN st bs a0 (i + 1) := by rw [bfs_succ hl0, hq0, HL'.out, hbsM]
                have hR9 : (rs ++ [r]).map (·.l) = (rowsQ st bs a0 (i + 1)).map intsL := by
                  rw [rows_succ hl0, List.map_append, List.map_append, HRo.out, hq0, ← hL9, Hr.out, hbsM]
                  rfl
                have hi9 : i + 1 ≤ L'.length := by
                  have h1 := bfs_len (step := st) (bs := bs) a0 (Nat.le_succ i)
                  rw [← hL9, List.length_map] at h1
                  omega
                have HL9 := Lib.hid hL9
                have HR9 := Lib.hid hR9
                rw [HnL'.out] at hL'
                clear hq9 hIa hrow3 hg8 hg9' hd9 hd8 hnext8 hQ8 hrows8 hrows3 hrows hdn cd hl0 hq0 hbsM hL9 hR9 hI hrow2 hp
                simp only [Act.put]
                go_wp2_with (fail)
                exact ⟨⟨i + 1, L', rs ++ [r], A8, c8, rfl, hI9, hbw9, HL9, HR9, hi9, hL'⟩, by simp only [intOf]; omega⟩
          · have hiI : ¬ (i : Int) < nL := by omega
            have hin : i = nL := by omega
            have hdone : Done st bs a0 i := by
              show (bfsN st bs a0 i).length = i
              rw [← HLb.out, hin]
            have Hdone := Lib.hid hdone
            have hres := hI.res
            have hbel := hI.bel
            have Hg4 := Lib.hid (And.intro hI.ord.1 hI.ord.2.2.2)
            obtain ⟨x, hxf, hxrs, hxfo, hxen, hxb, hxO⟩ := hI.tab
            have hp := hI.q.ord
            have hordd := hI.ord
            have Hx := Lib.hid (And.intro hxf (And.intro hxrs (And.intro hxfo hxen)))
            clear hI hxf hxrs hxfo hxen hdone
            by_cases hcap : mm < (nL : Int)
            · have hcapg : (nL : Int) > mm := hcap
              have Hbel := Lib.hid hbel
              have Hcap := Lib.hid hcap
              clear hcap hbel hxb hxO
              go_wp2_with (first
                | (refine wl_build_dfa0 rfl rfl ?_)
                | (refine wl_store_dfa rfl _ _ rfl (g2 + 1) rfl rfl hres ?_; intro w6 h46 hg6))
              try rw [Exit.noGoto_ret]
              refine ret_dfa rfl rfl h46 rfl ?_
              refine ⟨.inr (.inr ⟨Hb.out.symm, fun k hk => ?_, rfl⟩), below_grown Hbel.out hg6 (by have := Hg2.out; omega)⟩
              rw [Int.toNat_natCast, ← HbsE.out, ← Hst.out, ← Ha0.out] at hk
              have h1 := hk.one Hdone.out
              rw [← Hmm.out]
              have h2 := Hcap.out
              omega
            · have hcapg : ¬ (nL : Int) > mm := hcap
              have Hbel := Lib.hid hbel
              have Hcap := Lib.hid hcap
              have HxO := Lib.hid hxO
              unfold TV.C' at hxb
              clear hcap hbel hxO
              go_wp2_with (first
                | (refine wl_load_dfa rfl _ rfl gd rfl hxb ?_)
                | (refine wl_store_dfa rfl _ _ rfl (g2 + 1) rfl rfl hres ?_; intro w6 h46 hg6))
              try rw [Exit.noGoto_ret]
              refine ret_dfa rfl rfl h46 rfl ?_
              have hb0w : w.heap.size ≤ b0 := by omega
              refine ⟨.inr (.inl ⟨Hb.out.symm, i, x, ?_, ?_, rfl, ?_, (HxO.out.low hg6 (by omega)).mono hb0w⟩), below_grown Hbel.out hg6 (by have := Hg2.out; omega)⟩
              · rw [Int.toNat_natCast, ← HbsE.out, ← Hst.out, ← Ha0.out]
                exact Hdone.out
              · rw [← Hmm.out]
                have h2 := Hcap.out
                omega
              · rw [Int.toNat_natCast]
                unfold tabQ TV.T
                rw [← HbsE.out, ← Hst.out, ← Ha0.out, Hx.out.1, Hx.out.2.1, Hx.out.2.2.1, Hx.out.2.2.2, HRo.out, ← HL.out, List.map_map, List.map_map, Hf.out]
                rfl
end Go.Proofs.YtkedgombccdamaaDoor
namespace Go.Proofs.YtkedgombccdamaaDoor
open Go.RowKit Go.Shelf Go.Maps
set_option linter.unusedVariables false
set_option linter.unusedSimpArgs false
attribute [local go_sem] Oper.semAt_some

set_option maxRecDepth 100000 in
set_option maxHeartbeats 4000000 in
theorem rclose_any (B0 N n c0 m d0 : Nat) (E : List Edg) (R : List Nat) (A B : Option Addr) (Ai : Option Addr) (ci x Bi : Nat) (beg en : Bool) (hx : below x N) (w : World) (hM : RMach B0 w N E R A n B m) (hin : SliceOf w Bi 1 encB Ai (boolsN x N)) (hBi : Bi ≤ w.heap.size) :
    Calls Tryd.prog 88 #[.agg (nfaC N A n c0 B m d0), .slice Ai N ci, .bool beg, .bool en] w fun e w' => ∃ g cap, e = .returned (.slice (some ⟨g, 0, none⟩) N cap) ∧ w.heap.size ≤ g ∧ Own w' w.heap.size 4 1 encB (.slice (some ⟨g, 0, none⟩) N cap) (boolsN (spreadN E N beg en x) N) ∧ Below w.heap.size w w' := by
  have hN := hM.lN
  have hone := hM.fits.one
  have hfr := hM.fits.fr
  have htt := hM.fits.tt
  have hn2 : n ≤ 1099511627776 := by rw [hM.nE]; exact hM.lE
  have Hn := Lib.hid hM.nE
  have Hlow := Lib.hid hM.low
  obtain ⟨i0, hi0, hz0, hz1, hz2⟩ := info_parts info_bool3
  have h4 : Blk (w.alloc (.cells (nfaC N A n c0 B m d0) 25)) w.heap.size 25 (nfaC N A n c0 B m d0) := Blk.new w _ _
  have hBa : Below w.heap.size w (w.alloc (.cells (nfaC N A n c0 B m d0) 25)) := below_alloc (Below.refl _ _) _
  have hs1 : (w.alloc (.cells (nfaC N A n c0 B m d0) 25)).heap.size = w.heap.size + 1 := Array.size_push ..
  go_enter Tryd.func88, Tryd.ntmps88
  go_upto_region 1 with (fail)
  obtain ⟨w1, hw1⟩ : ∃ y, y = w.alloc (.cells (nfaC N A n c0 B m d0) 25) := ⟨_, rfl⟩
  rw [← hw1] at h4 hBa hs1 ⊢
  obtain ⟨g4, hg4⟩ : ∃ y, y = w.heap.size := ⟨_, rfl⟩
  have Hg4 := Lib.hid hg4
  rw [← hg4] at h4 ⊢
  have hin1 := hin.keep (w' := w1) (fun k hk => hBa.block k (by omega))
  have hM1 := hM.then_ hBa
  have hs1w : w.heap.size ≤ w1.heap.size := by omega
  have hBi1 : Bi ≤ w1.heap.size := by omega
  clear hw1 hg4 hin hs1
  have hB0 : Below w1.heap.size w1 (w1.alloc (.cells #[] 4)) := below_alloc (Below.refl _ _) _
  have hin2 := hin1.keep (w' := w1.alloc (.cells #[] 4)) (fun k hk => hB0.block k (by omega))
  go_upto_region 2 with (at_builtin; refine wl_append (enc := encB) _ rfl _ _ 68 rfl w.heap.size 4 i0 _ 1 1 Tryd.underlying68 hi0 hz0 hz1 hz2 rfl (by decide) encB_size encB_one _ _ rfl (own_empty (w := w1) (e := 4) (size := 1) (base := w.heap.size) hs1w) _ _ _ _ (boolsN x N) rfl (boolsN_length _ _).symm hin2 (by simp only [List.length_nil]; unfold maxLen; omega) (by simp only [List.length_nil]; omega) (by simp; omega) ?_; intro v1 w2 hs2 hg2 hv2)
  rw [List.nil_append] at hs2
  obtain ⟨g, cap, hv1, hgb, hgl, _⟩ := hs2.form (by rw [boolsN_length]; exact hone)
  rw [boolsN_length] at hv1
  subst hv1
  have hB12 : Below w1.heap.size w1 w2 := below_grown hB0 hg2 (Nat.le_refl _)
  have hM2 := hM1.then_ hB12
  have h42 := blk_then h4 hB12
  have hBw := below_then hBa hB12
  have hg4g : g4 ≠ g := fun e => own_blk_ne hs2 h42 (by decide) (by rw [e]; rfl)
  clear hB0 hin1 hin2 hg2 hv2 hB12 hM1 h4 hBa hi0 hz0 hz1 hz2 hM
  go_wp2_with (fail)
  go_loopw [] (fun wr => ∃ y : Nat, Own wr w.heap.size 4 1 encB (.slice (some ⟨g, 0, none⟩) N cap) (boolsN y N) ∧ RMach B0 wr N E R A n B m ∧ Blk wr g4 25 (nfaC N A n c0 B m d0) ∧ Below w.heap.size w wr ∧ (∀ i, x.testBit i = true → y.testBit i = true) ∧ below y N ∧ (∀ i, y.testBit i = true → Reach E beg en x i)) (fun wr => N - trues wr g N)
  case atStart => exact ⟨x, hs2, hM2, h42, hBw, fun _ h => h, hx, fun _ h => .base h⟩
  case round =>
    clear hs2 hM2 h42 hBw
    obtain ⟨y, hS, hM1, h4, hB1, hxy, hyN, hrch⟩ := hrel
    have htr := trues_own hS
    have Htr := Lib.hid htr
    clear htr
    go_wp2_with (fail)
    go_loopw [10, 11] (fun mv iv wi => ∃ (mb : Bool) (z k : Nat), k ≤ n ∧ mv = .bool mb ∧ iv = .int .i64 k ∧ Own wi w.heap.size 4 1 encB (.slice (some ⟨g, 0, none⟩) N cap) (boolsN z N) ∧ RMach B0 wi N E R A n B m ∧ Blk wi g4 25 (nfaC N A n c0 B m d0) ∧ Below w.heap.size w wi ∧ (∀ i, y.testBit i = true → z.testBit i = true) ∧ below z N ∧ (∀ i, z.testBit i = true → Reach E beg en x i) ∧ (mb = false → z = y ∧ ∀ d ∈ E.take k, may beg en d = true → y.testBit d.fr.toNat = true → y.testBit d.tt.toNat = true) ∧ (mb = true → (bitsTo y N).length < (bitsTo z N).length)) (fun _ iv _ => n - (intOf iv).toNat)
    case atStart => exact ⟨false, y, 0, by omega, rfl, rfl, hS, hM1, h4, hB1, fun _ h => h, hyN, hrch, fun _ => ⟨rfl, fun d hd => by simp at hd⟩, fun h => by cases h⟩
    case round =>
      clear hS hM1 h4 hB1 hrch hyN
      obtain ⟨mb, z, k, hk, rfl, rfl, hS, hM1, h4, hB1, hyz, hzN, hrch, hcl, hgr⟩ := hrel
      have cE : wr.cell? ⟨g4, 1, none⟩ = some (.slice A n c0) := h4.cellv (i := 1) rfl
      by_cases hkl : k < n
      · have hkI : (k : Int) < n := by omega
        have hkE : k < E.length := by rw [← Hn.out]; exact hkl
        obtain ⟨bA, offA, rfl, hbA, hrows⟩ := hM1.edges.at_ (by omega)
        have hr0 := hrows k hkE
        obtain ⟨dd, hd⟩ : ∃ d, d = E[k] := ⟨_, rfl⟩
        rw [← hd] at hr0
        have hdE : dd ∈ E := by rw [hd]; exact List.getElem_mem hkE
        have htk : E.take (k + 1) = E.take k ++ [dd] := by rw [List.take_succ_eq_append_getElem hkE, ← hd]
        have Htk := Lib.hid htk
        have HdE := Lib.hid hdE
        have Hgr := Lib.hid hgr
        have Hcl := Lib.hid hcl
        have Hyz := Lib.hid hyz
        have Hxy := Lib.hid hxy
        have Hrch := Lib.hid hrch
        have HzN := Lib.hid hzN
        have hfb := hfr dd hdE
        have htb := htt dd hdE
        obtain ⟨p, hp⟩ : ∃ q : Nat, dd.fr = (q : Int) := ⟨dd.fr.toNat, by omega⟩
        obtain ⟨q, hq⟩ : ∃ q : Nat, dd.tt = (q : Int) := ⟨dd.tt.toNat, by omega⟩
        have hpN : p < N := by omega
        have hqN : q < N := by omega
        have hpt : dd.fr.toNat = p := by omega
        have hqt : dd.tt.toNat = q := by omega
        have hkd : 1 ≤ dd.kd ∧ dd.kd ≤ 4 := hM1.fits.kinds dd hdE
        have hkd4 : dd.kd = 1 ∨ dd.kd = 2 ∨ dd.kd = 3 ∨ dd.kd = 4 := by omega
        have Hpq := Lib.hid (And.intro (And.intro hp hq) (And.intro hpt hqt))
        clear hd htk hdE hgr hcl hyz hxy hrch hzN hrows hfb htb hp hq hpt hqt hkd hfr htt
        have hkb : k < 1099511628000 := by omega
        go_upto_region 7 with (first | (refine wl_load_edge_at rfl _ rfl _ _ rfl _ hr0 ?_) | (refine wl_store_edge rfl _ _ rfl _ _ rfl rfl edge0 (Blk.new _ _ _) ?_; intro w3 h5 hg3))
        have hB3 := below_grown (below_alloc (Below.refl _ wr) (.cells #[.int .i64 0, .int .i64 0, .int .i64 0, .int .u64 0, .int .u64 0, .int .u64 0, .int .u64 0] 76)) hg3 (Nat.le_refl _)
        obtain ⟨ge, hge⟩ : ∃ y, y = wr.heap.size := ⟨_, rfl⟩
        rw [← hge] at h5 ⊢
        have hgeg : ge ≠ g := by have := (hS.lt g rfl).2; omega
        replace hS := hS.then_ hB3
        replace hM1 := hM1.then_ hB3
        replace h4 := blk_then h4 hB3
        replace hB1 := below_then hB1 hB3
        clear hr0 hg3 hB3 cE hge
        simp only [Act.put]
        go_cut [13] from 29 to 48 (fun v wx => wx = w3 ∧ v = .bool (may beg en dd))
        case first =>
          have c1 : w3.cell? ⟨ge, 0, none⟩ = some (.int .i64 dd.kd) := h5.cellv (i := 0) rfl
          clear hS hM1 h4 hB1 h5 Htk HdE Hgr Hcl Hyz Hxy Hrch HzN Hpq Htr
          rcases hkd4 with h | h | h | h
          all_goals rw [h] at c1
          all_goals cases beg
          all_goals cases en
          all_goals go_wp2_with (fail)
          all_goals go_meet
          all_goals exact ⟨rfl, congrArg Value.bool (by simp [may, h])⟩
        obtain ⟨hwc, rfl⟩ := hcut
        subst hwc
        obtain ⟨f, hf⟩ : ∃ f, may beg en dd = f := ⟨_, rfl⟩
        obtain ⟨zp, hzp⟩ : ∃ b, z.testBit p = b := ⟨_, rfl⟩
        obtain ⟨zq, hzq⟩ : ∃ b, z.testBit q = b := ⟨_, rfl⟩
        have cp : wc.cell? ⟨ge, 1, none⟩ = some (.int .i64 (p : Int)) := by rw [← Hpq.out.1.1]; exact h5.cellv (i := 1) rfl
        have cq : wc.cell? ⟨ge, 2, none⟩ = some (.int .i64 (q : Int)) := by rw [← Hpq.out.1.2]; exact h5.cellv (i := 2) rfl
        have hrb : ∀ j, j < N → wc.cell? ⟨g, j, none⟩ = some (.bool (z.testBit j)) := fun j hj => by
          have hl : j < (boolsN z N).length := by rw [boolsN_length]; exact hj
          have := hS.row encB_size j hl 0 _ rfl
          rw [boolsN_get] at this
          rw [Nat.mul_one, Nat.add_zero] at this
          exact this
        have cgp : wc.cell? ⟨g, p, none⟩ = some (.bool zp) := by rw [← hzp]; exact hrb p hpN
        have cgq : wc.cell? ⟨g, q, none⟩ = some (.bool zq) := by rw [← hzq]; exact hrb q hqN
        have hpI : (p : Int) < N := by omega
        have hqI : (q : Int) < N := by omega
        have hpb : p < 1099511628000 := by omega
        have hqb : q < 1099511628000 := by omega
        rw [hf]
        have Hf := Lib.hid hf
        have Hz := Lib.hid (And.intro hzp hzq)
        clear hf hzp hzq hrb hkd4
        obtain ⟨w5, hw5⟩ : ∃ y, y = wc := ⟨_, rfl⟩
        rw [← hw5] at h5 hS hM1 h4 hB1 cp cq cgp cgq ⊢
        clear hw5
        go_upto_region 8 with (fail)
        go_cut [63] from 48 to 64 (fun v wx => wx = w5 ∧ v = .bool ((f && zp) && !zq))
        case first =>
          clear hS hM1 h4 hB1 h5 Htk HdE Hgr Hcl Hyz Hxy Hrch HzN Hpq Htr
          cases f
          all_goals cases zp
          all_goals cases zq
          all_goals go_wp2_with (fail)
          all_goals go_meet
          all_goals exact ⟨rfl, rfl⟩
        obtain ⟨hwc, rfl⟩ := hcut
        subst hwc
        obtain ⟨r, hr⟩ : ∃ b, ((f && zp) && !zq) = b := ⟨_, rfl⟩
        rw [hr]
        have Hr := Lib.hid hr
        clear hr cp cgp cgq
        cases r with
        | false =>
          clear cq
          go_wp2_with (fail)
          refine ⟨⟨mb, z, k + 1, by omega, rfl, rfl, hS, hM1, h4, hB1, Hyz.out, HzN.out, Hrch.out, fun hmb => ⟨(Hcl.out hmb).1, fun d hd hm h1 => ?_⟩, Hgr.out⟩, by simp only [intOf]; omega⟩
          have hcl := Hcl.out hmb
          rw [Htk.out, List.mem_append, List.mem_singleton] at hd
          rcases hd with hd | rfl
          · exact hcl.2 d hd hm h1
          · rw [Hpq.out.2.1, ← hcl.1, Hz.out.1] at h1
            rw [Hpq.out.2.2, ← hcl.1, Hz.out.2]
            have h2 := Hf.out
            rw [hm] at h2
            have h3 := Hr.out
            rw [← h2, h1] at h3
            simpa using h3
        | true =>
          have hr3 : f = true ∧ zp = true ∧ zq = false := by
            have := Hr.out
            cases f <;> cases zp <;> cases zq <;> simp_all
          obtain ⟨rfl, rfl, rfl⟩ := hr3
          go_wp2_with (refine wl_store_one (enc := encB) encB_size rfl _ info_bool1 _ _ rfl g q N cap rfl true rfl rfl rfl hS (by rw [boolsN_length]; exact hqN) ?_; intro w6 hS6 hg6)
          rw [boolsN_set] at hS6
          have hgw := (hS.lt g rfl).1
          refine ⟨⟨true, z ||| 2 ^ q, k + 1, by omega, rfl, rfl, hS6, hM1.grown hg6 (by have := hM1.low; have := Hlow.out; omega), blk_grown h4 hg6 hg4g, below_grown hB1 hg6 hgw, fun i hi => by rw [testBit_or_pow, Hyz.out i hi]; rfl, below_or HzN.out (below_pow hqN), fun i hi => ?_, fun h => absurd h (by decide), fun _ => bits_grow Hyz.out HzN.out hqN Hz.out.2⟩, by simp only [intOf]; omega⟩
          rw [testBit_or_pow, Bool.or_eq_true, decide_eq_true_eq] at hi
          rcases hi with hi | rfl
          · exact Hrch.out i hi
          · rw [← Hpq.out.2.2]
            exact .step HdE.out Hf.out (by rw [Hpq.out.2.1]; exact Hrch.out p Hz.out.1)
      · have hkI : ¬ (k : Int) < n := by omega
        have htr2 := trues_own hS
        have hkn : E.take k = E := List.take_of_length_le (by rw [← Hn.out]; omega)
        rw [hkn] at hcl
        have Htr2 := Lib.hid htr2
        have hle := bitsTo_length z N
        have Hgr := Lib.hid hgr
        have Hcl := Lib.hid hcl
        clear htr2 hgr hcl hkn
        cases mb with
        | false =>
          have hcl := Hcl.out rfl
          have hy := spread_is htt hx (fun i hi => hyz i (hxy i hi)) (fun d hd hm h1 => by rw [hcl.1] at h1 ⊢; exact hcl.2 d hd hm h1) hrch
          have Hy := Lib.hid hy
          have hgw := (hS.lt g rfl).1
          clear hcl hy
          go_wp2_with (fail)
          go_ret
          rw [← Hy.out]
          exact ⟨g, cap, rfl, hgw, hS, hB1⟩
        | true =>
          go_wp2_with (fail)
          refine ⟨⟨z, hS, hM1, h4, hB1, fun i hi => hyz i (hxy i hi), hzN, hrch⟩, ?_⟩
          rw [Htr2.out, Htr.out]
          have := Hgr.out rfl
          omega
end Go.Proofs.YtkedgombccdamaaDoor
namespace Go.Proofs.YtkedgombccdamaaDoor
open Go.RowKit Go.Shelf Go.Maps
set_option linter.unusedVariables false
set_option linter.unusedSimpArgs false
attribute [local go_sem] Oper.semAt_some

set_option maxRecDepth 100000 in
set_option maxHeartbeats 2000000 in
theorem rrules_any (B0 N n c0 m d0 : Nat) (E : List Edg) (R : List Nat) (A B : Option Addr) (Ai : Option Addr) (ci x Bi : Nat) (w : World) (hM : RMach B0 w N E R A n B m) (hin : SliceOf w Bi 1 encB Ai (boolsN x N)) (hBi : Bi ≤ w.heap.size) :
    Calls Tryd.prog 89 #[.agg (nfaC N A n c0 B m d0), .slice Ai N ci] w fun e w' => e = .returned (.int .u32 (metN R x N : Nat)) ∧ Below w.heap.size w w' := by
  have hN := hM.lN
  have hmN := hM.mR
  subst hmN
  obtain ⟨bi, offi, rfl, hbi, hrow⟩ := hin.at_ (by rw [boolsN_length]; exact hM.fits.one)
  obtain ⟨bR, offR, rfl, hbR, hrowR⟩ := hM.rules.at_ (by rw [hM.fits.rules]; exact hM.fits.one)
  have hlow := hM.low
  have hcell : ∀ W, Below w.heap.size w W → ∀ k, k < m → W.cell? ⟨bi, offi + k, none⟩ = some (.bool (x.testBit k)) := fun W hW k hk => by
    have hl : k < (boolsN x m).length := by rw [boolsN_length]; exact hk
    have := hrow k hl 0 _ rfl
    rw [boolsN_get, Nat.mul_one] at this
    exact (World.cell?_of_block (w := w) (hW.block bi (by omega))).trans this
  have hcellR : ∀ W, Below w.heap.size w W → ∀ k, k < m → W.cell? ⟨bR, offR + k, none⟩ = some (.int .u32 (R.getD k 0 : Nat)) := fun W hW k hk => by
    have hl : k < R.length := by rw [hM.fits.rules]; exact hk
    have := hrowR k hl 0 _ rfl
    rw [Nat.mul_one] at this
    rw [List.getD_eq_getElem?_getD, List.getElem?_eq_getElem hl, Option.getD_some]
    exact (World.cell?_of_block (w := w) (hW.block bR (by omega))).trans this
  have hR := hM.lt
  have Hcell := Lib.hid hcell
  have HcellR := Lib.hid hcellR
  clear hrow hrowR hM hin hcell hcellR
  have h2 : Blk (w.alloc (.cells (nfaC m A n c0 (some ⟨bR, offR, none⟩) m d0) 25)) w.heap.size 25 (nfaC m A n c0 (some ⟨bR, offR, none⟩) m d0) := Blk.new w _ _
  have hBa : Below w.heap.size w (w.alloc (.cells (nfaC m A n c0 (some ⟨bR, offR, none⟩) m d0) 25)) := below_alloc (Below.refl _ _) _
  go_enter Tryd.func89, Tryd.ntmps89
  go_upto_region 1 with (fail)
  obtain ⟨w1, hw1⟩ : ∃ y, y = w.alloc (.cells (nfaC m A n c0 (some ⟨bR, offR, none⟩) m d0) 25) := ⟨_, rfl⟩
  rw [← hw1] at h2 hBa ⊢
  obtain ⟨g2, hg2⟩ : ∃ y, y = w.heap.size := ⟨_, rfl⟩
  rw [← hg2] at h2 ⊢
  have cN : w1.cell? ⟨g2, 0, none⟩ = some (.int .i64 (m : Int)) := h2.cellv rfl
  have cR : w1.cell? ⟨g2, 2, none⟩ = some (.slice (some ⟨bR, offR, none⟩) m d0) := h2.cellv (i := 2) rfl
  have Hc1 := Lib.hid (Hcell.out w1 hBa)
  have HcR1 := Lib.hid (HcellR.out w1 hBa)
  clear hw1 hg2 h2 Hcell HcellR
  go_wp2_with (fail)
  go_loopw [6, 5] (fun i r wr => ∃ k : Nat, k ≤ m ∧ i = .int .i64 k ∧ r = .int .u32 ((metN R x k : Nat) : Int) ∧ wr = w1) (fun i _ _ => m - (intOf i).toNat)
  case atStart => exact ⟨0, by omega, rfl, by simp [metN, bitsTo], rfl⟩
  case round =>
    obtain ⟨k, hk, rfl, rfl, rfl⟩ := hrel
    by_cases hkl : k < m
    · have hkI : (k : Int) < m := by omega
      have hc := Hc1.out k hkl
      have hcr := HcR1.out k hkl
      have hkb : k < 1099511628000 := by omega
      have Hst := Lib.hid (met_succ R x k)
      obtain ⟨v, hv⟩ : ∃ v, v = metN R x k := ⟨_, rfl⟩
      have hvl : v < 4294967296 := by rw [hv]; exact met_lt hR _ _
      have hor := u32_or_nat v (R.getD k 0) hvl (ruleD_lt hR k)
      obtain ⟨rk, hrk⟩ : ∃ q, q = R.getD k 0 := ⟨_, rfl⟩
      rw [← hrk] at hor hcr
      have Hrk := Lib.hid hrk
      clear hrk
      rw [← hv]
      have Hv := Lib.hid hv
      obtain ⟨b, hb⟩ : ∃ b, x.testBit k = b := ⟨_, rfl⟩
      rw [hb] at hc
      have Hb := Lib.hid hb
      clear hv hb
      cases b with
      | true =>
        go_wp2_with (fail)
        exact ⟨⟨k + 1, by omega, rfl, by rw [Hst.out, if_pos Hb.out, ← Hv.out, ← Hrk.out], trivial⟩, by simp only [intOf]; omega⟩
      | false =>
        go_wp2_with (fail)
        exact ⟨⟨k + 1, by omega, rfl, by rw [Hst.out, Hb.out, ← Hv.out]; rfl, trivial⟩, by simp only [intOf]; omega⟩
    · have hkI : ¬ (k : Int) < m := by omega
      obtain rfl : m = k := by omega
      go_wp2_with (fail)
      go_ret
      exact ⟨rfl, hBa⟩
theorem info_momR : (Tryd.prog.info? 101).map (·.size) = some 3 := by kernel_rfl
theorem build_momR (A : Option Addr) (k c : Nat) (w : World) : (Instr.build 101 #[(0, .slice A k c)]).run Tryd.prog w = .ok (.agg (momC A k c 0 0)) w := by kernel_rfl
theorem field_momR_0 (b off : Nat) (w : World) : (Instr.fieldAt 101 (.pointer (some ⟨b, off, none⟩)) 0).run Tryd.prog w = .ok (.pointer (some ⟨b, off, none⟩)) w := by kernel_rfl
theorem field_momR_1 (b off : Nat) (w : World) : (Instr.fieldAt 101 (.pointer (some ⟨b, off, none⟩)) 1).run Tryd.prog w = .ok (.pointer (some ⟨b, off + 1, none⟩)) w := by kernel_rfl
theorem field_momR_2 (b off : Nat) (w : World) : (Instr.fieldAt 101 (.pointer (some ⟨b, off, none⟩)) 2).run Tryd.prog w = .ok (.pointer (some ⟨b, off + 2, none⟩)) w := by kernel_rfl
theorem enter_rclose (args : Array Value) (w : World) : (callFunc 88 args).run Tryd.prog w = .ok (.enter 88 args) w := by kernel_rfl
theorem enter_rrules (args : Array Value) (w : World) : (callFunc 89 args).run Tryd.prog w = .ok (.enter 89 args) w := by kernel_rfl
section
variable {ops : Array Oper} {rest : List Oper} {o : Oper} {a : Act} {w : World} {Q : Exit → Act → World → Prop}
theorem wl_store_momR (hgd : o.guard = none) (x y : Operand) (ho : o.op = .store 101 x y) (g : Nat) (A : Option Addr) (k c r e : Nat) (hx : a.eval x = .pointer (some ⟨g, 0, none⟩)) (hy : a.eval y = .agg (momC A k c r e)) (old : Array Value) (ho2 : old.size = 3) (hb : Blk w g 101 old)
    (h : ∀ w', Blk w' g 101 (momC A k c r e) → w.grownBy w' (some g) → wpList Tryd.prog ops Q rest (a.put o.dst undef) w') : wpList Tryd.prog ops Q (o :: rest) a w :=
  wpList_store_row hgd _ x y ho g _ hx hy _ _ hb (info_momR.trans rfl) (by rw [ho2]; rfl) (momC_one _ _ _ _ _) (h _ (hb.setRow_same _) (only_setRow (only_refl _ _) _))
theorem wl_load_momR (hgd : o.guard = none) (x : Operand) (ho : o.op = .load 101 x) (g : Nat) (hx : a.eval x = .pointer (some ⟨g, 0, none⟩)) (A : Option Addr) (k c r e : Nat) (hb : Blk w g 101 (momC A k c r e))
    (h : wpList Tryd.prog ops Q rest (a.put o.dst (.agg (momC A k c r e))) w) : wpList Tryd.prog ops Q (o :: rest) a w :=
  wpList_load_row hgd _ x ho g hx _ _ _ _ hb Tryd.underlying101 rfl (info_momR.trans rfl) h
theorem wl_build_momR (hgd : o.guard = none) (x : Operand) (ho : o.op = .build 101 #[(0, x)]) (A : Option Addr) (k c : Nat) (hx : a.eval x = .slice A k c)
    (h : wpList Tryd.prog ops Q rest (a.put o.dst (.agg (momC A k c 0 0))) w) : wpList Tryd.prog ops Q (o :: rest) a w :=
  wl_run hgd (v := .agg (momC A k c 0 0)) (by unfold execOp; simp only [ho, List.map_toArray, List.map_cons, List.map_nil, hx, Sem.run_bind, build_momR, Result.andThen_ok, Sem.run_pure]) h
end
/-- a list of flags of one's own -/
def flagsS (base N y : Nat) (g : Nat × Nat) : GSpec := ⟨fun v w => v = .slice (some ⟨g.1, 0, none⟩) N g.2 ∧ Own w base 4 1 encB (.slice (some ⟨g.1, 0, none⟩) N g.2) (boolsN y N), fun v w w' ⟨h1, h2⟩ hb => ⟨h1, h2.then_ hb⟩⟩
theorem close_step {P : Program} {f : FuncId} {vs : Array Value} {w : World} {base N y : Nat} {T : GSpec} (hb : base ≤ w.heap.size) (hc : Calls P f vs w fun e w' => ∃ g cap, e = .returned (.slice (some ⟨g, 0, none⟩) N cap) ∧ w.heap.size ≤ g ∧ Own w' w.heap.size 4 1 encB (.slice (some ⟨g, 0, none⟩) N cap) (boolsN y N) ∧ Below w.heap.size w w')
    (hp : ∀ v w', (∃ g, (flagsS base N y g).p v w') → T.p v w') : Calls P f vs w fun e w' => ∃ v, e = .returned v ∧ Below w.heap.size w w' ∧ T.p v w' :=
  hc.mono fun e w' ⟨g, cap, h1, _, h3, h4⟩ => ⟨_, h1, h4, hp _ _ ⟨(g, cap), rfl, h3.mono hb⟩⟩
set_option maxRecDepth 100000 in
set_option maxHeartbeats 8000000 in
theorem rmoment_any (B0 N n c0 m d0 base g c x met : Nat) (E : List Edg) (R : List Nat) (A B : Option Addr) (beg : Bool) (hx : below x N) (hm : met < 4294967296) (w : World) (hM : RMach B0 w N E R A n B m) (hS : Own w base 4 1 encB (.slice (some ⟨g, 0, none⟩) N c) (boolsN x N)) (hg0 : B0 ≤ g) :
    Calls Tryd.prog 71 #[.agg (nfaC N A n c0 B m d0), .slice (some ⟨g, 0, none⟩) N c, .int .u32 (met : Int), .bool beg] w fun e w' => ∃ g2 cap, e = .returned (.agg (momC (some ⟨g2, 0, none⟩) N cap (moN E N R x met beg).met (moN E N R x met beg).end_)) ∧ w.heap.size ≤ g2 ∧ Own w' w.heap.size 4 1 encB (.slice (some ⟨g2, 0, none⟩) N cap) (boolsN (moN E N R x met beg).at_ N) ∧ Turn g (g + 1) w w' := by
  have hone := hM.fits.one
  have hgl := (hS.lt g rfl).2
  have Hlt := Lib.hid (fun y => met_lt (fun r hr => hM.lt r hr) y N)
  have Hlow := Lib.hid hM.low
  obtain ⟨y, hy⟩ : ∃ y, y = spreadN E N beg false (x ||| 1) := ⟨_, rfl⟩
  obtain ⟨r0, hr0⟩ : ∃ r, r = metN R y N := ⟨_, rfl⟩
  obtain ⟨r1, hr1⟩ : ∃ r, r = met ||| r0 := ⟨_, rfl⟩
  obtain ⟨y2, hy2⟩ : ∃ z, z = spreadN E N beg true y := ⟨_, rfl⟩
  obtain ⟨r2, hr2⟩ : ∃ r, r = metN R y2 N := ⟨_, rfl⟩
  obtain ⟨e2, he2⟩ : ∃ r, r = r1 ||| r2 := ⟨_, rfl⟩
  have hmo : moN E N R x met beg = ⟨y, r1, e2⟩ := by rw [he2, hr2, hy2, hr1, hr0, hy]; rfl
  rw [hmo]
  have hx1 : below (x ||| 2 ^ 0) N := below_or hx (below_pow (by omega))
  have hy0 : y = spreadN E N beg false (x ||| 2 ^ 0) := hy
  have hyN : below y N := by rw [hy]; exact spread_below _ _ _ _ _
  have hr0l : r0 < 4294967296 := by rw [hr0]; exact Hlt.out _
  have hr1l : r1 < 4294967296 := by rw [hr1]; exact Nat.or_lt_two_pow (n := 32) hm hr0l
  have hr2l : r2 < 4294967296 := by rw [hr2]; exact Hlt.out _
  have hor1 := u32_or_nat met r0 hm hr0l
  have hor2 := u32_or_nat r1 r2 hr1l hr2l
  rw [← hr1] at hor1
  rw [← he2] at hor2
  have Hy := Lib.hid hy0
  have Hr0 := Lib.hid hr0
  have Hy2 := Lib.hid hy2
  have Hr2 := Lib.hid hr2
  have Hx1 := Lib.hid hx1
  have HyN := Lib.hid hyN
  have Hor2 := Lib.hid hor2
  have hN0 : (0 : Nat) < (boolsN x N).length := by rw [boolsN_length]; exact hone
  clear hy hr0 hr1 hy2 hr2 he2 hmo hx1 hy0 hyN hx hor2
  have h4 : Blk (w.alloc (.cells (nfaC N A n c0 B m d0) 25)) w.heap.size 25 (nfaC N A n c0 B m d0) := Blk.new w _ _
  have hBa : Below w.heap.size w (w.alloc (.cells (nfaC N A n c0 B m d0) 25)) := below_alloc (Below.refl _ _) _
  have hs1 : (w.alloc (.cells (nfaC N A n c0 B m d0) 25)).heap.size = w.heap.size + 1 := Array.size_push ..
  go_enter Tryd.func71, Tryd.ntmps71
  go_upto_region 1 with (fail)
  obtain ⟨w1, hw1⟩ : ∃ y, y = w.alloc (.cells (nfaC N A n c0 B m d0) 25) := ⟨_, rfl⟩
  rw [← hw1] at h4 hBa hs1 ⊢
  have h8 : Blk (w1.alloc (.cells #[.slice none 0 0, .int .u32 0, .int .u32 0] 101)) w1.heap.size 101 (momC none 0 0 0 0) := Blk.new w1 101 (momC none 0 0 0 0)
  have hBb : Below w1.heap.size w1 (w1.alloc (.cells #[.slice none 0 0, .int .u32 0, .int .u32 0] 101)) := below_alloc (Below.refl _ _) _
  obtain ⟨w2, hw2⟩ : ∃ y, y = w1.alloc (.cells #[.slice none 0 0, .int .u32 0, .int .u32 0] 101) := ⟨_, rfl⟩
  rw [← hw2, hs1] at h8
  rw [← hw2] at hBb ⊢
  obtain ⟨g4, hg4⟩ : ∃ y, y = w.heap.size := ⟨_, rfl⟩
  rw [← hg4] at h4 h8 ⊢
  have Hg4 := Lib.hid hg4
  replace h4 := blk_then h4 hBb
  have hBw := below_then hBa hBb
  have hT := (Turn.refl g (g + 1) w).then_ hBw
  replace hM := hM.then_ hBw
  replace hS := hS.then_ hBw
  have hN1 : (0 : Int) < N := by omega
  have hgg4 : g < g4 := by omega
  clear hw1 hw2 hBa hBb hs1 hBw hg4
  go_upto_region 2 with (refine wl_store_one (enc := encB) encB_size rfl _ info_bool1 _ _ rfl g 0 N c rfl true rfl rfl rfl hS hN0 ?_; intro w3 hS3 hg3)
  rw [boolsN_set] at hS3
  replace hT := hT.grown hg3 (fun r e => by injection e with e; omega)
  replace hM := hM.grown hg3 hg0
  replace h4 := blk_grown h4 hg3 (by omega)
  replace h8 := blk_grown h8 hg3 (by omega)
  have hs3 : w.heap.size ≤ w3.heap.size := hT.size
  simp only [Act.put]
  clear hg3 hS
  have kC := rclose_any B0 N n c0 m d0 E R A B (some ⟨g, 0, none⟩) c (x ||| 2 ^ 0) w3.heap.size beg false Hx1.out w3 hM (hS3.slice_all encB_size) (Nat.le_refl _)
  rw [← Hy.out] at kC
  go_upto_region 3 with (first
    | (refine wpList_load_row rfl _ _ rfl _ rfl _ _ _ _ h4 Tryd.underlying25 rfl (info_nfa3.trans rfl) ?_)
    | (go_at_call 88; refine kC.mono ?_; rintro en w4 ⟨g2, cap, rfl, hg2, hS4, hB4⟩)
    | (refine wl_build_momR rfl _ rfl (some ⟨g2, 0, none⟩) N cap rfl ?_)
    | (refine wl_store_momR rfl _ _ rfl _ (some ⟨g2, 0, none⟩) N cap 0 0 rfl rfl (momC none 0 0 0 0) rfl (Blk.new _ _ _) ?_; intro w5 h9 hg5))
  have hB5 : Below w4.heap.size w4 w5 := below_grown (below_alloc (Below.refl _ _) _) hg5 (Nat.le_refl _)
  have hB35 := below_then hB4 hB5
  have hg2l := (hS4.lt g2 rfl).2
  obtain ⟨g9, hg9⟩ : ∃ y, y = w4.heap.size := ⟨_, rfl⟩
  rw [← hg9] at h9 ⊢
  have hg92 : g9 ≠ g2 := by omega
  have hg9w : w3.heap.size ≤ g9 := by rw [hg9]; exact hB4.size
  have h8l := h8.lt
  replace hS4 := hS4.then_ hB5
  replace h4 := blk_then h4 hB35
  replace h8 := blk_then h8 hB35
  replace hM := hM.then_ hB35
  replace hT := hT.then_ hB35
  have hg94 : g9 ≠ g4 := by omega
  have hg98 : g4 + 1 ≠ g9 := by omega
  clear hg5 hB5 hB4 hB35 hg9 kC hS3 hg2l
  simp only [Act.put]
  have kRl := rrules_any B0 N n c0 m d0 E R A B (some ⟨g2, 0, none⟩) cap y w5.heap.size w5 hM (hS4.slice_all encB_size) (Nat.le_refl _)
  rw [← Hr0.out] at kRl
  have c9 : w5.cell? ⟨g9, 0, none⟩ = some (.slice (some ⟨g2, 0, none⟩) N cap) := h9.cellv rfl
  go_upto_region 4 with (first
    | (refine wpList_load_row rfl _ _ rfl _ rfl _ _ _ _ h4 Tryd.underlying25 rfl (info_nfa3.trans rfl) ?_)
    | (go_at_call 89; refine kRl.mono ?_; rintro en w6 ⟨rfl, hB6⟩; have h96 := blk_then h9 hB6)
    | (refine wl_store_cell rfl _ _ _ rfl g9 1 rfl 101 _ (momC (some ⟨g2, 0, none⟩) N cap r1 0) h96 (by show 1 < 3; omega) (by kernel_rfl) rfl rfl rfl ?_; intro w7 h97 hg7))
  replace hS4 := own_grown' (hS4.then_ hB6) hg7 (fun e => hg92 e.symm)
  replace h4 := blk_grown (blk_then h4 hB6) hg7 hg94.symm
  replace h8 := blk_grown (blk_then h8 hB6) hg7 hg98
  replace hM := (hM.then_ hB6).grown hg7 (by have := Hlow.out; omega)
  replace hT := (hT.then_ hB6).grown hg7 (fun r e => by injection e with e; omega)
  clear hB6 hg7 h96 c9 kRl h9 hor1
  simp only [Act.put]
  have hs7 : w.heap.size ≤ w7.heap.size := hT.size
  have kC2 : ∀ W, Below w7.heap.size w7 W → _ := fun W hW => rclose_any B0 N n c0 m d0 E R A B (some ⟨g2, 0, none⟩) cap y W.heap.size beg true HyN.out W (hM.then_ hW) ((hS4.then_ hW).slice_all encB_size) (Nat.le_refl _)
  rw [← Hy2.out] at kC2
  have kR2 : ∀ W, Below w7.heap.size w7 W → ∀ gg : Nat × Nat, Own W w7.heap.size 4 1 encB (.slice (some ⟨gg.1, 0, none⟩) N gg.2) (boolsN y2 N) → Calls Tryd.prog 89 #[.agg (nfaC N A n c0 B m d0), .slice (some ⟨gg.1, 0, none⟩) N gg.2] W fun e w' => e = .returned (.int .u32 ((r2 : Nat) : Int)) ∧ Below W.heap.size W w' := fun W hW gg ho => by
    have := rrules_any B0 N n c0 m d0 E R A B (some ⟨gg.1, 0, none⟩) gg.2 y2 W.heap.size W (hM.then_ hW) (ho.slice_all encB_size) (Nat.le_refl _)
    rw [← Hr2.out] at this
    exact this
  have hor2 := Hor2.out
  refine wp_region_stepsE (i0 := 7) 11 [7] (fun gg : Nat × Nat => [eqS (.pointer (some ⟨g9, 1, none⟩)), eqS (.int .u32 ((r1 : Nat) : Int)), eqS (.agg (nfaC N A n c0 B m d0)), eqS (.agg (nfaC N A n c0 B m d0)), eqS (.pointer (some ⟨g9, 0, none⟩)), eqS (.slice (some ⟨g2, 0, none⟩) N cap), eqS (.bool beg), flagsS w7.heap.size N y2 gg, eqS (.int .u32 ((r2 : Nat) : Int)), eqS (.int .u32 ((e2 : Nat) : Int)), eqS (.pointer (some ⟨g9, 2, none⟩))]) (0, 0) [24, 25, 26, 27, 28, 29, 30, 31, 32, 33, 34] follows_mixed (by kernel_rfl) (by kernel_rfl) ?_ (by kernel_rfl) ?_ ?_
  · intro g g' j hj
    rcases j with _ | _ | _ | _ | _ | _ | _ | _ | _ | _ | _ | j <;> first | rfl | (exact absurd hj (by decide))
  · skip
    refine StepsE.cons (fun gg a' w' hG hB dep => gs_field (want_none rfl) _ _ _ rfl g9 0 1 (hG.other 9 rfl) (fun wz => field_momR_1 g9 0 wz) rfl) ?_
    refine StepsE.cons (fun gg a' w' hG hB dep => gs_load1 (want_none rfl) _ _ rfl g9 1 (dep 0 rfl 24 rfl) (.int .u32 ((r1 : Nat) : Int)) ((blk_then h97 hB).cellv (i := 1) rfl) _ Tryd.underlying43 rfl rfl) ?_
    refine StepsE.cons (fun gg a' w' hG hB dep => gs_load_nfaB (want_none rfl) _ rfl g4 (hG.other 4 rfl) (blk_then h4 hB) rfl) ?_
    refine StepsE.cons (fun gg a' w' hG hB dep => gs_load_nfaB (want_none rfl) _ rfl g4 (hG.other 4 rfl) (blk_then h4 hB) rfl) ?_
    refine StepsE.cons (fun gg a' w' hG hB dep => gs_field (want_none rfl) _ _ _ rfl g9 0 0 (hG.other 9 rfl) (fun wz => field_momR_0 g9 0 wz) rfl) ?_
    refine StepsE.cons (fun gg a' w' hG hB dep => gs_load1 (want_none rfl) _ _ rfl g9 0 (dep 4 rfl 28 rfl) (.slice (some ⟨g2, 0, none⟩) N cap) ((blk_then h97 hB).cellv (i := 0) rfl) _ Tryd.underlying68 rfl rfl) ?_
    refine StepsE.cons (fun gg a' w' hG hB dep => gs_move (want_none rfl) _ rfl (hG.other 3 rfl)) ?_
    refine StepsE.cons (fun gg a' w' hG hB dep => gs_call (want_none rfl) _ _ _ rfl enter_rclose #[(.agg (nfaC N A n c0 B m d0)), (.slice (some ⟨g2, 0, none⟩) N cap), .bool beg, .bool true] (map4 (dep 3 rfl 27 rfl) (dep 5 rfl 29 rfl) (dep 6 rfl 30 rfl) rfl) (close_step hB.size (kC2 _ hB) (fun v w' h => h))) ?_
    refine StepsE.cons (fun gg a' w' hG hB dep => gs_call (want_none rfl) _ _ _ rfl enter_rrules #[(.agg (nfaC N A n c0 B m d0)), (.slice (some ⟨gg.1, 0, none⟩) N gg.2)] (map2 (dep 2 rfl 26 rfl) (dep 7 rfl 31 rfl).1) (ret_step (kR2 _ hB gg (dep 7 rfl 31 rfl).2) (fun _ => rfl))) ?_
    refine StepsE.cons (fun gg a' w' hG hB dep => gs_or_u32 (want_none rfl) _ _ _ _ rfl _ _ (dep 1 rfl 25 rfl) (dep 8 rfl 32 rfl) _ hor2 rfl) ?_
    refine StepsE.cons (fun gg a' w' hG hB dep => gs_field (want_none rfl) _ _ _ rfl g9 0 2 (hG.other 9 rfl) (fun wz => field_momR_2 g9 0 wz) rfl) ?_
    exact StepsE.nil
  intro gg uu w8 hB8 ans
  have u33 : uu 33 = .int .u32 ((e2 : Nat) : Int) := ans 9 33 (by decide) rfl
  have u34 : uu 34 = .pointer (some ⟨g9, 2, none⟩) := ans 10 34 (by decide) rfl
  clear ans
  simp only [putAll, List.foldl_cons, List.foldl_nil, Act.put, List.setIfInBounds_toArray, List.set_cons_zero, List.set_cons_succ, u33, u34]
  clear u33 u34 kR2 kC2 hor2
  simp only [List.drop]
  replace hT := hT.then_ hB8
  replace hS4 := hS4.then_ hB8
  replace h97 := blk_then h97 hB8
  replace h8 := blk_then h8 hB8
  clear hB8 h4 hM
  refine wl_store_cell rfl _ _ _ rfl g9 2 rfl 101 _ (momC (some ⟨g2, 0, none⟩) N cap r1 e2) h97 (by show 2 < 3; omega) (by kernel_rfl) rfl rfl rfl ?_
  intro w9 h99 hg99
  refine wpList_nil ?_
  have hT9 := hT.grown hg99 (fun r e => by injection e with e; omega)
  have hS9 := own_grown' hS4 hg99 (fun e => hg92 e.symm)
  have h89 := blk_grown h8 hg99 hg98
  clear hT hS4 h97 h8 hg99
  go_wp2_with (first
    | (refine wl_load_momR rfl _ rfl g9 rfl (some ⟨g2, 0, none⟩) N cap r1 e2 h99 ?_)
    | (refine wl_store_momR rfl _ _ rfl (g4 + 1) (some ⟨g2, 0, none⟩) N cap r1 e2 rfl rfl (momC none 0 0 0 0) rfl h89 ?_; intro wa ka hga))
  refine ret_cell rfl _ rfl ka Tryd.underlying101 rfl (info_momR.trans rfl) rfl ?_
  have hgw := Hg4.out
  refine ⟨g2, cap, rfl, by omega, (own_grown' hS9 hga (by omega)).mono hs3, hT9.grown hga (fun r e => by injection e with e; omega)⟩
end Go.Proofs.YtkedgombccdamaaDoor
namespace Go.Proofs.YtkedgombccdamaaDoor
open Go.RowKit Go.Shelf Go.Maps
set_option linter.unusedVariables false
set_option linter.unusedSimpArgs false
attribute [local go_sem] Oper.semAt_some

def hopE10 (E : List Edg) (x cb i : Nat) : Prop := ∃ d ∈ E, d.kd = 2 ∧ x.testBit d.fr.toNat = true ∧ d.st.getLsbD cb = true ∧ d.tt.toNat = i
theorem hopE_end {E : List Edg} {N x cb : Nat} (hE : ∀ d ∈ E, 0 ≤ d.fr ∧ d.fr < N) (i : Nat) : hopE10 E x cb i ↔ hopP E x cb N i := by
  constructor
  · rintro ⟨d, h1, h2, h3, h4, h5⟩
    exact ⟨d, h1, h2, by have := hE d h1; omega, h3, h4, h5⟩
  · rintro ⟨d, h1, h2, _, h3, h4, h5⟩
    exact ⟨d, h1, h2, h3, h4, h5⟩
theorem hopE_snoc {E : List Edg} {x cb : Nat} (d : Edg) (i : Nat) : hopE10 (E ++ [d]) x cb i ↔ hopE10 E x cb i ∨ (d.kd = 2 ∧ x.testBit d.fr.toNat = true ∧ d.st.getLsbD cb = true ∧ d.tt.toNat = i) := by
  unfold hopE10
  constructor
  · rintro ⟨e, h1, h2⟩
    rcases List.mem_append.1 h1 with h1 | h1
    · exact .inl ⟨e, h1, h2⟩
    · rw [List.mem_singleton] at h1
      subst h1
      exact .inr h2
  · rintro (⟨e, h1, h2⟩ | h2)
    · exact ⟨e, List.mem_append_left _ h1, h2⟩
    · exact ⟨d, List.mem_append_right _ (List.mem_singleton.2 rfl), h2⟩
theorem has10 {x : BSet} {b : Nat} (hb : b < 256) : ((((word x (b / 64) : Nat) : Int) / 2 ^ (b % 64)).tmod 2 == 1) = ((true && true) && x.getLsbD b) := by
  have e : (((word x (b / 64) : Nat) : Int) / 2 ^ (b % 64)) = ((word x (b / 64) / 2 ^ (b % 64) : Nat) : Int) := by
    rw [Int.natCast_ediv, Int.natCast_pow]
    rfl
  rw [e, word_bit hb, Nat.testBit_eq_decide_div_mod_eq, Bool.true_and, Bool.true_and]
  obtain ⟨m, hm⟩ : ∃ m, m = word x (b / 64) / 2 ^ (b % 64) := ⟨_, rfl⟩
  rw [← hm, Int.tmod_eq_emod_of_nonneg (Int.natCast_nonneg m), Bool.eq_iff_iff]
  simp only [beq_iff_eq, decide_eq_true_eq]
  omega
set_option maxRecDepth 100000 in
set_option maxHeartbeats 8000000 in
theorem rbehind_any (B0 N n c0 m d0 x r e0 cb ci Bi : Nat) (E : List Edg) (R : List Nat) (A B Ai : Option Addr) (hr : r < 4294967296) (hcb : cb < 256) (w : World) (hM : RMach B0 w N E R A n B m) (hNl : N ≤ 1048576) (hin : SliceOf w Bi 1 encB Ai (boolsN x N)) (hBi : Bi ≤ w.heap.size) :
    Calls Tryd.prog 45 #[.agg (nfaC N A n c0 B m d0), .agg (momC Ai N ci r e0), .int .i64 (cb : Int)] w fun e w' => ∃ g cap, e = .returned (.agg (momC (some ⟨g, 0, none⟩) N cap (moN E N R (byteN E N x cb) r false).met (moN E N R (byteN E N x cb) r false).end_)) ∧ w.heap.size ≤ g ∧ Own w' w.heap.size 4 1 encB (.slice (some ⟨g, 0, none⟩) N cap) (boolsN (moN E N R (byteN E N x cb) r false).at_ N) ∧ Below w.heap.size w w' := by
  have hone := hM.fits.one
  have hn2 : n ≤ 1099511627776 := by rw [hM.nE]; exact hM.lE
  have Hn := Lib.hid hM.nE
  have Hlow := Lib.hid hM.low
  have HF := Lib.hid hM.fits
  have hEb : ∀ d ∈ E, (0 ≤ d.fr ∧ d.fr < N) ∧ 0 ≤ d.tt ∧ d.tt < N := fun d hd => ⟨HF.out.fr d hd, HF.out.tt d hd⟩
  have Hby := Lib.hid (fun (y : Nat) (h : ∀ i, y.testBit i = true ↔ hopE10 E x cb i) => (moN_or (E := E) (N := N) (R := R) (met := r) (b := false) (hop_byte hone hEb (fun i => (h i).trans (hopE_end (N := N) (fun d hd => (hEb d hd).1) i)))))
  have HSl := Lib.hid (fun W (hW : Below w.heap.size w W) => hin.keep (w' := W) (fun k hk => hW.block k (by omega)))
  have HEb := Lib.hid hEb
  clear hEb hin
  have h3 : Blk (w.alloc (.cells (nfaC N A n c0 B m d0) 25)) w.heap.size 25 (nfaC N A n c0 B m d0) := Blk.new w _ _
  have hBa : Below w.heap.size w (w.alloc (.cells (nfaC N A n c0 B m d0) 25)) := below_alloc (Below.refl _ _) _
  have hs1 : (w.alloc (.cells (nfaC N A n c0 B m d0) 25)).heap.size = w.heap.size + 1 := Array.size_push ..
  go_enter Tryd.func45, Tryd.ntmps45
  go_upto_region 1 with (fail)
  obtain ⟨w1, hw1⟩ : ∃ y, y = w.alloc (.cells (nfaC N A n c0 B m d0) 25) := ⟨_, rfl⟩
  rw [← hw1] at h3 hBa hs1 ⊢
  have h4 : Blk (w1.alloc (.cells (momC Ai N ci r e0) 101)) w1.heap.size 101 (momC Ai N ci r e0) := Blk.new w1 _ _
  have hBb : Below w1.heap.size w1 (w1.alloc (.cells (momC Ai N ci r e0) 101)) := below_alloc (Below.refl _ _) _
  have hs2 : (w1.alloc (.cells (momC Ai N ci r e0) 101)).heap.size = w1.heap.size + 1 := Array.size_push ..
  obtain ⟨w2, hw2⟩ : ∃ y, y = w1.alloc (.cells (momC Ai N ci r e0) 101) := ⟨_, rfl⟩
  rw [← hw2] at h4 hBb hs2 ⊢
  have h6 : Blk (w2.alloc (.cells #[.slice none 0 0, .int .u32 0, .int .u32 0] 101)) w2.heap.size 101 (momC none 0 0 0 0) := Blk.new w2 101 (momC none 0 0 0 0)
  have hBc : Below w2.heap.size w2 (w2.alloc (.cells #[.slice none 0 0, .int .u32 0, .int .u32 0] 101)) := below_alloc (Below.refl _ _) _
  obtain ⟨w3, hw3⟩ : ∃ y, y = w2.alloc (.cells #[.slice none 0 0, .int .u32 0, .int .u32 0] 101) := ⟨_, rfl⟩
  rw [← hw3, hs2, hs1] at h6
  rw [hs1] at h4
  rw [← hw3] at hBc ⊢
  obtain ⟨g3, hg3⟩ : ∃ y, y = w.heap.size := ⟨_, rfl⟩
  rw [← hg3] at h3 h4 h6 ⊢
  have Hg3 := Lib.hid hg3
  have hB3 := below_then (below_then hBa hBb) hBc
  replace h3 := blk_then (blk_then h3 hBb) hBc
  replace h4 := blk_then h4 hBc
  replace hM := ((hM.then_ hBa).then_ hBb).then_ hBc
  have c30 : w3.cell? ⟨g3, 0, none⟩ = some (.int .i64 (N : Int)) := h3.cellv rfl
  have hw3s : g3 + 2 < w3.heap.size := h6.lt
  clear hw1 hw2 hw3 hBa hBb hBc hs1 hs2 hg3
  have hwb : w.heap.size ≤ w3.heap.size := hB3.size
  go_upto_region 2 with (refine wl_makeB rfl _ _ rfl N w.heap.size rfl rfl (by omega) hwb ?_; intro w5 hS5 hB5)
  obtain ⟨g, hg⟩ : ∃ y, y = w3.heap.size := ⟨_, rfl⟩
  rw [← hg] at hS5 ⊢
  have hgw : w.heap.size ≤ g := by omega
  have hg6 : g3 + 1 + 1 ≠ g := by omega
  have hg4 : g3 + 1 ≠ g := by omega
  have hg3' : g3 ≠ g := by omega
  replace h3 := blk_then h3 hB5
  replace h4 := blk_then h4 hB5
  replace h6 := blk_then h6 hB5
  replace hM := hM.then_ hB5
  replace hB3 := below_then hB3 hB5
  have hi0 : ∀ i, Nat.testBit 0 i = true ↔ hopE10 (E.take 0) x cb i := fun i => by
    constructor
    · intro h; simp at h
    · rintro ⟨d, h, _⟩; simp at h
  clear hB5 hg hw3s hwb c30
  go_wp2_with (fail)
  go_loopw [8] (fun iv wr => ∃ k y : Nat, k ≤ n ∧ iv = .int .i64 k ∧ below y N ∧ (∀ i, y.testBit i = true ↔ hopE10 (E.take k) x cb i) ∧ Own wr w.heap.size 4 1 encB (.slice (some ⟨g, 0, none⟩) N N) (boolsN y N) ∧ RMach B0 wr N E R A n B m ∧ Blk wr g3 25 (nfaC N A n c0 B m d0) ∧ Blk wr (g3 + 1) 101 (momC Ai N ci r e0) ∧ Blk wr (g3 + 1 + 1) 101 (momC none 0 0 0 0) ∧ Below w.heap.size w wr) (fun iv _ => n - (intOf iv).toNat)
  case atStart => exact ⟨0, 0, by omega, rfl, below_zero N, hi0, hS5, hM, h3, h4, h6, hB3⟩
  case round =>
    clear hi0 hS5 hM h3 h4 h6 hB3
    obtain ⟨k, y, hk, rfl, hy, hi, hS, hM, h3, h4, h6, hB⟩ := hrel
    have cE : wr.cell? ⟨g3, 1, none⟩ = some (.slice A n c0) := h3.cellv (i := 1) rfl
    by_cases hkl : k < n
    · have hkI : (k : Int) < n := by omega
      have hkE : k < E.length := by rw [← Hn.out]; exact hkl
      obtain ⟨bA, offA, rfl, hbA, hrows⟩ := hM.edges.at_ (by omega)
      have hr0 := hrows k hkE
      obtain ⟨dd, hd⟩ : ∃ d, d = E[k] := ⟨_, rfl⟩
      rw [← hd] at hr0
      have hdE : dd ∈ E := by rw [hd]; exact List.getElem_mem hkE
      have htk : E.take (k + 1) = E.take k ++ [dd] := by rw [List.take_succ_eq_append_getElem hkE, ← hd]
      have Htk := Lib.hid htk
      have hb := HEb.out dd hdE
      obtain ⟨p, hp⟩ : ∃ q : Nat, dd.fr = (q : Int) := ⟨dd.fr.toNat, by omega⟩
      obtain ⟨q, hq⟩ : ∃ q : Nat, dd.tt = (q : Int) := ⟨dd.tt.toNat, by omega⟩
      have hpN : p < N := by omega
      have hqN : q < N := by omega
      have hpt : dd.fr.toNat = p := by omega
      have hqt : dd.tt.toNat = q := by omega
      have Hpq := Lib.hid (And.intro (And.intro hp hq) (And.intro hpt hqt))
      have Hy := Lib.hid hy
      have Hi := Lib.hid hi
      have hkb : k < 1099511628000 := by omega
      clear hd hdE htk hrows hb hp hq hpt hqt hy hi
      go_upto_region 6 with (first | (refine wl_load_edge_at rfl _ rfl _ _ rfl _ hr0 ?_) | (refine wl_store_edge rfl _ _ rfl _ _ rfl rfl edge0 (Blk.new _ _ _) ?_; intro w6 h9 hg9))
      have hB6 := below_grown (below_alloc (Below.refl _ wr) (.cells #[.int .i64 0, .int .i64 0, .int .i64 0, .int .u64 0, .int .u64 0, .int .u64 0, .int .u64 0] 76)) hg9 (Nat.le_refl _)
      obtain ⟨ge, hge⟩ : ∃ y, y = wr.heap.size := ⟨_, rfl⟩
      rw [← hge] at h9 ⊢
      replace hS := hS.then_ hB6
      replace hM := hM.then_ hB6
      replace h3 := blk_then h3 hB6
      replace h4 := blk_then h4 hB6
      replace h6 := blk_then h6 hB6
      replace hB := below_then hB hB6
      have hin6 := HSl.out w6 hB
      clear hr0 hg9 hB6 cE hge
      simp only [Act.put]
      obtain ⟨xp, hxp⟩ : ∃ b, x.testBit p = b := ⟨_, rfl⟩
      obtain ⟨sb, hsb⟩ : ∃ b, dd.st.getLsbD cb = b := ⟨_, rfl⟩
      have Hxp := Lib.hid (And.intro hxp hsb)
      clear hxp hsb
      go_cut [47] from 25 to 48 (fun v wx => wx = w6 ∧ v = .bool ((decide (dd.kd = 2) && xp) && sb))
      case first =>
        have c0 : w6.cell? ⟨ge, 0, none⟩ = some (.int .i64 dd.kd) := h9.cellv (i := 0) rfl
        have c1 : w6.cell? ⟨ge, 1, none⟩ = some (.int .i64 (p : Int)) := by rw [← Hpq.out.1.1]; exact h9.cellv (i := 1) rfl
        have c40 : w6.cell? ⟨g3 + 1, 0, none⟩ = some (.slice Ai N ci) := h4.cellv (i := 0) rfl
        obtain ⟨bi, offi, rfl, hbi, hrowi⟩ := hin6.at_ (by rw [boolsN_length]; exact hone)
        have cxp : w6.cell? ⟨bi, offi + p, none⟩ = some (.bool xp) := by
          have hl : p < (boolsN x N).length := by rw [boolsN_length]; exact hpN
          have := hrowi p hl 0 _ rfl
          rw [boolsN_get, Nat.mul_one, Hxp.out.1] at this
          exact this
        have hpI : (p : Int) < N := by omega
        have hpb : p < 1099511628000 := by omega
        have cw : w6.cell? ⟨ge, 3 + cb / 64, none⟩ = some (.int .u64 (word dd.st (cb / 64) : Nat)) := h9.st (cb / 64) _ (setC_at dd.st (cb / 64) (by omega))
        clear hS hM h3 h4 h6 hB Htk Hpq Hy Hi hin6 hrowi HSl Hby HEb
        by_cases hk2 : dd.kd = 2
        · rw [hk2] at c0
          cases xp
          · go_wp2_with (fail)
            go_meet
            exact ⟨rfl, congrArg Value.bool (by rw [decide_eq_true hk2]; rfl)⟩
          · go_wp2_with (fail)
            go_meet
            exact ⟨rfl, congrArg Value.bool (by rw [decide_eq_true hk2, ← Hxp.out.2]; exact has10 hcb)⟩
        · go_wp2_with (fail)
          go_meet
          exact ⟨rfl, congrArg Value.bool (by rw [decide_eq_false hk2]; rfl)⟩
      obtain ⟨hwc, rfl⟩ := hcut
      subst hwc
      obtain ⟨f, hf⟩ : ∃ f, ((decide (dd.kd = 2) && xp) && sb) = f := ⟨_, rfl⟩
      rw [hf]
      have hstep : ∀ i, (dd.kd = 2 ∧ x.testBit dd.fr.toNat = true ∧ dd.st.getLsbD cb = true ∧ dd.tt.toNat = i) ↔ f = true ∧ q = i := fun i => by
        rw [Hpq.out.2.1, Hpq.out.2.2, Hxp.out.1, Hxp.out.2, ← hf]
        simp only [Bool.and_eq_true, decide_eq_true_eq, and_assoc]
      have Hst := Lib.hid hstep
      have cq : wc.cell? ⟨ge, 2, none⟩ = some (.int .i64 (q : Int)) := by rw [← Hpq.out.1.2]; exact h9.cellv (i := 2) rfl
      clear hf hstep hin6
      cases f with
      | false =>
        clear cq
        go_wp2_with (fail)
        refine ⟨⟨k + 1, y, by omega, rfl, Hy.out, fun i => ?_, hS, hM, h3, h4, h6, hB⟩, by simp only [intOf]; omega⟩
        rw [Htk.out, hopE_snoc, Hst.out, Hi.out]
        simp
      | true =>
        have hqI : (q : Int) < N := by omega
        have hqb : q < 1099511628000 := by omega
        go_wp2_with (refine wl_store_one (enc := encB) encB_size rfl _ info_bool1 _ _ rfl g q N N rfl true rfl rfl rfl hS (by rw [boolsN_length]; exact hqN) ?_; intro w7 hS7 hg7)
        rw [boolsN_set] at hS7
        refine ⟨⟨k + 1, y ||| 2 ^ q, by omega, rfl, below_or Hy.out (below_pow hqN), fun i => ?_, hS7, hM.grown hg7 (by have := Hlow.out; omega), blk_grown h3 hg7 hg3', blk_grown h4 hg7 hg4, blk_grown h6 hg7 hg6, below_grown hB hg7 hgw⟩, by simp only [intOf]; omega⟩
        rw [Htk.out, hopE_snoc, Hst.out, testBit_or_pow, Bool.or_eq_true, decide_eq_true_eq, Hi.out]
        simp
    · have hkI : ¬ (k : Int) < n := by omega
      have hkn : E.take k = E := List.take_of_length_le (by rw [← Hn.out]; omega)
      rw [hkn] at hi
      have kM := rmoment_any B0 N n c0 m d0 w.heap.size g N y r E R A B false hy hr wr hM hS (by have := Hlow.out; omega)
      rw [Hby.out y hi] at kM
      have c41 : wr.cell? ⟨g3 + 1, 1, none⟩ = some (.int .u32 (r : Int)) := h4.cellv (i := 1) rfl
      obtain ⟨M, hMo⟩ : ∃ M, M = moN E N R (byteN E N x cb) r false := ⟨_, rfl⟩
      rw [← hMo] at kM
      have HMo := Lib.hid hMo
      clear hMo hi hy hkn hM
      go_wp2_with (first
        | (refine wpList_load_row rfl _ _ rfl _ rfl _ _ _ _ h3 Tryd.underlying25 rfl (info_nfa3.trans rfl) ?_)
        | (go_at_call 71; refine kM.mono ?_; rintro e w6 ⟨g2, cap, rfl, hg2, hS6, hT6⟩; have h66 := blk_turn h6 hT6 (by omega))
        | (refine wl_store_momR rfl _ _ rfl (g3 + 1 + 1) (some ⟨g2, 0, none⟩) N cap M.met M.end_ rfl rfl (momC none 0 0 0 0) rfl h66 ?_; intro wa ka hga))
      refine ret_cell rfl _ rfl ka Tryd.underlying101 rfl (info_momR.trans rfl) rfl ?_
      have hgx := Hg3.out
      have hbs := hB.size
      have h6l := h6.lt
      rw [← HMo.out]
      refine ⟨g2, cap, rfl, by omega, (own_grown' hS6 hga (by omega)).mono hbs, below_grown (hB.trans (Turn.below (N := w.heap.size) hT6 (by omega) hbs)) hga (by omega)⟩
end Go.Proofs.YtkedgombccdamaaDoor
