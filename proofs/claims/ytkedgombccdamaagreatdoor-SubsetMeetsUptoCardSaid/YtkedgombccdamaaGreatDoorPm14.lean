/- Part 14 of a proof; packed: the texts that it was made of follow one another. No condition beyond those named in each lemma. -/
import Derived.Test.YtkedgombccdamaaGreatDoorPm1
import Derived.Test.YtkedgombccdamaaGreatDoorPm12
import Derived.Test.YtkedgombccdamaaGreatDoorPm13
import Derived.Test.YtkedgombccdamaaGreatDoorPm4
import Derived.Test.YtkedgombccdamaaGreatDoorPm7
namespace Go.Proofs.YtkedgombccdamaaGreatDoor
open Go.RowKit Go.Maps Go.WideMaps
set_option linter.unusedVariables false
set_option linter.unusedSimpArgs false
theorem eqTI {p q : Int} (h : p = q) : Value.bool (p == q) = .bool true := by subst h; simp
theorem info_set3 : (Tryz.prog.info? 53).map (fun i => (i.zero, i.size, i.bytes)) = some (some (.agg #[.int .u64 0, .int .u64 0, .int .u64 0, .int .u64 0]), 4, 32) := by kernel_rfl
def SetsR (es : List Edg) (w : World) (e : Ending) (w' : World) : Prop :=
 ∃ A c, e = .returned (.slice A (setsL es).length c) ∧ Own w' w.heap.size 53 4 setC (.slice A (setsL es).length c) (setsL es) ∧ Below w.heap.size w w'
set_option maxRecDepth 100000 in
set_option maxHeartbeats 4000000 in
theorem psets_any (s : Int) (A : Option Addr) (n c : Nat) (B : Option Addr) (m d : Nat) (es : List Edg) (w : World) (hn : n = es.length) (hm : n ≤ 100000) (hs : SliceOf w w.heap.size 7 edgC A es) :
  Calls Tryz.prog 21 #[.agg (nfaC s A n c B m d)] w (SetsR es w) := by
 have Hn := Lib.hid hn
 clear hn
 have hzE := zero_edge
 have hmm := @Go.RowKit.run_makeMap Tryz.prog
 obtain ⟨i0, hi0, hz0, hz1, hz2⟩ := info_parts info_set3
 have hb0 := (Blk.new w 26 (nfaC s A n c B m d)).alloc (.map #[] 0)
 have hc0 : (w.alloc (.cells (nfaC s A n c B m d) 26)).cell? ⟨w.heap.size, 1, none⟩ = some (.slice A n c) := (Blk.new w 26 (nfaC s A n c B m d)).cellv rfl
 have hc1 := hb0.cellv (i := 1) (v := .slice A n c) rfl
 have hBa := zqc (zqc (Below.refl w.heap.size w) (.cells (nfaC s A n c B m d) 26)) (.map #[] 0)
 have hba : w.heap.size + 1 + 1 ≤ ((w.alloc (.cells (nfaC s A n c B m d) 26)).alloc (.map #[] 0)).heap.size := by simp
 have hM := IntMap.new (P := Tryz.prog) (e := 3) keySet (w.alloc (.cells (nfaC s A n c B m d) 26)) (g := w.heap.size + 1) (by simp)
 rw [show (fun _ : BSet => (none : Option Int)) = mapSt [] from mapSt_nil.symm] at hM
 have HM := Lib.hid hM
 have Hba := Lib.hid hba
 have HBa := Lib.hid hBa
 have hn1 : (nfaC s A n c B m d)[1]? = some (.slice A n c) := rfl
 clear hM hba hBa hb0
 go_enter Tryz.func21, Tryz.ntmps21
 go_wp2
 go_loopw [11, 3] (fun i v wr => ∃ k : Nat, k ≤ n ∧ i = .int .i64 k ∧ Own wr (w.heap.size + 1 + 1) 53 4 setC v (setsL (es.take k)) ∧ w.heap.size + 1 + 1 ≤ wr.heap.size ∧ SMap wr (w.heap.size + 1) k (setsL (es.take k)) ∧ Below w.heap.size w wr) (fun i _ _ => n - (intOf i).toNat)
 case atStart => exact ⟨0, by omega, rfl, Own.nil_ _ _ _ _ _, Hba.out, HM.out, HBa.out⟩
 case round =>
  clear HBa Hba HM hc0 hc1 hn1
  obtain ⟨k, hk, rfl, hown, hb1, hM, hB⟩ := hrel
  obtain ⟨A2, c2, rfl, hc2, hc3⟩ := hown.shape
  have hle := setsL_length (es.take k)
  rw [List.length_take] at hle
  obtain ⟨xs, hxs⟩ : ∃ xs, xs = setsL (es.take k) := ⟨_, rfl⟩
  rw [← hxs] at hle hc2 hown hM ⊢
  obtain ⟨q, hq⟩ : ∃ q, q = xs.length := ⟨_, rfl⟩
  rw [← hq] at hle hc2 hown ⊢
  have Hq := Lib.hid hq
  have hqk : q ≤ k := by omega
  clear hq hle
  by_cases hlt : k < n
  ·have hkl : k < es.length := by have := Hn.out; omega
   have hkI : (k : Int) < n := by omega
   obtain ⟨b0, off, rfl, hbl, hrow⟩ := (hs.below hB).at_ (by omega)
   have hr := hrow k hkl
   have Hsn : Hid (setsL (es.take (k + 1)) = stepS xs es[k]) := Lib.hid (by rw [take_snoc' es k hkl, setsL_snoc, ← hxs])
   obtain ⟨e, he⟩ : ∃ e, e = es[k] := ⟨_, rfl⟩
   rw [← he] at hr Hsn
   clear hrow hxs he
   go_upto_region 6 with (first | (refine zzs rfl _ rfl _ _ rfl _ hr ?_) | (refine zxm rfl _ _ rfl _ _ rfl rfl edge0 (Blk.new _ _ _) ?_; intro w1 hbe hg5))
   have hK := zqh (zqc (Below.refl wr.heap.size wr) (.cells (edgC edge0) 69)) hg5 (Nat.le_refl _)
   replace hown := hown.then_ hK
   replace hM := hM.then_ hK
   replace hB := zqd hB hK
   obtain ⟨ge, hge⟩ : ∃ g, g = wr.heap.size := ⟨_, rfl⟩
   rw [← hge] at hbe ⊢
   have hge2 : w.heap.size + 1 + 1 ≤ ge := by omega
   replace hb1 : w.heap.size + 1 + 1 ≤ w1.heap.size := Nat.le_trans hb1 hK.size
   have hkd := edgC_0 e
   clear hg5 hK hge hr
   by_cases h2 : e.kd = 2
   ·rw [h2] at hkd
    have H2 := Lib.hid h2
    clear h2
    by_cases hx : e.st ∈ xs
    ·replace hx := Lib.hid hx
     have hst := Lib.hid (stepS_old (l := xs) (e := e) hx.out)
     refine zqs 10 [eqS (.pointer (some ⟨ge, 0, none⟩)), eqS (.int .i64 (2)), eqS (.bool true), eqS (.bool true), eqS (.map (some (w.heap.size + 1))), eqS (.pointer (some ⟨ge, 0 + 3, none⟩)), eqS (.agg (setC e.st)), eqS (.int .i64 (1)), eqS (.bool false), eqS (.bool false)] [15, 16, 17, 18, 19, 20, 21, 22, 23, 24] (by kernel_rfl) rfl ?_ ?_
     ·refine Steps.cons (fun a' w' hG hB dep => zqn (zqa rfl) _ _ _ rfl _ _ _ (hG.other 6 rfl) (zxz _ _) rfl) ?_
      refine Steps.cons (fun a' w' hG hB dep => zqj (zqa rfl) _ _ rfl _ _ (dep 0 rfl 15 rfl) _ ((zqb hbe hB).cellv hkd) _ Tryz.underlying3 rfl rfl) ?_
      refine Steps.cons (fun a' w' hG hB dep => zzo (zqa rfl) _ _ _ _ rfl _ _ _ (dep 1 rfl 16 rfl) rfl (eqTI rfl)) ?_
      refine Steps.cons (fun a' w' hG hB dep => zqi (zqa rfl) _ rfl (dep 2 rfl 17 rfl)) ?_
      refine Steps.cons (fun a' w' hG hB dep => zqi (zzb rfl rfl (dep 3 rfl 18 rfl)) _ rfl (hG.other 4 rfl)) ?_
      refine Steps.cons (fun a' w' hG hB dep => zqn (zzb rfl rfl (dep 3 rfl 18 rfl)) _ _ _ rfl _ _ _ (hG.other 6 rfl) (field_edge_3 _ _) rfl) ?_
      refine Steps.cons (fun a' w' hG hB dep => zxe (zzb rfl rfl (dep 3 rfl 18 rfl)) _ rfl _ _ (dep 5 rfl 20 rfl) _ (by rw [Nat.zero_add]; exact (zqb hbe hB).st) rfl) ?_
      refine Steps.cons (fun a' w' hG hB dep => gs_lookup_set (zzb rfl rfl (dep 3 rfl 18 rfl)) _ _ rfl _ _ _ (hM.then_ hB) (dep 4 rfl 19 rfl) _ (dep 6 rfl 21 rfl) _ (mapSt_old hx.out) rfl) ?_
      refine Steps.cons (fun a' w' hG hB dep => zzo (zzb rfl rfl (dep 3 rfl 18 rfl)) _ _ _ _ rfl _ _ _ (dep 7 rfl 22 rfl) rfl (eqNI (by decide))) ?_
      refine Steps.cons (fun a' w' hG hB dep => zqy (zqa rfl) _ _ _ rfl true (dep 3 rfl 18 rfl) (dep 8 rfl 23 rfl)) ?_
      exact Steps.nil
     intro u w3 hB3 ans
     have ux : u 24 = .bool false := ans 9 24 (by decide) rfl
     clear ans
     refine wpList_nil ?_
     simp only [zqr, List.foldl_cons, List.foldl_nil, Act.put, List.setIfInBounds_toArray, List.set_cons_zero, List.set_cons_succ, ux]
     clear ux
     go_wp2
     go_roundw
     case rel => exact ⟨k + 1, by omega, by go_num, by rw [Hsn.out, hst.out]; exact hown.then_ hB3, Nat.le_trans hb1 hB3.size, by rw [Hsn.out, hst.out]; exact IntMap.more (hM.then_ hB3) (Nat.le_succ k), zqd hB hB3⟩
     case measure => simp [intOf]; omega
    ·replace hx := Lib.hid hx
     have hst := Lib.hid (stepS_yes (l := xs) (e := e) H2.out hx.out)
     refine zqs 10 [eqS (.pointer (some ⟨ge, 0, none⟩)), eqS (.int .i64 (2)), eqS (.bool true), eqS (.bool true), eqS (.map (some (w.heap.size + 1))), eqS (.pointer (some ⟨ge, 0 + 3, none⟩)), eqS (.agg (setC e.st)), eqS (.int .i64 (0)), eqS (.bool true), eqS (.bool true)] [15, 16, 17, 18, 19, 20, 21, 22, 23, 24] (by kernel_rfl) rfl ?_ ?_
     ·refine Steps.cons (fun a' w' hG hB dep => zqn (zqa rfl) _ _ _ rfl _ _ _ (hG.other 6 rfl) (zxz _ _) rfl) ?_
      refine Steps.cons (fun a' w' hG hB dep => zqj (zqa rfl) _ _ rfl _ _ (dep 0 rfl 15 rfl) _ ((zqb hbe hB).cellv hkd) _ Tryz.underlying3 rfl rfl) ?_
      refine Steps.cons (fun a' w' hG hB dep => zzo (zqa rfl) _ _ _ _ rfl _ _ _ (dep 1 rfl 16 rfl) rfl (eqTI rfl)) ?_
      refine Steps.cons (fun a' w' hG hB dep => zqi (zqa rfl) _ rfl (dep 2 rfl 17 rfl)) ?_
      refine Steps.cons (fun a' w' hG hB dep => zqi (zzb rfl rfl (dep 3 rfl 18 rfl)) _ rfl (hG.other 4 rfl)) ?_
      refine Steps.cons (fun a' w' hG hB dep => zqn (zzb rfl rfl (dep 3 rfl 18 rfl)) _ _ _ rfl _ _ _ (hG.other 6 rfl) (field_edge_3 _ _) rfl) ?_
      refine Steps.cons (fun a' w' hG hB dep => zxe (zzb rfl rfl (dep 3 rfl 18 rfl)) _ rfl _ _ (dep 5 rfl 20 rfl) _ (by rw [Nat.zero_add]; exact (zqb hbe hB).st) rfl) ?_
      refine Steps.cons (fun a' w' hG hB dep => gs_lookup_set (zzb rfl rfl (dep 3 rfl 18 rfl)) _ _ rfl _ _ _ (hM.then_ hB) (dep 4 rfl 19 rfl) _ (dep 6 rfl 21 rfl) _ (mapSt_new hx.out) rfl) ?_
      refine Steps.cons (fun a' w' hG hB dep => zzo (zzb rfl rfl (dep 3 rfl 18 rfl)) _ _ _ _ rfl _ _ _ (dep 7 rfl 22 rfl) rfl (eqTI rfl)) ?_
      refine Steps.cons (fun a' w' hG hB dep => zqy (zqa rfl) _ _ _ rfl true (dep 3 rfl 18 rfl) (dep 8 rfl 23 rfl)) ?_
      exact Steps.nil
     intro u w3 hB3 ans
     have ux : u 24 = .bool true := ans 9 24 (by decide) rfl
     clear ans
     refine wpList_nil ?_
     simp only [zqr, List.foldl_cons, List.foldl_nil, Act.put, List.setIfInBounds_toArray, List.set_cons_zero, List.set_cons_succ, ux]
     clear ux
     have hb1' : w.heap.size + 1 + 1 ≤ w3.heap.size := Nat.le_trans hb1 hB3.size
     replace hown := hown.then_ hB3
     replace hM := hM.then_ hB3
     replace hB := zqd hB hB3
     have hre := (zqb hbe hB3).st
     have hgl := (zqb hbe hB3).lt
     have hnone := mapSt_none hx.out
     have hownlt : ∀ j, (Value.slice A2 q c2).ownBlock = some j → w.heap.size + 1 + 1 ≤ j := fun j e => (hown.lt j e).1
     clear hB3 hb1 hbe
     go_wp2_with (first
      | (refine zqo rfl _ rfl _ _ rfl _ hre ?_)
      | (at_mapUpdate; refine wl_map_put keySet Tryz.underlying122 Tryz.underlying3 hM (by unfold maxLen; omega) rfl _ _ _ rfl rfl e.st trivial rfl 1 rfl (by decide) ?_; intro w4 hM4 hg4; replace hre := hre.keep (hg4.block ge hgl (fun e => by injection e; omega)); have hone := zxk (enc := setC) (size := 4) (Blk.new w4 53 (setC e.st)); have hown1 := (hown.grown hg4 (fun e => by have := hownlt _ e; omega)).alloc (.cells (setC e.st) 53); have hb4 : w.heap.size + 1 + 1 ≤ w4.heap.size := Nat.le_trans hb1' hg4.size)
      | (refine wl_build1 rfl _ rfl _ rfl ?_)
      | (at_builtin; refine zxh _ rfl _ _ 72 rfl (w.heap.size + 1 + 1) 53 i0 _ 4 32 Tryz.underlying72 hi0 hz0 hz1 hz2 rfl (by decide) zye setC_one _ xs rfl hown1 _ _ 1 1 [e.st] rfl rfl hone (by rw [← Hq.out]; unfold maxLen; omega) (by rw [← Hq.out]; omega) (by simp; omega) ?_; intro v2 w7 hown2 hg2 hat2))
     rw [hnone, mapSt_put] at hM4
     have hM5 : SMap w4 (w.heap.size + 1) (k + 1) (xs ++ [e.st]) := by
      have e1 : (xs ++ [e.st]).length = xs.length + 1 := by simp
      have := hM4
      rw [if_neg (by simp), ← e1] at this
      exact this
     go_roundw
     case rel => exact ⟨k + 1, by omega, by go_num, by rw [Hsn.out, hst.out]; exact hown2, by have := hg2.size; simp at this; omega, by rw [Hsn.out, hst.out]; exact (hM5.alloc _).grown' hg2 (fun e => by have := hownlt _ e.symm; omega), below_own (zqc (zqh hB hg4 (by omega)) _) hg2 (fun j e => by have := hownlt j e; omega)⟩
     case measure => simp [intOf]; omega
   ·obtain ⟨z, hz⟩ : ∃ z, z = e.kd := ⟨_, rfl⟩
    have hst := Lib.hid (stepS_kind (l := xs) h2)
    rw [← hz] at hkd h2
    clear hz
    refine zqs 10 [eqS (.pointer (some ⟨ge, 0, none⟩)), eqS (.int .i64 (z)), eqS (.bool false), eqS (.bool false), eqS undef, eqS undef, eqS undef, eqS undef, eqS undef, eqS (.bool false)] [15, 16, 17, 18, 19, 20, 21, 22, 23, 24] (by kernel_rfl) rfl ?_ ?_
    ·refine Steps.cons (fun a' w' hG hB dep => zqn (zqa rfl) _ _ _ rfl _ _ _ (hG.other 6 rfl) (zxz _ _) rfl) ?_
     refine Steps.cons (fun a' w' hG hB dep => zqj (zqa rfl) _ _ rfl _ _ (dep 0 rfl 15 rfl) _ ((zqb hbe hB).cellv hkd) _ Tryz.underlying3 rfl rfl) ?_
     refine Steps.cons (fun a' w' hG hB dep => zzo (zqa rfl) _ _ _ _ rfl _ _ _ (dep 1 rfl 16 rfl) rfl (eqNI h2)) ?_
     refine Steps.cons (fun a' w' hG hB dep => zqi (zqa rfl) _ rfl (dep 2 rfl 17 rfl)) ?_
     refine Steps.cons (fun a' w' hG hB dep => gs_skip (want_no rfl rfl (dep 3 rfl 18 rfl)) rfl) ?_
     refine Steps.cons (fun a' w' hG hB dep => gs_skip (want_no rfl rfl (dep 3 rfl 18 rfl)) rfl) ?_
     refine Steps.cons (fun a' w' hG hB dep => gs_skip (want_no rfl rfl (dep 3 rfl 18 rfl)) rfl) ?_
     refine Steps.cons (fun a' w' hG hB dep => gs_skip (want_no rfl rfl (dep 3 rfl 18 rfl)) rfl) ?_
     refine Steps.cons (fun a' w' hG hB dep => gs_skip (want_no rfl rfl (dep 3 rfl 18 rfl)) rfl) ?_
     refine Steps.cons (fun a' w' hG hB dep => zqy (zqa rfl) _ _ _ rfl false (dep 3 rfl 18 rfl) rfl) ?_
     exact Steps.nil
    intro u w3 hB3 ans
    have ux : u 24 = .bool false := ans 9 24 (by decide) rfl
    clear ans
    refine wpList_nil ?_
    simp only [zqr, List.foldl_cons, List.foldl_nil, Act.put, List.setIfInBounds_toArray, List.set_cons_zero, List.set_cons_succ, ux]
    clear ux
    go_wp2
    go_roundw
    case rel => exact ⟨k + 1, by omega, by go_num, by rw [Hsn.out, hst.out]; exact hown.then_ hB3, Nat.le_trans hb1 hB3.size, by rw [Hsn.out, hst.out]; exact IntMap.more (hM.then_ hB3) (Nat.le_succ k), zqd hB hB3⟩
    case measure => simp [intOf]; omega
  ·have hkI : ¬ (k : Int) < n := by omega
   have hkn : es.take k = es := List.take_of_length_le (by have := Hn.out; omega)
   rw [hkn] at hxs
   have Hxs := Lib.hid hxs
   clear hkn hxs
   go_wp2
   go_ret
   exact ⟨A2, c2, by rw [← Hxs.out, ← Hq.out]; rfl, by rw [← Hxs.out, ← Hq.out]; exact hown.mono (by omega), hB⟩
end Go.Proofs.YtkedgombccdamaaGreatDoor
namespace Go.Proofs.YtkedgombccdamaaGreatDoor
open Go.RowKit Go.Shelf Go.Maps
set_option linter.unusedVariables false
set_option linter.unusedSimpArgs false
attribute [local go_sem] Oper.semAt_some
def zeroD : Value := .agg (dfaC (fun _ => 0) none 0 0 none 0 0 none 0 0)
def DRes (s : Int) (E : List Edg) (m : Nat) (R : List Nat) (most : Int) (base : Nat) (e : Ending) (w' : World) : Prop :=
 (rightB s E m = false ∧ e = .returned (.tuple #[zeroD, .int .i64 70])) ∨
 (rightB s E m = true ∧ (∃ (i : Nat) (x : TV), Done (stepM E s.toNat R) (repE E) (mo0 E s.toNat R) i ∧ (i : Int) ≤ min most 4096 ∧ e = .returned (.tuple #[.agg x.C', .int .i64 0]) ∧ x.T = tabQ E s.toNat R (clsE E) (repE E) i ∧ TOwn w' base x [] [] [])) ∨
 (rightB s E m = true ∧ (∀ k : Nat, Done (stepM E s.toNat R) (repE E) (mo0 E s.toNat R) k → min most 4096 < (k : Int)) ∧ e = .returned (.tuple #[zeroD, .int .i64 100]))
set_option maxRecDepth 100000 in
set_option maxHeartbeats 16000000 in
theorem dfa_any (s : Int) (A : Option Addr) (n c : Nat) (B : Option Addr) (m d : Nat) (E : List Edg) (R : List Nat) (most : Int) (hn : n = E.length) (hE : E.length ≤ 100000) (hm : m = R.length) (hR : ∀ r ∈ R, r < 4294967296) (hsN : s ≤ 1048576) (w : World) (hs : SliceOf w w.heap.size 7 edgC A E) (hRs : SliceOf w w.heap.size 1 encR B R) :
  Calls Tryz.prog 6 #[.agg (nfaC s A n c B m d), .int .i64 most] w fun e w' => DRes s E m R most w.heap.size e w' ∧ Below w.heap.size w w' := by
 have Hn := Lib.hid hn
 have Hm := Lib.hid hm
 have HR := Lib.hid hR
 have kR := fun W (hW : Below w.heap.size w W) => right_any s A n c B m d E hn (by omega) W ((hs.below hW).more hW.size)
 clear hn hm hR
 go_enter Tryz.func6, Tryz.ntmps6
 go_upto_region 1 with (fail)
 go_step3
 go_upto_region 1 with (fail)
 rw [zxd]
 have h1 : Blk (w.alloc (.cells (nfaC s A n c B m d) 26)) w.heap.size 26 (nfaC s A n c B m d) := Blk.new w _ _
 have hB1 : Below w.heap.size w (w.alloc (.cells (nfaC s A n c B m d) 26)) := zqc (Below.refl _ _) _
 obtain ⟨w1, hw1⟩ : ∃ y, y = w.alloc (.cells (nfaC s A n c B m d) 26) := ⟨_, rfl⟩
 have hs1 : w1.heap.size = w.heap.size + 1 := by rw [hw1]; exact Array.size_push ..
 rw [← hw1] at h1 hB1 ⊢
 clear hw1
 have h4 : Blk (w1.alloc (.cells (dfaC (fun _ => 0) none 0 0 none 0 0 none 0 0) 33)) w1.heap.size 33 (dfaC (fun _ => 0) none 0 0 none 0 0 none 0 0) := Blk.new w1 _ _
 have hB2 : Below w1.heap.size w1 (w1.alloc (.cells (dfaC (fun _ => 0) none 0 0 none 0 0 none 0 0) 33)) := zqc (Below.refl _ _) _
 obtain ⟨w2, hw2⟩ : ∃ y, y = w1.alloc (.cells (dfaC (fun _ => 0) none 0 0 none 0 0 none 0 0) 33) := ⟨_, rfl⟩
 rw [← hw2, hs1] at h4
 rw [← hw2] at hB2 ⊢
 have h2 := zqb h1 hB2
 have hB := zqd hB1 hB2
 obtain ⟨b, hb⟩ : ∃ b, b = rightB s E m := ⟨_, rfl⟩
 rw [← hb] at kR
 obtain ⟨g2, hg2⟩ : ∃ y, y = w.heap.size := ⟨_, rfl⟩
 have Hg2 := Lib.hid hg2
 rw [← hg2] at h2 h4 ⊢
 have kR2 := kR w2 hB
 have Hb := Lib.hid hb
 clear hw2 h1 hB1 hB2 hs1 kR hg2 hb
 cases b with
 | false =>
   go_wp2_with (first
    | (refine wpList_load_row rfl _ _ rfl _ rfl _ _ _ _ h2 Tryz.underlying26 rfl (info_nfa3.trans rfl) ?_)
    | (go_at_call 19; refine kR2.mono ?_; rintro e w3 ⟨rfl, hB3⟩; have h43 := zqb h4 hB3)
    | (refine wl_build_dfa0 rfl rfl ?_)
    | (refine zyg rfl _ _ rfl (g2 + 1) rfl rfl h43 ?_; intro w4 h44 hg4))
   rw [Exit.noGoto_ret]
   refine ret_dfa rfl rfl h44 rfl ?_
   exact ⟨.inl ⟨Hb.out.symm, rfl⟩, zqh (zqd hB hB3) hg4 (by have := Hg2.out; omega)⟩
 | true =>
   go_upto_region 3 with (first
    | (refine wpList_load_row rfl _ _ rfl _ rfl _ _ _ _ h2 Tryz.underlying26 rfl (info_nfa3.trans rfl) ?_)
    | (go_at_call 19; refine kR2.mono ?_; rintro e w3 ⟨rfl, hB3⟩; have h43 := zqb h4 hB3; have h23 := zqb h2 hB3))
   have hrb := Hb.out.symm
   rw [Hm.out] at hrb
   obtain ⟨N, hsN2, hF⟩ := right_fits hrb
   have hB03 := zqd hB hB3
   subst hsN2
   have hN : N ≤ 1048576 := by omega
   have hs3 : g2 + 2 ≤ w3.heap.size := by have := h43.lt; omega
   have c23 : w3.cell? ⟨g2, 0, none⟩ = some (.int .i64 (N : Int)) := h23.cellv rfl
   clear kR2 hrb h4 h2 hB hB3 c23
   refine wp_region_stepsE (i0 := 3) 7 [3, 4, 5, 6] (fun g : Nat => [eqS (.agg (nfaC N A n c B m d)), eqS (.pointer (some ⟨g2, 0, none⟩)), eqS (.int .i64 (N : Int)), madeS w3.heap.size N g, eqS (.agg (kmC N A n c B m d g N)), newS w3.heap.size 67 (kmC N A n c B m d g N), newS w3.heap.size 67 (kmC N A n c B m d g N)]) 0 [24, 25, 26, 27, 28, 29, 6] zqp (by kernel_rfl) (by kernel_rfl) ?_ (by kernel_rfl) ?_ ?_
   ·intro g g' j hj
    rcases j with _ | _ | _ | _ | _ | _ | _ | j <;> first | rfl | (exact absurd hj (by decide))
   ·skip
    refine StepsE.cons (fun g a' w' hG hB dep => gs_load_nfaB (zqa rfl) _ rfl g2 (hG.other 2 rfl) (zqb h23 hB) rfl) ?_
    refine StepsE.cons (fun g a' w' hG hB dep => zqn (zqa rfl) _ _ _ rfl g2 0 0 (hG.other 2 rfl) (fun wz => field_nfa_0 g2 0 wz) rfl) ?_
    refine StepsE.cons (fun g a' w' hG hB dep => zqj (zqa rfl) _ _ rfl g2 0 (dep 1 rfl 25 rfl) (.int .i64 (N : Int)) ((zqb h23 hB).cellv rfl) _ Tryz.underlying3 rfl rfl) ?_
    refine StepsE.cons (fun g a' w' hG hB dep => gs_makeE (zqa rfl) _ _ rfl N hN (dep 2 rfl 26 rfl) (dep 2 rfl 26 rfl) (fun g1 w1 h1 h2 => ⟨g1, rfl, Nat.le_trans hB.size h1, h2⟩)) ?_
    refine StepsE.cons (fun g a' w' hG hB dep => gs_buildK (zqa rfl) _ _ rfl N A n c B m d g N N (dep 0 rfl 24 rfl) (dep 3 rfl 27 rfl).1 rfl) ?_
    refine StepsE.cons (fun g a' w' hG hB dep => gs_boxK (zqa rfl) _ rfl N A n c B m d g N N (dep 4 rfl 28 rfl) (fun gk w1 h1 h2 => ⟨gk, rfl, Nat.le_trans hB.size h1, h2⟩)) ?_
    refine StepsE.cons (fun g a' w' hG hB dep => zxl (zqa rfl) _ rfl (id (dep 5 rfl 29 rfl))) ?_
    exact StepsE.nil
   intro bf uu w4 hB4 ans
   obtain ⟨hq, hbf, hbfb⟩ := ans 3 27 (by decide) rfl
   clear hq
   obtain ⟨gk, u6, hgk, hgkb⟩ := ans 6 6 (by decide) rfl
   clear ans
   simp only [zqr, List.foldl_cons, List.foldl_nil, Act.put, List.setIfInBounds_toArray, List.set_cons_zero, List.set_cons_succ, u6]
   clear u6
   simp only [List.drop]
   refine wpList_nil ?_
   replace h43 := zqb h43 hB4
   replace h23 := zqb h23 hB4
   replace hB03 := zqd hB03 hB4
   clear hB4
   have hfrom : FromI w3.heap.size bf N w4 (fun _ => .slice none 0 0) (E.take 0) := by rw [List.take_zero]; exact FromI.nil hbfb
   have c21 : w4.cell? ⟨g2, 1, none⟩ = some (.slice A n c) := h23.cellv (i := 1) rfl
   have hgk2 := hgk
   have hs34 := hB03.size
   have Hs := Lib.hid hs
   have HRs := Lib.hid hRs
   have HF := Lib.hid hF
   have Hs3 := Lib.hid (And.intro hbf hgk)
   clear hbfb hs hRs hF hbf
   go_wp2_with (fail)
   go_loopw [33] (fun iv wr => ∃ (j : Nat) (FV : Nat → Value), j ≤ n ∧ iv = .int .i64 j ∧ FromI w3.heap.size bf N wr FV (E.take j) ∧ Below w.heap.size w wr ∧ Blk wr g2 26 (nfaC N A n c B m d) ∧ Blk wr (g2 + 1) 33 (dfaC (fun _ => 0) none 0 0 none 0 0 none 0 0) ∧ Blk wr gk 67 (kmC N A n c B m d bf N) ∧ w3.heap.size ≤ wr.heap.size) (fun iv _ => n - (intOf iv).toNat)
   case atStart => exact ⟨0, _, by omega, rfl, hfrom, hB03, h23, h43, hgkb, by have := hgkb.lt; omega⟩
   case round =>
    clear hfrom hB03 h23 h43 hgkb c21 hs34
    obtain ⟨j, FV, hj, rfl, hI, hBw, h2, h4, hk, hw3⟩ := hrel
    by_cases hjl : j < n
    ·have hjI : (j : Int) < n := by omega
     have hjl2 : j < E.length := by rw [← Hn.out]; exact hjl
     have hjb : j < 1099511628000 := by omega
     obtain ⟨ba, off, rfl, hba, hrows⟩ := (Hs.out.below hBw).at_ (by omega)
     have hr7 := hrows j hjl2
     have hdE := List.getElem_mem hjl2
     have htk : E.take (j + 1) = E.take j ++ [E[j]] := List.take_succ_eq_append_getElem hjl2
     obtain ⟨dd, hd⟩ : ∃ d, d = E[j] := ⟨_, rfl⟩
     rw [← hd] at hr7 htk hdE
     have hfrb := HF.out.fr dd hdE
     obtain ⟨n0, hfr⟩ : ∃ q : Nat, dd.fr = (q : Int) := ⟨dd.fr.toNat, by omega⟩
     have hn0 : n0 < N := by omega
     have Htk := Lib.hid htk
     have Hfr := Lib.hid hfr
     clear hd hdE htk hrows hfrb hfr
     go_upto_region 7 with (first | (refine zzs rfl _ rfl _ _ rfl _ hr7 ?_) | (refine zxm rfl _ _ rfl _ _ rfl rfl edge0 (Blk.new _ _ _) ?_; intro w6 h6 hg6))
     have hB6 := zqh (zqc (Below.refl _ wr) (.cells #[.int .i64 0, .int .i64 0, .int .i64 0, .int .u64 0, .int .u64 0, .int .u64 0, .int .u64 0] 69)) hg6 (Nat.le_refl _)
     clear hr7 hg6
     have hgl := (hI.own n0 hn0).lt
     obtain ⟨ge, hge⟩ : ∃ y, y = wr.heap.size := ⟨_, rfl⟩
     rw [← hge] at h6 ⊢
     have hgew : w3.heap.size ≤ ge := by omega
     have hw6 : ge ≤ w6.heap.size := by rw [hge]; exact hB6.size
     replace hI := hI.then_ hB6
     replace hBw := zqd hBw hB6
     replace h2 := zqb h2 hB6
     replace h4 := zqb h4 hB6
     replace hk := zqb hk hB6
     replace hw3 : w3.heap.size ≤ w6.heap.size := Nat.le_trans hw3 hB6.size
     have hel : (zqq (E.take j) n0).length ≤ 1099511627776 := Nat.le_trans (List.length_filter_le _ _) (by rw [List.length_take]; omega)
     have hne_2 : ∀ i, i < w3.heap.size → (some i : Option Nat) ≠ (FV n0).ownBlock := fun i hi e => by have := (hgl _ e.symm).1; omega
     have hne_k : (some gk : Option Nat) ≠ (FV n0).ownBlock := fun e => zzm (hI.own n0 hn0) hk (by decide) e.symm
     have hne_b : (some bf : Option Nat) ≠ (FV n0).ownBlock := fun e => zzm (hI.own n0 hn0) hI.b (by decide) e.symm
     have hne_e : (some ge : Option Nat) ≠ (FV n0).ownBlock := fun e => by have := (hgl _ e.symm).2; omega
     obtain ⟨rw0, hrw⟩ : ∃ y, (FV n0).ownBlock = y := ⟨_, rfl⟩
     have hvn : ∀ y, FV n0 = y → w6.cell? ⟨bf, n0, none⟩ = some y := fun y hy => by
      have := hI.b.cellv (arr_at eV N FV hn0)
      rw [← hy]; exact this
     rw [hrw] at hne_2 hne_k hne_b hne_e hgl
     rw [← hge] at hgl
     clear hB6 hge
     refine zzv (rw := rw0) (i0 := 16) 18 [eqS (.pointer (some ⟨gk, 0, none⟩)), eqS (.pointer (some ⟨gk, 0, none⟩)), eqS (.pointer (some ⟨gk, 3, none⟩)), eqS (.slice (some ⟨bf, 0, none⟩) N N), eqS (.pointer (some ⟨ge, 1, none⟩)), eqS (.int .i64 (n0 : Int)), eqS (.pointer (some ⟨gk, 0, none⟩)), eqS (.pointer (some ⟨gk, 0, none⟩)), eqS (.pointer (some ⟨gk, 3, none⟩)), eqS (.slice (some ⟨bf, 0, none⟩) N N), eqS (.pointer (some ⟨ge, 1, none⟩)), eqS (.int .i64 (n0 : Int)), eqS (.pointer (some ⟨bf, 0 + n0 * 1, none⟩)), eqS (FV n0), eqS (.agg (edgC dd)), oneS w6.heap.size dd, moreS w3.heap.size w6.heap.size rw0 (zqq (E.take j) n0 ++ [dd]), eqS (.pointer (some ⟨bf, 0 + n0 * 1, none⟩))] [37, 38, 39, 40, 41, 42, 43, 44, 45, 46, 47, 48, 49, 50, 51, 52, 53, 54] rfl ?_ (by kernel_rfl) (by kernel_rfl) ?_ ?_
     ·intro i hi v wa wb hp hg
      rcases i with _ | _ | _ | _ | _ | _ | _ | _ | _ | _ | _ | _ | _ | _ | _ | _ | _ | _ | i
      all_goals first | exact hp | skip
      ·obtain ⟨g, q1, q2, q3⟩ := hp
       exact ⟨g, q1, q2, q3.grown hg (fun e => by have := (hgl g e.symm).2; omega)⟩
      ·exact absurd rfl hi
     ·skip
      refine StepsR.cons (fun a' w' hG hW hP dep => GStepR.of (zqi (zqa rfl) _ rfl (hG.other 6 rfl))) ?_
      refine StepsR.cons (fun a' w' hG hW hP dep => GStepR.of (gs_nil (zqa rfl) _ rfl _ (dep 0 rfl 37 rfl) rfl)) ?_
      refine StepsR.cons (fun a' w' hG hW hP dep => GStepR.of (zqn (zqa rfl) _ _ _ rfl gk 0 3 (dep 1 rfl 38 rfl) (fun wz => field_k_1 gk 0 wz) rfl)) ?_
      refine StepsR.cons (fun a' w' hG hW hP dep => GStepR.of (zqj (zqa rfl) _ _ rfl gk 3 (dep 2 rfl 39 rfl) (.slice (some ⟨bf, 0, none⟩) N N) ((hk.grown hW hne_k).cellv (i := 3) rfl) _ Tryz.underlying65 rfl rfl)) ?_
      refine StepsR.cons (fun a' w' hG hW hP dep => GStepR.of (zqn (zqa rfl) _ _ _ rfl ge 0 1 (hG.other 8 rfl) (fun wz => field_edge_1 ge 0 wz) rfl)) ?_
      refine StepsR.cons (fun a' w' hG hW hP dep => GStepR.of (zqj (zqa rfl) _ _ rfl ge 1 (dep 4 rfl 41 rfl) (.int .i64 (n0 : Int)) (by rw [← Hfr.out]; exact (h6.grown hW hne_e).cellv (i := 1) rfl) _ Tryz.underlying3 rfl rfl)) ?_
      refine StepsR.cons (fun a' w' hG hW hP dep => GStepR.of (zqi (zqa rfl) _ rfl (hG.other 6 rfl))) ?_
      refine StepsR.cons (fun a' w' hG hW hP dep => GStepR.of (gs_nil (zqa rfl) _ rfl _ (dep 6 rfl 43 rfl) rfl)) ?_
      refine StepsR.cons (fun a' w' hG hW hP dep => GStepR.of (zqn (zqa rfl) _ _ _ rfl gk 0 3 (dep 7 rfl 44 rfl) (fun wz => field_k_1 gk 0 wz) rfl)) ?_
      refine StepsR.cons (fun a' w' hG hW hP dep => GStepR.of (zqj (zqa rfl) _ _ rfl gk 3 (dep 8 rfl 45 rfl) (.slice (some ⟨bf, 0, none⟩) N N) ((hk.grown hW hne_k).cellv (i := 3) rfl) _ Tryz.underlying65 rfl rfl)) ?_
      refine StepsR.cons (fun a' w' hG hW hP dep => GStepR.of (zqn (zqa rfl) _ _ _ rfl ge 0 1 (hG.other 8 rfl) (fun wz => field_edge_1 ge 0 wz) rfl)) ?_
      refine StepsR.cons (fun a' w' hG hW hP dep => GStepR.of (zqj (zqa rfl) _ _ rfl ge 1 (dep 10 rfl 47 rfl) (.int .i64 (n0 : Int)) (by rw [← Hfr.out]; exact (h6.grown hW hne_e).cellv (i := 1) rfl) _ Tryz.underlying3 rfl rfl)) ?_
      refine StepsR.cons (fun a' w' hG hW hP dep => GStepR.of (zxu (zqa rfl) _ _ _ rfl under_edgesF 1 size_edgesF bf 0 N N n0 (dep 9 rfl 46 rfl) (dep 11 rfl 48 rfl) hn0 rfl)) ?_
      refine StepsR.cons (fun a' w' hG hW hP dep => GStepR.of (zqj (zqa rfl) _ _ rfl bf (0 + n0 * 1) (dep 12 rfl 49 rfl) (FV n0) (by rw [show 0 + n0 * 1 = n0 by omega]; exact (hI.b.grown hW hne_b).cellv (arr_at eV N FV hn0)) _ Tryz.underlying23 rfl rfl)) ?_
      refine StepsR.cons (fun a' w' hG hW hP dep => GStepR.of (gs_load_edge_at (zqa rfl) _ rfl ge 0 (hG.other 8 rfl) dd (RowAt.of_blk (h6.grown hW hne_e)) rfl)) ?_
      refine StepsR.cons (fun a' w' hG hW hP dep => GStepR.of (gs_one (zqa rfl) _ rfl (lo := w6.heap.size) hW.size dd (dep 14 rfl 51 rfl) (fun _ _ h => h))) ?_
      refine StepsR.cons (fun a' w' hG hW hP dep => gs_more (zqa rfl) _ _ rfl (lo := w3.heap.size) (k0 := w6.heap.size) (by have := hW.size; omega) hW.size (FV n0) _ dd (dep 13 rfl 50 rfl) hrw ((hI.own n0 hn0).then_ (hP rfl)) hel w6.heap.size (dep 15 rfl 52 rfl) (fun _ _ h => h)) ?_
      refine StepsR.cons (fun a' w' hG hW hP dep => GStepR.of (zxu (zqa rfl) _ _ _ rfl under_edgesF 1 size_edgesF bf 0 N N n0 (dep 3 rfl 40 rfl) (dep 5 rfl 42 rfl) hn0 rfl)) ?_
      exact trivial
     intro uf w7 hW7 ans
     have u54 : uf 54 = .pointer (some ⟨bf, 0 + n0 * 1, none⟩) := ans 17 54 (by decide) rfl
     obtain ⟨hv7, hat7⟩ := ans 16 53 (by decide) rfl
     clear ans
     obtain ⟨A7, c7, hv7e, _, _⟩ := hv7.shape
     rw [hv7e] at hv7 hat7
     simp only [zqr, List.foldl_cons, List.foldl_nil, Act.put, List.setIfInBounds_toArray, List.set_cons_zero, List.set_cons_succ, u54, hv7e]
     clear u54 hv7e
     simp only [List.drop]
     rw [show 0 + n0 * 1 = n0 by omega]
     have hb7 := hI.b.grown hW7 hne_b
     refine zqt rfl _ _ _ rfl bf n0 rfl 23 _ (arr eV N (upd FV n0 (.slice A7 (zqq (E.take j) n0 ++ [dd]).length c7))) hb7 (by rw [arr_size]; exact hn0) info_edgesS rfl rfl (arr_set eV N FV _) ?_
     intro w8 hb8 hg8
     refine wpList_nil ?_
     rw [← hrw] at hW7 hat7
     have hI8 := hI.step hn0 Hfr.out hW7 hv7 hat7 hb8 hb7 hg8
     rw [← Htk.out] at hI8
     rw [hrw] at hW7
     have hbk : bf ≠ gk := fun e => by
      subst e
      have h1 := hb7
      have h2 := hk.grown hW7 hne_k
      unfold Blk at h1 h2
      rw [h1] at h2
      injection h2 with h2
      injection h2 with _ h2
      exact absurd h2 (by decide)
     have h28 := zqk (h2.grown hW7 (hne_2 g2 (by omega))) hg8 (by have := Hs3.out.1; omega)
     have h48 := zqk (h4.grown hW7 (hne_2 (g2 + 1) (by omega))) hg8 (by have := Hs3.out.1; omega)
     have hk8 := zqk (hk.grown hW7 hne_k) hg8 hbk.symm
     have hs24 : w.heap.size ≤ w3.heap.size := by have := Hg2.out; omega
     have hB8 : Below w.heap.size w w8 := (hBw.grown hW7 hBw.size (fun j e => by have := (hgl j e).1; omega)).grown hg8 (Nat.le_trans hBw.size hW7.size) (fun j e => by injection e with e; have := Hs3.out.1; omega)
     have hw38 : w3.heap.size ≤ w8.heap.size := Nat.le_trans hw3 (Nat.le_trans hW7.size hg8.size)
     clear hb7 hb8 hg8 hW7 hI hv7 hat7 h2 h4 hk hBw h6 hvn hne_2 hne_k hne_b hne_e
     go_wp2_with (fail)
     exact ⟨⟨j + 1, _, by omega, rfl, hI8, hB8, h28, h48, hk8, hw38⟩, by simp only [intOf]; omega⟩
    ·have hjI : ¬ (j : Int) < n := by omega
     rw [List.take_of_length_le (by rw [← Hn.out]; omega)] at hI
     have hM := hI.mach HF.out hN hE HR.out Hm.out hk ((HRs.out.below hBw).more hBw.size)
     have kP := psets_any N A n c B m d E wr Hn.out (by rw [Hn.out]; exact hE) ((Hs.out.below hBw).more hBw.size)
     have hsl := setsL_length E
     have hs24 : g2 + 2 ≤ wr.heap.size := by omega
     obtain ⟨nb, hnb⟩ : ∃ y, y = wr.heap.size := ⟨_, rfl⟩
     rw [← hnb] at hM
     have hg4n : g2 + 1 < nb := by omega
     have hwnb : w.heap.size ≤ nb := by have := Hg2.out; omega
     clear hI hk
     go_upto_region 10 with (first
      | (refine wpList_load_row rfl _ _ rfl _ rfl _ _ _ _ h2 Tryz.underlying26 rfl (info_nfa3.trans rfl) ?_)
      | (go_at_call 21; refine kP.mono ?_; rintro e wS ⟨AS, cS, rfl, hS, hBS⟩)
      | (go_at_call 20; refine (classes_any AS (setsL E).length cS (setsL E) wS rfl (by unfold maxLen; omega) (hS.slice_all zye)).mono ?_; rintro e wC ⟨rfl, hBC⟩; have hzc := Blk.new wC 30 Tryz.zeroCells30; rw [zero_cells_cls] at hzc)
      | (rw [zero_cells_cls]; refine wl_store_cls rfl _ _ rfl wC.heap.size _ rfl rfl _ hzc ?_; intro w5 h9 hg5))
     have hB5 : Below wr.heap.size wr w5 := zqh (zqc (zqd hBS hBC) _) hg5 (Nat.le_trans hBS.size hBC.size)
     have hw5 := h9.lt
     obtain ⟨g9, hg9⟩ : ∃ y, y = wC.heap.size := ⟨_, rfl⟩
     have hg9w : nb ≤ g9 := by rw [hnb, hg9]; exact Nat.le_trans hBS.size hBC.size
     rw [← hg9] at h9 ⊢
     replace h4 := zqb h4 hB5
     replace h2 := zqb h2 hB5
     replace hBw := zqd hBw hB5
     rw [← hnb] at hB5
     replace hM := hM.below hB5 (Nat.le_refl _)
     have hnb5 : nb ≤ w5.heap.size := by rw [hnb]; exact hB5.size
     obtain ⟨f, hf⟩ : ∃ f, f = cls (setsL E) := ⟨_, rfl⟩
     obtain ⟨M, hMy⟩ : ∃ M, M = many (setsL E) := ⟨_, rfl⟩
     rw [← hf] at h9
     have Hf := Lib.hid hf
     have HMy := Lib.hid hMy
     have hM256 : M ≤ 256 := by rw [hMy]; exact many_le _
     have hfr : ∀ b, b < 256 → 0 ≤ f b ∧ f b < M := fun b hb => by rw [hf, hMy]; exact ⟨cls_ge _ _, cls_lt _ hb⟩
     have kF := kfirst_any f M hM256 hfr w5
     rw [← hMy]
     clear hf hMy hfr hg9 hg5 hzc hBC hBS hS kP hB5 hnb
     go_upto_region 11 with (first
      | (refine wl_load_cls rfl _ rfl g9 rfl f h9 ?_)
      | (go_at_call 22; refine kF.mono ?_; rintro e w6 ⟨gb, rfl, hgb, hb6, hB6⟩))
     have h96 := zqb h9 hB6
     replace h4 := zqb h4 hB6
     replace hBw := zqd hBw hB6
     replace hM := hM.below hB6 hnb5
     have hnb6 : nb ≤ w6.heap.size := Nat.le_trans hnb5 hB6.size
     have hgb5 : nb ≤ gb := Nat.le_trans hnb5 hgb
     replace hb6 := hb6.mono (base' := nb) hnb5
     have hgbl := (hb6.lt gb rfl).2
     clear hB6 h9 hnb5 hgb kF hw5 h2
     go_upto_region 12 with (first
      | (refine wl_load_cls rfl _ rfl g9 rfl f h96 ?_)
      | (refine wl_build_dfa1 rfl _ rfl f rfl ?_; have hzc := Blk.new w6 33 Tryz.zeroCells33; rw [zxd] at hzc)
      | (rw [zxd]; refine zyg rfl _ _ rfl w6.heap.size rfl rfl hzc ?_; intro w7 hd7 hg7))
     have hB7 : Below w6.heap.size w6 w7 := zqh (zqc (Below.refl _ _) _) hg7 (Nat.le_refl _)
     have hgd7 := hd7.lt
     obtain ⟨gd, hgd⟩ : ∃ y, y = w6.heap.size := ⟨_, rfl⟩
     rw [← hgd] at hd7 hgd7 ⊢
     have hgdn : nb ≤ gd := by omega
     have hgbd : gb < gd := by omega
     replace h4 := zqb h4 hB7
     replace hBw := zqd hBw hB7
     replace hM := hM.below hB7 hnb6
     replace hb6 := hb6.then_ hB7
     have hnb7 : nb ≤ w7.heap.size := Nat.le_trans hnb6 hB7.size
     clear hB7 hg7 hzc hgd h96 hnb6
     have hmm : ∀ w : World, (Instr.makeMap 76 none).run Tryz.prog w = .ok (.map (some w.heap.size)) (w.alloc (.map #[] 0)) := fun w => by kernel_rfl
     go_upto_region 13 with (first
      | (have hbx : Blk ((w7.alloc (.map #[] 0)).alloc (.cells #[.map none] 76)) (w7.heap.size + 1) 76 #[.map none] := Blk.new' _ _ _ (World.size_alloc _ _).symm
         refine zqt rfl _ _ _ rfl (w7.heap.size + 1) 0 rfl 76 _ #[.map (some w7.heap.size)] hbx (Nat.lt_succ_self 0) (by kernel_rfl) rfl rfl rfl ?_; intro w8 hm8 hg8))
     have him8 : IntMap Tryz.prog 9 3 okS litK w8 w7.heap.size 0 (fun _ => none) 0 := ((IntMap.new (P := Tryz.prog) (e := 3) keyStr w7 rfl).then_ (zqc (Below.refl _ _) _)).grown hg8 (by omega)
     have hB8 : Below w7.heap.size w7 w8 := zqh (zqc (zqc (Below.refl _ _) _) _) hg8 (by omega)
     obtain ⟨bm, hbm⟩ : ∃ y, y = w7.heap.size := ⟨_, rfl⟩
     rw [← hbm] at him8 hm8 ⊢
     have hm8l := hm8.lt
     have hbmd : gd < bm := by omega
     have hd8 := zqb hd7 hB8
     replace h4 := zqb h4 hB8
     replace hBw := zqd hBw hB8
     replace hM := hM.below hB8 hnb7
     replace hb6 := hb6.then_ hB8
     have hnb8 : nb ≤ w8.heap.size := Nat.le_trans hnb7 hB8.size
     clear hB8 hg8 hbx hd7 hgd7 hmm hnb7 hbm
     simp only [Act.put]
     go_upto_region 15 with (fail)
     have hB9 : Below w8.heap.size w8 (w8.alloc (.cells #[.slice none 0 0] 77)) := zqc (Below.refl _ _) _
     have hq9 : Blk (w8.alloc (.cells #[.slice none 0 0] 77)) w8.heap.size 77 #[.slice none 0 0] := Blk.new w8 _ _
     obtain ⟨gq, hgq⟩ : ∃ y, y = w8.heap.size := ⟨_, rfl⟩
     obtain ⟨w9, hw9⟩ : ∃ y, y = w8.alloc (.cells #[.slice none 0 0] 77) := ⟨_, rfl⟩
     rw [← hw9] at hB9 hq9 ⊢
     rw [← hgq] at hq9 ⊢
     have hq9l := hq9.lt
     have hQ : QSt N (zqe N) w9.heap.size gd bm (bm + 1) gq f none 0 0 [] w9 := QSt.start ⟨hbmd, by omega, by omega, hq9l⟩ (zqb hm8 hB9) (him8.then_ hB9) hq9 (zqb hd8 hB9)
     replace h4 := zqb h4 hB9
     replace hBw := zqd hBw hB9
     replace hM := hM.below hB9 hnb8
     replace hb6 := hb6.then_ hB9
     have hnb9 : nb ≤ w9.heap.size := Nat.le_trans hnb8 hB9.size
     have hgql : bm + 1 < gq := by omega
     clear hB9 hw9 hgq hq9 hm8 him8 hd8 hnb8 hm8l
     obtain ⟨b0, hb0⟩ : ∃ y, y = w9.heap.size := ⟨_, rfl⟩
     have kN := knone_any nb gk N E R w9 hM
     rw [← hb0] at hQ hnb9 hq9l kN
     have kR := moN_ok (E := E) (N := N) (K := zqe N) (R := R) HR.out (zzh N) 0 0 true (by decide)
     have hK1 : zqe N ≤ 1048576 := by unfold zqe; omega
     have h00 : below 0 N := below_zero N
     have kQt : ∀ W, Below b0 w9 W → QSt N (zqe N) b0 gd bm (bm + 1) gq f none 0 0 [] W := fun W h => hQ.then_ (by rw [← hb0]; exact h)
     go_upto_region 16 with (first
      | (go_at_call 26; refine kN.mono ?_; rintro e wn ⟨g, rfl, hgl, hSn, hBn⟩; have hMn := hM.below hBn hnb9)
      | (go_at_call 25; refine (kmoment_any nb gk N b0 g (zqe N) 0 0 E R true h00 (by decide) wn hMn hSn (by omega)).mono ?_; rintro e wm ⟨rfl, hSm, hTm⟩; have hBm : Below b0 w9 wm := hBn.trans (Turn.below hTm hgl (by have := hBn.size; omega)); have hQm := kQt wm hBm)
      | (go_at_call 23; refine (state_any nb gk N (zqe N) b0 gd bm (bm + 1) gq f none 0 0 [] ⟨g, zqe N, moN E N R 0 0 true⟩ hK1 (by decide) wm hQm kR hSm).mono ?_; rintro e w10 ⟨rfl, hQ10, hF10⟩))
     have hI9 : BI w nb b0 gd bm (bm + 1) gq gk gb (g2 + 1) N (zqe N) M f E R none 0 [] [] w9 :=
      ⟨⟨hg4n, hgb5, hgbd, hwnb⟩, hM, hQ, hb6, h4, hBw, Own.nil_ _ _ _ _ _, fun i hi => absurd hi (by simp), fun i j hi => absurd hi (by simp)⟩
     have hI10 := (hI9.then_ (by rw [← hb0]; exact hBm)).fq hQ10 hF10
     have hF9 : b0 ≤ w10.heap.size := by rw [hb0]; exact Nat.le_trans (by have := hBm.size; exact this) hF10.size
     obtain ⟨x0, hx0⟩ : ∃ x : MQ, x = ⟨g, zqe N, moN E N R 0 0 true⟩ := ⟨_, rfl⟩
     have hL10 : addM [] (⟨g, zqe N, moN E N R 0 0 true⟩ : MQ) = [x0] := by rw [hx0]; rfl
     have hx0m : x0.mo = mo0 E N R := by rw [hx0]; rfl
     rw [hL10] at hI10
     have Hx0m := Lib.hid hx0m
     clear hI9 hL10 hx0m hx0 hQ10 hF10 hQm hTm hSm hMn hBn hSn hBm kN kQt hQ hM hb6 h4 hBw kR h00 hb0 hgl
     go_upto_region 17 with (fail)
     go_step3
     obtain ⟨mm, hmm⟩ : ∃ y, y = min most 4096 := ⟨_, rfl⟩
     rw [← hmm]
     have hmm4 : mm ≤ 4096 := by omega
     have Hmm := Lib.hid hmm
     obtain ⟨bs, hbs⟩ : ∃ l, l = repL f M 0 := ⟨_, rfl⟩
     have hbsE : bs = repE E := by rw [hbs, Hf.out, HMy.out]; rfl
     have hbl : bs.length = M := by rw [hbs, repL_length]
     have hb256 : ∀ b ∈ bs, b < 256 := by rw [hbs]; exact repL_lt _ _ _
     have Hbs := Lib.hid hbs
     have HbsE := Lib.hid hbsE
     have Hb256 := Lib.hid hb256
     clear hbs hbsE hmm hb256
     go_wp2_with (fail)
     obtain ⟨st, hst⟩ : ∃ y, y = stepM E N R := ⟨_, rfl⟩
     obtain ⟨a0, ha0⟩ : ∃ y, y = mo0 E N R := ⟨_, rfl⟩
     have Hst := Lib.hid hst
     have Ha0 := Lib.hid ha0
     have hL0 : Hid (([x0] : List MQ).map MQ.mo = bfsN st bs a0 0) := Lib.hid (by rw [Ha0.out, ← Hx0m.out]; rfl)
     have hR0 : Hid (([] : List RV).map (·.l) = (rowsQ st bs a0 0).map intsL) := Lib.hid (by simp [rowsQ])
     have hst' : ∀ q b, moN E N R (byteN E N q.at_ b) q.met false = st q b := fun q b => by rw [hst]; rfl
     have Hst' := Lib.hid hst'
     have HwN := Lib.hid (zzh N)
     clear hst ha0 hst'
     go_loopw [16] (fun iv wr => ∃ (i : Nat) (L : List MQ) (rs : List RV) (AN : Option Addr) (cN : Nat), iv = .int .i64 i ∧ BI w nb b0 gd bm (bm + 1) gq gk gb (g2 + 1) N (zqe N) M f E R AN cN rs L wr ∧ b0 ≤ wr.heap.size ∧ Hid (L.map MQ.mo = bfsN st bs a0 i) ∧ Hid (rs.map (·.l) = (rowsQ st bs a0 i).map intsL) ∧ i ≤ L.length ∧ L.length ≤ 4097) (fun iv _ => 5000 - (intOf iv).toNat)
     case atStart => exact ⟨0, [x0], [], none, 0, rfl, hI10, hF9, hL0, hR0, by simp, by simp⟩
     case round =>
      clear hI10 hF9 hL0 hR0
      obtain ⟨i, L, rs, AN, cN, rfl, hI, hbw, HL, HRo, hiL, hL⟩ := hrel
      have hLb : L.length = (bfsN st bs a0 i).length := by rw [← HL.out, List.length_map]
      have hrl : rs.length = i := by
       have h1 : (rs.map (·.l)).length = _ := congrArg List.length HRo.out
       rw [List.length_map, List.length_map, rows_len (by omega)] at h1
       exact h1
      obtain ⟨Aq, cq, hq1, hq2⟩ := hI.q.q
      have c14 : wr.cell? ⟨gq, 0, none⟩ = some (.slice Aq L.length cq) := hq1.cellv rfl
      obtain ⟨nL, hnL⟩ : ∃ y, y = L.length := ⟨_, rfl⟩
      rw [← hnL] at c14 hL hiL hLb
      have HnL := Lib.hid hnL
      have HLb := Lib.hid hLb
      have Hrl := Lib.hid hrl
      clear hnL hLb hrl hq1 hq2
      by_cases hil : i < nL
      ·have hiI : (i : Int) < nL := by omega
       clear hiL
       have hib : i < (bfsN st bs a0 i).length := by rw [← HLb.out]; exact hil
       obtain ⟨q, hqd⟩ : ∃ q, (bfsN st bs a0 i)[i]? = some q := ⟨_, List.getElem?_eq_getElem hib⟩
       have HQ := Lib.hid hqd
       have hroL := hI.rowLt
       obtain ⟨bw, hbwE⟩ : ∃ y, y = wr.heap.size := ⟨_, rfl⟩
       rw [← hbwE] at hbw hroL
       have HroL := Lib.hid hroL
       have hbw2 : bw ≤ wr.heap.size := by omega
       clear hib hqd hroL hbwE
       go_wp2_with (fail)
       clear c14
       go_loopw [17, 85] (fun rv jv wi => ∃ (j : Nat) (L' : List MQ) (A' : Option Addr) (c' : Nat), jv = .int .i64 j ∧ j ≤ M ∧ rv = .slice A' j c' ∧ BI w nb b0 gd bm (bm + 1) gq gk gb (g2 + 1) N (zqe N) M f E R AN cN rs L' wi ∧ bw ≤ wi.heap.size ∧ Own wi bw 3 1 encZ (.slice A' j c') (intsL (entsQ st (bs.take j) (L'.map MQ.mo) q)) ∧ Hid (L'.map MQ.mo = rowQ st q (bs.take j) (bfsN st bs a0 i)) ∧ L'.length ≤ 4097) (fun _ jv _ => M - (intOf jv).toNat)
       case atStart =>
        refine ⟨0, L, none, 0, rfl, by omega, rfl, hI, hbw2, ?_, Lib.hid ?_, by rw [← HnL.out]; exact hL⟩
        ·exact Own.nil_ _ _ _ _ _
        ·rw [HL.out]; rfl
       case round =>
        clear hI
        obtain ⟨j, L', A', c', rfl, hjM, rfl, hI, hbi, hrow, HL', hL'⟩ := hrel
        obtain ⟨Aq, cq, hq1, hq2⟩ := hI.q.q
        have c14 : wr.cell? ⟨gq, 0, none⟩ = some (.slice Aq L'.length cq) := hq1.cellv rfl
        obtain ⟨nL', hnL'⟩ : ∃ y, y = L'.length := ⟨_, rfl⟩
        rw [← hnL'] at c14 hL' hq2
        have HnL' := Lib.hid hnL'
        clear hnL' hq1
        by_cases hjm : j < M
        ·have hjI : (j : Int) < M := by omega
         have hjb : j < bs.length := by omega
         obtain ⟨b, hbd⟩ : ∃ b, b = bs[j] := ⟨_, rfl⟩
         have hb256 : b < 256 := by rw [hbd]; exact Hb256.out _ (List.getElem_mem hjb)
         have htk : bs.take (j + 1) = bs.take j ++ [b] := by rw [List.take_succ_eq_append_getElem hjb, hbd]
         have cb : wr.cell? ⟨gb, j, none⟩ = some (.int .u8 (b : Int)) := by
          have hlj : j < (repL f M 0).length := by rw [← Hbs.out]; exact hjb
          have := hI.bytes.row encY_size j hlj 0 _ rfl
          rw [Nat.mul_one, Nat.add_zero] at this
          rw [this, hbd]
          simp only [Hbs.out]
          rfl
         have Htk := Lib.hid htk
         clear hbd htk
         by_cases hcap : mm < (nL' : Int)
         ·have hcapg : (nL' : Int) > mm := hcap
          have hres := hI.res
          have hgt : nL' ≤ (bfsN st bs a0 (i + 1)).length := by
           obtain ⟨hl0, hq0⟩ := List.getElem?_eq_some_iff.1 HQ.out
           rw [bfs_succ hl0, hq0]
           obtain ⟨r, hr⟩ := rowQ_prefix (step := st) q (bs.drop j) (rowQ st q (bs.take j) (bfsN st bs a0 i))
           have e : rowQ st q bs (bfsN st bs a0 i) = rowQ st q (bs.drop j) (rowQ st q (bs.take j) (bfsN st bs a0 i)) := by
            unfold rowQ
            rw [← List.foldl_append, List.take_append_drop]
           rw [e, hr, List.length_append, ← HL'.out, List.length_map, ← HnL'.out]
           omega
          have Hgt := Lib.hid (And.intro hgt (And.intro hcap hI.bel))
          have Hg4 := Lib.hid (And.intro hI.ord.1 hI.ord.2.2.2)
          clear hgt hcap hI hrow hq2
          go_wp2_with (first
           | (refine wl_build_dfa0 rfl rfl ?_)
           | (refine zyg rfl _ _ rfl (g2 + 1) rfl rfl hres ?_; intro w6 h46 hg6))
          try rw [Exit.noGoto_ret]
          refine ret_dfa rfl rfl h46 rfl ?_
          refine ⟨.inr (.inr ⟨Hb.out.symm, fun k hk => ?_, rfl⟩), zqh Hgt.out.2.2 hg6 (by have := Hg2.out; omega)⟩
          rw [Int.toNat_natCast, ← HbsE.out, ← Hst.out, ← Ha0.out] at hk
          have h1 := hk.gt (List.getElem?_eq_some_iff.1 HQ.out).1 Hgt.out.1
          rw [← Hmm.out]
          have h2 := Hgt.out.2.1
          omega
         ·have hcapg : ¬ (nL' : Int) > mm := hcap
          have hLq : (L'.map MQ.mo)[i]? = some q := by
           obtain ⟨r, hr⟩ := rowQ_prefix (step := st) q (bs.take j) (bfsN st bs a0 i)
           rw [HL'.out, hr, List.getElem?_append_left (List.getElem?_eq_some_iff.1 HQ.out).1]
           exact HQ.out
          obtain ⟨y, gA, hyL, hyq, hil', rfl, hry⟩ := hI.at_ hq2 hLq
          have hiI' : (i : Int) < nL' := by have := HnL'.out; omega
          have hyok := hI.q.ok y hyL
          have kB := kbehind_any nb gk N wr.heap.size (zqe N) y.c y.mo.at_ y.mo.met y.mo.end_ b (some ⟨y.g, 0, none⟩) E R rfl hyok.met hb256 wr hI.mach (Nat.le_refl _) ((hI.q.ins y hyL).slice_all zzu)
          rw [Hst'.out, hyq] at kB
          have hokN : MoOk N (zqe N) (st q b) := by rw [Hst.out]; exact stepM_ok HR.out HwN.out b (hyq ▸ hyok)
          have hL10 : L'.length ≤ 10000 := by have := HnL'.out; omega
          have hbwr : b0 ≤ wr.heap.size := by omega
          have hnL'c : nL' ≤ 4096 := by omega
          have hlen : j = (intsL (entsQ st (bs.take j) (L'.map MQ.mo) q)).length := by
           rw [intsL_length]
           unfold entsQ
           rw [List.length_map, List.length_take]
           omega
          have Hlen := Lib.hid hlen
          clear hyok hcap hLq hq2 hlen
          go_upto_region 26 with (first
           | (refine wl_load_mom_at rfl _ rfl gA _ rfl (zqe N) y hry ?_)
           | (go_at_call 27; refine kB.mono ?_; rintro e wb ⟨g', rfl, hgb', hSb, hBb⟩; have hIb := hI.then_ hBb; have hSb0 := hSb.mono (base' := b0) hbwr)
           | (go_at_call 23; refine (state_any nb gk N (zqe N) b0 gd bm (bm + 1) gq f AN rs.length cN L' ⟨g', zqe N, st q b⟩ hK1 hL10 wb hIb.q hokN hSb0).mono ?_; rintro e ws ⟨rfl, hQs, hFs⟩)
           | (at_builtin; have hrow3 := (((hrow.then_ hBb).fq hFs (fun k e => by have := (hrow.lt k e).1; omega) (by decide)).then_ (zqc (Below.refl _ _) (.cells (encZ ((((addM L' ⟨g', zqe N, st q b⟩).map MQ.mo).idxOf (st q b) : Nat) : Int)) 3))); refine wl_pushZ rfl _ _ rfl bw _ _ rfl rfl (Blk.new _ _ _) hrow3 Hlen.out (by rw [← Hlen.out]; omega) (by have h1 := hFs.size; have h2 := hBb.size; simp; omega) ?_; intro A8 c8 w8 hrow8 hg8))
          have hI8 := ((hIb.fq hQs hFs).then_ (zqc (Below.refl _ _) (.cells (encZ ((((addM L' ⟨g', zqe N, st q b⟩).map MQ.mo).idxOf (st q b) : Nat) : Int)) 3))).ownI hrow3 hbw HroL.out hg8
          have hbi8 : bw ≤ w8.heap.size := Nat.le_trans hbi (Nat.le_trans hBb.size (Nat.le_trans hFs.size (Nat.le_trans (zqc (Below.refl ws.heap.size ws) _).size hg8.size)))
          obtain ⟨L8, hL8⟩ : ∃ l, l = addM L' (⟨g', zqe N, st q b⟩ : MQ) := ⟨_, rfl⟩
          have hL8m : L8.map MQ.mo = addQ (L'.map MQ.mo) (st q b) := by rw [hL8]; exact addM_mo L' _
          have hL8l : L8.length ≤ 4097 := by
           have := addM_len L' (⟨g', zqe N, st q b⟩ : MQ)
           have h2 := HnL'.out
           rw [hL8]; omega
          rw [← hL8] at hI8 hrow8
          have hin : ∀ c ∈ bs.take j, st q c ∈ L'.map MQ.mo := fun c hc => by rw [HL'.out]; exact rowQ_mem q _ _ c hc
          have e8 := ents_snoc (step := st) (q := q) (bs := bs.take j) (b := b) hin
          rw [← Htk.out, ← hL8m] at e8
          have hrow9 : Own w8 bw 3 1 encZ (.slice A8 (j + 1) c8) (intsL (entsQ st (bs.take (j + 1)) (L8.map MQ.mo) q)) := by
           rw [e8, intsL_snoc]
           exact hrow8
          have HL8 : Hid (L8.map MQ.mo = rowQ st q (bs.take (j + 1)) (bfsN st bs a0 i)) := Lib.hid (by rw [hL8m, Htk.out, rowQ_snoc, HL'.out])
          rw [← hL8]
          clear hL8 hL8m hin e8 hrow8 hrow3 hg8 hQs hFs hIb hSb hSb0 hBb hI kB hry c14 cb hrow hL10 hokN hnL'c hcapg
          go_wp2_with (fail)
          exact ⟨⟨j + 1, L8, A8, c8, rfl, by omega, rfl, hI8, hbi8, hrow9, HL8, hL8l⟩, by simp only [intOf]; omega⟩
        ·have hjI : ¬ (j : Int) < M := by omega
         obtain rfl : M = j := by omega
         obtain ⟨AF, cF, AE, cE, hdn, hnext⟩ := hI.q.next
         have cd : wr.cell? ⟨gd, 256, none⟩ = some (.slice AN rs.length cN) := blk_d1 hdn
         obtain ⟨r, hr⟩ : ∃ r : RV, r = ⟨A', c', intsL (entsQ st (bs.take M) (L'.map MQ.mo) q)⟩ := ⟨_, rfl⟩
         have hrl8 : r.l.length = M := by
          rw [hr]
          show (intsL _).length = M
          rw [intsL_length]
          unfold entsQ
          rw [List.length_map, List.length_take]
          omega
         have hrC : rowC r = #[.slice A' M c'] := by
          unfold rowC
          rw [hrl8, hr]
         have hrow2 : Own wr bw 3 1 encZ (.slice r.a r.l.length r.c) r.l := by
          rw [hrl8, hr]
          exact hrow
         have Hr := Lib.hid hr
         have HrC := Lib.hid hrC
         have Hnext := Lib.hid hnext
         obtain ⟨nR, hnR⟩ : ∃ y, y = rs.length := ⟨_, rfl⟩
         have hrows := hI.rows
         rw [← hnR] at cd hdn hrows
         have HnR := Lib.hid hnR
         have hp := hI.q.ord
         have hbwr : b0 ≤ wr.heap.size := by omega
         have hnR4 : nR ≤ 4097 := by have := Hrl.out; omega
         clear hr hrl8 hrC hnext hnR hq2 c14 hrow
         go_upto_region 19 with (first
          | (refine wl_bsRow rfl _ rfl A' M c' rfl ?_)
          | (at_builtin; have hrows3 := hrows.then_ (zqc (Below.refl _ _) (.cells #[.slice A' M c'] 47)); refine wl_pushRow rfl _ _ rfl b0 rs r rfl rfl (blk_row HrC.out) hrows3 HnR.out (by rw [← HnR.out]; omega) (by simp; omega) ?_; intro A8 c8 w8 hrows8 hg8; have hQ8 := (hI.q.then_ (zqc (Below.refl _ _) (.cells #[.slice A' M c'] 47))).own hrows3 (Nat.le_refl _) (by decide) (by decide) (by decide) hg8; obtain ⟨AF8, cF8, AE8, cE8, hd8, hnext8⟩ := hQ8.next)
          | (refine wl_store_d1 rfl _ _ rfl gd rfl rfl hd8 ?_; intro w9' hd9 hg9'))
         have hq9 := hnext8 w9' A8 (nR + 1) c8 hg9' hd9
         have hIa := hI.then_ (zqc (Below.refl wr.heap.size wr) (.cells #[.slice A' M c'] 47))
         have hrow3 := hrow2.then_ (zqc (Below.refl wr.heap.size wr) (.cells #[.slice A' M c'] 47))
         have hbw9 : b0 ≤ w9'.heap.size := Nat.le_trans hbwr (Nat.le_trans (zqc (Below.refl wr.heap.size wr) (.cells #[.slice A' M c'] 47)).size (Nat.le_trans hg8.size hg9'.size))
         rw [HnR.out] at hq9 hg8 hrows8
         have hI9 := hIa.addRow hrow3 hbw HroL.out hg8 hrows8 hg9' hq9
         obtain ⟨hl0, hq0⟩ := List.getElem?_eq_some_iff.1 HQ.out
         have hbsM : bs.take M = bs := List.take_of_length_le (by omega)
         have hL9 : L'.map MQ.mo = bfsN st bs a0 (i + 1) := by rw [bfs_succ hl0, hq0, HL'.out, hbsM]
         have hR9 : (rs ++ [r]).map (·.l) = (rowsQ st bs a0 (i + 1)).map intsL := by
          rw [rows_succ hl0, List.map_append, List.map_append, HRo.out, hq0, ← hL9, Hr.out, hbsM]
          rfl
         have hi9 : i + 1 ≤ L'.length := by
          have h1 := bfs_len (step := st) (bs := bs) a0 (Nat.le_succ i)
          rw [← hL9, List.length_map] at h1
          omega
         have HL9 := Lib.hid hL9
         have HR9 := Lib.hid hR9
         rw [HnL'.out] at hL'
         clear hq9 hIa hrow3 hg8 hg9' hd9 hd8 hnext8 hQ8 hrows8 hrows3 hrows hdn cd hl0 hq0 hbsM hL9 hR9 hI hrow2 hp
         simp only [Act.put]
         go_wp2_with (fail)
         exact ⟨⟨i + 1, L', rs ++ [r], A8, c8, rfl, hI9, hbw9, HL9, HR9, hi9, hL'⟩, by simp only [intOf]; omega⟩
      ·have hiI : ¬ (i : Int) < nL := by omega
       have hin : i = nL := by omega
       have hdone : Done st bs a0 i := by
        show (bfsN st bs a0 i).length = i
        rw [← HLb.out, hin]
       have Hdone := Lib.hid hdone
       have hres := hI.res
       have hbel := hI.bel
       have Hg4 := Lib.hid (And.intro hI.ord.1 hI.ord.2.2.2)
       obtain ⟨x, hxf, hxrs, hxfo, hxen, hxb, hxO⟩ := hI.tab
       have hp := hI.q.ord
       have hordd := hI.ord
       have Hx := Lib.hid (And.intro hxf (And.intro hxrs (And.intro hxfo hxen)))
       clear hI hxf hxrs hxfo hxen hdone
       by_cases hcap : mm < (nL : Int)
       ·have hcapg : (nL : Int) > mm := hcap
        have Hbel := Lib.hid hbel
        have Hcap := Lib.hid hcap
        clear hcap hbel hxb hxO
        go_wp2_with (first
         | (refine wl_build_dfa0 rfl rfl ?_)
         | (refine zyg rfl _ _ rfl (g2 + 1) rfl rfl hres ?_; intro w6 h46 hg6))
        try rw [Exit.noGoto_ret]
        refine ret_dfa rfl rfl h46 rfl ?_
        refine ⟨.inr (.inr ⟨Hb.out.symm, fun k hk => ?_, rfl⟩), zqh Hbel.out hg6 (by have := Hg2.out; omega)⟩
        rw [Int.toNat_natCast, ← HbsE.out, ← Hst.out, ← Ha0.out] at hk
        have h1 := hk.one Hdone.out
        rw [← Hmm.out]
        have h2 := Hcap.out
        omega
       ·have hcapg : ¬ (nL : Int) > mm := hcap
        have Hbel := Lib.hid hbel
        have Hcap := Lib.hid hcap
        have HxO := Lib.hid hxO
        unfold TV.C' at hxb
        clear hcap hbel hxO
        go_wp2_with (first
         | (refine wl_load_dfa rfl _ rfl gd rfl hxb ?_)
         | (refine zyg rfl _ _ rfl (g2 + 1) rfl rfl hres ?_; intro w6 h46 hg6))
        try rw [Exit.noGoto_ret]
        refine ret_dfa rfl rfl h46 rfl ?_
        have hb0w : w.heap.size ≤ b0 := by omega
        refine ⟨.inr (.inl ⟨Hb.out.symm, i, x, ?_, ?_, rfl, ?_, (HxO.out.low hg6 (by omega)).mono hb0w⟩), zqh Hbel.out hg6 (by have := Hg2.out; omega)⟩
        ·rw [Int.toNat_natCast, ← HbsE.out, ← Hst.out, ← Ha0.out]
         exact Hdone.out
        ·rw [← Hmm.out]
         have h2 := Hcap.out
         omega
        ·rw [Int.toNat_natCast]
         unfold tabQ TV.T
         rw [← HbsE.out, ← Hst.out, ← Ha0.out, Hx.out.1, Hx.out.2.1, Hx.out.2.2.1, Hx.out.2.2.2, HRo.out, ← HL.out, List.map_map, List.map_map, Hf.out]
         rfl
theorem bits_upto {x y N : Nat} (hx : below x N) (hy : below y N) (h : ∀ i, i < N → x.testBit i = y.testBit i) : x = y := by
 apply Nat.eq_of_testBit_eq
 intro i
 by_cases hi : i < N
 ·exact h i hi
 ·have h1 : x.testBit i = false := by
   cases e : x.testBit i with
   | false => rfl
   | true => exact absurd (hx i e) hi
  have h2 : y.testBit i = false := by
   cases e : y.testBit i with
   | false => rfl
   | true => exact absurd (hy i e) hi
  rw [h1, h2]
section
variable {ops : Array Oper} {rest : List Oper} {o : Oper} {a : Act} {w : World} {Q : Exit → Act → World → Prop}
end
section
variable {w0 : World} {b0 gd gz g2 N M : Nat} {f : Nat → Int} {E : List Edg} {R : List Nat} {A : Option Addr} {n c : Nat} {B : Option Addr} {m d : Nat} {x : TV} {L : List MQ} {AQ : Option Addr} {cQ : Nat} {W W1 W2 : World} {A' : Option Addr} {c' : Nat}
theorem TOwn.rows0 {xr : List Int} {xf : List Nat} {base : Nat} (h : TOwn W base x xr xf []) : Own W base 47 1 rowC (.slice x.A x.rs.length x.c) x.rs := by
 have h0 := h.rows
 simp only [List.length_nil, Nat.add_zero, List.append_nil] at h0
 exact h0
end
section
variable {α : Type} [BEq α] [LawfulBEq α] {l : List α} {z : α} {k : Nat}
end
theorem run_snoc (A : Au) (s : Nat) (u : List Nat) (c : Nat) : A.run s (u ++ [c]) = A.go (A.run s u) c := by
 induction u generalizing s with
 | nil => rfl
 | cons x u ih => exact ih (A.go s x)
theorem en_cells {x : TV} {w : World} (hT : TabIn w w.heap.size x) (h : 0 < x.en.length) : ∃ b off, x.C = some ⟨b, off, none⟩ ∧ ∀ {X : World}, Below w.heap.size w X → ∀ t, t < x.en.length → X.cell? ⟨b, off + t * 1, none⟩ = some (.int .u32 ((x.en.getD t 0 : Nat) : Int)) := by
 obtain ⟨b, off, e, hb, hr⟩ := hT.en.at_ h
 exact ⟨b, off, e, fun hB t ht => by
  have := cell_keep (hr t ht 0 _ rfl) hb hB
  rw [getD_at x.en 0 ht]
  exact this⟩
theorem nx_cells {x : TV} (hF : s_Fits x.T) {w : World} (hT : TabIn w w.heap.size x) {s b : Nat} (hs : s < x.rs.length) (hb : b < 256) : ∃ bN oN bR oR m nr cr : Nat, x.A = some ⟨bN, oN, none⟩ ∧ x.f b = (m : Int) ∧ m < nr ∧ m < 256 ∧ nr ≤ 256 ∧
  (∀ {X : World}, Below w.heap.size w X → X.cell? ⟨bN, oN + s * 1, none⟩ = some (.slice (some ⟨bR, oR, none⟩) nr cr)) ∧ (∀ {X : World}, Below w.heap.size w X → X.cell? ⟨bR, oR + m * 1, none⟩ = some (.int .i64 ((x.T.au.go s b : Nat) : Int))) := by
 obtain ⟨c, hcf, hcm, hcl, hgo⟩ := fits_go hF hs hb
 obtain ⟨bN, oN, hA, hbN, cN⟩ := hT.rowAt hs
 have hrow := hT.row _ (List.getElem_mem hs)
 obtain ⟨bR, oR, hRa, hbR, cR⟩ := slice_cell hrow hcl (v := .int .i64 ((x.T.au.go s b : Nat) : Int)) (by rw [← hgo]; rfl)
 rw [hRa] at cN
 have h2 := hF.m2
 have h3 := fits_row hF hs
 exact ⟨bN, oN, bR, oR, c, _, _, hA, hcf, hcl, by omega, by omega, fun hB => cell_keep cN hbN hB, fun hB => cell_keep cR hbR hB⟩
theorem index_cls8 (b off m : Nat) (hm : m < 256) (w : World) : (Instr.indexAt 30 (.pointer (some ⟨b, off, none⟩)) (.int .u8 m)).run Tryz.prog w = .ok (.pointer (some ⟨b, off + m * 1, none⟩)) w := by
 have e := run_indexAt_array (P := Tryz.prog) w 30 ⟨b, off, none⟩ .u8 (m : Int) under_cls
 rw [if_pos ⟨by omega, by rw [len_cls]; omega⟩, size_clsE] at e
 simp only [Int.toNat_natCast, Result.andThen_ok, addr_add] at e
 exact e
theorem gs_index_arr8 {ops : Array Oper} {S : Nat → GSpec} {Q : Exit → Act → World → Prop} {i : Nat} {o : Oper} {a : Act} {w : World} (hw : Region.wanted o (yielded ops a.tmps) = true) (x ix : Operand) (ho : o.op = .indexAddr 30 x ix) (b m : Nat) (hx : a.eval x = .pointer (some ⟨b, 0, none⟩)) (hi : a.eval ix = .int .u8 m) (hm : m < 256)
  (hp : (S i).p (.pointer (some ⟨b, 0 + m * 1, none⟩)) w) : GStep Tryz.prog ops S Q i o a w :=
 zzx hw (v := .pointer (some ⟨b, 0 + m * 1, none⟩)) (by
  unfold execOp
  simp only [ho, hx, hi, Sem.run_bind, index_cls8 b 0 m hm, Result.andThen_ok, Sem.run_pure]) (Below.refl _ _) hp
def bytesN (q : ByteArray) : List Nat := (List.range q.size).map (Ere.chr q)
def endOf (x : TV) (q : ByteArray) : Nat := x.en.getD (x.T.au.run 0 (bytesN q)) 0
noncomputable def runV (x : TV) (q : ByteArray) : Value := if fitsB x.T = true then .tuple #[.int .u32 ((endOf x q : Nat) : Int), .int .i64 0] else .tuple #[.int .u32 0, .int .i64 70]
theorem runV_yes {x : TV} (h : fitsB x.T = true) (q : ByteArray) : runV x q = .tuple #[.int .u32 ((endOf x q : Nat) : Int), .int .i64 0] := if_pos h
theorem runV_no {x : TV} (h : fitsB x.T = false) (q : ByteArray) : runV x q = .tuple #[.int .u32 0, .int .i64 70] := if_neg (by rw [h]; decide)
theorem fits_yes {T : Tb} (h : fitsB T = true) : s_Fits T := by
 unfold fitsB at h
 exact @of_decide_eq_true _ (Classical.propDecidable _) h
set_option maxRecDepth 100000 in
set_option maxHeartbeats 4000000 in
theorem srun_any (x : TV) (q : ByteArray) (hq : q.size ≤ 1099511627776) (w : World) (hT : TabIn w w.heap.size x) :
  Calls Tryz.prog 12 #[.agg x.C', .string q] w fun e w' => e = .returned (runV x q) ∧ Below w.heap.size w w' := by
 have hR1 : ∀ W' : World, Below w.heap.size w W' → Calls Tryz.prog 9 #[.agg x.C'] W' fun e w2 => e = .returned (.bool (fitsB x.T)) ∧ Below W'.heap.size W' w2 := fun W' hB => s_right_any x W' (hT.then_ hB)
 obtain ⟨yes, hyes⟩ : ∃ b, b = fitsB x.T := ⟨_, rfl⟩
 rw [← hyes] at hR1
 cases yes with
 | false =>
   rw [runV_no hyes.symm]
   clear hyes
   unfold TV.C' at hR1 ⊢
   go_enter Tryz.func12, Tryz.ntmps12
   have hd := Blk.new w 33 (dfaC x.f x.A x.rs.length x.c x.B x.fo.length x.d x.C x.en.length x.e)
   have hB1 := zqc (Below.refl w.heap.size w) (.cells (dfaC x.f x.A x.rs.length x.c x.B x.fo.length x.d x.C x.en.length x.e) 33)
   go_upto_region 1 with (fail)
   obtain ⟨w1, hw1⟩ : ∃ y, y = w.alloc (.cells (dfaC x.f x.A x.rs.length x.c x.B x.fo.length x.d x.C x.en.length x.e) 33) := ⟨_, rfl⟩
   rw [← hw1] at hd hB1 ⊢
   clear hw1
   obtain ⟨gd, hgd⟩ : ∃ g, g = w.heap.size := ⟨_, rfl⟩
   rw [← hgd] at hd ⊢
   clear hgd
   have hc := hR1 w1 hB1
   clear hR1
   go_wp2_with (first | (refine wl_load_dfa rfl _ rfl gd rfl hd ?_) | (go_at_call 9; refine hc.mono ?_; rintro e w2 ⟨rfl, hB2⟩))
   go_ret2
   exact ⟨rfl, zqd hB1 hB2⟩
 | true =>
 have hF : s_Fits x.T := fits_yes hyes.symm
 rw [runV_yes hyes.symm]
 clear hyes
 have nx1 : 1 ≤ x.rs.length := by have := hF.n1; rwa [fits_n] at this
 have eex : x.en.length = x.rs.length := by have := hF.ne; rwa [fits_n] at this
 have hAn : x.T.au.n = x.rs.length := fits_au
 obtain ⟨bE, oE, hEx, cex⟩ := en_cells hT (by omega)
 replace hAn := Lib.hid hAn
 replace hEx := Lib.hid hEx
 replace eex := Lib.hid eex
 unfold TV.C' at hR1 ⊢
 go_enter Tryz.func12, Tryz.ntmps12
 have hd := Blk.new w 33 (dfaC x.f x.A x.rs.length x.c x.B x.fo.length x.d x.C x.en.length x.e)
 have hB1 := zqc (Below.refl w.heap.size w) (.cells (dfaC x.f x.A x.rs.length x.c x.B x.fo.length x.d x.C x.en.length x.e) 33)
 go_upto_region 1 with (fail)
 obtain ⟨w1, hw1⟩ : ∃ y, y = w.alloc (.cells (dfaC x.f x.A x.rs.length x.c x.B x.fo.length x.d x.C x.en.length x.e) 33) := ⟨_, rfl⟩
 rw [← hw1] at hd hB1 ⊢
 clear hw1
 obtain ⟨gd, hgd⟩ : ∃ g, g = w.heap.size := ⟨_, rfl⟩
 rw [← hgd] at hd ⊢
 clear hgd
 have hc := hR1 w1 hB1
 clear hR1
 go_upto_region 3 with (first | (refine wl_load_dfa rfl _ rfl gd rfl hd ?_) | (go_at_call 9; refine hc.mono ?_; rintro e w2 ⟨rfl, hB2⟩))
 clear hc
 replace hd := zqb hd hB2
 replace hB1 := zqd hB1 hB2
 clear hB2
 go_wp2_with (fail)
 go_loopw [13, 6] (fun iv sv wr => ∃ i s : Nat, i ≤ q.size ∧ iv = .int .i64 i ∧ sv = .int .i64 s ∧ s < x.rs.length ∧ x.T.au.run 0 ((List.range i).map (Ere.chr q)) = s ∧ Below w.heap.size w wr ∧ Blk wr gd 33 (dfaC x.f x.A x.rs.length x.c x.B x.fo.length x.d x.C x.en.length x.e)) (fun iv _ _ => q.size - (intOf iv).toNat)
 case atStart => exact ⟨0, 0, by omega, rfl, rfl, by omega, rfl, hB1, hd⟩
 case round =>
  clear hB1 hd
  obtain ⟨i, s, hi, rfl, rfl, hs, hrun, hB1, hd⟩ := hrel
  replace hrun := Lib.hid hrun
  by_cases hil : i < q.size
  ·have hilI : (i : Int) < q.size := by omega
   go_upto_region 7 with (fail)
   obtain ⟨bN, oN, bR, oR, m, nr, cr, hAx, hfm, hmn, _, _, cN, cR⟩ := nx_cells hF hT hs (Ere.chr_lt q i)
   obtain ⟨u, hu⟩ : ∃ u, x.T.au.go s (Ere.chr q i) = u := ⟨_, rfl⟩
   rw [hu] at cR
   have hu2 : u < x.rs.length := by rw [← hu, ← hAn.out]; exact hF.ok.lt _ _ (by rw [hAn.out]; exact hs) (Ere.chr_lt q i)
   have hrun2 : x.T.au.run 0 ((List.range (i + 1)).map (Ere.chr q)) = u := by
    rw [List.range_succ]
    simp only [List.map_append, List.map_cons, List.map_nil]
    rw [run_snoc, hrun.out, hu]
   replace hrun2 := Lib.hid hrun2
   clear hu hrun
   refine zql 13 [eqS (.pointer (some ⟨gd, 256, none⟩)), eqS (.slice (some ⟨bN, oN, none⟩) x.rs.length x.c), eqS (.int .i64 (((s : Nat) : Int))), eqS (.pointer (some ⟨bN, oN + s * 1, none⟩)), eqS (.slice (some ⟨bR, oR, none⟩) nr cr), eqS (.string q), eqS (.int .i64 (((i : Nat) : Int))), eqS (.int .u8 (((Ere.chr q i : Nat) : Int))), eqS (.pointer (some ⟨gd, 0, none⟩)), eqS (.pointer (some ⟨gd, 0 + (Ere.chr q i) * 1, none⟩)), eqS (.int .i64 (((m : Nat) : Int))), eqS (.pointer (some ⟨bR, oR + m * 1, none⟩)), eqS (.int .i64 (((u : Nat) : Int)))] [16, 17, 18, 19, 20, 21, 22, 23, 24, 25, 26, 27, 28] rfl (by kernel_rfl) rfl ?_ ?_
   ·skip
    refine Steps.cons (fun a' w' hG hB dep => zqn (zqa rfl) _ _ _ rfl gd (0) (256) (hG.other 2 rfl) (fun wz => field_dfa_1 gd (0) wz) rfl) ?_
    refine Steps.cons (fun a' w' hG hB dep => zqj (zqa rfl) _ _ rfl gd (256) (dep 0 rfl 16 rfl) (.slice (some ⟨bN, oN, none⟩) x.rs.length x.c) (by have h9 := blk_d1 (zqb hd hB); rw [hAx] at h9; exact h9) _ Tryz.underlying31 rfl rfl) ?_
    refine Steps.cons (fun a' w' hG hB dep => zqi (zqa rfl) _ rfl (id (hG.other 6 rfl))) ?_
    refine Steps.cons (fun a' w' hG hB dep => zxu (zqa rfl) _ _ _ rfl under_rows 1 size_rowE bN oN x.rs.length x.c (s) (dep 1 rfl 17 rfl) (dep 2 rfl 18 rfl) hs rfl) ?_
    refine Steps.cons (fun a' w' hG hB dep => zqj (zqa rfl) _ _ rfl bN (oN + s * 1) (dep 3 rfl 19 rfl) (.slice (some ⟨bR, oR, none⟩) nr cr) (cN (zqd hB1 hB)) _ Tryz.underlying47 rfl rfl) ?_
    refine Steps.cons (fun a' w' hG hB dep => zqi (zqa rfl) _ rfl (id (hG.other 1 rfl))) ?_
    refine Steps.cons (fun a' w' hG hB dep => zqi (zqa rfl) _ rfl (id (hG.other 7 rfl))) ?_
    refine Steps.cons (fun a' w' hG hB dep => gs_index_str (zqa rfl) _ _ rfl q i (dep 5 rfl 21 rfl) (dep 6 rfl 22 rfl) hil rfl) ?_
    refine Steps.cons (fun a' w' hG hB dep => zqn (zqa rfl) _ _ _ rfl gd (0) (0) (hG.other 2 rfl) (fun wz => field_dfa_0 gd (0) wz) rfl) ?_
    refine Steps.cons (fun a' w' hG hB dep => gs_index_arr8 (zqa rfl) _ _ rfl gd (Ere.chr q i) (dep 8 rfl 24 rfl) (dep 7 rfl 23 rfl) (Ere.chr_lt q i) rfl) ?_
    refine Steps.cons (fun a' w' hG hB dep => zqj (zqa rfl) _ _ rfl gd (0 + (Ere.chr q i) * 1) (dep 9 rfl 25 rfl) (.int .i64 (((m : Nat) : Int))) (by have h9 := blk_cls (zqb hd hB) (Ere.chr_lt q i); rw [hfm] at h9; exact h9) _ Tryz.underlying3 rfl rfl) ?_
    refine Steps.cons (fun a' w' hG hB dep => zxu (zqa rfl) _ _ _ rfl under_ints 1 size_intE bR oR nr cr (m) (dep 4 rfl 20 rfl) (dep 10 rfl 26 rfl) hmn rfl) ?_
    refine Steps.cons (fun a' w' hG hB dep => zqj (zqa rfl) _ _ rfl bR (oR + m * 1) (dep 11 rfl 27 rfl) (.int .i64 (((u : Nat) : Int))) (cR (zqd hB1 hB)) _ Tryz.underlying3 rfl rfl) ?_
    exact Steps.nil
   intro uu wa hwa ans
   have hus28 : uu 28 = (.int .i64 ((u : Nat) : Int)) := ans 12 28 (by decide) rfl
   clear ans
   simp only [zqr, List.foldl_cons, List.foldl_nil, Act.put, List.setIfInBounds_toArray, List.set_cons_zero, List.set_cons_succ, hus28]
   clear hus28
   simp only [List.drop]
   replace hd := zqb hd hwa
   replace hB1 := zqd hB1 hwa
   clear hwa cN cR hAx hfm hmn
   go_wp2_with (fail)
   exact ⟨⟨i + 1, u, by omega, rfl, rfl, hu2, hrun2.out, hB1, hd⟩, by simp only [intOf]; omega⟩
  ·have hilI : ¬ (i : Int) < q.size := by omega
   have hie : i = q.size := by omega
   have hrr : x.T.au.run 0 (bytesN q) = s := by rw [← hrun.out, hie]; rfl
   have hse : s < x.en.length := by rw [eex.out]; exact hs
   have cE : wr.cell? ⟨gd, 258, none⟩ = some (.slice (some ⟨bE, oE, none⟩) x.en.length x.e) := by rw [← hEx.out]; exact blk_d3 hd
   have cV := cex hB1 s hse
   rw [Nat.mul_one] at cV
   have hseI : (s : Int) < x.en.length := by omega
   obtain ⟨v, hv⟩ : ∃ v, x.en.getD s 0 = v := ⟨_, rfl⟩
   rw [hv] at cV
   have hev : endOf x q = v := by unfold endOf; rw [hrr, hv]
   replace hev := Lib.hid hev
   clear hv hrr
   clear hrun hie
   go_wp2_with (fail)
   go_ret2
   refine ⟨?_, hB1⟩
   rw [hev.out]
   rfl
theorem enter_srun (args : Array Value) (w : World) : (callFunc 12 args).run Tryz.prog w = .ok (.enter 12 args) w := by kernel_rfl
end Go.Proofs.YtkedgombccdamaaGreatDoor
namespace Go.Proofs.YtkedgombccdamaaGreatDoor
set_option linter.unusedVariables false
set_option linter.unusedSimpArgs false
def st97 : BSet := BitVec.twoPow 256 97
def e97 : Edg := ⟨2, 0, 1, st97⟩
theorem st97_bit (b : Nat) : st97.getLsbD b = decide (b = 97) := by
 unfold st97
 rw [BitVec.getLsbD_twoPow]
 by_cases h : b = 97
 ·subst h; rfl
 ·have : ¬ 97 = b := fun e => h e.symm
  simp [h, this]
theorem sets97 : setsL [e97] = [st97] := by
 show stepS [] e97 = _
 unfold stepS
 rw [if_pos ⟨rfl, by simp⟩]
 rfl
theorem e97_in : ∀ d ∈ [e97], 0 ≤ d.tt ∧ d.tt < ((2 : Nat) : Int) := fun d hd => by
 rw [List.mem_singleton] at hd; subst hd; decide
theorem e97_free (b e : Bool) : ∀ d ∈ [e97], may b e d = false := fun d hd => by
 rw [List.mem_singleton] at hd; subst hd; cases b <;> cases e <;> rfl
theorem below2 {x : Nat} (h : x < 4) : below x 2 := fun i hi => by
 rcases Nat.lt_or_ge i 2 with h2 | h2
 ·exact h2
 ·exfalso
  have h3 : 2 ^ 2 ≤ 2 ^ i := Nat.pow_le_pow_right (by omega) h2
  have h4 : x < 2 ^ i := by omega
  rw [Nat.testBit_lt_two_pow h4] at hi
  cases hi
theorem byte97 (x c : Nat) : byteN [e97] 2 x c = if x.testBit 0 = true ∧ c = 97 then 3 else 1 := by
 refine bits_upto (byte_below _ _ _ _) (below2 (by split <;> decide)) fun i hi => ?_
 have hb := byte_bit [e97] 2 x c i
 have e : ((∃ d ∈ [e97], d.kd = 2 ∧ x.testBit d.fr.toNat = true ∧ d.st.getLsbD c = true ∧ d.tt.toNat = i)) ↔ (x.testBit 0 = true ∧ c = 97 ∧ i = 1) := by
  constructor
  ·rintro ⟨d, hd, h1, h2, h3, h4⟩
   rw [List.mem_singleton] at hd
   subst hd
   rw [show e97.st = st97 from rfl, st97_bit] at h3
   exact ⟨h2, of_decide_eq_true h3, h4.symm⟩
  ·rintro ⟨h1, h2, h3⟩
   exact ⟨e97, List.mem_singleton.2 rfl, rfl, h1, by rw [show e97.st = st97 from rfl, st97_bit]; exact decide_eq_true h2, h3.symm⟩
 rw [e] at hb
 by_cases hc : x.testBit 0 = true ∧ c = 97
 ·rw [if_pos hc]
  have : i = 0 ∨ i = 1 := by omega
  rcases this with rfl | rfl
  ·exact hb.2 ⟨hi, .inl rfl⟩
  ·exact hb.2 ⟨hi, .inr ⟨hc.1, hc.2, rfl⟩⟩
 ·rw [if_neg hc]
  have : i = 0 ∨ i = 1 := by omega
  rcases this with rfl | rfl
  ·exact hb.2 ⟨hi, .inl rfl⟩
  ·rw [show Nat.testBit 1 1 = false from rfl]
   cases h : (byteN [e97] 2 x c).testBit 1 with
   | false => rfl
   | true =>
     exfalso
     rcases (hb.1 h).2 with h1 | h1
     ·omega
     ·exact hc ⟨h1.1, h1.2.1⟩
theorem spread97 {b e : Bool} {x : Nat} (h : x < 4) : zzf [e97] 2 b e x = x := spread_none e97_in (e97_free b e) (below2 h)
theorem mo97 {x : Nat} (met : Nat) (b : Bool) (h : x < 4) (h1 : x ||| 1 = x) : moN [e97] 2 [0, 1] x met b = ⟨x, met ||| metN [0, 1] x 2, (met ||| metN [0, 1] x 2) ||| metN [0, 1] x 2⟩ := by
 unfold moN
 rw [h1, spread97 h, spread97 h]
def stp97 (q : Mo) (b : Nat) : Mo := if q.at_.testBit 0 = true ∧ b = 97 then ⟨3, q.met ||| 1, q.met ||| 1 ||| 1⟩ else ⟨1, q.met ||| 0, q.met ||| 0 ||| 0⟩
theorem step97 : stepM [e97] 2 [0, 1] = stp97 := by
 funext q b
 unfold stepM stp97
 rw [byte97]
 by_cases h : q.at_.testBit 0 = true ∧ b = 97
 ·rw [if_pos h, if_pos h, mo97 _ _ (by decide) (by decide)]
  rfl
 ·rw [if_neg h, if_neg h, mo97 _ _ (by decide) (by decide)]
  rfl
theorem first97 : mo0 [e97] 2 [0, 1] = ⟨1, 0, 0⟩ := by
 unfold mo0
 have e : moN [e97] 2 [0, 1] 0 0 true = moN [e97] 2 [0, 1] 1 0 true := by
  unfold moN
  rw [show (0 ||| 1 : Nat) = 1 from rfl, show (1 ||| 1 : Nat) = 1 from rfl]
 rw [e, mo97 _ _ (by decide) (by decide)]
 rfl
theorem sig97 : sig [st97] = fun b => [decide (b = 97)] := by
 funext b
 unfold sig
 rw [List.map_cons, List.map_nil, st97_bit]
theorem firsts97 : ∀ n, zza (fun b => [decide (b = 97)]) n = if n = 0 then [] else if n ≤ 97 then [[false]] else [[false], [true]]
 | 0 => rfl
 | n + 1 => by
   rw [zxc, firsts97 n]
   by_cases h0 : n = 0
   ·subst h0; rfl
   ·rw [if_neg h0, if_neg (Nat.succ_ne_zero n)]
    by_cases h1 : n ≤ 97
    ·rw [if_pos h1]
     by_cases h2 : n = 97
     ·subst h2; rfl
     ·rw [if_pos (show n + 1 ≤ 97 by omega)]
      simp [h2]
    ·rw [if_neg h1, if_neg (show ¬ n + 1 ≤ 97 by omega)]
     have : ¬ n = 97 := by omega
     simp [this]
theorem many97 : many (setsL [e97]) = 2 := by
 rw [sets97]
 unfold many
 rw [sig97, firsts97]
 rfl
theorem cls97 : cls (setsL [e97]) = fun b => if b = 97 then 1 else 0 := by
 rw [sets97]
 funext b
 unfold cls num
 rw [sig97, firsts97, if_neg (Nat.succ_ne_zero b)]
 by_cases h : b = 97
 ·subst h; rfl
 ·by_cases h1 : b + 1 ≤ 97
  ·rw [if_pos h1]
   simp [h]
  ·rw [if_neg h1]
   simp [h]
set_option maxRecDepth 20000 in
theorem reps97 : repE [e97] = [0, 97] := by
 unfold repE
 rw [many97, cls97]
 decide
theorem done97 : Done (stepM [e97] 2 [0, 1]) (repE [e97]) (mo0 [e97] 2 [0, 1]) 3 := by
 rw [step97, reps97, first97]
 show (bfsN stp97 [0, 97] ⟨1, 0, 0⟩ 3).length = 3
 decide
def tab97 : Tb := ⟨fun b => if b = 97 then 1 else 0, [[0, 1], [2, 1], [2, 1]], [0, 1, 1], [0, 1, 1]⟩
theorem tabQ97 : tabQ [e97] 2 [0, 1] (clsE [e97]) (repE [e97]) 3 = tab97 := by
 unfold tabQ clsE
 rw [step97, reps97, first97, cls97]
 rfl
theorem right97 : rightB 2 [e97] 2 = true := by decide
theorem fits97 : s_Fits tab97 :=
 ⟨by decide, by decide, by decide, by decide, by decide, by decide, fun b hb => by
  show 0 ≤ (if b = 97 then (1 : Int) else 0) ∧ (if b = 97 then (1 : Int) else 0) < _
  split <;> decide, by decide, by decide, fun s c hs hc => (show ∀ s, s < 3 → ∀ c, c < 2 → 0 ≤ tab97.nxt s ((c : Nat) : Int) ∧ tab97.nxt s ((c : Nat) : Int) < ((3 : Nat) : Int) ∧ tab97.fo.getD s 0 &&& tab97.fo.getD (tab97.nxt s ((c : Nat) : Int)).toNat 0 = tab97.fo.getD s 0 by decide) s hs c hc⟩
theorem fitsB97 : fitsB tab97 = true := by
 unfold fitsB
 exact @decide_eq_true _ (Classical.propDecidable _) fits97
theorem fitsB0 (f : Nat → Int) : fitsB ⟨f, [], [], []⟩ = false := by
 unfold fitsB
 refine @decide_eq_false _ (Classical.propDecidable _) (fun h => ?_)
 have := h.n1
 simp at this
theorem run97 : tab97.au.run 0 [120, 97, 120] = 2 ∧ tab97.au.run 0 [120] = 0 := by decide
end Go.Proofs.YtkedgombccdamaaGreatDoor
