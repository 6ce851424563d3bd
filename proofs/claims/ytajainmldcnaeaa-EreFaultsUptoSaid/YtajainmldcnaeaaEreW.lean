/- ere: alternatives' pieces. No condition beyond those named in each lemma. -/
import Derived.Test.YtajainmldcnaeaaEreV
namespace Go.Proofs.Ytajainmldcnaeaa
open Go.RowKit Go.Maps
set_option linter.unusedVariables false
set_option linter.unusedSimpArgs false
attribute [local go_sem] Oper.semAt_some

namespace Ere
theorem altR_fwd {p : ByteArray} {top : Bool} {pc : Nat → Res Nd} (hpc : ∀ i t j, i < p.size → pc i = .got t j → i < j ∧ j ≤ p.size) : ∀ n i l t j, i ≤ p.size → altR p top pc n i l = .got t j → i ≤ j ∧ j ≤ p.size
  | 0, _, _, _, _, _, h => by cases h
  | n + 1, i, l, t, j, hi, h => by
    unfold altR at h
    split at h
    · injection h with _ h; omega
    · rename_i h1
      simp only [Bool.or_eq_true, decide_eq_true_eq, not_or] at h1
      split at h
      · split at h
        · cases h
        · injection h with _ h; omega
      · cases hc : pc i with
        | fault e k => rw [hc] at h; cases h
        | got u k =>
          rw [hc] at h
          have h2 := hpc i u k (by omega) hc
          have h3 := altR_fwd hpc n k (l ++ [u]) t j h2.2 h
          omega
theorem patL_fwd {p : ByteArray} {al : Nat → Res Nd} (hal : ∀ i t j, i ≤ p.size → al i = .got t j → i ≤ j ∧ j ≤ p.size) : ∀ n i l t j, i ≤ p.size → patL p al n i l = .got t j → i ≤ j ∧ j ≤ p.size
  | 0, _, _, _, _, _, h => by cases h
  | n + 1, i, l, t, j, hi, h => by
    unfold patL at h
    cases hc : al i with
    | fault e k => rw [hc] at h; cases h
    | got u k =>
      rw [hc] at h
      simp only [Res.bind] at h
      have h2 := hal i u k hi hc
      split at h
      · rename_i h4
        have := isAt_lt h4
        have h3 := patL_fwd hal n (k + 1) (l ++ [u]) t j (by omega) h
        omega
      · injection h with _ h
        omega
theorem patR_fwd {p : ByteArray} : ∀ n i t j, i ≤ p.size → patR p n i = .got t j → i ≤ j ∧ j ≤ p.size
  | 0, i, t, j, hi, h => by
    unfold patR at h
    exact patL_fwd (fun i t j hi h => altR_fwd (fun i t j hi h => pieceR_fwd (fun f e => by cases e) h hi) _ _ _ _ _ hi h) _ _ _ _ _ hi h
  | n + 1, i, t, j, hi, h => by
    unfold patR at h
    exact patL_fwd (fun i t j hi h => altR_fwd (fun i t j hi h => pieceR_fwd (fun f e => by injection e with e; subst e; exact fun i t j hi h => patR_fwd n i t j hi h) h hi) _ _ _ _ _ hi h) _ _ _ _ _ hi h
end Ere
def slLen (v : Value) : Nat := match v with
  | .slice _ n _ => n
  | _ => 0
theorem Mx.grown {w w' : World} {row : Option Nat} (h : Mx w) (hg : w.grownBy w' row) (h0 : row ≠ some 0) : Mx w' := by
  obtain ⟨m, hm⟩ := h
  have h1 : 0 < w.heap.size := by
    rcases Nat.eq_zero_or_pos w.heap.size with e | e
    · unfold World.cell? at hm
      simp [Array.getElem?_eq_none (show w.heap.size ≤ 0 by omega)] at hm
    · exact e
  exact ⟨m, (World.cell?_of_block (w := w) (hg.block 0 h1 (fun e => h0 e.symm))).trans hm⟩
set_option maxRecDepth 100000 in
set_option maxHeartbeats 8000000 in
theorem alt_any (n gr : Nat) (hgr : gr + n = 64) (inner : Option (Nat → Ere.Res Nd)) (g : Nat) (p : ByteArray) (i : Nat) (hin : match n with
      | 0 => inner = none
      | n + 1 => PatOk p n ∧ inner = some (Ere.patR p n) ∧ ∀ i t j, i ≤ p.size → Ere.patR p n i = .got t j → i ≤ j ∧ j ≤ p.size) (w : World) (hP : Blk w g 76 (rdC p i)) (hi : i ≤ p.size) (hp : p.size ≤ 1024) (hM : Mx w) (h0 : 0 < g) :
    Calls Try.prog 56 #[.pointer (some ⟨g, 0, none⟩), .int .i64 (gr : Int)] w fun e w' => NdAns g p w w.heap.size (Ere.altR p (decide (gr = 0)) (Ere.pieceR p inner) (p.size + 2) i []) e w' := by
  obtain ⟨r, hr0⟩ : ∃ r, Ere.altR p (decide (gr = 0)) (Ere.pieceR p inner) (p.size + 2) i [] = r := ⟨_, rfl⟩
  rw [hr0]
  have hinf : ∀ f, inner = some f → ∀ i t j, i ≤ p.size → f i = .got t j → i ≤ j ∧ j ≤ p.size := by
    intro f hf
    cases n with
    | zero => rw [hin] at hf; cases hf
    | succ n => rw [hin.2.1] at hf; injection hf with hf; subst hf; exact hin.2.2
  have kPc := fun (i : Nat) (w : World) (hP : Blk w g 76 (rdC p i)) (hi : i < p.size) (hM : Mx w) => piece_any n gr hgr inner g p i hin w hP hi hp hM h0
  have hfwp := fun (i : Nat) (t : Nd) (j : Nat) (hi : i < p.size) (h : Ere.pieceR p inner i = .got t j) => Ere.pieceR_fwd hinf h hi
  obtain ⟨pc, hpc⟩ : ∃ f, Ere.pieceR p inner = f := ⟨_, rfl⟩
  rw [hpc] at hr0 kPc hfwp
  clear hpc hinf hin
  have hT := Turn.refl g (g + 1) w
  have hgl := Lib.hid hP.lt
  have hpI : (p.size : Int) ≤ 1024 := by omega
  have hgI : (gr : Int) ≤ 64 := by omega
  replace hr0 := Lib.hid hr0
  replace kPc := Lib.hid kPc
  replace hfwp := Lib.hid hfwp
  replace hgr := Lib.hid hgr
  go_enter Try.func56, Try.ntmps56
  have h4 : Blk (w.alloc (.cells zeroC 27)) w.heap.size 27 zeroC := Blk.new' _ _ _ rfl
  have hB1 : Below w.heap.size w (w.alloc (.cells zeroC 27)) := below_alloc (Below.refl _ _) _
  unfold zeroC at h4 hB1
  go_upto_region 1 with (fail)
  obtain ⟨w1, hw1⟩ : ∃ y, y = w.alloc (.cells zeroC 27) := ⟨_, rfl⟩
  unfold zeroC at hw1
  rw [← hw1] at h4 hB1 ⊢
  clear hw1
  replace hP := blk_then hP hB1
  replace hT := hT.then_ hB1
  replace hM := hM.then_ hB1
  have h4l := h4.lt
  obtain ⟨g4, hg4e⟩ : ∃ y, y = w.heap.size := ⟨_, rfl⟩
  obtain ⟨B, hBe⟩ : ∃ y, y = w1.heap.size := ⟨_, rfl⟩
  have hwb := Lib.hid (show w.heap.size ≤ g4 ∧ g4 ≠ g ∧ 0 < g ∧ g < w.heap.size ∧ g4 < B ∧ g < B ∧ w.heap.size ≤ B ∧ 0 < B by have := hgl.out; have := hB1.size; omega)
  have hBw : B ≤ w1.heap.size := by omega
  rw [← hg4e] at h4 ⊢
  clear hg4e h0 h4l hB1 hBe
  go_wp2_with (fail)
  go_loopw [5] (fun lv wr => ∃ (A : Option Addr) (n c : Nat) (l : List Nd) (cl : List NV) (bl : List (List Nat)) (j : Nat), lv = .slice A n c ∧ NdL wr B A n c l cl bl ∧ B ≤ wr.heap.size ∧ n ≤ j ∧ j ≤ p.size ∧ Turn g (g + 1) w wr ∧ Mx wr ∧ Blk wr g 76 (rdC p j) ∧ Blk wr g4 27 #[.int .i64 0, .int .u64 0, .int .u64 0, .int .u64 0, .int .u64 0, .slice none 0 0, .int .i64 0, .int .i64 0] ∧ r = Ere.altR p (decide (gr = 0)) pc (p.size + 2 - n) j l) (fun lv _ => p.size + 2 - slLen lv)
  case atStart => exact ⟨none, 0, 0, [], [], [], i, rfl, NdL.nil_ _ _, hBw, by omega, hi, hT, hM, hP, h4, hr0.out.symm⟩
  case round =>
    clear hT hM hP h4 hBw
    obtain ⟨A, n, c, l, cl, bl, j, rfl, hL, hBw, hnj, hjp, hT, hM, hP, h4, hit⟩ := hrel
    have hfu : p.size + 2 - n = (p.size + 2 - (n + 1)) + 1 := by omega
    rw [hfu] at hit
    unfold Ere.altR at hit
    obtain ⟨b124, b124_e⟩ : ∃ b, Ere.isAt p j 124 = b := ⟨_, rfl⟩
    obtain ⟨b41, b41_e⟩ : ∃ b, Ere.isAt p j 41 = b := ⟨_, rfl⟩
    rw [b124_e, b41_e] at hit
    replace hit := Lib.hid hit
    replace hfu := Lib.hid hfu
    replace b124_e := Lib.hid b124_e
    replace b41_e := Lib.hid b41_e
    have hnj2 := Lib.hid hnj
    have hnn := Lib.hid hL.hn
    clear hnj
    have kM := more_any g p j wr hP
    have hjI : (j : Int) ≤ 1024 := by omega
    by_cases hjs : p.size ≤ j
    · rw [decide_eq_false (by omega)] at kM
      have hr := Lib.hid (show r = .got (Ere.someN 3 l) j by rw [hit.out, decide_eq_true hjs]; simp)
      go_upto_region 7 with (go_at_call 66; refine kM.mono ?_; rintro e wx ⟨rfl, hBx⟩)
      replace hL := hL.then_ hBx
      have hTx := hT.then_ hBx
      have hPx := blk_then hP hBx
      have h4x := blk_then h4 hBx
      have kS := some_any 3 wx hL
      clear hL hT hP h4 hBx kM
      go_wp2_with (first | (go_at_call 58; refine kS.mono ?_; rintro e w8 ⟨hB8, x, bs, rfl, hO⟩; have h48 := blk_then h4x hB8) | (refine wl_store_nv rfl _ _ rfl g4 x rfl rfl _ rfl h48 ?_; intro wz hz hgz))
      refine ret_nv rfl rfl hz rfl ?_
      rw [hr.out]
      exact ⟨(hTx.then_ hB8).grown hgz (fun q e => by injection e with e; have := hwb.out; right; omega), (blk_then hPx hB8).grown hgz (fun e => by injection e with e; have := hwb.out; omega), x, bs, rfl, (hO.mono hwb.out.2.2.2.2.2.2.1).keep (fun b hb => hgz.block b (hO.lt b hb).2 (fun e => by injection e with e; have := (hO.lt b hb).1; have := hwb.out; omega))⟩
    · rw [decide_eq_true (by omega)] at kM
      have hjs2 := Lib.hid hjs
      have hit2 := hit.out
      rw [decide_eq_false hjs] at hit2
      simp only [Bool.false_or] at hit2
      clear hit hjs
      go_upto_region 2 with (fail)
      have k124 : ∀ w2, Below wr.heap.size wr w2 → Calls Try.prog 57 #[.pointer (some ⟨g, 0, none⟩), .int .i64 (j : Int), .int .u8 124] w2 fun e w' => e = .returned (.bool b124) ∧ Below w2.heap.size w2 w' := fun w2 hB => is_at g p j j 124 124 w2 (blk_then hP hB) rfl b124_e.out
      have hc1 : ∀ w2, Below wr.heap.size wr w2 → w2.cell? ⟨g, 1, none⟩ = some (.int .i64 (j : Int)) := fun w2 hB => (blk_then hP hB).cellv rfl
      replace k124 := Lib.hid k124
      replace hc1 := Lib.hid hc1
      cases b124 with
      | true =>
        have hr := Lib.hid (show r = .got (Ere.someN 3 l) j by rw [hit2]; simp)
        go_upto_region 7 with (first | (go_at_call 66; refine kM.mono ?_; rintro e w2 ⟨rfl, hB2⟩; have c1 := hc1.out w2 hB2) | (go_at_call 57; refine (k124.out w2 hB2).mono ?_; rintro e wx ⟨rfl, hBx0⟩; have hBx := below_then hB2 hBx0))
        clear c1
        replace hL := hL.then_ hBx
        have hTx := hT.then_ hBx
        have hPx := blk_then hP hBx
        have h4x := blk_then h4 hBx
        have kS := some_any 3 wx hL
        clear hL hT hP h4 hBx kM
        go_wp2_with (first | (go_at_call 58; refine kS.mono ?_; rintro e w8 ⟨hB8, x, bs, rfl, hO⟩; have h48 := blk_then h4x hB8) | (refine wl_store_nv rfl _ _ rfl g4 x rfl rfl _ rfl h48 ?_; intro wz hz hgz))
        refine ret_nv rfl rfl hz rfl ?_
        rw [hr.out]
        exact ⟨(hTx.then_ hB8).grown hgz (fun q e => by injection e with e; have := hwb.out; right; omega), (blk_then hPx hB8).grown hgz (fun e => by injection e with e; have := hwb.out; omega), x, bs, rfl, (hO.mono hwb.out.2.2.2.2.2.2.1).keep (fun b hb => hgz.block b (hO.lt b hb).2 (fun e => by injection e with e; have := (hO.lt b hb).1; have := hwb.out; omega))⟩
      | false =>
        simp only [Bool.false_eq_true, if_false] at hit2
        go_upto_region 3 with (first | (go_at_call 66; refine kM.mono ?_; rintro e w2 ⟨rfl, hB2⟩; have c1 := hc1.out w2 hB2) | (go_at_call 57; refine (k124.out w2 hB2).mono ?_; rintro e w3 ⟨rfl, hB30⟩; have hB3 := below_then hB2 hB30))
        clear c1 k124 kM
        have c1 := hc1.out w3 hB3
        have k41 := is_at g p j j 41 41 w3 (blk_then hP hB3) rfl b41_e.out
        cases b41 with
        | true =>
          rw [if_pos rfl] at hit2
          by_cases hg0 : gr = 0
          · subst hg0
            have hr := Lib.hid (show r = .fault 42 j by rw [hit2]; simp)
            go_wp2_with (first | (go_at_call 57; refine k41.mono ?_; rintro e w4 ⟨rfl, hB40⟩; have hB4 := below_then hB3 hB40; have c2 := hc1.out w4 hB4) | (go_at_call 40; refine (give_any 42 j _).mono ?_; rintro e w9 ⟨hfe, hB9⟩; unfold faultE at hfe; subst hfe))
            rw [hr.out]
            exact ⟨rfl, (hT.then_ hB4).then_ hB9, rfl⟩
          · have hg0I : ((gr : Int) == 0) = false := beq_eq_false_iff_ne.2 (by omega)
            have hr := Lib.hid (show r = .got (Ere.someN 3 l) j by rw [hit2, decide_eq_false hg0]; simp)
            go_upto_region 7 with (go_at_call 57; refine k41.mono ?_; rintro e wx ⟨rfl, hBx0⟩; have hBx := below_then hB3 hBx0)
            clear c1
            replace hL := hL.then_ hBx
            have hTx := hT.then_ hBx
            have hPx := blk_then hP hBx
            have h4x := blk_then h4 hBx
            have kS := some_any 3 wx hL
            clear hL hT hP h4 hBx
            go_wp2_with (first | (go_at_call 58; refine kS.mono ?_; rintro e w8 ⟨hB8, x, bs, rfl, hO⟩; have h48 := blk_then h4x hB8) | (refine wl_store_nv rfl _ _ rfl g4 x rfl rfl _ rfl h48 ?_; intro wz hz hgz))
            refine ret_nv rfl rfl hz rfl ?_
            rw [hr.out]
            exact ⟨(hTx.then_ hB8).grown hgz (fun q e => by injection e with e; have := hwb.out; right; omega), (blk_then hPx hB8).grown hgz (fun e => by injection e with e; have := hwb.out; omega), x, bs, rfl, (hO.mono hwb.out.2.2.2.2.2.2.1).keep (fun b hb => hgz.block b (hO.lt b hb).2 (fun e => by injection e with e; have := (hO.lt b hb).1; have := hwb.out; omega))⟩
        | false =>
          simp only [Bool.false_eq_true, if_false] at hit2
          go_upto_region 6 with (go_at_call 57; refine k41.mono ?_; rintro e w4 ⟨rfl, hB40⟩)
          have hB4 := below_then hB3 hB40
          clear c1 hB40 k41
          replace hT := hT.then_ hB4
          replace hM := hM.then_ hB4
          replace hP := blk_then hP hB4
          replace h4 := blk_then h4 hB4
          replace hL := hL.then_ hB4
          have hBw4 : B ≤ w4.heap.size := Nat.le_trans hBw hB4.size
          clear hB4 hB3 hB30 hB2 hBw hc1
          have kP := kPc.out j w4 hP (by have := hjs2.out; omega) hM
          have hfw := fun t k h => hfwp.out j t k (by have := hjs2.out; omega) h
          obtain ⟨rp, hrp⟩ : ∃ q, pc j = q := ⟨_, rfl⟩
          rw [hrp] at hit2 kP hfw
          replace hrp := Lib.hid hrp
          cases rp with
          | fault e0 k0 =>
            have hr := Lib.hid (show r = .fault e0 k0 by rw [hit2]; rfl)
            clear hit2 hfw
            go_wp2_with (go_at_call 67; refine kP.mono ?_; rintro e w9 ⟨hT9, hfe⟩; unfold faultE at hfe; subst hfe)
            rw [hr.out]
            exact ⟨rfl, hT.trans hT9, rfl⟩
          | got t k =>
            have hk := hfw t k rfl
            simp only [Ere.Res.bind] at hit2
            replace hit2 := Lib.hid hit2
            replace hk := Lib.hid hk
            clear hfw
            have hn9 := Lib.hid (show n ≤ 1000000 by have := hnj2.out; omega)
            have hLl := Lib.hid hL.lt
            replace hL := Lib.hid hL
            replace hBw4 := Lib.hid hBw4
            go_upto_region 6 with (fail)
            go_wp2_with (first
              | (go_at_call 67; refine kP.mono ?_; rintro e w5 ⟨hT5, hP5, x, bs, rfl, hO5⟩
                 have hs5 := Lib.hid hT5.size
                 have hL6 := Lib.hid ((hL.out.turn hT5 hwb.out.2.2.2.2.2.1).then_ (below_alloc (Below.refl w5.heap.size w5) (.cells x.C 27)))
                 have hO6 := Lib.hid ((hO5.mono hBw4.out).then_ (below_alloc (Below.refl w5.heap.size w5) (.cells x.C 27)))
                 have hdis := Lib.hid (show ∀ b ∈ bs, b ∉ ownL A ++ bl.flatten from fun b hb hb2 => by have := (hO5.lt b hb).1; have := (hLl.out b hb2).2; omega)
                 have hBa := Lib.hid (below_alloc (Below.refl w5.heap.size w5) (.cells x.C 27)))
              | (refine wl_build1n rfl _ rfl x rfl ?_)
              | (at_builtin; refine wl_pushN rfl _ _ rfl hL6.out hO6.out hdis.out rfl _ rfl (Blk.new w5 27 x.C) hn9.out (by have := hBw4.out; have := hs5.out; have := hBa.out.size; omega) ?_; intro A' c' w7 hL7 hg7))
            have hrow : ∀ q, (Value.slice A n c).ownBlock = some q → B ≤ q := fun q hq => (hLl.out q (List.mem_append_left _ (mem_ownL.2 hq))).1
            have hTz := ((hT.trans hT5).then_ hBa.out).grown hg7 (fun q e => by have := hrow q e; have := hwb.out; right; omega)
            have hMz := ((hM.turn hT5 hwb.out.2.2.1).then_ hBa.out).grown hg7 (fun e => by have := hrow 0 e; have := hwb.out; omega)
            have hPz := (blk_then hP5 hBa.out).grown hg7 (fun e => by have := hrow g e.symm; have := hwb.out; omega)
            have h4z := (blk_then (blk_turn h4 hT5 (by have := hwb.out; omega)) hBa.out).grown hg7 (fun e => by have := hrow g4 e.symm; have := hwb.out; omega)
            have hBz : B ≤ w7.heap.size := by have := hBw4.out; have := hs5.out; have := hBa.out.size; have := hg7.size; omega
            exact ⟨⟨A', n + 1, c', l ++ [t], cl ++ [x], bl ++ [bs], k, rfl, hL7, hBz, by have := hk.out; have := hnj2.out; omega, hk.out.2, hTz, hMz, hPz, h4z, hit2.out⟩, by simp only [slLen]; have := hfu.out; omega⟩
end Go.Proofs.Ytajainmldcnaeaa
