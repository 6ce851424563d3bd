/- Part 8 of a proof; packed: the texts that it was made of follow one another. No condition beyond those named in each lemma. -/
import Derived.Test.YtajainmldcnaeaaPn3
import Derived.Test.YtajainmldcnaeaaPn4
import Derived.Test.YtajainmldcnaeaaPn5
import Derived.Test.YtajainmldcnaeaaPn6
import Derived.Test.YtajainmldcnaeaaPn7
import Derived.Laws.Pointers
import Derived.Recover
namespace Go.Proofs.Ytajainmldcnaeaa
open Go.RowKit Go.Maps
set_option linter.unusedVariables false
set_option linter.unusedSimpArgs false
attribute [local go_sem] Oper.semAt_some

/-- what reads an alternative -/
def AltOk (p : ByteArray) (gr : Nat) (al : Nat → Ere.Res Nd) : Prop := ∀ (g i : Nat) (w : World), Blk w g 76 (rdC p i) → i ≤ p.size → p.size ≤ 1024 → Mx w → 0 < g →
  Calls Try.prog 56 #[.pointer (some ⟨g, 0, none⟩), .int .i64 (gr : Int)] w fun e w' => NdAns g p w w.heap.size (al i) e w'
set_option maxRecDepth 100000 in
set_option maxHeartbeats 8000000 in
theorem patL_any (gr : Nat) (hgr : gr ≤ 64) (al : Nat → Ere.Res Nd) (g : Nat) (p : ByteArray) (i : Nat) (hal : AltOk p gr al) (hfa : ∀ i t j, i ≤ p.size → al i = .got t j → i ≤ j ∧ j ≤ p.size) (w : World) (hP : Blk w g 76 (rdC p i)) (hi : i ≤ p.size) (hp : p.size ≤ 1024) (hM : Mx w) (h0 : 0 < g) :
    Calls Try.prog 39 #[.pointer (some ⟨g, 0, none⟩), .int .i64 (gr : Int)] w fun e w' => NdAns g p w w.heap.size (Ere.patL p al (p.size + 2) i []) e w' := by
  obtain ⟨r, hr0⟩ : ∃ r, Ere.patL p al (p.size + 2) i [] = r := ⟨_, rfl⟩
  rw [hr0]
  rw [show p.size + 2 = (p.size + 1) + 1 from rfl] at hr0
  unfold Ere.patL at hr0
  simp only [List.nil_append] at hr0
  have hT := Turn.refl g (g + 1) w
  have hgl := Lib.hid hP.lt
  have hpI : (p.size : Int) ≤ 1024 := by omega
  have hgI : (gr : Int) ≤ 64 := by omega
  replace hr0 := Lib.hid hr0
  replace hal := Lib.hid hal
  replace hfa := Lib.hid hfa
  go_enter Try.func39, Try.ntmps39
  have h4 : Blk (w.alloc (.cells zeroC 27)) w.heap.size 27 zeroC := Blk.new' _ _ _ rfl
  have hB1 : Below w.heap.size w (w.alloc (.cells zeroC 27)) := below_alloc (Below.refl _ _) _
  unfold zeroC at h4 hB1
  go_upto_region 1 with (fail)
  obtain ⟨w1, hw1⟩ : ∃ y, y = w.alloc (.cells zeroC 27) := ⟨_, rfl⟩
  unfold zeroC at hw1
  rw [← hw1] at h4 hB1 ⊢
  clear hw1
  replace hP := blk_then hP hB1
  replace hT := hT.then_ hB1
  replace hM := hM.then_ hB1
  have h4l := h4.lt
  obtain ⟨g4, hg4e⟩ : ∃ y, y = w.heap.size := ⟨_, rfl⟩
  obtain ⟨B, hBe⟩ : ∃ y, y = w1.heap.size := ⟨_, rfl⟩
  have hwb := Lib.hid (show w.heap.size ≤ g4 ∧ g4 ≠ g ∧ 0 < g ∧ g < w.heap.size ∧ g4 < B ∧ g < B ∧ w.heap.size ≤ B ∧ 0 < B by have := hgl.out; have := hB1.size; omega)
  rw [← hg4e] at h4 ⊢
  have kA := hal.out g i w1 hP hi hp hM h0
  have hfi := fun t j => hfa.out i t j hi
  obtain ⟨ra, hra⟩ : ∃ q, al i = q := ⟨_, rfl⟩
  rw [hra] at kA hfi
  have hr1 := hr0.out
  rw [hra] at hr1
  rw [← hBe] at kA
  replace hBe := Lib.hid hBe
  clear hg4e h0 h4l hB1 hra hr0
  cases ra with
  | fault e0 k0 =>
    have hr := Lib.hid (show r = .fault e0 k0 from hr1.symm)
    clear hr1 hfi
    go_wp2_with (go_at_call 56; refine kA.mono ?_; rintro e w9 ⟨hT9, hfe⟩; unfold faultE at hfe; subst hfe)
    rw [hr.out]
    exact ⟨rfl, hT.trans hT9, rfl⟩
  | got t0 j0 =>
    have hj0 := hfi t0 j0 rfl
    simp only [Ere.Res.bind, List.nil_append] at hr1
    replace hr1 := Lib.hid hr1
    replace hj0 := Lib.hid hj0
    clear hfi
    go_wp2_with (first
      | (go_at_call 56; refine kA.mono ?_; rintro e w5 ⟨hT5, hP5, x, bs, rfl, hO5⟩)
      | (refine wl_build1n rfl _ rfl x rfl ?_))
    have hBa := below_alloc (Below.refl w5.heap.size w5) (.cells x.C 27)
    have hs5 := hT5.size
    have hBw5 : B ≤ w5.heap.size := by have := hBe.out; omega
    have hL6 := NdL.one hO5 hBa (Nat.le_refl _) (Blk.new w5 27 x.C) hBw5
    have hT6 := (hT.trans hT5).then_ hBa
    have hM6 := (hM.turn hT5 hwb.out.2.2.1).then_ hBa
    have hP6 := blk_then hP5 hBa
    have h46 := blk_then (blk_turn h4 hT5 (by have := hwb.out; omega)) hBa
    have hB6 : B ≤ (w5.alloc (.cells x.C 27)).heap.size := Nat.le_trans hBw5 hBa.size
    obtain ⟨g6, hg6⟩ : ∃ y, y = w5.heap.size := ⟨_, rfl⟩
    obtain ⟨w6, hw6⟩ : ∃ y, y = w5.alloc (.cells x.C 27) := ⟨_, rfl⟩
    rw [← hw6] at hL6 hT6 hM6 hP6 h46 hB6 ⊢
    rw [← hg6] at hL6 ⊢
    clear hw6 hg6 hBa hs5 hBw5 hP hT hM h4 kA hT5 hP5 hO5
    go_loopw [5] (fun lv wr => ∃ (A : Option Addr) (n c : Nat) (l : List Nd) (cl : List NV) (bl : List (List Nat)) (j : Nat), lv = .slice A n c ∧ NdL wr B A n c l cl bl ∧ B ≤ wr.heap.size ∧ 1 ≤ n ∧ n ≤ j + 1 ∧ j ≤ p.size ∧ Turn g (g + 1) w wr ∧ Mx wr ∧ Blk wr g 76 (rdC p j) ∧ Blk wr g4 27 #[.int .i64 0, .int .u64 0, .int .u64 0, .int .u64 0, .int .u64 0, .slice none 0 0, .int .i64 0, .int .i64 0] ∧ r = if Ere.isAt p j 124 then Ere.patL p al (p.size + 2 - n) (j + 1) l else .got (Ere.someN 4 l) j) (fun lv _ => p.size + 2 - slLen lv)
    case atStart => exact ⟨_, 1, 1, [t0], [x], [bs], j0, rfl, hL6, hB6, Nat.le_refl _, by omega, hj0.out.2, hT6, hM6, hP6, h46, hr1.out.symm⟩
    case round =>
      clear hL6 hT6 hM6 hP6 h46 hB6 hr1
      obtain ⟨A, n, c, l, cl, bl, j, rfl, hL, hBw, hn1, hnj, hjp, hT, hM, hP, h4, hit⟩ := hrel
      obtain ⟨b124, b124_e⟩ : ∃ b, Ere.isAt p j 124 = b := ⟨_, rfl⟩
      rw [b124_e] at hit
      have k124 := is_at g p j j 124 124 wr hP rfl b124_e
      have c1 : wr.cell? ⟨g, 1, none⟩ = some (.int .i64 (j : Int)) := hP.cellv rfl
      have hjI : (j : Int) ≤ 1024 := by omega
      have hjlt := Lib.hid (fun h : b124 = true => Ere.isAt_lt (b124_e.trans h))
      clear b124_e
      have hnj2 := Lib.hid hnj
      clear hnj
      cases b124 with
      | false =>
        have hr := Lib.hid (show r = .got (Ere.someN 4 l) j by rw [hit]; simp)
        clear hit
        go_upto_region 5 with (go_at_call 57; refine k124.mono ?_; rintro e wx ⟨rfl, hBx⟩)
        clear k124 c1
        replace hL := hL.then_ hBx
        have hTx := hT.then_ hBx
        have hPx := blk_then hP hBx
        have h4x := blk_then h4 hBx
        have kS := some_any 4 wx hL
        clear hL hT hP h4 hBx
        go_wp2_with (first | (go_at_call 58; refine kS.mono ?_; rintro e w8 ⟨hB8, x, bs, rfl, hO⟩; have h48 := blk_then h4x hB8) | (refine wl_store_nv rfl _ _ rfl g4 x rfl rfl _ rfl h48 ?_; intro wz hz hgz))
        refine ret_nv rfl rfl hz rfl ?_
        rw [hr.out]
        exact ⟨(hTx.then_ hB8).grown hgz (fun q e => by injection e with e; have := hwb.out; right; omega), (blk_then hPx hB8).grown hgz (fun e => by injection e with e; have := hwb.out; omega), x, bs, rfl, (hO.mono hwb.out.2.2.2.2.2.2.1).keep (fun b hb => hgz.block b (hO.lt b hb).2 (fun e => by injection e with e; have := (hO.lt b hb).1; have := hwb.out; omega))⟩
      | true =>
        rw [if_pos rfl] at hit
        have hj1 := hjlt.out (by trivial)
        have hfu : p.size + 2 - n = (p.size + 2 - (n + 1)) + 1 := by have := hnj2.out; omega
        rw [hfu] at hit
        unfold Ere.patL at hit
        replace hit := Lib.hid hit
        replace hfu := Lib.hid hfu
        go_upto_region 3 with (go_at_call 57; refine k124.mono ?_; rintro e w2 ⟨rfl, hB2⟩)
        clear k124 c1
        replace hT := hT.then_ hB2
        replace hM := hM.then_ hB2
        replace hP := blk_then hP hB2
        replace h4 := blk_then h4 hB2
        replace hL := hL.then_ hB2
        replace hBw := Nat.le_trans hBw hB2.size
        clear hB2
        have c1 : w2.cell? ⟨g, 1, none⟩ = some (.int .i64 (j : Int)) := hP.cellv rfl
        have f1 := hP.frozen 1
        go_upto_region 4 with (fail)
        have hP3 := setRd hP (v := .int .i64 ((j : Int) + 1)) (j := j + 1) (by congr 1)
        have hTo := turnRd (Turn.refl g (g + 1) w2) 1 (.int .i64 ((j : Int) + 1))
        have hT3 := hT.trans hTo
        have hM3 := hM.turn hTo hwb.out.2.2.1
        have h43 := blk_turn h4 hTo (by have := hwb.out; omega)
        have hL3 := hL.turn hTo hwb.out.2.2.2.2.2.1
        have hBw3 := Nat.le_trans hBw hTo.size
        obtain ⟨w3, hw3⟩ : ∃ y, y = w2.setCell ⟨g, 1, none⟩ (.int .i64 ((j : Int) + 1)) := ⟨_, rfl⟩
        rw [← hw3] at hP3 hT3 hM3 h43 hL3 hBw3 ⊢
        clear hw3 hTo hT hM hP h4 hL hBw c1 f1
        have kA := hal.out g (j + 1) w3 hP3 (by omega) hp hM3 hwb.out.2.2.1
        have hfw := fun t k => hfa.out (j + 1) t k (by omega)
        obtain ⟨ra, hra⟩ : ∃ q, al (j + 1) = q := ⟨_, rfl⟩
        rw [hra] at kA hfw
        have hit2 := hit.out
        rw [hra] at hit2
        clear hra hit
        cases ra with
        | fault e0 k0 =>
          have hr := Lib.hid (show r = .fault e0 k0 by rw [hit2]; rfl)
          clear hit2 hfw
          go_wp2_with (go_at_call 56; refine kA.mono ?_; rintro e w9 ⟨hT9, hfe⟩; unfold faultE at hfe; subst hfe)
          rw [hr.out]
          exact ⟨rfl, hT3.trans hT9, rfl⟩
        | got t k =>
          have hk := hfw t k rfl
          simp only [Ere.Res.bind] at hit2
          replace hit2 := Lib.hid hit2
          replace hk := Lib.hid hk
          clear hfw
          have hn9 := Lib.hid (show n ≤ 1000000 by have := hnj2.out; omega)
          have hLl := Lib.hid hL3.lt
          replace hL3 := Lib.hid hL3
          replace hBw3 := Lib.hid hBw3
          go_wp2_with (first
            | (go_at_call 56; refine kA.mono ?_; rintro e w5 ⟨hT5, hP5, x, bs, rfl, hO5⟩
               have hs5 := Lib.hid hT5.size
               have hL6 := Lib.hid ((hL3.out.turn hT5 hwb.out.2.2.2.2.2.1).then_ (below_alloc (Below.refl w5.heap.size w5) (.cells x.C 27)))
               have hO6 := Lib.hid ((hO5.mono hBw3.out).then_ (below_alloc (Below.refl w5.heap.size w5) (.cells x.C 27)))
               have hdis := Lib.hid (show ∀ b ∈ bs, b ∉ ownL A ++ bl.flatten from fun b hb hb2 => by have := (hO5.lt b hb).1; have := (hLl.out b hb2).2; omega)
               have hBa := Lib.hid (below_alloc (Below.refl w5.heap.size w5) (.cells x.C 27)))
            | (refine wl_build1n rfl _ rfl x rfl ?_)
            | (at_builtin; refine wl_pushN rfl _ _ rfl hL6.out hO6.out hdis.out rfl _ rfl (Blk.new w5 27 x.C) hn9.out (by have := hBw3.out; have := hs5.out; have := hBa.out.size; omega) ?_; intro A' c' w7 hL7 hg7))
          have hrow : ∀ q, (Value.slice A n c).ownBlock = some q → B ≤ q := fun q hq => (hLl.out q (List.mem_append_left _ (mem_ownL.2 hq))).1
          have hTz := ((hT3.trans hT5).then_ hBa.out).grown hg7 (fun q e => by have := hrow q e; have := hwb.out; right; omega)
          have hMz := ((hM3.turn hT5 hwb.out.2.2.1).then_ hBa.out).grown hg7 (fun e => by have := hrow 0 e; have := hwb.out; omega)
          have hPz := (blk_then hP5 hBa.out).grown hg7 (fun e => by have := hrow g e.symm; have := hwb.out; omega)
          have h4z := (blk_then (blk_turn h43 hT5 (by have := hwb.out; omega)) hBa.out).grown hg7 (fun e => by have := hrow g4 e.symm; have := hwb.out; omega)
          have hBz : B ≤ w7.heap.size := by have := hBw3.out; have := hs5.out; have := hBa.out.size; have := hg7.size; omega
          exact ⟨⟨A', n + 1, c', l ++ [t], cl ++ [x], bl ++ [bs], k, rfl, hL7, hBz, by omega, by have := hk.out; have := hnj2.out; omega, hk.out.2, hTz, hMz, hPz, h4z, hit2.out⟩, by simp only [slLen]; have := hfu.out; omega⟩
/-- the reader of patterns, within so many groups -/
theorem pat_any (p : ByteArray) : ∀ n, PatOk p n
  | 0 => fun gr hgr g i w hP hi hp hM h0 => by
    unfold Ere.patR
    refine patL_any gr (by omega) _ g p i (fun g i w hP hi hp hM h0 => ?_) (fun i t j hi h => Ere.altR_fwd (fun i t j hi h => Ere.pieceR_fwd (fun f e => by cases e) h hi) _ _ _ _ _ hi h) w hP hi hp hM h0
    have := alt_any 0 gr hgr none g p i rfl w hP hi hp hM h0
    rw [decide_eq_false (show ¬ gr = 0 by omega)] at this
    exact this
  | n + 1 => fun gr hgr g i w hP hi hp hM h0 => by
    have ih := pat_any p n
    unfold Ere.patR
    refine patL_any gr (by omega) _ g p i (fun g i w hP hi hp hM h0 => ?_) (fun i t j hi h => Ere.altR_fwd (fun i t j hi h => Ere.pieceR_fwd (fun f e => by injection e with e; subst e; exact fun i t j hi h => Ere.patR_fwd n i t j hi h) h hi) _ _ _ _ _ hi h) w hP hi hp hM h0
    have := alt_any (n + 1) gr hgr (some (Ere.patR p n)) g p i ⟨ih, rfl, Ere.patR_fwd n⟩ w hP hi hp hM h0
    rw [show decide (gr = 0) = decide (n + 1 = 64) by congr 1; simp only [eq_iff_iff]; omega] at this
    exact this
end Go.Proofs.Ytajainmldcnaeaa
namespace Go.Proofs.Ytajainmldcnaeaa
open Go.RowKit Go.Maps
set_option linter.unusedVariables false
set_option linter.unusedSimpArgs false
attribute [local go_sem] Oper.semAt_some

namespace Ere
theorem nlAt_none (p : ByteArray) : ∀ n i, p.size ≤ n + i → nlAt p n i = none → ∀ j, i ≤ j → j < p.size → chr p j ≠ 10
  | 0, i, hn, _, j, hj, hp => by omega
  | n + 1, i, hn, h, j, hj, hp => by
    unfold nlAt at h
    split at h
    · omega
    · split at h
      · cases h
      · rename_i h1 h2
        by_cases e : j = i
        · subst e; exact h2
        · exact nlAt_none p n (i + 1) (by omega) h j (by omega) hp
theorem nlAt_some (p : ByteArray) : ∀ n i j, nlAt p n i = some j → i ≤ j ∧ j < p.size ∧ chr p j = 10 ∧ ∀ k, i ≤ k → k < j → chr p k ≠ 10
  | 0, i, j, h => by cases h
  | n + 1, i, j, h => by
    unfold nlAt at h
    split at h
    · cases h
    · split at h
      · rename_i h1 h2
        injection h with h
        subst h
        exact ⟨Nat.le_refl _, by omega, h2, fun k h3 h4 => by omega⟩
      · rename_i h1 h2
        obtain ⟨a, b, c, d⟩ := nlAt_some p n (i + 1) j h
        refine ⟨by omega, b, c, fun k h3 h4 => ?_⟩
        by_cases e : k = i
        · subst e; exact h2
        · exact d k (by omega) h4
theorem index_nl (p : ByteArray) : Lib.indexByte p.data.toList 10 = match nlAt p (p.size + 1) 0 with
    | none => -1
    | some j => (j : Int) := by
  have key : ∀ o : Nat, Lib.indexByte p.data.toList 10 = o → (o < p.size ∧ chr p o = 10) ∧ ∀ k, k < o → ¬ (k < p.size ∧ chr p k = 10) := fun o ho => by
    obtain ⟨h1, h2⟩ := Lib.indexByte_some ho
    exact ⟨(chr_list p o 10).1 h1, fun k hk h => h2 k hk ((chr_list p k 10).2 h)⟩
  have hge := Lib.indexByte_ge p.data.toList 10
  cases he : nlAt p (p.size + 1) 0 with
  | none =>
    have hn := nlAt_none p (p.size + 1) 0 (by omega) he
    rcases Int.lt_or_le (Lib.indexByte p.data.toList 10) 0 with h0 | h0
    · simp only; omega
    · obtain ⟨o, ho⟩ := Int.eq_ofNat_of_zero_le h0
      have h1 := (key o ho).1
      exact absurd h1.2 (hn o (by omega) h1.1)
  | some j =>
    obtain ⟨-, h2, h3, h4⟩ := nlAt_some p (p.size + 1) 0 j he
    rcases Int.lt_or_le (Lib.indexByte p.data.toList 10) 0 with h0 | h0
    · have h1 := Lib.indexByte_none (l := p.data.toList) (c := 10) (by omega)
      exact absurd ((chr_list p j 10).2 ⟨h2, h3⟩) (h1 j)
    · obtain ⟨o, ho⟩ := Int.eq_ofNat_of_zero_le h0
      obtain ⟨h5, h6⟩ := key o ho
      have hoj : o = j := by
        rcases Nat.lt_trichotomy o j with h | h | h
        · exact absurd h5.2 (h4 o (by omega) h)
        · exact h
        · exact absurd ⟨h2, h3⟩ (h6 j h)
      rw [ho, hoj]
end Ere
theorem assert_fault (e0 a0 : Int) (w : World) : (Instr.typeAssert (.iface 73 (.agg #[.int .i64 e0, .int .i64 a0])) 20 73 true).run Try.prog w = .ok (.tuple #[.agg #[.int .i64 e0, .int .i64 a0], .bool true]) w := by kernel_rfl
def zeroV : NV := ⟨0, 0, none, 0, 0, 0, 0⟩
theorem Turn.set {lo hi b i : Nat} {w w' : World} {v : Value} (h : Turn lo hi w w') (h1 : lo ≤ b) (h2 : b < hi) : Turn lo hi w (w'.setCell ⟨b, i, none⟩ v) :=
  h.grown (only_setCell (World.grownBy.refl w' (some b)) (.inl rfl) v) (fun q e => by injection e with e; left; omega)
set_option maxHeartbeats 1000000 in
set_option maxRecDepth 100000 in
/-- the closure of Parse, where a reader has given up -/
theorem closure_fault (g : Nat) (e0 a0 : Nat) (x : NV) (x3 x4 : Value) (w : World) (h2 : Blk w g 27 x.C) (h3 : Blk w (g + 1) 3 #[x3]) (h4 : Blk w (g + 1 + 1) 29 #[x4]) :
    CallsD Try.prog 38 #[.pointer (some ⟨g, 0, none⟩), .pointer (some ⟨g + 1, 0, none⟩), .pointer (some ⟨g + 1 + 1, 0, none⟩)] (.panicking [{ v := .iface 73 (.agg #[.int .i64 (e0 : Int), .int .i64 (a0 : Int)]), recovered := false }]) w fun e u' w' =>
      e = .returned (.tuple #[]) ∧ u' = .panicking [{ v := .iface 73 (.agg #[.int .i64 (e0 : Int), .int .i64 (a0 : Int)]), recovered := true }] ∧ Turn g (g + 3) w w' ∧
        Blk w' g 27 zeroV.C ∧ Blk w' (g + 1) 3 #[.int .i64 (a0 : Int)] ∧ Blk w' (g + 1 + 1) 29 #[.int .i64 (e0 : Int)] := by
  have hta := assert_fault (e0 : Int) (a0 : Int)
  refine callsD_of_wpS Try.func38 rfl fun c₀ cs hu => ?_
  apply wpS_seq
  apply wpS_region
  simp [wpOpsS, go_sem, recoverD, hu, Try.ntmps38, Exit.thenS]
  refine wpS_of_wp ?_
  simp only [show (Array.replicate 14 undef : Array Value) = #[undef, undef, undef, undef, undef, undef, undef, undef, undef, undef, undef, undef, undef, undef] from rfl, List.setIfInBounds_toArray, List.set_cons_zero, List.set_cons_succ, List.append_toArray, List.cons_append, List.nil_append]
  go_upto_region 7 with (fail)
  have hf : Blk (w.alloc (.cells #[.int .i64 (e0 : Int), .int .i64 (a0 : Int)] 73)) w.heap.size 73 #[.int .i64 (e0 : Int), .int .i64 (a0 : Int)] := Blk.new' _ _ _ rfl
  have hB : Below w.heap.size w (w.alloc (.cells #[.int .i64 (e0 : Int), .int .i64 (a0 : Int)] 73)) := below_alloc (Below.refl _ _) _
  obtain ⟨w1, hw1⟩ : ∃ y, y = w.alloc (.cells #[.int .i64 (e0 : Int), .int .i64 (a0 : Int)] 73) := ⟨_, rfl⟩
  rw [← hw1] at hf hB ⊢
  clear hw1
  have hgl := h4.lt
  replace h2 := blk_then h2 hB
  replace h3 := blk_then h3 hB
  replace h4 := blk_then h4 hB
  have hT : Turn g (g + 3) w w1 := Turn.of_below hB
  obtain ⟨gf, hgf⟩ : ∃ y, y = w.heap.size := ⟨_, rfl⟩
  have hn1 : gf ≠ g := by omega
  have hn2 : gf ≠ g + 1 := by omega
  have hn3 : gf ≠ g + 1 + 1 := by omega
  rw [← hgf] at hf ⊢
  clear hgf hB
  have r0 := h2.cellv (i := 0) rfl
  have z0 := h2.frozen 0
  have r1 := h2.cellv (i := 1) rfl
  have z1 := h2.frozen 1
  have r2 := h2.cellv (i := 2) rfl
  have z2 := h2.frozen 2
  have r3 := h2.cellv (i := 3) rfl
  have z3 := h2.frozen 3
  have r4 := h2.cellv (i := 4) rfl
  have z4 := h2.frozen 4
  have r5 := h2.cellv (i := 5) rfl
  have z5 := h2.frozen 5
  have r6 := h2.cellv (i := 6) rfl
  have z6 := h2.frozen 6
  have r7 := h2.cellv (i := 7) rfl
  have z7 := h2.frozen 7
  have q1 : w1.cell? ⟨gf, 1, none⟩ = some (.int .i64 (a0 : Int)) := hf.cellv rfl
  have q0 : w1.cell? ⟨gf, 0, none⟩ = some (.int .i64 (e0 : Int)) := hf.cellv rfl
  have c3 := h3.cellv (i := 0) (v := x3) rfl
  have f3 := h3.frozen 0
  have c4 := h4.cellv (i := 0) (v := x4) rfl
  have f4 := h4.frozen 0
  go_big_region
  clear q0 q1 c3 f3 c4 f4 hf hn1 hn2 hn3 r0 r1 r2 r3 r4 r5 r6 r7 z0 z1 z2 z3 z4 z5 z6 z7
  replace h2 := h2.set_ 0 (.int .i64 0)
  replace h2 := h2.set_ 1 (.int .u64 0)
  replace h2 := h2.set_ 2 (.int .u64 0)
  replace h2 := h2.set_ 3 (.int .u64 0)
  replace h2 := h2.set_ 4 (.int .u64 0)
  replace h2 := h2.set_ 5 (.slice none 0 0)
  replace h2 := h2.set_ 6 (.int .i64 0)
  replace h2 := h2.set_ 7 (.int .i64 0)
  replace h3 := h3.far (p := ⟨g, 0, none⟩) (by simp) (.int .i64 0)
  replace h4 := h4.far (p := ⟨g, 0, none⟩) (by simp; omega) (.int .i64 0)
  replace hT := hT.set (b := g) (i := 0) (v := (.int .i64 0)) (by omega) (by omega)
  replace h3 := h3.far (p := ⟨g, 1, none⟩) (by simp) (.int .u64 0)
  replace h4 := h4.far (p := ⟨g, 1, none⟩) (by simp; omega) (.int .u64 0)
  replace hT := hT.set (b := g) (i := 1) (v := (.int .u64 0)) (by omega) (by omega)
  replace h3 := h3.far (p := ⟨g, 2, none⟩) (by simp) (.int .u64 0)
  replace h4 := h4.far (p := ⟨g, 2, none⟩) (by simp; omega) (.int .u64 0)
  replace hT := hT.set (b := g) (i := 2) (v := (.int .u64 0)) (by omega) (by omega)
  replace h3 := h3.far (p := ⟨g, 3, none⟩) (by simp) (.int .u64 0)
  replace h4 := h4.far (p := ⟨g, 3, none⟩) (by simp; omega) (.int .u64 0)
  replace hT := hT.set (b := g) (i := 3) (v := (.int .u64 0)) (by omega) (by omega)
  replace h3 := h3.far (p := ⟨g, 4, none⟩) (by simp) (.int .u64 0)
  replace h4 := h4.far (p := ⟨g, 4, none⟩) (by simp; omega) (.int .u64 0)
  replace hT := hT.set (b := g) (i := 4) (v := (.int .u64 0)) (by omega) (by omega)
  replace h3 := h3.far (p := ⟨g, 5, none⟩) (by simp) (.slice none 0 0)
  replace h4 := h4.far (p := ⟨g, 5, none⟩) (by simp; omega) (.slice none 0 0)
  replace hT := hT.set (b := g) (i := 5) (v := (.slice none 0 0)) (by omega) (by omega)
  replace h3 := h3.far (p := ⟨g, 6, none⟩) (by simp) (.int .i64 0)
  replace h4 := h4.far (p := ⟨g, 6, none⟩) (by simp; omega) (.int .i64 0)
  replace hT := hT.set (b := g) (i := 6) (v := (.int .i64 0)) (by omega) (by omega)
  replace h3 := h3.far (p := ⟨g, 7, none⟩) (by simp) (.int .i64 0)
  replace h4 := h4.far (p := ⟨g, 7, none⟩) (by simp; omega) (.int .i64 0)
  replace hT := hT.set (b := g) (i := 7) (v := (.int .i64 0)) (by omega) (by omega)
  replace h2 := h2.far (p := ⟨g + 1, 0, none⟩) (by simp) (.int .i64 (a0 : Int))
  replace h4 := h4.far (p := ⟨g + 1, 0, none⟩) (by simp) (.int .i64 (a0 : Int))
  replace h3 := h3.set_ 0 (.int .i64 (a0 : Int))
  replace hT := hT.set (b := g + 1) (i := 0) (v := .int .i64 (a0 : Int)) (by omega) (by omega)
  replace h2 := h2.far (p := ⟨g + 1 + 1, 0, none⟩) (by simp; omega) (.int .i64 (e0 : Int))
  replace h3 := h3.far (p := ⟨g + 1 + 1, 0, none⟩) (by simp) (.int .i64 (e0 : Int))
  replace h4 := h4.set_ 0 (.int .i64 (e0 : Int))
  replace hT := hT.set (b := g + 1 + 1) (i := 0) (v := .int .i64 (e0 : Int)) (by omega) (by omega)
  replace h2 := h2.drew
  replace h3 := h3.drew
  replace h4 := h4.drew
  replace hT := hT.then_ ((Below.refl _ _).drew)
  generalize World.drew _ = w2 at h2 h3 h4 hT ⊢
  go_wp2_with (fail)
  refine ⟨rfl, _, rfl, _, results_none rfl _ _ _, rfl, rfl, hT, ?_, h3, h4⟩
  have e : ((((((((x.C.setIfInBounds 0 (.int .i64 0)).setIfInBounds 1 (.int .u64 0)).setIfInBounds 2 (.int .u64 0)).setIfInBounds 3 (.int .u64 0)).setIfInBounds 4 (.int .u64 0)).setIfInBounds 5 (.slice none 0 0)).setIfInBounds 6 (.int .i64 0)).setIfInBounds 7 (.int .i64 0)) = zeroV.C := by kernel_rfl
  rw [← e]
  exact h2
/-- the closure of Parse, where nothing was given up -/
theorem closure_idle (p q r : Addr) (w : World) : CallsD Try.prog 38 #[.pointer (some p), .pointer (some q), .pointer (some r)] .returning w fun e u' w' => e = .returned (.tuple #[]) ∧ u' = .returning ∧ w' = w := by
  refine callsD_of_wpS Try.func38 rfl fun c₀ cs hu => ?_
  apply wpS_seq
  apply wpS_region
  simp [wpOpsS, go_sem, recoverD, hu, Try.ntmps38, Exit.thenS]
  refine wpS_of_wp ?_
  simp only [show (Array.replicate 14 undef : Array Value) = #[undef, undef, undef, undef, undef, undef, undef, undef, undef, undef, undef, undef, undef, undef] from rfl, List.setIfInBounds_toArray, List.set_cons_zero, List.set_cons_succ, List.append_toArray, List.cons_append, List.nil_append]
  go_wp2_with (fail)
  cases c₀
  simp_all [bodyPostS, results, Try.results38]
end Go.Proofs.Ytajainmldcnaeaa
namespace Go.Proofs.Ytajainmldcnaeaa
open Go.RowKit Go.Maps
set_option linter.unusedVariables false
set_option linter.unusedSimpArgs false
attribute [local go_sem] Oper.semAt_some

theorem placesN_eq (t : Nd) : placesN t = Ere.placesN t := by
  unfold placesN Ere.placesN
  split
  · omega
  · rfl
/-- three results that lie in variables -/
theorem res3 {fn : Func} {g : Nat} {x : NV} (hres : fn.results = #[.cell 2 27, .cell 3 3, .cell 4 29]) {tmps : Array Value} {w : World} {a b : Int}
    (h2 : tmps.getD 2 undef = .pointer (some ⟨g, 0, none⟩)) (h3 : tmps.getD 3 undef = .pointer (some ⟨g + 1, 0, none⟩)) (h4 : tmps.getD 4 undef = .pointer (some ⟨g + 1 + 1, 0, none⟩))
    (k2 : Blk w g 27 x.C) (k3 : Blk w (g + 1) 3 #[.int .i64 a]) (k4 : Blk w (g + 1 + 1) 29 #[.int .i64 b]) : (results fn tmps).run Try.prog w = .ok (.tuple #[.agg x.C, .int .i64 a, .int .i64 b]) w := by
  have l2 := run_loadVar_row (P := Try.prog) w g 27 27 x.C (0, 0) _ k2 Try.underlying27 rfl (info_node.trans rfl)
  have l3 := run_load1 (P := Try.prog) w ⟨g + 1, 0, none⟩ 3 _ (.int .i64 a) (k3.cellv rfl) Try.underlying3 rfl
  have l4 := run_load1 (P := Try.prog) w ⟨g + 1 + 1, 0, none⟩ 29 _ (.int .i64 b) (k4.cellv rfl) Try.underlying29 rfl
  have h2' : tmps[2]?.getD undef = .pointer (some ⟨g, 0, none⟩) := by simpa using h2
  have h3' : tmps[3]?.getD undef = .pointer (some ⟨g + 1, 0, none⟩) := by simpa using h3
  have h4' : tmps[4]?.getD undef = .pointer (some ⟨g + 1 + 1, 0, none⟩) := by simpa using h4
  simp [results, hres, h2', h3', h4', asAddr, l2, l3, l4]
set_option maxRecDepth 100000 in
set_option maxHeartbeats 8000000 in
theorem parse_any (p : ByteArray) (w : World) (hM : Mx w) :
    Calls Try.prog 12 #[.string p] w fun e w' => Below w.heap.size w w' ∧ ∃ x bs, e = .returned (.tuple #[.agg (NV.C x), .int .i64 ((Ere.parseR p).2.1 : Int), .int .i64 ((Ere.parseR p).2.2 : Int)]) ∧ NdO w' w.heap.size (Ere.parseR p).1 x bs := by
  obtain ⟨r, hr0⟩ : ∃ r, Ere.parseR p = r := ⟨_, rfl⟩
  rw [hr0]
  unfold Ere.parseR at hr0
  have hmf : ∀ (fn : Fn) (first cap : Array Value) (w : World), (Instr.makeFunc fn first cap).run Try.prog w = .ok (.func fn first cap) w := fun _ _ _ _ => rfl
  have hw0 : 0 < w.heap.size := by
    obtain ⟨m, hm⟩ := hM
    rcases Nat.eq_zero_or_pos w.heap.size with e | e
    · unfold World.cell? at hm
      simp [Array.getElem?_eq_none (show w.heap.size ≤ 0 by omega)] at hm
    · exact e
  go_enter_defers Try.func12, Try.ntmps12
  have k2 : Blk (((w.alloc (.cells zeroC 27)).alloc (.cells #[.int .i64 0] 3)).alloc (.cells #[.int .i64 0] 29)) w.heap.size 27 zeroC := ((Blk.new _ _ _).alloc _).alloc _
  have k3 : Blk (((w.alloc (.cells zeroC 27)).alloc (.cells #[.int .i64 0] 3)).alloc (.cells #[.int .i64 0] 29)) (w.heap.size + 1) 3 #[.int .i64 0] := (Blk.new' _ _ _ (by simp)).alloc _
  have k4 : Blk (((w.alloc (.cells zeroC 27)).alloc (.cells #[.int .i64 0] 3)).alloc (.cells #[.int .i64 0] 29)) (w.heap.size + 1 + 1) 29 #[.int .i64 0] := Blk.new' _ _ _ (by simp)
  have hB : Below w.heap.size w (((w.alloc (.cells zeroC 27)).alloc (.cells #[.int .i64 0] 3)).alloc (.cells #[.int .i64 0] 29)) := below_alloc (below_alloc (below_alloc (Below.refl _ _) _) _) _
  unfold zeroC at k2 k3 k4 hB
  go_upto_region 1 with (fail)
  obtain ⟨w1, hw1⟩ : ∃ y, y = ((w.alloc (.cells zeroC 27)).alloc (.cells #[.int .i64 0] 3)).alloc (.cells #[.int .i64 0] 29) := ⟨_, rfl⟩
  unfold zeroC at hw1
  rw [← hw1] at k2 k3 k4 hB
  first | rw [← hw1] | (simp only [World.size_alloc]; rw [← hw1])
  clear hw1
  obtain ⟨g, hg⟩ : ∃ y, y = w.heap.size := ⟨_, rfl⟩
  rw [← hg] at k2 k3 k4 hw0 ⊢
  have hgw := Lib.hid hg
  have hgl := Lib.hid k4.lt
  clear hg
  replace hM := hM.then_ hB
  by_cases hbig : 1024 < p.size
  · rw [if_pos hbig] at hr0
    have hbigI : (1024 : Int) < p.size := by omega
    subst hr0
    go_wp2_with (first
      | (refine wl_build_node rfl _ rfl zeroV #[] rfl (fun w => build_nzero w) ?_)
      | (refine wl_store_nv rfl _ _ rfl g zeroV rfl rfl _ rfl k2 ?_; intro w2 m2 hg2; have m3 := k3.grown hg2 (fun e => by injection e with e; omega); have m4 := k4.grown hg2 (fun e => by injection e with e; omega); have c3 := m3.cellv (i := 0) (v := .int .i64 0) rfl; have f3 := m3.frozen 0; have c4 := m4.cellv (i := 0) (v := .int .i64 0) rfl; have f4 := m4.frozen 0))
    have q3 := (m3.set_ 0 (.int .i64 1024)).far (p := ⟨g + 1 + 1, 0, none⟩) (by simp) (.int .i64 40)
    have q4 := (m4.far (p := ⟨g + 1, 0, none⟩) (by simp) (.int .i64 1024)).set_ 0 (.int .i64 40)
    have q2 := (m2.far (p := ⟨g + 1, 0, none⟩) (by simp) (.int .i64 1024)).far (p := ⟨g + 1 + 1, 0, none⟩) (by simp; omega) (.int .i64 40)
    have hT := ((Turn.refl g (g + 3) w1).grown hg2 (fun q e => by injection e with e; left; omega)).set (b := g + 1) (i := 0) (v := .int .i64 1024) (by omega) (by omega) |>.set (b := g + 1 + 1) (i := 0) (v := .int .i64 40) (by omega) (by omega)
    refine ⟨_, res3 rfl rfl rfl rfl q2 q3 q4, ?_⟩
    have hBB := hB.trans (hT.below (by have := hgw.out; omega) (by have := hgl.out; have := hgw.out; omega))
    exact ⟨hBB, zeroV, rfl, [], NdO.leaf _ _ _ _ _ _⟩
  · rw [if_neg hbig] at hr0
    have hbigI : ¬ (1024 : Int) < p.size := by omega
    have kI := sib_any p 10 w1
    rw [show (10 : Int).toNat.toUInt8 = 10 from rfl, Ere.index_nl] at kI
    obtain ⟨onl, honl⟩ : ∃ o, Ere.nlAt p (p.size + 1) 0 = o := ⟨_, rfl⟩
    rw [honl] at hr0 kI
    replace honl := Lib.hid honl
    cases onl with
    | some j =>
      simp only at hr0 kI
      have hj0 : (0 : Int) ≤ j := by omega
      subst hr0
      go_wp2_with (first
        | (go_at_call 37; refine kI.mono ?_; rintro e w9 ⟨rfl, hw9⟩; rw [hw9]; clear hw9)
        | (refine wl_build_node rfl _ rfl zeroV #[] rfl (fun w => build_nzero w) ?_)
        | (refine wl_store_nv rfl _ _ rfl g zeroV rfl rfl _ rfl k2 ?_; intro w2 m2 hg2; have m3 := k3.grown hg2 (fun e => by injection e with e; omega); have m4 := k4.grown hg2 (fun e => by injection e with e; omega); have c3 := m3.cellv (i := 0) (v := .int .i64 0) rfl; have f3 := m3.frozen 0; have c4 := m4.cellv (i := 0) (v := .int .i64 0) rfl; have f4 := m4.frozen 0))
      have q3 := (m3.set_ 0 (.int .i64 (j : Int))).far (p := ⟨g + 1 + 1, 0, none⟩) (by simp) (.int .i64 41)
      have q4 := (m4.far (p := ⟨g + 1, 0, none⟩) (by simp) (.int .i64 (j : Int))).set_ 0 (.int .i64 41)
      have q2 := (m2.far (p := ⟨g + 1, 0, none⟩) (by simp) (.int .i64 (j : Int))).far (p := ⟨g + 1 + 1, 0, none⟩) (by simp; omega) (.int .i64 41)
      have hT := ((Turn.refl g (g + 3) w1).grown hg2 (fun q e => by injection e with e; left; omega)).set (b := g + 1) (i := 0) (v := .int .i64 (j : Int)) (by omega) (by omega) |>.set (b := g + 1 + 1) (i := 0) (v := .int .i64 41) (by omega) (by omega)
      refine ⟨_, res3 rfl rfl rfl rfl q2 q3 q4, ?_⟩
      have hBB := hB.trans (hT.below (by have := hgw.out; omega) (by have := hgl.out; have := hgw.out; omega))
      exact ⟨hBB, zeroV, rfl, [], NdO.leaf _ _ _ _ _ _⟩
    | none =>
      simp only at hr0 kI
      go_upto_region 7 with (go_at_call 37; refine kI.mono ?_; rintro e w9 ⟨rfl, hw9⟩; rw [hw9]; clear hw9)
      clear kI
      go_upto_region 8 with (fail)
      have hP : Blk (w1.alloc (.cells (rdC p 0) 76)) w1.heap.size 76 (rdC p 0) := Blk.new' _ _ _ rfl
      have hB2 : Below w1.heap.size w1 (w1.alloc (.cells (rdC p 0) 76)) := below_alloc (Below.refl _ _) _
      obtain ⟨w2, hw2⟩ : ∃ y, y = w1.alloc (.cells (rdC p 0) 76) := ⟨_, rfl⟩
      rw [← hw2] at hP hB2
      unfold rdC at hw2
      rw [show ((0 : Nat) : Int) = 0 from rfl] at hw2
      rw [← hw2]
      clear hw2
      have m2 := blk_then k2 hB2
      have m3 := blk_then k3 hB2
      have m4 := blk_then k4 hB2
      have hM2 := hM.then_ hB2
      have hT := Turn.of_below (lo := g) (hi := g + 3) hB2
      obtain ⟨gr, hgr⟩ : ∃ y, y = w1.heap.size := ⟨_, rfl⟩
      rw [← hgr] at hP ⊢
      have hgr2 := Lib.hid (show g + 1 + 1 < gr ∧ 0 < gr by have := hgl.out; omega)
      have kP := pat_any p 64 0 rfl gr 0 w2 hP (by omega) (by omega) hM2 hgr2.out.2
      rw [show ((0 : Nat) : Int) = 0 from rfl] at kP
      obtain ⟨rp, hrp⟩ : ∃ q, Ere.patR p 64 0 = q := ⟨_, rfl⟩
      rw [hrp] at hr0 kP
      replace hrp := Lib.hid hrp
      have hs2 := Lib.hid hB2.size
      have hgw2 := Lib.hid (show gr = w1.heap.size from hgr)
      clear hgr k2 k3 k4 hM hB2
      cases rp with
      | fault e0 a0 =>
        simp only at hr0
        subst hr0
        go_wp2_with (go_at_call 39; refine kP.mono ?_; rintro e w9 ⟨hT9, hfe⟩; unfold faultE at hfe; subst hfe)
        refine leaves_cons (f := 38) (args := #[.pointer (some ⟨g, 0, none⟩), .pointer (some ⟨g + 1, 0, none⟩), .pointer (some ⟨g + 1 + 1, 0, none⟩)]) (by simp) (by simp [go_sem]) ?_
        refine (closure_fault g e0 a0 zeroV (.int .i64 0) (.int .i64 0) _ (blk_turn m2 hT9 (by have := hgr2.out; omega)) (blk_turn m3 hT9 (by have := hgr2.out; omega)) (blk_turn m4 hT9 (by have := hgr2.out; omega))).mono ?_
        rintro e u' w10 ⟨rfl, rfl, hT10, q2, q3, q4⟩
        refine Exists.intro _ (And.intro (res3 rfl rfl rfl rfl q2 q3 q4) ?_)
        have hBB := ((hB.trans (hT.below (N := w.heap.size) (by have := hgw.out; omega) (by have := hB.size; omega))).trans (hT9.below (N := w.heap.size) (by have := hgw.out; have := hgr2.out; omega) (by have := hB.size; have := hs2.out; omega))).trans (hT10.below (N := w.heap.size) (by have := hgw.out; omega) (by have := hB.size; have := hs2.out; have := hT9.size; omega))
        exact ⟨hBB, zeroV, rfl, [], NdO.leaf _ _ _ _ _ _⟩
      | got t j =>
        simp only at hr0
        have kPl := fun (x : NV) (bs : List Nat) (W : World) (h : NdO W w2.heap.size t x bs) => placesE_any t W.heap.size W x.C h.toIn (Nat.le_refl _)
        rw [placesN_eq] at kPl
        have hplb : Ere.placesN t ≤ 2049 := by unfold Ere.placesN; split <;> omega
        obtain ⟨np, hnp⟩ : ∃ q, Ere.placesN t = q := ⟨_, rfl⟩
        rw [hnp] at hr0 kPl hplb
        replace kPl := Lib.hid kPl
        replace hnp := Lib.hid hnp
        go_upto_region 9 with (first
          | (go_at_call 39; refine kP.mono ?_; rintro e w3 ⟨hT3, hP3, x, bs, rfl, hO3⟩; have n2 := blk_turn m2 hT3 (by have := hgr2.out; omega))
          | (refine wl_store_nv rfl _ _ rfl g x rfl rfl _ rfl n2 ?_; intro w4 h2 hg4))
        have h3 := (blk_turn m3 hT3 (by have := hgr2.out; omega)).grown hg4 (fun e => by injection e with e; omega)
        have h4 := (blk_turn m4 hT3 (by have := hgr2.out; omega)).grown hg4 (fun e => by injection e with e; omega)
        have hO4 := hO3.keep (w' := w4) (fun b hb => hg4.block b (hO3.lt b hb).2 (fun e => by injection e with e; have := (hO3.lt b hb).1; have := hgr2.out; have := hs2.out; have := hgw2.out; omega))
        have hT4 : Turn g (g + 3) w3 w4 := (Turn.refl g (g + 3) w3).grown hg4 (fun q e => by injection e with e; left; omega)
        have hs3 := Lib.hid hT3.size
        clear hg4 hO3 n2 m2 m3 m4 hP3 kP hP
        have kQ := kPl.out x bs w4 hO4
        have hBB4 := Lib.hid (((hB.trans (hT.below (N := w.heap.size) (by have := hgw.out; omega) (by have := hB.size; omega))).trans (hT3.below (N := w.heap.size) (by have := hgw.out; have := hgr2.out; omega) (by have := hB.size; have := hs2.out; omega))).trans (hT4.below (N := w.heap.size) (by have := hgw.out; omega) (by have := hB.size; have := hs2.out; have := hs3.out; omega)))
        have hsz4 := Lib.hid (show w2.heap.size ≤ w4.heap.size by have := hs3.out; have := hT4.size; omega)
        replace hB := Lib.hid hB.size
        clear hT hT3 hT4 kPl
        go_upto_if 25 with (first
          | (refine wl_load_nv rfl _ rfl g rfl x h2 ?_)
          | (go_at_call 16; refine kQ.mono ?_; rintro e w5 ⟨rfl, hB5⟩))
        clear kQ
        replace h2 := blk_then h2 hB5
        replace h3 := blk_then h3 hB5
        replace h4 := blk_then h4 hB5
        replace hO4 := hO4.then_ hB5
        by_cases hbp : 2048 < np
        · rw [if_pos hbp] at hr0
          subst hr0
          have hbpI : (2048 : Int) < np := by omega
          go_wp2_with (go_at_call 40; refine (give_any 48 0 _).mono ?_; rintro e w6 ⟨hfe, hB6⟩; unfold faultE at hfe; subst hfe)
          refine leaves_cons (f := 38) (args := #[.pointer (some ⟨g, 0, none⟩), .pointer (some ⟨g + 1, 0, none⟩), .pointer (some ⟨g + 1 + 1, 0, none⟩)]) (by simp) (by simp [go_sem]) ?_
          refine (closure_fault g 48 0 x (.int .i64 0) (.int .i64 0) _ (blk_then h2 hB6) (blk_then h3 hB6) (blk_then h4 hB6)).mono ?_
          rintro e u' w10 ⟨rfl, rfl, hT10, q2, q3, q4⟩
          refine Exists.intro _ (And.intro (res3 rfl rfl rfl rfl q2 q3 q4) ?_)
          have hBB := ((hBB4.out.trans (hB5.mono (by have := hB.out; have := hs2.out; have := hsz4.out; omega))).trans (hB6.mono (by have := hB.out; have := hs2.out; have := hsz4.out; have := hB5.size; omega))).trans (hT10.below (N := w.heap.size) (by have := hgw.out; omega) (by have := hB.out; have := hs2.out; have := hsz4.out; have := hB5.size; have := hB6.size; omega))
          exact ⟨hBB, zeroV, rfl, [], NdO.leaf _ _ _ _ _ _⟩
        · rw [if_neg hbp] at hr0
          subst hr0
          have hbpI : (np : Int) ≤ 2048 := by omega
          go_wp2_with (first
            | (refine wl_load_nv rfl _ rfl g rfl x h2 ?_)
            | (refine wl_store_nv rfl _ _ rfl g x rfl rfl _ rfl h2 ?_; intro w6 n2 hg6; have n3 := h3.grown hg6 (fun e => by injection e with e; omega); have n4 := h4.grown hg6 (fun e => by injection e with e; omega); have c3 := n3.cellv (i := 0) (v := .int .i64 0) rfl; have f3 := n3.frozen 0; have c4 := n4.cellv (i := 0) (v := .int .i64 0) rfl; have f4 := n4.frozen 0))
          refine leaves_cons (f := 38) (args := #[.pointer (some ⟨g, 0, none⟩), .pointer (some ⟨g + 1, 0, none⟩), .pointer (some ⟨g + 1 + 1, 0, none⟩)]) (by simp) (by simp [go_sem]) ?_
          refine (closure_idle ⟨g, 0, none⟩ ⟨g + 1, 0, none⟩ ⟨g + 1 + 1, 0, none⟩ _).mono ?_
          rintro e u' w10 ⟨rfl, rfl, rfl⟩
          have q3 := (n3.set_ 0 (.int .i64 0)).far (p := ⟨g + 1 + 1, 0, none⟩) (by simp) (.int .i64 0)
          have q4 := (n4.far (p := ⟨g + 1, 0, none⟩) (by simp) (.int .i64 0)).set_ 0 (.int .i64 0)
          have q2 := (n2.far (p := ⟨g + 1, 0, none⟩) (by simp) (.int .i64 0)).far (p := ⟨g + 1 + 1, 0, none⟩) (by simp; omega) (.int .i64 0)
          have hT6 := ((Turn.refl g (g + 3) w5).grown hg6 (fun q e => by injection e with e; left; omega)).set (b := g + 1) (i := 0) (v := .int .i64 0) (by omega) (by omega) |>.set (b := g + 1 + 1) (i := 0) (v := .int .i64 0) (by omega) (by omega)
          refine Exists.intro _ (And.intro (res3 rfl rfl rfl rfl q2 q3 q4) ?_)
          have hBB := (hBB4.out.trans (hB5.mono (by have := hB.out; have := hs2.out; have := hsz4.out; omega))).trans (hT6.below (N := w.heap.size) (by have := hgw.out; omega) (by have := hB.out; have := hs2.out; have := hsz4.out; have := hB5.size; omega))
          have hO6 := (hO4.mono (show w.heap.size ≤ w2.heap.size by have := hB.out; have := hs2.out; omega)).keep (w' := (w6.setCell ⟨g + 1, 0, none⟩ (.int .i64 0)).setCell ⟨g + 1 + 1, 0, none⟩ (.int .i64 0)) (fun b hb => hT6.block b (hO4.lt b hb).2 (.inr (by have := (hO4.lt b hb).1; have := hgr2.out; have := hs2.out; have := hgw2.out; omega)))
          exact ⟨hBB, x, rfl, bs, hO6⟩
end Go.Proofs.Ytajainmldcnaeaa
namespace Go.Proofs.Ytajainmldcnaeaa
set_option linter.unusedVariables false
set_option linter.unusedSimpArgs false

namespace Ere
def okE (e : Nat) : Prop := e = 30 ∨ (42 ≤ e ∧ e ≤ 47)
theorem countsR_bad {p : ByteArray} {i e a : Nat} (h : countsR p i = .fault e a) : e = 45 ∧ a = i := by
  unfold countsR at h
  simp only at h
  split at h
  · split at h
    · cases h
    · split at h
      · injection h with h1 h2; exact ⟨h1.symm, h2.symm⟩
      · cases h
  · split at h
    · injection h with h1 h2; exact ⟨h1.symm, h2.symm⟩
    · cases h
theorem repeatR_bad {p : ByteArray} {t : Nd} {i e a : Nat} (h : repeatR p t i = .fault e a) : e = 45 ∧ a = i ∧ i < p.size := by
  unfold repeatR at h
  split at h
  · cases h
  split at h
  · cases h
  split at h
  · cases h
  split at h
  · rename_i h3
    cases hc : countsR p i with
    | fault e' a' =>
      rw [hc] at h
      injection h with h1 h2
      have := countsR_bad hc
      exact ⟨by omega, by omega, isAt_lt h3⟩
    | got c j => rw [hc] at h; cases h
  · cases h
theorem classR_bad {p : ByteArray} {s i e a : Nat} (h : classR p s i = .fault e a) : (e = 43 ∧ a = s) ∨ (e = 30 ∧ a = i) := by
  unfold classR at h
  split at h
  · injection h with h1 h2; exact .inl ⟨h1.symm, h2.symm⟩
  · split at h
    · injection h with h1 h2; exact .inr ⟨h1.symm, h2.symm⟩
    · cases h
theorem itemR_bad {p : ByteArray} {s i e a : Nat} (h : itemR p s i = .fault e a) : (e = 43 ∨ e = 30) ∧ (a = s ∨ a = i) := by
  unfold itemR at h
  split at h
  · rcases classR_bad h with h | h <;> omega
  · split at h
    · injection h with h1 h2; omega
    · split at h
      · cases h
      · split at h
        · injection h with h1 h2; omega
        · cases h
theorem itemsR_bad {p : ByteArray} {s : Nat} : ∀ n first i x e a, p.size + 1 ≤ n + i → i ≤ p.size → itemsR p s n first i x = .fault e a → (e = 43 ∨ e = 30) ∧ (a = s ∨ (i ≤ a ∧ a < p.size))
  | 0, _, i, _, _, _, hn, hi, _ => by omega
  | n + 1, first, i, x, e, a, hn, hi, h => by
    unfold itemsR at h
    split at h
    · cases h
    · split at h
      · injection h with h1 h2; omega
      · rename_i h1 h2
        cases hc : itemR p s i with
        | fault e' a' =>
          rw [hc] at h
          injection h with h3 h4
          have := itemR_bad hc
          omega
        | got t j =>
          rw [hc] at h
          have hf := itemR_fwd hc (by omega)
          have := itemsR_bad n false j _ e a (by omega) hf.2 h
          omega
theorem setR_bad {p : ByteArray} {s i e a : Nat} (hi : i ≤ p.size) (h : setR p s i = .fault e a) : (e = 43 ∨ e = 30) ∧ (a = s ∨ (i ≤ a ∧ a < p.size)) := by
  unfold setR at h
  cases hc : itemsR p s (p.size + 2) true (if isAt p i 94 then i + 1 else i) 0 with
  | fault e' a' =>
    rw [hc] at h
    injection h with h3 h4
    have hb : (if isAt p i 94 then i + 1 else i) ≤ p.size ∧ i ≤ (if isAt p i 94 then i + 1 else i) := by
      split
      · rename_i h5
        have := isAt_lt h5
        omega
      · omega
    have := itemsR_bad (p.size + 2) true _ 0 e' a' (by omega) hb.1 hc
    omega
  | got t j => rw [hc] at h; cases h
/-- what faults of a reader from i on are like -/
def BadF (p : ByteArray) (i e a : Nat) : Prop := okE e ∧ i ≤ a ∧ a < p.size
theorem pieceR_bad {p : ByteArray} {inner : Option (Nat → Res Nd)} (hfw : ∀ f, inner = some f → ∀ i t j, i ≤ p.size → f i = .got t j → i ≤ j ∧ j ≤ p.size) (hin : ∀ f, inner = some f → ∀ i e a, i ≤ p.size → f i = .fault e a → BadF p i e a) {i e a : Nat} (hi : i < p.size) (h : pieceR p inner i = .fault e a) : BadF p i e a := by
  unfold pieceR at h
  simp only at h
  split at h
  · cases h
  split at h
  · cases h
  split at h
  · injection h with h1 h2; unfold BadF okE; omega
  split at h
  · cases inner with
    | none => injection h with h1 h2; unfold BadF okE; omega
    | some f =>
      simp only at h
      cases hf : f (i + 1) with
      | fault e' a' =>
        rw [hf] at h
        injection h with h1 h2
        have := hin f rfl (i + 1) e' a' (by omega) hf
        unfold BadF at this ⊢
        subst h1 h2
        exact ⟨this.1, by omega, this.2.2⟩
      | got u k =>
        rw [hf] at h
        simp only [Res.bind] at h
        have h1 := hfw f rfl (i + 1) u k (by omega) hf
        split at h
        · injection h with h1 h2; unfold BadF okE; omega
        · have := repeatR_bad h
          unfold BadF okE; omega
  split at h
  · cases hf : setR p i (i + 1) with
    | fault e' a' =>
      rw [hf] at h
      injection h with h1 h2
      have := setR_bad (by omega) hf
      unfold BadF okE; omega
    | got u k =>
      rw [hf] at h
      simp only [Res.bind] at h
      have h1 := setR_fwd hf
      have := repeatR_bad h
      unfold BadF okE; omega
  split at h
  · have := repeatR_bad h
    unfold BadF okE; omega
  split at h
  · split at h
    · have := repeatR_bad h
      unfold BadF okE; omega
    · injection h with h1 h2; unfold BadF okE; omega
  · have := repeatR_bad h
    unfold BadF okE; omega
theorem altR_bad {p : ByteArray} {top : Bool} {pc : Nat → Res Nd} (hpc : ∀ i t j, i < p.size → pc i = .got t j → i < j ∧ j ≤ p.size) (hbad : ∀ i e a, i < p.size → pc i = .fault e a → BadF p i e a) : ∀ n i l e a, p.size + 1 ≤ n + i → i ≤ p.size → altR p top pc n i l = .fault e a → BadF p i e a
  | 0, i, _, _, _, hn, hi, _ => by omega
  | n + 1, i, l, e, a, hn, hi, h => by
    unfold altR at h
    split at h
    · cases h
    · rename_i h1
      simp only [Bool.or_eq_true, decide_eq_true_eq, not_or] at h1
      split at h
      · split at h
        · injection h with h1 h2; unfold BadF okE; omega
        · cases h
      · cases hc : pc i with
        | fault e' a' =>
          rw [hc] at h
          injection h with h2 h3
          subst h2 h3
          exact hbad i _ _ (by omega) hc
        | got u k =>
          rw [hc] at h
          have h2 := hpc i u k (by omega) hc
          have h3 := altR_bad hpc hbad n k (l ++ [u]) e a (by omega) h2.2 h
          unfold BadF at h3 ⊢
          exact ⟨h3.1, by omega, h3.2.2⟩
theorem patL_bad {p : ByteArray} {al : Nat → Res Nd} (hal : ∀ i t j, i ≤ p.size → al i = .got t j → i ≤ j ∧ j ≤ p.size) (hbad : ∀ i e a, i ≤ p.size → al i = .fault e a → BadF p i e a) : ∀ n i l e a, p.size + 1 ≤ n + i → i ≤ p.size → patL p al n i l = .fault e a → BadF p i e a
  | 0, i, _, _, _, hn, hi, _ => by omega
  | n + 1, i, l, e, a, hn, hi, h => by
    unfold patL at h
    cases hc : al i with
    | fault e' a' =>
      rw [hc] at h
      injection h with h2 h3
      subst h2 h3
      exact hbad i _ _ hi hc
    | got u k =>
      rw [hc] at h
      simp only [Res.bind] at h
      have h2 := hal i u k hi hc
      split at h
      · rename_i h4
        have := isAt_lt h4
        have h3 := patL_bad hal hbad n (k + 1) (l ++ [u]) e a (by omega) (by omega) h
        unfold BadF at h3 ⊢
        exact ⟨h3.1, by omega, h3.2.2⟩
      · cases h
theorem patR_bad {p : ByteArray} : ∀ n i e a, i ≤ p.size → patR p n i = .fault e a → BadF p i e a
  | 0, i, e, a, hi, h => by
    unfold patR at h
    exact patL_bad (fun i t j hi h => altR_fwd (fun i t j hi h => pieceR_fwd (fun f e => by cases e) h hi) _ _ _ _ _ hi h)
      (fun i e a hi h => altR_bad (fun i t j hi h => pieceR_fwd (fun f e => by cases e) h hi) (fun i e a hi h => pieceR_bad (fun f e => by cases e) (fun f e => by cases e) hi h) _ _ _ _ _ (by omega) hi h) _ _ _ _ _ (by omega) hi h
  | n + 1, i, e, a, hi, h => by
    unfold patR at h
    have hf : ∀ f, some (patR p n) = some f → ∀ i t j, i ≤ p.size → f i = .got t j → i ≤ j ∧ j ≤ p.size := fun f e => by injection e with e; subst e; exact fun i t j hi h => patR_fwd n i t j hi h
    have hb : ∀ f, some (patR p n) = some f → ∀ i e a, i ≤ p.size → f i = .fault e a → BadF p i e a := fun f e => by injection e with e; subst e; exact fun i e a hi h => patR_bad n i e a hi h
    exact patL_bad (fun i t j hi h => altR_fwd (fun i t j hi h => pieceR_fwd hf h hi) _ _ _ _ _ hi h)
      (fun i e a hi h => altR_bad (fun i t j hi h => pieceR_fwd hf h hi) (fun i e a hi h => pieceR_bad hf hb hi h) _ _ _ _ _ (by omega) hi h) _ _ _ _ _ (by omega) hi h
end Ere
end Go.Proofs.Ytajainmldcnaeaa
namespace Go.Proofs.Ytajainmldcnaeaa
open Go.RowKit Go.Maps
set_option linter.unusedVariables false
set_option linter.unusedSimpArgs false
attribute [local go_sem] Oper.semAt_some

theorem gs_load_nd {ops : Array Oper} {S : Nat → GSpec} {Q : Exit → Act → World → Prop} {i : Nat} {o : Oper} {a : Act} {w : World} (hw : Region.wanted o (yielded ops a.tmps) = true) (x : Operand) (ho : o.op = .load 27 x) (b off : Nat) (hx : a.eval x = .pointer (some ⟨b, off, none⟩)) (cs : Array Value)
    (hr : RowAt w b off cs ∧ cs.size = 8) (hp : (S i).p (.agg cs) w) : GStep Try.prog ops S Q i o a w :=
  gs_run hw (v := .agg cs) (by unfold execOp; simp only [ho, hx, Instr.loadAt, Instr.sureAddr, Sem.run_bind, Sem.run_pure, Result.andThen_ok, run_loadVar_at w b off _ _ _ hr.1 Try.underlying27 rfl (info_node.trans (by rw [hr.2]))]) (Below.refl _ _) hp
end Go.Proofs.Ytajainmldcnaeaa
namespace Go.Proofs.Ytajainmldcnaeaa
open Go.RowKit Go.Maps
set_option linter.unusedVariables false
set_option linter.unusedSimpArgs false
attribute [local go_sem] Oper.semAt_some

theorem NdIn.more {w : World} {B B' : Nat} (hB : B ≤ B') {nd : Nd} {cs : Array Value} (h : NdIn w B nd cs) : NdIn w B' nd cs := by
  induction h with
  | mk kd st l mi ma A n c cl hn hcl hmax hs hr ih => exact .mk kd st l mi ma A n c cl hn hcl hmax (hs.more hB) ih
theorem NdIn.leaf (w : World) (B : Nat) (kd : Int) (st : BSet) (mi ma : Int) : NdIn w B (.mk kd st [] mi ma) (nodeC kd st none 0 0 mi ma) :=
  .mk kd st [] mi ma none 0 0 [] rfl rfl (by omega) (.inl rfl) (fun i h => absurd h (by simp))
section
variable {ops : Array Oper} {rest : List Oper} {o : Oper} {a : Act} {w : World} {Q : Exit → Act → World → Prop}
end
section
variable {ops : Array Oper} {S : Nat → GSpec} {Q : Exit → Act → World → Prop} {i : Nat} {o : Oper} {a : Act} {w : World}
end
end Go.Proofs.Ytajainmldcnaeaa
namespace Go.Proofs.Ytajainmldcnaeaa
open Go.RowKit Go.Maps
set_option linter.unusedVariables false
set_option linter.unusedSimpArgs false
attribute [local go_sem] Oper.semAt_some

/-- the reference reader's five cells -/
def rrC (p : ByteArray) (i : Nat) (A : Option Addr) (n c : Nat) (e a : Nat) : Array Value := #[.string p, .int .i64 (i : Int), .slice A n c, .int .i64 (e : Int), .int .i64 (a : Int)]
section
variable {g : Nat} {p : ByteArray} {k n c e0 a0 : Nat} {A : Option Addr} {w : World}
end
end Go.Proofs.Ytajainmldcnaeaa
namespace Go.Proofs.Ytajainmldcnaeaa
open Go.RowKit Go.Maps
set_option linter.unusedVariables false
set_option linter.unusedSimpArgs false
attribute [local go_sem] Oper.semAt_some

namespace Ere
end Ere
theorem notB0_get (i : Nat) (hi : i < 256) : (notB 0).getLsbD i = (i != 10) := by
  rw [← setTo_hasnt, setTo_get _ _ _ hi, decide_eq_true hi, Bool.true_and]
  unfold hasnt
  simp
end Go.Proofs.Ytajainmldcnaeaa
namespace Go.Proofs.Ytajainmldcnaeaa
open Go.RowKit Go.Maps
set_option linter.unusedVariables false
set_option linter.unusedSimpArgs false
attribute [local go_sem] Oper.semAt_some

/-- a block of ints -/
def IntBlk (w : World) (k : Nat) : Prop := ∃ cs, Blk w k 3 cs
/-- what may turn: block g; blocks of ints from lo on -/
structure TR (lo g : Nat) (w w' : World) : Prop where
  os : w'.os = w.os
  tape : w'.tape = w.tape
  output : w'.output = w.output
  size : w.heap.size ≤ w'.heap.size
  block : ∀ k, k < w.heap.size → k ≠ g → (k < lo ∨ ¬ IntBlk w k) → w'.heap[k]? = w.heap[k]?
section
variable {lo g : Nat} {w w' w2 : World}
theorem TR.refl (lo g : Nat) (w : World) : TR lo g w w := ⟨rfl, rfl, rfl, Nat.le_refl _, fun _ _ _ _ => rfl⟩
theorem int_eq {k : Nat} (e : w'.heap[k]? = w.heap[k]?) (h : IntBlk w' k) : IntBlk w k := by
  obtain ⟨cs, h⟩ := h
  exact ⟨cs, e.symm.trans h⟩
theorem TR.trans (h : TR lo g w w') (k : TR lo g w' w2) : TR lo g w w2 :=
  ⟨k.os.trans h.os, k.tape.trans h.tape, k.output.trans h.output, Nat.le_trans h.size k.size, fun j hj hn hh => by
    have e := h.block j hj hn hh
    refine (k.block j (Nat.lt_of_lt_of_le hj h.size) hn ?_).trans e
    rcases hh with hh | hh
    · exact .inl hh
    · exact .inr fun hI => hh (int_eq e hI)⟩
theorem TR.of_turn (h : Turn g (g + 1) w w') : TR lo g w w' := ⟨h.os, h.tape, h.output, h.size, fun k hk hn _ => h.block k hk (by omega)⟩
theorem TR.of_below (h : Below w.heap.size w w') : TR lo g w w' := TR.of_turn (Turn.of_below h)
theorem TR.then_ (h : TR lo g w w') (k : Below w'.heap.size w' w2) : TR lo g w w2 := h.trans (TR.of_below k)
theorem TR.turn (h : TR lo g w w') (k : Turn g (g + 1) w' w2) : TR lo g w w2 := h.trans (TR.of_turn k)
theorem TR.grown {row : Option Nat} (h : TR lo g w w') (hg : w'.grownBy w2 row) (hr : ∀ b, row = some b → b = g ∨ w.heap.size ≤ b ∨ (lo ≤ b ∧ IntBlk w' b)) : TR lo g w w2 :=
  ⟨hg.os.trans h.os, hg.tape.trans h.tape, hg.output.trans h.output, Nat.le_trans h.size hg.size, fun j hj hn hh => by
    have e := h.block j hj hn hh
    refine (hg.block j (Nat.lt_of_lt_of_le hj h.size) (fun er => ?_)).trans e
    rcases hr j er.symm with h1 | h1 | ⟨h1, h2⟩
    · exact hn h1
    · omega
    · rcases hh with hh | hh
      · omega
      · exact hh (int_eq e h2)⟩
theorem own_typed {α : Type} {enc : α → Array Value} {size base : Nat} {e : TypeId} {v : Value} {ys : List α} (h : Own w base e size enc v ys) : ∀ b, v.ownBlock = some b → ∃ cs, Blk w b e cs := by
  intro b hb
  rcases h.2 with ⟨hv, _⟩ | ⟨k, cap, cur, hv, _, hh, _⟩
  · rw [hv] at hb; cases hb
  · rw [hv] at hb
    simp only [Value.ownBlock, Option.some.injEq] at hb
    subst hb
    exact ⟨cur, hh⟩
theorem NdO.typed {B : Nat} {nd : Nd} {x : NV} {bs : List Nat} (h : NdO w B nd x bs) : ∀ b ∈ bs, ∃ cs, Blk w b 27 cs := by
  induction h with
  | mk kd st l mi ma A n c cl bl hn hcl hbl hmax ho hr hd ih =>
    intro b hb
    rcases List.mem_append.1 hb with hb | hb
    · exact own_typed ho b (mem_ownL.1 hb)
    · obtain ⟨q, hq, hb⟩ := List.mem_flatten.1 hb
      obtain ⟨i, hi, rfl⟩ := List.mem_iff_getElem.1 hq
      exact ih i (by omega) (by omega) hi b hb
def encO (z : Int) : Array Value := #[.int .i64 z]
/-- the places of the groups that are open: an own list; only its length matters -/
def OpenOk (w : World) (lo : Nat) (A : Option Addr) (n c : Nat) : Prop := ∃ xs : List Int, xs.length = n ∧ Own w lo 3 1 encO (.slice A n c) xs
variable {A : Option Addr} {n c : Nat}
theorem OpenOk.nil_ (w : World) (lo : Nat) : OpenOk w lo none 0 0 := ⟨[], rfl, Own.nil_ _ _ _ _ _⟩
theorem OpenOk.keep (h : OpenOk w lo A n c) (hk : ∀ b, (Value.slice A n c).ownBlock = some b → w'.heap[b]? = w.heap[b]?) : OpenOk w' lo A n c := by
  obtain ⟨xs, h1, h2⟩ := h
  exact ⟨xs, h1, own_block h2 hk⟩
theorem OpenOk.lt (h : OpenOk w lo A n c) : ∀ b, (Value.slice A n c).ownBlock = some b → lo ≤ b ∧ b < w.heap.size := by
  obtain ⟨xs, h1, h2⟩ := h
  exact h2.lt
theorem OpenOk.typed (h : OpenOk w lo A n c) : ∀ b, (Value.slice A n c).ownBlock = some b → IntBlk w b := by
  obtain ⟨xs, h1, h2⟩ := h
  exact own_typed h2
theorem OpenOk.ne (h : OpenOk w lo A n c) {b : Nat} {t : TypeId} {cs : Array Value} (hb : Blk w b t cs) (ht : t ≠ 3) : ∀ k, (Value.slice A n c).ownBlock = some k → k ≠ b := by
  rintro k hk rfl
  obtain ⟨cs', h'⟩ := h.typed k hk
  have e := hb.symm.trans h'
  injection e with e
  injection e with _ e
  exact ht e
theorem OpenOk.then_ (h : OpenOk w lo A n c) (hb : Below w.heap.size w w') : OpenOk w' lo A n c := h.keep fun b hk => hb.block b (h.lt b hk).2
theorem OpenOk.turn (h : OpenOk w lo A n c) {t : TypeId} {cs : Array Value} (hb : Blk w g t cs) (ht : t ≠ 3) (k : Turn g (g + 1) w w') : OpenOk w' lo A n c :=
  h.keep fun b hk => k.block b (h.lt b hk).2 (by have := h.ne hb ht b hk; omega)
theorem OpenOk.grown {r : Nat} (h : OpenOk w lo A n c) {t : TypeId} {cs : Array Value} (hb : Blk w r t cs) (ht : t ≠ 3) (hg : w.grownBy w' (some r)) : OpenOk w' lo A n c :=
  h.keep fun b hk => hg.block b (h.lt b hk).2 (fun e => h.ne hb ht b hk (by injection e))
end
/-- what a part of the document's reader that may open groups hands back -/
def RtAns (lo g : Nat) (p : ByteArray) (n : Nat) (w : World) (B : Nat) (r : Ere.Res Nd) (e : Ending) (w' : World) : Prop := TR lo g w w' ∧ match r with
  | .got t j => (∃ A c, Blk w' g 82 (rrC p j A n c 0 0) ∧ OpenOk w' lo A n c) ∧ ∃ x bs, e = .returned (.agg (NV.C x)) ∧ NdO w' B t x bs
  | .fault en at_ => en ≠ 0 ∧ (∃ x : NV, e = .returned (.agg x.C)) ∧ ∃ i' A' n' c', Blk w' g 82 (rrC p i' A' n' c' en at_)
end Go.Proofs.Ytajainmldcnaeaa
namespace Go.Proofs.Ytajainmldcnaeaa
open Go.RowKit Go.Maps
set_option linter.unusedVariables false
set_option linter.unusedSimpArgs false
attribute [local go_sem] Oper.semAt_some

namespace Ere
theorem repeatR_end {p : ByteArray} {t : Nd} {j : Nat} (h : p.size ≤ j) : repeatR p t j = .got t j := by
  have e : ∀ c, isAt p j c = false := fun c => by unfold isAt; rw [decide_eq_false (by omega), Bool.false_and]
  unfold repeatR
  rw [e, e, e, e]
  rfl
/-- where an alternative ends -/
theorem altR_end {p : ByteArray} {top : Bool} {pc : Nat → Res Nd} : ∀ n i l t j, altR p top pc n i l = .got t j → p.size ≤ j ∨ isAt p j 124 = true ∨ isAt p j 41 = true
  | 0, _, _, _, _, h => by cases h
  | n + 1, i, l, t, j, h => by
    unfold altR at h
    split at h
    · rename_i h1
      injection h with _ h
      subst h
      simp only [Bool.or_eq_true, decide_eq_true_eq] at h1
      rcases h1 with h1 | h1
      · exact .inl h1
      · exact .inr (.inl h1)
    · split at h
      · rename_i h2
        split at h
        · cases h
        · injection h with _ h
          subst h
          exact .inr (.inr h2)
      · cases hc : pc i with
        | fault e k => rw [hc] at h; cases h
        | got u k =>
          rw [hc] at h
          exact altR_end n k _ t j h
theorem patL_end {p : ByteArray} {al : Nat → Res Nd} (hal : ∀ i t j, al i = .got t j → p.size ≤ j ∨ isAt p j 124 = true ∨ isAt p j 41 = true) : ∀ n i l t j, patL p al n i l = .got t j → p.size ≤ j ∨ isAt p j 41 = true
  | 0, _, _, _, _, h => by cases h
  | n + 1, i, l, t, j, h => by
    unfold patL at h
    cases hc : al i with
    | fault e k => rw [hc] at h; cases h
    | got u k =>
      rw [hc] at h
      simp only [Res.bind] at h
      split at h
      · exact patL_end hal n _ _ t j h
      · rename_i h1
        injection h with _ h
        subst h
        rcases hal i u k hc with h2 | h2 | h2
        · exact .inl h2
        · exact absurd h2 h1
        · exact .inr h2
theorem patR_end {p : ByteArray} : ∀ n i t j, patR p n i = .got t j → p.size ≤ j ∨ isAt p j 41 = true
  | 0, i, t, j, h => by
    unfold patR at h
    exact patL_end (fun i t j h => altR_end _ _ _ _ _ h) _ _ _ _ _ h
  | n + 1, i, t, j, h => by
    unfold patR at h
    exact patL_end (fun i t j h => altR_end _ _ _ _ _ h) _ _ _ _ _ h
end Ere
end Go.Proofs.Ytajainmldcnaeaa
namespace Go.Proofs.Ytajainmldcnaeaa
open Go.RowKit Go.Maps
set_option linter.unusedVariables false
set_option linter.unusedSimpArgs false
attribute [local go_sem] Oper.semAt_some

/-- a list's node, as cells -/
def someV (kd : Int) (A : Option Addr) (n c : Nat) (cl : List NV) : NV := match cl with
  | [] => ⟨1, 0, none, 0, 0, 0, 0⟩
  | [y] => y
  | _ => ⟨kd, 0, A, n, c, 0, 0⟩
theorem NdL.some_ {w : World} {B : Nat} {A : Option Addr} {n c : Nat} {l : List Nd} {cl : List NV} {bl : List (List Nat)} (h : NdL w B A n c l cl bl) (kd : Int) : ∃ bs, NdO w B (Ere.someN kd l) (someV kd A n c cl) bs := by
  rcases l with _ | ⟨t, _ | ⟨t2, l⟩⟩
  · have hcl := h.hcl
    obtain rfl : cl = [] := List.length_eq_zero_iff.1 (by simpa using hcl)
    exact ⟨_, NdO.leaf _ _ _ _ _ _⟩
  · have hcl := h.hcl
    obtain ⟨x, rfl⟩ : ∃ x, cl = [x] := List.length_eq_one_iff.1 (by simpa using hcl)
    have hbl := h.hbl
    obtain ⟨bs, rfl⟩ : ∃ x, bl = [x] := List.length_eq_one_iff.1 (by simpa using hbl)
    have ht := h.hr 0 (by simp) (by simp) (by simp)
    simp only [List.getElem_cons_zero] at ht
    exact ⟨bs, ht⟩
  · have hcl := h.hcl
    rcases cl with _ | ⟨y, _ | ⟨y2, cl⟩⟩
    · simp at hcl
    · simp at hcl
    · exact ⟨_, h.node kd 0 0 0⟩
/-- how a list's reader stands at its end: as it should, or with a fault -/
def LsEnd (lo g : Nat) (p : ByteArray) (n0 B : Nat) (kd : Int) (A : Option Addr) (n c : Nat) (cl : List NV) (r : Ere.Res Nd) (w : World) : Prop :=
  (∃ l bl j A5 c5, NdL w B A n c l cl bl ∧ Blk w g 82 (rrC p j A5 n0 c5 0 0) ∧ OpenOk w lo A5 n0 c5 ∧ r = .got (Ere.someN kd l) j) ∨
  (∃ en at_ i' A' n' c', en ≠ 0 ∧ r = .fault en at_ ∧ Blk w g 82 (rrC p i' A' n' c' en at_))
theorem LsEnd.ans {lo g : Nat} {p : ByteArray} {n0 B : Nat} {kd : Int} {A : Option Addr} {n c : Nat} {cl : List NV} {r : Ere.Res Nd} {w w1 w2 : World} {g4 : Nat} {t : TypeId} {old : Array Value} (h : LsEnd lo g p n0 B kd A n c cl r w1) (hT : TR lo g w w1) (h4 : Blk w1 g4 t old) (ht : t ≠ 3) (hg : w1.grownBy w2 (some g4)) (h1 : w.heap.size ≤ g4) (h2 : g4 ≠ g) (h3 : g4 < B) (h5 : w.heap.size ≤ B) {x : NV} (hx : x = someV kd A n c cl) : RtAns lo g p n0 w w.heap.size r (.returned (.agg x.C)) w2 := by
  subst hx
  have hT2 : TR lo g w w2 := hT.grown hg (fun q e => by injection e with e; right; left; omega)
  rcases h with ⟨l, bl, j, A5, c5, hL, hP, hO, rfl⟩ | ⟨en, at_, i', A', n', c', hnz, rfl, hP⟩
  · obtain ⟨bs, hN⟩ := hL.some_ kd
    exact ⟨hT2, ⟨A5, c5, hP.grown hg (fun e => by injection e with e; omega), hO.grown h4 ht hg⟩, _, bs, rfl, (hN.mono h5).keep (fun b hb => hg.block b (hN.lt b hb).2 (fun e => by injection e with e; have := (hN.lt b hb).1; omega))⟩
  · exact ⟨hT2, hnz, ⟨_, rfl⟩, i', A', n', c', hP.grown hg (fun e => by injection e with e; omega)⟩
end Go.Proofs.Ytajainmldcnaeaa
namespace Go.Proofs.Ytajainmldcnaeaa
open Go.RowKit Go.Maps
set_option linter.unusedVariables false
set_option linter.unusedSimpArgs false
attribute [local go_sem] Oper.semAt_some

/-- a block of lists of nodes -/
def LsBlk (w : World) (k : Nat) : Prop := ∃ cs, Blk w k 25 cs
/-- what may turn: blocks of lists of nodes from lo on -/
structure QT (lo : Nat) (w w' : World) : Prop where
  os : w'.os = w.os
  tape : w'.tape = w.tape
  output : w'.output = w.output
  size : w.heap.size ≤ w'.heap.size
  block : ∀ k, k < w.heap.size → (k < lo ∨ ¬ LsBlk w k) → w'.heap[k]? = w.heap[k]?
section
variable {lo : Nat} {w w' w2 : World}
theorem QT.refl (lo : Nat) (w : World) : QT lo w w := ⟨rfl, rfl, rfl, Nat.le_refl _, fun _ _ _ => rfl⟩
theorem QT.trans (h : QT lo w w') (k : QT lo w' w2) : QT lo w w2 :=
  ⟨k.os.trans h.os, k.tape.trans h.tape, k.output.trans h.output, Nat.le_trans h.size k.size, fun j hj hh => by
    have e := h.block j hj hh
    refine (k.block j (Nat.lt_of_lt_of_le hj h.size) ?_).trans e
    rcases hh with hh | hh
    · exact .inl hh
    · exact .inr fun ⟨cs, hI⟩ => hh ⟨cs, e.symm.trans hI⟩⟩
theorem QT.of_below (h : Below w.heap.size w w') : QT lo w w' := ⟨h.os, h.tape, h.output, h.size, fun k hk _ => h.block k hk⟩
theorem QT.then_ (h : QT lo w w') (k : Below w'.heap.size w' w2) : QT lo w w2 := h.trans (QT.of_below k)
theorem QT.grown {row : Option Nat} (h : QT lo w w') (hg : w'.grownBy w2 row) (hr : ∀ b, row = some b → w.heap.size ≤ b ∨ (lo ≤ b ∧ LsBlk w' b)) : QT lo w w2 :=
  ⟨hg.os.trans h.os, hg.tape.trans h.tape, hg.output.trans h.output, Nat.le_trans h.size hg.size, fun j hj hh => by
    have e := h.block j hj hh
    refine (hg.block j (Nat.lt_of_lt_of_le hj h.size) (fun er => ?_)).trans e
    rcases hr j er.symm with h1 | ⟨h1, ⟨cs, h2⟩⟩
    · omega
    · rcases hh with hh | hh
      · omega
      · exact hh ⟨cs, e.symm.trans h2⟩⟩
theorem QT.below {N : Nat} (h : QT lo w w') (h2 : N ≤ lo) (h3 : N ≤ w.heap.size) : Below N w w' := ⟨h.os, h.tape, h.output, h.size, fun k hk => h.block k (by omega) (.inl (by omega))⟩
end
/-- a list of nodes that fills a block from its start -/
structure SL where
  blk : Nat
  n : Nat
  c : Nat
def SL.v (s : SL) : Value := .slice (some ⟨s.blk, 0, none⟩) s.n s.c
/-- such a list, in memory of its own -/
def OwnS (w : World) (B : Nat) (s : SL) : Prop := s.n ≤ 1099511627776 ∧ ∃ ys : List NV, Own w B 27 8 NV.C s.v ys
/-- lists of lists, no two in one block -/
def GL (w : World) (B : Nat) (L : List SL) (bs : List Nat) : Prop := (L.map SL.blk).Nodup ∧ ∀ s ∈ L, s.blk ∈ bs ∧ OwnS w B s
section
variable {w w' : World} {B lo : Nat} {L M : List SL} {bs cs : List Nat}
theorem GL.nil (w : World) (B : Nat) (bs : List Nat) : GL w B [] bs := ⟨List.nodup_nil, fun s h => by cases h⟩
theorem GL.sub (h : GL w B L bs) (hb : ∀ b ∈ bs, b ∈ cs) : GL w B L cs := ⟨h.1, fun s hs => ⟨hb _ (h.2 s hs).1, (h.2 s hs).2⟩⟩
theorem GL.append (h : GL w B L bs) (k : GL w B M cs) (hd : ∀ b ∈ bs, b ∉ cs) : GL w B (L ++ M) (bs ++ cs) := by
  refine ⟨?_, fun s hs => ?_⟩
  · rw [List.map_append, List.nodup_append]
    refine ⟨h.1, k.1, fun a ha b hb e => ?_⟩
    subst e
    obtain ⟨s, hs, rfl⟩ := List.mem_map.1 ha
    obtain ⟨t, ht, e⟩ := List.mem_map.1 hb
    exact hd _ (h.2 s hs).1 (e ▸ (k.2 t ht).1)
  · rcases List.mem_append.1 hs with hs | hs
    · exact ⟨List.mem_append_left _ (h.2 s hs).1, (h.2 s hs).2⟩
    · exact ⟨List.mem_append_right _ (k.2 s hs).1, (k.2 s hs).2⟩
theorem GL.one {s : SL} (h : OwnS w B s) : GL w B [s] [s.blk] := ⟨by simp, fun t ht => by rw [List.mem_singleton.1 ht]; exact ⟨by simp, h⟩⟩
end
end Go.Proofs.Ytajainmldcnaeaa
namespace Go.Proofs.Ytajainmldcnaeaa
open Go.RowKit Go.Shelf Go.Maps
set_option linter.unusedVariables false
set_option linter.unusedSimpArgs false

def orL (R : List Nat) (l : List Nat) : Nat := l.foldl (fun r n => r ||| R.getD n 0) 0
theorem orL_snoc (R l : List Nat) (n : Nat) : orL R (l ++ [n]) = orL R l ||| R.getD n 0 := by simp [orL]
theorem ruleD_lt {R : List Nat} (hR : ∀ r ∈ R, r < 4294967296) (n : Nat) : R.getD n 0 < 4294967296 := by
  rw [List.getD_eq_getElem?_getD]
  by_cases h : n < R.length
  · rw [List.getElem?_eq_getElem h]
    exact hR _ (List.getElem_mem h)
  · rw [List.getElem?_eq_none (Nat.le_of_not_lt h)]
    decide
theorem or_lt32 {a b : Nat} (ha : a < 4294967296) (hb : b < 4294967296) : a ||| b < 4294967296 := Nat.or_lt_two_pow (n := 32) ha hb
theorem orL_lt {R : List Nat} (hR : ∀ r ∈ R, r < 4294967296) (l : List Nat) : orL R l < 4294967296 := by
  have key : ∀ (l : List Nat) (r : Nat), r < 4294967296 → l.foldl (fun r n => r ||| R.getD n 0) r < 4294967296 := by
    intro l
    induction l with
    | nil => intro r h; exact h
    | cons n l ih => intro r h; exact ih _ (or_lt32 h (ruleD_lt hR n))
  exact key l 0 (by decide)
theorem bits_low {x y n : Nat} (h : ∀ i, i < n → x.testBit i = y.testBit i) : bitsTo x n = bitsTo y n := by
  induction n with
  | zero => rfl
  | succ n ih => rw [bitsTo_succ, bitsTo_succ, ih fun i hi => h i (by omega), h n (by omega)]
theorem bits_add {y t N : Nat} (ht : t < N) (hy : y.testBit t = false) : (bitsTo (y ||| 2 ^ t) N).length = (bitsTo y N).length + 1 := by
  induction N with
  | zero => omega
  | succ N ih =>
    rw [bitsTo_succ, bitsTo_succ, testBit_or_pow]
    by_cases e : t = N
    · subst e
      rw [hy, bits_low (x := y ||| 2 ^ t) (y := y) (n := t) (fun i hi => by rw [testBit_or_pow]; have : ¬ t = i := by omega
                                                                            simp [this])]
      simp
    · have := ih (by omega)
      simp only [e, decide_false, Bool.or_false]
      split
      · simp [this]
      · exact this
/-- more of a set's bits -/
theorem bits_grow {y z N q : Nat} (hyz : ∀ i, y.testBit i = true → z.testBit i = true) (hz : below z N) (hq : q < N) (h1 : z.testBit q = false) : (bitsTo y N).length < (bitsTo (z ||| 2 ^ q) N).length := by
  rw [bits_add hq h1]
  have : (bitsTo y N).length ≤ (bitsTo z N).length := by
    unfold bitsTo
    have key : ∀ l : List Nat, (l.filter y.testBit).length ≤ (l.filter z.testBit).length := fun l => by
      induction l with
      | nil => simp
      | cons a l ih =>
        simp only [List.filter_cons]
        cases hy : y.testBit a
        · cases z.testBit a <;> simp <;> omega
        · rw [hyz a hy]; simp; exact ih
    exact key _
  omega
def encB (b : Bool) : Array Value := #[.bool b]
theorem encB_size (b : Bool) : (encB b).size = 1 := rfl
theorem encB_one (b : Bool) : (encB b).all (·.oneCell') = true := by simp [encB, Value.oneCell']
def boolsN (x N : Nat) : List Bool := (List.range N).map x.testBit
theorem boolsN_length (x N : Nat) : (boolsN x N).length = N := by simp [boolsN]
theorem boolsN_get (x N i : Nat) (h : i < (boolsN x N).length) : (boolsN x N)[i] = x.testBit i := by simp [boolsN]
theorem boolsN_zero (N : Nat) : boolsN 0 N = List.replicate N false := by
  apply List.ext_getElem
  · simp [boolsN]
  · intro i h1 h2
    simp [boolsN]
theorem boolsN_set (x N q : Nat) : (boolsN x N).set q true = boolsN (x ||| 2 ^ q) N := by
  apply List.ext_getElem
  · simp [boolsN]
  · intro i h1 h2
    rw [List.getElem_set, boolsN_get, boolsN_get, testBit_or_pow]
    by_cases e : q = i
    · simp [e]
    · simp [e]
/-- how many of a row's cells are true -/
def trueAt (w : World) (g i : Nat) : Bool := match w.cell? ⟨g, i, none⟩ with | some (.bool true) => true | _ => false
def trues (w : World) (g N : Nat) : Nat := ((List.range N).filter (trueAt w g)).length
def litN : Value → Nat
  | .bool true => 1
  | _ => 0
theorem trues_own {w : World} {base g n c x N : Nat} (h : Own w base 4 1 encB (.slice (some ⟨g, 0, none⟩) n c) (boolsN x N)) : trues w g N = (bitsTo x N).length := by
  unfold trues bitsTo
  congr 1
  apply List.filter_congr
  intro i hi
  rw [List.mem_range] at hi
  have hl : i < (boolsN x N).length := by rw [boolsN_length]; exact hi
  have := h.row encB_size i hl 0 _ rfl
  rw [boolsN_get] at this
  unfold trueAt
  have h2 : w.cell? ⟨g, i, none⟩ = some (.bool (x.testBit i)) := by
    rw [Nat.mul_one] at this
    exact this
  rw [h2]
  cases x.testBit i <;> rfl
theorem under_bools : Try.prog.underlying 93 = some (.slice (Try.prog.elem 93)) := by kernel_rfl
theorem info_bool3 : (Try.prog.info? 4).map (fun i => (i.zero, i.size, i.bytes)) = some (some (.bool false), 1, 1) := by kernel_rfl
/-- a store of one cell into a row of the call's own -/
theorem wl_store_one {α : Type} {enc : α → Array Value} {base : Nat} {e : TypeId} {w : World} {ys : List α} {ops : Array Oper} {rest : List Oper} {o : Oper} {a : Act} {Q : Exit → Act → World → Prop} (hsE : ∀ y, (enc y).size = 1) (hgd : o.guard = none) (t : TypeId) (hsz : (Try.prog.info? t).map (·.size) = some 1) (x y : Operand) (ho : o.op = .store t x y)
    (g k n cap : Nat) (hx : a.eval x = .pointer (some ⟨g, k, none⟩)) (z : α) (hy : (enc z).toList = [a.eval y]) (hyc : (a.eval y).cells = #[a.eval y]) (hy1 : (a.eval y).oneCell' = true) (hown : Own w base e 1 enc (.slice (some ⟨g, 0, none⟩) n cap) ys) (hk : k < ys.length)
    (h : ∀ w', Own w' base e 1 enc (.slice (some ⟨g, 0, none⟩) n cap) (ys.set k z) → w.grownBy w' (some g) → wpList Try.prog ops Q rest (a.put o.dst undef) w') : wpList Try.prog ops Q (o :: rest) a w := by
  have hcell : ∃ u, w.cell? ⟨g, k, none⟩ = some u ∧ (enc ys[k]).toList = [u] := by
    have h0 : 0 < (enc ys[k]).size := by rw [hsE]; decide
    have := hown.row hsE k hk 0 _ (Array.getElem?_eq_getElem h0)
    rw [Nat.mul_one] at this
    refine ⟨_, this, ?_⟩
    apply List.ext_getElem
    · simp [hsE]
    · intro i h1 h2
      have : i = 0 := by simpa using h2
      subst this
      simp
  obtain ⟨u, hcell, hu⟩ := hcell
  have hfr := hown.frozen k
  obtain ⟨v, hv⟩ : ∃ v, a.eval y = v := ⟨_, rfl⟩
  rw [hv] at hy hyc hy1
  have hrun : (storeVar t ⟨g, k, none⟩ v).run Try.prog w = .ok () (w.setCell ⟨g, k, none⟩ v) := by
    cases hq : Try.prog.info? t with
    | none => rw [hq] at hsz; cases hsz
    | some j =>
      have hs : j.size = 1 := by rw [hq] at hsz; simpa using hsz
      have e := run_store Try.prog w ⟨g, k, none⟩ v .plain hy1
      simp only [hcell, hfr, Bool.false_eq_true, if_false] at e
      have e0 : (⟨g, k, none⟩ : Addr).add 0 = ⟨g, k, none⟩ := rfl
      simp [storeVar, sizeOf, typeInfo, hq, hs, hyc, storeCells, e0, e]
  refine wpList_plain hgd fun _ hK => ?_
  unfold Oper.wp execOp
  simp only [ho, hx, hv, Instr.storeAt, Instr.sureAddr, Sem.run_bind, Sem.run_pure, Result.andThen_ok, hrun]
  have o1 := hown.setCell (i := k) (q := 0) (y' := z) (u := v) hsE hk (by decide) (by rw [hu, hy]; rfl)
  rw [Nat.mul_one, Nat.add_zero] at o1
  exact hK _ _ (h _ o1 (only_setCell (only_refl _ _) (.inl rfl) _))
/-- the machine that a caller handed in, in memory that stays -/
structure RMach (B0 : Nat) (W : World) (N : Nat) (E : List Edg) (R : List Nat) (A : Option Addr) (n : Nat) (B : Option Addr) (m : Nat) : Prop where
  fits : Fits N E R
  nE : n = E.length
  mR : m = N
  lE : E.length ≤ 1099511627776
  lN : N ≤ 1099511627776
  lt : ∀ r ∈ R, r < 4294967296
  edges : SliceOf W B0 7 edgC A E
  rules : SliceOf W B0 1 encR B R
  low : B0 ≤ W.heap.size
theorem RMach.then_ {B0 N n m : Nat} {W W' : World} {E : List Edg} {R : List Nat} {A B : Option Addr} (h : RMach B0 W N E R A n B m) (hb : Below W.heap.size W W') : RMach B0 W' N E R A n B m :=
  ⟨h.fits, h.nE, h.mR, h.lE, h.lN, h.lt, h.edges.keep (fun k hk => hb.block k (Nat.lt_of_lt_of_le hk h.low)), h.rules.keep (fun k hk => hb.block k (Nat.lt_of_lt_of_le hk h.low)), Nat.le_trans h.low hb.size⟩
theorem RMach.grown {B0 N n m r : Nat} {W W' : World} {E : List Edg} {R : List Nat} {A B : Option Addr} (h : RMach B0 W N E R A n B m) (hg : W.grownBy W' (some r)) (hr : B0 ≤ r) : RMach B0 W' N E R A n B m :=
  ⟨h.fits, h.nE, h.mR, h.lE, h.lN, h.lt, h.edges.keep (fun k hk => hg.block k (Nat.lt_of_lt_of_le hk h.low) (by simp; omega)), h.rules.keep (fun k hk => hg.block k (Nat.lt_of_lt_of_le hk h.low) (by simp; omega)), Nat.le_trans h.low hg.size⟩
section
variable {w : World} {ops : Array Oper} {rest : List Oper} {o : Oper} {a : Act} {Q : Exit → Act → World → Prop}
theorem wl_makeB (hgd : o.guard = none) (x y : Operand) (ho : o.op = .makeSlice 93 x y) (N base : Nat) (hx : a.eval x = .int .i64 N) (hy : a.eval y = .int .i64 N) (hN : N ≤ 1099511627776) (hb : base ≤ w.heap.size)
    (h : ∀ w', Own w' base 4 1 encB (.slice (some ⟨w.heap.size, 0, none⟩) N N) (boolsN 0 N) → Below w.heap.size w w' → wpList Try.prog ops Q rest (a.put o.dst (.slice (some ⟨w.heap.size, 0, none⟩) N N)) w') : wpList Try.prog ops Q (o :: rest) a w := by
  obtain ⟨i0, hi0, hz0, hz1, hz2⟩ := info_parts info_bool3
  refine wpList_make_full w hgd x y _ ho base 4 i0 _ 1 Try.underlying93 hi0 hz0 hz1 _ _ _ _ N hx hy rfl rfl (by rw [hz2]; omega) (by unfold maxLen; omega) hb fun w' r1 r2 => ?_
  have e1 : (madeCells (Value.bool false).cells (N * 1)).toList = flat encB (boolsN 0 N) := by
    rw [boolsN_zero]
    apply List.ext_getElem
    · rw [Array.length_toList, size_madeCells]
      simp [flat, encB]
    · intro j h1 h2
      simp [madeCells, Value.cells, flat, encB, List.flatMap_replicate]
      rw [Nat.mod_one]
      rfl
  rw [e1] at r1
  refine h w' ?_ ⟨r2.os, r2.tape, r2.output, r2.size, fun k hk => r2.block k hk (by simp)⟩
  unfold Own
  rw [boolsN_length]
  exact r1
end
theorem info_bool1 : (Try.prog.info? 4).map (·.size) = some 1 := by kernel_rfl
end Go.Proofs.Ytajainmldcnaeaa
namespace Go.Proofs.Ytajainmldcnaeaa
open Go.RowKit Go.Shelf Go.Maps
set_option linter.unusedVariables false
set_option linter.unusedSimpArgs false
attribute [local go_sem] Oper.semAt_some

theorem own_turn {α : Type} {enc : α → Array Value} {size base lo hi b n c : Nat} {e : TypeId} {w w' : World} {ys : List α} (h : Own w base e size enc (.slice (some ⟨b, 0, none⟩) n c) ys) (k : Turn lo hi w w') (hb : b < lo ∨ hi ≤ b) : Own w' base e size enc (.slice (some ⟨b, 0, none⟩) n c) ys :=
  own_block h fun g hg => by
    have : b = g := by simpa [Value.ownBlock] using hg
    subst this
    exact k.block b (h.lt b rfl).2 hb
theorem RMach.turn {B0 N n m lo hi : Nat} {W W' : World} {E : List Edg} {R : List Nat} {A B : Option Addr} (h : RMach B0 W N E R A n B m) (k : Turn lo hi W W') (hl : B0 ≤ lo) : RMach B0 W' N E R A n B m :=
  ⟨h.fits, h.nE, h.mR, h.lE, h.lN, h.lt, h.edges.keep (fun j hj => k.block j (Nat.lt_of_lt_of_le hj h.low) (by omega)), h.rules.keep (fun j hj => k.block j (Nat.lt_of_lt_of_le hj h.low) (by omega)), Nat.le_trans h.low k.size⟩
set_option maxRecDepth 100000 in
set_option maxHeartbeats 4000000 in
theorem reach_any (B0 N n c0 m d0 : Nat) (E : List Edg) (R : List Nat) (A B : Option Addr) (base g cap x : Nat) (beg en : Bool) (hx : below x N) (w : World) (hM : RMach B0 w N E R A n B m) (hS : Own w base 4 1 encB (.slice (some ⟨g, 0, none⟩) N cap) (boolsN x N)) (hg0 : B0 ≤ g) :
    Calls Try.prog 53 #[.agg (nfaC (N : Int) A n c0 B m d0), .slice (some ⟨g, 0, none⟩) N cap, .bool beg, .bool en] w fun e w' => e = .returned (.tuple #[]) ∧ Own w' base 4 1 encB (.slice (some ⟨g, 0, none⟩) N cap) (boolsN (spreadN E N beg en x) N) ∧ Turn g (g + 1) w w' := by
  have hN := hM.lN
  have hone := hM.fits.one
  have hfr := hM.fits.fr
  have htt := hM.fits.tt
  have hkd := hM.fits.kinds
  have hn2 : n ≤ 1099511627776 := by rw [hM.nE]; exact hM.lE
  have Hn := Lib.hid hM.nE
  have hgl := hS.lt g rfl
  go_enter Try.func53, Try.ntmps53
  have h1 := Blk.new w 52 (nfaC (N : Int) A n c0 B m d0)
  have hB1 : Below w.heap.size w (w.alloc (.cells (nfaC (N : Int) A n c0 B m d0) 52)) := below_alloc (Below.refl _ _) _
  go_upto_region 1 with (fail)
  obtain ⟨W1, hW1⟩ : ∃ y, y = w.alloc (.cells (nfaC (N : Int) A n c0 B m d0) 52) := ⟨_, rfl⟩
  rw [← hW1] at h1 hB1 ⊢
  clear hW1
  obtain ⟨gr, hgr⟩ : ∃ y, y = w.heap.size := ⟨_, rfl⟩
  rw [← hgr] at h1 ⊢
  have hgg : g < gr := by omega
  replace hM := hM.then_ hB1
  replace hS := hS.then_ hB1
  have hT : Turn g (g + 1) w W1 := Turn.of_below hB1
  clear hgl hB1 hgr
  go_wp2_with (fail)
  go_loopw [8] (fun mv wr => ∃ (mb : Bool) (y : Nat), mv = .bool mb ∧ Own wr base 4 1 encB (.slice (some ⟨g, 0, none⟩) N cap) (boolsN y N) ∧ RMach B0 wr N E R A n B m ∧ Blk wr gr 52 (nfaC (N : Int) A n c0 B m d0) ∧ Turn g (g + 1) w wr ∧ (∀ i, x.testBit i = true → y.testBit i = true) ∧ below y N ∧ (∀ i, y.testBit i = true → Reach E beg en x i) ∧ (mb = false → ∀ d ∈ E, may beg en d = true → y.testBit d.fr.toNat = true → y.testBit d.tt.toNat = true)) (fun mv wr => 2 * (N - trues wr g N) + litN mv)
  case atStart => exact ⟨true, x, rfl, hS, hM, h1, hT, fun _ h => h, hx, fun _ h => .base h, fun h => by cases h⟩
  case round =>
    clear hS hM h1 hT
    obtain ⟨mb, y, rfl, hS, hM1, hw1, hB1, hxy, hyN, hrch, hcl⟩ := hrel
    have htr := trues_own hS
    cases mb
    · have hcl0 := hcl rfl
      go_wp2_with (fail)
      first | (refine bodyPost_end (results_none rfl _ _ _) rfl ?_) | (refine bodyPost_ret (results_none rfl _ _ _) rfl ?_)
      have hy := spread_is htt hx hxy hcl0 hrch
      rw [← hy]
      exact ⟨rfl, hS, hB1⟩
    · clear hcl
      have Htr := Lib.hid htr
      clear htr
      have cE0 : wr.cell? ⟨gr, 1, none⟩ = some (.slice A n c0) := hw1.cellv (i := 1) rfl
      go_wp2_with (fail)
      clear cE0
      go_loopw [8, 16] (fun mv iv wi => ∃ (mb : Bool) (z k : Nat), k ≤ n ∧ mv = .bool mb ∧ iv = .int .i64 k ∧ Own wi base 4 1 encB (.slice (some ⟨g, 0, none⟩) N cap) (boolsN z N) ∧ RMach B0 wi N E R A n B m ∧ Blk wi gr 52 (nfaC (N : Int) A n c0 B m d0) ∧ Turn g (g + 1) w wi ∧ (∀ i, y.testBit i = true → z.testBit i = true) ∧ below z N ∧ (∀ i, z.testBit i = true → Reach E beg en x i) ∧ (mb = false → z = y ∧ ∀ d ∈ E.take k, may beg en d = true → y.testBit d.fr.toNat = true → y.testBit d.tt.toNat = true) ∧ (mb = true → (bitsTo y N).length < (bitsTo z N).length)) (fun _ iv _ => n - (intOf iv).toNat)
      case atStart => exact ⟨false, y, 0, by omega, rfl, rfl, hS, hM1, hw1, hB1, fun _ h => h, hyN, hrch, fun _ => ⟨rfl, fun d hd => by simp at hd⟩, fun h => by cases h⟩
      case round =>
        clear hS hM1 hw1 hB1 hrch hyN
        rename_i wr0 _ _
        obtain ⟨mb, z, k, hk, rfl, rfl, hS, hM1, hw1, hB1, hyz, hzN, hrch, hcl, hgr'⟩ := hrel
        by_cases hkl : k < n
        · have hkI : (k : Int) < n := by omega
          have hkE : k < E.length := by rw [← Hn.out]; exact hkl
          obtain ⟨bA, offA, rfl, hbA, hrows⟩ := hM1.edges.at_ (by omega)
          have hr0 := hrows k hkE
          obtain ⟨dd, hd⟩ : ∃ d, d = E[k] := ⟨_, rfl⟩
          rw [← hd] at hr0
          have hdE : dd ∈ E := by rw [hd]; exact List.getElem_mem hkE
          have htk : E.take (k + 1) = E.take k ++ [dd] := by rw [List.take_succ_eq_append_getElem hkE, ← hd]
          have Htk := Lib.hid htk
          clear hd htk
          have hkb : k < 1099511628000 := by omega
          go_upto_region 7 with (first | (refine wl_load_edge_at rfl _ rfl _ _ rfl _ hr0 ?_) | (refine wl_store_edge rfl _ _ rfl _ _ rfl rfl edge0 (Blk.new _ _ _) ?_; intro w3 h5 hg3))
          have hB3 := below_grown (below_alloc (Below.refl _ wr) (.cells #[.int .i64 0, .int .i64 0, .int .i64 0, .int .u64 0, .int .u64 0, .int .u64 0, .int .u64 0] 67)) hg3 (Nat.le_refl _)
          replace hS := hS.then_ hB3
          replace hM1 := hM1.then_ hB3
          replace hw1 := blk_then hw1 hB3
          replace hB1 := hB1.then_ hB3
          have hl5 := h5.lt
          clear hr0 hg3 hB3
          obtain ⟨ge, hge⟩ : ∃ q, q = wr.heap.size := ⟨_, rfl⟩
          rw [← hge] at h5 hl5 ⊢
          clear hge
          have hfb := hfr dd hdE
          have htb := htt dd hdE
          have hkb2 := hkd dd hdE
          obtain ⟨p, hp⟩ : ∃ q : Nat, dd.fr = (q : Int) := ⟨dd.fr.toNat, by omega⟩
          obtain ⟨q, hq⟩ : ∃ q : Nat, dd.tt = (q : Int) := ⟨dd.tt.toNat, by omega⟩
          have hpN : p < N := by omega
          have hqN : q < N := by omega
          have hpt : dd.fr.toNat = p := by omega
          have hqt : dd.tt.toNat = q := by omega
          obtain ⟨zp, hzp0⟩ : ∃ b, z.testBit p = b := ⟨_, rfl⟩
          obtain ⟨zq, hzq0⟩ : ∃ b, z.testBit q = b := ⟨_, rfl⟩
          have ck : w3.cell? ⟨ge, 0, none⟩ = some (.int .i64 dd.kd) := h5.cellv (i := 0) rfl
          have cp : w3.cell? ⟨ge, 1, none⟩ = some (.int .i64 ((p : Nat) : Int)) := by rw [← hp]; exact h5.cellv (i := 1) rfl
          have cq : w3.cell? ⟨ge, 2, none⟩ = some (.int .i64 ((q : Nat) : Int)) := by rw [← hq]; exact h5.cellv (i := 2) rfl
          have hrb : ∀ (j : Nat) (b : Bool), j < N → z.testBit j = b → w3.cell? ⟨g, j, none⟩ = some (.bool b) := fun j b hj hb0 => by
            have hl : j < (boolsN z N).length := by rw [boolsN_length]; exact hj
            have := hS.row encB_size j hl 0 _ rfl
            rw [boolsN_get, hb0] at this
            rw [Nat.mul_one] at this
            exact this
          have hzp := hrb p zp hpN hzp0
          have hzq := hrb q zq hqN hzq0
          clear hrb h5
          obtain ⟨f, hf⟩ : ∃ b, may beg en dd = b := ⟨_, rfl⟩
          have Hf := Lib.hid hf
          clear hf
          simp only [Act.put]
          go_cut [11] from 20 to 39 (fun v wx => wx = w3 ∧ v = .bool f)
          case first =>
            clear cp cq hzp hzq hS hM1 hw1 hrch hcl hyz hgr' hfb htb hB1
            have fin : ∀ b, may beg en dd = b → f = b := fun b hb => by rw [← Hf.out, hb]
            by_cases e1 : dd.kd = 1
            · have hv := fin true (by simp [may, e1])
              rw [e1] at ck
              have Hv := Lib.hid hv
              clear hv
              go_wp2_with (fail)
              go_meet
              exact ⟨rfl, congrArg Value.bool Hv.out.symm⟩
            by_cases e3 : dd.kd = 3
            · have hv := fin beg (by simp [may, e3])
              rw [e3] at ck
              have Hv := Lib.hid hv
              clear hv
              cases beg <;> (go_wp2_with (fail); go_meet; exact ⟨rfl, congrArg Value.bool Hv.out.symm⟩)
            by_cases e4 : dd.kd = 4
            · have hv := fin en (by simp [may, e4])
              rw [e4] at ck
              have Hv := Lib.hid hv
              clear hv
              cases en <;> (go_wp2_with (fail); go_meet; exact ⟨rfl, congrArg Value.bool Hv.out.symm⟩)
            · have hv := fin false (by simp [may, e1, e3, e4])
              have e2 : dd.kd = 2 := by omega
              rw [e2] at ck
              have Hv := Lib.hid hv
              clear hv e1 e3 e4
              go_wp2_with (fail)
              go_meet
              exact ⟨rfl, congrArg Value.bool Hv.out.symm⟩
          obtain ⟨rfl, rfl⟩ := hcut
          clear ck
          have hnext : ((f && zp) && (!zq)) = false → (mb = false → z = y ∧ ∀ d ∈ E.take (k + 1), may beg en d = true → y.testBit d.fr.toNat = true → y.testBit d.tt.toNat = true) := fun hr hmb => ⟨(hcl hmb).1, fun d hd hm h1 => by
            rw [Htk.out, List.mem_append, List.mem_singleton] at hd
            rcases hd with hd | rfl
            · exact (hcl hmb).2 d hd hm h1
            · rw [hpt, ← (hcl hmb).1] at h1
              rw [hqt, ← (hcl hmb).1]
              rw [Hf.out] at hm
              rw [hzp0] at h1
              rw [hzq0]
              subst hm; subst h1
              simpa using hr⟩
          by_cases hr : ((f && zp) && (!zq)) = true
          · clear hnext
            have hr3 : f = true ∧ zp = true ∧ zq = false := by
              cases f <;> cases zp <;> cases zq <;> simp_all
            obtain ⟨rfl, rfl, rfl⟩ := hr3
            clear hr hcl
            have hgl5 := (hS.lt g rfl).2
            have hbg := (hS.lt g rfl).1
            go_wp2_with (refine wl_store_one (enc := encB) encB_size rfl _ info_bool1 _ _ rfl g q N cap rfl true rfl rfl rfl hS (by rw [boolsN_length]; exact hqN) ?_; intro w6 hS6 hg6)
            rw [boolsN_set] at hS6
            have hne : gr ≠ g := by omega
            exact ⟨⟨true, z ||| 2 ^ q, k + 1, by omega, rfl, rfl, hS6, hM1.grown hg6 hg0, blk_grown hw1 hg6 hne, hB1.grown hg6 (fun r e => by injection e with e; omega), fun i hi => by rw [testBit_or_pow, hyz i hi]; rfl, below_or hzN (below_pow hqN), fun i hi => by
              rw [testBit_or_pow, Bool.or_eq_true, decide_eq_true_eq] at hi
              rcases hi with hi | rfl
              · exact hrch i hi
              · rw [← hqt]
                exact .step hdE Hf.out (by rw [hpt]; exact hrch p hzp0), fun h => absurd h (by decide), fun _ => bits_grow hyz hzN hqN hzq0⟩, by simp only [intOf]; omega⟩
          · have hn3 := Lib.hid (hnext (by simpa using hr))
            have Hcl := Lib.hid hcl
            clear hnext hcl
            cases f with
            | false =>
              clear hr
              go_wp2_with (fail)
              exact ⟨⟨mb, z, k + 1, by omega, rfl, rfl, hS, hM1, hw1, hB1, hyz, hzN, hrch, hn3.out, hgr'⟩, by simp only [intOf]; omega⟩
            | true =>
              cases zp with
              | false =>
                clear hr
                go_wp2_with (fail)
                exact ⟨⟨mb, z, k + 1, by omega, rfl, rfl, hS, hM1, hw1, hB1, hyz, hzN, hrch, hn3.out, hgr'⟩, by simp only [intOf]; omega⟩
              | true =>
                obtain rfl : zq = true := by cases zq <;> simp_all
                clear hr
                go_wp2_with (fail)
                exact ⟨⟨mb, z, k + 1, by omega, rfl, rfl, hS, hM1, hw1, hB1, hyz, hzN, hrch, hn3.out, hgr'⟩, by simp only [intOf]; omega⟩
        · have hkI : ¬ (k : Int) < n := by omega
          go_wp2_with (fail)
          have htr2 := trues_own hS
          have hkn : E.take k = E := List.take_of_length_le (by rw [← Hn.out]; omega)
          rw [hkn] at hcl
          refine ⟨⟨mb, z, rfl, hS, hM1, hw1, hB1, fun i hi => hyz i (hxy i hi), hzN, hrch, fun hmb d hd hm h1 => ?_⟩, ?_⟩
          · have h2 := hcl hmb
            rw [h2.1] at h1 ⊢
            exact h2.2 d hd hm h1
          · rw [htr2, Htr.out]
            have hle := bitsTo_length z N
            cases mb
            · rw [(hcl rfl).1]
              simp [litN]
            · have := hgr' rfl
              simp only [litN]
              omega
end Go.Proofs.Ytajainmldcnaeaa
namespace Go.Proofs.Ytajainmldcnaeaa
set_option linter.unusedVariables false
set_option linter.unusedSimpArgs false

theorem fits_b {N : Nat} {E : List Edg} {R : List Nat} (h : Fits N E R) : ∀ d ∈ E, (0 ≤ d.fr ∧ d.fr < N) ∧ 0 ≤ d.tt ∧ d.tt < N := fun d hd => ⟨h.fr d hd, h.tt d hd⟩
def hopR (x c y : Nat) (d : Edg) : Nat := if ((d.kd == 2 && x.testBit d.fr.toNat) && d.st.getLsbD c) = true then y ||| 2 ^ d.tt.toNat else y
def hopRL (E : List Edg) (x c : Nat) (y : Nat) : Nat := E.foldl (hopR x c) y
theorem hopRL_snoc (E : List Edg) (x c y : Nat) (d : Edg) : hopRL (E ++ [d]) x c y = hopR x c (hopRL E x c y) d := by simp [hopRL]
theorem hopRL_bit (x c i : Nat) : ∀ (E : List Edg) (y : Nat), (hopRL E x c y).testBit i = true ↔ y.testBit i = true ∨ ∃ d ∈ E, ((d.kd == 2 && x.testBit d.fr.toNat) && d.st.getLsbD c) = true ∧ d.tt.toNat = i
  | [], y => by simp [hopRL]
  | d :: E, y => by
    have ih := hopRL_bit x c i E (hopR x c y d)
    unfold hopRL at ih ⊢
    rw [List.foldl_cons, ih]
    have h1 : (hopR x c y d).testBit i = true ↔ y.testBit i = true ∨ (((d.kd == 2 && x.testBit d.fr.toNat) && d.st.getLsbD c) = true ∧ d.tt.toNat = i) := by
      unfold hopR
      split
      · rename_i h
        rw [testBit_or_pow, Bool.or_eq_true, decide_eq_true_eq]
        simp [h]
      · rename_i h
        simp [h]
    rw [h1]
    simp only [List.mem_cons, exists_eq_or_imp]
    constructor
    · rintro ((h | h) | h)
      · exact .inl h
      · exact .inr (.inl h)
      · exact .inr (.inr h)
    · rintro (h | h | h)
      · exact .inl (.inl h)
      · exact .inl (.inr h)
      · exact .inr h
theorem hopRL_byte {E : List Edg} {N x c : Nat} (hN : 1 ≤ N) (hE : ∀ d ∈ E, (0 ≤ d.fr ∧ d.fr < N) ∧ 0 ≤ d.tt ∧ d.tt < N) : hopRL E x c (2 ^ 0) = byteN E N x c := by
  apply bits_ext
  intro i
  rw [hopRL_bit, byte_bit, Nat.testBit_two_pow, decide_eq_true_eq]
  constructor
  · rintro (h | ⟨d, hd, h1, h2⟩)
    · exact ⟨by omega, .inl h.symm⟩
    · have hb := hE d hd
      simp only [Bool.and_eq_true, beq_iff_eq] at h1
      exact ⟨by omega, .inr ⟨d, hd, h1.1.1, h1.1.2, h1.2, h2⟩⟩
  · rintro ⟨hi, rfl | ⟨d, hd, h1, h2, h3, h4⟩⟩
    · exact .inl rfl
    · exact .inr ⟨d, hd, by rw [h1, h2, h3]; rfl, h4⟩
namespace Mt
/-- the states at place k of the line, ahead of the free moves -/
noncomputable def mpre (E : List Edg) (N : Nat) (q : ByteArray) : Nat → Nat
  | 0 => 1
  | k + 1 => byteN E N (spreadN E N (decide (k = 0)) (decide (k = q.size)) (mpre E N q k)) (Ere.chr q k)
noncomputable def mx (E : List Edg) (N : Nat) (q : ByteArray) (k : Nat) : Nat := spreadN E N (decide (k = 0)) (decide (k = q.size)) (mpre E N q k)
theorem mpre_below {E : List Edg} {N : Nat} (hN : 1 ≤ N) (q : ByteArray) : ∀ k, below (mpre E N q k) N
  | 0 => below_pow (n := 0) hN
  | k + 1 => byte_below _ _ _ _
theorem mpre_zero {E : List Edg} {N : Nat} (hN : 1 ≤ N) (q : ByteArray) : ∀ k, (mpre E N q k).testBit 0 = true
  | 0 => by simp [mpre]
  | k + 1 => (byte_bit _ _ _ _ _).2 ⟨hN, .inl rfl⟩
/-- the next states, as they are laid one by one -/
theorem mpre_hop {E : List Edg} {N : Nat} (hN : 1 ≤ N) (hE : ∀ d ∈ E, (0 ≤ d.fr ∧ d.fr < N) ∧ 0 ≤ d.tt ∧ d.tt < N) (q : ByteArray) (k : Nat) : hopRL E (mx E N q k) (Ere.chr q k) 0 ||| 2 ^ 0 = mpre E N q (k + 1) := by
  show _ = byteN E N (mx E N q k) (Ere.chr q k)
  rw [← hopRL_byte hN hE]
  apply bits_ext
  intro i
  rw [testBit_or_pow, Bool.or_eq_true, decide_eq_true_eq, hopRL_bit, hopRL_bit, Nat.testBit_two_pow, decide_eq_true_eq]
  simp only [Nat.zero_testBit, Bool.false_eq_true, false_or]
  exact Or.comm
theorem hop_below {E : List Edg} {N x c y : Nat} (hE : ∀ d ∈ E, (0 ≤ d.fr ∧ d.fr < N) ∧ 0 ≤ d.tt ∧ d.tt < N) (hy : below y N) : below (hopRL E x c y) N := fun i hi => by
  rcases (hopRL_bit x c i E y).1 hi with h | ⟨d, hd, _, h⟩
  · exact hy i h
  · have := hE d hd; omega
/-- the rules that are met at the places ahead of k -/
noncomputable def mV (E : List Edg) (R : List Nat) (N : Nat) (q : ByteArray) : Nat → Nat
  | 0 => 0
  | k + 1 => mV E R N q k ||| metN R (mx E N q k) N
theorem mV_lt {E : List Edg} {R : List Nat} (hR : ∀ r ∈ R, r < 2 ^ 32) (N : Nat) (q : ByteArray) : ∀ k, mV E R N q k < 2 ^ 32
  | 0 => Nat.two_pow_pos 32
  | k + 1 => Nat.or_lt_two_pow (mV_lt hR N q k) (met_lt hR _ _)
theorem mV_bit (E : List Edg) (R : List Nat) (N : Nat) (q : ByteArray) (j : Nat) : ∀ k, (mV E R N q k).testBit j = true ↔ ∃ i s, i < k ∧ s < N ∧ (mx E N q i).testBit s = true ∧ (R.getD s 0).testBit j = true
  | 0 => by simp [mV]
  | k + 1 => by
    show ((mV E R N q k ||| metN R (mx E N q k) N).testBit j = true) ↔ _
    rw [Nat.testBit_or, Bool.or_eq_true, mV_bit E R N q j k, met_bit]
    constructor
    · rintro (⟨i, s, h1, h2⟩ | ⟨s, h2⟩)
      · exact ⟨i, s, by omega, h2⟩
      · exact ⟨k, s, by omega, h2⟩
    · rintro ⟨i, s, h1, h2⟩
      by_cases e : i = k
      · subst e; exact .inr ⟨s, h2⟩
      · exact .inl ⟨i, s, by omega, h2⟩
theorem mx_least {E : List Edg} {N : Nat} (hN : 1 ≤ N) (hE : ∀ d ∈ E, (0 ≤ d.fr ∧ d.fr < N) ∧ 0 ≤ d.tt ∧ d.tt < N) (q : ByteArray) (k s : Nat) (hk : k ≤ q.size) : (mx E N q k).testBit s = true ↔ Least q E s k := by
  have htt : ∀ d ∈ E, 0 ≤ d.tt ∧ d.tt < N := fun d hd => (hE d hd).2
  have hmx : ∀ k s, (mx E N q k).testBit s = true ↔ Reach E (decide (k = 0)) (decide (k = q.size)) (mpre E N q k) s := fun k s => spread_bit htt (mpre_below hN q k) s
  constructor
  · revert s
    induction k with
    | zero =>
      intro s h
      rw [hmx] at h
      intro L hL h0
      induction h with
      | @base n' h =>
        have e : n' = 0 := by
          have h2 : (2 ^ 0 : Nat).testBit n' = true := h
          rw [Nat.testBit_two_pow, decide_eq_true_eq] at h2
          exact h2.symm
        rw [e]
        exact h0 0 (by omega)
      | @step d hd hm _ ih =>
        have hd2 := hL d hd
        simp only [may, Bool.or_eq_true, Bool.and_eq_true, beq_iff_eq, decide_eq_true_eq] at hm
        rcases hm with (h | h) | h
        · exact hd2.free h 0 (by omega) ih
        · exact hd2.begin_ h.2 ih
        · rw [h.1] at ih ⊢
          exact hd2.end_ h.2 ih
    | succ k ihk =>
      intro s h
      rw [hmx] at h
      intro L hL h0
      induction h with
      | base h =>
        rw [mpre, byte_bit] at h
        rcases h.2 with rfl | ⟨d, hd, h1, h2, h3, h4⟩
        · exact h0 _ hk
        · rw [← h4]
          exact (hL d hd).byte h1 k (by omega) (ihk (by omega) _ h2 L hL h0) h3
      | @step d hd hm _ ih =>
        have hd2 := hL d hd
        simp only [may, Bool.or_eq_true, Bool.and_eq_true, beq_iff_eq, decide_eq_true_eq] at hm
        rcases hm with (h | h) | h
        · exact hd2.free h _ hk ih
        · exact absurd h.1 (by omega)
        · rw [h.1] at ih ⊢
          exact hd2.end_ h.2 ih
  · intro h
    have := h (fun s i => i ≤ q.size ∧ (mx E N q i).testBit s = true) (fun d hd => ?_) (fun i hi => ⟨hi, (hmx i 0).2 (.base (mpre_zero hN q i))⟩)
    · exact this.2
    · refine ⟨fun hk1 i hi h1 => ⟨hi, (hmx _ _).2 (.step hd (by simp [may, hk1]) ((hmx _ _).1 h1.2))⟩, fun hk2 i hi h1 hb => ⟨by omega, (hmx _ _).2 (.base ?_)⟩, fun hk3 h1 => ⟨Nat.zero_le _, (hmx _ _).2 (.step hd (by simp [may, hk3]) ((hmx _ _).1 h1.2))⟩, fun hk4 h1 => ⟨Nat.le_refl _, (hmx _ _).2 (.step hd (by simp [may, hk4]) ((hmx _ _).1 h1.2))⟩⟩
      rw [mpre, byte_bit]
      have hb2 := hE d hd
      exact ⟨by omega, .inr ⟨d, hd, hk2, h1.2, hb, rfl⟩⟩
/-- a rule is met just where one of its states is, at some place -/
theorem mV_least {E : List Edg} {R : List Nat} {N : Nat} (hN : 1 ≤ N) (hE : ∀ d ∈ E, (0 ≤ d.fr ∧ d.fr < N) ∧ 0 ≤ d.tt ∧ d.tt < N) (q : ByteArray) (j : Nat) : (mV E R N q (q.size + 1)).testBit j = true ↔ ∃ i s, i ≤ q.size ∧ s < N ∧ Least q E s i ∧ (R.getD s 0).testBit j = true := by
  rw [mV_bit]
  constructor
  · rintro ⟨i, s, h1, h2, h3, h4⟩
    exact ⟨i, s, by omega, h2, (mx_least hN hE q i s (by omega)).1 h3, h4⟩
  · rintro ⟨i, s, h1, h2, h3, h4⟩
    exact ⟨i, s, by omega, h2, (mx_least hN hE q i s h1).2 h3, h4⟩
end Mt
end Go.Proofs.Ytajainmldcnaeaa
