/- Part 6 of a proof; packed: the texts that it was made of follow one another. No condition beyond those named in each lemma. -/
import Derived.Test.YtkedgombccdamaaGreatDoorPm2
import Derived.Test.YtkedgombccdamaaGreatDoorPm5
import Derived.Test.YtkedgombccdamaaGreatDoorProg
import Derived.Deep.RegionWith
import Derived.Lib.IndexMore
import Derived.Shelf.LaysM
import Derived.Shelf.Small.Strs
import Derived.Shelf.Strings.Search1
import Derived.Shelf.Strings.Search2
import Derived.Shelf.Strings.Search3
import Derived.Shelf.Strings.Shaped
namespace Go.Proofs.YtkedgombccdamaaGreatDoor
open Go.RowKit Go.Maps
set_option linter.unusedVariables false
set_option linter.unusedSimpArgs false
attribute [local go_sem] Oper.semAt_some
set_option maxRecDepth 100000 in
set_option maxHeartbeats 4000000 in
theorem repeat_any (g : Nat) (p : ByteArray) (i B : Nat) (t : Nd) (x : NV) (bs : List Nat) (w : World) (hP : Blk w g 110 (rdC p i)) (hi : i ≤ 2000) (ht : NdO w B t x bs) (hg : g < B) (hBw : B ≤ w.heap.size) :
  Calls Tryz.prog 75 #[.pointer (some ⟨g, 0, none⟩), .agg x.C] w fun e w' => NdAns g p w B (Ere.repeatR p t i) e w' := by
 obtain ⟨r, hr0⟩ : ∃ r, Ere.repeatR p t i = r := ⟨_, rfl⟩
 rw [hr0]
 obtain ⟨rc, hrc⟩ : ∃ r, Ere.countsR p i = r := ⟨_, rfl⟩
 have hR := hr0
 unfold Ere.repeatR at hR
 obtain ⟨b42, h42⟩ : ∃ b, Ere.isAt p i 42 = b := ⟨_, rfl⟩
 obtain ⟨b43, h43⟩ : ∃ b, Ere.isAt p i 43 = b := ⟨_, rfl⟩
 obtain ⟨b63, h63⟩ : ∃ b, Ere.isAt p i 63 = b := ⟨_, rfl⟩
 obtain ⟨b123, h123⟩ : ∃ b, Ere.isAt p i 123 = b := ⟨_, rfl⟩
 rw [h42, h43, h63, h123, hrc] at hR
 clear hr0
 have hN : ∀ c b W, b = Ere.isAt p i c → Blk W g 110 (rdC p i) → ∀ ci : Int, ci = c → Calls Tryz.prog 54 #[.pointer (some ⟨g, 0, none⟩), .int .i64 (i : Int), .int .u8 ci] W fun e w' => e = .returned (.bool b) ∧ Below W.heap.size W w' := fun c b W hb hW ci hc => is_at g p i i c ci W hW hc hb.symm
 have hNC : ∀ W, Blk W g 110 (rdC p i) → Calls Tryz.prog 89 #[.pointer (some ⟨g, 0, none⟩)] W fun e w' => RdAns g p W (fun c : Nat × Int => .tuple #[.int .i64 (c.1 : Int), .int .i64 c.2]) rc e w' := fun W hW => by rw [← hrc]; exact counts_any g p i W hW hi
 have hci : ∀ c j, rc = .got c j → j ≤ 3000 := fun c j e => by rw [← hrc] at e; exact counts_le p i hi c j e
 clear hrc
 replace h42 := Lib.hid h42
 replace h43 := Lib.hid h43
 replace h63 := Lib.hid h63
 replace h123 := Lib.hid h123
 replace hR := Lib.hid hR
 replace hN := Lib.hid hN
 replace hNC := Lib.hid hNC
 replace hci := Lib.hid hci
 have hT := Turn.refl g (g + 1) w
 go_enter Tryz.func75, Tryz.ntmps75
 have hB1 : Below w.heap.size w ((w.alloc (.cells x.C 56)).alloc (.cells zeroC 56)) := zqc (zqc (Below.refl _ _) _) _
 have h1 : Blk ((w.alloc (.cells x.C 56)).alloc (.cells zeroC 56)) w.heap.size 56 x.C := (Blk.new _ _ _).alloc _
 have h4 : Blk ((w.alloc (.cells x.C 56)).alloc (.cells zeroC 56)) (w.heap.size + 1) 56 zeroC := Blk.new' _ _ _ (by simp)
 unfold zeroC at h1 h4 hB1
 go_upto_region 1 with (fail)
 obtain ⟨w1, hw1⟩ : ∃ y, y = (w.alloc (.cells x.C 56)).alloc (.cells zeroC 56) := ⟨_, rfl⟩
 unfold zeroC at hw1
 rw [← hw1] at h1 h4 hB1 ⊢
 clear hw1
 obtain ⟨g1, hg1⟩ : ∃ y, y = w.heap.size := ⟨_, rfl⟩
 obtain ⟨g4, hg4⟩ : ∃ y, y = w.heap.size + 1 := ⟨_, rfl⟩
 have hne := Lib.hid (show g1 ≠ g4 ∧ g < g1 ∧ g < g4 ∧ w.heap.size ≤ g4 ∧ w.heap.size ≤ g1 ∧ B ≤ w.heap.size ∧ g < B ∧ w.heap.size ≤ w1.heap.size ∧ ∀ b ∈ bs, b ≠ g1 ∧ b ≠ g4 ∧ b ≠ g from ⟨by omega, by omega, by omega, by omega, by omega, hBw, hg, hB1.size, fun b hb => by have := ht.lt b hb; omega⟩)
 rw [← hg4] at h4 ⊢
 rw [← hg1] at h1 ⊢
 clear hg1 hg4 hg hBw
 replace ht := ht.then_ hB1
 replace hP := zqb hP hB1
 replace hT := hT.then_ hB1
 clear hB1
 replace ht := Lib.hid ht
 have hT0 := Lib.hid hT
 go_upto_block 0 with (fail)
 go_cut [5, 6] from 7 to 40 (fun lo hi wX => ∃ (j : Nat) (a b : Int), j ≤ 3000 ∧ lo = .int .i64 a ∧ hi = .int .i64 b ∧ r = .got (Ere.timesN t a b) (j + 1) ∧ Turn g (g + 1) w1 wX ∧ Blk wX g 110 (rdC p j))
 case first =>
  clear hT
  have hT := Turn.refl g (g + 1) w1
  have c1 : w1.cell? ⟨g, 1, none⟩ = some (.int .i64 (i : Int)) := hP.cellv rfl
  have kA := hN.out 42 b42 w1 h42.out.symm hP 42 rfl
  cases b42 with
  | true =>
   have hr := Lib.hid (show r = .got (Ere.timesN t (0) (-1)) (i + 1) by rw [← hR.out]; simp)
   go_wp2_with (go_at_call 54; refine kA.mono ?_; rintro e wc42 ⟨rfl, hBq⟩)
   go_meet
   exact ⟨i, 0, -1, by omega, rfl, rfl, hr.out, hT.then_ hBq, zqb hP hBq⟩
  | false =>
   go_upto_region 4 with (go_at_call 54; refine kA.mono ?_; rintro e wc42 ⟨rfl, hBq⟩)
   replace hP := zqb hP hBq
   replace hT := hT.then_ hBq
   replace h1 := zqb h1 hBq
   replace h4 := zqb h4 hBq
   clear c1 kA hBq
   have c1 : wc42.cell? ⟨g, 1, none⟩ = some (.int .i64 (i : Int)) := hP.cellv rfl
   have kA := hN.out 43 b43 wc42 h43.out.symm hP 43 rfl
   cases b43 with
   | true =>
    have hr := Lib.hid (show r = .got (Ere.timesN t (1) (-1)) (i + 1) by rw [← hR.out]; simp)
    go_wp2_with (go_at_call 54; refine kA.mono ?_; rintro e wc43 ⟨rfl, hBq⟩)
    go_meet
    exact ⟨i, 1, -1, by omega, rfl, rfl, hr.out, hT.then_ hBq, zqb hP hBq⟩
   | false =>
    go_upto_region 6 with (go_at_call 54; refine kA.mono ?_; rintro e wc43 ⟨rfl, hBq⟩)
    replace hP := zqb hP hBq
    replace hT := hT.then_ hBq
    replace h1 := zqb h1 hBq
    replace h4 := zqb h4 hBq
    clear c1 kA hBq
    have c1 : wc43.cell? ⟨g, 1, none⟩ = some (.int .i64 (i : Int)) := hP.cellv rfl
    have kA := hN.out 63 b63 wc43 h63.out.symm hP 63 rfl
    cases b63 with
    | true =>
     have hr := Lib.hid (show r = .got (Ere.timesN t (0) (1)) (i + 1) by rw [← hR.out]; simp)
     go_wp2_with (go_at_call 54; refine kA.mono ?_; rintro e wc63 ⟨rfl, hBq⟩)
     go_meet
     exact ⟨i, 0, 1, by omega, rfl, rfl, hr.out, hT.then_ hBq, zqb hP hBq⟩
    | false =>
     go_upto_region 8 with (go_at_call 54; refine kA.mono ?_; rintro e wc63 ⟨rfl, hBq⟩)
     replace hP := zqb hP hBq
     replace hT := hT.then_ hBq
     replace h1 := zqb h1 hBq
     replace h4 := zqb h4 hBq
     clear c1 kA hBq
     have c1 : wc63.cell? ⟨g, 1, none⟩ = some (.int .i64 (i : Int)) := hP.cellv rfl
     have kA := hN.out 123 b123 wc63 h123.out.symm hP 123 rfl
     cases b123 with
     | true =>
      go_upto_region 9 with (go_at_call 54; refine kA.mono ?_; rintro e wc123 ⟨rfl, hBq⟩)
      replace hP := zqb hP hBq
      replace hT := hT.then_ hBq
      clear c1 kA hBq
      have kC := hNC.out wc123 hP
      cases rc with
      | fault e0 i0 =>
       have hr := Lib.hid (show r = .fault e0 i0 by rw [← hR.out]; simp [Ere.Res.bind])
       go_wp2_with (go_at_call 89; refine kC.mono ?_; rintro e wd ⟨hT2, hfe⟩; unfold zxo at hfe; subst hfe)
       rw [hr.out]
       exact ⟨rfl, (hT0.out.trans hT).trans hT2, rfl⟩
      | got cc j =>
       obtain ⟨a, b⟩ := cc
       have hr := Lib.hid (show r = .got (Ere.timesN t (a : Int) b) (j + 1) by rw [← hR.out]; simp [Ere.Res.bind])
       have hj := hci.out _ _ rfl
       go_wp2_with (go_at_call 89; refine kC.mono ?_; rintro e wd ⟨hT2, rfl, hP2⟩)
       go_meet
       exact ⟨j, (a : Int), b, hj, rfl, rfl, hr.out, hT.trans hT2, hP2⟩
     | false =>
      have hr := Lib.hid (show r = .got t i by rw [← hR.out]; simp)
      go_wp2_with (first | (go_at_call 54; refine kA.mono ?_; rintro e wc123 ⟨rfl, hBq⟩; replace h1 := zqb h1 hBq; replace h4 := zqb h4 hBq) | (refine wl_load_nv rfl _ rfl g1 rfl _ h1 ?_) | (refine zqx rfl _ _ rfl g4 x rfl rfl _ rfl h4 ?_; intro w7 h7 hg7))
      refine ret_nv rfl rfl h7 rfl ?_
      rw [hr.out]
      have ht8 := ((ht.out.turn hT hne.out.2.2.2.2.2.2.1).then_ hBq).keep (w' := w7) (fun b hb => hg7.block b (by have := ((ht.out.turn hT hne.out.2.2.2.2.2.2.1).then_ hBq).lt b hb; omega) (fun e => by injection e with e; exact (hne.out.2.2.2.2.2.2.2.2 b hb).2.1 e))
      exact ⟨(hT0.out.trans (hT.then_ hBq)).grown hg7 (fun q e => by injection e with e; have := hne.out; right; omega), (zqb hP hBq).grown hg7 (fun e => by injection e with e; have := hne.out; omega), x, bs, rfl, ht8⟩
 case rest =>
  obtain ⟨j, a, b, hj, rfl, rfl, hr, hT2, hP2⟩ := hcut
  have f1 := hP2.frozen 1
  have c1 : wc.cell? ⟨g, 1, none⟩ = some (.int .i64 (j : Int)) := hP2.cellv rfl
  have hjI : (j : Int) ≤ 3000 := by omega
  replace hr := Lib.hid hr
  have k1 := zzg h1 hT2 (by have := hne.out; omega)
  have k4 := zzg h4 hT2 (by have := hne.out; omega)
  have kt := ht.out.turn hT2 hne.out.2.2.2.2.2.2.1
  clear h1 h4 hP
  go_upto_region 11 with (fail)
  have h5 := setRd hP2 (v := .int .i64 ((j : Int) + 1)) (j := j + 1) (by simp)
  have hT5 := turnRd (hT0.out.trans hT2) 1 (.int .i64 ((j : Int) + 1))
  have ht5 := kt.keep (w' := wc.setCell ⟨g, 1, none⟩ (.int .i64 ((j : Int) + 1))) (fun b hb => Below.heap_setCell _ _ _ _ ((hne.out.2.2.2.2.2.2.2.2 b hb).2.2))
  have h15 := k1.far (p := ⟨g, 1, none⟩) (by have := hne.out; simp; omega) (.int .i64 ((j : Int) + 1))
  have h45 := k4.far (p := ⟨g, 1, none⟩) (by have := hne.out; simp; omega) (.int .i64 ((j : Int) + 1))
  obtain ⟨w5, hw5⟩ : ∃ y, y = wc.setCell ⟨g, 1, none⟩ (.int .i64 ((j : Int) + 1)) := ⟨_, rfl⟩
  rw [← hw5] at h5 hT5 ht5 h15 h45 ⊢
  clear hw5 hT2 hP2 k1 k4 kt c1 f1 hT hT0
  replace ht5 := Lib.hid ht5
  have hne5 := Lib.hid (show B ≤ w5.heap.size by have := hT5.size; have := hne.out; omega)
  have hnn := Lib.hid (show g4 < w5.heap.size ∧ g < w5.heap.size by have := h45.lt; have := h5.lt; omega)
  have hB6 : Below w5.heap.size w5 (w5.alloc (.cells x.C 56)) := zqc (Below.refl _ _) _
  have h46 := Lib.hid (zqb h45 hB6)
  replace hB6 := Lib.hid hB6
  go_wp2_with (first | (refine wl_load_nv rfl _ rfl g1 rfl x h15 ?_) | (refine wl_build1n rfl _ rfl x rfl ?_) | (refine zxy rfl _ rfl (NV.mk 5 0 (some ⟨w5.heap.size, 0, none⟩) 1 1 a b) #[(0, .int .i64 5), (2, .slice (some ⟨w5.heap.size, 0, none⟩) 1 1), (3, .int .i64 a), (4, .int .i64 b)] rfl (fun w => build_ntimes 5 _ 1 1 a b w) ?_) | (refine zqx rfl _ _ rfl g4 (NV.mk 5 0 (some ⟨w5.heap.size, 0, none⟩) 1 1 a b) rfl rfl _ rfl h46.out ?_; intro w7 h7 hg7))
  refine ret_nv rfl rfl h7 rfl ?_
  rw [hr.out]
  have hL := NdL.one ht5.out hB6.out (Nat.le_refl _) (Blk.new _ _ _) hne5.out
  have hL7 := hL.keep (w' := w7) (fun q hq => hg7.block q (hL.lt q hq).2 (fun e => by
   have h9 := hnn.out
   injection e with e
   simp only [ownL, List.flatten_cons, List.flatten_nil, List.append_nil, List.cons_append, List.nil_append, List.mem_cons] at hq
   rcases hq with hq | hq
   ·omega
   ·exact (hne.out.2.2.2.2.2.2.2.2 q hq).2.1 e))
  exact ⟨(hT5.then_ hB6.out).grown hg7 (fun q e => by injection e with e; have := hne.out; right; omega), (zqb h5 hB6.out).grown hg7 (fun e => by injection e with e; have := hne.out; omega), _, _, rfl, hL7.node 5 0 a b⟩
end Go.Proofs.YtkedgombccdamaaGreatDoor
namespace Go.Proofs
open Go.Shelf
def Tryz.lays143_ren : Go.Shelf.Ren := ⟨fun | 143 => 99 | 219 => 101 | 217 => 52 | 225 => 102 | 224 => 103 | 267 => 104 | 266 => 60 | 314 => 105 | n => n, fun | 9 => 9 | 3 => 3 | 4 => 4 | 5 => 5 | 46 => 133 | 146 => 168 | 51 => 42 | n => n, fun | 1 => 1 | n => n⟩
theorem Tryz.lays143 : Go.Proofs.Lays.n143 Tryz.prog Tryz.lays143_ren := {
 mixed := by kernel_rfl
 f143 := Tryz.func99.trans (congrArg some (by kernel_rfl))
 f217 := Tryz.func52.trans (congrArg some (by kernel_rfl))
 f219 := Tryz.func101.trans (congrArg some (by kernel_rfl))
 f224 := Tryz.func103.trans (congrArg some (by kernel_rfl))
 f225 := Tryz.func102.trans (congrArg some (by kernel_rfl))
 f266 := Tryz.func60.trans (congrArg some (by kernel_rfl))
 f267 := Tryz.func104.trans (congrArg some (by kernel_rfl))
 f314 := Tryz.func105.trans (congrArg some (by kernel_rfl))
 t3 := Tryz.underlying3
 a3 := Tryz.isAgg3
 z3 := Tryz.sizeOf3
 v3 := Tryz.zeroValue3
 t4 := Tryz.underlying4
 a4 := Tryz.isAgg4
 z4 := Tryz.sizeOf4
 v4 := Tryz.zeroValue4
 t5 := Tryz.underlying5
 a5 := Tryz.isAgg5
 z5 := Tryz.sizeOf5
 v5 := Tryz.zeroValue5
 t9 := Tryz.underlying9
 a9 := Tryz.isAgg9
 z9 := Tryz.sizeOf9
 v9 := Tryz.zeroValue9
 t46 := Tryz.underlying133
 a46 := Tryz.isAgg133
 z46 := Tryz.sizeOf133
 v46 := Tryz.zeroValue133
 t51 := Tryz.underlying42
 a51 := Tryz.isAgg42
 z51 := Tryz.sizeOf42
 v51 := Tryz.zeroValue42
 t146 := Tryz.underlying168
 a146 := Tryz.isAgg168
 z146 := Tryz.sizeOf168
 v146 := Tryz.zeroValue168
 g1 := by kernel_rfl }
open Go.RowKit Go.Lib in
theorem Tryz.strings_Index (s sub : ByteArray) (m : Int) (w : World) (hs : s.size < 4294967281) (hm : w.cell? ⟨1, 0, none⟩ = some (.int .i64 m)) :
  Calls Tryz.prog 99 #[.string s, .string sub] w fun e w' => e = .returned (.int .i64 (Lib.index s.data.toList sub.data.toList)) ∧ w' = w := Any.strings_Index Tryz.lays143 s sub m w hs hm
end Go.Proofs
namespace Go.Proofs.YtkedgombccdamaaGreatDoor
open Go.RowKit Go.Maps
set_option linter.unusedVariables false
set_option linter.unusedSimpArgs false
attribute [local go_sem] Oper.semAt_some
namespace Ere
def hit (p : ByteArray) (j : Nat) : Prop := j + 1 < p.size ∧ chr p j = 58 ∧ chr p (j + 1) = 93
theorem endAt_none (p : ByteArray) : ∀ n i, p.size ≤ n + i → endAt p n i = none → ∀ j, i ≤ j → ¬ hit p j
 | 0, i, hn, _, j, hj => fun h => by have := h.1; omega
 | n + 1, i, hn, h, j, hj => by
  unfold endAt at h
  split at h
  ·intro hh; have := hh.1; omega
  ·split at h
   ·cases h
   ·rename_i h1 h2
    by_cases e : j = i
    ·subst e
     exact fun hh => h2 ⟨hh.2.1, hh.2.2⟩
    ·exact endAt_none p n (i + 1) (by omega) h j (by omega)
theorem endAt_some (p : ByteArray) : ∀ n i j, endAt p n i = some j → i ≤ j ∧ hit p j ∧ ∀ k, i ≤ k → k < j → ¬ hit p k
 | 0, i, j, h => by cases h
 | n + 1, i, j, h => by
  unfold endAt at h
  split at h
  ·cases h
  ·split at h
   ·rename_i h1 h2
    injection h with h
    subst h
    exact ⟨Nat.le_refl _, ⟨by omega, h2.1, h2.2⟩, fun k h3 h4 => by omega⟩
   ·rename_i h1 h2
    obtain ⟨a, b, c⟩ := endAt_some p n (i + 1) j h
    refine ⟨by omega, b, fun k h3 h4 => ?_⟩
    by_cases e : k = i
    ·subst e
     exact fun hh => h2 ⟨hh.2.1, hh.2.2⟩
    ·exact c k (by omega) h4
theorem chr_list (p : ByteArray) (j : Nat) (c : UInt8) : (p.data.toList[j]? = some c) ↔ (j < p.size ∧ chr p j = c.toNat) := by
 unfold chr
 by_cases h : j < p.size
 ·rw [dif_pos h]
  have e : p.data.toList[j]? = some p[j] := Lib.data_getElem? p j h
  rw [e]
  constructor
  ·intro e; injection e with e; exact ⟨h, by rw [e]⟩
  ·intro e; rw [UInt8.toNat_inj.1 e.2]
 ·rw [dif_neg h]
  constructor
  ·intro e
   have : p.data.toList[j]? = none := by rw [List.getElem?_eq_none]; simpa using h
   rw [this] at e; cases e
  ·intro e; exact absurd e.1 h
theorem occ_hit (p : ByteArray) (a k : Nat) (ha : a ≤ p.size) : (Lib.occAt (p.extract a p.size).data.toList [58, 93] k = true) ↔ hit p (a + k) := by
 unfold Lib.occAt
 rw [Lib.extract_to_end, List.drop_drop]
 have key : ∀ l : List UInt8, (([58, 93] : List UInt8).isPrefixOf l = true) ↔ (l[0]? = some 58 ∧ l[1]? = some 93) := by
  intro l
  rcases l with _ | ⟨x, _ | ⟨y, l⟩⟩
  ·simp
  ·simp
  ·simp [List.isPrefixOf]
   constructor <;> (rintro ⟨a, b⟩; exact ⟨a.symm, b.symm⟩)
 rw [key, List.getElem?_drop, List.getElem?_drop, Nat.add_zero, chr_list, chr_list]
 unfold hit
 constructor
 ·rintro ⟨⟨_, h2⟩, h3, h4⟩
  exact ⟨by omega, h2, h4⟩
 ·rintro ⟨h1, h2, h3⟩
  exact ⟨⟨by omega, h2⟩, by omega, h3⟩
theorem index_end (p : ByteArray) (a : Nat) (ha : a ≤ p.size) : Lib.index (p.extract a p.size).data.toList [58, 93] = match endAt p p.size a with
  | none => -1
  | some j => ((j - a : Nat) : Int) := by
 have hl : (p.extract a p.size).data.toList.length = p.size - a := by
  rw [Lib.extract_to_end]
  simp
 cases he : endAt p p.size a with
 | none =>
  refine Lib.index_none fun k hk => ?_
  rw [Bool.eq_false_iff]
  exact fun h => endAt_none p p.size a (by omega) he (a + k) (by omega) ((occ_hit p a k ha).1 h)
 | some j =>
  obtain ⟨h1, h2, h3⟩ := endAt_some p p.size a j he
  have h4 := h2.1
  refine Lib.index_first (i := j - a) (by omega) ((occ_hit p a (j - a) ha).2 (by rw [show a + (j - a) = j by omega]; exact h2)) fun k hk => ?_
  rw [Bool.eq_false_iff]
  exact fun h => h3 (a + k) (by omega) (by omega) ((occ_hit p a k ha).1 h)
theorem sub_extract (p : ByteArray) (a n : Nat) (h : a + n ≤ p.size) : ((p.extract a p.size).extract 0 n).toList.map UInt8.toNat = sub p a (a + n) := by
 rw [ByteArray.toList_eq]
 unfold sub
 rw [show a + n - a = n by omega]
 apply List.ext_getElem?
 intro k
 rw [List.getElem?_map, List.getElem?_map]
 by_cases hk : k < n
 ·have hs : ((p.extract a p.size).extract 0 n).data.toList[k]? = some (p[a + k]'(by omega)) := by
   rw [Lib.data_getElem? _ k (by simp; omega)]
   congr 1
   rw [ByteArray.getElem_extract, ByteArray.getElem_extract]
   simp
  rw [hs, List.getElem?_range hk]
  simp only [Option.map_some]
  unfold chr
  rw [dif_pos (by omega)]
 ·rw [List.getElem?_eq_none (by simp; omega), List.getElem?_eq_none (by simp; omega)]
  rfl
end Ere
def Mx (w : World) : Prop := ∃ m : Int, w.cell? ⟨1, 0, none⟩ = some (.int .i64 m)
theorem Mx.size {w : World} (h : Mx w) : 1 < w.heap.size := by
 obtain ⟨m, hm⟩ := h
 by_cases e : 1 < w.heap.size
 ·exact e
 ·unfold World.cell? at hm
  simp [Array.getElem?_eq_none (show w.heap.size ≤ 1 by omega)] at hm
theorem Mx.turn {g : Nat} {w w' : World} (h : Mx w) (ht : Turn g (g + 1) w w') (h0 : 1 < g) : Mx w' := by
 have h1 := h.size
 obtain ⟨m, hm⟩ := h
 exact ⟨m, (World.cell?_of_block (w := w) (ht.block 1 h1 (.inl h0))).trans hm⟩
theorem Mx.then_ {w w' : World} (h : Mx w) (ht : Below w.heap.size w w') : Mx w' := h.turn (g := 2) (Turn.of_below ht) (by omega)
theorem set0_eq : setC 0 = #[.int .u64 0, .int .u64 0, .int .u64 0, .int .u64 0] := by kernel_rfl
set_option maxRecDepth 100000 in
set_option maxHeartbeats 4000000 in
theorem clas_any (g : Nat) (p : ByteArray) (i s : Nat) (w : World) (hP : Blk w g 110 (rdC p i)) (hi : i + 2 ≤ p.size) (hp : p.size ≤ 1024) (hM : Mx w) :
  Calls Tryz.prog 97 #[.pointer (some ⟨g, 0, none⟩), .int .i64 (s : Int)] w fun e w' => RdAns g p w (fun x : BSet => .agg (setC x)) (Ere.classR p s i) e w' := by
 obtain ⟨r, hr0⟩ : ∃ r, Ere.classR p s i = r := ⟨_, rfl⟩
 rw [hr0]
 have hR := hr0
 unfold Ere.classR at hR
 have hE := Ere.index_end p (i + 2) hi
 have hsub := fun n h => Ere.sub_extract p (i + 2) n h
 obtain ⟨q, hq⟩ : ∃ q, q = p.extract (i + 2) p.size := ⟨_, rfl⟩
 rw [← hq] at hE hsub
 replace hq := Lib.hid hq
 replace hsub := Lib.hid hsub
 obtain ⟨oe, hoe⟩ : ∃ o, Ere.endAt p p.size (i + 2) = o := ⟨_, rfl⟩
 rw [hoe] at hR hE
 have hend := fun j (e : oe = some j) => Ere.endAt_some p p.size (i + 2) j (by rw [hoe, e])
 clear hr0 hoe
 replace hend := Lib.hid hend
 replace hR := Lib.hid hR
 have hI : ∀ W, Mx W → Calls Tryz.prog 99 #[.string q, .string ⟨#[58, 93]⟩] W fun e w' => e = .returned (.int .i64 (Lib.index q.data.toList [58, 93])) ∧ w' = W := fun W hW => by
  obtain ⟨m, hm⟩ := hW
  exact Tryz.strings_Index q ⟨#[58, 93]⟩ m W (by rw [hq.out]; simp; omega) hm
 rw [hE] at hI
 replace hI := Lib.hid hI
 clear hE
 have hT := Turn.refl g (g + 1) w
 have hgl := Lib.hid hP.lt
 have hpI : (p.size : Int) ≤ 1024 := by omega
 have hiI : (i : Int) + 2 ≤ p.size := by omega
 go_enter Tryz.func97, Tryz.ntmps97
 have h4 : Blk (w.alloc (.cells #[.int .u64 0, .int .u64 0, .int .u64 0, .int .u64 0] 53)) w.heap.size 53 (setC 0) := by rw [set0_eq]; exact Blk.new' _ _ _ rfl
 have hB1 : Below w.heap.size w (w.alloc (.cells #[.int .u64 0, .int .u64 0, .int .u64 0, .int .u64 0] 53)) := zqc (Below.refl _ _) _
 go_upto_region 1 with (fail)
 obtain ⟨w1, hw1⟩ : ∃ y, y = w.alloc (.cells #[.int .u64 0, .int .u64 0, .int .u64 0, .int .u64 0] 53) := ⟨_, rfl⟩
 have hg4 := h4.lt
 rw [← hw1] at h4 hB1 hg4 ⊢
 clear hw1
 replace hP := zqb hP hB1
 replace hT := hT.then_ hB1
 replace hM := hM.then_ hB1
 clear hB1
 obtain ⟨g4, hg4e⟩ : ∃ y, y = w.heap.size := ⟨_, rfl⟩
 rw [← hg4e] at h4 hg4 ⊢
 have hwb := Lib.hid (show w.heap.size ≤ g4 by omega)
 clear hg4e
 have c0 : w1.cell? ⟨g, 0, none⟩ = some (.string p) := hP.cellv rfl
 have c1 : w1.cell? ⟨g, 1, none⟩ = some (.int .i64 (i : Int)) := hP.cellv rfl
 go_big_region
 rw [← hq.out]
 replace hP := hP.drew
 replace h4 := h4.drew
 replace hT := hT.then_ ((Below.refl w1.heap.size w1).drew)
 replace hM := hM.then_ ((Below.refl w1.heap.size w1).drew)
 replace hg4 : g4 < w1.drew.heap.size := hg4
 obtain ⟨w2, hw2⟩ : ∃ y, y = w1.drew := ⟨_, rfl⟩
 rw [← hw2] at hP h4 hT hM hg4 ⊢
 clear hw2 c0 c1
 have kI := hI.out w2 hM
 cases oe with
 | none =>
  have hr := Lib.hid (show r = .fault 43 s by rw [← hR.out])
  simp only at kI
  clear hI hend hsub
  go_wp2_with (first | (go_at_call 99; refine kI.mono ?_; rintro e w3 ⟨rfl, rfl⟩) | (go_at_call 40; refine (zxf 43 s _).mono ?_; rintro e w4 ⟨hfe, hB⟩; unfold zxo at hfe; subst hfe))
  rw [hr.out]
  exact ⟨rfl, hT.then_ hB, rfl⟩
 | some j =>
  obtain ⟨h1, h2, _⟩ := hend.out j rfl
  have h3 := h2.1
  obtain ⟨n, hn⟩ : ∃ n, j = i + 2 + n := ⟨j - (i + 2), by omega⟩
  subst hn
  have hjn : i + 2 + n - (i + 2) = n := by omega
  simp only [hjn] at kI
  have hqs : q.size = p.size - (i + 2) := by rw [hq.out]; simp
  have hnI : (n : Int) ≤ q.size := by omega
  have hnp : (n : Int) ≤ 1024 := by omega
  have kC := class_all (q.extract 0 n)
  rw [hsub.out n (by omega)] at kC
  clear h1 h2 h3 hjn hqs hend hsub hI
  cases hnb : Ere.nameB (Ere.sub p (i + 2) (i + 2 + n)) with
  | none =>
   have hcv : clsV (Ere.sub p (i + 2) (i + 2 + n)) = .tuple #[.agg (setC 0), .int .i64 30] := by unfold clsV; rw [hnb]
   rw [hcv] at kC
   have hr := Lib.hid (show r = .fault 30 i by rw [← hR.out]; simp only [hnb])
   clear hcv hnb hR
   go_upto_region 6 with (first | (go_at_call 99; refine kI.mono ?_; rintro e w3 ⟨rfl, rfl⟩) | (go_at_call 100; refine (kC _).mono ?_; rintro e w4 ⟨rfl, hB⟩) | (refine zqm rfl _ _ rfl _ _ rfl rfl _ (Blk.new _ _ (setC 0)) ?_; intro w5 hb5 hg5))
   have hsz := Lib.hid (show g < w4.heap.size ∧ g4 < w4.heap.size ∧ w.heap.size ≤ w4.heap.size by have := hB.size; have := hP.lt; have := h4.lt; have := hT.size; omega)
   have hB5 := zqh (zqd hB (zqc (Below.refl w4.heap.size w4) (.cells #[.int .u64 0, .int .u64 0, .int .u64 0, .int .u64 0] 53))) hg5 hB.size
   replace hP := zqb hP hB5
   replace hT := hT.then_ hB5
   replace h4 := zqb h4 hB5
   clear hB hg5 hM kI kC
   have hP0 := hP.lt
   have h40 := h4.lt
   have c1 : w5.cell? ⟨g, 1, none⟩ = some (.int .i64 (i : Int)) := hP.cellv rfl
   go_wp2_with (go_at_call 40; refine (zxf 30 i _).mono ?_; rintro e w6 ⟨hfe, hB⟩; unfold zxo at hfe; subst hfe)
   rw [hr.out]
   exact ⟨rfl, hT.then_ hB, rfl⟩
  | some x =>
   have hcv : clsV (Ere.sub p (i + 2) (i + 2 + n)) = .tuple #[.agg (setC x), .int .i64 0] := by unfold clsV; rw [hnb]
   rw [hcv] at kC
   have hr := Lib.hid (show r = .got x (i + 2 + n + 2) by rw [← hR.out]; simp only [hnb])
   clear hcv hnb hR
   go_upto_region 6 with (first | (go_at_call 99; refine kI.mono ?_; rintro e w3 ⟨rfl, rfl⟩) | (go_at_call 100; refine (kC _).mono ?_; rintro e w4 ⟨rfl, hB⟩) | (refine zqm rfl _ _ rfl _ _ rfl rfl _ (Blk.new _ _ (setC 0)) ?_; intro w5 hb5 hg5))
   have hsz := Lib.hid (show g < w4.heap.size ∧ g4 < w4.heap.size ∧ w.heap.size ≤ w4.heap.size by have := hB.size; have := hP.lt; have := h4.lt; have := hT.size; omega)
   have hB5 := zqh (zqd hB (zqc (Below.refl w4.heap.size w4) (.cells #[.int .u64 0, .int .u64 0, .int .u64 0, .int .u64 0] 53))) hg5 hB.size
   replace hP := zqb hP hB5
   replace hT := hT.then_ hB5
   replace h4 := zqb h4 hB5
   clear hB hg5 hM kI kC
   have hP0 := hP.lt
   have h40 := h4.lt
   have hb50 := hb5.lt
   obtain ⟨g7, hg7⟩ : ∃ y, y = w4.heap.size := ⟨_, rfl⟩
   rw [← hg7] at hb5 hb50 ⊢
   have hne := Lib.hid (show g7 ≠ g ∧ g4 ≠ g ∧ w.heap.size ≤ g7 by have := hsz.out; have := hwb.out; have := hgl.out; omega)
   clear hg7
   have c1 : w5.cell? ⟨g, 1, none⟩ = some (.int .i64 (i : Int)) := hP.cellv rfl
   have f1 := hP.frozen 1
   go_upto_region 9 with (fail)
   have hP2 := setRd hP (v := .int .i64 ((i : Int) + (2 + (n : Int) + 2))) (j := i + 2 + n + 2) (by congr 1; omega)
   have hT2 := turnRd hT 1 (.int .i64 ((i : Int) + (2 + (n : Int) + 2)))
   have h42 := h4.far (p := ⟨g, 1, none⟩) (by have := hne.out; simp; omega) (.int .i64 ((i : Int) + (2 + (n : Int) + 2)))
   have h72 := hb5.far (p := ⟨g, 1, none⟩) (by have := hne.out; simp; omega) (.int .i64 ((i : Int) + (2 + (n : Int) + 2)))
   obtain ⟨w6, hw6⟩ : ∃ y, y = w5.setCell ⟨g, 1, none⟩ (.int .i64 ((i : Int) + (2 + (n : Int) + 2))) := ⟨_, rfl⟩
   rw [← hw6] at hP2 hT2 h42 h72 ⊢
   clear hw6 c1 f1 hP hT h4 hb5 hB5
   go_wp2_with (first | (refine zqv rfl _ rfl g7 rfl _ h72 ?_) | (refine zqm rfl _ _ rfl g4 _ rfl rfl _ h42 ?_; intro w7 h7 hg7))
   refine ret_set rfl rfl h7 rfl ?_
   rw [hr.out]
   exact ⟨hT2.grown hg7 (fun q e => by injection e with e; have := hwb.out; right; omega), rfl, hP2.grown hg7 (fun e => by injection e with e; have := hne.out; omega)⟩
end Go.Proofs.YtkedgombccdamaaGreatDoor
namespace Go.Proofs.YtkedgombccdamaaGreatDoor
open Go.RowKit Go.Maps
set_option linter.unusedVariables false
set_option linter.unusedSimpArgs false
theorem field_reader_0 (b off : Nat) (w : World) : (Instr.fieldAt 110 (.pointer (some ⟨b, off, none⟩)) 0).run Tryz.prog w = .ok (.pointer (some ⟨b, off, none⟩)) w := by kernel_rfl
theorem field_reader_1 (b off : Nat) (w : World) : (Instr.fieldAt 110 (.pointer (some ⟨b, off, none⟩)) 1).run Tryz.prog w = .ok (.pointer (some ⟨b, off + 1, none⟩)) w := by kernel_rfl
theorem gs_len_str {ops : Array Oper} {S : Nat → GSpec} {Q : Exit → Act → World → Prop} {i : Nat} {o : Oper} {a : Act} {w : World} (hw : Region.wanted o (yielded ops a.tmps) = true) (x : Operand) (ho : o.op = .call { callee := .builtin .len, args := #[x], argTypes := #[9] })
  (p : ByteArray) (hx : a.eval x = .string p) (hp : (S i).p (.int .i64 (p.size : Int)) w) : GStep Tryz.prog ops S Q i o a w :=
 zzx hw (v := .int .i64 (p.size : Int)) (w' := w) (by
  unfold execOp
  simp only [ho, resolve, invoke, builtin, Sem.run_bind, Sem.run_pure, Result.andThen_ok, List.map_toArray, List.map_cons, List.map_nil, hx, run_len_string w 9 o.type p Tryz.underlying9]
  rfl) (Below.refl _ _) hp
theorem GStepR.call_or {rw : Option Nat} {i0 : Nat} {P : Program} {ops : Array Oper} {S : Nat → GSpec} {Q : Exit → Act → World → Prop} {o : Oper} {a : Act} {w : World} (hw : Region.wanted o (yielded ops a.tmps) = true) (f : FuncId) (xs : Array Operand) (ats : Array TypeId) (ho : o.op = .call { callee := .value (.func f), args := xs, argTypes := ats })
  (hf : ∀ args w, (callFunc f args).run P w = .ok (.enter f args) w) (vs : Array Value) (hv : xs.map a.eval = vs)
  (hc : Calls P f vs w fun e w' => (∃ v, e = .returned v ∧ w.grownBy w' rw ∧ (S i0).p v w') ∨ ∃ ch, e = .panicked ch ∧ Q (.panic ch) a w') : GStepR rw i0 P ops S Q i0 o a w := by
 unfold GStepR
 rw [if_pos hw]
 unfold Oper.wp
 have hr : (execOp a.eval o).run P w = .ok (.enter f vs) w := by
  have he : execOp a.eval o = callFunc f (#[] ++ xs.map a.eval ++ #[]) := by
   unfold execOp; rw [ho]; rfl
  rw [he, hv]
  simpa using hf vs w
 rw [hr, Oper.upon_enter]
 refine hc.mono ?_
 rintro e w' (⟨v, rfl, hb, hp⟩ | ⟨ch, rfl, hq⟩)
 ·exact ⟨v, rfl, ⟨hb, fun h => (h rfl).elim⟩, hp⟩
 ·exact hq
theorem Turn.one {g : Nat} {w w' : World} (h : Turn g (g + 1) w w') : w.grownBy w' (some g) := ⟨h.os, h.tape, h.output, h.size, fun k hk hn => h.block k hk (by
 rcases Nat.lt_trichotomy k g with h1 | h1 | h1
 ·exact .inl h1
 ·exact absurd (by rw [h1]) hn
 ·exact .inr h1)⟩
theorem Turn.of_one {g : Nat} {w w' : World} (h : w.grownBy w' (some g)) : Turn g (g + 1) w w' := ⟨h.os, h.tape, h.output, h.size, fun k hk hn => h.block k hk (fun e => by injection e with e; omega)⟩
def rdS (g : Nat) (p : ByteArray) (y : Value) (k : Nat) (r : Prop) : GSpec := ⟨fun v w => r → v = y ∧ Blk w g 110 (rdC p k), fun v w w' h hB hr => ⟨(h hr).1, zqb (h hr).2 hB⟩⟩
theorem enter_item (args : Array Value) (w : World) : (callFunc 91 args).run Tryz.prog w = .ok (.enter 91 args) w := by kernel_rfl
def noS : GSpec := ⟨fun _ _ => False, fun _ _ _ h _ => h⟩
theorem wl_sets2 {ops : Array Oper} {rest : List Oper} {o : Oper} {a : Act} {w : World} {Q : Exit → Act → World → Prop} (hgd : o.guard = none) (x y : Operand) (ho : o.op = .buildSlice 72 2 #[(0, x), (1, y)]) (p q : BSet) (hx : a.eval x = .agg (setC p)) (hy : a.eval y = .agg (setC q))
  (h : wpList Tryz.prog ops Q rest (a.put o.dst (.slice (some ⟨w.heap.size, 0, none⟩) 2 2)) (w.alloc (.cells (setC p ++ setC q) 53))) : wpList Tryz.prog ops Q (o :: rest) a w :=
 wpList_plain hgd fun _ hK => by
  have e : (#[(0, x), (1, y)] : Array (Nat × Operand)).map (fun (i, x) => (i, a.eval x)) = #[(0, .agg (setC p)), (1, .agg (setC q))] := by simp [hx, hy]
  unfold Oper.wp execOp
  simp only [ho, e, Sem.run_bind, build_sets2, Result.andThen_ok, Sem.run_pure]
  exact hK _ _ h
theorem ofB_one (b : UInt8) : ofB [b] = bit b.toNat := by simp [ofB]
theorem rd_cell {g : Nat} {p : ByteArray} {i : Nat} {w w' : World} (h : Blk w g 110 (rdC p i)) (hB : Below w.heap.size w w') : w'.cell? ⟨g, 0, none⟩ = some (.string p) ∧ w'.cell? ⟨g, 0 + 1, none⟩ = some (.int .i64 (i : Int)) := ⟨(zqb h hB).cellv rfl, (zqb h hB).cellv rfl⟩
end Go.Proofs.YtkedgombccdamaaGreatDoor
namespace Go.Proofs.YtkedgombccdamaaGreatDoor
open Go.RowKit Go.Maps
set_option linter.unusedVariables false
set_option linter.unusedSimpArgs false
attribute [local go_sem] Oper.semAt_some
set_option maxRecDepth 100000 in
set_option maxHeartbeats 4000000 in
theorem item_any (g : Nat) (p : ByteArray) (i s : Nat) (w : World) (hP : Blk w g 110 (rdC p i)) (hi : i < p.size) (hp : p.size ≤ 1024) (hM : Mx w) :
  Calls Tryz.prog 91 #[.pointer (some ⟨g, 0, none⟩), .int .i64 (s : Int)] w fun e w' => RdAns g p w (fun x : BSet => .agg (setC x)) (Ere.itemR p s i) e w' := by
 obtain ⟨r, hr0⟩ : ∃ r, Ere.itemR p s i = r := ⟨_, rfl⟩
 rw [hr0]
 have hR := hr0
 unfold Ere.itemR at hR
 obtain ⟨rc, hrc⟩ : ∃ r, Ere.classR p s i = r := ⟨_, rfl⟩
 obtain ⟨b91, b91_e⟩ : ∃ b, Ere.isAt p i 91 = b := ⟨_, rfl⟩
 obtain ⟨j, hj⟩ : ∃ j, j = i + 1 := ⟨_, rfl⟩
 have hj2 : i + 2 = j + 1 := by omega
 have hj3 : i + 3 = j + 2 := by omega
 rw [hj2, hj3, ← hj] at hR
 obtain ⟨b58, b58_e⟩ : ∃ b, Ere.isAt p j 58 = b := ⟨_, rfl⟩
 obtain ⟨bo, bo_e⟩ : ∃ b, Ere.oneOf p j [46, 61] = b := ⟨_, rfl⟩
 obtain ⟨b45, b45_e⟩ : ∃ b, Ere.isAt p j 45 = b := ⟨_, rfl⟩
 obtain ⟨b93, b93_e⟩ : ∃ b, Ere.isAt p (j + 1) 93 = b := ⟨_, rfl⟩
 obtain ⟨bge, bge_e⟩ : ∃ b, decide (p.size ≤ j + 1) = b := ⟨_, rfl⟩
 obtain ⟨bp, bp_e⟩ : ∃ b, Ere.oneOf p (j + 2) [58, 46, 61] = b := ⟨_, rfl⟩
 have hge := Lib.hid (show decide (((p.size : Nat) : Int) ≤ ((j + 1 : Nat) : Int)) = bge by rw [← bge_e]; congr 1; simp only [eq_iff_iff]; omega)
 rw [b91_e, b58_e, bo_e, b45_e, b93_e, bge_e, bp_e, hrc] at hR
 have hKc : b58 = true → ∀ W, Blk W g 110 (rdC p i) → Mx W → Calls Tryz.prog 97 #[.pointer (some ⟨g, 0, none⟩), .int .i64 (s : Int)] W fun e w' => RdAns g p W (fun x : BSet => .agg (setC x)) rc e w' := fun h W hW hMW => by
  rw [← hrc]
  exact clas_any g p i s W hW (by have := Ere.isAt_lt (b58_e.trans h); omega) hp hMW
 have hch : Ere.chr p i = p[i].toNat := by unfold Ere.chr; rw [dif_pos hi]
 clear hr0 hrc
 replace hKc := Lib.hid hKc
 replace hR := Lib.hid hR
 replace hch := Lib.hid hch
 replace b91_e := Lib.hid b91_e
 replace b58_e := Lib.hid b58_e
 replace bo_e := Lib.hid bo_e
 replace b45_e := Lib.hid b45_e
 replace b93_e := Lib.hid b93_e
 replace bge_e := Lib.hid bge_e
 replace bp_e := Lib.hid bp_e
 have hT := Turn.refl g (g + 1) w
 have hgl := Lib.hid hP.lt
 have hiI : (i : Int) < p.size := by omega
 have hi0 : ¬ (i : Int) < 0 := by omega
 have hpI : (p.size : Int) ≤ 1024 := by omega
 have hjI : (i : Int) + 1 = (j : Int) := by omega
 have hjb : j ≤ 1024 := by omega
 replace hjI := Lib.hid hjI
 replace hj := Lib.hid hj
 clear hj2 hj3
 go_enter Tryz.func91, Tryz.ntmps91
 have h4 : Blk (w.alloc (.cells #[.int .u64 0, .int .u64 0, .int .u64 0, .int .u64 0] 53)) w.heap.size 53 (setC 0) := by rw [set0_eq]; exact Blk.new' _ _ _ rfl
 have hB1 : Below w.heap.size w (w.alloc (.cells #[.int .u64 0, .int .u64 0, .int .u64 0, .int .u64 0] 53)) := zqc (Below.refl _ _) _
 go_upto_region 1 with (fail)
 obtain ⟨w1, hw1⟩ : ∃ y, y = w.alloc (.cells #[.int .u64 0, .int .u64 0, .int .u64 0, .int .u64 0] 53) := ⟨_, rfl⟩
 rw [← hw1] at h4 hB1 ⊢
 clear hw1
 replace hP := zqb hP hB1
 replace hT := hT.then_ hB1
 replace hM := hM.then_ hB1
 clear hB1
 obtain ⟨g4, hg4e⟩ : ∃ y, y = w.heap.size := ⟨_, rfl⟩
 rw [← hg4e] at h4 ⊢
 have hwb := Lib.hid (show w.heap.size ≤ g4 ∧ g4 ≠ g by have := hgl.out; omega)
 clear hg4e
 have c1 : w1.cell? ⟨g, 1, none⟩ = some (.int .i64 (i : Int)) := hP.cellv rfl
 have k91 := is_at g p i i 91 91 w1 hP rfl b91_e.out
 go_upto_if 14 with (go_at_call 54; refine k91.mono ?_; rintro e w2 ⟨rfl, hB⟩)
 replace hP := zqb hP hB
 replace hT := hT.then_ hB
 replace hM := hM.then_ hB
 replace h4 := zqb h4 hB
 clear k91 hB c1
 go_cut [] from 15 to 27 (fun wx => (b91 && b58) = false ∧ (b91 && bo) = false ∧ Below w2.heap.size w2 wx)
 case first =>
  cases b91 with
  | false =>
   go_wp2_with (fail)
   go_meet
   exact ⟨rfl, rfl, Below.refl _ _⟩
  | true =>
   have hP2 := hP
   have hT2 := hT
   have hM2 := hM
   have h42 := h4
   have k58 := is_at g p i j 58 58 w2 hP2 rfl b58_e.out
   rw [← hjI.out] at k58
   cases b58 with
   | true =>
    have hr := Lib.hid (show r = rc by rw [← hR.out]; simp)
    go_upto_region 4 with (go_at_call 54; refine k58.mono ?_; rintro e w3 ⟨rfl, hB3⟩)
    have kC := hKc.out (by trivial) w3 (zqb hP2 hB3) (hM2.then_ hB3)
    cases rc with
    | fault e0 i0 =>
     go_wp2_with (go_at_call 97; refine kC.mono ?_; rintro e w4 ⟨hT4, hfe⟩; unfold zxo at hfe; subst hfe)
     rw [hr.out]
     exact ⟨rfl, (hT2.then_ hB3).trans hT4, rfl⟩
    | got x jx =>
     go_wp2_with (first | (go_at_call 97; refine kC.mono ?_; rintro e w4 ⟨hT4, rfl, hP4⟩; have h44 := zzg (zqb h42 hB3) hT4 (by have := hwb.out; have := hgl.out; omega)) | (refine zqm rfl _ _ rfl g4 _ rfl rfl _ h44 ?_; intro w5 h5 hg5))
     refine ret_set rfl rfl h5 rfl ?_
     rw [hr.out]
     exact ⟨((hT2.then_ hB3).trans hT4).grown hg5 (fun q e => by injection e with e; have := hwb.out; right; omega), rfl, hP4.grown hg5 (fun e => by injection e with e; have := hwb.out; omega)⟩
   | false =>
    go_upto_region 5 with (go_at_call 54; refine k58.mono ?_; rintro e w3 ⟨rfl, hB3⟩)
    have kO := one_any g p ⟨#[46, 61]⟩ i j w3 (zqb hP2 hB3)
    rw [show (List.map UInt8.toNat (⟨#[46, 61]⟩ : ByteArray).data.toList) = [46, 61] from rfl, bo_e.out, ← hjI.out] at kO
    cases bo with
    | true =>
     have hr := Lib.hid (show r = .fault 43 i by rw [← hR.out]; simp)
     go_wp2_with (first | (go_at_call 79; refine kO.mono ?_; rintro e w4 ⟨rfl, hB4⟩) | (go_at_call 40; refine (zxf 43 i _).mono ?_; rintro e w5 ⟨hfe, hB5⟩; unfold zxo at hfe; subst hfe))
     rw [hr.out]
     exact ⟨rfl, ((hT2.then_ hB3).then_ hB4).then_ hB5, rfl⟩
    | false =>
     go_wp2_with (go_at_call 79; refine kO.mono ?_; rintro e w4 ⟨rfl, hB4⟩)
     go_meet
     exact ⟨rfl, rfl, zqd hB3 hB4⟩
 case rest =>
  obtain ⟨hx1, hx2, hBc⟩ := hcut
  have hR2 := hR.out
  rw [hx1, hx2] at hR2
  simp only [Bool.false_eq_true, if_false] at hR2
  replace hR2 := Lib.hid hR2
  replace hP := zqb hP hBc
  replace hT := hT.then_ hBc
  replace h4 := zqb h4 hBc
  clear hx1 hx2 hBc hM hKc hR
  have c0 : wc.cell? ⟨g, 0, none⟩ = some (.string p) := hP.cellv rfl
  have c1 : wc.cell? ⟨g, 1, none⟩ = some (.int .i64 (i : Int)) := hP.cellv rfl
  have f1 := hP.frozen 1
  go_upto_region 9 with (fail)
  rw [hjI.out]
  have hP2 := setRd hP (v := .int .i64 (j : Int)) (j := j) rfl
  have hT2 := turnRd hT 1 (.int .i64 (j : Int))
  have h42 := h4.far (p := ⟨g, 1, none⟩) (by have := hwb.out; simp; omega) (.int .i64 (j : Int))
  obtain ⟨w6, hw6⟩ : ∃ y, y = wc.setCell ⟨g, 1, none⟩ (.int .i64 (j : Int)) := ⟨_, rfl⟩
  rw [← hw6] at hP2 hT2 h42 ⊢
  clear hw6 c0 c1 f1 hP hT h4
  have hP := hP2
  refine zql 29 [eqS (.pointer (some ⟨g, 0, none⟩)), eqS (.pointer (some ⟨g, 0, none⟩)), eqS (.pointer (some ⟨g, 0, none⟩)), eqS (.pointer (some ⟨g, 1, none⟩)), eqS (.int .i64 (((j : Nat) : Int))), eqS (.bool b45), eqS (.bool (!b45)), eqS (.bool (!b45)), eqS (vF (true && ((!b45) == false)) (.pointer (some ⟨g, 0, none⟩))), eqS (vF (true && ((!b45) == false)) (.pointer (some ⟨g, 0, none⟩))), eqS (vF (true && ((!b45) == false)) (.pointer (some ⟨g, 1, none⟩))), eqS (vF (true && ((!b45) == false)) (.int .i64 (((j : Nat) : Int)))), eqS (vF (true && ((!b45) == false)) (.int .i64 (((j + 1 : Nat) : Int)))), eqS (vF (true && ((!b45) == false)) (.pointer (some ⟨g, 0, none⟩))), eqS (vF (true && ((!b45) == false)) (.pointer (some ⟨g, 0, none⟩))), eqS (vF (true && ((!b45) == false)) (.pointer (some ⟨g, 0, none⟩))), eqS (vF (true && ((!b45) == false)) (.string p)), eqS (vF (true && ((!b45) == false)) (.int .i64 (((p.size : Nat) : Int)))), eqS (vF (true && ((!b45) == false)) (.bool bge)), eqS (.bool ((!b45) || bge)), eqS (.bool ((!b45) || bge)), eqS (vF (true && (((!b45) || bge) == false)) (.pointer (some ⟨g, 0, none⟩))), eqS (vF (true && (((!b45) || bge) == false)) (.pointer (some ⟨g, 0, none⟩))), eqS (vF (true && (((!b45) || bge) == false)) (.pointer (some ⟨g, 0, none⟩))), eqS (vF (true && (((!b45) || bge) == false)) (.pointer (some ⟨g, 1, none⟩))), eqS (vF (true && (((!b45) || bge) == false)) (.int .i64 (((j : Nat) : Int)))), eqS (vF (true && (((!b45) || bge) == false)) (.int .i64 (((j + 1 : Nat) : Int)))), eqS (vF (true && (((!b45) || bge) == false)) (.bool b93)), eqS (.bool (((!b45) || bge) || b93))] [41, 42, 43, 44, 45, 46, 47, 48, 49, 50, 51, 52, 53, 54, 55, 56, 57, 58, 59, 60, 61, 62, 63, 64, 65, 66, 67, 68, 69] zqp (by kernel_rfl) (by kernel_rfl) ?_ ?_
  ·skip
   refine Steps.cons (fun a' w' hG hB dep => zqi (zqa rfl) _ rfl (id (hG.other 0 rfl))) ?_
   refine Steps.cons (fun a' w' hG hB dep => zqi (zqa rfl) _ rfl (id (hG.other 0 rfl))) ?_
   refine Steps.cons (fun a' w' hG hB dep => gs_nil (zqa rfl) _ rfl _ (dep 1 rfl 42 rfl) rfl) ?_
   refine Steps.cons (fun a' w' hG hB dep => zqn (zqa rfl) _ _ _ rfl g (0) (1) (dep 2 rfl 43 rfl) (fun wz => field_reader_1 g (0) wz) rfl) ?_
   refine Steps.cons (fun a' w' hG hB dep => zqj (zqa rfl) _ _ rfl g (1) (dep 3 rfl 44 rfl) (.int .i64 (((j : Nat) : Int))) (rd_cell hP hB).2 _ Tryz.underlying3 rfl rfl) ?_
   refine Steps.cons (fun a' w' hG hB dep => zze (zqa rfl) _ _ _ rfl enter_is #[.pointer (some ⟨g, 0, none⟩), .int .i64 ((j : Nat) : Int), .int .u8 45] (map3 (dep 0 rfl 41 rfl) (dep 4 rfl 45 rfl) rfl) (ret_step (is_at g p j j 45 45 _ (zqb hP hB) rfl b45_e) (fun _ => rfl))) ?_
   refine Steps.cons (fun a' w' hG hB dep => gs_not_bool (zqa rfl) _ _ rfl _ (dep 5 rfl 46 rfl) rfl) ?_
   refine Steps.cons (fun a' w' hG hB dep => zqi (zqa rfl) _ rfl (id (dep 6 rfl 47 rfl))) ?_
   refine Steps.cons (fun a' w' hG hB dep => zqf (c := true) (b' := (!b45)) rfl rfl (dep 7 rfl 48 rfl) (fun hc he hw => zqi hw _ rfl (Eq.trans (hG.other 0 rfl) (zqg (on_g hc he) _).symm)) (fun hn => vF_no hn _)) ?_
   refine Steps.cons (fun a' w' hG hB dep => zqf (c := true) (b' := (!b45)) rfl rfl (dep 7 rfl 48 rfl) (fun hc he hw => gs_nil hw _ rfl _ (Eq.trans (dep 8 rfl 49 rfl) (zqg (on_g hc he) _)) (zqg (on_g hc he) _).symm) (fun hn => vF_no hn _)) ?_
   refine Steps.cons (fun a' w' hG hB dep => zqf (c := true) (b' := (!b45)) rfl rfl (dep 7 rfl 48 rfl) (fun hc he hw => zqn hw _ _ _ rfl g (0) (1) (Eq.trans (dep 9 rfl 50 rfl) (zqg (on_g hc he) _)) (fun wz => field_reader_1 g (0) wz) (zqg (on_g hc he) _).symm) (fun hn => vF_no hn _)) ?_
   refine Steps.cons (fun a' w' hG hB dep => zqf (c := true) (b' := (!b45)) rfl rfl (dep 7 rfl 48 rfl) (fun hc he hw => zqj hw _ _ rfl g (1) (Eq.trans (dep 10 rfl 51 rfl) (zqg (on_g hc he) _)) (.int .i64 (((j : Nat) : Int))) (rd_cell hP hB).2 _ Tryz.underlying3 rfl (zqg (on_g hc he) _).symm) (fun hn => vF_no hn _)) ?_
   refine Steps.cons (fun a' w' hG hB dep => zqf (c := true) (b' := (!b45)) rfl rfl (dep 7 rfl 48 rfl) (fun hc he hw => gs_add_nat hw _ _ _ _ rfl j 1 (j + 1) (Eq.trans (dep 11 rfl 52 rfl) (zqg (on_g hc he) _)) rfl rfl (by omega) (zqg (on_g hc he) _).symm) (fun hn => vF_no hn _)) ?_
   refine Steps.cons (fun a' w' hG hB dep => zqf (c := true) (b' := (!b45)) rfl rfl (dep 7 rfl 48 rfl) (fun hc he hw => zqi hw _ rfl (Eq.trans (hG.other 0 rfl) (zqg (on_g hc he) _).symm)) (fun hn => vF_no hn _)) ?_
   refine Steps.cons (fun a' w' hG hB dep => zqf (c := true) (b' := (!b45)) rfl rfl (dep 7 rfl 48 rfl) (fun hc he hw => gs_nil hw _ rfl _ (Eq.trans (dep 13 rfl 54 rfl) (zqg (on_g hc he) _)) (zqg (on_g hc he) _).symm) (fun hn => vF_no hn _)) ?_
   refine Steps.cons (fun a' w' hG hB dep => zqf (c := true) (b' := (!b45)) rfl rfl (dep 7 rfl 48 rfl) (fun hc he hw => zqn hw _ _ _ rfl g (0) (0) (Eq.trans (dep 14 rfl 55 rfl) (zqg (on_g hc he) _)) (fun wz => field_reader_0 g (0) wz) (zqg (on_g hc he) _).symm) (fun hn => vF_no hn _)) ?_
   refine Steps.cons (fun a' w' hG hB dep => zqf (c := true) (b' := (!b45)) rfl rfl (dep 7 rfl 48 rfl) (fun hc he hw => zqj hw _ _ rfl g (0) (Eq.trans (dep 15 rfl 56 rfl) (zqg (on_g hc he) _)) (.string p) (rd_cell hP hB).1 _ Tryz.underlying9 rfl (zqg (on_g hc he) _).symm) (fun hn => vF_no hn _)) ?_
   refine Steps.cons (fun a' w' hG hB dep => zqf (c := true) (b' := (!b45)) rfl rfl (dep 7 rfl 48 rfl) (fun hc he hw => gs_len_str hw _ rfl p (Eq.trans (dep 16 rfl 57 rfl) (zqg (on_g hc he) _)) (zqg (on_g hc he) _).symm) (fun hn => vF_no hn _)) ?_
   refine Steps.cons (fun a' w' hG hB dep => zqf (c := true) (b' := (!b45)) rfl rfl (dep 7 rfl 48 rfl) (fun hc he hw => gs_geq_int hw _ _ _ _ rfl _ _ _ (Eq.trans (dep 12 rfl 53 rfl) (zqg (on_g hc he) _)) (Eq.trans (dep 17 rfl 58 rfl) (zqg (on_g hc he) _)) (Eq.trans (congrArg Value.bool hge.out) (zqg (on_g hc he) _).symm)) (fun hn => vF_no hn _)) ?_
   refine Steps.cons (fun a' w' hG hB dep => zqy (zqa rfl) _ _ _ rfl (!b45) (dep 7 rfl 48 rfl) (id (zzr (c := true) rfl (dep 18 rfl 59 rfl)))) ?_
   refine Steps.cons (fun a' w' hG hB dep => zqi (zqa rfl) _ rfl (id (dep 19 rfl 60 rfl))) ?_
   refine Steps.cons (fun a' w' hG hB dep => zqf (c := true) (b' := ((!b45) || bge)) rfl rfl (dep 20 rfl 61 rfl) (fun hc he hw => zqi hw _ rfl (Eq.trans (hG.other 0 rfl) (zqg (on_g hc he) _).symm)) (fun hn => vF_no hn _)) ?_
   refine Steps.cons (fun a' w' hG hB dep => zqf (c := true) (b' := ((!b45) || bge)) rfl rfl (dep 20 rfl 61 rfl) (fun hc he hw => zqi hw _ rfl (Eq.trans (hG.other 0 rfl) (zqg (on_g hc he) _).symm)) (fun hn => vF_no hn _)) ?_
   refine Steps.cons (fun a' w' hG hB dep => zqf (c := true) (b' := ((!b45) || bge)) rfl rfl (dep 20 rfl 61 rfl) (fun hc he hw => gs_nil hw _ rfl _ (Eq.trans (dep 22 rfl 63 rfl) (zqg (on_g hc he) _)) (zqg (on_g hc he) _).symm) (fun hn => vF_no hn _)) ?_
   refine Steps.cons (fun a' w' hG hB dep => zqf (c := true) (b' := ((!b45) || bge)) rfl rfl (dep 20 rfl 61 rfl) (fun hc he hw => zqn hw _ _ _ rfl g (0) (1) (Eq.trans (dep 23 rfl 64 rfl) (zqg (on_g hc he) _)) (fun wz => field_reader_1 g (0) wz) (zqg (on_g hc he) _).symm) (fun hn => vF_no hn _)) ?_
   refine Steps.cons (fun a' w' hG hB dep => zqf (c := true) (b' := ((!b45) || bge)) rfl rfl (dep 20 rfl 61 rfl) (fun hc he hw => zqj hw _ _ rfl g (1) (Eq.trans (dep 24 rfl 65 rfl) (zqg (on_g hc he) _)) (.int .i64 (((j : Nat) : Int))) (rd_cell hP hB).2 _ Tryz.underlying3 rfl (zqg (on_g hc he) _).symm) (fun hn => vF_no hn _)) ?_
   refine Steps.cons (fun a' w' hG hB dep => zqf (c := true) (b' := ((!b45) || bge)) rfl rfl (dep 20 rfl 61 rfl) (fun hc he hw => gs_add_nat hw _ _ _ _ rfl j 1 (j + 1) (Eq.trans (dep 25 rfl 66 rfl) (zqg (on_g hc he) _)) rfl rfl (by omega) (zqg (on_g hc he) _).symm) (fun hn => vF_no hn _)) ?_
   refine Steps.cons (fun a' w' hG hB dep => zqf (c := true) (b' := ((!b45) || bge)) rfl rfl (dep 20 rfl 61 rfl) (fun hc he hw => zze hw _ _ _ rfl enter_is #[.pointer (some ⟨g, 0, none⟩), .int .i64 (((j + 1) : Nat) : Int), .int .u8 93] (map3 (Eq.trans (dep 21 rfl 62 rfl) (zqg (on_g hc he) _)) (Eq.trans (dep 26 rfl 67 rfl) (zqg (on_g hc he) _)) rfl) (ret_step (is_at g p j (j + 1) 93 93 _ (zqb hP hB) rfl b93_e) (fun _ => (zqg (on_g hc he) _).symm))) (fun hn => vF_no hn _)) ?_
   refine Steps.cons (fun a' w' hG hB dep => zqy (zqa rfl) _ _ _ rfl ((!b45) || bge) (dep 20 rfl 61 rfl) (id (zzr (c := true) rfl (dep 27 rfl 68 rfl)))) ?_
   exact Steps.nil
  intro u w7 hB7 ans
  have u69 : u 69 = .bool ((((!b45) || bge) || b93)) := ans 28 69 (by decide) rfl
  clear ans
  simp only [zqr, List.foldl_cons, List.foldl_nil, Act.put, List.setIfInBounds_toArray, List.set_cons_zero, List.set_cons_succ, u69]
  clear u69
  simp only [List.drop]
  refine wpList_nil ?_
  obtain ⟨q, hq⟩ : ∃ q, ((((!b45) || bge) || b93)) = q := ⟨_, rfl⟩
  rw [hq]
  have hP7 := zqb hP2 hB7
  have hT7 := hT2.then_ hB7
  have h47 := zqb h42 hB7
  have hpl := hP7.lt
  clear hB7 hP2 hT2 h42 hP
  cases q with
  | true =>
   have hr := Lib.hid (show r = .got (bit (Ere.chr p i)) j by rw [← hR2.out, if_pos hq])
   have kO := of_any (some ⟨w7.heap.size, 0, none⟩) 1 1 [p[i]] (w7.alloc (.cells #[.int .u8 ((p[i].toNat : Nat) : Int)] 5)) rfl (by unfold maxLen; omega) (bytes_of_blk (l := [p[i]]) (Blk.new w7 5 #[.int .u8 ((p[i].toNat : Nat) : Int)]))
   have hB8 := Lib.hid (zqc (Below.refl w7.heap.size w7) (.cells #[.int .u8 ((p[i].toNat : Nat) : Int)] 5))
   have h48 := Lib.hid (zqb h47 hB8.out)
   replace hq := Lib.hid hq
   go_wp2_with (first | (go_at_call 80; refine kO.mono ?_; rintro e w8 ⟨rfl, hB9⟩; have h49 := zqb h48.out hB9) | (refine zqm rfl _ _ rfl g4 _ rfl rfl _ h49 ?_; intro w9 h9 hg9))
   refine ret_set rfl rfl h9 rfl ?_
   rw [hr.out, hch.out, ← ofB_one]
   exact ⟨((hT7.then_ hB8.out).then_ hB9).grown hg9 (fun q e => by injection e with e; have := hwb.out; right; omega), rfl, (zqb (zqb hP7 hB8.out) hB9).grown hg9 (fun e => by injection e with e; have := hwb.out; omega)⟩
  | false =>
   simp only [Bool.or_eq_false_iff, Bool.not_eq_false'] at hq
   obtain ⟨⟨hq1, hq2⟩, hq3⟩ := hq
   have hR3 := hR2.out
   rw [hq1, hq2, hq3] at hR3
   simp only [Bool.not_true, Bool.or_self, Bool.false_eq_true, if_false] at hR3
   have hj1 : j + 1 < p.size := by
    have := bge_e.out
    rw [hq2] at this
    simpa using this
   have hch2 : Ere.chr p (j + 1) = p[j + 1].toNat := by unfold Ere.chr; rw [dif_pos hj1]
   rw [hch2, hch.out] at hR3
   have hj1I : (j : Int) + 1 < p.size := by omega
   have hj10 : ¬ (j : Int) + 1 < 0 := by omega
   obtain ⟨k, hk⟩ : ∃ k, k = j + 1 := ⟨_, rfl⟩
   clear hq1 hq2 hq3 hR2 hch2
   obtain ⟨vl, hvl⟩ : ∃ v, p[i] = v := ⟨_, rfl⟩
   obtain ⟨vh, hvh⟩ : ∃ v, p[j + 1] = v := ⟨_, rfl⟩
   rw [hvl, hvh] at hR3
   replace hR3 := Lib.hid hR3
   have c0 : w7.cell? ⟨g, 0, none⟩ = some (.string p) := hP7.cellv rfl
   have c1 : w7.cell? ⟨g, 1, none⟩ = some (.int .i64 (j : Int)) := hP7.cellv rfl
   go_upto_region 11 with (fail)
   go_big_region
   rw [hvl]
   clear hvl hvh c0 c1 hj1I hj10 hk
   have hPd := hP7.drew
   have hTd := hT7.then_ ((Below.refl w7.heap.size w7).drew)
   have h4d := h47.drew
   obtain ⟨w8, hw8⟩ : ∃ y, y = w7.drew := ⟨_, rfl⟩
   rw [← hw8] at hPd hTd h4d ⊢
   clear hw8 hP7 hT7 h47
   have hvl8 : vl.toNat < 256 := vl.toNat_lt
   have hvh8 : vh.toNat < 256 := vh.toNat_lt
   have c1 : w8.cell? ⟨g, 1, none⟩ = some (.int .i64 (j : Int)) := hPd.cellv rfl
   by_cases h1 : vh.toNat < vl.toNat
   ·have h1I : ((vh.toNat : Nat) : Int) < ((vl.toNat : Nat) : Int) := by omega
    have hr := Lib.hid (show r = .fault 43 i by rw [← hR3.out, decide_eq_true h1]; simp)
    go_wp2_with (go_at_call 40; refine (zxf 43 i _).mono ?_; rintro e w9 ⟨hfe, hB9⟩; unfold zxo at hfe; subst hfe)
    rw [hr.out]
    exact ⟨rfl, hTd.then_ hB9, rfl⟩
   ·have h1I : ¬ ((vh.toNat : Nat) : Int) < ((vl.toNat : Nat) : Int) := by omega
    by_cases h2 : vh.toNat = 91
    ·have h2I : ((((vh.toNat : Nat) : Int)) == 91) = true := by rw [beq_iff_eq]; omega
     have kO := one_any g p ⟨#[58, 46, 61]⟩ j (j + 2) w8 hPd
     rw [show (List.map UInt8.toNat (⟨#[58, 46, 61]⟩ : ByteArray).data.toList) = [58, 46, 61] from rfl, bp_e.out, show (((j + 2 : Nat)) : Int) = (j : Int) + 2 by omega] at kO
     cases bp with
     | true =>
      have hr := Lib.hid (show r = .fault 43 i by rw [← hR3.out, decide_eq_true h2]; simp)
      replace h2 := Lib.hid h2
      go_wp2_with (first | (go_at_call 79; refine kO.mono ?_; rintro e w9 ⟨rfl, hB9⟩) | (go_at_call 40; refine (zxf 43 i _).mono ?_; rintro e w10 ⟨hfe, hB10⟩; unfold zxo at hfe; subst hfe))
      rw [hr.out]
      exact ⟨rfl, (hTd.then_ hB9).then_ hB10, rfl⟩
     | false =>
      have hr := Lib.hid (show r = .got (spanB vl.toNat vh.toNat) (j + 2) by rw [← hR3.out, decide_eq_false h1]; simp)
      replace h2 := Lib.hid h2
      go_upto_region 14 with (go_at_call 79; refine kO.mono ?_; rintro e w9 ⟨rfl, hB9⟩)
      have hP9 := zqb hPd hB9
      have hT9 := hTd.then_ hB9
      have h49 := zqb h4d hB9
      clear hPd hTd h4d c1 hB9
      have c1 : w9.cell? ⟨g, 1, none⟩ = some (.int .i64 (j : Int)) := hP9.cellv rfl
      have f1 := hP9.frozen 1
      go_upto_region 15 with (fail)
      have hP2 := setRd hP9 (v := .int .i64 ((j : Int) + 2)) (j := j + 2) (by congr 1)
      have hT2 := turnRd hT9 1 (.int .i64 ((j : Int) + 2))
      have h42 := h49.far (p := ⟨g, 1, none⟩) (by have := hwb.out; simp; omega) (.int .i64 ((j : Int) + 2))
      obtain ⟨w6, hw6⟩ : ∃ y, y = w9.setCell ⟨g, 1, none⟩ (.int .i64 ((j : Int) + 2)) := ⟨_, rfl⟩
      rw [← hw6] at hP2 hT2 h42 ⊢
      clear hw6 c1 f1 hP9 hT9 h49
      have kS := span_any vl.toNat vh.toNat w6 hvl8 hvh8
      go_wp2_with (first | (go_at_call 98; refine kS.mono ?_; rintro e w7 ⟨rfl, hB7⟩; have h47 := zqb h42 hB7) | (refine zqm rfl _ _ rfl g4 _ rfl rfl _ h47 ?_; intro wz hz hgz))
      refine ret_set rfl rfl hz rfl ?_
      rw [hr.out]
      exact ⟨(hT2.then_ hB7).grown hgz (fun q e => by injection e with e; have := hwb.out; right; omega), rfl, (zqb hP2 hB7).grown hgz (fun e => by injection e with e; have := hwb.out; omega)⟩
    ·have h2I : ((((vh.toNat : Nat) : Int)) == 91) = false := by rw [beq_eq_false_iff_ne]; omega
     have hr := Lib.hid (show r = .got (spanB vl.toNat vh.toNat) (j + 2) by rw [← hR3.out, decide_eq_false h1, decide_eq_false h2]; simp)
     replace h2 := Lib.hid h2
     obtain ⟨w9, hw9⟩ : ∃ y, y = w8 := ⟨_, rfl⟩
     have hB9 : Below w8.heap.size w8 w9 := by rw [hw9]; exact Below.refl _ _
     go_upto_region 14 with (fail)
     rw [← hw9]
     clear hw9
     have hP9 := zqb hPd hB9
     have hT9 := hTd.then_ hB9
     have h49 := zqb h4d hB9
     clear hPd hTd h4d c1 hB9
     have c1 : w9.cell? ⟨g, 1, none⟩ = some (.int .i64 (j : Int)) := hP9.cellv rfl
     have f1 := hP9.frozen 1
     go_upto_region 15 with (fail)
     have hP2 := setRd hP9 (v := .int .i64 ((j : Int) + 2)) (j := j + 2) (by congr 1)
     have hT2 := turnRd hT9 1 (.int .i64 ((j : Int) + 2))
     have h42 := h49.far (p := ⟨g, 1, none⟩) (by have := hwb.out; simp; omega) (.int .i64 ((j : Int) + 2))
     obtain ⟨w6, hw6⟩ : ∃ y, y = w9.setCell ⟨g, 1, none⟩ (.int .i64 ((j : Int) + 2)) := ⟨_, rfl⟩
     rw [← hw6] at hP2 hT2 h42 ⊢
     clear hw6 c1 f1 hP9 hT9 h49
     have kS := span_any vl.toNat vh.toNat w6 hvl8 hvh8
     go_wp2_with (first | (go_at_call 98; refine kS.mono ?_; rintro e w7 ⟨rfl, hB7⟩; have h47 := zqb h42 hB7) | (refine zqm rfl _ _ rfl g4 _ rfl rfl _ h47 ?_; intro wz hz hgz))
     refine ret_set rfl rfl hz rfl ?_
     rw [hr.out]
     exact ⟨(hT2.then_ hB7).grown hgz (fun q e => by injection e with e; have := hwb.out; right; omega), rfl, (zqb hP2 hB7).grown hgz (fun e => by injection e with e; have := hwb.out; omega)⟩
namespace Ere
theorem classR_fwd {p : ByteArray} {s i j : Nat} {x : BSet} (h : classR p s i = .got x j) : i < j ∧ j ≤ p.size := by
 unfold classR at h
 split at h
 ·cases h
 ·rename_i k hk
  obtain ⟨h1, h2, _⟩ := endAt_some p p.size (i + 2) k hk
  have := h2.1
  split at h
  ·cases h
  ·injection h with _ h
   omega
theorem itemR_fwd {p : ByteArray} {s i j : Nat} {x : BSet} (h : itemR p s i = .got x j) (hi : i < p.size) : i < j ∧ j ≤ p.size := by
 unfold itemR at h
 split at h
 ·exact classR_fwd h
 ·split at h
  ·cases h
  ·split at h
   ·injection h with _ h; omega
   ·rename_i h1 h2 h3
    split at h
    ·cases h
    ·injection h with _ h
     simp only [Bool.or_eq_true, Bool.not_eq_true', decide_eq_true_eq, not_or] at h3
     omega
theorem itemsR_fwd {p : ByteArray} {s : Nat} : ∀ n first i x y j, itemsR p s n first i x = .got y j → i ≤ j ∧ j < p.size
 | 0, _, _, _, _, _, h => by cases h
 | n + 1, first, i, x, y, j, h => by
  unfold itemsR at h
  split at h
  ·rename_i h1
   injection h with _ h
   simp only [Bool.and_eq_true] at h1
   have := isAt_lt h1.2
   omega
  ·split at h
   ·cases h
   ·cases ht : itemR p s i with
    | fault e k => rw [ht] at h; cases h
    | got t k =>
     rw [ht] at h
     have h1 := itemR_fwd ht (by omega)
     have h2 := itemsR_fwd n false k (x ||| t) y j h
     omega
end Ere
theorem joinL_two (x y : BSet) : joinL [x, y] = x ||| y := by simp [joinL]
set_option maxRecDepth 100000 in
set_option maxHeartbeats 4000000 in
theorem rset_any (g : Nat) (p : ByteArray) (i s : Nat) (w : World) (hP : Blk w g 110 (rdC p i)) (hi : i ≤ p.size) (hp : p.size ≤ 1024) (hM : Mx w) (h0 : 1 < g) :
  Calls Tryz.prog 76 #[.pointer (some ⟨g, 0, none⟩), .int .i64 (s : Int)] w fun e w' => NdAns g p w w.heap.size (Ere.setR p s i) e w' := by
 obtain ⟨r, hr0⟩ : ∃ r, Ere.setR p s i = r := ⟨_, rfl⟩
 rw [hr0]
 have hR := hr0
 unfold Ere.setR at hR
 obtain ⟨b94, b94_e⟩ : ∃ b, Ere.isAt p i 94 = b := ⟨_, rfl⟩
 rw [b94_e] at hR
 obtain ⟨i0, hi0e⟩ : ∃ k, (if b94 = true then i + 1 else i) = k := ⟨_, rfl⟩
 rw [hi0e] at hR
 have hi0 : i0 ≤ p.size := by
  rw [← hi0e]
  split
  ·rename_i h
   have := Ere.isAt_lt (b94_e.trans h)
   omega
  ·exact hi
 obtain ⟨rs, hrs⟩ : ∃ r, Ere.itemsR p s (p.size + 2) true i0 0 = r := ⟨_, rfl⟩
 rw [hrs] at hR
 clear hr0
 replace hR := Lib.hid hR
 replace b94_e := Lib.hid b94_e
 replace hi0e := Lib.hid hi0e
 replace hrs := Lib.hid hrs
 have hT := Turn.refl g (g + 1) w
 have hgl := Lib.hid hP.lt
 have hpI : (p.size : Int) ≤ 1024 := by omega
 have hiI : (i : Int) ≤ 1024 := by omega
 go_enter Tryz.func76, Tryz.ntmps76
 have h4 : Blk (w.alloc (.cells zeroC 56)) w.heap.size 56 zeroC := Blk.new' _ _ _ rfl
 have hB1 : Below w.heap.size w (w.alloc (.cells zeroC 56)) := zqc (Below.refl _ _) _
 unfold zeroC at h4 hB1
 go_upto_region 1 with (fail)
 obtain ⟨w1, hw1⟩ : ∃ y, y = w.alloc (.cells zeroC 56) := ⟨_, rfl⟩
 unfold zeroC at hw1
 rw [← hw1] at h4 hB1 ⊢
 clear hw1
 replace hP := zqb hP hB1
 replace hT := hT.then_ hB1
 replace hM := hM.then_ hB1
 clear hB1
 obtain ⟨g4, hg4e⟩ : ∃ y, y = w.heap.size := ⟨_, rfl⟩
 have hwb := Lib.hid (show w.heap.size ≤ g4 ∧ g4 ≠ g ∧ 1 < g ∧ g < w.heap.size by have := hgl.out; omega)
 rw [← hg4e] at h4 ⊢
 clear hg4e h0
 have c1 : w1.cell? ⟨g, 1, none⟩ = some (.int .i64 (i : Int)) := hP.cellv rfl
 have k94 := is_at g p i i 94 94 w1 hP rfl b94_e.out
 go_upto_if 14 with (go_at_call 54; refine k94.mono ?_; rintro e w2 ⟨rfl, hB⟩)
 replace hP := zqb hP hB
 replace hT := hT.then_ hB
 replace hM := hM.then_ hB
 replace h4 := zqb h4 hB
 clear k94 hB c1
 go_cut [] from 15 to 21 (fun wx => Turn g (g + 1) w2 wx ∧ Blk wx g 110 (rdC p i0))
 case first =>
  cases b94 with
  | false =>
   go_wp2_with (fail)
   go_meet
   have e := hi0e.out
   simp only [Bool.false_eq_true, if_false] at e
   subst e
   exact ⟨Turn.refl _ _ _, hP⟩
  | true =>
   have e := hi0e.out
   simp only [if_true] at e
   replace e := Lib.hid e
   have c1 : w2.cell? ⟨g, 1, none⟩ = some (.int .i64 (i : Int)) := hP.cellv rfl
   have f1 := hP.frozen 1
   go_wp2_with (fail)
   go_meet
   rw [← e.out]
   exact ⟨turnRd (Turn.refl _ _ _) 1 _, setRd hP (by congr 1)⟩
 case rest =>
  obtain ⟨hTc, hPc⟩ := hcut
  replace hT := hT.trans hTc
  replace hM := hM.turn hTc hwb.out.2.2.1
  replace h4 := zzg h4 hTc (by have := hwb.out; omega)
  clear hTc hP
  have hP := hPc
  clear hPc
  go_upto_region 5 with (fail)
  have h6 : Blk (wc.alloc (.cells #[.int .u64 0, .int .u64 0, .int .u64 0, .int .u64 0] 53)) wc.heap.size 53 (setC 0) := by rw [set0_eq]; exact Blk.new' _ _ _ rfl
  have hB3 : Below wc.heap.size wc (wc.alloc (.cells #[.int .u64 0, .int .u64 0, .int .u64 0, .int .u64 0] 53)) := zqc (Below.refl _ _) _
  obtain ⟨w3, hw3⟩ : ∃ y, y = wc.alloc (.cells #[.int .u64 0, .int .u64 0, .int .u64 0, .int .u64 0] 53) := ⟨_, rfl⟩
  rw [← hw3] at h6 hB3 ⊢
  clear hw3
  replace hP := zqb hP hB3
  have hgw3 := hT.size
  replace hT := hT.then_ hB3
  replace hM := hM.then_ hB3
  have h4l := h4.lt
  replace h4 := zqb h4 hB3
  obtain ⟨g6, hg6e⟩ : ∃ y, y = wc.heap.size := ⟨_, rfl⟩
  rw [← hg6e] at h6 ⊢
  have hw6 := Lib.hid (show w.heap.size ≤ g6 ∧ g6 ≠ g ∧ g6 ≠ g4 by have := hwb.out; omega)
  clear hg6e hB3 hgw3 h4l
  go_wp2_with (fail)
  go_loopw [7] (fun mv wr => ∃ (m j : Nat) (x : BSet), mv = .int .i64 m ∧ m ≤ j ∧ j ≤ p.size ∧ Turn g (g + 1) w wr ∧ Mx wr ∧ Blk wr g 110 (rdC p j) ∧ Blk wr g4 56 #[.int .i64 0, .int .u64 0, .int .u64 0, .int .u64 0, .int .u64 0, .slice none 0 0, .int .i64 0, .int .i64 0] ∧ Blk wr g6 53 (setC x) ∧ rs = Ere.itemsR p s (p.size + 2 - m) (decide (m = 0)) j x) (fun mv _ => p.size + 2 - (intOf mv).toNat)
  case atStart => exact ⟨0, i0, 0, rfl, by omega, hi0, hT, hM, hP, h4, h6, hrs.out.symm⟩
  case round =>
   clear hT hM hP h4 h6
   obtain ⟨m, j, x, rfl, hmj, hjp, hT, hM, hP, h4, h6, hit⟩ := hrel
   have hfu : p.size + 2 - m = (p.size + 2 - (m + 1)) + 1 := by omega
   rw [hfu] at hit
   unfold Ere.itemsR at hit
   obtain ⟨b93, b93_e⟩ : ∃ b, Ere.isAt p j 93 = b := ⟨_, rfl⟩
   rw [b93_e] at hit
   replace hit := Lib.hid hit
   replace hfu := Lib.hid hfu
   have c1 : wr.cell? ⟨g, 1, none⟩ = some (.int .i64 (j : Int)) := hP.cellv rfl
   have k93 := is_at g p j j 93 93 wr hP rfl b93_e
   replace b93_e := Lib.hid b93_e
   have hjI : (j : Int) ≤ 1024 := by omega
   have hmI : (m : Int) ≤ 1024 := by omega
   by_cases hex : (!decide (m = 0) && b93) = true
   ·simp only [Bool.and_eq_true, Bool.not_eq_true', decide_eq_false_iff_not] at hex
    obtain ⟨hm0, rfl⟩ := hex
    have hm0I : ((m : Int) == 0) = false := by simpa using hm0
    have hrs2 := hit.out
    rw [decide_eq_false hm0] at hrs2
    simp only [Bool.not_false, Bool.true_and, if_true] at hrs2
    have hr := hR.out
    rw [hrs2] at hr
    simp only [Ere.Res.bind] at hr
    replace hr := Lib.hid hr
    clear hrs2 hit
    have hjlt : j < p.size := Ere.isAt_lt b93_e.out
    go_upto_region 11 with (go_at_call 54; refine k93.mono ?_; rintro e w4 ⟨rfl, hB⟩)
    replace hT := hT.then_ hB
    replace hP := zqb hP hB
    replace h4 := zqb h4 hB
    replace h6 := zqb h6 hB
    clear k93 c1 hB
    have c1 : w4.cell? ⟨g, 1, none⟩ = some (.int .i64 (j : Int)) := hP.cellv rfl
    have f1 := hP.frozen 1
    go_upto_if 53 with (fail)
    have hP2 := setRd hP (v := .int .i64 ((j : Int) + 1)) (j := j + 1) (by congr 1)
    have hT2 := turnRd hT 1 (.int .i64 ((j : Int) + 1))
    have h42 := h4.far (p := ⟨g, 1, none⟩) (by have := hwb.out; simp; omega) (.int .i64 ((j : Int) + 1))
    have h62 := h6.far (p := ⟨g, 1, none⟩) (by have := hw6.out; simp; omega) (.int .i64 ((j : Int) + 1))
    obtain ⟨w5, hw5⟩ : ∃ y, y = w4.setCell ⟨g, 1, none⟩ (.int .i64 ((j : Int) + 1)) := ⟨_, rfl⟩
    rw [← hw5] at hP2 hT2 h42 h62 ⊢
    clear hw5 c1 f1 hP hT h4 h6
    have fin : ∀ (x' : BSet) (W : World), Turn g (g + 1) w W → Blk W g 110 (rdC p (j + 1)) → Blk W g4 56 #[.int .i64 0, .int .u64 0, .int .u64 0, .int .u64 0, .int .u64 0, .slice none 0 0, .int .i64 0, .int .i64 0] → ∀ W', Below W.heap.size W W' → Turn g (g + 1) w W' ∧ Blk W' g 110 (rdC p (j + 1)) ∧ Blk W' g4 56 #[.int .i64 0, .int .u64 0, .int .u64 0, .int .u64 0, .int .u64 0, .slice none 0 0, .int .i64 0, .int .i64 0] := fun x' W a b c W' hB => ⟨a.then_ hB, zqb b hB, zqb c hB⟩
    replace fin := Lib.hid fin
    cases b94 with
    | false =>
     have kS := nset_any x w5
     go_wp2_with (first | (refine zqv rfl _ rfl g6 rfl _ h62 ?_) | (go_at_call 77; refine kS.mono ?_; rintro e w6 ⟨rfl, hB6⟩; have h46 := zqb h42 hB6) | (refine zqx rfl _ _ rfl g4 (NV.mk 2 (x &&& notB 0) none 0 0 0 0) rfl rfl _ rfl h46 ?_; intro w7 h7 hg7))
     refine ret_nv rfl rfl h7 rfl ?_
     rw [← hr.out]
     simp only [Bool.false_eq_true, if_false]
     exact ⟨(hT2.then_ hB6).grown hg7 (fun q e => by injection e with e; have := hwb.out; right; omega), (zqb hP2 hB6).grown hg7 (fun e => by injection e with e; have := hwb.out; omega), _, [], rfl, NdO.leaf _ _ _ _ _ _⟩
    | true =>
     have kN := not_any x w5
     go_upto_region 14 with (first | (refine zqv rfl _ rfl g6 rfl _ h62 ?_) | (go_at_call 78; refine kN.mono ?_; rintro e w6 ⟨rfl, hB6⟩; have h66 := zqb h62 hB6) | (refine zqm rfl _ _ rfl g6 _ rfl rfl _ h66 ?_; intro w7 h67 hg7))
     have hT7 := (hT2.then_ hB6).grown hg7 (fun q e => by injection e with e; have := hw6.out; right; omega)
     have hP7 := (zqb hP2 hB6).grown hg7 (fun e => by injection e with e; have := hw6.out; omega)
     have h47 := (zqb h42 hB6).grown hg7 (fun e => by injection e with e; have := hw6.out; omega)
     clear h66 hB6 hg7 kN h62 h42
     have kS := nset_any (notB x) w7
     go_wp2_with (first | (refine zqv rfl _ rfl g6 rfl _ h67 ?_) | (go_at_call 77; refine kS.mono ?_; rintro e w8 ⟨rfl, hB8⟩; have h48 := zqb h47 hB8) | (refine zqx rfl _ _ rfl g4 (NV.mk 2 (notB x &&& notB 0) none 0 0 0 0) rfl rfl _ rfl h48 ?_; intro w9 h9 hg9))
     refine ret_nv rfl rfl h9 rfl ?_
     rw [← hr.out]
     simp only [if_true]
     exact ⟨(hT7.then_ hB8).grown hg9 (fun q e => by injection e with e; have := hwb.out; right; omega), (zqb hP7 hB8).grown hg9 (fun e => by injection e with e; have := hwb.out; omega), _, [], rfl, NdO.leaf _ _ _ _ _ _⟩
   ·have hrs2 := hit.out
    rw [if_neg hex] at hrs2
    have hgo : (m = 0 ∧ True) ∨ (m ≠ 0 ∧ b93 = false) := by
     by_cases e : m = 0
     ·exact .inl ⟨e, trivial⟩
     ·right
      refine ⟨e, ?_⟩
      cases b93
      ·rfl
      ·exact absurd (by simp [e]) hex
    replace hrs2 := Lib.hid hrs2
    have hmj2 := Lib.hid hmj
    clear hit hex
    rcases hgo with ⟨hm0, -⟩ | ⟨hm0, rfl⟩
    ·have hm0I : ((m : Int) == 0) = true := by simpa using hm0
     replace hm0 := Lib.hid hm0
     clear k93
     go_upto_region 8 with (fail)
     have hB : Below wr.heap.size wr wr := Below.refl _ _
     obtain ⟨wq, hwq⟩ : ∃ y, y = wr := ⟨_, rfl⟩
     have hBq : Below wr.heap.size wr wq := by rw [hwq]; exact hB
     rw [← hwq]
     clear hwq hB
     replace hT := hT.then_ hBq
     replace hM := hM.then_ hBq
     replace hP := zqb hP hBq
     replace h4 := zqb h4 hBq
     replace h6 := zqb h6 hBq
     clear hBq c1
     have kM := more_any g p j wq hP
     by_cases hjs : j < p.size
     ·rw [decide_eq_true hjs] at kM
      have hrs3 := hrs2.out
      rw [if_neg (by omega)] at hrs3
      go_upto_region 10 with (go_at_call 61; refine kM.mono ?_; rintro e w4 ⟨rfl, hB⟩)
      replace hT := hT.then_ hB
      replace hM := hM.then_ hB
      replace hP := zqb hP hB
      replace h4 := zqb h4 hB
      replace h6 := zqb h6 hB
      clear hB kM
      obtain ⟨ri, hri⟩ : ∃ r, Ere.itemR p s j = r := ⟨_, rfl⟩
      have kI : ∀ W, Blk W g 110 (rdC p j) → Mx W → Calls Tryz.prog 91 #[.pointer (some ⟨g, 0, none⟩), .int .i64 (s : Int)] W fun e w' => RdAns g p W (fun x : BSet => .agg (setC x)) ri e w' := fun W hW hMW => by rw [← hri]; exact item_any g p j s W hW hjs hp hMW
      have hfw := fun (y : BSet) (k : Nat) (e : ri = .got y k) => Ere.itemR_fwd (hri.trans e) hjs
      rw [hri] at hrs3
      clear hri
      replace hrs3 := Lib.hid hrs3
      replace hfw := Lib.hid hfw
      replace hjs := Lib.hid hjs
      have hI := kI w4 hP hM
      have hId := kI w4.drew hP.drew (hM.then_ (Below.refl w4.heap.size w4).drew)
      replace kI := Lib.hid kI
      cases ri with
      | fault e0 k0 =>
       have hr := hR.out
       rw [hrs3.out] at hr
       simp only [Ere.Res.bind] at hr
       replace hr := Lib.hid hr
       refine zzv (rw := some g) (i0 := 3) 4 [eqS (.agg (setC x)), eqS (.pointer (some ⟨g, 0, none⟩)), eqS (.int .i64 (s : Int)), noS] [40, 41, 42, 43] zqp ?_ (by kernel_rfl) rfl ?_ ?_
       ·intro q hq v W W' hs _
        match q, hq with
        | 0, _ => exact hs
        | 1, _ => exact hs
        | 2, _ => exact hs
        | q + 4, _ => exact trivial
       ·refine StepsR.cons (fun a' w' hG hB hp dep => GStepR.of (zxe (zqa rfl) _ rfl g6 0 (hG.other 6 rfl) x (RowAt.of_blk (h6.grown hB (fun e => hw6.out.2.1 (by injection e)))) rfl)) ?_
        refine StepsR.cons (fun a' w' hG hB hp dep => GStepR.of (zqi (zqa rfl) _ rfl (id (hG.other 0 rfl)))) ?_
        refine StepsR.cons (fun a' w' hG hB hp dep => GStepR.of (zqi (zqa rfl) _ rfl (id (hG.other 1 rfl)))) ?_
        refine StepsR.cons (fun a' w' hG hB hp dep => GStepR.call_or (zqa rfl) _ _ _ rfl enter_item #[.pointer (some ⟨g, 0, none⟩), .int .i64 (s : Int)] (map2 (dep 1 rfl 41 rfl) (dep 2 rfl 42 rfl)) ((kI.out w' (zqb hP (hp rfl)) (hM.then_ (hp rfl))).mono fun e w5 h => .inr ⟨_, h.2, ?_⟩)) ?_
        ·refine And.intro (hG.defers : a'.defers = []) ?_
         show NdAns g p w w.heap.size r _ w5
         rw [← hr.out]
         exact ⟨hT.trans ((Turn.of_one hB).trans h.1), rfl⟩
        exact StepsR.nil
       ·intro u W hW ans
        exact absurd (ans 3 43 (by decide) rfl) (fun h => h)
      | got y k =>
       refine zzv (rw := some g) (i0 := 3) 4 [eqS (.agg (setC x)), eqS (.pointer (some ⟨g, 0, none⟩)), eqS (.int .i64 (s : Int)), rdS g p (.agg (setC y)) k True] [40, 41, 42, 43] zqp ?_ (by kernel_rfl) rfl ?_ ?_
       ·intro q hq v W W' hs _
        match q, hq with
        | 0, _ => exact hs
        | 1, _ => exact hs
        | 2, _ => exact hs
        | q + 4, _ => exact trivial
       ·refine StepsR.cons (fun a' w' hG hB hp dep => GStepR.of (zxe (zqa rfl) _ rfl g6 0 (hG.other 6 rfl) x (RowAt.of_blk (h6.grown hB (fun e => hw6.out.2.1 (by injection e)))) rfl)) ?_
        refine StepsR.cons (fun a' w' hG hB hp dep => GStepR.of (zqi (zqa rfl) _ rfl (id (hG.other 0 rfl)))) ?_
        refine StepsR.cons (fun a' w' hG hB hp dep => GStepR.of (zqi (zqa rfl) _ rfl (id (hG.other 1 rfl)))) ?_
        refine StepsR.cons (fun a' w' hG hB hp dep => GStepR.call_or (zqa rfl) _ _ _ rfl enter_item #[.pointer (some ⟨g, 0, none⟩), .int .i64 (s : Int)] (map2 (dep 1 rfl 41 rfl) (dep 2 rfl 42 rfl)) ((kI.out w' (zqb hP (hp rfl)) (hM.then_ (hp rfl))).mono fun e w5 h => .inl ⟨_, h.2.1, h.1.one, fun _ => ⟨rfl, h.2.2⟩⟩)) ?_
        exact StepsR.nil
       intro u w5 hW ans
       have u40 : u 40 = .agg (setC x) := ans 0 40 (by decide) rfl
       have u43 := ans 3 43 (by decide) rfl trivial
       have hP5 := u43.2
       replace u43 : u 43 = .agg (setC y) := u43.1
       clear ans
       simp only [zqr, List.foldl_cons, List.foldl_nil, Act.put, List.setIfInBounds_toArray, List.set_cons_zero, List.set_cons_succ, u40, u43]
       clear u40 u43
       simp only [List.drop]
       have hTs := Turn.of_one hW
       have hT5 := hT.trans hTs
       have h45 := zzg h4 hTs (by have := hwb.out; omega)
       have h65 := zzg h6 hTs (by have := hw6.out; omega)
       have hM5 := hM.turn hTs hwb.out.2.2.1
       clear hT hM hP h4 h6 hW hTs hI hId
       have kJ := join_any (some ⟨w5.heap.size, 0, none⟩) 2 2 [x, y] (w5.alloc (.cells (setC x ++ setC y) 53)) rfl (by unfold maxLen; omega) (sets2_of x y w5)
       rw [joinL_two] at kJ
       have hB6 := zqc (Below.refl w5.heap.size w5) (.cells (setC x ++ setC y) 53)
       refine wl_sets2 rfl _ _ rfl x y rfl rfl ?_
       refine wl_call rfl _ _ _ rfl enter_join #[.slice (some ⟨w5.heap.size, 0, none⟩) 2 2] (map1 rfl) (kJ.mono ?_)
       rintro e w6 ⟨rfl, hB7⟩
       refine ⟨_, rfl, ?_⟩
       have hB8 := zqd hB6 hB7
       refine zqm rfl _ _ rfl g6 _ rfl rfl _ (zqb h65 hB8) ?_
       intro w7 h67 hg7
       refine wpList_nil ?_
       have hT7 := (hT5.then_ hB8).grown hg7 (fun q e => by injection e with e; have := hw6.out; right; omega)
       have hP7 := (zqb hP5 hB8).grown hg7 (fun e => by injection e with e; have := hw6.out; omega)
       have h47 := (zqb h45 hB8).grown hg7 (fun e => by injection e with e; have := hw6.out; omega)
       have hM7 : Mx w7 := by
        have h1 := hM5.then_ hB8
        have h0 := h1.size
        obtain ⟨q, hq⟩ := h1
        exact ⟨q, (World.cell?_of_block (w := w6) (hg7.block 1 h0 (fun e => by injection e with e; have := hw6.out; have := hwb.out; omega))).trans hq⟩
       have hk := hfw.out y k rfl
       have hfin : rs = Ere.itemsR p s (p.size + 2 - (m + 1)) (decide (m + 1 = 0)) k (x ||| y) := by
        rw [hrs3.out]
        simp only [Ere.Res.bind]
        rw [decide_eq_false (by omega)]
       replace hfin := Lib.hid hfin
       replace hk := Lib.hid hk
       clear hT5 hP5 h45 hM5 h65 hB6 hB7 hB8 hg7 kJ hrs3 hrs2 hfw hmj
       go_wp2_with (fail)
       have hk2 := hk.out
       exact ⟨⟨m + 1, k, x ||| y, by congr 1, by have := hmj2.out; omega, hk2.2, hT7, hM7, hP7, h47, h67, hfin.out⟩, by simp only [intOf]; have := hfu.out; omega⟩
     ·rw [decide_eq_false hjs] at kM
      have hrs3 := hrs2.out
      rw [if_pos (by omega)] at hrs3
      have hr := hR.out
      rw [hrs3] at hr
      simp only [Ere.Res.bind] at hr
      replace hr := Lib.hid hr
      replace hrs3 := Lib.hid hrs3
      go_wp2_with (first | (go_at_call 61; refine kM.mono ?_; rintro e w4 ⟨rfl, hB⟩) | (go_at_call 40; refine (zxf 43 s _).mono ?_; rintro e w5 ⟨hfe, hB5⟩; unfold zxo at hfe; subst hfe))
      rw [← hr.out]
      exact ⟨rfl, (hT.then_ hB).then_ hB5, rfl⟩
    ·have hm0I : ((m : Int) == 0) = false := by simpa using hm0
     replace hm0 := Lib.hid hm0
     go_upto_region 8 with (go_at_call 54; refine k93.mono ?_; rintro e wq ⟨rfl, hBq⟩)
     clear k93
     replace hT := hT.then_ hBq
     replace hM := hM.then_ hBq
     replace hP := zqb hP hBq
     replace h4 := zqb h4 hBq
     replace h6 := zqb h6 hBq
     clear hBq c1
     have kM := more_any g p j wq hP
     by_cases hjs : j < p.size
     ·rw [decide_eq_true hjs] at kM
      have hrs3 := hrs2.out
      rw [if_neg (by omega)] at hrs3
      go_upto_region 10 with (go_at_call 61; refine kM.mono ?_; rintro e w4 ⟨rfl, hB⟩)
      replace hT := hT.then_ hB
      replace hM := hM.then_ hB
      replace hP := zqb hP hB
      replace h4 := zqb h4 hB
      replace h6 := zqb h6 hB
      clear hB kM
      obtain ⟨ri, hri⟩ : ∃ r, Ere.itemR p s j = r := ⟨_, rfl⟩
      have kI : ∀ W, Blk W g 110 (rdC p j) → Mx W → Calls Tryz.prog 91 #[.pointer (some ⟨g, 0, none⟩), .int .i64 (s : Int)] W fun e w' => RdAns g p W (fun x : BSet => .agg (setC x)) ri e w' := fun W hW hMW => by rw [← hri]; exact item_any g p j s W hW hjs hp hMW
      have hfw := fun (y : BSet) (k : Nat) (e : ri = .got y k) => Ere.itemR_fwd (hri.trans e) hjs
      rw [hri] at hrs3
      clear hri
      replace hrs3 := Lib.hid hrs3
      replace hfw := Lib.hid hfw
      replace hjs := Lib.hid hjs
      have hI := kI w4 hP hM
      have hId := kI w4.drew hP.drew (hM.then_ (Below.refl w4.heap.size w4).drew)
      replace kI := Lib.hid kI
      cases ri with
      | fault e0 k0 =>
       have hr := hR.out
       rw [hrs3.out] at hr
       simp only [Ere.Res.bind] at hr
       replace hr := Lib.hid hr
       refine zzv (rw := some g) (i0 := 3) 4 [eqS (.agg (setC x)), eqS (.pointer (some ⟨g, 0, none⟩)), eqS (.int .i64 (s : Int)), noS] [40, 41, 42, 43] zqp ?_ (by kernel_rfl) rfl ?_ ?_
       ·intro q hq v W W' hs _
        match q, hq with
        | 0, _ => exact hs
        | 1, _ => exact hs
        | 2, _ => exact hs
        | q + 4, _ => exact trivial
       ·refine StepsR.cons (fun a' w' hG hB hp dep => GStepR.of (zxe (zqa rfl) _ rfl g6 0 (hG.other 6 rfl) x (RowAt.of_blk (h6.grown hB (fun e => hw6.out.2.1 (by injection e)))) rfl)) ?_
        refine StepsR.cons (fun a' w' hG hB hp dep => GStepR.of (zqi (zqa rfl) _ rfl (id (hG.other 0 rfl)))) ?_
        refine StepsR.cons (fun a' w' hG hB hp dep => GStepR.of (zqi (zqa rfl) _ rfl (id (hG.other 1 rfl)))) ?_
        refine StepsR.cons (fun a' w' hG hB hp dep => GStepR.call_or (zqa rfl) _ _ _ rfl enter_item #[.pointer (some ⟨g, 0, none⟩), .int .i64 (s : Int)] (map2 (dep 1 rfl 41 rfl) (dep 2 rfl 42 rfl)) ((kI.out w' (zqb hP (hp rfl)) (hM.then_ (hp rfl))).mono fun e w5 h => .inr ⟨_, h.2, ?_⟩)) ?_
        ·refine And.intro (hG.defers : a'.defers = []) ?_
         show NdAns g p w w.heap.size r _ w5
         rw [← hr.out]
         exact ⟨hT.trans ((Turn.of_one hB).trans h.1), rfl⟩
        exact StepsR.nil
       ·intro u W hW ans
        exact absurd (ans 3 43 (by decide) rfl) (fun h => h)
      | got y k =>
       refine zzv (rw := some g) (i0 := 3) 4 [eqS (.agg (setC x)), eqS (.pointer (some ⟨g, 0, none⟩)), eqS (.int .i64 (s : Int)), rdS g p (.agg (setC y)) k True] [40, 41, 42, 43] zqp ?_ (by kernel_rfl) rfl ?_ ?_
       ·intro q hq v W W' hs _
        match q, hq with
        | 0, _ => exact hs
        | 1, _ => exact hs
        | 2, _ => exact hs
        | q + 4, _ => exact trivial
       ·refine StepsR.cons (fun a' w' hG hB hp dep => GStepR.of (zxe (zqa rfl) _ rfl g6 0 (hG.other 6 rfl) x (RowAt.of_blk (h6.grown hB (fun e => hw6.out.2.1 (by injection e)))) rfl)) ?_
        refine StepsR.cons (fun a' w' hG hB hp dep => GStepR.of (zqi (zqa rfl) _ rfl (id (hG.other 0 rfl)))) ?_
        refine StepsR.cons (fun a' w' hG hB hp dep => GStepR.of (zqi (zqa rfl) _ rfl (id (hG.other 1 rfl)))) ?_
        refine StepsR.cons (fun a' w' hG hB hp dep => GStepR.call_or (zqa rfl) _ _ _ rfl enter_item #[.pointer (some ⟨g, 0, none⟩), .int .i64 (s : Int)] (map2 (dep 1 rfl 41 rfl) (dep 2 rfl 42 rfl)) ((kI.out w' (zqb hP (hp rfl)) (hM.then_ (hp rfl))).mono fun e w5 h => .inl ⟨_, h.2.1, h.1.one, fun _ => ⟨rfl, h.2.2⟩⟩)) ?_
        exact StepsR.nil
       intro u w5 hW ans
       have u40 : u 40 = .agg (setC x) := ans 0 40 (by decide) rfl
       have u43 := ans 3 43 (by decide) rfl trivial
       have hP5 := u43.2
       replace u43 : u 43 = .agg (setC y) := u43.1
       clear ans
       simp only [zqr, List.foldl_cons, List.foldl_nil, Act.put, List.setIfInBounds_toArray, List.set_cons_zero, List.set_cons_succ, u40, u43]
       clear u40 u43
       simp only [List.drop]
       have hTs := Turn.of_one hW
       have hT5 := hT.trans hTs
       have h45 := zzg h4 hTs (by have := hwb.out; omega)
       have h65 := zzg h6 hTs (by have := hw6.out; omega)
       have hM5 := hM.turn hTs hwb.out.2.2.1
       clear hT hM hP h4 h6 hW hTs hI hId
       have kJ := join_any (some ⟨w5.heap.size, 0, none⟩) 2 2 [x, y] (w5.alloc (.cells (setC x ++ setC y) 53)) rfl (by unfold maxLen; omega) (sets2_of x y w5)
       rw [joinL_two] at kJ
       have hB6 := zqc (Below.refl w5.heap.size w5) (.cells (setC x ++ setC y) 53)
       refine wl_sets2 rfl _ _ rfl x y rfl rfl ?_
       refine wl_call rfl _ _ _ rfl enter_join #[.slice (some ⟨w5.heap.size, 0, none⟩) 2 2] (map1 rfl) (kJ.mono ?_)
       rintro e w6 ⟨rfl, hB7⟩
       refine ⟨_, rfl, ?_⟩
       have hB8 := zqd hB6 hB7
       refine zqm rfl _ _ rfl g6 _ rfl rfl _ (zqb h65 hB8) ?_
       intro w7 h67 hg7
       refine wpList_nil ?_
       have hT7 := (hT5.then_ hB8).grown hg7 (fun q e => by injection e with e; have := hw6.out; right; omega)
       have hP7 := (zqb hP5 hB8).grown hg7 (fun e => by injection e with e; have := hw6.out; omega)
       have h47 := (zqb h45 hB8).grown hg7 (fun e => by injection e with e; have := hw6.out; omega)
       have hM7 : Mx w7 := by
        have h1 := hM5.then_ hB8
        have h0 := h1.size
        obtain ⟨q, hq⟩ := h1
        exact ⟨q, (World.cell?_of_block (w := w6) (hg7.block 1 h0 (fun e => by injection e with e; have := hw6.out; have := hwb.out; omega))).trans hq⟩
       have hk := hfw.out y k rfl
       have hfin : rs = Ere.itemsR p s (p.size + 2 - (m + 1)) (decide (m + 1 = 0)) k (x ||| y) := by
        rw [hrs3.out]
        simp only [Ere.Res.bind]
        rw [decide_eq_false (by omega)]
       replace hfin := Lib.hid hfin
       replace hk := Lib.hid hk
       clear hT5 hP5 h45 hM5 h65 hB6 hB7 hB8 hg7 kJ hrs3 hrs2 hfw hmj
       go_wp2_with (fail)
       have hk2 := hk.out
       exact ⟨⟨m + 1, k, x ||| y, by congr 1, by have := hmj2.out; omega, hk2.2, hT7, hM7, hP7, h47, h67, hfin.out⟩, by simp only [intOf]; have := hfu.out; omega⟩
     ·rw [decide_eq_false hjs] at kM
      have hrs3 := hrs2.out
      rw [if_pos (by omega)] at hrs3
      have hr := hR.out
      rw [hrs3] at hr
      simp only [Ere.Res.bind] at hr
      replace hr := Lib.hid hr
      replace hrs3 := Lib.hid hrs3
      go_wp2_with (first | (go_at_call 61; refine kM.mono ?_; rintro e w4 ⟨rfl, hB⟩) | (go_at_call 40; refine (zxf 43 s _).mono ?_; rintro e w5 ⟨hfe, hB5⟩; unfold zxo at hfe; subst hfe))
      rw [← hr.out]
      exact ⟨rfl, (hT.then_ hB).then_ hB5, rfl⟩
end Go.Proofs.YtkedgombccdamaaGreatDoor
