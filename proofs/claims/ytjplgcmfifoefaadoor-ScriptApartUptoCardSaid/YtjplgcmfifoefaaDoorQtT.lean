/- The walks of heronlaw26's sameInts, same, used, oneLine. No condition beyond those named in each lemma. -/
import Derived.Test.YtjplgcmfifoefaaDoorQtS
namespace Go.Proofs.YtjplgcmfifoefaaDoor
open Go.RowKit Go.Maps
set_option linter.unusedVariables false
set_option linter.unusedSimpArgs false
attribute [local go_sem] Oper.semAt_some

set_option maxRecDepth 100000 in
set_option maxHeartbeats 4000000 in
theorem sameInts_any (xs ys : List Int) (A B : Option Addr) (n m cA cB : Nat) (hn : n = xs.length) (hm : m = ys.length) (hL : n ≤ 1099511627776) (hL2 : m ≤ 1099511627776) (w : World) (hA : SliceOf w w.heap.size 1 encZ A xs) (hB : SliceOf w w.heap.size 1 encZ B ys) :
    Calls Tryd.prog 18 #[.slice A n cA, .slice B m cB] w fun e w' => e = .returned (.bool (decide (xs = ys))) ∧ Below w.heap.size w w' := by
  have Hn := Lib.hid hn
  have Hm := Lib.hid hm
  clear hn hm
  go_enter Tryd.func18, Tryd.ntmps18
  by_cases hnm : n = m
  case neg =>
    have f1 : ((n : Int) != (m : Int)) = true := by rw [bne_iff_ne]; omega
    go_wp2_with (fail)
    go_ret
    refine ⟨?_, Below.refl _ _⟩
    have hd : decide (xs = ys) = false := decide_eq_false fun h => hnm (by rw [Hn.out, Hm.out, h])
    rw [hd]
    rfl
  case pos =>
    subst hnm
    have f1 : ((n : Int) != (n : Int)) = false := by simp
    go_wp2_with (fail)
    go_loopw [5] (fun iv wr => ∃ j : Nat, j ≤ n ∧ iv = .int .i64 j ∧ Below w.heap.size w wr ∧ Hid (xs.take j = ys.take j)) (fun iv _ => n - (intOf iv).toNat)
    case atStart => exact ⟨0, by omega, rfl, Below.refl _ _, Lib.hid rfl⟩
    case round =>
      obtain ⟨j, hj, rfl, hBw, hpre⟩ := hrel
      by_cases hjl : j < n
      · have hjI : (j : Int) < n := by omega
        have hjx : j < xs.length := by rw [← Hn.out]; exact hjl
        have hjy : j < ys.length := by rw [← Hm.out]; exact hjl
        obtain ⟨bA, offA, rfl, hbA, hrA⟩ := hA.at_ (by omega)
        obtain ⟨bB, offB, rfl, hbB, hrB⟩ := hB.at_ (by omega)
        have cA : wr.cell? ⟨bA, offA + j, none⟩ = some (.int .i64 xs[j]) := by
          have := ((hrA j hjx).keep (hBw.block bA hbA)) 0 _ rfl
          rw [Nat.mul_one] at this
          exact this
        have cB : wr.cell? ⟨bB, offB + j, none⟩ = some (.int .i64 ys[j]) := by
          have := ((hrB j hjy).keep (hBw.block bB hbB)) 0 _ rfl
          rw [Nat.mul_one] at this
          exact this
        have cA2 : wr.drew.cell? ⟨bA, offA + j, none⟩ = some (.int .i64 xs[j]) := cA
        have cB2 : wr.drew.cell? ⟨bB, offB + j, none⟩ = some (.int .i64 ys[j]) := cB
        obtain ⟨a, ha⟩ : ∃ a, xs[j] = a := ⟨_, rfl⟩
        obtain ⟨b, hb⟩ : ∃ b, ys[j] = b := ⟨_, rfl⟩
        rw [ha] at cA cA2
        rw [hb] at cB cB2
        have hax : Hid (xs[j]? = some a) := Lib.hid (by rw [List.getElem?_eq_getElem hjx, ha])
        have hby : Hid (ys[j]? = some b) := Lib.hid (by rw [List.getElem?_eq_getElem hjy, hb])
        clear ha hb hrA hrB
        by_cases hab : a = b
        · subst hab
          have f2 : (a != a) = false := by simp
          have hpre2 : Hid (xs.take (j + 1) = ys.take (j + 1)) := Lib.hid (by
            rw [List.take_add_one, List.take_add_one, hpre.out, hax.out, hby.out])
          go_upto_region 6 with (fail)
          go_big_region
          go_wp2_with (fail)
          exact ⟨⟨j + 1, by omega, rfl, hBw.drew, hpre2⟩, by simp only [intOf]; omega⟩
        · have f2 : (a != b) = true := by rw [bne_iff_ne]; exact hab
          go_upto_region 6 with (fail)
          go_big_region
          go_wp2_with (fail)
          go_ret
          refine ⟨?_, hBw.drew⟩
          have hd : decide (xs = ys) = false := decide_eq_false fun h => by
            have h1 := hax.out
            rw [h, hby.out] at h1
            exact hab (Option.some.inj h1).symm
          rw [hd]
          rfl
      · have hjI : ¬ (j : Int) < n := by omega
        go_wp2_with (fail)
        go_ret
        refine ⟨?_, hBw⟩
        have h1 := hpre.out
        rw [List.take_of_length_le (by rw [← Hn.out]; omega), List.take_of_length_le (by rw [← Hm.out]; omega)] at h1
        have hd : decide (xs = ys) = true := decide_eq_true h1
        rw [hd]
        rfl
/-- an event's list of numbers reads as this -/
structure EvW (w : World) (x : EvV) (ks : List Int) : Prop where
  len : x.m = ks.length
  few : x.m ≤ 1099511627776
  sl : SliceOf w w.heap.size 1 encZ x.A ks
theorem EvW.then_ {w w' : World} {x : EvV} {ks : List Int} (h : EvW w x ks) (hb : Below w.heap.size w w') : EvW w' x ks := ⟨h.len, h.few, SliceOf.then_' h.sl hb⟩
theorem EvOk.toW {w : World} {x : EvV} {ks : List Int} (h : EvOk w x ks) : EvW w x ks := ⟨h.len, by have := h.few; omega, h.sl⟩
theorem tl_eq {a b : ByteArray} : tl a = tl b ↔ a.toList = b.toList := by rw [Lib.toList_data, Lib.toList_data]
theorem ev_eq (x y : EvV) (ks js : List Int) : x.ev ks = y.ev js ↔ x.kind = y.kind ∧ x.name.toList = y.name.toList ∧ x.other.toList = y.other.toList ∧ x.data.toList = y.data.toList ∧ x.n = y.n ∧ x.yes = y.yes ∧ ks = js := by
  unfold EvV.ev
  rw [Ev.mk.injEq, tl_eq, tl_eq, tl_eq]
set_option maxRecDepth 100000 in
set_option maxHeartbeats 8000000 in
theorem same_any (x y : EvV) (ks js : List Int) (w : World) (hx : EvW w x ks) (hy : EvW w y js) :
    Calls Tryd.prog 9 #[.agg x.C, .agg y.C] w fun e w' => e = .returned (.bool (decide (x.ev ks = y.ev js))) ∧ Below w.heap.size w w' := by
  go_enter Tryd.func9, Tryd.ntmps9
  go_upto_region 1 with (fail)
  have bx := blk_then (Blk.new w 24 x.C) (below_alloc (Below.refl (w.alloc (.cells x.C 24)).heap.size (w.alloc (.cells x.C 24))) (.cells y.C 24))
  have by_ := Blk.new (w.alloc (.cells x.C 24)) 24 y.C
  have hB2 := below_alloc (below_alloc (Below.refl w.heap.size w) (.cells x.C 24)) (.cells y.C 24)
  have hz2 : (w.alloc (.cells x.C 24)).heap.size = w.heap.size + 1 := by rw [World.size_alloc]
  rw [hz2] at by_
  obtain ⟨w2, hw2⟩ : ∃ v, v = (w.alloc (.cells x.C 24)).alloc (.cells y.C 24) := ⟨_, rfl⟩
  rw [← hw2] at bx by_ hB2 ⊢
  clear hz2 hw2
  obtain ⟨gx, hgx⟩ : ∃ v, v = w.heap.size := ⟨_, rfl⟩
  obtain ⟨gy, hgy⟩ : ∃ v, v = gx + 1 := ⟨_, rfl⟩
  rw [← hgx] at bx by_ ⊢
  rw [← hgy] at by_ ⊢
  replace hgx := Lib.hid hgx
  replace hgy := Lib.hid hgy
  have cx0 : w2.cell? ⟨gx, 0, none⟩ = some (.int .i64 x.kind) := bx.cellv (by rfl)
  have cy0 : w2.cell? ⟨gy, 0, none⟩ = some (.int .i64 y.kind) := by_.cellv (by rfl)
  have cx1 : w2.cell? ⟨gx, 1, none⟩ = some (.string x.name) := bx.cellv (by rfl)
  have cy1 : w2.cell? ⟨gy, 1, none⟩ = some (.string y.name) := by_.cellv (by rfl)
  have cx2 : w2.cell? ⟨gx, 2, none⟩ = some (.string x.other) := bx.cellv (by rfl)
  have cy2 : w2.cell? ⟨gy, 2, none⟩ = some (.string y.other) := by_.cellv (by rfl)
  have cx3 : w2.cell? ⟨gx, 3, none⟩ = some (.string x.data) := bx.cellv (by rfl)
  have cy3 : w2.cell? ⟨gy, 3, none⟩ = some (.string y.data) := by_.cellv (by rfl)
  have cx4 : w2.cell? ⟨gx, 4, none⟩ = some (.int .i64 x.n) := bx.cellv (by rfl)
  have cy4 : w2.cell? ⟨gy, 4, none⟩ = some (.int .i64 y.n) := by_.cellv (by rfl)
  have cx5 : w2.cell? ⟨gx, 5, none⟩ = some (.bool x.yes) := bx.cellv (by rfl)
  have cy5 : w2.cell? ⟨gy, 5, none⟩ = some (.bool y.yes) := by_.cellv (by rfl)
  have cx6 : w2.cell? ⟨gx, 6, none⟩ = some (.slice x.A x.m x.c) := bx.cellv (by rfl)
  have cy6 : w2.cell? ⟨gy, 6, none⟩ = some (.slice y.A y.m y.c) := by_.cellv (by rfl)
  clear bx by_
  by_cases h0 : x.kind = y.kind
  case neg =>
    have f0 : (x.kind == y.kind) = false := by rw [beq_eq_false_iff_ne]; exact h0
    have hd : decide (x.ev ks = y.ev js) = false := decide_eq_false fun h => h0 ((ev_eq _ _ _ _).1 h).1
    replace hd := Lib.hid hd
    go_wp2_with (fail)
    go_ret
    exact ⟨by rw [hd.out]; rfl, hB2⟩
  have f0 : (x.kind == y.kind) = true := by rw [beq_iff_eq]; exact h0
  by_cases h1 : x.name.toList = y.name.toList
  case neg =>
    have f1 : (x.name.toList == y.name.toList) = false := by rw [beq_eq_false_iff_ne]; exact h1
    have hd : decide (x.ev ks = y.ev js) = false := decide_eq_false fun h => h1 ((ev_eq _ _ _ _).1 h).2.1
    replace hd := Lib.hid hd
    go_wp2_with (fail)
    go_ret
    exact ⟨by rw [hd.out]; rfl, hB2⟩
  have f1 : (x.name.toList == y.name.toList) = true := by rw [beq_iff_eq]; exact h1
  by_cases h2 : x.other.toList = y.other.toList
  case neg =>
    have f2 : (x.other.toList == y.other.toList) = false := by rw [beq_eq_false_iff_ne]; exact h2
    have hd : decide (x.ev ks = y.ev js) = false := decide_eq_false fun h => h2 ((ev_eq _ _ _ _).1 h).2.2.1
    replace hd := Lib.hid hd
    go_wp2_with (fail)
    go_ret
    exact ⟨by rw [hd.out]; rfl, hB2⟩
  have f2 : (x.other.toList == y.other.toList) = true := by rw [beq_iff_eq]; exact h2
  by_cases h3 : x.data.toList = y.data.toList
  case neg =>
    have f3 : (x.data.toList == y.data.toList) = false := by rw [beq_eq_false_iff_ne]; exact h3
    have hd : decide (x.ev ks = y.ev js) = false := decide_eq_false fun h => h3 ((ev_eq _ _ _ _).1 h).2.2.2.1
    replace hd := Lib.hid hd
    go_wp2_with (fail)
    go_ret
    exact ⟨by rw [hd.out]; rfl, hB2⟩
  have f3 : (x.data.toList == y.data.toList) = true := by rw [beq_iff_eq]; exact h3
  by_cases h4 : x.n = y.n
  case neg =>
    have f4 : (x.n == y.n) = false := by rw [beq_eq_false_iff_ne]; exact h4
    have hd : decide (x.ev ks = y.ev js) = false := decide_eq_false fun h => h4 ((ev_eq _ _ _ _).1 h).2.2.2.2.1
    replace hd := Lib.hid hd
    go_wp2_with (fail)
    go_ret
    exact ⟨by rw [hd.out]; rfl, hB2⟩
  have f4 : (x.n == y.n) = true := by rw [beq_iff_eq]; exact h4
  by_cases h5 : x.yes = y.yes
  case neg =>
    have f5 : (x.yes == y.yes) = false := by rw [beq_eq_false_iff_ne]; exact h5
    have hd : decide (x.ev ks = y.ev js) = false := decide_eq_false fun h => h5 ((ev_eq _ _ _ _).1 h).2.2.2.2.2.1
    replace hd := Lib.hid hd
    go_wp2_with (fail)
    go_ret
    exact ⟨by rw [hd.out]; rfl, hB2⟩
  have f5 : (x.yes == y.yes) = true := by rw [beq_iff_eq]; exact h5
  have hd : decide (x.ev ks = y.ev js) = decide (ks = js) := by
    rw [decide_eq_decide, ev_eq]
    exact ⟨fun h => h.2.2.2.2.2.2, fun h => ⟨h0, h1, h2, h3, h4, h5, h⟩⟩
  replace hd := Lib.hid hd
  clear h0 h1 h2 h3 h4 h5
  have hx2 := hx.then_ hB2
  have hy2 := hy.then_ hB2
  have kS := sameInts_any ks js x.A y.A x.m y.m x.c y.c hx.len hy.len hx.few hy.few w2 hx2.sl hy2.sl
  go_wp2_with (go_at_call 18; refine kS.mono ?_; clear kS; rintro e w3 ⟨rfl, hB3⟩)
  go_ret
  exact ⟨by rw [hd.out]; rfl, hB2.trans (hB3.mono hB2.size)⟩
end Go.Proofs.YtjplgcmfifoefaaDoor
