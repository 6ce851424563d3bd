/- The walk of script's told. No condition beyond those named in each lemma. -/
import Derived.Test.YtjplgcmfifoefaaDoorQtH
namespace Go.Proofs.YtjplgcmfifoefaaDoor
open Go.RowKit Go.Shelf Go.Maps
set_option linter.unusedVariables false
set_option linter.unusedSimpArgs false
attribute [local go_sem] Oper.semAt_some

def qB (l : Bs) : ByteArray := ⟨(quo l).toArray⟩
theorem tl_qB (l : Bs) : tl (qB l) = quo l := by simp [tl, qB]
theorem qB_itoa (z : Int) : qB (Lib.itoa z) = itoaB z := by unfold qB itoaB; rw [quo_itoa]
/-- an event in memory -/
structure EvV where
  kind : Int
  name : ByteArray
  other : ByteArray
  data : ByteArray
  n : Int
  yes : Bool
  A : Option Addr
  m : Nat
  c : Nat
def EvV.C (x : EvV) : Array Value := #[.int .i64 x.kind, .string x.name, .string x.other, .string x.data, .int .i64 x.n, .bool x.yes, .slice x.A x.m x.c]
def EvV.ev (x : EvV) (ks : List Int) : Ev := ⟨x.kind, tl x.name, tl x.other, tl x.data, x.n, x.yes, ks⟩
structure EvOk (w : World) (x : EvV) (ks : List Int) : Prop where
  n1 : x.name.size ≤ 1048576
  n2 : x.other.size ≤ 1048576
  n3 : x.data.size ≤ 1048576
  len : x.m = ks.length
  few : x.m ≤ 1048576
  ints : i64z x.n ∧ ∀ z ∈ ks, i64z z
  sl : SliceOf w w.heap.size 1 encZ x.A ks
theorem SliceOf.then_' {α : Type} {enc : α → Array Value} {w w' : World} {size : Nat} {A : Option Addr} {l : List α} (h : SliceOf w w.heap.size size enc A l) (hb : Below w.heap.size w w') : SliceOf w' w'.heap.size size enc A l := by
  rcases h with h | ⟨b, off, e, hlt, hrow⟩
  · exact .inl h
  · exact .inr ⟨b, off, e, Nat.lt_of_lt_of_le hlt hb.size, fun i hi j v hv => (hb.cell (p := ⟨b, _, none⟩) hlt).trans (hrow i hi j v hv)⟩
theorem EvOk.then_ {w w' : World} {x : EvV} {ks : List Int} (h : EvOk w x ks) (hb : Below w.heap.size w w') : EvOk w' x ks := ⟨h.n1, h.n2, h.n3, h.len, h.few, h.ints, SliceOf.then_' h.sl hb⟩
def toldL (c : UInt8) (e : Ev) : List ByteArray := (tellC c e).map qB
theorem run_bsZ1 (w : World) (y : Int) : (Instr.buildSlice 22 1 #[(0, .int .i64 y)]).run Tryd.prog w = .ok (.slice (some ⟨w.heap.size, 0, none⟩) 1 1) (w.alloc (.cells #[.int .i64 y] 3)) := by kernel_rfl
theorem wl_bsZ1 {ops : Array Oper} {rest : List Oper} {o : Oper} {a : Act} {w : World} {Q : Exit → Act → World → Prop} (hgd : o.guard = none) (x : Operand) (ho : o.op = .buildSlice 22 1 #[(0, x)]) (y : Int) (hx : a.eval x = .int .i64 y)
    (h : wpList Tryd.prog ops Q rest (a.put o.dst (.slice (some ⟨w.heap.size, 0, none⟩) 1 1)) (w.alloc (.cells (encZ y) 3))) : wpList Tryd.prog ops Q (o :: rest) a w :=
  wpList_plain hgd fun _ hK => by
    unfold Oper.wp execOp
    simp only [ho, List.map_toArray, List.map_cons, List.map_nil, hx, Sem.run_bind, run_bsZ1, Result.andThen_ok, Sem.run_pure]
    exact hK _ _ h
set_option maxRecDepth 100000 in
set_option maxHeartbeats 4000000 in
theorem told_any (c : UInt8) (z : Int) (hz : z = (c.toNat : Int)) (x : EvV) (ks : List Int) (w : World) (hx : EvOk w x ks) (hS : SOk w) :
    Calls Tryd.prog 14 #[.int .i32 z, .agg x.C] w fun e w' => (∃ A' c', e = .returned (.slice A' (toldL c (x.ev ks)).length c') ∧ SliceOf w' w'.heap.size 1 encQ A' (toldL c (x.ev ks))) ∧ Below w.heap.size w w' := by
  have h7 := hS.size
  replace hS := Lib.hid hS
  replace hx := Lib.hid hx
  go_enter Tryd.func14, Tryd.ntmps14
  go_upto_region 2 with (fail)
  have hb : Blk (w.alloc (.cells x.C 24)) w.heap.size 24 x.C := Blk.new w _ _
  have hB1 := below_alloc (Below.refl w.heap.size w) (.cells x.C 24)
  have hsz := hB1.size
  obtain ⟨w1, hw1⟩ : ∃ y, y = w.alloc (.cells x.C 24) := ⟨_, rfl⟩
  rw [← hw1] at hb hB1 hsz ⊢
  clear hw1
  obtain ⟨g, hg⟩ : ∃ y, y = w.heap.size := ⟨_, rfl⟩
  rw [← hg] at hb hB1 hsz h7 ⊢
  replace hg := Lib.hid hg
  by_cases c110 : c = 110
  · obtain rfl : z = 110 := by rw [hz, c110]; rfl
    have hv : Hid (toldL c (x.ev ks) = [qB (tl x.name)]) := Lib.hid (by unfold toldL tellC; rw [c110]; simp [EvV.ev])
    have hS1 := hS.out.then_ h7 hB1
    have kQ := quote_any x.name (by have := hx.out.n1; omega) w1 hS1
    have cF : w1.cell? ⟨g, 1, none⟩ = some (.string x.name) := hb.cellv rfl
    clear c110 hz
    go_wp2_with (first
      | (go_at_call 21; refine kQ.mono ?_; clear kQ; rintro e w3 ⟨rfl, hB3⟩; unfold strV)
      | (refine wl_bsS rfl _ rfl (qB (tl x.name)) rfl ?_))
    go_ret
    rw [hv.out]
    exact ⟨⟨_, _, rfl, slice_oneQ (Blk.new _ _ _)⟩, by rw [← hg.out]; exact (hB1.trans (hB3.mono (by omega))).alloc (by have := hB3.size; omega) _⟩
  have f110 : (z == 110) = false := beq_eq_false_iff_ne.2 (by rw [hz]; intro h; exact c110 (UInt8.toNat_inj.1 (by show c.toNat = 110; omega)))
  by_cases c111 : c = 111
  · obtain rfl : z = 111 := by rw [hz, c111]; rfl
    have hv : Hid (toldL c (x.ev ks) = [qB (tl x.other)]) := Lib.hid (by unfold toldL tellC; rw [c111]; simp [EvV.ev])
    have hS1 := hS.out.then_ h7 hB1
    have kQ := quote_any x.other (by have := hx.out.n2; omega) w1 hS1
    have cF : w1.cell? ⟨g, 2, none⟩ = some (.string x.other) := hb.cellv rfl
    clear c111 hz c110
    go_wp2_with (first
      | (go_at_call 21; refine kQ.mono ?_; clear kQ; rintro e w3 ⟨rfl, hB3⟩; unfold strV)
      | (refine wl_bsS rfl _ rfl (qB (tl x.other)) rfl ?_))
    go_ret
    rw [hv.out]
    exact ⟨⟨_, _, rfl, slice_oneQ (Blk.new _ _ _)⟩, by rw [← hg.out]; exact (hB1.trans (hB3.mono (by omega))).alloc (by have := hB3.size; omega) _⟩
  have f111 : (z == 111) = false := beq_eq_false_iff_ne.2 (by rw [hz]; intro h; exact c111 (UInt8.toNat_inj.1 (by show c.toNat = 111; omega)))
  by_cases c100 : c = 100
  · obtain rfl : z = 100 := by rw [hz, c100]; rfl
    have hv : Hid (toldL c (x.ev ks) = [qB (tl x.data)]) := Lib.hid (by unfold toldL tellC; rw [c100]; simp [EvV.ev])
    have hS1 := hS.out.then_ h7 hB1
    have kQ := quote_any x.data (by have := hx.out.n3; omega) w1 hS1
    have cF : w1.cell? ⟨g, 3, none⟩ = some (.string x.data) := hb.cellv rfl
    clear c100 hz c110 c111
    go_wp2_with (first
      | (go_at_call 21; refine kQ.mono ?_; clear kQ; rintro e w3 ⟨rfl, hB3⟩; unfold strV)
      | (refine wl_bsS rfl _ rfl (qB (tl x.data)) rfl ?_))
    go_ret
    rw [hv.out]
    exact ⟨⟨_, _, rfl, slice_oneQ (Blk.new _ _ _)⟩, by rw [← hg.out]; exact (hB1.trans (hB3.mono (by omega))).alloc (by have := hB3.size; omega) _⟩
  have f100 : (z == 100) = false := beq_eq_false_iff_ne.2 (by rw [hz]; intro h; exact c100 (UInt8.toNat_inj.1 (by show c.toNat = 100; omega)))
  by_cases c121 : c = 121
  · obtain rfl : z = 121 := by rw [hz, c121]; rfl
    have cF : w1.cell? ⟨g, 5, none⟩ = some (.bool x.yes) := hb.cellv rfl
    obtain ⟨y, hy⟩ : ∃ y, x.yes = y := ⟨_, rfl⟩
    rw [hy] at cF
    cases y with
    | true =>
      have hv : Hid (toldL c (x.ev ks) = [qB yesW]) := Lib.hid (by unfold toldL tellC; rw [c121]; have h9 : (x.ev ks).yes = true := hy; simp [h9])
      clear c121 hz c110 c111 c100 hy
      go_wp2_with (refine wl_bsS rfl _ rfl (qB yesW) rfl ?_)
      go_ret
      rw [hv.out]
      exact ⟨⟨_, _, rfl, slice_oneQ (Blk.new _ _ _)⟩, by rw [← hg.out]; exact hB1.alloc (by omega) _⟩
    | false =>
      have hv : Hid (toldL c (x.ev ks) = [qB noW]) := Lib.hid (by unfold toldL tellC; rw [c121]; have h9 : (x.ev ks).yes = false := hy; simp [h9])
      clear c121 hz c110 c111 c100 hy
      go_wp2_with (refine wl_bsS rfl _ rfl (qB noW) rfl ?_)
      go_ret
      rw [hv.out]
      exact ⟨⟨_, _, rfl, slice_oneQ (Blk.new _ _ _)⟩, by rw [← hg.out]; exact hB1.alloc (by omega) _⟩
  have f121 : (z == 121) = false := beq_eq_false_iff_ne.2 (by rw [hz]; intro h; exact c121 (UInt8.toNat_inj.1 (by show c.toNat = 121; omega)))
  by_cases c107 : c = 107
  · obtain rfl : z = 107 := by rw [hz, c107]; rfl
    have cF : w1.cell? ⟨g, 6, none⟩ = some (.slice x.A x.m x.c) := hb.cellv rfl
    have hv : Hid (toldL c (x.ev ks) = ks.map itoaB) := Lib.hid (by unfold toldL tellC; rw [c107]; simp [EvV.ev, qB_itoa])
    have hx1 := hx.out.then_ (hg.out ▸ hB1)
    have kN := numbers_any x.A x.m x.c ks hx.out.len (by have := hx.out.few; omega) hx.out.ints.2 w1 hx1.sl (hS.out.then_ h7 hB1)
    clear c107 hz c110 c111 c100 c121 hx1
    go_wp2_with (go_at_call 20; refine kN.mono ?_; clear kN; rintro e w3 ⟨⟨A', c', rfl, ho⟩, hB3⟩)
    go_ret
    rw [hv.out, List.length_map]
    exact ⟨⟨_, _, rfl, ho.slice_all encQ_size⟩, by rw [← hg.out]; exact hB1.trans (hB3.mono (by omega))⟩
  have f107 : (z == 107) = false := beq_eq_false_iff_ne.2 (by rw [hz]; intro h; exact c107 (UInt8.toNat_inj.1 (by show c.toNat = 107; omega)))
  have cF : w1.cell? ⟨g, 4, none⟩ = some (.int .i64 x.n) := hb.cellv rfl
  have hv : Hid (toldL c (x.ev ks) = [x.n].map itoaB) := Lib.hid (by unfold toldL tellC; rw [if_neg c110, if_neg c111, if_neg c100, if_neg c121, if_neg c107]; simp [EvV.ev, qB_itoa])
  have hg2 : g < w1.heap.size := hb.lt
  have kN : ∀ W, Below w1.heap.size w1 W → SliceOf W W.heap.size 1 encZ (some ⟨w1.heap.size, 0, none⟩) [x.n] → Calls Tryd.prog 20 #[.slice (some ⟨w1.heap.size, 0, none⟩) 1 1] W fun e w' => (∃ A' c', e = .returned (.slice A' 1 c') ∧ Own w' W.heap.size 9 1 encQ (.slice A' 1 c') ([x.n].map itoaB)) ∧ Below W.heap.size W w' := fun W hW hsl =>
    numbers_any _ 1 1 [x.n] rfl (by decide) (fun y hy => by rw [show y = x.n from by simpa using hy]; exact hx.out.ints.1) W hsl (hS.out.then_ h7 (hB1.trans (hW.mono (by omega))))
  clear hz c110 c111 c100 c121 c107
  go_wp2_with (first
    | (refine wl_bsZ1 rfl _ rfl x.n rfl ?_)
    | (go_at_call 20; refine (kN _ ((Below.refl w1.heap.size w1).alloc (Nat.le_refl _) _) (slice_one (enc := encZ) (Blk.new _ _ _))).mono ?_; clear kN; rintro e w3 ⟨⟨A', c', rfl, ho⟩, hB3⟩))
  go_ret
  rw [hv.out]
  exact ⟨⟨_, _, rfl, ho.slice_all encQ_size⟩, by rw [← hg.out]; exact (hB1.alloc (by omega) _).trans (hB3.mono (by rw [World.size_alloc]; omega))⟩
theorem enter_told (args : Array Value) (w : World) : (callFunc 14 args).run Tryd.prog w = .ok (.enter 14 args) w := by kernel_rfl
end Go.Proofs.YtjplgcmfifoefaaDoor
