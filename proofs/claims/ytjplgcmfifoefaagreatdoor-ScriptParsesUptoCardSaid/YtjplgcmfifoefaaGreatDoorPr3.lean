/- Part 3 of a proof; packed: the texts that it was made of follow one another. No condition beyond those named in each lemma. -/
import Derived.Test.YtjplgcmfifoefaaGreatDoorPr1
import Derived.Test.YtjplgcmfifoefaaGreatDoorPr2
import Derived.Lib.ItoaLen
import Derived.Lib.Join
import Derived.Lib.SmallJoins
namespace Go.Proofs.YtjplgcmfifoefaaGreatDoor
open Go.RowKit Go.Shelf Go.Maps
set_option linter.unusedVariables false
set_option linter.unusedSimpArgs false
attribute [local go_sem] Oper.semAt_some

def qB (l : Bs) : ByteArray := ⟨(quo l).toArray⟩
theorem tl_qB (l : Bs) : tl (qB l) = quo l := by simp [tl, qB]
theorem qB_itoa (z : Int) : qB (Lib.itoa z) = itoaB z := by unfold qB itoaB; rw [quo_itoa]
/-- an event in memory -/
structure EvV where
  kind : Int
  name : ByteArray
  other : ByteArray
  data : ByteArray
  n : Int
  yes : Bool
  A : Option Addr
  m : Nat
  c : Nat
def EvV.C (x : EvV) : Array Value := #[.int .i64 x.kind, .string x.name, .string x.other, .string x.data, .int .i64 x.n, .bool x.yes, .slice x.A x.m x.c]
def EvV.ev (x : EvV) (ks : List Int) : Ev := ⟨x.kind, tl x.name, tl x.other, tl x.data, x.n, x.yes, ks⟩
structure EvOk (w : World) (x : EvV) (ks : List Int) : Prop where
  n1 : x.name.size ≤ 1048576
  n2 : x.other.size ≤ 1048576
  n3 : x.data.size ≤ 1048576
  len : x.m = ks.length
  few : x.m ≤ 1048576
  ints : i64z x.n ∧ ∀ z ∈ ks, i64z z
  sl : SliceOf w w.heap.size 1 encZ x.A ks
theorem SliceOf.then_' {α : Type} {enc : α → Array Value} {w w' : World} {size : Nat} {A : Option Addr} {l : List α} (h : SliceOf w w.heap.size size enc A l) (hb : Below w.heap.size w w') : SliceOf w' w'.heap.size size enc A l := by
  rcases h with h | ⟨b, off, e, hlt, hrow⟩
  · exact .inl h
  · exact .inr ⟨b, off, e, Nat.lt_of_lt_of_le hlt hb.size, fun i hi j v hv => (hb.cell (p := ⟨b, _, none⟩) hlt).trans (hrow i hi j v hv)⟩
theorem EvOk.then_ {w w' : World} {x : EvV} {ks : List Int} (h : EvOk w x ks) (hb : Below w.heap.size w w') : EvOk w' x ks := ⟨h.n1, h.n2, h.n3, h.len, h.few, h.ints, SliceOf.then_' h.sl hb⟩
def toldL (c : UInt8) (e : Ev) : List ByteArray := (tellC c e).map qB
theorem run_bsZ1 (w : World) (y : Int) : (Instr.buildSlice 23 1 #[(0, .int .i64 y)]).run Tryz.prog w = .ok (.slice (some ⟨w.heap.size, 0, none⟩) 1 1) (w.alloc (.cells #[.int .i64 y] 3)) := by kernel_rfl
theorem wl_bsZ1 {ops : Array Oper} {rest : List Oper} {o : Oper} {a : Act} {w : World} {Q : Exit → Act → World → Prop} (hgd : o.guard = none) (x : Operand) (ho : o.op = .buildSlice 23 1 #[(0, x)]) (y : Int) (hx : a.eval x = .int .i64 y)
    (h : wpList Tryz.prog ops Q rest (a.put o.dst (.slice (some ⟨w.heap.size, 0, none⟩) 1 1)) (w.alloc (.cells (encZ y) 3))) : wpList Tryz.prog ops Q (o :: rest) a w :=
  wpList_plain hgd fun _ hK => by
    unfold Oper.wp execOp
    simp only [ho, List.map_toArray, List.map_cons, List.map_nil, hx, Sem.run_bind, run_bsZ1, Result.andThen_ok, Sem.run_pure]
    exact hK _ _ h
set_option maxRecDepth 100000 in
set_option maxHeartbeats 4000000 in
theorem told_any (c : UInt8) (z : Int) (hz : z = (c.toNat : Int)) (x : EvV) (ks : List Int) (w : World) (hx : EvOk w x ks) (hS : SOk w) :
    Calls Tryz.prog 24 #[.int .i32 z, .agg x.C] w fun e w' => (∃ A' c', e = .returned (.slice A' (toldL c (x.ev ks)).length c') ∧ SliceOf w' w'.heap.size 1 encQ A' (toldL c (x.ev ks))) ∧ Below w.heap.size w w' := by
  have h7 := hS.size
  replace hS := Lib.hid hS
  replace hx := Lib.hid hx
  go_enter Tryz.func24, Tryz.ntmps24
  go_upto_region 2 with (fail)
  have hb : Blk (w.alloc (.cells x.C 25)) w.heap.size 25 x.C := Blk.new w _ _
  have hB1 := below_alloc (Below.refl w.heap.size w) (.cells x.C 25)
  have hsz := hB1.size
  obtain ⟨w1, hw1⟩ : ∃ y, y = w.alloc (.cells x.C 25) := ⟨_, rfl⟩
  rw [← hw1] at hb hB1 hsz ⊢
  clear hw1
  obtain ⟨g, hg⟩ : ∃ y, y = w.heap.size := ⟨_, rfl⟩
  rw [← hg] at hb hB1 hsz h7 ⊢
  replace hg := Lib.hid hg
  by_cases c110 : c = 110
  · obtain rfl : z = 110 := by rw [hz, c110]; rfl
    have hv : Hid (toldL c (x.ev ks) = [qB (tl x.name)]) := Lib.hid (by unfold toldL tellC; rw [c110]; simp [EvV.ev])
    have hS1 := hS.out.then_ h7 hB1
    have kQ := quote_any x.name (by have := hx.out.n1; omega) w1 hS1
    have cF : w1.cell? ⟨g, 1, none⟩ = some (.string x.name) := hb.cellv rfl
    clear c110 hz
    go_wp2_with (first
      | (go_at_call 42; refine kQ.mono ?_; clear kQ; rintro e w3 ⟨rfl, hB3⟩; unfold strV)
      | (refine wl_bsS rfl _ rfl (qB (tl x.name)) rfl ?_))
    go_ret
    rw [hv.out]
    exact ⟨⟨_, _, rfl, slice_oneQ (Blk.new _ _ _)⟩, by rw [← hg.out]; exact (hB1.trans (hB3.mono (by omega))).alloc (by have := hB3.size; omega) _⟩
  have f110 : (z == 110) = false := beq_eq_false_iff_ne.2 (by rw [hz]; intro h; exact c110 (UInt8.toNat_inj.1 (by show c.toNat = 110; omega)))
  by_cases c111 : c = 111
  · obtain rfl : z = 111 := by rw [hz, c111]; rfl
    have hv : Hid (toldL c (x.ev ks) = [qB (tl x.other)]) := Lib.hid (by unfold toldL tellC; rw [c111]; simp [EvV.ev])
    have hS1 := hS.out.then_ h7 hB1
    have kQ := quote_any x.other (by have := hx.out.n2; omega) w1 hS1
    have cF : w1.cell? ⟨g, 2, none⟩ = some (.string x.other) := hb.cellv rfl
    clear c111 hz c110
    go_wp2_with (first
      | (go_at_call 42; refine kQ.mono ?_; clear kQ; rintro e w3 ⟨rfl, hB3⟩; unfold strV)
      | (refine wl_bsS rfl _ rfl (qB (tl x.other)) rfl ?_))
    go_ret
    rw [hv.out]
    exact ⟨⟨_, _, rfl, slice_oneQ (Blk.new _ _ _)⟩, by rw [← hg.out]; exact (hB1.trans (hB3.mono (by omega))).alloc (by have := hB3.size; omega) _⟩
  have f111 : (z == 111) = false := beq_eq_false_iff_ne.2 (by rw [hz]; intro h; exact c111 (UInt8.toNat_inj.1 (by show c.toNat = 111; omega)))
  by_cases c100 : c = 100
  · obtain rfl : z = 100 := by rw [hz, c100]; rfl
    have hv : Hid (toldL c (x.ev ks) = [qB (tl x.data)]) := Lib.hid (by unfold toldL tellC; rw [c100]; simp [EvV.ev])
    have hS1 := hS.out.then_ h7 hB1
    have kQ := quote_any x.data (by have := hx.out.n3; omega) w1 hS1
    have cF : w1.cell? ⟨g, 3, none⟩ = some (.string x.data) := hb.cellv rfl
    clear c100 hz c110 c111
    go_wp2_with (first
      | (go_at_call 42; refine kQ.mono ?_; clear kQ; rintro e w3 ⟨rfl, hB3⟩; unfold strV)
      | (refine wl_bsS rfl _ rfl (qB (tl x.data)) rfl ?_))
    go_ret
    rw [hv.out]
    exact ⟨⟨_, _, rfl, slice_oneQ (Blk.new _ _ _)⟩, by rw [← hg.out]; exact (hB1.trans (hB3.mono (by omega))).alloc (by have := hB3.size; omega) _⟩
  have f100 : (z == 100) = false := beq_eq_false_iff_ne.2 (by rw [hz]; intro h; exact c100 (UInt8.toNat_inj.1 (by show c.toNat = 100; omega)))
  by_cases c121 : c = 121
  · obtain rfl : z = 121 := by rw [hz, c121]; rfl
    have cF : w1.cell? ⟨g, 5, none⟩ = some (.bool x.yes) := hb.cellv rfl
    obtain ⟨y, hy⟩ : ∃ y, x.yes = y := ⟨_, rfl⟩
    rw [hy] at cF
    cases y with
    | true =>
      have hv : Hid (toldL c (x.ev ks) = [qB yesW]) := Lib.hid (by unfold toldL tellC; rw [c121]; have h9 : (x.ev ks).yes = true := hy; simp [h9])
      clear c121 hz c110 c111 c100 hy
      go_wp2_with (refine wl_bsS rfl _ rfl (qB yesW) rfl ?_)
      go_ret
      rw [hv.out]
      exact ⟨⟨_, _, rfl, slice_oneQ (Blk.new _ _ _)⟩, by rw [← hg.out]; exact hB1.alloc (by omega) _⟩
    | false =>
      have hv : Hid (toldL c (x.ev ks) = [qB noW]) := Lib.hid (by unfold toldL tellC; rw [c121]; have h9 : (x.ev ks).yes = false := hy; simp [h9])
      clear c121 hz c110 c111 c100 hy
      go_wp2_with (refine wl_bsS rfl _ rfl (qB noW) rfl ?_)
      go_ret
      rw [hv.out]
      exact ⟨⟨_, _, rfl, slice_oneQ (Blk.new _ _ _)⟩, by rw [← hg.out]; exact hB1.alloc (by omega) _⟩
  have f121 : (z == 121) = false := beq_eq_false_iff_ne.2 (by rw [hz]; intro h; exact c121 (UInt8.toNat_inj.1 (by show c.toNat = 121; omega)))
  by_cases c107 : c = 107
  · obtain rfl : z = 107 := by rw [hz, c107]; rfl
    have cF : w1.cell? ⟨g, 6, none⟩ = some (.slice x.A x.m x.c) := hb.cellv rfl
    have hv : Hid (toldL c (x.ev ks) = ks.map itoaB) := Lib.hid (by unfold toldL tellC; rw [c107]; simp [EvV.ev, qB_itoa])
    have hx1 := hx.out.then_ (hg.out ▸ hB1)
    have kN := numbers_any x.A x.m x.c ks hx.out.len (by have := hx.out.few; omega) hx.out.ints.2 w1 hx1.sl (hS.out.then_ h7 hB1)
    clear c107 hz c110 c111 c100 c121 hx1
    go_wp2_with (go_at_call 27; refine kN.mono ?_; clear kN; rintro e w3 ⟨⟨A', c', rfl, ho⟩, hB3⟩)
    go_ret
    rw [hv.out, List.length_map]
    exact ⟨⟨_, _, rfl, ho.slice_all encQ_size⟩, by rw [← hg.out]; exact hB1.trans (hB3.mono (by omega))⟩
  have f107 : (z == 107) = false := beq_eq_false_iff_ne.2 (by rw [hz]; intro h; exact c107 (UInt8.toNat_inj.1 (by show c.toNat = 107; omega)))
  have cF : w1.cell? ⟨g, 4, none⟩ = some (.int .i64 x.n) := hb.cellv rfl
  have hv : Hid (toldL c (x.ev ks) = [x.n].map itoaB) := Lib.hid (by unfold toldL tellC; rw [if_neg c110, if_neg c111, if_neg c100, if_neg c121, if_neg c107]; simp [EvV.ev, qB_itoa])
  have hg2 : g < w1.heap.size := hb.lt
  have kN : ∀ W, Below w1.heap.size w1 W → SliceOf W W.heap.size 1 encZ (some ⟨w1.heap.size, 0, none⟩) [x.n] → Calls Tryz.prog 27 #[.slice (some ⟨w1.heap.size, 0, none⟩) 1 1] W fun e w' => (∃ A' c', e = .returned (.slice A' 1 c') ∧ Own w' W.heap.size 9 1 encQ (.slice A' 1 c') ([x.n].map itoaB)) ∧ Below W.heap.size W w' := fun W hW hsl =>
    numbers_any _ 1 1 [x.n] rfl (by decide) (fun y hy => by rw [show y = x.n from by simpa using hy]; exact hx.out.ints.1) W hsl (hS.out.then_ h7 (hB1.trans (hW.mono (by omega))))
  clear hz c110 c111 c100 c121 c107
  go_wp2_with (first
    | (refine wl_bsZ1 rfl _ rfl x.n rfl ?_)
    | (go_at_call 27; refine (kN _ ((Below.refl w1.heap.size w1).alloc (Nat.le_refl _) _) (slice_one (enc := encZ) (Blk.new _ _ _))).mono ?_; clear kN; rintro e w3 ⟨⟨A', c', rfl, ho⟩, hB3⟩))
  go_ret
  rw [hv.out]
  exact ⟨⟨_, _, rfl, ho.slice_all encQ_size⟩, by rw [← hg.out]; exact (hB1.alloc (by omega) _).trans (hB3.mono (by rw [World.size_alloc]; omega))⟩
end Go.Proofs.YtjplgcmfifoefaaGreatDoor
namespace Go.Proofs.YtjplgcmfifoefaaGreatDoor
open Go.Lib
set_option linter.unusedVariables false
set_option linter.unusedSimpArgs false

theorem piece_len {X Y : Bs} (h : Piece X Y) : X.length ≤ 4 * Y.length := by
  cases h with
  | esc b c h => simp
  | hex b => simp [byN]
  | ord _ h => omega
theorem pieces_len {X Y : Bs} (h : Pieces X Y) : X.length ≤ 4 * Y.length := by
  induction h with
  | nil => simp
  | cons h _ ih => have := piece_len h; simp only [List.length_append]; omega
theorem quo_len (l : Bs) : (quo l).length ≤ 4 * l.length + 2 := by
  unfold quo
  split
  · omega
  · have := pieces_len (pieces l.length l (Nat.le_refl _))
    simp only [List.length_cons, List.length_append, List.length_nil]
    omega
theorem lineW_app : ∀ a b : List Bs, lineW (a ++ b) = lineW a ++ lineW b
  | [], b => rfl
  | w :: a, b => by simp [lineW, lineW_app a b]
theorem line_ints : ∀ ks : List Int, (∀ z ∈ ks, i64z z) → (lineW ((ks.map itoa).map quo)).length ≤ 22 * ks.length
  | [], _ => by simp [lineW]
  | z :: ks, h => by
    have h1 := h z (by simp)
    have h2 := itoa_length_le z h1.1 h1.2
    have h3 := line_ints ks fun y hy => h y (by simp [hy])
    simp only [List.map_cons, lineW, quo_itoa, List.length_cons, List.length_append] at h3 ⊢
    omega
theorem firsts_len : ∀ k, k < 13 → (firsts.getD k []).length ≤ 6 := by decide
/-- how long an event's line is -/
theorem print_len (e : Ev) (hk : kindOk e.kind) (hi : intsOk e) : (joinW ((textsE e).map quo)).length ≤ 200 + 4 * (e.name.length + e.other.length + e.data.length) + 22 * e.keep.length := by
  obtain ⟨k, hk1⟩ : ∃ k : Nat, e.kind = k := ⟨e.kind.toNat, by unfold kindOk at hk; omega⟩
  have hk2 : 1 ≤ k ∧ k ≤ 12 := by unfold kindOk at hk; omega
  obtain ⟨kind, name, other, data, n, yes, keep⟩ := e
  simp only at hk1
  subst hk1
  obtain ⟨hn, hkeep⟩ := hi
  simp only at hn hkeep
  have h1 := itoa_length_le n hn.1 hn.2
  have h2 := line_ints keep hkeep
  have h3 := firsts_len k (by omega)
  have q1 := quo_len name
  have q2 := quo_len other
  have q3 := quo_len data
  have q4 : (quo (if yes then yesW else noW)).length ≤ 3 := by rw [quo_yes]; cases yes <;> simp [yesW, noW]
  have q5 : (quo (firsts.getD k [])).length ≤ 6 := by rw [quo_pl (firsts_pl k (by omega) (by omega))]; exact h3
  have q6 : (quo (itoa n)).length ≤ 21 := by rw [quo_itoa]; exact h1
  have hT : (joinW ((textsE ⟨(k : Nat), name, other, data, n, yes, keep⟩).map quo)).length = (quo (firsts.getD k [])).length + (lineW ((((letters.getD k []).flatMap (tellC · ⟨(k : Nat), name, other, data, n, yes, keep⟩))).map quo)).length := by
    unfold textsE
    rw [List.map_cons, joinW_cons, List.length_append]
    rfl
  rw [hT]
  simp only
  have hL : (lineW ((((letters.getD k []).flatMap (tellC · ⟨(k : Nat), name, other, data, n, yes, keep⟩))).map quo)).length ≤ 100 + 4 * (name.length + other.length + data.length) + 22 * keep.length := by
    rcases (by omega : k = 1 ∨ k = 2 ∨ k = 3 ∨ k = 4 ∨ k = 5 ∨ k = 6 ∨ k = 7 ∨ k = 8 ∨ k = 9 ∨ k = 10 ∨ k = 11 ∨ k = 12) with rfl | rfl | rfl | rfl | rfl | rfl | rfl | rfl | rfl | rfl | rfl | rfl
    all_goals
      simp only [letters, tellC, List.getD_eq_getElem?_getD, List.getElem?_cons_succ, List.getElem?_cons_zero, Option.getD_some, List.flatMap_cons, List.flatMap_nil, List.append_nil, if_true, if_false, show (100 : UInt8) = 110 ↔ False by decide, show (100 : UInt8) = 111 ↔ False by decide, show (111 : UInt8) = 110 ↔ False by decide, show (105 : UInt8) = 110 ↔ False by decide, show (105 : UInt8) = 111 ↔ False by decide, show (105 : UInt8) = 100 ↔ False by decide, show (105 : UInt8) = 121 ↔ False by decide, show (105 : UInt8) = 107 ↔ False by decide, show (121 : UInt8) = 110 ↔ False by decide, show (121 : UInt8) = 111 ↔ False by decide, show (121 : UInt8) = 100 ↔ False by decide, show (107 : UInt8) = 110 ↔ False by decide, show (107 : UInt8) = 111 ↔ False by decide, show (107 : UInt8) = 100 ↔ False by decide, show (107 : UInt8) = 121 ↔ False by decide, List.map_cons, List.map_nil, List.cons_append, List.nil_append, lineW, List.length_cons, List.length_append, List.length_nil]
      omega
  omega
theorem join_tail : ∀ ws : List Bs, Lib.joinTail [32] ws = lineW ws
  | [] => rfl
  | w :: ws => by
    have h := join_tail ws
    unfold Lib.joinTail at h ⊢
    rw [List.map_cons, List.flatten_cons, h]
    simp [lineW]
theorem join_eq (ws : List Bs) : Lib.join ws [32] = joinW ws := by
  cases ws with
  | nil => rfl
  | cons w ws => rw [Lib.join_cons, join_tail, joinW_cons]
end Go.Proofs.YtjplgcmfifoefaaGreatDoor
namespace Go.Proofs.YtjplgcmfifoefaaGreatDoor
open Go.RowKit Go.Maps
set_option linter.unusedVariables false
set_option linter.unusedSimpArgs false
attribute [local go_sem] Oper.semAt_some

section
variable {α : Type} {enc : α → Array Value} {size base g n : Nat} {e : TypeId} {W W' : World} {v : Value} {ys : List α} {cs : Array Value}
theorem own_made (hs : ∀ y, (enc y).size = size) (hb : Blk W g e cs) (hcs : cs.toList = flat enc ys) (hn : n = ys.length) (hg : base ≤ g) (hm : n ≤ maxLen) : Own W base e size enc (.slice (some ⟨g, 0, none⟩) n n) ys := by
  subst hn
  refine ⟨flat_length hs ys, .inr ⟨g, _, cs, rfl, hg, hb, Nat.le_refl _, hm, ?_, ?_⟩⟩
  · rw [← Array.length_toList, hcs, flat_length hs]
  · rw [hcs, ← flat_length hs ys, List.take_length]
theorem own_one (hs : ∀ y, (enc y).size = size) {y : α} (hb : Blk W g e (enc y)) (hg : base ≤ g) : Own W base e size enc (.slice (some ⟨g, 0, none⟩) 1 1) [y] :=
  own_made (ys := [y]) hs hb (by simp [flat]) rfl hg (by unfold maxLen; omega)
theorem own_not_iter {k p : Nat} {s : ByteArray} (ho : Own W base e size enc v ys) (hk : W.heap[k]? = some (.stringIter s p)) : v.ownBlock ≠ some k := by
  intro h
  rcases ho.2 with ⟨rfl, _⟩ | ⟨g, cap, cur, rfl, _, hg, _⟩
  · cases h
  · simp [Value.ownBlock] at h
    subst h
    rw [hk] at hg
    cases hg
theorem iter_grown {k p : Nat} {s : ByteArray} (ho : Own W base e size enc v ys) (hk : W.heap[k]? = some (.stringIter s p)) (hg : W.grownBy W' v.ownBlock) : W'.heap[k]? = some (.stringIter s p) :=
  (hg.block k (Array.getElem?_eq_some_iff.1 hk).1 (fun h => own_not_iter ho hk h.symm)).trans hk
theorem own_iterAt {k p : Nat} {s : ByteArray} (ho : Own W base e size enc v ys) (hk : W.heap[k]? = some (.stringIter s p)) (p' : Nat) : Own (W.iterAt k s p') base e size enc v ys := by
  refine ⟨ho.1, ?_⟩
  rcases ho.2 with h | ⟨g, cap, cur, hv, hbg, hg, rest⟩
  · exact .inl h
  · refine .inr ⟨g, cap, cur, hv, hbg, (Lib.iterAt_other W k g s p' ?_).trans hg, rest⟩
    intro h
    subst h
    rw [hk] at hg
    cases hg
end
theorem blk_then' {W W' : World} {g lo : Nat} {t : TypeId} {cs : Array Value} (h : Blk W g t cs) (hb : Below lo W W') (hl : g < lo) : Blk W' g t cs := (hb.block g hl).trans h
theorem join_any (ps : List ByteArray) (hne : ps ≠ []) (A : Option Addr) (c base : Nat) (w : World) (ho : Own w base 9 1 encQ (.slice A ps.length c) ps) (hps : ps.length ≤ 1099511627776) (hlen : (joinW (ps.map tl)).length ≤ 1099511627776) :
    Calls Tryz.prog 25 #[.slice A ps.length c, .string ⟨#[32]⟩] w fun e w' => e = .returned (strV (joinW (ps.map tl))) ∧ Below w.heap.size w w' := by
  have hpos : 0 < ps.length := List.length_pos_iff.2 hne
  have hs := ho.slice_all encQ_size
  obtain ⟨b, off, rfl, hb, hrow⟩ := hs.at_ hpos
  have hcap : ps.length ≤ c := by
    rcases ho.2 with ⟨h, _⟩ | ⟨g, cap, cur, hv, _, _, hc, _⟩
    · cases h
    · injection hv with _ _ h3
      omega
  have h := Tryz.strings_Join b off c ps ⟨#[32]⟩ w (fun j x hx => by
    obtain ⟨hj, rfl⟩ := List.getElem?_eq_some_iff.1 hx
    have h9 := hrow j hj 0 _ rfl
    simp only [Nat.mul_one, Nat.add_zero] at h9
    exact h9) hb (by omega) hcap (by
    rw [show (⟨#[32]⟩ : ByteArray).data.toList = [32] from rfl, join_eq]
    have : (joinW (ps.map (·.data.toList))).length ≤ 1099511627776 := hlen
    omega)
  rw [show (⟨#[32]⟩ : ByteArray).data.toList = [32] from rfl, join_eq] at h
  exact h
theorem rows_at : ∀ k, k < 13 → rowsC[2 * k]? = some (strV (firsts.getD k [])) ∧ rowsC[2 * k + 1]? = some (strV (letters.getD k [])) := by
  intro k hk
  rcases (by omega : k = 0 ∨ k = 1 ∨ k = 2 ∨ k = 3 ∨ k = 4 ∨ k = 5 ∨ k = 6 ∨ k = 7 ∨ k = 8 ∨ k = 9 ∨ k = 10 ∨ k = 11 ∨ k = 12) with rfl | rfl | rfl | rfl | rfl | rfl | rfl | rfl | rfl | rfl | rfl | rfl | rfl <;> exact ⟨rfl, rfl⟩
theorem letters_ascii : ∀ k, k < 13 → (∀ b ∈ letters.getD k [], b.toNat < 128) ∧ (letters.getD k []).length ≤ 2 := by decide
theorem info_ev : (Tryz.prog.info? 25).map (·.size) = some 7 := by kernel_rfl
def printL (e : Ev) : Bs := if kindOk e.kind then joinW ((textsE e).map quo) else []
def printE (e : Ev) : Int := if kindOk e.kind then 0 else 260
theorem toldL_len (c : UInt8) (e : Ev) : (toldL c e).length ≤ 1 + e.keep.length := by
  unfold toldL tellC
  repeat' split
  all_goals simp <;> omega
set_option maxRecDepth 100000 in
set_option maxHeartbeats 4000000 in
theorem print_any (x : EvV) (ks : List Int) (w : World) (hx : EvOk w x ks) (hS : SOk w) :
    Calls Tryz.prog 11 #[.agg x.C] w fun e w' => e = .returned (.tuple #[strV (printL (x.ev ks)), .int .i64 (printE (x.ev ks))]) ∧ Below w.heap.size w w' := by
  have h7 := hS.size
  replace hS := Lib.hid hS
  replace hx := Lib.hid hx
  go_enter Tryz.func11, Tryz.ntmps11
  go_upto_region 1 with (fail)
  have hb : Blk (w.alloc (.cells x.C 25)) w.heap.size 25 x.C := Blk.new w _ _
  have hB1 := below_alloc (Below.refl w.heap.size w) (.cells x.C 25)
  obtain ⟨w1, hw1⟩ : ∃ y, y = w.alloc (.cells x.C 25) := ⟨_, rfl⟩
  rw [← hw1] at hb hB1 ⊢
  clear hw1
  obtain ⟨g, hg⟩ : ∃ y, y = w.heap.size := ⟨_, rfl⟩
  rw [← hg] at hb hB1 h7 ⊢
  replace hg := Lib.hid hg
  have hgl := hb.lt
  have cK : w1.cell? ⟨g, 0, none⟩ = some (.int .i64 x.kind) := hb.cellv rfl
  by_cases hk : kindOk x.kind
  · obtain ⟨k, hk1⟩ : ∃ k : Nat, x.kind = k := ⟨x.kind.toNat, by unfold kindOk at hk; omega⟩
    have hk2 : 1 ≤ k ∧ k ≤ 12 := by unfold kindOk at hk; omega
    obtain ⟨r1, r2⟩ := rows_at k (by omega)
    have q1 := (hS.out.then_ h7 hB1).rows _ _ r1
    have q2 := (hS.out.then_ h7 hB1).rows _ _ r2
    rw [Nat.zero_add] at q1 q2
    have hv : Hid (printL (x.ev ks) = joinW ((textsE (x.ev ks)).map quo) ∧ printE (x.ev ks) = 0) := Lib.hid ⟨by unfold printL; exact if_pos hk, by unfold printE; exact if_pos hk⟩
    have hT : Hid ((textsE (x.ev ks)).map qB = qB (firsts.getD k []) :: (letters.getD k []).flatMap (toldL · (x.ev ks))) := Lib.hid (by
      unfold textsE
      have : (x.ev ks).kind.toNat = k := by show x.kind.toNat = k; omega
      rw [this, List.map_cons, List.map_flatMap]
      rfl)
    have hpl := print_len (x.ev ks) hk ⟨hx.out.ints.1, hx.out.ints.2⟩
    have hPL := Lib.hid hpl
    clear hpl r1 r2
    rw [hk1] at cK
    have f1 : ¬ ((k : Nat) : Int) < 1 := by omega
    have f2 : ¬ (13 : Int) ≤ ((k : Nat) : Int) := by omega
    have f3 : ((k : Nat) : Int) < 13 := by omega
    have f4 : ¬ ((k : Nat) : Int) < 0 := by omega
    clear hk1 hk
    obtain ⟨F, hF⟩ : ∃ F : ByteArray, ⟨(firsts.getD k []).toArray⟩ = F := ⟨_, rfl⟩
    obtain ⟨L, hL⟩ : ∃ L, letters.getD k [] = L := ⟨_, rfl⟩
    obtain ⟨LS, hLS⟩ : ∃ LS : ByteArray, ⟨L.toArray⟩ = LS := ⟨_, rfl⟩
    have hla := letters_ascii k (by omega)
    rw [hL] at q2 hT hla
    unfold strV at q1 q2
    rw [hF] at q1
    rw [hLS] at q2
    have hFq : qB (firsts.getD k []) = F := by unfold qB; rw [quo_pl (firsts_pl k (by omega) (by omega)), hF]
    rw [hFq] at hT
    have hLl : tl LS = L := by rw [← hLS]
    have hLz : LS.size = L.length := by rw [← hLS]; simp [ByteArray.size]
    have q1a : w1.cell? ⟨0, k * 2, none⟩ = some (.string F) := by rw [Nat.mul_comm]; exact q1
    clear q1 hF hLS hFq hL
    have hLS := Lib.hid (And.intro hLl (And.intro hLz hla))
    clear hLl hLz hla
    have hgz : g ≤ w1.heap.size := Nat.le_of_lt hgl
    go_upto_region 4 with (refine wl_bsS rfl _ rfl F rfl ?_)
    have ho1 : Own (w1.alloc (.cells (encQ F) 9)) w1.heap.size 9 1 encQ (.slice (some ⟨w1.heap.size, 0, none⟩) 1 1) [F] := own_one encQ_size (Blk.new _ _ _) (Nat.le_refl _)
    have hB2 := hB1.alloc hgz (.cells (encQ F) 9)
    have hb2 := blk_then hb (below_alloc (Below.refl w1.heap.size w1) (.cells (encQ F) 9))
    have q2a : (w1.alloc (.cells (encQ F) 9)).cell? ⟨0, k * 2 + 1, none⟩ = some (.string LS) := cell_keep (by rw [Nat.mul_comm]; exact q2) (lo := g) (by simp only; omega) ((Below.refl g w1).alloc hgz _)
    have cK2 : (w1.alloc (.cells (encQ F) 9)).cell? ⟨g, 0, none⟩ = some (.int .i64 (k : Nat)) := cell_keep cK (lo := w1.heap.size) hgl (below_alloc (Below.refl w1.heap.size w1) _)
    obtain ⟨b1, hb1⟩ : ∃ y, y = w1.heap.size := ⟨_, rfl⟩
    obtain ⟨w2, hw2⟩ : ∃ y, y = w1.alloc (.cells (encQ F) 9) := ⟨_, rfl⟩
    have hz2 : b1 + 1 = w2.heap.size := by rw [hw2, hb1, World.size_alloc]
    rw [← hw2] at ho1 hB2 hb2 q2a cK2 ⊢
    rw [← hb1] at ho1 hgl ⊢
    replace hz2 := Lib.hid hz2
    clear hw2 hb1 q2 q1a cK hb hB1 hgz
    have hgw2 : g ≤ w2.heap.size := by have := hz2.out; omega
    have hbw2 : b1 ≤ w2.heap.size := by have := hz2.out; omega
    go_wp2_with (fail)
    clear cK2
    obtain ⟨it, hit0⟩ : ∃ y, y = w2.heap.size := ⟨_, rfl⟩
    have hiter : (w2.alloc (.stringIter LS 0)).heap[it]? = some (.stringIter LS 0) := by
      have := World.iter_heap w2 LS 0
      rw [hit0]
      exact this
    have hgi : g < it := by rw [hit0]; have := hz2.out; omega
    rw [← hit0]
    replace hit0 := Lib.hid hit0
    clear q2a
    go_loopw [4] (fun lv wr => ∃ (pos : Nat) (A : Option Addr) (c : Nat) (acc : List ByteArray), lv = .slice A acc.length c ∧ Own wr b1 9 1 encQ (.slice A acc.length c) acc ∧ wr.heap[it]? = some (.stringIter LS pos) ∧ Below g w wr ∧ Blk wr g 25 x.C ∧ pos ≤ L.length ∧ Hid (acc = F :: (L.take pos).flatMap (toldL · (x.ev ks))) ∧ acc.length ≤ 1 + pos * 1048577 ∧ b1 ≤ wr.heap.size) (fun _ wr => L.length - wr.iterPos it)
    case atStart =>
      exact ⟨0, _, 1, [F], rfl, ho1.alloc _, hiter, hB2.alloc hgw2 _, blk_then hb2 (below_alloc (Below.refl w2.heap.size w2) _), by omega, Lib.hid (by simp), by simp, by show b1 ≤ (w2.alloc (.stringIter LS 0)).heap.size; rw [World.size_alloc]; omega⟩
    case round =>
      clear ho1 hiter hB2 hb2 hgw2 hbw2
      obtain ⟨pos, A, c, acc, rfl, ho, hit, hB, hb, hpl, hacc, hal, hbz⟩ := hrel
      obtain ⟨hLl, hLz, hla, hL2⟩ := hLS.out
      have hiw : it < wr.heap.size := (Array.getElem?_eq_some_iff.1 hit).1
      have hip : wr.iterPos it = pos := by simp [World.iterPos, hit]
      by_cases hp : pos < L.length
      · have hpS : pos < LS.size := by rw [hLz]; exact hp
        obtain ⟨b, hbb⟩ : ∃ b, L[pos] = b := ⟨_, rfl⟩
        have hLS2 : LS[pos] = b := by
          rw [← hbb]
          have : LS[pos] = (tl LS)[pos]'(by rw [hLl]; exact hp) := rfl
          rw [this]
          simp [hLl]
        have hba : b.toNat < 128 := hla b (by rw [← hbb]; exact List.getElem_mem _)
        have hnx : ∀ ty, (Instr.next (.pointer (some ⟨it, 0, none⟩)) true ty).run Tryz.prog wr = .ok (.tuple #[.bool true, .int .i64 pos, .int .i32 (b.toNat : Nat)]) (wr.iterAt it LS (pos + 1)) := fun ty => by
          have h9 := Lib.run_next_ascii_at (P := Tryz.prog) wr it LS pos ty hit hpS (by rw [hLS2]; exact hba)
          rw [hLS2] at h9
          exact h9
        have ho3 := own_iterAt ho hit (pos + 1)
        have hit3 := Lib.iterAt_heap wr it LS pos (pos + 1) hit
        have hB3 := Lib.below_iterAt hB (k := it) (by omega) LS (pos + 1)
        have hb3 : Blk (wr.iterAt it LS (pos + 1)) g 25 x.C := (Lib.iterAt_other wr it g LS (pos + 1) (by omega)).trans hb
        have hz3 : (wr.iterAt it LS (pos + 1)).heap.size = wr.heap.size := Lib.iterAt_size _ _ _ _
        obtain ⟨w3, hw3⟩ : ∃ y, y = wr.iterAt it LS (pos + 1) := ⟨_, rfl⟩
        rw [← hw3] at hnx ho3 hit3 hB3 hb3 hz3
        replace hz3 := Lib.hid hz3
        have hi3 : it < w3.heap.size := by rw [hz3.out]; exact hiw
        have hb3z : b1 ≤ w3.heap.size := by rw [hz3.out]; exact hbz
        clear hw3
        have kT := told_any b (b.toNat : Int) rfl x ks w3 (hx.out.then_ (by rw [← hg.out]; exact hB3)) (hS.out.then_ h7 hB3)
        obtain ⟨ys, hys⟩ : ∃ ys, toldL b (x.ev ks) = ys := ⟨_, rfl⟩
        have hyl : ys.length ≤ 1048577 := by
          rw [← hys]
          have h9 := toldL_len b (x.ev ks)
          have h8 := hx.out.few
          have h7 := hx.out.len
          have h6 : (x.ev ks).keep = ks := rfl
          rw [h6] at h9
          omega
        rw [hys] at kT
        have hac2 : Hid (acc ++ ys = F :: (L.take (pos + 1)).flatMap (toldL · (x.ev ks))) := Lib.hid (by
          rw [hacc.out, List.take_add_one, List.getElem?_eq_getElem hp, hbb, ← hys]
          simp)
        clear hys hbb hLl hLz hla hLS2 hba hacc hpS ho hit hb hB
        go_wp2_with (first
          | (refine wpList_load_row rfl _ _ rfl g rfl _ _ _ _ hb3 Tryz.underlying25 rfl (info_ev.trans rfl) ?_)
          | (go_at_call 24; refine kT.mono ?_; clear kT; rintro e w4 ⟨⟨A', c', rfl, hsl⟩, hB4⟩)
          | (refine wl_appS rfl _ _ rfl b1 acc ys rfl rfl rfl hsl (ho3.then_ hB4) rfl (by omega) (Nat.le_trans hb3z hB4.size) ?_; intro A8 c8 w8 ho8 hg8))
        have hrow : ∀ j, (Value.slice A acc.length c).ownBlock = some j → b1 ≤ j := fun j e => (ho3.lt j e).1
        have ho4 := ho3.then_ hB4
        have hit4 : w4.heap[it]? = some (.stringIter LS (pos + 1)) := (hB4.block it hi3).trans hit3
        have hit8 := iter_grown ho4 hit4 hg8
        have hB48 : Below b1 w4 w8 := (Below.refl b1 w4).grown hg8 (Nat.le_trans hb3z hB4.size) hrow
        have hb8 := blk_then' (blk_then hb3 hB4) hB48 hgl
        have hB8 : Below g w w8 := (hB3.trans (hB4.mono (by omega))).trans (hB48.mono (by omega))
        have e9 : (acc ++ ys).length = acc.length + ys.length := List.length_append
        have hip8 : w8.iterPos it = pos + 1 := by simp [World.iterPos, hit8]
        refine ⟨⟨pos + 1, A8, c8, acc ++ ys, by rw [e9], by rw [e9]; exact ho8, hit8, hB8, hb8, by omega, hac2, by rw [e9]; omega, Nat.le_trans hb3z (Nat.le_trans hB4.size hB48.size)⟩, ?_⟩
        rw [hip8, hip]
        omega
      · have hpS : ¬ pos < LS.size := by rw [hLz]; exact hp
        have hnx : ∀ ty, (Instr.next (.pointer (some ⟨it, 0, none⟩)) true ty).run Tryz.prog wr = .ok (.tuple #[.bool false]) wr := fun ty => Lib.run_next_end_at (P := Tryz.prog) wr it LS pos ty hit hpS
        have hfin : acc = (textsE (x.ev ks)).map qB := by rw [hacc.out, hT.out, List.take_of_length_le (by omega)]
        have hmap : acc.map tl = (textsE (x.ev ks)).map quo := by
          rw [hfin, List.map_map]
          exact List.map_congr_left fun l _ => tl_qB l
        have hne : acc ≠ [] := by rw [hacc.out]; simp
        have hbound : (joinW (acc.map tl)).length ≤ 1099511627776 := by
          rw [hmap]
          have h1 := hPL.out
          have h2 := hx.out.n1
          have h3 := hx.out.n2
          have h4 := hx.out.n3
          have h5 := hx.out.few
          have h6 := hx.out.len
          have e1 : (x.ev ks).name.length = x.name.size := by show x.name.data.toList.length = _; simp
          have e2 : (x.ev ks).other.length = x.other.size := by show x.other.data.toList.length = _; simp
          have e3 : (x.ev ks).data.length = x.data.size := by show x.data.data.toList.length = _; simp
          have e4 : (x.ev ks).keep = ks := rfl
          rw [e1, e2, e3, e4] at h1
          omega
        have kJ := join_any acc hne A c b1 wr ho (by omega) hbound
        rw [hmap] at kJ
        clear hfin hmap hne hbound hacc hLl hLz hla hip ho hit hb hpl
        go_wp2_with (go_at_call 25; refine kJ.mono ?_; clear kJ; rintro e w9 ⟨rfl, hB9⟩)
        go_ret2
        rw [hv.out.1, hv.out.2]
        exact ⟨rfl, by rw [← hg.out]; exact hB.trans (hB9.mono (by omega))⟩
  · have hv : Hid (printL (x.ev ks) = [] ∧ printE (x.ev ks) = 260) := Lib.hid ⟨by unfold printL; exact if_neg hk, by unfold printE; exact if_neg hk⟩
    by_cases h1 : x.kind < 1
    · clear hk
      go_wp2_with (fail)
      go_ret2
      rw [hv.out.1, hv.out.2]
      exact ⟨rfl, by rw [← hg.out]; exact hB1⟩
    · have h2 : 13 ≤ x.kind := by unfold kindOk at hk; omega
      clear hk
      go_wp2_with (fail)
      go_ret2
      rw [hv.out.1, hv.out.2]
      exact ⟨rfl, by rw [← hg.out]; exact hB1⟩
end Go.Proofs.YtjplgcmfifoefaaGreatDoor
namespace Go.Proofs.YtjplgcmfifoefaaGreatDoor
open Go.RowKit Go.Maps
set_option linter.unusedVariables false
set_option linter.unusedSimpArgs false
attribute [local go_sem] Oper.semAt_some

/-- a mark's numbers -/
structure MkV where
  serial : Int
  inode : Int
  gen : Int
  off : Int
  missed : Int
  gone : Int
  cuts : Int
  tails : Int
  long : Int
deriving DecidableEq
def MkV.C (m : MkV) : Array Value := #[.int .i64 m.serial, .int .i64 m.inode, .int .i64 m.gen, .int .i64 m.off, .int .i64 m.missed, .int .i64 m.gone, .int .i64 m.cuts, .int .i64 m.tails, .int .i64 m.long]
def MkV.ok (m : MkV) : Prop := i64z m.serial ∧ i64z m.inode ∧ i64z m.gen ∧ i64z m.off ∧ i64z m.missed ∧ i64z m.gone ∧ i64z m.cuts ∧ i64z m.tails ∧ i64z m.long
structure AlV where
  path : Int
  mark : MkV
  text : ByteArray
  rules : Nat
def AlV.C (a : AlV) : Array Value := #[.int .i64 a.path, .int .i64 a.mark.serial, .int .i64 a.mark.inode, .int .i64 a.mark.gen, .int .i64 a.mark.off, .int .i64 a.mark.missed, .int .i64 a.mark.gone, .int .i64 a.mark.cuts, .int .i64 a.mark.tails, .int .i64 a.mark.long, .string a.text, .int .u32 (a.rules : Int)]
structure AlOk (a : AlV) : Prop where
  path : i64z a.path
  mark : a.mark.ok
  text : a.text.size ≤ 1048576
  rules : a.rules < 4294967296
/-- the texts that an alert tells -/
def textsA (first : Bs) (a : AlV) (ms : List Int) : List Bs := first :: ([a.path, a.mark.serial, a.mark.inode, a.mark.gen, a.mark.off] ++ ms ++ [(a.rules : Int)]).map Lib.itoa ++ [tl a.text]
theorem field_al_2 (b : Nat) (w : World) : (Instr.fieldAt 40 (.pointer (some ⟨b, 0, none⟩)) 2).run Tryz.prog w = .ok (.pointer (some ⟨b, 10, none⟩)) w := by kernel_rfl
theorem field_al_3 (b : Nat) (w : World) : (Instr.fieldAt 40 (.pointer (some ⟨b, 0, none⟩)) 3).run Tryz.prog w = .ok (.pointer (some ⟨b, 11, none⟩)) w := by kernel_rfl
theorem info_mk : (Tryz.prog.info? 37).map (·.size) = some 9 := by kernel_rfl
theorem run_bsZ5 (w : World) (a b c d e : Int) : (Instr.buildSlice 23 5 #[(0, .int .i64 a), (1, .int .i64 b), (2, .int .i64 c), (3, .int .i64 d), (4, .int .i64 e)]).run Tryz.prog w = .ok (.slice (some ⟨w.heap.size, 0, none⟩) 5 5) (w.alloc (.cells #[.int .i64 a, .int .i64 b, .int .i64 c, .int .i64 d, .int .i64 e] 3)) := by kernel_rfl
theorem run_bsS2 (w : World) (p q : ByteArray) : (Instr.buildSlice 46 2 #[(0, .string p), (1, .string q)]).run Tryz.prog w = .ok (.slice (some ⟨w.heap.size, 0, none⟩) 2 2) (w.alloc (.cells #[.string p, .string q] 9)) := by kernel_rfl
theorem wl_bsZ5 {ops : Array Oper} {rest : List Oper} {o : Oper} {a : Act} {w : World} {Q : Exit → Act → World → Prop} (hgd : o.guard = none) (x1 x2 x3 x4 x5 : Operand) (ho : o.op = .buildSlice 23 5 #[(0, x1), (1, x2), (2, x3), (3, x4), (4, x5)]) (y1 y2 y3 y4 y5 : Int)
    (h1 : a.eval x1 = .int .i64 y1) (h2 : a.eval x2 = .int .i64 y2) (h3 : a.eval x3 = .int .i64 y3) (h4 : a.eval x4 = .int .i64 y4) (h5 : a.eval x5 = .int .i64 y5)
    (h : wpList Tryz.prog ops Q rest (a.put o.dst (.slice (some ⟨w.heap.size, 0, none⟩) 5 5)) (w.alloc (.cells #[.int .i64 y1, .int .i64 y2, .int .i64 y3, .int .i64 y4, .int .i64 y5] 3))) : wpList Tryz.prog ops Q (o :: rest) a w :=
  wpList_plain hgd fun _ hK => by
    unfold Oper.wp execOp
    simp only [ho, List.map_toArray, List.map_cons, List.map_nil, h1, h2, h3, h4, h5, Sem.run_bind, run_bsZ5, Result.andThen_ok, Sem.run_pure]
    exact hK _ _ h
theorem wl_store_mk {ops : Array Oper} {rest : List Oper} {o : Oper} {a : Act} {w : World} {Q : Exit → Act → World → Prop} (hgd : o.guard = none) (x y : Operand) (ho : o.op = .store 37 x y)
    (g : Nat) (m m0 : MkV) (hx : a.eval x = .pointer (some ⟨g, 0, none⟩)) (hy : a.eval y = .agg m.C) (hb : Blk w g 37 m0.C)
    (h : ∀ w', Blk w' g 37 m.C → w.grownBy w' (some g) → wpList Tryz.prog ops Q rest (a.put o.dst undef) w') : wpList Tryz.prog ops Q (o :: rest) a w :=
  wpList_store_row hgd _ x y ho g _ hx hy _ _ hb (info_mk.trans rfl) rfl (by simp [MkV.C, Value.oneCell']) (h _ (hb.setRow_same _) (only_setRow (only_refl _ _) _))
/-- what the steps of the drawn region show -/
def slS (t : TypeId) (cs : Array Value) (n : Nat) : GSpec := ⟨fun v w => ∃ g, v = .slice (some ⟨g, 0, none⟩) n n ∧ Blk w g t cs, fun v w w' ⟨g, h1, h2⟩ hb => ⟨g, h1, blk_then h2 hb⟩⟩
def strsS (ps : List ByteArray) : GSpec := ⟨fun v w => ∃ A c, v = .slice A ps.length c ∧ SliceOf w w.heap.size 1 encQ A ps, fun v w w' ⟨A, c, h1, h2⟩ hb => ⟨A, c, h1, SliceOf.then_' h2 hb⟩⟩
def ptrS (val : Value) : GSpec := ⟨fun v w => ∃ b off, v = .pointer (some ⟨b, off, none⟩) ∧ b < w.heap.size ∧ w.cell? ⟨b, off, none⟩ = some val, fun v w w' ⟨b, off, h1, h2, h3⟩ hb => ⟨b, off, h1, Nat.lt_of_lt_of_le h2 hb.size, (hb.cell h2).trans h3⟩⟩
theorem slice_two {w : World} {g : Nat} {p q : ByteArray} (h : Blk w g 9 #[.string p, .string q]) : SliceOf w w.heap.size 1 encQ (some ⟨g, 0, none⟩) [p, q] := by
  have ho : Own w 0 9 1 encQ (.slice (some ⟨g, 0, none⟩) 2 2) [p, q] := own_made encQ_size h rfl rfl (Nat.zero_le _) (by unfold maxLen; decide)
  exact ho.slice_all encQ_size
theorem slice_five {w : World} {g : Nat} {a b c d e : Int} (h : Blk w g 3 #[.int .i64 a, .int .i64 b, .int .i64 c, .int .i64 d, .int .i64 e]) : SliceOf w w.heap.size 1 encZ (some ⟨g, 0, none⟩) [a, b, c, d, e] := by
  have ho : Own w 0 3 1 encZ (.slice (some ⟨g, 0, none⟩) 5 5) [a, b, c, d, e] := own_made encZ_size h rfl rfl (Nat.zero_le _) (by unfold maxLen; decide)
  exact ho.slice_all encZ_size
theorem lines_len : ∀ ts : List Bs, ∀ M, (∀ t ∈ ts, (quo t).length ≤ M) → (lineW (ts.map quo)).length ≤ ts.length * (M + 1)
  | [], M, _ => by simp [lineW]
  | t :: ts, M, h => by
    have h1 := h t (by simp)
    have h2 := lines_len ts M fun y hy => h y (by simp [hy])
    simp only [List.map_cons, lineW, List.length_cons, List.length_append, Nat.add_mul, Nat.one_mul] at h2 ⊢
    omega
theorem wl_conv32 {x : Int} (h0 : 0 ≤ x) (h1 : x < 4294967296) (w : World) : (convert 38 3 (.int .u32 x)).run Tryz.prog w = .ok (.int .i64 x) w := by
  have e : (convert 38 3 (.int .u32 x)).run Tryz.prog w = .ok (.int .i64 (IntKind.i64.wrap x)) w := by kernel_rfl
  have e2 : IntKind.i64.wrap x = x := by rw [IntKind.wrap_i64]; omega
  rw [e2] at e
  exact e
theorem under_strs : Tryz.prog.underlying 46 = some (.slice (Tryz.prog.elem 46)) := by kernel_rfl
theorem size_strE (w : World) : (sizeOf (Tryz.prog.elem 46)).run Tryz.prog w = .ok 1 w := by kernel_rfl
section
variable {ops : Array Oper} {S : Nat → GSpec} {Q : Exit → Act → World → Prop} {i : Nat} {o : Oper} {a : Act} {w : World}
theorem gs_conv32 (hw : Region.wanted o (yielded ops a.tmps) = true) (x : Operand) (ho : o.op = .convert 38 3 x) (n : Int) (h0 : 0 ≤ n) (h1 : n < 4294967296) (hx : a.eval x = .int .u32 n) (hp : (S i).p (.int .i64 n) w) : GStep Tryz.prog ops S Q i o a w :=
  gs_run hw (v := .int .i64 n) (w' := w) (by unfold execOp; simp only [ho, hx, Sem.run_bind, wl_conv32 h0 h1, Result.andThen_ok, Sem.run_pure]) (Below.refl _ _) hp
theorem gs_bsZ1 (hw : Region.wanted o (yielded ops a.tmps) = true) (x : Operand) (ho : o.op = .buildSlice 23 1 #[(0, x)]) (y : Int) (hx : a.eval x = .int .i64 y) (hp : (S i).p (.slice (some ⟨w.heap.size, 0, none⟩) 1 1) (w.alloc (.cells (encZ y) 3))) : GStep Tryz.prog ops S Q i o a w :=
  gs_run hw (v := .slice (some ⟨w.heap.size, 0, none⟩) 1 1) (w' := w.alloc (.cells (encZ y) 3)) (by unfold execOp; simp only [ho, List.map_toArray, List.map_cons, List.map_nil, hx, Sem.run_bind, run_bsZ1, Result.andThen_ok, Sem.run_pure]; rfl) (below_alloc (Below.refl w.heap.size w) _) hp
theorem gs_bsS2 (hw : Region.wanted o (yielded ops a.tmps) = true) (x y : Operand) (ho : o.op = .buildSlice 46 2 #[(0, x), (1, y)]) (p q : ByteArray) (hx : a.eval x = .string p) (hy : a.eval y = .string q) (hp : (S i).p (.slice (some ⟨w.heap.size, 0, none⟩) 2 2) (w.alloc (.cells #[.string p, .string q] 9))) : GStep Tryz.prog ops S Q i o a w :=
  gs_run hw (v := .slice (some ⟨w.heap.size, 0, none⟩) 2 2) (w' := w.alloc (.cells #[.string p, .string q] 9)) (by unfold execOp; simp only [ho, List.map_toArray, List.map_cons, List.map_nil, hx, hy, Sem.run_bind, run_bsS2, Result.andThen_ok, Sem.run_pure]) (below_alloc (Below.refl w.heap.size w) _) hp
end
set_option maxRecDepth 100000 in
set_option maxHeartbeats 8000000 in
theorem alert_any (f : ByteArray) (hf : quo (tl f) = tl f) (hfs : f.size ≤ 100) (al : AlV) (hal : AlOk al) (A : Option Addr) (n c : Nat) (ms : List Int) (hn : n = ms.length) (hn2 : n ≤ 10) (hms : ∀ z ∈ ms, i64z z) (w : World) (hsm : SliceOf w w.heap.size 1 encZ A ms) (hS : SOk w) :
    Calls Tryz.prog 26 #[.string f, .agg al.C, .slice A n c] w fun e w' => e = .returned (strV (joinW ((textsA (tl f) al ms).map quo))) ∧ Below w.heap.size w w' := by
  have h7 := hS.size
  replace hS := Lib.hid hS
  replace hn := Lib.hid hn
  go_enter Tryz.func26, Tryz.ntmps26
  go_upto_region 1 with (fail)
  have hb : Blk (w.alloc (.cells al.C 40)) w.heap.size 40 al.C := Blk.new w _ _
  have hB1 := below_alloc (Below.refl w.heap.size w) (.cells al.C 40)
  obtain ⟨w1, hw1⟩ : ∃ y, y = w.alloc (.cells al.C 40) := ⟨_, rfl⟩
  rw [← hw1] at hb hB1 ⊢
  clear hw1
  obtain ⟨g, hg⟩ : ∃ y, y = w.heap.size := ⟨_, rfl⟩
  have hsm1 := SliceOf.then_' hsm hB1
  rw [← hg] at hb hB1 h7 ⊢
  replace hg := Lib.hid hg
  have hgl := hb.lt
  clear hsm
  have hrow : RowAt w1 g 1 al.mark.C := fun j v hj => by
    have h9 : al.C[1 + j]? = some v := by
      have : ∀ j v, al.mark.C[j]? = some v → al.C[1 + j]? = some v := by
        intro j v h
        match j, h with
        | 0, h => exact h
        | 1, h => exact h
        | 2, h => exact h
        | 3, h => exact h
        | 4, h => exact h
        | 5, h => exact h
        | 6, h => exact h
        | 7, h => exact h
        | 8, h => exact h
        | j + 9, h => simp [MkV.C] at h
      exact this j v hj
    exact hb.cellv h9
  have hz := Blk.new w1 37 (MkV.C ⟨0, 0, 0, 0, 0, 0, 0, 0, 0⟩)
  go_upto_region 2 with (first
    | (refine wpList_load_at rfl _ _ rfl g 1 rfl _ _ hrow Tryz.underlying37 rfl (info_mk.trans rfl) ?_)
    | (refine wl_store_mk rfl _ _ rfl w1.heap.size al.mark _ rfl rfl hz ?_; intro w2 hm hg2))
  have hB12 := below_grown (below_alloc (Below.refl w1.heap.size w1) _) hg2 (Nat.le_refl _)
  obtain ⟨gm, hgm⟩ : ∃ y, y = w1.heap.size := ⟨_, rfl⟩
  rw [← hgm] at hm ⊢
  replace hgm := Lib.hid hgm
  have hB2 := hB1.trans (hB12.mono (Nat.le_of_lt hgl))
  have hb2 := blk_then hb hB12
  have hsm2 := SliceOf.then_' hsm1 hB12
  have hgml := hm.lt
  have hgl2 := hb2.lt
  clear hg2 hz hrow hb hsm1 hB1 hB12
  obtain ⟨w3, hw3⟩ : ∃ y, y = w2.alloc (.cells (encQ f) 9) := ⟨_, rfl⟩
  have hB23 : Below w2.heap.size w2 w3 := by rw [hw3]; exact below_alloc (Below.refl w2.heap.size w2) _
  have hz3 : w3.heap.size = w2.heap.size + 1 := by rw [hw3, World.size_alloc]
  have ho3 : Own w3 w2.heap.size 9 1 encQ (.slice (some ⟨w2.heap.size, 0, none⟩) 1 1) [f] := by rw [hw3]; exact own_one encQ_size (Blk.new _ _ _) (Nat.le_refl _)
  replace hw3 := Lib.hid hw3
  have hb3 := blk_then hb2 hB23
  have hm3 := blk_then hm hB23
  have hsm3 := SliceOf.then_' hsm2 hB23
  have cP : w3.cell? ⟨g, 0, none⟩ = some (.int .i64 al.path) := hb3.cellv rfl
  have cM0 : w3.cell? ⟨gm, 0, none⟩ = some (.int .i64 al.mark.serial) := hm3.cellv rfl
  have cM1 : w3.cell? ⟨gm, 1, none⟩ = some (.int .i64 al.mark.inode) := hm3.cellv rfl
  have cM2 : w3.cell? ⟨gm, 2, none⟩ = some (.int .i64 al.mark.gen) := hm3.cellv rfl
  have cM3 : w3.cell? ⟨gm, 3, none⟩ = some (.int .i64 al.mark.off) := hm3.cellv rfl
  obtain ⟨b1, hb1⟩ : ∃ y, y = w2.heap.size := ⟨_, rfl⟩
  rw [← hb1] at ho3
  have hg1 : g < b1 := by rw [hb1]; exact hgl2
  have hm1 : gm < b1 := by rw [hb1]; exact hgml
  have hgw2 : g ≤ w2.heap.size := Nat.le_of_lt hgl2
  have hb1z : b1 ≤ w3.heap.size := by rw [hb1]; exact hB23.size
  have hB3 := hB2.trans (hB23.mono hgw2)
  have hS3 := hS.out.then_ h7 hB3
  have kN : ∀ W, Below w3.heap.size w3 W → SliceOf W W.heap.size 1 encZ (some ⟨w3.heap.size, 0, none⟩) [al.path, al.mark.serial, al.mark.inode, al.mark.gen, al.mark.off] → Calls Tryz.prog 27 #[.slice (some ⟨w3.heap.size, 0, none⟩) 5 5] W fun e w' => (∃ A' c', e = .returned (.slice A' 5 c') ∧ Own w' W.heap.size 9 1 encQ (.slice A' 5 c') ([al.path, al.mark.serial, al.mark.inode, al.mark.gen, al.mark.off].map itoaB)) ∧ Below W.heap.size W w' := fun W hW hsl =>
    numbers_any _ 5 5 [al.path, al.mark.serial, al.mark.inode, al.mark.gen, al.mark.off] rfl (by decide) (by
      intro y hy
      obtain ⟨m1, m2, m3, m4, _⟩ := hal.mark
      simp only [List.mem_cons, List.not_mem_nil, or_false] at hy
      rcases hy with rfl | rfl | rfl | rfl | rfl
      · exact hal.path
      · exact m1
      · exact m2
      · exact m3
      · exact m4) W hsl (hS3.then_ h7 (hW.mono (by omega)))
  have hsmB : SliceOf w3 b1 1 encZ A ms := by rw [hb1]; exact hsm2.below hB23
  replace hb1 := Lib.hid hb1
  replace hz3 := Lib.hid hz3
  clear hB23 hb2 hsm2 hm hB2
  go_upto_region 3 with (first
    | (refine wl_bsS rfl _ rfl f rfl ?_; rw [← hb1.out, ← hw3.out])
    | (refine wl_bsZ5 rfl _ _ _ _ _ rfl al.path al.mark.serial al.mark.inode al.mark.gen al.mark.off rfl rfl rfl rfl rfl ?_)
    | (go_at_call 27; refine (kN _ ((Below.refl w3.heap.size w3).alloc (Nat.le_refl _) _) (slice_five (Blk.new _ _ _))).mono ?_; clear kN; rintro e w4 ⟨⟨A4, c4, rfl, ho4⟩, hB4⟩)
    | (refine wl_appS rfl _ _ rfl b1 [f] ([al.path, al.mark.serial, al.mark.inode, al.mark.gen, al.mark.off].map itoaB) rfl rfl rfl (ho4.slice_all encQ_size) ((ho3.alloc _).then_ hB4) rfl (by simp) (by have := hB4.size; rw [World.size_alloc] at this; omega) ?_; intro A5 c5 w5 ho5 hg5))
  have hz4 : b1 ≤ w4.heap.size := by have := hB4.size; rw [World.size_alloc] at this; omega
  have hB34 : Below b1 w3 w4 := ((Below.refl b1 w3).alloc hb1z _).trans (hB4.mono (by rw [World.size_alloc]; omega))
  have hB35 : Below b1 w3 w5 := hB34.trans ((Below.refl b1 w4).grown hg5 hz4 (fun k e => (((ho3.alloc _).then_ hB4).lt k e).1))
  have hb5 := blk_then' hb3 hB35 hg1
  have hsm5 := (hsmB.below hB35).more (show b1 ≤ w5.heap.size from Nat.le_trans hb1z hB35.size)
  have hB5 := hB3.trans (hB35.mono (by omega))
  have hz5 : b1 ≤ w5.heap.size := Nat.le_trans hb1z hB35.size
  have kM := numbers_any A n c ms hn.out (by omega) hms w5 hsm5 (hS.out.then_ h7 hB5)
  obtain ⟨P1, hP1⟩ : ∃ P, [f] ++ [al.path, al.mark.serial, al.mark.inode, al.mark.gen, al.mark.off].map itoaB = P := ⟨_, rfl⟩
  rw [hP1] at ho5
  have hP1l : P1.length = 6 := by rw [← hP1]; rfl
  replace ho5 : Own w5 b1 9 1 encQ (.slice A5 6 c5) P1 := ho5
  replace hP1 := Lib.hid hP1
  replace hP1l := Lib.hid hP1l
  have hml : Hid ((ms.map itoaB).length = n) := Lib.hid (by rw [List.length_map, hn.out])
  have hnn : Hid (ms.length = n) := Lib.hid hn.out.symm
  rw [hnn.out] at kM
  clear hg5 ho4 hB4 hB34 hB35 hb3 hm3 hsmB ho3 hB3 cP cM0 cM1 cM2 cM3 hsm3 hz4 hS3
  go_upto_region 4 with (first
    | (go_at_call 27; refine kM.mono ?_; clear kM; rintro e w6 ⟨⟨A6, c6, rfl, ho6⟩, hB6⟩)
    | (refine wl_appS rfl _ _ rfl b1 P1 (ms.map itoaB) rfl rfl hml.out.symm (ho6.slice_all encQ_size) (ho5.then_ hB6) hP1l.out.symm (by rw [hP1l.out, hml.out]; omega) (Nat.le_trans hz5 hB6.size) ?_; intro A7 c7 w7 ho7 hg7))
  have hB67 : Below b1 w6 w7 := (Below.refl b1 w6).grown hg7 (Nat.le_trans hz5 hB6.size) (fun k e => ((ho5.then_ hB6).lt k e).1)
  have hb7 := blk_then' (blk_then hb5 hB6) hB67 hg1
  have hB7 := (hB5.trans (hB6.mono (by omega))).trans (hB67.mono (by omega))
  have hz7 : b1 ≤ w7.heap.size := Nat.le_trans hz5 (Nat.le_trans hB6.size hB67.size)
  have hS7 := hS.out.then_ h7 hB7
  obtain ⟨P2, hP2⟩ : ∃ P, P1 ++ ms.map itoaB = P := ⟨_, rfl⟩
  rw [hP2] at ho7
  have hP2l : Hid (P2.length = 6 + n) := Lib.hid (by rw [← hP2, List.length_append, hP1l.out, hml.out])
  replace hP2 := Lib.hid hP2
  clear hg7 ho6 hB6 hB67 hb5 hsm5 hB5 ho5
  refine wp_region_steps 12 [eqS (.slice A7 (6 + n) c7), eqS (.pointer (some ⟨g, 11, none⟩)), eqS (.int .u32 (al.rules : Int)), eqS (.int .i64 (al.rules : Int)), slS 3 (encZ (al.rules : Int)) 1, strsS [itoaB (al.rules : Int)], ptrS (.string (itoaB (al.rules : Int))), eqS (.string (itoaB (al.rules : Int))), eqS (.pointer (some ⟨g, 10, none⟩)), eqS (.string al.text), eqS (.string (qB (tl al.text))), slS 9 #[.string (itoaB (al.rules : Int)), .string (qB (tl al.text))] 2] [30, 31, 32, 33, 34, 35, 36, 37, 38, 39, 40, 41] follows_mixed (by kernel_rfl) (by kernel_rfl) ?_ ?_
  · skip
    refine Steps.cons (fun a' w' hG hB dep => gs_move (want_none rfl) _ rfl (hG.other 8 rfl)) ?_
    refine Steps.cons (fun a' w' hG hB dep => gs_field (want_none rfl) _ _ _ rfl g 0 11 (hG.other 4 rfl) (fun wz => field_al_3 g wz) rfl) ?_
    refine Steps.cons (fun a' w' hG hB dep => gs_load1 (want_none rfl) _ _ rfl g 11 (dep 1 rfl 31 rfl) (.int .u32 (al.rules : Int)) ((blk_then hb7 hB).cellv rfl) _ Tryz.underlying38 rfl rfl) ?_
    refine Steps.cons (fun a' w' hG hB dep => gs_conv32 (want_none rfl) _ rfl (al.rules : Int) (by omega) (by have := hal.rules; omega) (dep 2 rfl 32 rfl) rfl) ?_
    refine Steps.cons (fun a' w' hG hB dep => gs_bsZ1 (want_none rfl) _ rfl (al.rules : Int) (dep 3 rfl 33 rfl) ⟨_, rfl, Blk.new _ _ _⟩) ?_
    refine Steps.cons (fun a' w' hG hB dep => by
      obtain ⟨g', hv, hk⟩ := dep 4 rfl 34 rfl
      exact gs_call (want_none rfl) _ _ _ rfl enter_numbers _ (map1 hv) ((numbers_any _ 1 1 [(al.rules : Int)] rfl (by decide) (fun z hz => by
        obtain rfl : z = (al.rules : Int) := by simpa using hz
        have := hal.rules
        unfold i64z
        omega) w' (slice_one (enc := encZ) hk) (hS7.then_ h7 (hB.mono (by omega)))).mono fun e w2 ⟨⟨A', c', h1, h2⟩, h3⟩ => ⟨_, h1, h3, A', c', rfl, h2.slice_all encQ_size⟩)) ?_
    refine Steps.cons (fun a' w' hG hB dep => by
      obtain ⟨A', c', hv, hsl⟩ := dep 5 rfl 35 rfl
      obtain ⟨b, off, rfl, hb, hrow⟩ := hsl.at_ (by simp)
      exact gs_index (want_none rfl) _ _ _ rfl under_strs 1 size_strE b off 1 c' 0 hv rfl (by omega) ⟨b, off + 0 * 1, rfl, hb, hrow 0 (by simp) 0 _ rfl⟩) ?_
    refine Steps.cons (fun a' w' hG hB dep => by
      obtain ⟨b, off, hv, hb, hc⟩ := dep 6 rfl 36 rfl
      exact gs_load1 (want_none rfl) _ _ rfl b off hv (.string (itoaB (al.rules : Int))) hc _ Tryz.underlying9 rfl rfl) ?_
    refine Steps.cons (fun a' w' hG hB dep => gs_field (want_none rfl) _ _ _ rfl g 0 10 (hG.other 4 rfl) (fun wz => field_al_2 g wz) rfl) ?_
    refine Steps.cons (fun a' w' hG hB dep => gs_load1 (want_none rfl) _ _ rfl g 10 (dep 8 rfl 38 rfl) (.string al.text) ((blk_then hb7 hB).cellv rfl) _ Tryz.underlying9 rfl rfl) ?_
    refine Steps.cons (fun a' w' hG hB dep => gs_call (want_none rfl) _ _ _ rfl enter_quote _ (map1 (dep 9 rfl 39 rfl)) ((quote_any al.text (by have := hal.text; omega) w' (hS7.then_ h7 (hB.mono (by omega)))).mono fun e w2 ⟨h1, h2⟩ => ⟨_, h1, h2, rfl⟩)) ?_
    refine Steps.cons (fun a' w' hG hB dep => gs_bsS2 (want_none rfl) _ _ rfl (itoaB (al.rules : Int)) (qB (tl al.text)) (dep 7 rfl 37 rfl) (dep 10 rfl 40 rfl) ⟨_, rfl, Blk.new _ _ _⟩) ?_
    exact Steps.nil
  intro u w8 hw8 ans
  have hu30 : u 30 = .slice A7 (6 + n) c7 := ans 0 30 (by decide) rfl
  obtain ⟨g9, hu41, hb9⟩ := ans 11 41 (by decide) rfl
  clear ans
  simp only [putAll, List.foldl_cons, List.foldl_nil, Act.put, List.setIfInBounds_toArray, List.set_cons_zero, List.set_cons_succ, hu30, hu41]
  clear hu30 hu41
  simp only [List.drop]
  have hwords : Hid ((P2 ++ [itoaB (al.rules : Int), qB (tl al.text)]).map tl = (textsA (tl f) al ms).map quo) := Lib.hid (by
    rw [← hP2.out, ← hP1.out]
    unfold textsA
    simp only [List.map_append, List.map_cons, List.map_nil, List.cons_append, List.nil_append, tl_itoa, tl_qB, quo_itoa, hf, List.append_assoc, List.map_map]
    congr 7
    congr 1
    funext z
    show tl (itoaB z) = quo (Lib.itoa z)
    rw [tl_itoa, quo_itoa])
  have hlen9 : Hid ((P2 ++ [itoaB (al.rules : Int), qB (tl al.text)]).length = 6 + n + 2) := Lib.hid (by rw [List.length_append, hP2l.out]; rfl)
  have hjl : Hid ((joinW ((P2 ++ [itoaB (al.rules : Int), qB (tl al.text)]).map tl)).length ≤ 1099511627776) := Lib.hid (by
    rw [hwords.out]
    have h1 := lines_len (textsA (tl f) al ms) 4194306 (fun t ht => by
      have h2 := quo_len t
      unfold textsA at ht
      rcases List.mem_append.1 ht with ht | ht
      · rcases List.mem_cons.1 ht with rfl | ht
        · have : (tl f).length = f.size := by simp [tl]
          omega
        · obtain ⟨z, hz, rfl⟩ := List.mem_map.1 ht
          have hzi : i64z z := by
            obtain ⟨m1, m2, m3, m4, _⟩ := hal.mark
            simp only [List.mem_append, List.mem_cons, List.not_mem_nil, or_false] at hz
            rcases hz with (hz | hz) | hz
            · rcases hz with rfl | rfl | rfl | rfl | rfl
              · exact hal.path
              · exact m1
              · exact m2
              · exact m3
              · exact m4
            · exact hms z hz
            · have := hal.rules
              unfold i64z
              omega
          have := Lib.itoa_length_le z hzi.1 hzi.2
          omega
      · obtain rfl : t = tl al.text := by simpa using ht
        have h3 : (tl al.text).length = al.text.size := by simp [tl]
        have h4 := hal.text
        omega)
    have h3 : (textsA (tl f) al ms).length ≤ 20 := by
      unfold textsA
      have := hn.out
      simp only [List.length_append, List.length_cons, List.length_map, List.length_nil]
      omega
    have h4 : (joinW ((textsA (tl f) al ms).map quo)).length ≤ (lineW ((textsA (tl f) al ms).map quo)).length := by
      unfold joinW
      rw [List.length_drop]
      omega
    have h5 : (textsA (tl f) al ms).length * (4194306 + 1) ≤ 20 * 4194307 := Nat.mul_le_mul_right _ h3
    omega)
  have kJ : ∀ (A' : Option Addr) (c' : Nat) (W : World), Own W b1 9 1 encQ (.slice A' (6 + n + 2) c') (P2 ++ [itoaB (al.rules : Int), qB (tl al.text)]) → Calls Tryz.prog 25 #[.slice A' (6 + n + 2) c', .string ⟨#[32]⟩] W fun e w' => e = .returned (strV (joinW ((textsA (tl f) al ms).map quo))) ∧ Below W.heap.size W w' := fun A' c' W ho => by
    rw [← hlen9.out] at ho ⊢
    have := join_any _ (by simp) A' c' b1 W ho (by rw [hlen9.out]; omega) hjl.out
    rw [hwords.out] at this
    exact this
  have ho8 := ho7.then_ hw8
  have hz8 : b1 ≤ w8.heap.size := Nat.le_trans hz7 hw8.size
  go_wp2_with (first
    | (refine wl_appS rfl _ _ rfl b1 P2 [itoaB (al.rules : Int), qB (tl al.text)] rfl rfl rfl (slice_two hb9) ho8 hP2l.out.symm (by rw [hP2l.out]; simp; omega) hz8 ?_; intro A9 c9 w9 ho9 hg9)
    | (go_at_call 25; refine (kJ _ _ _ ho9).mono ?_; clear kJ; rintro e w10 ⟨rfl, hB10⟩))
  go_ret
  have hB89 : Below b1 w8 w9 := (Below.refl b1 w8).grown hg9 hz8 (fun k e => (ho8.lt k e).1)
  refine ⟨rfl, ?_⟩
  rw [← hg.out]
  exact ((hB7.trans (hw8.mono (by omega))).trans (hB89.mono (by omega))).trans (hB10.mono (by have := hB89.size; omega))
end Go.Proofs.YtjplgcmfifoefaaGreatDoor
namespace Go.Proofs.YtjplgcmfifoefaaGreatDoor
open Go.RowKit Go.Shelf Go.Maps
set_option linter.unusedVariables false
set_option linter.unusedSimpArgs false
attribute [local go_sem] Oper.semAt_some

def MkV.nums (m : MkV) : List Int := [m.serial, m.inode, m.gen, m.off, m.missed, m.gone, m.cuts, m.tails, m.long]
def MkV.L (m : MkV) : Array Value := #[.int .i64 m.missed, .int .i64 m.gone, .int .i64 m.cuts, .int .i64 m.tails, .int .i64 m.long]
structure NtV where
  kind : Int
  al : AlV
  attempt : Int
  A : Option Addr
  m : Nat
  c : Nat
def NtV.C (x : NtV) : Array Value := #[.int .i64 x.kind, .int .i64 x.al.path, .int .i64 x.al.mark.serial, .int .i64 x.al.mark.inode, .int .i64 x.al.mark.gen, .int .i64 x.al.mark.off, .int .i64 x.al.mark.missed, .int .i64 x.al.mark.gone, .int .i64 x.al.mark.cuts, .int .i64 x.al.mark.tails, .int .i64 x.al.mark.long, .string x.al.text, .int .u32 (x.al.rules : Int), .int .i64 x.attempt, .slice x.A x.m x.c]
structure NtOk (w : World) (x : NtV) (ms : List MkV) : Prop where
  al : AlOk x.al
  att : i64z x.attempt
  len : x.m = ms.length
  few : x.m ≤ 1048576
  mks : ∀ m ∈ ms, m.ok
  sl : SliceOf w w.heap.size 9 MkV.C x.A ms
theorem NtOk.then_ {w w' : World} {x : NtV} {ms : List MkV} (h : NtOk w x ms) (hb : Below w.heap.size w w') : NtOk w' x ms := ⟨h.al, h.att, h.len, h.few, h.mks, SliceOf.then_' h.sl hb⟩
def sentW : Bs := [115, 101, 110, 116]
def doneW : Bs := [100, 111, 110, 101]
def backW : Bs := [98, 97, 99, 107]
def keptW : Bs := [107, 101, 112, 116]
def crashW : Bs := [99, 114, 97, 115, 104]
def noneW : Bs := [110, 111, 110, 101]
/-- the texts that a note tells -/
def tellT (kind : Int) (al : AlV) (att : Int) (ms : List MkV) : List Bs :=
  if kind = 1 then textsA sentW al [att] else if kind = 2 then textsA doneW al [] else if kind = 3 then textsA backW al []
  else if kind = 4 then keptW :: (ms.flatMap MkV.nums).map Lib.itoa else if kind = 5 then [crashW] else [noneW]
theorem info_al : (Tryz.prog.info? 40).map (·.size) = some 12 := by kernel_rfl
theorem info_ls : (Tryz.prog.info? 35).map (·.size) = some 5 := by kernel_rfl
theorem wl_store_ls {ops : Array Oper} {rest : List Oper} {o : Oper} {a : Act} {w : World} {Q : Exit → Act → World → Prop} (hgd : o.guard = none) (x y : Operand) (ho : o.op = .store 35 x y)
    (g : Nat) (m m0 : MkV) (hx : a.eval x = .pointer (some ⟨g, 0, none⟩)) (hy : a.eval y = .agg m.L) (hb : Blk w g 35 m0.L)
    (h : ∀ w', Blk w' g 35 m.L → w.grownBy w' (some g) → wpList Tryz.prog ops Q rest (a.put o.dst undef) w') : wpList Tryz.prog ops Q (o :: rest) a w :=
  wpList_store_row hgd _ x y ho g _ hx hy _ _ hb (info_ls.trans rfl) rfl (by simp [MkV.L, Value.oneCell']) (h _ (hb.setRow_same _) (only_setRow (only_refl _ _) _))
theorem run_bsZ9 (w : World) (y0 y1 y2 y3 y4 y5 y6 y7 y8 : Int) : (Instr.buildSlice 23 9 #[(0, .int .i64 y0), (1, .int .i64 y1), (2, .int .i64 y2), (3, .int .i64 y3), (4, .int .i64 y4), (5, .int .i64 y5), (6, .int .i64 y6), (7, .int .i64 y7), (8, .int .i64 y8)]).run Tryz.prog w = .ok (.slice (some ⟨w.heap.size, 0, none⟩) 9 9) (w.alloc (.cells #[.int .i64 y0, .int .i64 y1, .int .i64 y2, .int .i64 y3, .int .i64 y4, .int .i64 y5, .int .i64 y6, .int .i64 y7, .int .i64 y8] 3)) := by kernel_rfl
theorem wl_bsZ9 {ops : Array Oper} {rest : List Oper} {o : Oper} {a : Act} {w : World} {Q : Exit → Act → World → Prop} (hgd : o.guard = none) (x0 x1 x2 x3 x4 x5 x6 x7 x8 : Operand) (ho : o.op = .buildSlice 23 9 #[(0, x0), (1, x1), (2, x2), (3, x3), (4, x4), (5, x5), (6, x6), (7, x7), (8, x8)]) (y0 y1 y2 y3 y4 y5 y6 y7 y8 : Int)
    (h0 : a.eval x0 = .int .i64 y0) (h1 : a.eval x1 = .int .i64 y1) (h2 : a.eval x2 = .int .i64 y2) (h3 : a.eval x3 = .int .i64 y3) (h4 : a.eval x4 = .int .i64 y4) (h5 : a.eval x5 = .int .i64 y5) (h6 : a.eval x6 = .int .i64 y6) (h7 : a.eval x7 = .int .i64 y7) (h8 : a.eval x8 = .int .i64 y8)
    (h : wpList Tryz.prog ops Q rest (a.put o.dst (.slice (some ⟨w.heap.size, 0, none⟩) 9 9)) (w.alloc (.cells #[.int .i64 y0, .int .i64 y1, .int .i64 y2, .int .i64 y3, .int .i64 y4, .int .i64 y5, .int .i64 y6, .int .i64 y7, .int .i64 y8] 3))) : wpList Tryz.prog ops Q (o :: rest) a w :=
  wpList_plain hgd fun _ hK => by
    unfold Oper.wp execOp
    simp only [ho, List.map_toArray, List.map_cons, List.map_nil, h0, h1, h2, h3, h4, h5, h6, h7, h8, Sem.run_bind, run_bsZ9, Result.andThen_ok, Sem.run_pure]
    exact hK _ _ h
theorem slice_nine {w : World} {g : Nat} {y0 y1 y2 y3 y4 y5 y6 y7 y8 : Int} (h : Blk w g 3 #[.int .i64 y0, .int .i64 y1, .int .i64 y2, .int .i64 y3, .int .i64 y4, .int .i64 y5, .int .i64 y6, .int .i64 y7, .int .i64 y8]) : SliceOf w w.heap.size 1 encZ (some ⟨g, 0, none⟩) [y0, y1, y2, y3, y4, y5, y6, y7, y8] := by
  have ho : Own w 0 3 1 encZ (.slice (some ⟨g, 0, none⟩) 9 9) [y0, y1, y2, y3, y4, y5, y6, y7, y8] := own_made encZ_size h rfl rfl (Nat.zero_le _) (by unfold maxLen; decide)
  exact ho.slice_all encZ_size
theorem row_loss {w : World} {g : Nat} {m : MkV} (h : Blk w g 37 m.C) : RowAt w g 4 m.L := fun j v hj => by
  have h9 : m.C[4 + j]? = some v := by
    match j, hj with
    | 0, h => exact h
    | 1, h => exact h
    | 2, h => exact h
    | 3, h => exact h
    | 4, h => exact h
    | j + 5, h => simp [MkV.L] at h
  exact h.cellv h9
theorem row_alert {w : World} {g : Nat} {x : NtV} (h : Blk w g 43 x.C) : RowAt w g 1 x.al.C := fun j v hj => by
  have h9 : x.C[1 + j]? = some v := by
    match j, hj with
    | 0, h => exact h
    | 1, h => exact h
    | 2, h => exact h
    | 3, h => exact h
    | 4, h => exact h
    | 5, h => exact h
    | 6, h => exact h
    | 7, h => exact h
    | 8, h => exact h
    | 9, h => exact h
    | 10, h => exact h
    | 11, h => exact h
    | j + 12, h => simp [AlV.C] at h
  exact h.cellv h9
theorem nums_ok {m : MkV} (h : m.ok) : ∀ z ∈ m.nums, i64z z := by
  obtain ⟨h1, h2, h3, h4, h5, h6, h7, h8, h9⟩ := h
  intro z hz
  simp only [MkV.nums, List.mem_cons, List.not_mem_nil, or_false] at hz
  rcases hz with rfl | rfl | rfl | rfl | rfl | rfl | rfl | rfl | rfl <;> assumption
set_option maxRecDepth 100000 in
set_option maxHeartbeats 8000000 in
theorem tell_any (x : NtV) (ms : List MkV) (w : World) (hx : NtOk w x ms) (hS : SOk w) :
    Calls Tryz.prog 12 #[.agg x.C] w fun e w' => e = .returned (strV (joinW ((tellT x.kind x.al x.attempt ms).map quo))) ∧ Below w.heap.size w w' := by
  have h7 := hS.size
  replace hS := Lib.hid hS
  replace hx := Lib.hid hx
  go_enter Tryz.func12, Tryz.ntmps12
  go_upto_region 1 with (fail)
  have hb : Blk (w.alloc (.cells x.C 43)) w.heap.size 43 x.C := Blk.new w _ _
  have hB1 := below_alloc (Below.refl w.heap.size w) (.cells x.C 43)
  obtain ⟨w1, hw1⟩ : ∃ y, y = w.alloc (.cells x.C 43) := ⟨_, rfl⟩
  rw [← hw1] at hb hB1 ⊢
  clear hw1
  obtain ⟨g, hg⟩ : ∃ y, y = w.heap.size := ⟨_, rfl⟩
  have hslg : SliceOf w g 9 MkV.C x.A ms := by rw [hg]; exact hx.out.sl
  rw [← hg] at hb hB1 h7 ⊢
  replace hg := Lib.hid hg
  have hgl := hb.lt
  have cK : w1.cell? ⟨g, 0, none⟩ = some (.int .i64 x.kind) := hb.cellv rfl
  have hS1 := hS.out.then_ h7 hB1
  by_cases k1 : x.kind = 1
  · rw [k1] at cK
    have hv : Hid (tellT x.kind x.al x.attempt ms = textsA sentW x.al [x.attempt]) := Lib.hid (by unfold tellT; rw [if_pos k1])
    have cT : w1.cell? ⟨g, 13, none⟩ = some (.int .i64 x.attempt) := hb.cellv rfl
    have kA : ∀ W, Below w1.heap.size w1 W → SliceOf W W.heap.size 1 encZ (some ⟨w1.heap.size, 0, none⟩) [x.attempt] → Calls Tryz.prog 26 #[.string ⟨#[115, 101, 110, 116]⟩, .agg x.al.C, .slice (some ⟨w1.heap.size, 0, none⟩) 1 1] W fun e w' => e = .returned (strV (joinW ((textsA sentW x.al [x.attempt]).map quo))) ∧ Below W.heap.size W w' := fun W hW hsl =>
      alert_any ⟨#[115, 101, 110, 116]⟩ (quo_pl (by decide)) (by decide) x.al hx.out.al _ 1 1 [x.attempt] rfl (by decide) (fun z hz => by rw [show z = x.attempt from by simpa using hz]; exact hx.out.att) W hsl (hS1.then_ h7 (hW.mono (by omega)))
    have hrow := row_alert hb
    clear k1
    go_wp2_with (first
      | (refine wpList_load_at rfl _ _ rfl g 1 rfl _ _ hrow Tryz.underlying40 rfl (info_al.trans rfl) ?_)
      | (refine wl_bsZ1 rfl _ rfl x.attempt rfl ?_)
      | (go_at_call 26; refine (kA _ ((Below.refl w1.heap.size w1).alloc (Nat.le_refl _) _) (slice_one (enc := encZ) (Blk.new _ _ _))).mono ?_; clear kA; rintro e w3 ⟨rfl, hB3⟩))
    go_ret
    rw [hv.out]
    exact ⟨rfl, by rw [← hg.out]; exact (hB1.alloc (by omega) _).trans (hB3.mono (by rw [World.size_alloc]; omega))⟩
  have e1 : (x.kind == 1) = false := beq_eq_false_iff_ne.2 k1
  by_cases k2 : x.kind = 2
  · rw [k2] at cK
    have hv : Hid (tellT x.kind x.al x.attempt ms = textsA doneW x.al []) := Lib.hid (by unfold tellT; rw [if_neg k1, if_pos k2])
    have kA : Calls Tryz.prog 26 #[.string ⟨#[100, 111, 110, 101]⟩, .agg x.al.C, .slice none 0 0] w1 fun e w' => e = .returned (strV (joinW ((textsA doneW x.al []).map quo))) ∧ Below w1.heap.size w1 w' :=
      alert_any ⟨#[100, 111, 110, 101]⟩ (quo_pl (by decide)) (by decide) x.al hx.out.al none 0 0 [] rfl (by decide) (fun z hz => by cases hz) w1 (.inl rfl) hS1
    have hrow := row_alert hb
    clear k1 k2
    go_wp2_with (first
      | (refine wpList_load_at rfl _ _ rfl g 1 rfl _ _ hrow Tryz.underlying40 rfl (info_al.trans rfl) ?_)
      | (go_at_call 26; refine kA.mono ?_; clear kA; rintro e w3 ⟨rfl, hB3⟩))
    go_ret
    rw [hv.out]
    exact ⟨rfl, by rw [← hg.out]; exact hB1.trans (hB3.mono (by omega))⟩
  have e2 : (x.kind == 2) = false := beq_eq_false_iff_ne.2 k2
  by_cases k3 : x.kind = 3
  · rw [k3] at cK
    have hv : Hid (tellT x.kind x.al x.attempt ms = textsA backW x.al []) := Lib.hid (by unfold tellT; rw [if_neg k1, if_neg k2, if_pos k3])
    have kA : Calls Tryz.prog 26 #[.string ⟨#[98, 97, 99, 107]⟩, .agg x.al.C, .slice none 0 0] w1 fun e w' => e = .returned (strV (joinW ((textsA backW x.al []).map quo))) ∧ Below w1.heap.size w1 w' :=
      alert_any ⟨#[98, 97, 99, 107]⟩ (quo_pl (by decide)) (by decide) x.al hx.out.al none 0 0 [] rfl (by decide) (fun z hz => by cases hz) w1 (.inl rfl) hS1
    have hrow := row_alert hb
    clear k1 k2 k3
    go_wp2_with (first
      | (refine wpList_load_at rfl _ _ rfl g 1 rfl _ _ hrow Tryz.underlying40 rfl (info_al.trans rfl) ?_)
      | (go_at_call 26; refine kA.mono ?_; clear kA; rintro e w3 ⟨rfl, hB3⟩))
    go_ret
    rw [hv.out]
    exact ⟨rfl, by rw [← hg.out]; exact hB1.trans (hB3.mono (by omega))⟩
  have e3 : (x.kind == 3) = false := beq_eq_false_iff_ne.2 k3
  by_cases k4 : x.kind = 4
  · rw [k4] at cK
    have hv : Hid (tellT x.kind x.al x.attempt ms = keptW :: (ms.flatMap MkV.nums).map Lib.itoa) := Lib.hid (by unfold tellT; rw [if_neg k1, if_neg k2, if_neg k3, if_pos k4])
    clear k1 k2 k3 k4 e1 e2 e3
    have cS : w1.cell? ⟨g, 14, none⟩ = some (.slice x.A x.m x.c) := hb.cellv rfl
    obtain ⟨KB, hKB⟩ : ∃ KB : ByteArray, ⟨#[107, 101, 112, 116]⟩ = KB := ⟨_, rfl⟩
    obtain ⟨w2, hw2⟩ : ∃ y, y = w1.alloc (.cells (encQ ⟨#[107, 101, 112, 116]⟩) 9) := ⟨_, rfl⟩
    have hB12 : Below w1.heap.size w1 w2 := by rw [hw2]; exact below_alloc (Below.refl w1.heap.size w1) _
    have ho2 : Own w2 w1.heap.size 9 1 encQ (.slice (some ⟨w1.heap.size, 0, none⟩) 1 1) [⟨#[107, 101, 112, 116]⟩] := by rw [hw2]; exact own_one encQ_size (Blk.new _ _ _) (Nat.le_refl _)
    replace hw2 := Lib.hid hw2
    have cS2 := cell_keep cS hgl hB12
    obtain ⟨b1, hb1⟩ : ∃ y, y = w1.heap.size := ⟨_, rfl⟩
    rw [← hb1] at ho2
    have hgb : g < b1 := by rw [hb1]; exact hgl
    have hb2z : b1 ≤ w2.heap.size := by rw [hb1]; exact hB12.size
    have hB2 := hB1.trans (hB12.mono (Nat.le_of_lt hgl))
    replace hb1 := Lib.hid hb1
    have hmk := Lib.hid hx.out.mks
    have hml := Lib.hid hx.out.len
    have hmf := hx.out.few
    clear hB12 cS hB1 hS1 hKB KB
    go_wp2_with (refine wl_bsS rfl _ rfl ⟨#[107, 101, 112, 116]⟩ rfl ?_; rw [← hw2.out, ← hb1.out])
    clear cS2 cK hb
    go_loopw [3, 33] (fun lv iv wr => ∃ (i : Nat) (A' : Option Addr) (c' : Nat) (acc : List ByteArray), i ≤ x.m ∧ lv = .slice A' acc.length c' ∧ iv = .int .i64 i ∧ Own wr b1 9 1 encQ (.slice A' acc.length c') acc ∧ Hid (acc = ⟨#[107, 101, 112, 116]⟩ :: ((ms.take i).flatMap MkV.nums).map itoaB) ∧ acc.length = 1 + 9 * i ∧ Below g w wr ∧ b1 ≤ wr.heap.size) (fun _ iv _ => x.m - (intOf iv).toNat)
    case atStart => exact ⟨0, _, 1, _, by omega, rfl, rfl, ho2, Lib.hid (by simp), rfl, hB2, hb2z⟩
    case round =>
      clear ho2 hB2 hb2z
      obtain ⟨i, A', c', acc, hi, rfl, rfl, ho, hacc, hal, hB, hbz⟩ := hrel
      by_cases hl : i < x.m
      · have hI : ((i : Nat) : Int) < x.m := by omega
        have hI0 : ¬ ((i : Nat) : Int) < 0 := by omega
        have hil : i < ms.length := by rw [← hml.out]; exact hl
        obtain ⟨b, off, hA, hbb, hrow⟩ := hslg.at_ (by omega)
        obtain ⟨m, hm⟩ : ∃ m, ms[i] = m := ⟨_, rfl⟩
        have hrw : RowAt wr b (off + i * 9) m.C := fun j v hj => by
          rw [← hm] at hj
          exact (hB.cell (p := ⟨b, off + i * 9 + j, none⟩) hbb).trans (hrow i hil j v hj)
        have hmok := hmk.out m (by rw [← hm]; exact List.getElem_mem _)
        have hac2 : Hid (acc ++ m.nums.map itoaB = ⟨#[107, 101, 112, 116]⟩ :: ((ms.take (i + 1)).flatMap MkV.nums).map itoaB) := Lib.hid (by
          rw [hacc.out, List.take_add_one, List.getElem?_eq_getElem hil, hm]
          simp)
        have hz5 := Blk.new wr 37 (MkV.C ⟨0, 0, 0, 0, 0, 0, 0, 0, 0⟩)
        replace hal := Lib.hid hal
        clear hm hrow hacc
        rw [hA]
        go_upto_region 13 with (first
          | (refine wpList_load_at rfl _ _ rfl b (off + i * 9) rfl _ _ hrw Tryz.underlying37 rfl (info_mk.trans rfl) ?_)
          | (refine wl_store_mk rfl _ _ rfl wr.heap.size m _ rfl rfl hz5 ?_; intro w3 hm3 hg3))
        have hB3 := below_grown (below_alloc (Below.refl wr.heap.size wr) _) hg3 (Nat.le_refl _)
        obtain ⟨p5, hp5⟩ : ∃ y, y = wr.heap.size := ⟨_, rfl⟩
        rw [← hp5] at hm3 ⊢
        replace hp5 := Lib.hid hp5
        have hm3l := hm3.lt
        have hrl := row_loss hm3
        have hz6 := Blk.new w3 35 (MkV.L ⟨0, 0, 0, 0, 0, 0, 0, 0, 0⟩)
        clear hg3 hz5 hrw
        go_upto_region 14 with (first
          | (refine wpList_load_at rfl _ _ rfl p5 4 rfl _ _ hrl Tryz.underlying35 rfl (info_ls.trans rfl) ?_)
          | (refine wl_store_ls rfl _ _ rfl w3.heap.size m _ rfl rfl hz6 ?_; intro w4 hl4 hg4))
        have hB34 := below_grown (below_alloc (Below.refl w3.heap.size w3) _) hg4 (Nat.le_refl _)
        obtain ⟨p6, hp6⟩ : ∃ y, y = w3.heap.size := ⟨_, rfl⟩
        rw [← hp6] at hl4 ⊢
        replace hp6 := Lib.hid hp6
        have hm4 := blk_then hm3 hB34
        have hB4 := below_then hB3 hB34
        have q0 : w4.cell? ⟨p5, 0, none⟩ = some (.int .i64 m.serial) := hm4.cellv rfl
        have q1 : w4.cell? ⟨p5, 1, none⟩ = some (.int .i64 m.inode) := hm4.cellv rfl
        have q2 : w4.cell? ⟨p5, 2, none⟩ = some (.int .i64 m.gen) := hm4.cellv rfl
        have q3 : w4.cell? ⟨p5, 3, none⟩ = some (.int .i64 m.off) := hm4.cellv rfl
        have q4 : w4.cell? ⟨p6, 0, none⟩ = some (.int .i64 m.missed) := hl4.cellv rfl
        have q5 : w4.cell? ⟨p6, 1, none⟩ = some (.int .i64 m.gone) := hl4.cellv rfl
        have q6 : w4.cell? ⟨p6, 2, none⟩ = some (.int .i64 m.cuts) := hl4.cellv rfl
        have q7 : w4.cell? ⟨p6, 3, none⟩ = some (.int .i64 m.tails) := hl4.cellv rfl
        have q8 : w4.cell? ⟨p6, 4, none⟩ = some (.int .i64 m.long) := hl4.cellv rfl
        have hBg4 := hB.trans (hB4.mono (by omega))
        have hS4 := hS.out.then_ h7 hBg4
        have hz4 : b1 ≤ w4.heap.size := Nat.le_trans hbz hB4.size
        have ho4 := ho.then_ hB4
        have kN : ∀ W, Below w4.heap.size w4 W → SliceOf W W.heap.size 1 encZ (some ⟨w4.heap.size, 0, none⟩) m.nums → Calls Tryz.prog 27 #[.slice (some ⟨w4.heap.size, 0, none⟩) 9 9] W fun e w' => (∃ A' c', e = .returned (.slice A' 9 c') ∧ Own w' W.heap.size 9 1 encQ (.slice A' 9 c') (m.nums.map itoaB)) ∧ Below W.heap.size W w' := fun W hW hsl =>
          numbers_any _ 9 9 m.nums rfl (by decide) (nums_ok hmok) W hsl (hS4.then_ h7 (hW.mono (by omega)))
        have hml9 : Hid ((m.nums.map itoaB).length = 9) := Lib.hid rfl
        have hal4 : acc.length + 9 ≤ 1099511627776 := by rw [hal.out]; omega
        clear hg4 hz6 hrl hB3 hB34 hm3 hm3l hm4 hl4 hS4
        go_wp2_with (first
          | (refine wl_bsZ9 rfl _ _ _ _ _ _ _ _ _ rfl m.serial m.inode m.gen m.off m.missed m.gone m.cuts m.tails m.long rfl rfl rfl rfl rfl rfl rfl rfl rfl ?_)
          | (go_at_call 27; refine (kN _ ((Below.refl w4.heap.size w4).alloc (Nat.le_refl _) _) (slice_nine (Blk.new _ _ _))).mono ?_; clear kN; rintro e w5 ⟨⟨A5, c5, rfl, ho5⟩, hB5⟩)
          | (refine wl_appS rfl _ _ rfl b1 acc (m.nums.map itoaB) rfl rfl hml9.out.symm (ho5.slice_all encQ_size) ((ho4.alloc _).then_ hB5) rfl (by rw [hml9.out]; exact hal4) (by have := hB5.size; rw [World.size_alloc] at this; omega) ?_; intro A8 c8 w8 ho8 hg8))
        have hz5' : b1 ≤ w5.heap.size := by have := hB5.size; rw [World.size_alloc] at this; omega
        have hB58 : Below b1 w5 w8 := (Below.refl b1 w5).grown hg8 hz5' (fun k e => (((ho4.alloc _).then_ hB5).lt k e).1)
        have hBg8 : Below g w w8 := ((hBg4.alloc (by omega) _).trans (hB5.mono (by rw [World.size_alloc]; omega))).trans (hB58.mono (by omega))
        have e9 : (acc ++ m.nums.map itoaB).length = acc.length + 9 := by rw [List.length_append, hml9.out]
        exact ⟨⟨i + 1, A8, c8, acc ++ m.nums.map itoaB, by omega, by rw [e9], rfl, by rw [e9]; exact ho8, hac2, by rw [e9, hal.out]; omega, hBg8, Nat.le_trans hz5' hB58.size⟩, by simp only [intOf]; omega⟩
      · have hI : ¬ ((i : Nat) : Int) < x.m := by omega
        have hie : i = x.m := by omega
        have hmap : acc.map tl = (keptW :: (ms.flatMap MkV.nums).map Lib.itoa).map quo := by
          rw [hacc.out, List.take_of_length_le (by rw [← hml.out]; omega)]
          rw [List.map_cons, List.map_cons, List.map_map, List.map_map]
          congr 1
          apply List.map_congr_left
          intro z _
          show tl (itoaB z) = quo (Lib.itoa z)
          rw [tl_itoa, quo_itoa]
        have hne : acc ≠ [] := by rw [hacc.out]; simp
        have hbound : (joinW (acc.map tl)).length ≤ 1099511627776 := by
          rw [hmap]
          have h1 := line_ints (ms.flatMap MkV.nums) (fun z hz => by
            obtain ⟨m, hm, hz⟩ := List.mem_flatMap.1 hz
            exact nums_ok (hmk.out m hm) z hz)
          have h2 : ∀ l : List MkV, (l.flatMap MkV.nums).length = 9 * l.length := by
            intro l
            induction l with
            | nil => rfl
            | cons m l ih => rw [List.flatMap_cons, List.length_append, ih, List.length_cons]; show 9 + 9 * l.length = _; omega
          have h3 := h2 ms
          have h4 := hml.out
          have h5 : quo keptW = keptW := quo_pl (by decide)
          rw [List.map_cons, joinW_cons, List.length_append, h5]
          have h6 : keptW.length = 4 := rfl
          omega
        have kJ := join_any acc hne A' c' b1 wr ho (by omega) hbound
        rw [hmap] at kJ
        obtain ⟨R, hR⟩ : ∃ R, strV (joinW ((keptW :: (ms.flatMap MkV.nums).map Lib.itoa).map quo)) = R := ⟨_, rfl⟩
        rw [hR] at kJ
        replace hR := Lib.hid hR
        clear hmap hne hbound hacc ho hal
        go_wp2_with (go_at_call 25; refine kJ.mono ?_; clear kJ; rintro e w9 ⟨rfl, hB9⟩)
        go_ret
        rw [hv.out, hR.out]
        exact ⟨rfl, by rw [← hg.out]; exact hB.trans (hB9.mono (by omega))⟩
  have e4 : (x.kind == 4) = false := beq_eq_false_iff_ne.2 k4
  by_cases k5 : x.kind = 5
  · rw [k5] at cK
    have hv : Hid (strV (joinW ((tellT x.kind x.al x.attempt ms).map quo)) = .string ⟨#[99, 114, 97, 115, 104]⟩) := Lib.hid (by unfold tellT; rw [if_neg k1, if_neg k2, if_neg k3, if_neg k4, if_pos k5]; rfl)
    clear k1 k2 k3 k4 k5
    go_wp2_with (fail)
    go_ret
    exact ⟨by rw [hv.out]; rfl, by rw [← hg.out]; exact hB1⟩
  · have e5 : (x.kind == 5) = false := beq_eq_false_iff_ne.2 k5
    have hv : Hid (strV (joinW ((tellT x.kind x.al x.attempt ms).map quo)) = .string ⟨#[110, 111, 110, 101]⟩) := Lib.hid (by unfold tellT; rw [if_neg k1, if_neg k2, if_neg k3, if_neg k4, if_neg k5]; rfl)
    clear k1 k2 k3 k4 k5
    go_wp2_with (fail)
    go_ret
    exact ⟨by rw [hv.out]; rfl, by rw [← hg.out]; exact hB1⟩
end Go.Proofs.YtjplgcmfifoefaaGreatDoor
namespace Go.Proofs.YtjplgcmfifoefaaGreatDoor
open Go.RowKit Go.Maps
set_option linter.unusedVariables false
set_option linter.unusedSimpArgs false
attribute [local go_sem] Oper.semAt_some

theorem atoi_bound {l : Bs} {v : Int} (h : Lib.atoiAll l = .ok v) : i64z v := by
  unfold Lib.atoiAll at h
  split at h
  · cases h
  · dsimp only at h
    split at h
    · cases h
    · cases h
    · split at h
      · cases h
      · split at h
        · cases h
        · injection h with h
          unfold i64z
          split at h <;> omega
/-- the number beside -/
def intZ (w : Bs) : Int := match Lib.atoiAll w with
  | .ok v => v
  | Lib.NumEnd.syntax => 0
  | .range => Lib.atoiSat w
theorem intZ_some {w : Bs} {v : Int} (h : intW w = some v) : intZ w = v := by
  unfold intW at h
  unfold intZ
  split at h
  · next u hu =>
    split at h
    · injection h with h
      rw [hu]
      exact h
    · cases h
  · cases h
theorem intZ_ok (w : Bs) : i64z (intZ w) := by
  unfold intZ
  split
  · next v h => exact atoi_bound h
  · unfold i64z; omega
  · unfold Lib.atoiSat i64z
    split <;> omega
theorem atoi_any (q : ByteArray) (hq : q.size ≤ 1099511627776) (w : World) (hS : SOk w) : Calls Tryz.prog 82 #[.string q] w fun e w' => ((∃ v, Lib.atoiAll (tl q) = .ok v ∧ e = .returned (.tuple #[.int .i64 v, .nilIface])) ∨ ((∀ v, Lib.atoiAll (tl q) ≠ .ok v) ∧ ∃ T N, e = .returned (.tuple #[.int .i64 (intZ (tl q)), .iface T (.pointer (some ⟨N, 0, none⟩))]))) ∧ Below w.heap.size w w' := by
  cases h : Lib.atoiAll (tl q) with
  | ok v =>
    refine (Tryz.strconv_Atoi_ok q (by omega) v h w).mono fun e w' ⟨he, hw⟩ => ⟨.inl ⟨v, rfl, he⟩, ?_⟩
    rcases hw with rfl | ⟨t, rfl⟩
    · exact Below.refl _ _
    · refine ⟨rfl, rfl, rfl, ?_, fun j hj => Lib.bytesWorld_at_old _ _ _ j hj⟩
      rw [Lib.bytesWorld_size]
      omega
  | range =>
    have hz : intZ (tl q) = Lib.atoiSat (tl q) := by unfold intZ; rw [h]
    rw [hz]
    obtain ⟨ev, h1, h2⟩ := hS.ran
    exact (Tryz.strconv_Atoi_range q (by omega) h ev w h1 h2).mono fun e w' ⟨N, he, _, _, hb⟩ => ⟨.inr ⟨fun v h => (by cases h), _, N, he⟩, hb⟩
  | _ =>
    have hz : intZ (tl q) = 0 := by unfold intZ; rw [h]
    rw [hz]
    obtain ⟨ev, h1, h2⟩ := hS.syn
    exact (Tryz.strconv_Atoi_syntax q (by omega) h ev w h1 h2).mono fun e w' ⟨N, he, _, _, hb⟩ => ⟨.inr ⟨fun v h => (by cases h), _, N, he⟩, hb⟩
set_option maxHeartbeats 2000000 in
theorem integer_any (q : ByteArray) (hq : q.size ≤ 1099511627776) (w : World) (hS : SOk w) : Calls Tryz.prog 63 #[.string q] w fun e w' => e = .returned (.tuple #[.int .i64 (intZ (tl q)), .bool (intW (tl q)).isSome]) ∧ Below w.heap.size w w' := by
  have kA := atoi_any q hq w hS
  have h7 := hS.size
  by_cases hok : ∃ v, Lib.atoiAll (tl q) = .ok v
  · obtain ⟨v, h⟩ := hok
    have kA2 : Calls Tryz.prog 82 #[.string q] w fun e w' => e = .returned (.tuple #[.int .i64 v, .nilIface]) ∧ Below w.heap.size w w' := kA.mono fun e w' ⟨he, hb⟩ => ⟨by
      rcases he with ⟨v', hv', he⟩ | ⟨hn, _⟩
      · rw [h] at hv'
        injection hv' with hv'
        rw [he, hv']
      · exact absurd h (hn v), hb⟩
    have kI := itoa_any v (atoi_bound h).1 (atoi_bound h).2
    obtain ⟨b, hb⟩ : ∃ b, (intW (tl q)).isSome = b := ⟨_, rfl⟩
    have hz : intZ (tl q) = v := by unfold intZ; rw [h]
    have hbv : b = (Lib.itoa v == q.toList) := by
      rw [← hb, Lib.toList_data]
      unfold intW
      rw [h]
      dsimp only
      by_cases e : Lib.itoa v = tl q
      · rw [if_pos e]
        show true = (Lib.itoa v == tl q)
        rw [e]
        simp
      · rw [if_neg e]
        exact (beq_eq_false_iff_ne.2 e).symm
    rw [hb, hz]
    clear hz
    replace hbv := Lib.hid hbv
    replace hS := Lib.hid hS
    clear h hb kA
    go_enter Tryz.func63, Tryz.ntmps63
    go_wp2_with (first
      | (go_at_call 82; refine kA2.mono ?_; clear kA2; rintro e w3 ⟨rfl, hB3⟩)
      | (go_at_call 46; refine (kI w3 (hS.out.then_ h7 hB3)).mono ?_; clear kI; rintro e w4 ⟨rfl, hB4⟩; unfold strV))
    go_ret2
    exact ⟨by rw [hbv.out]; rfl, below_then hB3 hB4⟩
  · have kA2 : Calls Tryz.prog 82 #[.string q] w fun e w' => (∃ T N, e = .returned (.tuple #[.int .i64 (intZ (tl q)), .iface T (.pointer (some ⟨N, 0, none⟩))])) ∧ Below w.heap.size w w' := kA.mono fun e w' ⟨he, hb⟩ => ⟨by
      rcases he with ⟨v', hv', he⟩ | ⟨hn, he⟩
      · exact absurd ⟨v', hv'⟩ hok
      · exact he, hb⟩
    have hn : intW (tl q) = none := by
      unfold intW
      split
      · next v hv => exact absurd ⟨v, hv⟩ hok
      · rfl
    rw [hn]
    obtain ⟨Z, hZ⟩ : ∃ Z, intZ (tl q) = Z := ⟨_, rfl⟩
    rw [hZ] at kA2 ⊢
    clear hn hok kA hS hZ
    go_enter Tryz.func63, Tryz.ntmps63
    go_wp2_with (go_at_call 82; refine kA2.mono ?_; clear kA2; rintro e w3 ⟨⟨T, N, rfl⟩, hB3⟩)
    go_ret2
    exact ⟨rfl, hB3⟩
theorem enter_integer (args : Array Value) (w : World) : (callFunc 63 args).run Tryz.prog w = .ok (.enter 63 args) w := by kernel_rfl
end Go.Proofs.YtjplgcmfifoefaaGreatDoor
namespace Go.Proofs.YtjplgcmfifoefaaGreatDoor
open Go.RowKit Go.Maps
set_option linter.unusedVariables false
set_option linter.unusedSimpArgs false
set_option linter.unnecessarySimpa false
section
variable {rw : Option Nat} {i0 : Nat}
def GKR (rw : Option Nat) (i0 : Nat) (S : Nat → GSpec) (i : Nat) (o : Oper) (a : Act) (w : World) : Act → World → Prop := fun a' w' => ∃ v, a' = a.put o.dst v ∧ (w.grownBy w' rw ∧ (i ≠ i0 → Below w.heap.size w w')) ∧ (S i).p v w'
def GStepR (rw : Option Nat) (i0 : Nat) (P : Program) (ops : Array Oper) (S : Nat → GSpec) (Q : Exit → Act → World → Prop) (i : Nat) (o : Oper) (a : Act) (w : World) : Prop :=
  if Region.wanted o (yielded ops a.tmps) = true then o.wp P a w (GKR rw i0 S i o a w) Q else (S i).p undef w

theorem getD_set_same' {l : Array Bool} {i : Nat} (h : i < l.size) : (l.setIfInBounds i true).getD i false = true := by simp [h]
structure GInvR (rw : Option Nat) (i0 : Nat) (ops : Array Oper) (n : Nat) (S : Nat → GSpec) (a0 : Act) (W0 : World) (listed : Array Bool) (a : Act) (w : World) : Prop where
  head : HeadInv .any ops n listed
  base : GBase ops n a0 a
  below : W0.grownBy w rw
  pure_ : listed.getD i0 false = false → Below W0.heap.size W0 w
  done : ∀ j, j < n → listed.getD j false = true → opOk ops S a w j

theorem wpAny_growR {P : Program} {ops : Array Oper} {n : Nat} {S : Nat → GSpec} {Q : Exit → Act → World → Prop} {a0 : Act} {W0 : World} (hkp : ∀ j, j ≠ i0 → ∀ v w w', (S j).p v w → w.grownBy w' rw → (S j).p v w') (hB : growB ops n a0.tmps.size = true)
    (hstep : ∀ i o, i < n → ops[i]? = some o → ∀ a w, GBase ops n a0 a → W0.grownBy w rw → (i = i0 → Below W0.heap.size W0 w) → (∀ e ∈ o.after, Region.binds .any e = true → opOk ops S a w e.on) → GStepR rw i0 P ops S Q i o a w)
    (hend : ∀ a w, GBase ops n a0 a → W0.grownBy w rw → (∀ j, j < n → opOk ops S a w j) → wpList P ops Q (ops.toList.drop n) a w) :
    ∀ (m : Nat) (listed : Array Bool) (a : Act) (w : World), GInvR rw i0 ops n S a0 W0 listed a w → unl n listed = m → wpAny P .any ops Q (m + (ops.size - n)) listed a w := by
  simp only [growB, Bool.and_eq_true, Bool.or_eq_true, decide_eq_true_eq] at hB
  obtain ⟨⟨⟨⟨⟨hn, hdup⟩, hlt⟩, hedge⟩, htail⟩, hseq⟩ := hB
  have hedge' : ∀ i o, i < n → ops[i]? = some o → ∀ e ∈ o.after, Region.binds .any e = true → e.on < i := by
    intro i o hi ho e he hb
    have h1 := List.all_eq_true.1 hedge i (List.mem_range.2 hi)
    simp only [ho] at h1
    have h2 := (Array.all_eq_true_iff_forall_mem.1 h1) e he
    simpa [hb] using h2
  have hready : ∀ (listed : Array Bool) (a : Act) (w : World), GInvR rw i0 ops n S a0 W0 listed a w → 0 < unl n listed → ∀ j ∈ Region.ready .any ops listed, j < n := by
    intro listed a w inv hpos j hj
    rcases htail with he | ⟨hs, hc⟩
    · obtain ⟨_, o, ho, _⟩ := mem_ready.1 hj
      have := (Array.getElem?_eq_some_iff.1 ho).1
      omega
    · rcases Nat.lt_or_ge n ops.size with hlt' | hge
      · unfold unl at hpos
        obtain ⟨i, hi⟩ := List.exists_mem_of_length_pos hpos
        simp only [List.mem_filter, List.mem_range, Bool.not_eq_true'] at hi
        have hun : listed.getD i true = false := getD_in (by rw [inv.head.size]; omega) hi.2
        rcases Nat.lt_or_ge j n with h | h
        · exact h
        · exact absurd hj (tail_waits hs hc hlt' inv.head _ i rfl hi.1 hun j h)
      · obtain ⟨_, o, ho, _⟩ := mem_ready.1 hj
        have := (Array.getElem?_eq_some_iff.1 ho).1
        omega
  have hne : ∀ (listed : Array Bool) (a : Act) (w : World), GInvR rw i0 ops n S a0 W0 listed a w → 0 < unl n listed → Region.ready .any ops listed ≠ [] := by
    intro listed a w inv hpos hnil
    have hex : ∃ i, i < n ∧ listed.getD i false = false := by
      unfold unl at hpos
      obtain ⟨i, hi⟩ := List.exists_mem_of_length_pos hpos
      simp only [List.mem_filter, List.mem_range, Bool.not_eq_true'] at hi
      exact ⟨i, hi.1, hi.2⟩
    have hmin : ∃ i, i < n ∧ listed.getD i false = false ∧ ∀ k, k < i → listed.getD k false = true := by
      obtain ⟨i, hi, hf⟩ := hex
      clear hpos
      induction i using Nat.strongRecOn with
      | _ i ih =>
        by_cases h : ∃ k, k < i ∧ listed.getD k false = false
        · obtain ⟨k, hk, hkf⟩ := h
          exact ih k hk (by omega) hkf
        · refine ⟨i, hi, hf, fun k hk => ?_⟩
          cases hc : listed.getD k false with
          | true => rfl
          | false => exact absurd ⟨k, hk, hc⟩ h
    obtain ⟨i, hi, hf, hall⟩ := hmin
    have ho : ops[i]? = some ops[i] := Array.getElem?_eq_getElem (by omega)
    have hmem : i ∈ Region.ready .any ops listed := mem_ready.2 ⟨getD_in (by rw [inv.head.size]; omega) hf, _, ho, fun e he hb => hall _ (hedge' i _ hi ho e he hb)⟩
    rw [hnil] at hmem
    cases hmem
  intro m
  induction m with
  | zero =>
    intro listed a w inv hm
    have hall : ∀ j, j < n → listed.getD j false = true := by
      intro j hj
      cases hc : listed.getD j false with
      | true => rfl
      | false => have := unl_pos hj hc; omega
    have hlist : listed = headTrue n (ops.size - n) := by
      have hsz := inv.head.size
      apply Array.ext
      · simp [headTrue, hsz]; omega
      · intro j h1 h2
        have hj : j < ops.size := by rw [← hsz]; exact h1
        simp only [headTrue, List.getElem_toArray, List.getElem_append, List.length_replicate, List.getElem_replicate]
        by_cases hjn : j < n
        · have := hall j hjn
          simp [h1] at this
          simp [hjn, this]
        · have := inv.head.tail j (by omega) hj
          simp [h1] at this
          simp [hjn, this]
    have hw := hend a w inv.base inv.below (fun j hj => inv.done j hj (hall j hj))
    have hdl : (ops.toList.drop n).length = ops.size - n := by simp
    have := wpAny_of_seq (md := .any) (Q' := Q) (ops.toList.drop n) n listed a w (fun j => by simp [List.getElem?_drop]) (by rw [hdl, hlist]; exact hseq) hw
    rw [hdl] at this
    rw [Nat.zero_add]
    exact this
  | succ m ih =>
    intro listed a w inv hm
    rw [show m + 1 + (ops.size - n) = (m + (ops.size - n)) + 1 by omega]
    refine ⟨fun h => absurd h (hne listed a w inv (by omega)), fun i hi => ?_⟩
    have hin := hready listed a w inv (by omega) i hi
    obtain ⟨hun, o, ho, hall⟩ := mem_ready.1 hi
    have hlisted : listed.getD i false = false := getD_both hun
    have hg := hstep i o hin ho a w inv.base inv.below (fun e => inv.pure_ (e ▸ hlisted)) (fun e he hb => inv.done e.on (by have := hedge' i o hin ho e he hb; omega) (hall e he hb))
    have hsz : i < listed.size := by rw [inv.head.size]; omega
    have hnext : ∀ a' w', GKR rw i0 S i o a w a' w' → wpAny P .any ops Q (m + (ops.size - n)) (listed.setIfInBounds i true) a' w' := by
      rintro a' w' ⟨v, rfl, hb, hp⟩
      refine ih _ _ _ ⟨inv.head.set hi hin, ⟨by rw [put_defers]; exact inv.base.defers, by rw [put_size]; exact inv.base.size, fun t ht => ?_⟩, inv.below.trans hb.1, fun hl0 => (by
        have hne : i ≠ i0 := fun e => by
          subst e
          rw [getD_set_same' hsz] at hl0
          cases hl0
        rw [getD_set_ne false hne] at hl0
        have k1 := inv.pure_ hl0
        exact k1.trans ((hb.2 hne).mono k1.size)), fun j hj hl d hd => ?_⟩ (by have := unl_set hin hsz hlisted; omega)
      · cases hd : o.dst with
        | none => exact inv.base.other t ht
        | some d =>
          have hmem : d ∈ headDsts ops n := List.mem_filterMap.2 ⟨o, by
            rw [List.mem_iff_getElem?]
            exact ⟨i, by rw [List.getElem?_take]; simp [hin, ho]⟩, hd⟩
          have hne : d ≠ t := by
            rintro rfl
            rw [List.contains_eq_mem] at ht
            simp [hmem] at ht
          rw [put_getD_ne hne]
          exact inv.base.other t ht
      · by_cases hij : i = j
        · subst hij
          rw [ho] at hd
          simp only [Option.bind_some] at hd
          rw [hd]
          have hmem : d ∈ headDsts ops n := List.mem_filterMap.2 ⟨o, by
            rw [List.mem_iff_getElem?]
            exact ⟨i, by rw [List.getElem?_take]; simp [hin, ho]⟩, hd⟩
          have hdl : d < a.tmps.size := by
            have := List.all_eq_true.1 hlt d hmem
            rw [inv.base.size]; simpa using this
          rw [put_getD_same hdl]
          exact hp
        · rw [getD_set_ne false hij] at hl
          have hold := inv.done j hj hl d hd
          have hkeep : (a.put o.dst v).tmps.getD d undef = a.tmps.getD d undef := by
            cases hod : o.dst with
            | none => rfl
            | some e =>
              apply put_getD_ne
              rintro rfl
              cases hoj : ops[j]? with
              | none => rw [hoj] at hd; cases hd
              | some oj =>
                rw [hoj] at hd
                simp only [Option.bind_some] at hd
                exact hij (noDup_spec _ hdup i j o oj e (by rw [List.getElem?_take]; simp [hin, ho]) (by rw [List.getElem?_take]; simp [hj, hoj]) hod hd)
          rw [hkeep]
          by_cases hj0 : j = i0
          · exact (S j).st _ _ _ hold (hb.2 (by omega))
          · exact hkp j hj0 _ _ _ hold hb.1
    unfold wpOp
    simp only [ho]
    unfold GStepR at hg
    split
    · rename_i hw
      rw [if_pos hw] at hg
      exact .inl (Oper.wp_mono hnext hg)
    · rename_i hw
      rw [if_neg hw] at hg
      exact hnext _ _ ⟨undef, rfl, ⟨World.grownBy.refl _ _, fun _ => Below.refl _ _⟩, hg⟩

/-- THE LAW. -/
theorem wp_region_growR {P : Program} {id : Nat} {l : List Oper} {Q : Exit → Act → World → Prop} {a : Act} {w : World} (n : Nat) (S : List GSpec) (hm : P.follows .mixedOrders = true) (hkp : ∀ j, j ≠ i0 → ∀ v w w', (specAt S j).p v w → w.grownBy w' rw → (specAt S j).p v w') (hB : growB l.toArray n a.tmps.size = true)
    (hstep : ∀ i o, i < n → l[i]? = some o → ∀ a' w', GBase l.toArray n a a' → w.grownBy w' rw → (i = i0 → Below w.heap.size w w') → (∀ e ∈ o.after, Region.binds .any e = true → opOk l.toArray (specAt S) a' w' e.on) → GStepR rw i0 P l.toArray (specAt S) Q i o a' w')
    (hend : ∀ (u : Nat → Value) w', w.grownBy w' rw → (∀ j d, j < n → (l[j]?).bind (·.dst) = some d → (specAt S j).p (u d) w') → wpList P l.toArray Q (l.drop n) (putAll a (headDsts l.toArray n) u) w') :
    (Code.region id l.toArray true).wp P Q a w := by
  refine wp_region_any hm ?_
  have hdr : ∀ {x : World}, w.grownBy x rw → w.drew.grownBy x rw := fun h => ⟨h.os, h.tape, h.output, h.size, h.block⟩
  have hrd : ∀ {x : World}, w.drew.grownBy x rw → w.grownBy x rw := fun h => ⟨h.os, h.tape, h.output, h.size, h.block⟩
  have hn : n ≤ l.length := by
    simp only [growB, Bool.and_eq_true, decide_eq_true_eq] at hB
    simpa using hB.1.1.1.1.1
  have key := wpAny_growR (P := P) (ops := l.toArray) (n := n) (S := specAt S) (Q := Q) (a0 := a) (W0 := w.drew) hkp hB
    (fun i o hi ho a' w' hb hw hp hd => hstep i o hi (by simpa using ho) a' w' hb (hrd hw) (fun e => ⟨(hp e).os, (hp e).tape, (hp e).output, (hp e).size, (hp e).block⟩) hd)
    (fun a' w' hb hw hd => by
      rw [act_eq hb]
      have := hend (fun d => a'.tmps.getD d undef) w' (hrd hw) (fun j d hj hd' => hd j hj d (by simpa using hd'))
      simpa using this)
    n (Array.replicate l.toArray.size false) a w.drew
    ⟨⟨by simp, fun j oj _ hl => (by rw [getD_replicate_false] at hl; cases hl), fun t _ ht => getD_in (by simpa using ht) (getD_replicate_false _ _)⟩, ⟨rfl, rfl, fun _ _ => rfl⟩, World.grownBy.refl _ _, fun _ => Below.refl _ _, fun j _ hl => (by rw [getD_replicate_false] at hl; cases hl)⟩
    (by
      unfold unl
      rw [List.filter_eq_self.2 (fun j _ => by rw [getD_replicate_false]; rfl), List.length_range])
  rw [show n + (l.toArray.size - n) = l.toArray.size by simp; omega] at key
  exact key

/-- the steps, one behind the other -/
def StepsR (rw : Option Nat) (i0 : Nat) (P : Program) (ops : Array Oper) (S : Nat → GSpec) (Q : Exit → Act → World → Prop) (n : Nat) (a : Act) (w : World) : List Oper → Nat → Prop
  | [], _ => True
  | o :: l, i => (∀ a' w', GBase ops n a a' → w.grownBy w' rw → (i = i0 → Below w.heap.size w w') → (∀ j, (o.after.toList.any fun e => Region.binds .any e && e.on == j) = true → opOk ops S a' w' j) → GStepR rw i0 P ops S Q i o a' w') ∧ StepsR rw i0 P ops S Q n a w l (i + 1)
theorem StepsR.nil {P : Program} {ops : Array Oper} {S : Nat → GSpec} {Q : Exit → Act → World → Prop} {n : Nat} {a : Act} {w : World} {i : Nat} : StepsR rw i0 P ops S Q n a w [] i := trivial
theorem StepsR.cons {P : Program} {ops : Array Oper} {S : Nat → GSpec} {Q : Exit → Act → World → Prop} {n : Nat} {a : Act} {w : World} {o : Oper} {l : List Oper} {i : Nat}
    (h : ∀ a' w', GBase ops n a a' → w.grownBy w' rw → (i = i0 → Below w.heap.size w w') → (∀ j, (o.after.toList.any fun e => Region.binds .any e && e.on == j) = true → opOk ops S a' w' j) → GStepR rw i0 P ops S Q i o a' w')
    (hl : StepsR rw i0 P ops S Q n a w l (i + 1)) : StepsR rw i0 P ops S Q n a w (o :: l) i := ⟨h, hl⟩
theorem StepsR.at_ {P : Program} {ops : Array Oper} {S : Nat → GSpec} {Q : Exit → Act → World → Prop} {n : Nat} {a : Act} {w : World} : ∀ {l : List Oper} {i : Nat}, StepsR rw i0 P ops S Q n a w l i → ∀ (k : Nat) (o : Oper), l[k]? = some o →
    ∀ a' w', GBase ops n a a' → w.grownBy w' rw → (i + k = i0 → Below w.heap.size w w') → (∀ j, (o.after.toList.any fun e => Region.binds .any e && e.on == j) = true → opOk ops S a' w' j) → GStepR rw i0 P ops S Q (i + k) o a' w'
  | [], _, _, k, o, hk => by simp at hk
  | o' :: l, i, h, k, o, hk => by
    rcases k with _ | k
    · simp only [List.getElem?_cons_zero, Option.some.injEq] at hk
      subst hk
      exact h.1
    · rw [List.getElem?_cons_succ] at hk
      have := StepsR.at_ h.2 k o hk
      rw [show i + (k + 1) = i + 1 + k by omega]
      exact this

/-- THE LAW, as it is used: S the answers, ds the head's slots. -/
theorem wp_region_stepsR {P : Program} {id : Nat} {l : List Oper} {Q : Exit → Act → World → Prop} {a : Act} {w : World} (n : Nat) (S : List GSpec) (ds : List Nat) (hm : P.follows .mixedOrders = true) (hkp : ∀ j, j ≠ i0 → ∀ v w w', (specAt S j).p v w → w.grownBy w' rw → (specAt S j).p v w') (hB : growB l.toArray n a.tmps.size = true)
    (hds : headDsts l.toArray n = ds) (hstep : StepsR rw i0 P l.toArray (specAt S) Q n a w (l.take n) 0)
    (hend : ∀ (u : Nat → Value) w', w.grownBy w' rw → (∀ j d, j < n → (l[j]?).bind (·.dst) = some d → (specAt S j).p (u d) w') → wpList P l.toArray Q (l.drop n) (putAll a ds u) w') :
    (Code.region id l.toArray true).wp P Q a w := by
  subst hds
  refine wp_region_growR n S hm hkp hB (fun i o hi ho a' w' hb hw hp hd => ?_) hend
  have := hstep.at_ i o (by rw [List.getElem?_take, if_pos hi]; exact ho) a' w' hb hw (by rw [Nat.zero_add]; exact hp) (fun j hj => by
    obtain ⟨e, he, hh⟩ := List.any_eq_true.1 hj
    simp only [Bool.and_eq_true, beq_iff_eq] at hh
    rw [← hh.2]
    exact hd e (Array.mem_toList_iff.1 he) hh.1)
  rw [Nat.zero_add] at this
  exact this

/-- a step that turns nothing -/
theorem GStepR.of {P : Program} {ops : Array Oper} {S : Nat → GSpec} {Q : Exit → Act → World → Prop} {i : Nat} {o : Oper} {a : Act} {w : World} (h : GStep P ops S Q i o a w) : GStepR rw i0 P ops S Q i o a w := by
  unfold GStep at h
  unfold GStepR
  split
  · rename_i hw
    rw [if_pos hw] at h
    refine Oper.wp_mono ?_ h
    rintro a' w' ⟨v, h1, h2, h3⟩
    exact ⟨v, h1, ⟨only_of_below h2 _, fun _ => h2⟩, h3⟩
  · rename_i hw
    rw [if_neg hw] at h
    exact h
/-- the step that turns the block -/
theorem GStepR.run {P : Program} {ops : Array Oper} {S : Nat → GSpec} {Q : Exit → Act → World → Prop} {o : Oper} {a : Act} {w : World} (hw : Region.wanted o (yielded ops a.tmps) = true) {v : Value} {w' : World} (hr : (execOp a.eval o).run P w = .ok (.value v) w') (hg : w.grownBy w' rw) (hp : (S i0).p v w') : GStepR rw i0 P ops S Q i0 o a w := by
  unfold GStepR
  rw [if_pos hw]
  unfold Oper.wp
  rw [hr]
  exact ⟨v, rfl, ⟨hg, fun h => (h rfl).elim⟩, hp⟩
end
end Go.Proofs.YtjplgcmfifoefaaGreatDoor
namespace Go.Proofs.YtjplgcmfifoefaaGreatDoor
open Go.RowKit Go.Maps
set_option linter.unusedVariables false
set_option linter.unusedSimpArgs false
attribute [local go_sem] Oper.semAt_some

def fnOf (c : UInt8) : FuncId := if c = 110 ∨ c = 111 ∨ c = 100 then 60 else if c = 121 then 61 else if c = 107 then 62 else 64
def offOf (c : UInt8) : Nat := if c = 110 then 1 else if c = 111 then 2 else if c = 100 then 3 else 0
theorem text_any (ge k : Nat) (w : World) : Calls Tryz.prog 59 #[.pointer (some ⟨ge, k, none⟩)] w fun e w' => (∃ pb, e = .returned (.func (.func 60) #[] #[.pointer (some ⟨pb, 0, none⟩)]) ∧ w.heap.size ≤ pb ∧ pb < w'.heap.size ∧ ∃ T, Blk w' pb T #[.pointer (some ⟨ge, k, none⟩)] ∧ T ≠ 3) ∧ Below w.heap.size w w' := by
  go_enter Tryz.func59, Tryz.ntmps59
  go_wp2_with (fail)
  go_ret
  have hb := Blk.new w 108 #[.pointer (some ⟨ge, k, none⟩)]
  exact ⟨⟨w.heap.size, rfl, Nat.le_refl _, hb.lt, _, hb, by decide⟩, below_alloc (Below.refl w.heap.size w) _⟩
set_option maxHeartbeats 4000000 in
theorem take_any (c : UInt8) (z : Int) (hz : z = (c.toNat : Int)) (ge : Nat) (w : World) : Calls Tryz.prog 37 #[.int .i32 z, .pointer (some ⟨ge, 0, none⟩)] w fun e w' => (∃ pb, e = .returned (.func (.func (fnOf c)) #[] #[.pointer (some ⟨pb, 0, none⟩)]) ∧ w.heap.size ≤ pb ∧ pb < w'.heap.size ∧ ∃ T, Blk w' pb T #[.pointer (some ⟨ge, offOf c, none⟩)] ∧ T ≠ 3) ∧ Below w.heap.size w w' := by
  have hb := Blk.new w 78 #[.pointer (some ⟨ge, 0, none⟩)]
  have hB := below_alloc (Below.refl w.heap.size w) (.cells #[.pointer (some ⟨ge, 0, none⟩)] 78)
  obtain ⟨w1, hw1⟩ : ∃ y, y = w.alloc (.cells #[.pointer (some ⟨ge, 0, none⟩)] 78) := ⟨_, rfl⟩
  rw [← hw1] at hb hB
  have hbl := hb.lt
  have cP : w1.cell? ⟨w.heap.size, 0, none⟩ = some (.pointer (some ⟨ge, 0, none⟩)) := hb.cellv rfl
  replace hw1 := Lib.hid hw1
  have kT := fun k => text_any ge k w1
  by_cases c110 : c = 110
  · obtain rfl : z = 110 := by rw [hz, c110]; rfl
    have hv : Hid (fnOf c = 60 ∧ offOf c = 1) := Lib.hid (by subst c110; exact ⟨rfl, rfl⟩)
    clear hz c110
    go_enter Tryz.func37, Tryz.ntmps37
    go_upto_region 2 with (fail)
    rw [← hw1.out]
    go_wp2_with (go_at_call 59; refine (kT _).mono ?_; clear kT; rintro e w3 ⟨⟨pb, rfl, h1, h2, h3⟩, hB3⟩)
    go_ret
    rw [hv.out.1, hv.out.2]
    exact ⟨⟨pb, rfl, by omega, h2, h3⟩, hB.trans (hB3.mono hB.size)⟩
  have f110 : (z == 110) = false := beq_eq_false_iff_ne.2 (by rw [hz]; intro h; exact c110 (UInt8.toNat_inj.1 (by show c.toNat = 110; omega)))
  by_cases c111 : c = 111
  · obtain rfl : z = 111 := by rw [hz, c111]; rfl
    have hv : Hid (fnOf c = 60 ∧ offOf c = 2) := Lib.hid (by subst c111; exact ⟨rfl, rfl⟩)
    clear hz c111 c110
    go_enter Tryz.func37, Tryz.ntmps37
    go_upto_region 2 with (fail)
    rw [← hw1.out]
    go_wp2_with (go_at_call 59; refine (kT _).mono ?_; clear kT; rintro e w3 ⟨⟨pb, rfl, h1, h2, h3⟩, hB3⟩)
    go_ret
    rw [hv.out.1, hv.out.2]
    exact ⟨⟨pb, rfl, by omega, h2, h3⟩, hB.trans (hB3.mono hB.size)⟩
  have f111 : (z == 111) = false := beq_eq_false_iff_ne.2 (by rw [hz]; intro h; exact c111 (UInt8.toNat_inj.1 (by show c.toNat = 111; omega)))
  by_cases c100 : c = 100
  · obtain rfl : z = 100 := by rw [hz, c100]; rfl
    have hv : Hid (fnOf c = 60 ∧ offOf c = 3) := Lib.hid (by subst c100; exact ⟨rfl, rfl⟩)
    clear hz c100 c110 c111
    go_enter Tryz.func37, Tryz.ntmps37
    go_upto_region 2 with (fail)
    rw [← hw1.out]
    go_wp2_with (go_at_call 59; refine (kT _).mono ?_; clear kT; rintro e w3 ⟨⟨pb, rfl, h1, h2, h3⟩, hB3⟩)
    go_ret
    rw [hv.out.1, hv.out.2]
    exact ⟨⟨pb, rfl, by omega, h2, h3⟩, hB.trans (hB3.mono hB.size)⟩
  have f100 : (z == 100) = false := beq_eq_false_iff_ne.2 (by rw [hz]; intro h; exact c100 (UInt8.toNat_inj.1 (by show c.toNat = 100; omega)))
  clear kT
  have hob : offOf c = 0 := by unfold offOf; rw [if_neg c110, if_neg c111, if_neg c100]
  have hn3 : ¬ (c = 110 ∨ c = 111 ∨ c = 100) := fun h => h.elim c110 fun h => h.elim c111 c100
  by_cases c121 : c = 121
  · obtain rfl : z = 121 := by rw [hz, c121]; rfl
    have hv : Hid (fnOf c = 61 ∧ offOf c = 0) := Lib.hid ⟨by unfold fnOf; rw [if_neg hn3, if_pos c121], hob⟩
    clear hz c110 c111 c100 c121 hn3 hob
    go_enter Tryz.func37, Tryz.ntmps37
    go_upto_region 2 with (fail)
    rw [← hw1.out]
    go_wp2_with (fail)
    go_ret
    rw [hv.out.1, hv.out.2]
    exact ⟨⟨w.heap.size, rfl, Nat.le_refl _, hbl, _, hb, by decide⟩, hB⟩
  have f121 : (z == 121) = false := beq_eq_false_iff_ne.2 (by rw [hz]; intro h; exact c121 (UInt8.toNat_inj.1 (by show c.toNat = 121; omega)))
  by_cases c107 : c = 107
  · obtain rfl : z = 107 := by rw [hz, c107]; rfl
    have hv : Hid (fnOf c = 62 ∧ offOf c = 0) := Lib.hid ⟨by unfold fnOf; rw [if_neg hn3, if_neg c121, if_pos c107], hob⟩
    clear hz c110 c111 c100 c121 c107 hn3 hob
    go_enter Tryz.func37, Tryz.ntmps37
    go_upto_region 2 with (fail)
    rw [← hw1.out]
    go_wp2_with (fail)
    go_ret
    rw [hv.out.1, hv.out.2]
    exact ⟨⟨w.heap.size, rfl, Nat.le_refl _, hbl, _, hb, by decide⟩, hB⟩
  have f107 : (z == 107) = false := beq_eq_false_iff_ne.2 (by rw [hz]; intro h; exact c107 (UInt8.toNat_inj.1 (by show c.toNat = 107; omega)))
  have hv : Hid (fnOf c = 64 ∧ offOf c = 0) := Lib.hid ⟨by unfold fnOf; rw [if_neg hn3, if_neg c121, if_neg c107], hob⟩
  clear hz c110 c111 c100 c121 c107 hn3 hob
  go_enter Tryz.func37, Tryz.ntmps37
  go_upto_region 2 with (fail)
  rw [← hw1.out]
  go_wp2_with (fail)
  go_ret
  rw [hv.out.1, hv.out.2]
  exact ⟨⟨w.heap.size, rfl, Nat.le_refl _, hbl, _, hb, by decide⟩, hB⟩
theorem enter_take (args : Array Value) (w : World) : (callFunc 37 args).run Tryz.prog w = .ok (.enter 37 args) w := by kernel_rfl
end Go.Proofs.YtjplgcmfifoefaaGreatDoor
