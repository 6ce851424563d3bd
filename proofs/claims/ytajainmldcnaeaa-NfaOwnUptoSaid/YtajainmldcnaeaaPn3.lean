/- Part 3 of a proof; packed: the texts that it was made of follow one another. No condition beyond those named in each lemma. -/
import Derived.Test.YtajainmldcnaeaaPn1
import Derived.Test.YtajainmldcnaeaaPn2
import Derived.Test.YtajainmldcnaeaaProg
import Derived.Test.YtajainmldcnaeaaRows
import Derived.Below
import Derived.ChangeOld
import Derived.Deep.CutBlock
import Derived.Deep.Slices
import Derived.JoinedCond
import Derived.Lib.Bytealg
import Derived.Lib.IndexLaws
import Derived.Lib.IndexMore
import Derived.Lib.SmallJoins
import Derived.Lib.Strings
import Derived.Lib.Walk
import Derived.OpenShut
import Derived.ProofKit
import Derived.Shelf.LaysM
import Derived.Shelf.Small.Strs
import Derived.Shelf.Strings.Search1
import Derived.Shelf.Strings.Search2
import Derived.Shelf.Strings.Search3
import Derived.Shelf.Strings.Shaped
import Derived.Shelf.Vars
import Derived.ShutString
import Derived.SizedLaws
import Derived.WalkKit
namespace Go.Proofs.Ytajainmldcnaeaa
open Go.RowKit
set_option linter.unusedVariables false
set_option linter.unusedSimpArgs false

/-- what octets.Class answers of a name -/
def clsV (l : List Nat) : Value := match Ere.nameB l with
  | some x => .tuple #[.agg (setC x), .int .i64 0]
  | none => .tuple #[.agg (setC 0), .int .i64 30]
theorem u8_lit {l : List UInt8} {m : List UInt8} (h : l.map UInt8.toNat = m.map UInt8.toNat) : l = m := by
  induction l generalizing m with
  | nil => cases m <;> simp_all
  | cons a l ih =>
    cases m with
    | nil => simp at h
    | cons b m =>
      simp only [List.map_cons, List.cons.injEq] at h
      rw [UInt8.toNat_inj.1 h.1, ih h.2]
theorem clsV_alnum : clsV (([97, 108, 110, 117, 109] : List UInt8).map UInt8.toNat) = .tuple #[.agg (setC cls_alnum), .int .i64 0] := by kernel_rfl
theorem clsV_alpha : clsV (([97, 108, 112, 104, 97] : List UInt8).map UInt8.toNat) = .tuple #[.agg (setC cls_alpha), .int .i64 0] := by kernel_rfl
theorem clsV_lower : clsV (([108, 111, 119, 101, 114] : List UInt8).map UInt8.toNat) = .tuple #[.agg (setC cls_lower), .int .i64 0] := by kernel_rfl
theorem clsV_upper : clsV (([117, 112, 112, 101, 114] : List UInt8).map UInt8.toNat) = .tuple #[.agg (setC cls_upper), .int .i64 0] := by kernel_rfl
theorem clsV_xdigit : clsV (([120, 100, 105, 103, 105, 116] : List UInt8).map UInt8.toNat) = .tuple #[.agg (setC cls_xdigit), .int .i64 0] := by kernel_rfl
theorem clsV_digit : clsV (([100, 105, 103, 105, 116] : List UInt8).map UInt8.toNat) = .tuple #[.agg (setC cls_digit), .int .i64 0] := by kernel_rfl
theorem clsV_space : clsV (([115, 112, 97, 99, 101] : List UInt8).map UInt8.toNat) = .tuple #[.agg (setC cls_space), .int .i64 0] := by kernel_rfl
theorem clsV_blank : clsV (([98, 108, 97, 110, 107] : List UInt8).map UInt8.toNat) = .tuple #[.agg (setC cls_blank), .int .i64 0] := by kernel_rfl
theorem clsV_cntrl : clsV (([99, 110, 116, 114, 108] : List UInt8).map UInt8.toNat) = .tuple #[.agg (setC cls_cntrl), .int .i64 0] := by kernel_rfl
theorem clsV_print : clsV (([112, 114, 105, 110, 116] : List UInt8).map UInt8.toNat) = .tuple #[.agg (setC cls_print), .int .i64 0] := by kernel_rfl
theorem clsV_graph : clsV (([103, 114, 97, 112, 104] : List UInt8).map UInt8.toNat) = .tuple #[.agg (setC cls_graph), .int .i64 0] := by kernel_rfl
theorem clsV_punct : clsV (([112, 117, 110, 99, 116] : List UInt8).map UInt8.toNat) = .tuple #[.agg (setC cls_punct), .int .i64 0] := by kernel_rfl
theorem nameB_none (l : List UInt8) (h_alnum : ¬ l = [97, 108, 110, 117, 109]) (h_alpha : ¬ l = [97, 108, 112, 104, 97]) (h_lower : ¬ l = [108, 111, 119, 101, 114]) (h_upper : ¬ l = [117, 112, 112, 101, 114]) (h_xdigit : ¬ l = [120, 100, 105, 103, 105, 116]) (h_digit : ¬ l = [100, 105, 103, 105, 116]) (h_space : ¬ l = [115, 112, 97, 99, 101]) (h_blank : ¬ l = [98, 108, 97, 110, 107]) (h_cntrl : ¬ l = [99, 110, 116, 114, 108]) (h_print : ¬ l = [112, 114, 105, 110, 116]) (h_graph : ¬ l = [103, 114, 97, 112, 104]) (h_punct : ¬ l = [112, 117, 110, 99, 116]) : Ere.nameB (l.map UInt8.toNat) = none := by
  unfold Ere.nameB
  rw [if_neg (fun e => h_upper (u8_lit (m := [117, 112, 112, 101, 114]) (by rw [e]; rfl)))]
  rw [if_neg (fun e => h_lower (u8_lit (m := [108, 111, 119, 101, 114]) (by rw [e]; rfl)))]
  rw [if_neg (fun e => h_digit (u8_lit (m := [100, 105, 103, 105, 116]) (by rw [e]; rfl)))]
  rw [if_neg (fun e => h_alpha (u8_lit (m := [97, 108, 112, 104, 97]) (by rw [e]; rfl)))]
  rw [if_neg (fun e => h_alnum (u8_lit (m := [97, 108, 110, 117, 109]) (by rw [e]; rfl)))]
  rw [if_neg (fun e => h_xdigit (u8_lit (m := [120, 100, 105, 103, 105, 116]) (by rw [e]; rfl)))]
  rw [if_neg (fun e => h_blank (u8_lit (m := [98, 108, 97, 110, 107]) (by rw [e]; rfl)))]
  rw [if_neg (fun e => h_space (u8_lit (m := [115, 112, 97, 99, 101]) (by rw [e]; rfl)))]
  rw [if_neg (fun e => h_cntrl (u8_lit (m := [99, 110, 116, 114, 108]) (by rw [e]; rfl)))]
  rw [if_neg (fun e => h_graph (u8_lit (m := [103, 114, 97, 112, 104]) (by rw [e]; rfl)))]
  rw [if_neg (fun e => h_print (u8_lit (m := [112, 114, 105, 110, 116]) (by rw [e]; rfl)))]
  rw [if_neg (fun e => h_punct (u8_lit (m := [112, 117, 110, 99, 116]) (by rw [e]; rfl)))]
theorem class_all (s : ByteArray) (w : World) : Calls Try.prog 105 #[.string s] w fun e w' => e = .returned (clsV (s.toList.map UInt8.toNat)) ∧ Below w.heap.size w w' := by
  by_cases h_alnum : s.toList = [97, 108, 110, 117, 109]
  · rw [h_alnum, clsV_alnum]
    exact class_alnum s w (Lib.hid h_alnum)
  by_cases h_alpha : s.toList = [97, 108, 112, 104, 97]
  · rw [h_alpha, clsV_alpha]
    exact class_alpha s w (Lib.hid h_alpha)
  by_cases h_lower : s.toList = [108, 111, 119, 101, 114]
  · rw [h_lower, clsV_lower]
    exact class_lower s w (Lib.hid h_lower)
  by_cases h_upper : s.toList = [117, 112, 112, 101, 114]
  · rw [h_upper, clsV_upper]
    exact class_upper s w (Lib.hid h_upper)
  by_cases h_xdigit : s.toList = [120, 100, 105, 103, 105, 116]
  · rw [h_xdigit, clsV_xdigit]
    exact class_xdigit s w (Lib.hid h_xdigit)
  by_cases h_digit : s.toList = [100, 105, 103, 105, 116]
  · rw [h_digit, clsV_digit]
    exact class_digit s w (Lib.hid h_digit)
  by_cases h_space : s.toList = [115, 112, 97, 99, 101]
  · rw [h_space, clsV_space]
    exact class_space s w (Lib.hid h_space)
  by_cases h_blank : s.toList = [98, 108, 97, 110, 107]
  · rw [h_blank, clsV_blank]
    exact class_blank s w (Lib.hid h_blank)
  by_cases h_cntrl : s.toList = [99, 110, 116, 114, 108]
  · rw [h_cntrl, clsV_cntrl]
    exact class_cntrl s w (Lib.hid h_cntrl)
  by_cases h_print : s.toList = [112, 114, 105, 110, 116]
  · rw [h_print, clsV_print]
    exact class_print s w (Lib.hid h_print)
  by_cases h_graph : s.toList = [103, 114, 97, 112, 104]
  · rw [h_graph, clsV_graph]
    exact class_graph s w (Lib.hid h_graph)
  by_cases h_punct : s.toList = [112, 117, 110, 99, 116]
  · rw [h_punct, clsV_punct]
    exact class_punct s w (Lib.hid h_punct)
  rw [show clsV (s.toList.map UInt8.toNat) = .tuple #[.agg (setC 0), .int .i64 30] by unfold clsV; rw [nameB_none s.toList h_alnum h_alpha h_lower h_upper h_xdigit h_digit h_space h_blank h_cntrl h_print h_graph h_punct]]
  exact class_none s w h_alnum h_alpha h_lower h_upper h_xdigit h_digit h_space h_blank h_cntrl h_print h_graph h_punct
end Go.Proofs.Ytajainmldcnaeaa
namespace Go.Proofs.Ytajainmldcnaeaa
open Go.RowKit Go.Maps Go.WideMaps
set_option linter.unusedVariables false
set_option linter.unusedSimpArgs false

section
variable {α : Type} {enc : α → Array Value} {size : Nat}
end

theorem info_nfa : (Try.prog.info? 52).map (·.size) = some 3 := by kernel_rfl
section
variable {ops : Array Oper} {rest : List Oper} {o : Oper} {a : Act} {w : World} {Q : Exit → Act → World → Prop}
theorem wl_load_nfa (hgd : o.guard = none) (x : Operand) (ho : o.op = .load 52 x)
    (g : Nat) (hx : a.eval x = .pointer (some ⟨g, 0, none⟩)) (s : Int) (A : Option Addr) (n c : Nat) (B : Option Addr) (m d : Nat) (hb : Blk w g 52 (nfaC s A n c B m d))
    (h : wpList Try.prog ops Q rest (a.put o.dst (.agg (nfaC s A n c B m d))) w) : wpList Try.prog ops Q (o :: rest) a w :=
  wpList_load_row hgd _ x ho g hx _ _ _ _ hb Try.underlying52 rfl (info_nfa.trans rfl) h
theorem wl_store_nfa (hgd : o.guard = none) (x y : Operand) (ho : o.op = .store 52 x y)
    (g : Nat) (s : Int) (A : Option Addr) (n c : Nat) (B : Option Addr) (m d : Nat) (hx : a.eval x = .pointer (some ⟨g, 0, none⟩)) (hy : a.eval y = .agg (nfaC s A n c B m d))
    (s0 : Int) (A0 : Option Addr) (n0 c0 : Nat) (B0 : Option Addr) (m0 d0 : Nat) (hb : Blk w g 52 (nfaC s0 A0 n0 c0 B0 m0 d0))
    (h : ∀ w', Blk w' g 52 (nfaC s A n c B m d) → w.grownBy w' (some g) → wpList Try.prog ops Q rest (a.put o.dst undef) w') : wpList Try.prog ops Q (o :: rest) a w :=
  wpList_store_row hgd _ x y ho g _ hx hy _ _ hb (info_nfa.trans rfl) rfl (by simp [nfaC, Value.oneCell']) (h _ (hb.setRow_same _) (only_setRow (only_refl _ _) _))
end
section
variable {ops : Array Oper} {S : Nat → GSpec} {Q : Exit → Act → World → Prop} {i : Nat} {o : Oper} {a : Act} {w : World}
end
section
variable {ops : Array Oper} {S : Nat → GSpec} {Q : Exit → Act → World → Prop} {i : Nat} {o : Oper} {a : Act} {w : World}
end
theorem Own.kept_ {α : Type} {enc : α → Array Value} {size base : Nat} {e : TypeId} {w w' : World} {v : Value} {ys : List α} {row : Option Nat} (h : Own w base e size enc v ys) (hg : w.grownBy w' row) (hne : ∀ j, v.ownBlock = some j → row = some j → False) : Own w' base e size enc v ys := by
  cases hv : v.ownBlock with
  | none => exact World.ownsRow.kept h hg (by simp [hv])
  | some j =>
    refine World.ownsRow.kept h hg (.inr ?_)
    rw [hv]
    intro e
    exact hne j hv e.symm
end Go.Proofs.Ytajainmldcnaeaa
namespace Go.Proofs.Ytajainmldcnaeaa
open Go.RowKit Go.Maps
set_option linter.unusedVariables false
set_option linter.unusedSimpArgs false
attribute [local go_sem] Oper.semAt_some

/-- a reader's two cells -/
def rdC (p : ByteArray) (i : Nat) : Array Value := #[.string p, .int .i64 (i : Int)]
theorem more_any (g : Nat) (p : ByteArray) (i : Nat) (w : World) (h : Blk w g 76 (rdC p i)) :
    Calls Try.prog 66 #[.pointer (some ⟨g, 0, none⟩)] w fun e w' => e = .returned (.bool (decide (i < p.size))) ∧ Below w.heap.size w w' := by
  have c0 : w.cell? ⟨g, 0, none⟩ = some (.string p) := h.cellv rfl
  have c1 : w.cell? ⟨g, 1, none⟩ = some (.int .i64 (i : Int)) := h.cellv rfl
  by_cases hi : i < p.size
  · have hI : (i : Int) < p.size := by omega
    go_enter Try.func66, Try.ntmps66
    go_wp2_with (fail)
    go_big_region
    go_wp2_with (fail)
    go_ret
    exact ⟨by simp [hi], (Below.refl w.heap.size w).drew⟩
  · have hI : ¬ (i : Int) < p.size := by omega
    go_enter Try.func66, Try.ntmps66
    go_wp2_with (fail)
    go_big_region
    go_wp2_with (fail)
    go_ret
    exact ⟨by simp [hi], (Below.refl w.heap.size w).drew⟩
theorem is_any (g : Nat) (p : ByteArray) (k i c : Nat) (w : World) (h : Blk w g 76 (rdC p k)) :
    Calls Try.prog 57 #[.pointer (some ⟨g, 0, none⟩), .int .i64 (i : Int), .int .u8 (c : Int)] w fun e w' => e = .returned (.bool (Ere.isAt p i c)) ∧ Below w.heap.size w w' := by
  have c0 : w.cell? ⟨g, 0, none⟩ = some (.string p) := h.cellv rfl
  by_cases hi : i < p.size
  · have hI : (i : Int) < p.size := by omega
    have hI0 : ¬ (i : Int) < 0 := by omega
    have hv : (((p[i].toNat : Nat) : Int) == (c : Int)) = Ere.isAt p i c := by
      unfold Ere.isAt Ere.chr
      rw [dif_pos hi, decide_eq_true hi, Bool.true_and, Bool.eq_iff_iff]
      simp only [beq_iff_eq, decide_eq_true_eq]
      omega
    replace hv := Lib.hid hv
    go_enter Try.func57, Try.ntmps57
    go_wp2_with (fail)
    go_ret
    exact ⟨congrArg (fun b => Ending.returned (.bool b)) hv.out, Below.refl _ _⟩
  · have hI : ¬ (i : Int) < p.size := by omega
    have hv : Ere.isAt p i c = false := by unfold Ere.isAt; rw [decide_eq_false hi, Bool.false_and]
    rw [hv]
    go_enter Try.func57, Try.ntmps57
    go_wp2_with (fail)
    go_ret
    exact ⟨rfl, Below.refl _ _⟩
theorem enter_is (args : Array Value) (w : World) : (callFunc 57 args).run Try.prog w = .ok (.enter 57 args) w := by kernel_rfl
end Go.Proofs.Ytajainmldcnaeaa
namespace Go.Proofs.Ytajainmldcnaeaa
open Go.RowKit Go.Maps
set_option linter.unusedVariables false
set_option linter.unusedSimpArgs false
attribute [local go_sem] Oper.semAt_some

set_option maxHeartbeats 1000000 in
set_option maxRecDepth 100000 in
theorem slib_any (s : ByteArray) (c : Int) (w : World) :
    Calls Try.prog 55 #[.string s, .int .u8 c] w fun e w' => e = .returned (.int .i64 (Lib.indexByte s.data.toList c.toNat.toUInt8)) ∧ w' = w := by
  go_enter Try.func55, Try.ntmps55
  go_wp2
  rw [run_callFunc_extern Try.func65 (by kernel_rfl) (by kernel_rfl) (by kernel_rfl) (e := Extern.BytealgIndexByte.indexByte) (by kernel_rfl), Lib.run_indexByteString]
  simp only [Result.andThen]
  rw [Oper.upon_value]
  go_wp2
  go_ret
  exact ⟨rfl, rfl⟩
set_option maxHeartbeats 1000000 in
theorem sib_any (s : ByteArray) (c : Int) (w : World) :
    Calls Try.prog 37 #[.string s, .int .u8 c] w fun e w' => e = .returned (.int .i64 (Lib.indexByte s.data.toList c.toNat.toUInt8)) ∧ w' = w := by
  go_enter Try.func37, Try.ntmps37
  go_wp2_with (go_at_call 55; refine (slib_any _ _ _).mono ?_; rintro e w' ⟨rfl, rfl⟩)
  go_ret
  exact ⟨rfl, rfl⟩
theorem indexByte_ge (l : List UInt8) (c : UInt8) : decide (0 ≤ Lib.indexByte l c) = l.contains c := by
  cases h : l.contains c with
  | true =>
    rw [decide_eq_true_eq]
    rcases Int.lt_or_le (Lib.indexByte l c) 0 with h0 | h0
    · have h1 : Lib.indexByte l c = -1 := by
        have := Lib.indexByte_ge l c
        omega
      have h2 := Lib.indexByte_none h1
      obtain ⟨i, hi, e⟩ := List.mem_iff_getElem.1 (List.contains_iff_mem.1 h)
      exact absurd (by rw [List.getElem?_eq_getElem hi, e]) (h2 i)
    · exact h0
  | false =>
    rw [decide_eq_false_iff_not]
    intro h0
    obtain ⟨o, ho⟩ := Int.eq_ofNat_of_zero_le h0
    have h2 := (Lib.indexByte_some ho).1
    have h3 : c ∈ l := List.mem_of_getElem? h2
    have h4 := List.contains_iff_mem.2 h3
    rw [h] at h4
    cases h4
theorem contains_map (l : List UInt8) (c : UInt8) : (l.map UInt8.toNat).contains c.toNat = l.contains c := by
  rw [Bool.eq_iff_iff, List.contains_iff_mem, List.contains_iff_mem, List.mem_map]
  constructor
  · rintro ⟨a, ha, e⟩
    rw [← UInt8.toNat_inj.1 e]
    exact ha
  · exact fun h => ⟨c, h, rfl⟩
set_option maxHeartbeats 1000000 in
theorem one_any (g : Nat) (p o : ByteArray) (k i : Nat) (w : World) (h : Blk w g 76 (rdC p k)) :
    Calls Try.prog 81 #[.pointer (some ⟨g, 0, none⟩), .int .i64 (i : Int), .string o] w fun e w' => e = .returned (.bool (Ere.oneOf p i (o.data.toList.map UInt8.toNat))) ∧ Below w.heap.size w w' := by
  have c0 : w.cell? ⟨g, 0, none⟩ = some (.string p) := h.cellv rfl
  by_cases hi : i < p.size
  · have hI : (i : Int) < p.size := by omega
    have hI0 : ¬ (i : Int) < 0 := by omega
    have hv : decide (0 ≤ Lib.indexByte o.data.toList ((p[i].toNat : Nat) : Int).toNat.toUInt8) = Ere.oneOf p i (o.data.toList.map UInt8.toNat) := by
      unfold Ere.oneOf Ere.chr
      rw [dif_pos hi, decide_eq_true hi, Bool.true_and, indexByte_ge, contains_map]
      congr 1
      simp
    obtain ⟨z, hz⟩ : ∃ z, Lib.indexByte o.data.toList ((p[i].toNat : Nat) : Int).toNat.toUInt8 = z := ⟨_, rfl⟩
    have hc := sib_any o ((p[i].toNat : Nat) : Int) w
    rw [hz] at hv hc
    clear hz
    replace hv := Lib.hid hv
    go_enter Try.func81, Try.ntmps81
    go_wp2_with (go_at_call 37; refine hc.mono ?_; rintro e w' ⟨rfl, rfl⟩)
    go_ret
    exact ⟨congrArg (fun b => Ending.returned (.bool b)) hv.out, Below.refl _ _⟩
  · have hI : ¬ (i : Int) < p.size := by omega
    have hv : Ere.oneOf p i (o.data.toList.map UInt8.toNat) = false := by unfold Ere.oneOf; rw [decide_eq_false hi, Bool.false_and]
    rw [hv]
    go_enter Try.func81, Try.ntmps81
    go_wp2_with (fail)
    go_ret
    exact ⟨rfl, Below.refl _ _⟩
end Go.Proofs.Ytajainmldcnaeaa
namespace Go.Proofs.Ytajainmldcnaeaa
open Go.RowKit Go.Maps
set_option linter.unusedVariables false
set_option linter.unusedSimpArgs false

structure Turn (lo hi : Nat) (w w' : World) : Prop where
  os : w'.os = w.os
  tape : w'.tape = w.tape
  output : w'.output = w.output
  size : w.heap.size ≤ w'.heap.size
  block : ∀ k, k < w.heap.size → (k < lo ∨ hi ≤ k) → w'.heap[k]? = w.heap[k]?
section
variable {lo hi N g : Nat} {w w' w2 : World} {t : TypeId} {cs : Array Value}
theorem Turn.refl (lo hi : Nat) (w : World) : Turn lo hi w w := ⟨rfl, rfl, rfl, Nat.le_refl _, fun _ _ _ => rfl⟩
theorem Turn.trans (h : Turn lo hi w w') (k : Turn lo hi w' w2) : Turn lo hi w w2 := ⟨k.os.trans h.os, k.tape.trans h.tape, k.output.trans h.output, Nat.le_trans h.size k.size, fun j hj hh => (k.block j (by have := h.size; omega) hh).trans (h.block j hj hh)⟩
theorem Turn.of_below (h : Below w.heap.size w w') : Turn lo hi w w' := ⟨h.os, h.tape, h.output, h.size, fun k hk _ => h.block k hk⟩
theorem Turn.then_ (h : Turn lo hi w w') (k : Below w'.heap.size w' w2) : Turn lo hi w w2 := h.trans (Turn.of_below k)
theorem Turn.grown {row : Option Nat} (h : Turn lo hi w w') (hg : w'.grownBy w2 row) (hr : ∀ g, row = some g → (lo ≤ g ∧ g < hi) ∨ w.heap.size ≤ g) : Turn lo hi w w2 :=
  ⟨hg.os.trans h.os, hg.tape.trans h.tape, hg.output.trans h.output, Nat.le_trans h.size hg.size, fun k hk hh => (hg.block k (by have := h.size; omega) (fun e => by
    have := hr k e.symm
    omega)).trans (h.block k hk hh)⟩
theorem Turn.below (h : Turn lo hi w w') (h1 : N ≤ lo) (h2 : N ≤ w.heap.size) : Below N w w' := ⟨h.os, h.tape, h.output, h.size, fun k hk => h.block k (by omega) (.inl (by omega))⟩
theorem blk_turn (h : Blk w g t cs) (hm : Turn lo hi w w') (hg : g < lo ∨ hi ≤ g) : Blk w' g t cs := (hm.block g h.lt hg).trans h
end
end Go.Proofs.Ytajainmldcnaeaa
namespace Go.Proofs.Ytajainmldcnaeaa
open Go.RowKit Go.Maps
set_option linter.unusedVariables false
set_option linter.unusedSimpArgs false
attribute [local go_sem] Oper.semAt_some

theorem one_digit (p : ByteArray) (i : Nat) : Ere.oneOf p i [48, 49, 50, 51, 52, 53, 54, 55, 56, 57] = (decide (i < p.size) && decide (48 ≤ Ere.chr p i) && decide (Ere.chr p i ≤ 57)) := by
  unfold Ere.oneOf
  rw [Bool.and_assoc]
  congr 1
  rw [Bool.eq_iff_iff]
  simp only [List.contains_iff_mem, List.mem_cons, List.not_mem_nil, or_false, Bool.and_eq_true, decide_eq_true_eq]
  omega
theorem cnt_end {n j m : Nat} {b : Bool} (h : b = Ere.cntOk (n, j, m)) : Ending.returned (.tuple #[.int .i64 (n : Int), .bool b]) = Ending.returned (.tuple #[.int .i64 (((n, j, m) : Nat × Nat × Nat).1 : Int), .bool (Ere.cntOk (n, j, m))]) := by rw [h]
set_option maxRecDepth 100000 in
set_option maxHeartbeats 2000000 in
theorem rcount_any (g : Nat) (p : ByteArray) (i : Nat) (w : World) (hg : Blk w g 76 (rdC p i)) (hi : i ≤ 4000000000) :
    Calls Try.prog 100 #[.pointer (some ⟨g, 0, none⟩)] w fun e w' => e = .returned (.tuple #[.int .i64 ((Ere.digits p 4 i 0 0).1 : Int), .bool (Ere.cntOk (Ere.digits p 4 i 0 0))]) ∧ Turn g (g + 1) w w' ∧ Blk w' g 76 (rdC p (Ere.digits p 4 i 0 0).2.1) := by
  have hT : Turn g (g + 1) w w := Turn.refl _ _ _
  go_enter Try.func100, Try.ntmps100
  go_wp2_with (fail)
  go_loopw [4, 5] (fun nv mv wr => ∃ n m : Nat, m ≤ 4 ∧ n < 10 ^ m ∧ nv = .int .i64 n ∧ mv = .int .i64 m ∧ Turn g (g + 1) w wr ∧ Blk wr g 76 (rdC p (i + m)) ∧ Ere.digits p 4 i 0 0 = Ere.digits p (4 - m) (i + m) n m) (fun _ mv _ => 4 - (intOf mv).toNat)
  case atStart => exact ⟨0, 0, by omega, by decide, rfl, rfl, hT, hg, rfl⟩
  case round =>
    clear hT hg
    obtain ⟨n, m, hm, hn, rfl, rfl, hT, hg, hd⟩ := hrel
    obtain ⟨q, hq⟩ : ∃ q, Ere.oneOf p (i + m) [48, 49, 50, 51, 52, 53, 54, 55, 56, 57] = q := ⟨_, rfl⟩
    have c1 : wr.cell? ⟨g, 1, none⟩ = some (.int .i64 ((i : Int) + (m : Int))) := hg.cellv (by simp [rdC])
    have ho := one_any g p ⟨#[48, 49, 50, 51, 52, 53, 54, 55, 56, 57]⟩ (i + m) (i + m) wr hg
    rw [show (List.map UInt8.toNat (⟨#[48, 49, 50, 51, 52, 53, 54, 55, 56, 57]⟩ : ByteArray).data.toList) = [48, 49, 50, 51, 52, 53, 54, 55, 56, 57] from rfl, hq, Int.natCast_add] at ho
    have hq2 := one_digit p (i + m)
    rw [hq] at hq2
    clear hq
    cases q with
    | false =>
      have hf : Ere.digits p 4 i 0 0 = (n, i + m, m) := by
        rw [hd]
        cases h4 : 4 - m with
        | zero => rfl
        | succ k => unfold Ere.digits; rw [← hq2]; rfl
      clear hd hq2
      replace hf := Lib.hid hf
      go_wp2_with (go_at_call 81; refine ho.mono ?_; rintro e w2 ⟨rfl, hB⟩)
      all_goals go_ret2
      all_goals rw [hf.out]
      all_goals refine ⟨cnt_end ?_, hT.then_ hB, blk_then hg hB⟩
      all_goals unfold Ere.cntOk
      all_goals (rw [Bool.eq_iff_iff]; simp only [Bool.and_eq_true, decide_eq_true_eq, Bool.false_eq_true, false_iff]; omega)
    | true =>
      simp only [Bool.true_eq, Bool.and_eq_true, decide_eq_true_eq] at hq2
      obtain ⟨⟨hjs, h48⟩, h57⟩ := hq2
      by_cases hm4 : m < 4
      · have hmI : (m : Int) < 4 := by omega
        have c0 : wr.cell? ⟨g, 0, none⟩ = some (.string p) := hg.cellv rfl
        go_wp2_with (go_at_call 81; refine ho.mono ?_; rintro e w2 ⟨rfl, hB⟩)
        obtain ⟨j, hj⟩ : ∃ j, i + m = j := ⟨_, rfl⟩
        have hjI : (i : Int) + (m : Int) = (j : Int) := by omega
        have hgj := blk_then hg hB
        rw [hj] at hgj hjs h48 h57
        have d0 : w2.cell? ⟨g, 0, none⟩ = some (.string p) := hgj.cellv rfl
        have d1 : w2.cell? ⟨g, 1, none⟩ = some (.int .i64 (j : Int)) := hgj.cellv rfl
        have hI : (j : Int) < p.size := by omega
        have hI0 : ¬ (j : Int) < 0 := by omega
        have hch : Ere.chr p j = (p[j]).toNat := by unfold Ere.chr; rw [dif_pos hjs]
        have h48I : 48 ≤ (((p[j]).toNat : Nat) : Int) := by omega
        have h57I : (((p[j]).toNat : Nat) : Int) ≤ 57 := by omega
        have hnb : n < 10000 := Nat.lt_of_lt_of_le hn (Nat.le_trans (Nat.pow_le_pow_right (by decide) hm) (by decide))
        have hnI : (n : Int) < 10000 := by omega
        replace hd := Lib.hid hd
        replace hj := Lib.hid hj
        replace hjI := Lib.hid hjI
        replace hch := Lib.hid hch
        clear c0 c1 ho
        go_big_region
        have hgd : Blk w2.drew g 76 (rdC p j) := hgj.drew
        have hTd : Turn g (g + 1) w w2.drew := (hT.then_ hB).then_ ((Below.refl w2.heap.size w2).drew)
        obtain ⟨w3, hw3⟩ : ∃ y, y = w2.drew := ⟨_, rfl⟩
        rw [← hw3] at hgd hTd ⊢
        clear hw3 d0 d1 hgj hB hT hg
        have e1 : w3.cell? ⟨g, 1, none⟩ = some (.int .i64 (j : Int)) := hgd.cellv rfl
        have f1 := hgd.frozen 1
        have hj9 : (j : Int) ≤ 5000000000 := by have := hj.out; omega
        have hd2 : Ere.digits p 4 i 0 0 = Ere.digits p (4 - (m + 1)) (i + (m + 1)) (10 * n + ((p[j]).toNat - 48)) (m + 1) := by
          rw [hd.out]
          have hk : 4 - m = (4 - (m + 1)) + 1 := by omega
          rw [hk]
          conv => lhs; unfold Ere.digits
          rw [hj.out, if_pos (by simp [hjs, h48, h57]), hch.out, show i + (m + 1) = j + 1 by have := hj.out; omega]
        have hn2 : 10 * n + ((p[j]).toNat - 48) < 10 ^ (m + 1) := by rw [Nat.pow_succ]; omega
        have hG2 : ∀ v, Turn g (g + 1) w (w3.setCell ⟨g, 1, none⟩ v) := fun v => hTd.grown (only_setCell (World.grownBy.refl w3 (some g)) (.inl rfl) v) (fun q e => by injection e with e; omega)
        have hB2 : Blk (w3.setCell ⟨g, 1, none⟩ (.int .i64 ((j : Int) + 1))) g 76 (rdC p (i + (m + 1))) := hgd.set_eq (by simp [rdC]; have := hj.out; omega)
        replace hd2 := Lib.hid hd2
        replace hG2 := Lib.hid hG2
        replace hB2 := Lib.hid hB2
        replace hn2 := Lib.hid hn2
        go_wp2_with (fail)
        exact ⟨⟨10 * n + ((p[j]).toNat - 48), m + 1, by omega, hn2.out, by congr 1; omega, by congr 1, hG2.out _, hB2.out, hd2.out⟩, by simp only [intOf]; omega⟩
      · have hmI : ¬ (m : Int) < 4 := by omega
        have hf : Ere.digits p 4 i 0 0 = (n, i + m, m) := by
          rw [hd, show 4 - m = 0 by omega]
          rfl
        clear hd
        replace hf := Lib.hid hf
        go_wp2_with (go_at_call 81; refine ho.mono ?_; rintro e w2 ⟨rfl, hB⟩)
        all_goals go_ret2
        all_goals rw [hf.out]
        all_goals refine ⟨cnt_end ?_, hT.then_ hB, blk_then hg hB⟩
        all_goals unfold Ere.cntOk
        all_goals (rw [Bool.eq_iff_iff]; simp only [Bool.and_eq_true, decide_eq_true_eq, Bool.false_eq_true, false_iff]; omega)
end Go.Proofs.Ytajainmldcnaeaa
namespace Go.Proofs.Ytajainmldcnaeaa
open Go.RowKit Go.Maps
set_option linter.unusedVariables false
set_option linter.unusedSimpArgs false
attribute [local go_sem] Oper.semAt_some

/-- how a reader of a pattern gives up -/
def faultE (e at_ : Nat) : Ending := .panicked [{ v := .iface 73 (.agg #[.int .i64 (e : Int), .int .i64 (at_ : Int)]), recovered := false }]
theorem give_any (e at_ : Nat) (w : World) : Calls Try.prog 40 #[.int .i64 (e : Int), .int .i64 (at_ : Int)] w fun en w' => en = faultE e at_ ∧ Below w.heap.size w w' := by
  go_enter Try.func40, Try.ntmps40
  go_wp2_with (fail)
  exact ⟨rfl, rfl, Below.refl _ _⟩
end Go.Proofs.Ytajainmldcnaeaa
namespace Go.Proofs.Ytajainmldcnaeaa
open Go.RowKit Go.Maps
set_option linter.unusedVariables false
set_option linter.unusedSimpArgs false
attribute [local go_sem] Oper.semAt_some

/-- what a call of a reader ends in: a fault, or an answer and the reader at its place -/
def RdAns {α : Type} (g : Nat) (p : ByteArray) (w : World) (val : α → Value) (r : Ere.Res α) (en : Ending) (w' : World) : Prop :=
  Turn g (g + 1) w w' ∧ match r with
    | .fault e i => en = faultE e i
    | .got x j => en = .returned (val x) ∧ Blk w' g 76 (rdC p j)
theorem digits_le (p : ByteArray) : ∀ k i n m, (Ere.digits p k i n m).2.1 ≤ i + k ∧ i ≤ (Ere.digits p k i n m).2.1
  | 0, i, n, m => by unfold Ere.digits; exact ⟨Nat.le_refl _, Nat.le_refl _⟩
  | k + 1, i, n, m => by
    unfold Ere.digits
    split
    · have := digits_le p k (i + 1) (10 * n + (Ere.chr p i - 48)) (m + 1)
      omega
    · exact ⟨by simp, by simp⟩
theorem setRd {g : Nat} {p : ByteArray} {i j : Nat} {w : World} (h : Blk w g 76 (rdC p i)) {v : Value} (hv : v = .int .i64 (j : Int)) : Blk (w.setCell ⟨g, 1, none⟩ v) g 76 (rdC p j) := h.set_eq (by rw [hv]; simp [rdC])
theorem turnRd {g : Nat} {w w' : World} (h : Turn g (g + 1) w w') (i : Nat) (v : Value) : Turn g (g + 1) w (w'.setCell ⟨g, i, none⟩ v) := h.grown (only_setCell (World.grownBy.refl w' (some g)) (.inl rfl) v) (fun q e => by injection e with e; omega)
theorem is_at (g : Nat) (p : ByteArray) (k i c : Nat) (ci : Int) (w : World) (h : Blk w g 76 (rdC p k)) (e : ci = (c : Int)) {b : Bool} (hb : Ere.isAt p i c = b) :
    Calls Try.prog 57 #[.pointer (some ⟨g, 0, none⟩), .int .i64 (i : Int), .int .u8 ci] w fun e w' => e = .returned (.bool b) ∧ Below w.heap.size w w' := by
  subst e; subst hb
  exact is_any g p k i c w h
set_option maxRecDepth 100000 in
set_option maxHeartbeats 4000000 in
theorem counts_any (g : Nat) (p : ByteArray) (i : Nat) (w : World) (h : Blk w g 76 (rdC p i)) (hi : i ≤ 2000) :
    Calls Try.prog 88 #[.pointer (some ⟨g, 0, none⟩)] w fun e w' => RdAns g p w (fun c : Nat × Int => .tuple #[.int .i64 (c.1 : Int), .int .i64 c.2]) (Ere.countsR p i) e w' := by
  have c1 : w.cell? ⟨g, 1, none⟩ = some (.int .i64 (i : Int)) := h.cellv rfl
  have f1 := h.frozen 1
  have hiI : (i : Int) ≤ 2000 := by omega
  have hT := Turn.refl g (g + 1) w
  obtain ⟨r, hr0⟩ : ∃ r, Ere.countsR p i = r := ⟨_, rfl⟩
  rw [hr0]
  replace hr0 := Lib.hid hr0
  go_enter Try.func88, Try.ntmps88
  go_upto_region 3 with (fail)
  have h2 := setRd h (v := .int .i64 ((i : Int) + 1)) (j := i + 1) (by simp)
  have hT2 := turnRd hT 1 (.int .i64 ((i : Int) + 1))
  obtain ⟨w2, hw2⟩ : ∃ y, y = w.setCell ⟨g, 1, none⟩ (.int .i64 ((i : Int) + 1)) := ⟨_, rfl⟩
  rw [← hw2] at h2 hT2 ⊢
  clear hw2 hT c1 f1
  have hc := rcount_any g p (i + 1) w2 h2 (by omega)
  obtain ⟨n1, hn1⟩ : ∃ n, (Ere.digits p 4 (i + 1) 0 0).1 = n := ⟨_, rfl⟩
  obtain ⟨j1, hj1⟩ : ∃ n, (Ere.digits p 4 (i + 1) 0 0).2.1 = n := ⟨_, rfl⟩
  obtain ⟨o1, ho1⟩ : ∃ n, Ere.cntOk (Ere.digits p 4 (i + 1) 0 0) = n := ⟨_, rfl⟩
  have hjb := digits_le p 4 (i + 1) 0 0
  rw [hn1, hj1, ho1] at hc
  rw [hj1] at hjb
  have hR : Ere.countsR p i = if o1 && Ere.isAt p j1 44 then
      if Ere.isAt p (j1 + 1) 125 then .got (n1, -1) (j1 + 1)
      else if !Ere.cntOk (Ere.digits p 4 (j1 + 1) 0 0) || !Ere.isAt p (Ere.digits p 4 (j1 + 1) 0 0).2.1 125 || decide ((Ere.digits p 4 (j1 + 1) 0 0).1 < n1) then .fault 45 i else .got (n1, ((Ere.digits p 4 (j1 + 1) 0 0).1 : Int)) (Ere.digits p 4 (j1 + 1) 0 0).2.1
    else if !o1 || !Ere.isAt p j1 125 then .fault 45 i else .got (n1, (n1 : Int)) j1 := by
    unfold Ere.countsR
    simp only [hn1, hj1, ho1]
  replace hR := Lib.hid hR
  clear hn1 hj1 ho1
  go_upto_region 5 with (go_at_call 100; refine hc.mono ?_; rintro e w3 ⟨rfl, hT3, h3⟩)
  replace hc := Lib.hid hc
  have hT4 : Turn g (g + 1) w w3 := hT2.trans hT3
  clear hT2 hT3 h2 hc
  obtain ⟨a44, h44⟩ : ∃ b, Ere.isAt p j1 44 = b := ⟨_, rfl⟩
  have k44 := is_at g p j1 j1 44 44 w3 h3 rfl h44
  rw [hr0.out] at hR
  rw [h44] at hR
  have hf0 : o1 = false → r = .fault 45 i := by rintro rfl; rw [hR.out]; simp
  have hf1 : o1 = true → a44 = false → Ere.isAt p j1 125 = false → r = .fault 45 i := by rintro rfl h1 h2; rw [hR.out, h1, h2]; simp
  have hf2 : o1 = true → a44 = false → Ere.isAt p j1 125 = true → r = .got (n1, (n1 : Int)) j1 := by rintro rfl h1 h2; rw [hR.out, h1, h2]; simp
  have hf3 : o1 = true → a44 = true → Ere.isAt p (j1 + 1) 125 = true → r = .got (n1, -1) (j1 + 1) := by rintro rfl h1 h2; rw [hR.out, h1, h2]; simp
  have hf4 : o1 = true → a44 = true → Ere.isAt p (j1 + 1) 125 = false → Ere.cntOk (Ere.digits p 4 (j1 + 1) 0 0) = false → r = .fault 45 i := by rintro rfl h1 h2 h5; rw [hR.out, h1, h2, h5]; simp
  have hf5 : o1 = true → a44 = true → Ere.isAt p (j1 + 1) 125 = false → Ere.isAt p (Ere.digits p 4 (j1 + 1) 0 0).2.1 125 = false → r = .fault 45 i := by rintro rfl h1 h2 h5; rw [hR.out, h1, h2, h5]; simp
  have hf6 : o1 = true → a44 = true → Ere.isAt p (j1 + 1) 125 = false → (Ere.digits p 4 (j1 + 1) 0 0).1 < n1 → r = .fault 45 i := by rintro rfl h1 h2 h5; rw [hR.out, h1, h2]; simp [h5]
  have hf7 : o1 = true → a44 = true → Ere.isAt p (j1 + 1) 125 = false → Ere.cntOk (Ere.digits p 4 (j1 + 1) 0 0) = true → Ere.isAt p (Ere.digits p 4 (j1 + 1) 0 0).2.1 125 = true → ¬ (Ere.digits p 4 (j1 + 1) 0 0).1 < n1 → r = .got (n1, ((Ere.digits p 4 (j1 + 1) 0 0).1 : Int)) (Ere.digits p 4 (j1 + 1) 0 0).2.1 := by rintro rfl h1 h2 h3 h4 h5; rw [hR.out, h1, h2, h3, h4]; simp [h5]
  clear hR hr0 h44
  have c0 : w3.cell? ⟨g, 0, none⟩ = some (.string p) := h3.cellv rfl
  have c1 : w3.cell? ⟨g, 1, none⟩ = some (.int .i64 (j1 : Int)) := h3.cellv rfl
  have f1 := h3.frozen 1
  have hj1I : (j1 : Int) ≤ 3000 := by omega
  cases o1 with
  | false =>
    have hr := Lib.hid (hf0 (by trivial))
    clear hf0 hf1 hf2 hf3 hf4 hf5 hf6 hf7 k44
    go_wp2_with (go_at_call 40; refine (give_any 45 i _).mono ?_; rintro e w4 ⟨hfe, hB⟩)
    rw [hr.out]
    exact ⟨rfl, hT4.then_ hB, hfe⟩
  | true =>
    clear hf0
    cases a44 with
    | false =>
      clear hf3 hf4 hf5 hf6 hf7
      have hn : ¬ (n1 : Int) < n1 := by omega
      obtain ⟨b, hb⟩ : ∃ b, Ere.isAt p j1 125 = b := ⟨_, rfl⟩
      go_upto_region 10 with (go_at_call 57; refine k44.mono ?_; rintro e w4 ⟨rfl, hB⟩)
      have h4 := blk_then h3 hB
      have hT5 := hT4.then_ hB
      clear h3 hT4 hB k44 c0 c1 f1
      have k125 := is_at g p j1 j1 125 125 w4 h4 rfl hb
      have c0 : w4.cell? ⟨g, 0, none⟩ = some (.string p) := h4.cellv rfl
      have c1 : w4.cell? ⟨g, 1, none⟩ = some (.int .i64 (j1 : Int)) := h4.cellv rfl
      cases b with
      | false =>
        have hr := Lib.hid (hf1 (by trivial) (by trivial) hb)
        clear hf1 hf2 hb
        go_wp2_with (first | (go_at_call 57; refine k125.mono ?_; rintro e w5 ⟨rfl, hB⟩) | (go_at_call 40; refine (give_any 45 i _).mono ?_; rintro e w6 ⟨hfe, hB2⟩))
        rw [hr.out]
        exact ⟨rfl, (hT5.then_ hB).then_ hB2, hfe⟩
      | true =>
        have hr := Lib.hid (hf2 (by trivial) (by trivial) hb)
        clear hf1 hf2 hb
        go_wp2_with (go_at_call 57; refine k125.mono ?_; rintro e w5 ⟨rfl, hB⟩)
        go_ret2
        rw [hr.out]
        exact ⟨hT5.then_ hB, rfl, blk_then h4 hB⟩
    | true =>
      clear hf1 hf2
      obtain ⟨b, hb⟩ : ∃ b, Ere.isAt p (j1 + 1) 125 = b := ⟨_, rfl⟩
      obtain ⟨j2, hj2⟩ : ∃ j2, j1 + 1 = j2 := ⟨_, rfl⟩
      rw [hj2] at hb hf3 hf4 hf5 hf6 hf7
      have hj2I : (j1 : Int) + 1 = j2 := by omega
      replace hj2I := Lib.hid hj2I
      have hj2b : j2 ≤ 3001 := by omega
      clear hj2
      go_upto_region 6 with (go_at_call 57; refine k44.mono ?_; rintro e w4 ⟨rfl, hB⟩)
      have h4 := blk_then h3 hB
      have hT5 := hT4.then_ hB
      clear h3 hT4 hB k44 c0 c1 f1
      have c1 : w4.cell? ⟨g, 1, none⟩ = some (.int .i64 (j1 : Int)) := h4.cellv rfl
      have f1 := h4.frozen 1
      go_upto_region 8 with (fail)
      rw [hj2I.out]
      have h5 := setRd h4 (v := .int .i64 (j2 : Int)) (j := j2) rfl
      have hT6 := turnRd hT5 1 (.int .i64 (j2 : Int))
      obtain ⟨w5, hw5⟩ : ∃ y, y = w4.setCell ⟨g, 1, none⟩ (.int .i64 (j2 : Int)) := ⟨_, rfl⟩
      rw [← hw5] at h5 hT6 ⊢
      clear hw5 hT5 h4 c1 f1
      have k125 := is_at g p j2 j2 125 125 w5 h5 rfl hb
      have c1 : w5.cell? ⟨g, 1, none⟩ = some (.int .i64 (j2 : Int)) := h5.cellv rfl
      cases b with
      | true =>
        have hr := Lib.hid (hf3 (by trivial) (by trivial) hb)
        clear hf3 hf4 hf5 hf6 hf7
        go_upto_region 10 with (go_at_call 57; refine k125.mono ?_; rintro e w6 ⟨rfl, hB⟩)
        have h6 := blk_then h5 hB
        have hT7 := hT6.then_ hB
        clear h5 hT6 hB k125 c1
        have k125 := is_at g p j2 j2 125 125 w6 h6 rfl hb
        have c1 : w6.cell? ⟨g, 1, none⟩ = some (.int .i64 (j2 : Int)) := h6.cellv rfl
        clear hb
        go_wp2_with (go_at_call 57; refine k125.mono ?_; rintro e w7 ⟨rfl, hB⟩)
        go_ret2
        rw [hr.out]
        exact ⟨hT7.then_ hB, rfl, blk_then h6 hB⟩
      | false =>
        clear hf3
        have hjb2 := digits_le p 4 j2 0 0
        go_upto_region 9 with (go_at_call 57; refine k125.mono ?_; rintro e w6 ⟨rfl, hB⟩)
        have h6 := blk_then h5 hB
        have hT7 := hT6.then_ hB
        clear h5 hT6 hB k125 c1
        have hc := rcount_any g p j2 w6 h6 (by omega)
        obtain ⟨n2, hn2⟩ : ∃ n, (Ere.digits p 4 j2 0 0).1 = n := ⟨_, rfl⟩
        obtain ⟨j3, hj3⟩ : ∃ n, (Ere.digits p 4 j2 0 0).2.1 = n := ⟨_, rfl⟩
        obtain ⟨o2, ho2⟩ : ∃ n, Ere.cntOk (Ere.digits p 4 j2 0 0) = n := ⟨_, rfl⟩
        rw [hn2, hj3, ho2] at hc
        rw [hj3] at hjb2
        rw [hn2] at hf6 hf7
        rw [hj3] at hf5 hf7
        rw [ho2] at hf4 hf7
        clear hn2 hj3 ho2
        go_upto_region 10 with (go_at_call 100; refine hc.mono ?_; rintro e w7 ⟨rfl, hT8, h7⟩)
        clear hc
        have hT9 := hT7.trans hT8
        clear hT7 hT8 h6
        have c1 : w7.cell? ⟨g, 1, none⟩ = some (.int .i64 (j3 : Int)) := h7.cellv rfl
        cases o2 with
        | false =>
          have hr := Lib.hid (hf4 (by trivial) (by trivial) hb (by trivial))
          clear hf4 hf5 hf6 hf7 hb
          go_wp2_with (go_at_call 40; refine (give_any 45 i _).mono ?_; rintro e w8 ⟨hfe, hB⟩)
          rw [hr.out]
          exact ⟨rfl, hT9.then_ hB, hfe⟩
        | true =>
          obtain ⟨b3, hb3⟩ : ∃ b, Ere.isAt p j3 125 = b := ⟨_, rfl⟩
          have k125 := is_at g p j3 j3 125 125 w7 h7 rfl hb3
          cases b3 with
          | false =>
            have hr := Lib.hid (hf5 (by trivial) (by trivial) hb hb3)
            clear hf4 hf5 hf6 hf7 hb hb3
            go_wp2_with (first | (go_at_call 57; refine k125.mono ?_; rintro e w8 ⟨rfl, hB⟩) | (go_at_call 40; refine (give_any 45 i _).mono ?_; rintro e w9 ⟨hfe, hB2⟩))
            rw [hr.out]
            exact ⟨rfl, (hT9.then_ hB).then_ hB2, hfe⟩
          | true =>
            have hn0 : (0 : Int) ≤ n2 := by omega
            by_cases hlt : n2 < n1
            · have hr := Lib.hid (hf6 (by trivial) (by trivial) hb hlt)
              have hltI : (n2 : Int) < n1 := by omega
              clear hf4 hf5 hf6 hf7 hb hb3
              go_wp2_with (first | (go_at_call 57; refine k125.mono ?_; rintro e w8 ⟨rfl, hB⟩) | (go_at_call 40; refine (give_any 45 i _).mono ?_; rintro e w9 ⟨hfe, hB2⟩))
              rw [hr.out]
              exact ⟨rfl, (hT9.then_ hB).then_ hB2, hfe⟩
            · have hr := Lib.hid (hf7 (by trivial) (by trivial) hb (by trivial) hb3 hlt)
              have hltI : ¬ (n2 : Int) < n1 := by omega
              clear hf4 hf5 hf6 hf7 hb hb3
              go_wp2_with (go_at_call 57; refine k125.mono ?_; rintro e w8 ⟨rfl, hB⟩)
              go_ret2
              rw [hr.out]
              exact ⟨hT9.then_ hB, rfl, blk_then h7 hB⟩
theorem counts_le (p : ByteArray) (i : Nat) (hi : i ≤ 2000) (c : Nat × Int) (j : Nat) (h : Ere.countsR p i = .got c j) : j ≤ 3000 := by
  have h1 := digits_le p 4 (i + 1) 0 0
  have h2 := digits_le p 4 ((Ere.digits p 4 (i + 1) 0 0).2.1 + 1) 0 0
  unfold Ere.countsR at h
  simp only at h
  split at h
  · split at h
    · injection h with _ h; omega
    · split at h
      · cases h
      · injection h with _ h; omega
  · split at h
    · cases h
    · injection h with _ h; omega
end Go.Proofs.Ytajainmldcnaeaa
namespace Go.Proofs.Ytajainmldcnaeaa
open Go.RowKit Go.Maps
set_option linter.unusedVariables false
set_option linter.unusedSimpArgs false

/-- a node's cells -/
def nodeC (kd : Int) (st : BSet) (A : Option Addr) (n c : Nat) (mi ma : Int) : Array Value :=
  #[.int .i64 kd, .int .u64 (word st 0), .int .u64 (word st 1), .int .u64 (word st 2), .int .u64 (word st 3), .slice A n c, .int .i64 mi, .int .i64 ma]
theorem nodeC_size (kd : Int) (st : BSet) (A : Option Addr) (n c : Nat) (mi ma : Int) : (nodeC kd st A n c mi ma).size = 8 := rfl
theorem nodeC_one (kd : Int) (st : BSet) (A : Option Addr) (n c : Nat) (mi ma : Int) : (nodeC kd st A n c mi ma).all (·.oneCell') = true := by unfold nodeC; simp [Value.oneCell']
theorem node_st {w : World} {g : Nat} {t : TypeId} {kd : Int} {st : BSet} {A : Option Addr} {n c : Nat} {mi ma : Int} (h : Blk w g t (nodeC kd st A n c mi ma)) : RowAt w g 1 (setC st) := by
  intro j v hv
  have hj : j < 4 := by
    rcases Nat.lt_or_ge j 4 with h1 | h1
    · exact h1
    · rw [Array.getElem?_eq_none (by rw [setC_size]; exact h1)] at hv; cases hv
  rw [setC_at st j hj] at hv
  refine (h.cell (1 + j)).trans (Eq.trans ?_ hv)
  match j, hj with
  | 0, _ => rfl
  | 1, _ => rfl
  | 2, _ => rfl
  | 3, _ => rfl
theorem info_node : (Try.prog.info? 27).map (·.size) = some 8 := by kernel_rfl
theorem under_nodes : Try.prog.underlying 25 = some (.slice (Try.prog.elem 25)) := by kernel_rfl
theorem field_node_0 (b off : Nat) (w : World) : (Instr.fieldAt 27 (.pointer (some ⟨b, off, none⟩)) 0).run Try.prog w = .ok (.pointer (some ⟨b, off, none⟩)) w := by kernel_rfl
theorem field_node_2 (b off : Nat) (w : World) : (Instr.fieldAt 27 (.pointer (some ⟨b, off, none⟩)) 2).run Try.prog w = .ok (.pointer (some ⟨b, off + 5, none⟩)) w := by kernel_rfl
theorem field_node_3 (b off : Nat) (w : World) : (Instr.fieldAt 27 (.pointer (some ⟨b, off, none⟩)) 3).run Try.prog w = .ok (.pointer (some ⟨b, off + 6, none⟩)) w := by kernel_rfl
theorem field_node_4 (b off : Nat) (w : World) : (Instr.fieldAt 27 (.pointer (some ⟨b, off, none⟩)) 4).run Try.prog w = .ok (.pointer (some ⟨b, off + 7, none⟩)) w := by kernel_rfl
section
variable {ops : Array Oper} {rest : List Oper} {o : Oper} {a : Act} {w : World} {Q : Exit → Act → World → Prop}
theorem wl_load_node (hgd : o.guard = none) (x : Operand) (ho : o.op = .load 27 x)
    (g : Nat) (hx : a.eval x = .pointer (some ⟨g, 0, none⟩)) (kd : Int) (st : BSet) (A : Option Addr) (n c : Nat) (mi ma : Int) (hb : Blk w g 27 (nodeC kd st A n c mi ma))
    (h : wpList Try.prog ops Q rest (a.put o.dst (.agg (nodeC kd st A n c mi ma))) w) : wpList Try.prog ops Q (o :: rest) a w :=
  wpList_load_row hgd _ x ho g hx _ _ _ _ hb Try.underlying27 rfl (info_node.trans (by rw [nodeC_size])) h
theorem wl_load_node_g (hw : Region.wanted o (yielded ops a.tmps) = true) (x : Operand) (ho : o.op = .load 27 x)
    (g : Nat) (hx : a.eval x = .pointer (some ⟨g, 0, none⟩)) (kd : Int) (st : BSet) (A : Option Addr) (n c : Nat) (mi ma : Int) (hb : Blk w g 27 (nodeC kd st A n c mi ma))
    (h : wpList Try.prog ops Q rest (a.put o.dst (.agg (nodeC kd st A n c mi ma))) w) : wpList Try.prog ops Q (o :: rest) a w :=
  wpList_w hw (wl_load_node (o := { o with guard := none }) rfl x ho g hx kd st A n c mi ma hb h)
theorem wl_load_node_at (hgd : o.guard = none) (x : Operand) (ho : o.op = .load 27 x)
    (b off : Nat) (hx : a.eval x = .pointer (some ⟨b, off, none⟩)) (kd : Int) (st : BSet) (A : Option Addr) (n c : Nat) (mi ma : Int) (hr : RowAt w b off (nodeC kd st A n c mi ma))
    (h : wpList Try.prog ops Q rest (a.put o.dst (.agg (nodeC kd st A n c mi ma))) w) : wpList Try.prog ops Q (o :: rest) a w :=
  wpList_load_at hgd _ x ho b off hx _ _ hr Try.underlying27 rfl (info_node.trans (by rw [nodeC_size])) h
theorem wl_store_node (hgd : o.guard = none) (x y : Operand) (ho : o.op = .store 27 x y)
    (g : Nat) (kd : Int) (st : BSet) (A : Option Addr) (n c : Nat) (mi ma : Int) (hx : a.eval x = .pointer (some ⟨g, 0, none⟩)) (hy : a.eval y = .agg (nodeC kd st A n c mi ma)) (old : Array Value) (ho2 : old.size = 8) (hb : Blk w g 27 old)
    (h : ∀ w', Blk w' g 27 (nodeC kd st A n c mi ma) → w.grownBy w' (some g) → wpList Try.prog ops Q rest (a.put o.dst undef) w') : wpList Try.prog ops Q (o :: rest) a w :=
  wpList_store_row hgd _ x y ho g _ hx hy _ _ hb (info_node.trans (by rw [nodeC_size])) (by rw [nodeC_size, ho2]) (nodeC_one _ _ _ _ _ _ _) (h _ (hb.setRow_same _) (only_setRow (only_refl _ _) _))
theorem wl_run {P : Program} (hgd : o.guard = none) {v : Value} {w' : World} (hr : (execOp a.eval o).run P w = .ok (.value v) w') (h : wpList P ops Q rest (a.put o.dst v) w') : wpList P ops Q (o :: rest) a w :=
  wpList_plain hgd fun _ hK => by
    unfold Oper.wp
    rw [hr]
    exact hK _ _ h
theorem wl_bin {P : Program} (hgd : o.guard = none) (op : BinOp) (t t2 : TypeId) (x y : Operand) (ho : o.op = .binOp op t x y t2) (vx vy v : Value) (hx : a.eval x = vx) (hy : a.eval y = vy)
    (hg : (eqGuard op t x y vx vy).run P w = .ok () w) (hr : (binOp op t vx vy).run P w = .ok v w) (h : wpList P ops Q rest (a.put o.dst v) w) : wpList P ops Q (o :: rest) a w :=
  wl_run hgd (v := v) (by unfold execOp; simp only [ho, hx, hy, Sem.run_bind, hg, Result.andThen_ok, hr, Sem.run_pure]) h
theorem wl_eql_set (hgd : o.guard = none) (x y : Operand) (t2 : TypeId) (ho : o.op = .binOp .eql 24 x y t2) (p q : BSet) (hx : a.eval x = .agg (setC p)) (hy : a.eval y = .agg (setC q))
    (h : wpList Try.prog ops Q rest (a.put o.dst (.bool (decide (p = q)))) w) : wpList Try.prog ops Q (o :: rest) a w :=
  wl_bin hgd _ _ _ x y ho _ _ _ hx hy (run_eqGuard_agg w _ _ _ _ _ _ guard_set) (run_eql_set p q w) h
theorem wl_eql_setz (hgd : o.guard = none) (x y : Operand) (t2 : TypeId) (ho : o.op = .binOp .eql 24 x y t2) (p q : BSet) (hx : a.eval x = .agg (setC p)) (hy : a.eval y = .agg (setC q)) (z : Bool) (hz : decide (p = q) = z)
    (h : wpList Try.prog ops Q rest (a.put o.dst (.bool z)) w) : wpList Try.prog ops Q (o :: rest) a w :=
  wl_eql_set hgd x y t2 ho p q hx hy (hz ▸ h)
theorem wl_build_set0 (hgd : o.guard = none) (ho : o.op = .build 24 #[]) (h : wpList Try.prog ops Q rest (a.put o.dst (.agg (setC 0))) w) : wpList Try.prog ops Q (o :: rest) a w :=
  wl_run hgd (v := .agg (setC 0)) (by unfold execOp; simp only [ho, List.map_toArray, List.map_nil, Sem.run_bind, build_set0, Result.andThen_ok, Sem.run_pure]) h
end
/-- a tree that stands below block B -/
inductive NdIn (w : World) (B : Nat) : Nd → Array Value → Prop
  | mk (kd : Int) (st : BSet) (l : List Nd) (mi ma : Int) (A : Option Addr) (n c : Nat) (cl : List (Array Value)) (hn : n = l.length) (hcl : cl.length = l.length) (hmax : n ≤ 1099511627776)
      (hs : SliceOf w B 8 (fun x => x) A cl) (hr : ∀ (i : Nat) (h : i < l.length) (h2 : i < cl.length), NdIn w B l[i] cl[i]) : NdIn w B (.mk kd st l mi ma) (nodeC kd st A n c mi ma)
theorem NdIn.inv {w : World} {B : Nat} {kd : Int} {st : BSet} {l : List Nd} {mi ma : Int} {cs : Array Value} (h : NdIn w B (.mk kd st l mi ma) cs) :
    ∃ (A : Option Addr) (n c : Nat) (cl : List (Array Value)), cs = nodeC kd st A n c mi ma ∧ n = l.length ∧ cl.length = l.length ∧ n ≤ 1099511627776 ∧ SliceOf w B 8 (fun x => x) A cl ∧ ∀ (i : Nat) (h : i < l.length) (h2 : i < cl.length), NdIn w B l[i] cl[i] := by
  cases h with
  | mk kd st l mi ma A n c cl hn hcl hmax hs hr => exact ⟨A, n, c, cl, rfl, hn, hcl, hmax, hs, hr⟩
theorem NdIn.keep {w w' : World} {B : Nat} (hk : ∀ k, k < B → w'.heap[k]? = w.heap[k]?) {nd : Nd} {cs : Array Value} (h : NdIn w B nd cs) : NdIn w' B nd cs := by
  induction h with
  | mk kd st l mi ma A n c cl hn hcl hmax hs hr ih => exact .mk kd st l mi ma A n c cl hn hcl hmax (hs.keep hk) ih
theorem NdIn.low {w w' : World} {B : Nat} {nd : Nd} {cs : Array Value} (h : NdIn w B nd cs) (hb : Below B w w') : NdIn w' B nd cs := h.keep hb.block
theorem NdIn.then_ {w w' : World} {B : Nat} {nd : Nd} {cs : Array Value} (h : NdIn w B nd cs) (hb : Below w.heap.size w w') (hB : B ≤ w.heap.size) : NdIn w' B nd cs := h.keep fun k hk => hb.block k (by omega)
end Go.Proofs.Ytajainmldcnaeaa
namespace Go.Proofs.Ytajainmldcnaeaa
open Go.RowKit Go.Maps
set_option linter.unusedVariables false
set_option linter.unusedSimpArgs false

/-- a node's cells, as one thing -/
structure NV where
  kd : Int
  st : BSet
  A : Option Addr
  n : Nat
  c : Nat
  mi : Int
  ma : Int
def NV.C (x : NV) : Array Value := nodeC x.kd x.st x.A x.n x.c x.mi x.ma
theorem NV.size (x : NV) : x.C.size = 8 := rfl
theorem NV.one (x : NV) : x.C.all (·.oneCell') = true := nodeC_one _ _ _ _ _ _ _
/-- the block that a slice lies in -/
def ownL (A : Option Addr) : List Nat := match A with
  | none => []
  | some a => [a.block]
theorem mem_ownL {A : Option Addr} {n c b : Nat} : b ∈ ownL A ↔ (Value.slice A n c).ownBlock = some b := by
  cases A with
  | none => simp [ownL, Value.ownBlock]
  | some a => simp [ownL, Value.ownBlock, eq_comm]
/-- a tree of which each list lies in a block of its own, from B on; the blocks -/
inductive NdO (w : World) (B : Nat) : Nd → NV → List Nat → Prop
  | mk (kd : Int) (st : BSet) (l : List Nd) (mi ma : Int) (A : Option Addr) (n c : Nat) (cl : List NV) (bl : List (List Nat)) (hn : n = l.length) (hcl : cl.length = l.length) (hbl : bl.length = l.length) (hmax : n ≤ 1099511627776)
      (ho : Own w B 27 8 NV.C (.slice A n c) cl) (hr : ∀ (i : Nat) (h : i < l.length) (h2 : i < cl.length) (h3 : i < bl.length), NdO w B l[i] cl[i] bl[i]) (hd : (ownL A ++ bl.flatten).Nodup) :
      NdO w B (.mk kd st l mi ma) ⟨kd, st, A, n, c, mi, ma⟩ (ownL A ++ bl.flatten)
/-- a list of such trees -/
structure NdL (w : World) (B : Nat) (A : Option Addr) (n c : Nat) (l : List Nd) (cl : List NV) (bl : List (List Nat)) : Prop where
  hn : n = l.length
  hcl : cl.length = l.length
  hbl : bl.length = l.length
  hmax : n ≤ 1099511627776
  ho : Own w B 27 8 NV.C (.slice A n c) cl
  hr : ∀ (i : Nat) (h : i < l.length) (h2 : i < cl.length) (h3 : i < bl.length), NdO w B l[i] cl[i] bl[i]
  hd : (ownL A ++ bl.flatten).Nodup
theorem NdL.node {w : World} {B : Nat} {A : Option Addr} {n c : Nat} {l : List Nd} {cl : List NV} {bl : List (List Nat)} (h : NdL w B A n c l cl bl) (kd : Int) (st : BSet) (mi ma : Int) : NdO w B (.mk kd st l mi ma) ⟨kd, st, A, n, c, mi, ma⟩ (ownL A ++ bl.flatten) :=
  .mk kd st l mi ma A n c cl bl h.hn h.hcl h.hbl h.hmax h.ho h.hr h.hd
theorem NdO.list {w : World} {B : Nat} {kd : Int} {st : BSet} {l : List Nd} {mi ma : Int} {x : NV} {bs : List Nat} (h : NdO w B (.mk kd st l mi ma) x bs) :
    ∃ A n c cl bl, x = ⟨kd, st, A, n, c, mi, ma⟩ ∧ bs = ownL A ++ bl.flatten ∧ NdL w B A n c l cl bl := by
  cases h with
  | mk kd st l mi ma A n c cl bl hn hcl hbl hmax ho hr hd => exact ⟨A, n, c, cl, bl, rfl, rfl, hn, hcl, hbl, hmax, ho, hr, hd⟩
theorem mem_flat_at {bl : List (List Nat)} {b : Nat} (h : b ∈ bl.flatten) : ∃ (i : Nat) (hi : i < bl.length), b ∈ bl[i] := by
  obtain ⟨l, hl, hb⟩ := List.mem_flatten.1 h
  obtain ⟨i, hi, rfl⟩ := List.mem_iff_getElem.1 hl
  exact ⟨i, hi, hb⟩
theorem flat_at_mem {bl : List (List Nat)} {b i : Nat} (hi : i < bl.length) (h : b ∈ bl[i]) : b ∈ bl.flatten := List.mem_flatten.2 ⟨_, List.getElem_mem hi, h⟩
theorem NdO.lt {w : World} {B : Nat} {nd : Nd} {x : NV} {bs : List Nat} (h : NdO w B nd x bs) : ∀ b ∈ bs, B ≤ b ∧ b < w.heap.size := by
  induction h with
  | mk kd st l mi ma A n c cl bl hn hcl hbl hmax ho hr hd ih =>
    intro b hb
    rcases List.mem_append.1 hb with hb | hb
    · exact ho.lt b (mem_ownL.1 hb)
    · obtain ⟨i, hi, hb⟩ := mem_flat_at hb
      exact ih i (by omega) (by omega) hi b hb
theorem NdL.lt {w : World} {B : Nat} {A : Option Addr} {n c : Nat} {l : List Nd} {cl : List NV} {bl : List (List Nat)} (h : NdL w B A n c l cl bl) : ∀ b ∈ ownL A ++ bl.flatten, B ≤ b ∧ b < w.heap.size := (h.node 0 0 0 0).lt
theorem own_block {α : Type} {enc : α → Array Value} {size base : Nat} {e : TypeId} {w w' : World} {v : Value} {ys : List α} (h : Own w base e size enc v ys) (hk : ∀ j, v.ownBlock = some j → w'.heap[j]? = w.heap[j]?) : Own w' base e size enc v ys := by
  obtain ⟨h1, h2⟩ := h
  refine ⟨h1, ?_⟩
  rcases h2 with h2 | ⟨g, cap, cur, hv, hg, hh, r⟩
  · exact .inl h2
  · exact .inr ⟨g, cap, cur, hv, hg, (hk g (by rw [hv]; rfl)).trans hh, r⟩
theorem NdO.keep {w w' : World} {B : Nat} {nd : Nd} {x : NV} {bs : List Nat} (h : NdO w B nd x bs) (hk : ∀ b ∈ bs, w'.heap[b]? = w.heap[b]?) : NdO w' B nd x bs := by
  induction h with
  | mk kd st l mi ma A n c cl bl hn hcl hbl hmax ho hr hd ih =>
    exact .mk kd st l mi ma A n c cl bl hn hcl hbl hmax (own_block ho fun j hj => hk j (List.mem_append_left _ (mem_ownL.2 hj)))
      (fun i h1 h2 h3 => ih i h1 h2 h3 fun b hb => hk b (List.mem_append_right _ (flat_at_mem h3 hb))) hd
theorem NdL.keep {w w' : World} {B : Nat} {A : Option Addr} {n c : Nat} {l : List Nd} {cl : List NV} {bl : List (List Nat)} (h : NdL w B A n c l cl bl) (hk : ∀ b ∈ ownL A ++ bl.flatten, w'.heap[b]? = w.heap[b]?) : NdL w' B A n c l cl bl :=
  ⟨h.hn, h.hcl, h.hbl, h.hmax, own_block h.ho fun j hj => hk j (List.mem_append_left _ (mem_ownL.2 hj)), fun i h1 h2 h3 => (h.hr i h1 h2 h3).keep fun b hb => hk b (List.mem_append_right _ (flat_at_mem h3 hb)), h.hd⟩
theorem NdO.mono {w : World} {B B' : Nat} {nd : Nd} {x : NV} {bs : List Nat} (h : NdO w B nd x bs) (hB : B' ≤ B) : NdO w B' nd x bs := by
  induction h with
  | mk kd st l mi ma A n c cl bl hn hcl hbl hmax ho hr hd ih => exact .mk kd st l mi ma A n c cl bl hn hcl hbl hmax (ho.mono hB) ih hd
theorem NdL.mono {w : World} {B B' : Nat} {A : Option Addr} {n c : Nat} {l : List Nd} {cl : List NV} {bl : List (List Nat)} (h : NdL w B A n c l cl bl) (hB : B' ≤ B) : NdL w B' A n c l cl bl :=
  ⟨h.hn, h.hcl, h.hbl, h.hmax, h.ho.mono hB, fun i h1 h2 h3 => (h.hr i h1 h2 h3).mono hB, h.hd⟩
theorem NdO.turn {w w' : World} {B g : Nat} {nd : Nd} {x : NV} {bs : List Nat} (h : NdO w B nd x bs) (ht : Turn g (g + 1) w w') (hg : g < B) : NdO w' B nd x bs :=
  h.keep fun b hb => ht.block b (h.lt b hb).2 (.inr (by have := (h.lt b hb).1; omega))
theorem NdO.then_ {w w' : World} {B : Nat} {nd : Nd} {x : NV} {bs : List Nat} (h : NdO w B nd x bs) (ht : Below w.heap.size w w') : NdO w' B nd x bs := h.keep fun b hb => ht.block b (h.lt b hb).2
theorem NdL.turn {w w' : World} {B g : Nat} {A : Option Addr} {n c : Nat} {l : List Nd} {cl : List NV} {bl : List (List Nat)} (h : NdL w B A n c l cl bl) (ht : Turn g (g + 1) w w') (hg : g < B) : NdL w' B A n c l cl bl :=
  h.keep fun b hb => ht.block b (h.lt b hb).2 (.inr (by have := (h.lt b hb).1; omega))
theorem NdL.then_ {w w' : World} {B : Nat} {A : Option Addr} {n c : Nat} {l : List Nd} {cl : List NV} {bl : List (List Nat)} (h : NdL w B A n c l cl bl) (ht : Below w.heap.size w w') : NdL w' B A n c l cl bl := h.keep fun b hb => ht.block b (h.lt b hb).2
theorem NdO.leaf (w : World) (B : Nat) (kd : Int) (st : BSet) (mi ma : Int) : NdO w B (.mk kd st [] mi ma) ⟨kd, st, none, 0, 0, mi, ma⟩ [] :=
  .mk kd st [] mi ma none 0 0 [] [] rfl rfl rfl (by omega) (Own.nil_ _ _ _ _ _) (fun i h => absurd h (by simp)) (by simp [ownL])
theorem NdL.nil_ (w : World) (B : Nat) : NdL w B none 0 0 [] [] [] := ⟨rfl, rfl, rfl, by omega, Own.nil_ _ _ _ _ _, fun i h => absurd h (by simp), by simp [ownL]⟩
theorem NdL.one {w w' : World} {B g : Nat} {t : Nd} {x : NV} {bs : List Nat} (h : NdO w B t x bs) (hw : Below w.heap.size w w') (hg : w.heap.size ≤ g) (hb : Blk w' g 27 x.C) (hB : B ≤ w.heap.size) : NdL w' B (some ⟨g, 0, none⟩) 1 1 [t] [x] [bs] := by
  refine ⟨rfl, rfl, rfl, by omega, ?_, fun i h1 h2 h3 => ?_, ?_⟩
  · exact ⟨by simp [flat, NV.size], .inr ⟨g, 1, x.C, rfl, by omega, hb, Nat.le_refl _, by unfold maxLen; omega, by simp [NV.size], by rw [List.take_of_length_le (by simp [NV.size])]; simp [flat]⟩⟩
  · have e : i = 0 := by simpa using h1
    subst e
    exact h.then_ hw
  · simp only [ownL, List.flatten_cons, List.flatten_nil, List.append_nil, List.cons_append, List.nil_append, List.nodup_cons]
    refine ⟨fun hm => ?_, ?_⟩
    · have := (h.lt _ hm).2
      omega
    · cases h with
      | mk kd st l mi ma A n c cl bl hn hcl hbl hmax ho hr hd => exact hd
theorem NdO.nd {w : World} {B : Nat} {nd : Nd} {x : NV} {bs : List Nat} (h : NdO w B nd x bs) : bs.Nodup := by
  cases h with
  | mk kd st l mi ma A n c cl bl hn hcl hbl hmax ho hr hd => exact hd
theorem NdO.toIn {w : World} {B : Nat} {nd : Nd} {x : NV} {bs : List Nat} (h : NdO w B nd x bs) : NdIn w w.heap.size nd x.C := by
  induction h with
  | mk kd st l mi ma A n c cl bl hn hcl hbl hmax ho hr hd ih =>
    refine .mk kd st l mi ma A n c (cl.map NV.C) hn (by simpa using hcl) hmax ?_ (fun i h1 h2 => ?_)
    · rcases ho.slice_all NV.size with h | ⟨b, off, e, hb, hh⟩
      · exact .inl (by rw [h]; rfl)
      · refine .inr ⟨b, off, e, hb, fun i hi => ?_⟩
        rw [List.getElem_map]
        exact hh i (by simpa using hi)
    · rw [List.getElem_map]
      exact ih i h1 (by simpa using h2) (by omega)
/-- one more behind the list -/
theorem NdL.push {w w' : World} {B : Nat} {A : Option Addr} {n c : Nat} {l : List Nd} {cl : List NV} {bl : List (List Nat)} (h : NdL w B A n c l cl bl) {t : Nd} {x : NV} {bs : List Nat} (ht : NdO w B t x bs)
    (hdis : ∀ b ∈ bs, b ∉ ownL A ++ bl.flatten) (hmax : n + 1 ≤ 1099511627776) {v' : Value} (ho : Own w' B 27 8 NV.C v' (cl ++ [x])) (hg : w.grownBy w' (Value.slice A n c).ownBlock) (hv : v'.ownBlock = (Value.slice A n c).ownBlock ∨ v'.ownBlock = some w.heap.size) :
    ∃ A' c', v' = .slice A' (n + 1) c' ∧ NdL w' B A' (n + 1) c' (l ++ [t]) (cl ++ [x]) (bl ++ [bs]) := by
  obtain ⟨A', c', hv', _, _⟩ := ho.shape
  have hlen : (cl ++ [x]).length = n + 1 := by rw [List.length_append, h.hcl, ← h.hn]; rfl
  rw [hlen] at hv'
  subst hv'
  have hkeep : ∀ b, b < w.heap.size → b ∉ ownL A → w'.heap[b]? = w.heap[b]? := fun b hb hn => hg.block b hb (fun e => hn (mem_ownL.2 e.symm))
  have hnd := h.hd
  rw [List.nodup_append] at hnd
  obtain ⟨hA, hF, hAF⟩ := hnd
  refine ⟨A', c', rfl, by rw [List.length_append, ← h.hn]; rfl, by rw [List.length_append, List.length_append, h.hcl]; rfl, by rw [List.length_append, List.length_append, h.hbl]; rfl, hmax, ho, fun i h1 h2 h3 => ?_, ?_⟩
  · rw [List.length_append] at h1
    by_cases hi : i < l.length
    · rw [List.getElem_append_left hi, List.getElem_append_left (by have := h.hcl; omega), List.getElem_append_left (by have := h.hbl; omega)]
      have h3' : i < bl.length := by have := h.hbl; omega
      refine (h.hr i hi _ h3').keep fun b hb => hkeep b (NdO.lt (h.hr i hi (by have := h.hcl; omega) h3') b hb).2 fun hm => ?_
      exact hAF b hm b (flat_at_mem h3' hb) rfl
    · have e : i = l.length := by simp only [List.length_cons, List.length_nil] at h1; omega
      have q1 := h.hcl
      have q2 := h.hbl
      have e1 : (l ++ [t])[i] = t := by subst e; simp
      have e2 : (cl ++ [x])[i] = x := by have e : i = cl.length := by omega
                                         subst e; simp
      have e3 : (bl ++ [bs])[i] = bs := by have e : i = bl.length := by omega
                                           subst e; simp
      rw [e1, e2, e3]
      exact ht.keep fun b hb => hkeep b (ht.lt b hb).2 fun hm => hdis b hb (List.mem_append_left _ hm)
  · rw [List.flatten_append, List.flatten_cons, List.flatten_nil, List.append_nil, ← List.append_assoc]
    rw [List.nodup_append]
    refine ⟨?_, ht.nd, fun a ha b hb e => ?_⟩
    · rw [List.nodup_append]
      refine ⟨by cases A' <;> simp [ownL], hF, fun a ha b hb e => ?_⟩
      subst e
      rcases hv with hv | hv
      · exact hAF a (mem_ownL.2 (hv.symm.trans ((mem_ownL (n := n + 1) (c := c')).1 ha))) a hb rfl
      · have e2 := (mem_ownL (n := n + 1) (c := c')).1 ha
        rw [hv] at e2
        injection e2 with e2
        have := (h.lt a (List.mem_append_right _ hb)).2
        omega
    · subst e
      rcases List.mem_append.1 ha with ha | ha
      · rcases hv with hv | hv
        · exact hdis a hb (List.mem_append_left _ (mem_ownL.2 (hv.symm.trans ((mem_ownL (n := n + 1) (c := c')).1 ha))))
        · have e2 := (mem_ownL (n := n + 1) (c := c')).1 ha
          rw [hv] at e2
          injection e2 with e2
          have := (ht.lt a hb).2
          omega
      · exact hdis a hb (List.mem_append_right _ ha)
theorem info_node3 : (Try.prog.info? 27).map (fun i => (i.zero.map (·.cells.size), i.size, i.bytes)) = some (some 8, 8, 80) := by kernel_rfl
theorem run_nodes1 (x : NV) (w : World) : (Instr.buildSlice 25 1 #[(0, .agg x.C)]).run Try.prog w = .ok (.slice (some ⟨w.heap.size, 0, none⟩) 1 1) (w.alloc (.cells x.C 27)) := by kernel_rfl
section
variable {ops : Array Oper} {rest : List Oper} {o : Oper} {a : Act} {w : World} {Q : Exit → Act → World → Prop}
theorem wl_build1n (hgd : o.guard = none) (x : Operand) (ho : o.op = .buildSlice 25 1 #[(0, x)]) (y : NV) (hx : a.eval x = .agg y.C)
    (h : wpList Try.prog ops Q rest (a.put o.dst (.slice (some ⟨w.heap.size, 0, none⟩) 1 1)) (w.alloc (.cells y.C 27))) : wpList Try.prog ops Q (o :: rest) a w :=
  wpList_plain hgd fun _ hK => by
    have e : (#[(0, x)] : Array (Nat × Operand)).map (fun (i, x) => (i, a.eval x)) = #[(0, .agg y.C)] := by simp [hx]
    unfold Oper.wp execOp
    simp only [ho, e, Sem.run_bind, run_nodes1, Result.andThen_ok, Sem.run_pure]
    exact hK _ _ h
theorem wl_build_node (hgd : o.guard = none) (parts : Array (Nat × Operand)) (ho : o.op = .build 27 parts) (x : NV) (l : Array (Nat × Value)) (hl : parts.toList.map (fun y => (y.1, a.eval y.2)) = l.toList)
    (hr : ∀ w, (Instr.build 27 l).run Try.prog w = .ok (.agg x.C) w) (h : wpList Try.prog ops Q rest (a.put o.dst (.agg x.C)) w) : wpList Try.prog ops Q (o :: rest) a w :=
  wpList_plain hgd fun _ hK => by
    have e : (parts.map fun (i, x) => (i, a.eval x)) = l := by
      apply Array.toList_inj.1
      rw [Array.toList_map]
      exact hl
    unfold Oper.wp execOp
    simp only [ho, e, Sem.run_bind, hr, Result.andThen_ok, Sem.run_pure]
    exact hK _ _ h
theorem wl_load_nv (hgd : o.guard = none) (x : Operand) (ho : o.op = .load 27 x) (g : Nat) (hx : a.eval x = .pointer (some ⟨g, 0, none⟩)) (y : NV) (hb : Blk w g 27 y.C)
    (h : wpList Try.prog ops Q rest (a.put o.dst (.agg y.C)) w) : wpList Try.prog ops Q (o :: rest) a w := wl_load_node hgd x ho g hx _ _ _ _ _ _ _ hb h
theorem wl_store_nv (hgd : o.guard = none) (x y : Operand) (ho : o.op = .store 27 x y) (g : Nat) (z : NV) (hx : a.eval x = .pointer (some ⟨g, 0, none⟩)) (hy : a.eval y = .agg z.C) (old : Array Value) (ho2 : old.size = 8) (hb : Blk w g 27 old)
    (h : ∀ w', Blk w' g 27 z.C → w.grownBy w' (some g) → wpList Try.prog ops Q rest (a.put o.dst undef) w') : wpList Try.prog ops Q (o :: rest) a w :=
  wl_store_node hgd x y ho g _ _ _ _ _ _ _ hx hy old ho2 hb h
/-- 'l = append(l, t)' -/
theorem wl_pushN (hgd : o.guard = none) (s x : Operand) (ho : o.op = .call { callee := .builtin .append, args := #[s, x], argTypes := #[25, 25] })
    {B : Nat} {A : Option Addr} {n c : Nat} {l : List Nd} {cl : List NV} {bl : List (List Nat)} (hL : NdL w B A n c l cl bl) {t : Nd} {z : NV} {bs : List Nat} (ht : NdO w B t z bs) (hdis : ∀ b ∈ bs, b ∉ ownL A ++ bl.flatten)
    (hs : a.eval s = .slice A n c) (g : Nat) (hx : a.eval x = .slice (some ⟨g, 0, none⟩) 1 1) (hb : Blk w g 27 z.C) (hmax : n ≤ 1000000) (hB : B ≤ w.heap.size)
    (h : ∀ A' c' w', NdL w' B A' (n + 1) c' (l ++ [t]) (cl ++ [z]) (bl ++ [bs]) → w.grownBy w' (Value.slice A n c).ownBlock → wpList Try.prog ops Q rest (a.put o.dst (.slice A' (n + 1) c')) w') : wpList Try.prog ops Q (o :: rest) a w := by
  have hi := info_node3
  cases hI : Try.prog.info? 27 with
  | none => rw [hI] at hi; cases hi
  | some ii =>
    rw [hI] at hi
    simp only [Option.map_some, Option.some.injEq, Prod.mk.injEq, Option.map_eq_some_iff] at hi
    obtain ⟨⟨z0, hz0, hz1⟩, hz2, hz3⟩ := hi
    have hcn : cl.length = n := by rw [hL.hcl, hL.hn]
    refine wl_append w hgd s x 25 ho B 27 ii z0 8 80 Try.underlying25 hI hz0 hz2 hz3 hz1 (by decide) NV.size NV.one _ cl hs hL.ho w.heap.size (some ⟨g, 0, none⟩) 1 1 [z] hx rfl (slice_one hb) (by unfold maxLen; omega) (by omega) hB ?_
    intro v' w' ho' hg hv
    obtain ⟨A', c', rfl, hL'⟩ := hL.push ht hdis (by omega) ho' hg hv
    exact h A' c' w' hL' hg
end
theorem build_leaf (kd : Int) (w : World) : (Instr.build 27 #[(0, .int .i64 kd)]).run Try.prog w = .ok (.agg (NV.mk kd 0 none 0 0 0 0).C) w := by kernel_rfl
theorem build_nset (kd : Int) (st : BSet) (w : World) : (Instr.build 27 #[(0, .int .i64 kd), (1, .agg (setC st))]).run Try.prog w = .ok (.agg (NV.mk kd st none 0 0 0 0).C) w := by kernel_rfl
theorem build_nlist (kd : Int) (A : Option Addr) (n c : Nat) (w : World) : (Instr.build 27 #[(0, .int .i64 kd), (2, .slice A n c)]).run Try.prog w = .ok (.agg (NV.mk kd 0 A n c 0 0).C) w := by kernel_rfl
theorem build_ntimes (kd : Int) (A : Option Addr) (n c : Nat) (mi ma : Int) (w : World) : (Instr.build 27 #[(0, .int .i64 kd), (2, .slice A n c), (3, .int .i64 mi), (4, .int .i64 ma)]).run Try.prog w = .ok (.agg (NV.mk kd 0 A n c mi ma).C) w := by kernel_rfl
theorem build_nzero (w : World) : (Instr.build 27 #[]).run Try.prog w = .ok (.agg (NV.mk 0 0 none 0 0 0 0).C) w := by kernel_rfl
/-- how a reader of nodes ends: a fault, or a tree of its own and the reader at its place -/
def NdAns (g : Nat) (p : ByteArray) (w : World) (B : Nat) (r : Ere.Res Nd) (en : Ending) (w' : World) : Prop :=
  Turn g (g + 1) w w' ∧ match r with
    | .fault e i => en = faultE e i
    | .got t j => Blk w' g 76 (rdC p j) ∧ ∃ x bs, en = .returned (.agg (NV.C x)) ∧ NdO w' B t x bs
end Go.Proofs.Ytajainmldcnaeaa
namespace Go.Proofs.Ytajainmldcnaeaa
open Go.RowKit Go.Maps
set_option linter.unusedVariables false
set_option linter.unusedSimpArgs false
attribute [local go_sem] Oper.semAt_some

/-- a new node's cells -/
def zeroC : Array Value := #[.int .i64 0, .int .u64 0, .int .u64 0, .int .u64 0, .int .u64 0, .slice none 0 0, .int .i64 0, .int .i64 0]
theorem ret_nv {fn : Func} {p : Tmp} {g : Nat} {x : NV} (hres : fn.results = #[.cell p 27]) {a : Act} {w : World}
    (hp : a.tmps.getD p undef = .pointer (some ⟨g, 0, none⟩)) (hb : Blk w g 27 x.C)
    (hdf : a.defers = []) {R : Ending → World → Prop} (hR : R (.returned (.agg x.C)) w) : bodyPost Try.prog fn R .ret a w :=
  ret_cell hres _ hp hb Try.underlying27 rfl (info_node.trans rfl) hdf hR
set_option maxRecDepth 100000 in
set_option maxHeartbeats 2000000 in
theorem some_any (kd : Int) {B : Nat} {A : Option Addr} {n c : Nat} {l : List Nd} {cl : List NV} {bl : List (List Nat)} (w : World) (h : NdL w B A n c l cl bl) :
    Calls Try.prog 58 #[.int .i64 kd, .slice A n c] w fun e w' => Below w.heap.size w w' ∧ ∃ x bs, e = .returned (.agg (NV.C x)) ∧ NdO w' B (Ere.someN kd l) x bs := by
  have hn := h.hn
  have hnb := h.hmax
  go_enter Try.func58, Try.ntmps58
  have h4 : Blk (w.alloc (.cells zeroC 27)) w.heap.size 27 zeroC := Blk.new' _ _ _ rfl
  have hB : Below w.heap.size w (w.alloc (.cells zeroC 27)) := below_alloc (Below.refl _ _) _
  unfold zeroC at h4 hB
  rcases l with _ | ⟨t, _ | ⟨t2, l⟩⟩
  · have hn0 : n = 0 := by simpa using hn
    subst hn0
    clear hn hnb
    go_wp2_with (first | (refine wl_build_node rfl _ rfl _ #[(0, .int .i64 1)] rfl (fun w => build_leaf 1 w) ?_) | (refine wl_store_nv rfl _ _ rfl _ _ rfl rfl _ rfl h4 ?_; intro w5 h5 hg5))
    refine ret_nv rfl rfl h5 rfl ⟨below_grown hB hg5 (Nat.le_refl _), _, _, rfl, NdO.leaf _ _ _ _ _ _⟩
  · have hn1 : n = 1 := by simpa using hn
    subst hn1
    have hcl := h.hcl
    obtain ⟨x, rfl⟩ : ∃ x, cl = [x] := List.length_eq_one_iff.1 (by simpa using hcl)
    have hbl := h.hbl
    obtain ⟨bs, rfl⟩ : ∃ x, bl = [x] := List.length_eq_one_iff.1 (by simpa using hbl)
    obtain ⟨g, cap, hv, hBg, hgl, _, _⟩ := h.ho.form (by simp)
    injection hv with h1 h2 h3
    subst h1
    have hrow : RowAt (w.alloc (.cells zeroC 27)) g (0 * 8) x.C := ((h.ho.alloc _).row NV.size 0 (by simp))
    have ht := h.hr 0 (by simp) (by simp) (by simp)
    simp only [List.getElem_cons_zero] at ht
    have h0 := Lib.hid ht
    clear ht
    unfold zeroC at hrow
    replace hrow := Lib.hid hrow
    clear h hn hcl hbl h2 h3 hnb hBg hgl
    go_wp2_with (first | (refine wl_load_node_at rfl _ rfl g _ rfl _ _ _ _ _ _ _ hrow.out ?_) | (refine wl_store_nv rfl _ _ rfl _ x rfl rfl _ rfl h4 ?_; intro w5 h5 hg5))
    refine ret_nv rfl rfl h5 rfl ⟨below_grown hB hg5 (Nat.le_refl _), x, bs, rfl, h0.out.then_ (below_grown hB hg5 (Nat.le_refl _))⟩
  · have hn2 : n = l.length + 2 := by simpa using hn
    have hz0 : ¬ (n : Int) = 0 := by omega
    have hz1 : ¬ (n : Int) = 1 := by omega
    replace h := Lib.hid h
    clear hn hn2 hnb
    go_wp2_with (first | (refine wl_build_node rfl _ rfl ⟨kd, 0, A, n, c, 0, 0⟩ #[(0, .int .i64 kd), (2, .slice A n c)] rfl (fun w => build_nlist kd A n c w) ?_) | (refine wl_store_nv rfl _ _ rfl _ _ rfl rfl _ rfl h4 ?_; intro w5 h5 hg5))
    refine ret_nv rfl rfl h5 rfl ⟨below_grown hB hg5 (Nat.le_refl _), _, _, rfl, (h.out.then_ (below_grown hB hg5 (Nat.le_refl _))).node kd 0 0 0⟩
theorem ret_step {P : Program} {f : FuncId} {vs : Array Value} {w : World} {S : GSpec} {v : Value} (hc : Calls P f vs w fun e w' => e = .returned v ∧ Below w.heap.size w w') (hp : ∀ w', S.p v w') : Calls P f vs w fun e w' => ∃ v, e = .returned v ∧ Below w.heap.size w w' ∧ S.p v w' :=
  hc.mono fun e w' h => ⟨v, h.1, h.2, hp w'⟩
set_option maxRecDepth 100000 in
set_option maxHeartbeats 2000000 in
theorem nset_any (s : BSet) (w : World) :
    Calls Try.prog 79 #[.agg (setC s)] w fun e w' => e = .returned (.agg (NV.mk 2 (s &&& notB 0) none 0 0 0 0).C) ∧ Below w.heap.size w w' := by
  go_enter Try.func79, Try.ntmps79
  have h1 : Blk ((w.alloc (.cells (setC s) 24)).alloc (.cells zeroC 27)) w.heap.size 24 (setC s) := (Blk.new _ _ _).alloc _
  have h4 : Blk ((w.alloc (.cells (setC s) 24)).alloc (.cells zeroC 27)) (w.heap.size + 1) 27 zeroC := Blk.new' _ _ _ (by simp)
  have hB : Below w.heap.size w ((w.alloc (.cells (setC s) 24)).alloc (.cells zeroC 27)) := below_alloc (below_alloc (Below.refl _ _) _) _
  unfold zeroC at h1 h4 hB
  go_upto_region 1 with (fail)
  obtain ⟨w1, hw1⟩ : ∃ y, y = (w.alloc (.cells (setC s) 24)).alloc (.cells zeroC 27) := ⟨_, rfl⟩
  unfold zeroC at hw1
  rw [← hw1] at h1 h4 hB ⊢
  clear hw1
  refine wp_region_steps 4 [eqS (.agg (setC s)), eqS (.agg (setC 0)), eqS (.agg (setC (notB 0))), eqS (.agg (setC (s &&& notB 0)))] [3, 4, 5, 6] follows_mixed (by kernel_rfl) (by kernel_rfl) ?_ ?_
  · refine Steps.cons (fun a' w' hG hB dep => gs_load_set_at (want_none rfl) _ rfl w.heap.size 0 (hG.other 1 rfl) s (RowAt.of_blk (blk_then h1 hB)) rfl) ?_
    refine Steps.cons (fun a' w' hG hB dep => gs_build_set0 (want_none rfl) rfl rfl) ?_
    refine Steps.cons (fun a' w' hG hB dep => gs_call (want_none rfl) _ _ _ rfl enter_not #[.agg (setC 0)] (map1 (dep 1 rfl 4 rfl)) (ret_step (not_any 0 _) (fun _ => rfl))) ?_
    refine Steps.cons (fun a' w' hG hB dep => gs_call (want_none rfl) _ _ _ rfl enter_meet #[.agg (setC s), .agg (setC (notB 0))] (map2 (dep 0 rfl 3 rfl) (dep 2 rfl 5 rfl)) (ret_step (meet_any s (notB 0) _) (fun _ => rfl))) ?_
    exact Steps.nil
  intro u w2 hB2 ans
  have u6 : u 6 = .agg (setC (s &&& notB 0)) := ans 3 6 (by decide) rfl
  clear ans
  simp only [putAll, List.foldl_cons, List.foldl_nil, Act.put, List.setIfInBounds_toArray, List.set_cons_zero, List.set_cons_succ, u6]
  clear u6
  simp only [List.drop]
  replace h4 := blk_then h4 hB2
  replace hB := below_then hB hB2
  refine wl_build_node rfl _ rfl ⟨2, s &&& notB 0, none, 0, 0, 0, 0⟩ #[(0, .int .i64 2), (1, .agg (setC (s &&& notB 0)))] rfl (fun w => build_nset 2 _ w) ?_
  refine wl_store_nv rfl _ _ rfl _ ⟨2, s &&& notB 0, none, 0, 0, 0, 0⟩ rfl rfl _ rfl h4 ?_
  intro w3 h3 hg3
  refine wpList_nil ?_
  go_wp2_with (fail)
  exact ret_nv rfl rfl h3 rfl ⟨rfl, below_grown hB hg3 (by omega)⟩
end Go.Proofs.Ytajainmldcnaeaa
namespace Go.Proofs.Ytajainmldcnaeaa
open Go.RowKit Go.Maps
set_option linter.unusedVariables false
set_option linter.unusedSimpArgs false
attribute [local go_sem] Oper.semAt_some

set_option maxRecDepth 100000 in
set_option maxHeartbeats 4000000 in
theorem repeat_any (g : Nat) (p : ByteArray) (i B : Nat) (t : Nd) (x : NV) (bs : List Nat) (w : World) (hP : Blk w g 76 (rdC p i)) (hi : i ≤ 2000) (ht : NdO w B t x bs) (hg : g < B) (hBw : B ≤ w.heap.size) :
    Calls Try.prog 77 #[.pointer (some ⟨g, 0, none⟩), .agg x.C] w fun e w' => NdAns g p w B (Ere.repeatR p t i) e w' := by
  obtain ⟨r, hr0⟩ : ∃ r, Ere.repeatR p t i = r := ⟨_, rfl⟩
  rw [hr0]
  obtain ⟨rc, hrc⟩ : ∃ r, Ere.countsR p i = r := ⟨_, rfl⟩
  have hR := hr0
  unfold Ere.repeatR at hR
  obtain ⟨b42, h42⟩ : ∃ b, Ere.isAt p i 42 = b := ⟨_, rfl⟩
  obtain ⟨b43, h43⟩ : ∃ b, Ere.isAt p i 43 = b := ⟨_, rfl⟩
  obtain ⟨b63, h63⟩ : ∃ b, Ere.isAt p i 63 = b := ⟨_, rfl⟩
  obtain ⟨b123, h123⟩ : ∃ b, Ere.isAt p i 123 = b := ⟨_, rfl⟩
  rw [h42, h43, h63, h123, hrc] at hR
  clear hr0
  have hN : ∀ c b W, b = Ere.isAt p i c → Blk W g 76 (rdC p i) → ∀ ci : Int, ci = c → Calls Try.prog 57 #[.pointer (some ⟨g, 0, none⟩), .int .i64 (i : Int), .int .u8 ci] W fun e w' => e = .returned (.bool b) ∧ Below W.heap.size W w' := fun c b W hb hW ci hc => is_at g p i i c ci W hW hc hb.symm
  have hNC : ∀ W, Blk W g 76 (rdC p i) → Calls Try.prog 88 #[.pointer (some ⟨g, 0, none⟩)] W fun e w' => RdAns g p W (fun c : Nat × Int => .tuple #[.int .i64 (c.1 : Int), .int .i64 c.2]) rc e w' := fun W hW => by rw [← hrc]; exact counts_any g p i W hW hi
  have hci : ∀ c j, rc = .got c j → j ≤ 3000 := fun c j e => by rw [← hrc] at e; exact counts_le p i hi c j e
  clear hrc
  replace h42 := Lib.hid h42
  replace h43 := Lib.hid h43
  replace h63 := Lib.hid h63
  replace h123 := Lib.hid h123
  replace hR := Lib.hid hR
  replace hN := Lib.hid hN
  replace hNC := Lib.hid hNC
  replace hci := Lib.hid hci
  have hT := Turn.refl g (g + 1) w
  go_enter Try.func77, Try.ntmps77
  have hB1 : Below w.heap.size w ((w.alloc (.cells x.C 27)).alloc (.cells zeroC 27)) := below_alloc (below_alloc (Below.refl _ _) _) _
  have h1 : Blk ((w.alloc (.cells x.C 27)).alloc (.cells zeroC 27)) w.heap.size 27 x.C := (Blk.new _ _ _).alloc _
  have h4 : Blk ((w.alloc (.cells x.C 27)).alloc (.cells zeroC 27)) (w.heap.size + 1) 27 zeroC := Blk.new' _ _ _ (by simp)
  unfold zeroC at h1 h4 hB1
  go_upto_region 1 with (fail)
  obtain ⟨w1, hw1⟩ : ∃ y, y = (w.alloc (.cells x.C 27)).alloc (.cells zeroC 27) := ⟨_, rfl⟩
  unfold zeroC at hw1
  rw [← hw1] at h1 h4 hB1 ⊢
  clear hw1
  obtain ⟨g1, hg1⟩ : ∃ y, y = w.heap.size := ⟨_, rfl⟩
  obtain ⟨g4, hg4⟩ : ∃ y, y = w.heap.size + 1 := ⟨_, rfl⟩
  have hne := Lib.hid (show g1 ≠ g4 ∧ g < g1 ∧ g < g4 ∧ w.heap.size ≤ g4 ∧ w.heap.size ≤ g1 ∧ B ≤ w.heap.size ∧ g < B ∧ w.heap.size ≤ w1.heap.size ∧ ∀ b ∈ bs, b ≠ g1 ∧ b ≠ g4 ∧ b ≠ g from ⟨by omega, by omega, by omega, by omega, by omega, hBw, hg, hB1.size, fun b hb => by have := ht.lt b hb; omega⟩)
  rw [← hg4] at h4 ⊢
  rw [← hg1] at h1 ⊢
  clear hg1 hg4 hg hBw
  replace ht := ht.then_ hB1
  replace hP := blk_then hP hB1
  replace hT := hT.then_ hB1
  clear hB1
  replace ht := Lib.hid ht
  have hT0 := Lib.hid hT
  go_upto_block 0 with (fail)
  go_cut [5, 6] from 7 to 40 (fun lo hi wX => ∃ (j : Nat) (a b : Int), j ≤ 3000 ∧ lo = .int .i64 a ∧ hi = .int .i64 b ∧ r = .got (Ere.timesN t a b) (j + 1) ∧ Turn g (g + 1) w1 wX ∧ Blk wX g 76 (rdC p j))
  case first =>
    clear hT
    have hT := Turn.refl g (g + 1) w1
    have c1 : w1.cell? ⟨g, 1, none⟩ = some (.int .i64 (i : Int)) := hP.cellv rfl
    have kA := hN.out 42 b42 w1 h42.out.symm hP 42 rfl
    cases b42 with
    | true =>
      have hr := Lib.hid (show r = .got (Ere.timesN t (0) (-1)) (i + 1) by rw [← hR.out]; simp)
      go_wp2_with (go_at_call 57; refine kA.mono ?_; rintro e wc42 ⟨rfl, hBq⟩)
      go_meet
      exact ⟨i, 0, -1, by omega, rfl, rfl, hr.out, hT.then_ hBq, blk_then hP hBq⟩
    | false =>
      go_upto_region 4 with (go_at_call 57; refine kA.mono ?_; rintro e wc42 ⟨rfl, hBq⟩)
      replace hP := blk_then hP hBq
      replace hT := hT.then_ hBq
      replace h1 := blk_then h1 hBq
      replace h4 := blk_then h4 hBq
      clear c1 kA hBq
      have c1 : wc42.cell? ⟨g, 1, none⟩ = some (.int .i64 (i : Int)) := hP.cellv rfl
      have kA := hN.out 43 b43 wc42 h43.out.symm hP 43 rfl
      cases b43 with
      | true =>
        have hr := Lib.hid (show r = .got (Ere.timesN t (1) (-1)) (i + 1) by rw [← hR.out]; simp)
        go_wp2_with (go_at_call 57; refine kA.mono ?_; rintro e wc43 ⟨rfl, hBq⟩)
        go_meet
        exact ⟨i, 1, -1, by omega, rfl, rfl, hr.out, hT.then_ hBq, blk_then hP hBq⟩
      | false =>
        go_upto_region 6 with (go_at_call 57; refine kA.mono ?_; rintro e wc43 ⟨rfl, hBq⟩)
        replace hP := blk_then hP hBq
        replace hT := hT.then_ hBq
        replace h1 := blk_then h1 hBq
        replace h4 := blk_then h4 hBq
        clear c1 kA hBq
        have c1 : wc43.cell? ⟨g, 1, none⟩ = some (.int .i64 (i : Int)) := hP.cellv rfl
        have kA := hN.out 63 b63 wc43 h63.out.symm hP 63 rfl
        cases b63 with
        | true =>
          have hr := Lib.hid (show r = .got (Ere.timesN t (0) (1)) (i + 1) by rw [← hR.out]; simp)
          go_wp2_with (go_at_call 57; refine kA.mono ?_; rintro e wc63 ⟨rfl, hBq⟩)
          go_meet
          exact ⟨i, 0, 1, by omega, rfl, rfl, hr.out, hT.then_ hBq, blk_then hP hBq⟩
        | false =>
          go_upto_region 8 with (go_at_call 57; refine kA.mono ?_; rintro e wc63 ⟨rfl, hBq⟩)
          replace hP := blk_then hP hBq
          replace hT := hT.then_ hBq
          replace h1 := blk_then h1 hBq
          replace h4 := blk_then h4 hBq
          clear c1 kA hBq
          have c1 : wc63.cell? ⟨g, 1, none⟩ = some (.int .i64 (i : Int)) := hP.cellv rfl
          have kA := hN.out 123 b123 wc63 h123.out.symm hP 123 rfl
          cases b123 with
          | true =>
            go_upto_region 9 with (go_at_call 57; refine kA.mono ?_; rintro e wc123 ⟨rfl, hBq⟩)
            replace hP := blk_then hP hBq
            replace hT := hT.then_ hBq
            clear c1 kA hBq
            have kC := hNC.out wc123 hP
            cases rc with
            | fault e0 i0 =>
              have hr := Lib.hid (show r = .fault e0 i0 by rw [← hR.out]; simp [Ere.Res.bind])
              go_wp2_with (go_at_call 88; refine kC.mono ?_; rintro e wd ⟨hT2, hfe⟩; unfold faultE at hfe; subst hfe)
              rw [hr.out]
              exact ⟨rfl, (hT0.out.trans hT).trans hT2, rfl⟩
            | got cc j =>
              obtain ⟨a, b⟩ := cc
              have hr := Lib.hid (show r = .got (Ere.timesN t (a : Int) b) (j + 1) by rw [← hR.out]; simp [Ere.Res.bind])
              have hj := hci.out _ _ rfl
              go_wp2_with (go_at_call 88; refine kC.mono ?_; rintro e wd ⟨hT2, rfl, hP2⟩)
              go_meet
              exact ⟨j, (a : Int), b, hj, rfl, rfl, hr.out, hT.trans hT2, hP2⟩
          | false =>
            have hr := Lib.hid (show r = .got t i by rw [← hR.out]; simp)
            go_wp2_with (first | (go_at_call 57; refine kA.mono ?_; rintro e wc123 ⟨rfl, hBq⟩; replace h1 := blk_then h1 hBq; replace h4 := blk_then h4 hBq) | (refine wl_load_nv rfl _ rfl g1 rfl _ h1 ?_) | (refine wl_store_nv rfl _ _ rfl g4 x rfl rfl _ rfl h4 ?_; intro w7 h7 hg7))
            refine ret_nv rfl rfl h7 rfl ?_
            rw [hr.out]
            have ht8 := ((ht.out.turn hT hne.out.2.2.2.2.2.2.1).then_ hBq).keep (w' := w7) (fun b hb => hg7.block b (by have := ((ht.out.turn hT hne.out.2.2.2.2.2.2.1).then_ hBq).lt b hb; omega) (fun e => by injection e with e; exact (hne.out.2.2.2.2.2.2.2.2 b hb).2.1 e))
            exact ⟨(hT0.out.trans (hT.then_ hBq)).grown hg7 (fun q e => by injection e with e; have := hne.out; right; omega), (blk_then hP hBq).grown hg7 (fun e => by injection e with e; have := hne.out; omega), x, bs, rfl, ht8⟩
  case rest =>
    obtain ⟨j, a, b, hj, rfl, rfl, hr, hT2, hP2⟩ := hcut
    have f1 := hP2.frozen 1
    have c1 : wc.cell? ⟨g, 1, none⟩ = some (.int .i64 (j : Int)) := hP2.cellv rfl
    have hjI : (j : Int) ≤ 3000 := by omega
    replace hr := Lib.hid hr
    have k1 := blk_turn h1 hT2 (by have := hne.out; omega)
    have k4 := blk_turn h4 hT2 (by have := hne.out; omega)
    have kt := ht.out.turn hT2 hne.out.2.2.2.2.2.2.1
    clear h1 h4 hP
    go_upto_region 11 with (fail)
    have h5 := setRd hP2 (v := .int .i64 ((j : Int) + 1)) (j := j + 1) (by simp)
    have hT5 := turnRd (hT0.out.trans hT2) 1 (.int .i64 ((j : Int) + 1))
    have ht5 := kt.keep (w' := wc.setCell ⟨g, 1, none⟩ (.int .i64 ((j : Int) + 1))) (fun b hb => Below.heap_setCell _ _ _ _ ((hne.out.2.2.2.2.2.2.2.2 b hb).2.2))
    have h15 := k1.far (p := ⟨g, 1, none⟩) (by have := hne.out; simp; omega) (.int .i64 ((j : Int) + 1))
    have h45 := k4.far (p := ⟨g, 1, none⟩) (by have := hne.out; simp; omega) (.int .i64 ((j : Int) + 1))
    obtain ⟨w5, hw5⟩ : ∃ y, y = wc.setCell ⟨g, 1, none⟩ (.int .i64 ((j : Int) + 1)) := ⟨_, rfl⟩
    rw [← hw5] at h5 hT5 ht5 h15 h45 ⊢
    clear hw5 hT2 hP2 k1 k4 kt c1 f1 hT hT0
    replace ht5 := Lib.hid ht5
    have hne5 := Lib.hid (show B ≤ w5.heap.size by have := hT5.size; have := hne.out; omega)
    have hnn := Lib.hid (show g4 < w5.heap.size ∧ g < w5.heap.size by have := h45.lt; have := h5.lt; omega)
    have hB6 : Below w5.heap.size w5 (w5.alloc (.cells x.C 27)) := below_alloc (Below.refl _ _) _
    have h46 := Lib.hid (blk_then h45 hB6)
    replace hB6 := Lib.hid hB6
    go_wp2_with (first | (refine wl_load_nv rfl _ rfl g1 rfl x h15 ?_) | (refine wl_build1n rfl _ rfl x rfl ?_) | (refine wl_build_node rfl _ rfl (NV.mk 5 0 (some ⟨w5.heap.size, 0, none⟩) 1 1 a b) #[(0, .int .i64 5), (2, .slice (some ⟨w5.heap.size, 0, none⟩) 1 1), (3, .int .i64 a), (4, .int .i64 b)] rfl (fun w => build_ntimes 5 _ 1 1 a b w) ?_) | (refine wl_store_nv rfl _ _ rfl g4 (NV.mk 5 0 (some ⟨w5.heap.size, 0, none⟩) 1 1 a b) rfl rfl _ rfl h46.out ?_; intro w7 h7 hg7))
    refine ret_nv rfl rfl h7 rfl ?_
    rw [hr.out]
    have hL := NdL.one ht5.out hB6.out (Nat.le_refl _) (Blk.new _ _ _) hne5.out
    have hL7 := hL.keep (w' := w7) (fun q hq => hg7.block q (hL.lt q hq).2 (fun e => by
      have h9 := hnn.out
      injection e with e
      simp only [ownL, List.flatten_cons, List.flatten_nil, List.append_nil, List.cons_append, List.nil_append, List.mem_cons] at hq
      rcases hq with hq | hq
      · omega
      · exact (hne.out.2.2.2.2.2.2.2.2 q hq).2.1 e))
    exact ⟨(hT5.then_ hB6.out).grown hg7 (fun q e => by injection e with e; have := hne.out; right; omega), (blk_then h5 hB6.out).grown hg7 (fun e => by injection e with e; have := hne.out; omega), _, _, rfl, hL7.node 5 0 a b⟩
end Go.Proofs.Ytajainmldcnaeaa
namespace Go.Proofs
open Go.Shelf
def Try.lays143_ren : Go.Shelf.Ren := ⟨fun | 143 => 104 | 219 => 107 | 217 => 55 | 225 => 109 | 224 => 110 | 267 => 111 | 266 => 65 | 314 => 113 | n => n, fun | 9 => 9 | 3 => 3 | 4 => 4 | 5 => 5 | 46 => 40 | 146 => 133 | 51 => 57 | n => n, fun | 1 => 0 | n => n⟩
theorem Try.lays143 : Go.Proofs.Lays.n143 Try.prog Try.lays143_ren := {
  mixed := by kernel_rfl
  f143 := Try.func104.trans (congrArg some (by kernel_rfl))
  f217 := Try.func55.trans (congrArg some (by kernel_rfl))
  f219 := Try.func107.trans (congrArg some (by kernel_rfl))
  f224 := Try.func110.trans (congrArg some (by kernel_rfl))
  f225 := Try.func109.trans (congrArg some (by kernel_rfl))
  f266 := Try.func65.trans (congrArg some (by kernel_rfl))
  f267 := Try.func111.trans (congrArg some (by kernel_rfl))
  f314 := Try.func113.trans (congrArg some (by kernel_rfl))
  t3 := Try.underlying3
  a3 := Try.isAgg3
  z3 := Try.sizeOf3
  v3 := Try.zeroValue3
  t4 := Try.underlying4
  a4 := Try.isAgg4
  z4 := Try.sizeOf4
  v4 := Try.zeroValue4
  t5 := Try.underlying5
  a5 := Try.isAgg5
  z5 := Try.sizeOf5
  v5 := Try.zeroValue5
  t9 := Try.underlying9
  a9 := Try.isAgg9
  z9 := Try.sizeOf9
  v9 := Try.zeroValue9
  t46 := Try.underlying40
  a46 := Try.isAgg40
  z46 := Try.sizeOf40
  v46 := Try.zeroValue40
  t51 := Try.underlying57
  a51 := Try.isAgg57
  z51 := Try.sizeOf57
  v51 := Try.zeroValue57
  t146 := Try.underlying133
  a146 := Try.isAgg133
  z146 := Try.sizeOf133
  v146 := Try.zeroValue133
  g1 := by kernel_rfl }
open Go.RowKit Go.Lib in
theorem Try.strings_Index (s sub : ByteArray) (m : Int) (w : World) (hs : s.size < 4294967281) (hm : w.cell? ⟨0, 0, none⟩ = some (.int .i64 m)) :
    Calls Try.prog 104 #[.string s, .string sub] w fun e w' => e = .returned (.int .i64 (Lib.index s.data.toList sub.data.toList)) ∧ w' = w := Any.strings_Index Try.lays143 s sub m w hs hm
end Go.Proofs
namespace Go.Proofs.Ytajainmldcnaeaa
open Go.RowKit Go.Maps
set_option linter.unusedVariables false
set_option linter.unusedSimpArgs false
attribute [local go_sem] Oper.semAt_some

namespace Ere
def hit (p : ByteArray) (j : Nat) : Prop := j + 1 < p.size ∧ chr p j = 58 ∧ chr p (j + 1) = 93
theorem endAt_none (p : ByteArray) : ∀ n i, p.size ≤ n + i → endAt p n i = none → ∀ j, i ≤ j → ¬ hit p j
  | 0, i, hn, _, j, hj => fun h => by have := h.1; omega
  | n + 1, i, hn, h, j, hj => by
    unfold endAt at h
    split at h
    · intro hh; have := hh.1; omega
    · split at h
      · cases h
      · rename_i h1 h2
        by_cases e : j = i
        · subst e
          exact fun hh => h2 ⟨hh.2.1, hh.2.2⟩
        · exact endAt_none p n (i + 1) (by omega) h j (by omega)
theorem endAt_some (p : ByteArray) : ∀ n i j, endAt p n i = some j → i ≤ j ∧ hit p j ∧ ∀ k, i ≤ k → k < j → ¬ hit p k
  | 0, i, j, h => by cases h
  | n + 1, i, j, h => by
    unfold endAt at h
    split at h
    · cases h
    · split at h
      · rename_i h1 h2
        injection h with h
        subst h
        exact ⟨Nat.le_refl _, ⟨by omega, h2.1, h2.2⟩, fun k h3 h4 => by omega⟩
      · rename_i h1 h2
        obtain ⟨a, b, c⟩ := endAt_some p n (i + 1) j h
        refine ⟨by omega, b, fun k h3 h4 => ?_⟩
        by_cases e : k = i
        · subst e
          exact fun hh => h2 ⟨hh.2.1, hh.2.2⟩
        · exact c k (by omega) h4
theorem chr_list (p : ByteArray) (j : Nat) (c : UInt8) : (p.data.toList[j]? = some c) ↔ (j < p.size ∧ chr p j = c.toNat) := by
  unfold chr
  by_cases h : j < p.size
  · rw [dif_pos h]
    have e : p.data.toList[j]? = some p[j] := Lib.data_getElem? p j h
    rw [e]
    constructor
    · intro e; injection e with e; exact ⟨h, by rw [e]⟩
    · intro e; rw [UInt8.toNat_inj.1 e.2]
  · rw [dif_neg h]
    constructor
    · intro e
      have : p.data.toList[j]? = none := by rw [List.getElem?_eq_none]; simpa using h
      rw [this] at e; cases e
    · intro e; exact absurd e.1 h
theorem occ_hit (p : ByteArray) (a k : Nat) (ha : a ≤ p.size) : (Lib.occAt (p.extract a p.size).data.toList [58, 93] k = true) ↔ hit p (a + k) := by
  unfold Lib.occAt
  rw [Lib.extract_to_end, List.drop_drop]
  have key : ∀ l : List UInt8, (([58, 93] : List UInt8).isPrefixOf l = true) ↔ (l[0]? = some 58 ∧ l[1]? = some 93) := by
    intro l
    rcases l with _ | ⟨x, _ | ⟨y, l⟩⟩
    · simp
    · simp
    · simp [List.isPrefixOf]
      constructor <;> (rintro ⟨a, b⟩; exact ⟨a.symm, b.symm⟩)
  rw [key, List.getElem?_drop, List.getElem?_drop, Nat.add_zero, chr_list, chr_list]
  unfold hit
  constructor
  · rintro ⟨⟨_, h2⟩, h3, h4⟩
    exact ⟨by omega, h2, h4⟩
  · rintro ⟨h1, h2, h3⟩
    exact ⟨⟨by omega, h2⟩, by omega, h3⟩
theorem index_end (p : ByteArray) (a : Nat) (ha : a ≤ p.size) : Lib.index (p.extract a p.size).data.toList [58, 93] = match endAt p p.size a with
    | none => -1
    | some j => ((j - a : Nat) : Int) := by
  have hl : (p.extract a p.size).data.toList.length = p.size - a := by
    rw [Lib.extract_to_end]
    simp
  cases he : endAt p p.size a with
  | none =>
    refine Lib.index_none fun k hk => ?_
    rw [Bool.eq_false_iff]
    exact fun h => endAt_none p p.size a (by omega) he (a + k) (by omega) ((occ_hit p a k ha).1 h)
  | some j =>
    obtain ⟨h1, h2, h3⟩ := endAt_some p p.size a j he
    have h4 := h2.1
    refine Lib.index_first (i := j - a) (by omega) ((occ_hit p a (j - a) ha).2 (by rw [show a + (j - a) = j by omega]; exact h2)) fun k hk => ?_
    rw [Bool.eq_false_iff]
    exact fun h => h3 (a + k) (by omega) (by omega) ((occ_hit p a k ha).1 h)
theorem sub_extract (p : ByteArray) (a n : Nat) (h : a + n ≤ p.size) : ((p.extract a p.size).extract 0 n).toList.map UInt8.toNat = sub p a (a + n) := by
  rw [ByteArray.toList_eq]
  unfold sub
  rw [show a + n - a = n by omega]
  apply List.ext_getElem?
  intro k
  rw [List.getElem?_map, List.getElem?_map]
  by_cases hk : k < n
  · have hs : ((p.extract a p.size).extract 0 n).data.toList[k]? = some (p[a + k]'(by omega)) := by
      rw [Lib.data_getElem? _ k (by simp; omega)]
      congr 1
      rw [ByteArray.getElem_extract, ByteArray.getElem_extract]
      simp
    rw [hs, List.getElem?_range hk]
    simp only [Option.map_some]
    unfold chr
    rw [dif_pos (by omega)]
  · rw [List.getElem?_eq_none (by simp; omega), List.getElem?_eq_none (by simp; omega)]
    rfl
end Ere
/-- the library's variable holds some number -/
def Mx (w : World) : Prop := ∃ m : Int, w.cell? ⟨0, 0, none⟩ = some (.int .i64 m)
theorem Mx.turn {g : Nat} {w w' : World} (h : Mx w) (ht : Turn g (g + 1) w w') (h0 : 0 < g) : Mx w' := by
  obtain ⟨m, hm⟩ := h
  refine ⟨m, ?_⟩
  have h1 : 0 < w.heap.size := by
    rcases Nat.eq_zero_or_pos w.heap.size with e | e
    · unfold World.cell? at hm
      simp [Array.getElem?_eq_none (show w.heap.size ≤ 0 by omega)] at hm
    · exact e
  exact (World.cell?_of_block (w := w) (ht.block 0 h1 (.inl h0))).trans hm
theorem Mx.then_ {w w' : World} (h : Mx w) (ht : Below w.heap.size w w') : Mx w' := h.turn (g := 1) (Turn.of_below ht) (by omega)
theorem set0_eq : setC 0 = #[.int .u64 0, .int .u64 0, .int .u64 0, .int .u64 0] := by kernel_rfl
set_option maxRecDepth 100000 in
set_option maxHeartbeats 4000000 in
theorem clas_any (g : Nat) (p : ByteArray) (i s : Nat) (w : World) (hP : Blk w g 76 (rdC p i)) (hi : i + 2 ≤ p.size) (hp : p.size ≤ 1024) (hM : Mx w) :
    Calls Try.prog 101 #[.pointer (some ⟨g, 0, none⟩), .int .i64 (s : Int)] w fun e w' => RdAns g p w (fun x : BSet => .agg (setC x)) (Ere.classR p s i) e w' := by
  obtain ⟨r, hr0⟩ : ∃ r, Ere.classR p s i = r := ⟨_, rfl⟩
  rw [hr0]
  have hR := hr0
  unfold Ere.classR at hR
  have hE := Ere.index_end p (i + 2) hi
  have hsub := fun n h => Ere.sub_extract p (i + 2) n h
  obtain ⟨q, hq⟩ : ∃ q, q = p.extract (i + 2) p.size := ⟨_, rfl⟩
  rw [← hq] at hE hsub
  replace hq := Lib.hid hq
  replace hsub := Lib.hid hsub
  obtain ⟨oe, hoe⟩ : ∃ o, Ere.endAt p p.size (i + 2) = o := ⟨_, rfl⟩
  rw [hoe] at hR hE
  have hend := fun j (e : oe = some j) => Ere.endAt_some p p.size (i + 2) j (by rw [hoe, e])
  clear hr0 hoe
  replace hend := Lib.hid hend
  replace hR := Lib.hid hR
  have hI : ∀ W, Mx W → Calls Try.prog 104 #[.string q, .string ⟨#[58, 93]⟩] W fun e w' => e = .returned (.int .i64 (Lib.index q.data.toList [58, 93])) ∧ w' = W := fun W hW => by
    obtain ⟨m, hm⟩ := hW
    exact Try.strings_Index q ⟨#[58, 93]⟩ m W (by rw [hq.out]; simp; omega) hm
  rw [hE] at hI
  replace hI := Lib.hid hI
  clear hE
  have hT := Turn.refl g (g + 1) w
  have hgl := Lib.hid hP.lt
  have hpI : (p.size : Int) ≤ 1024 := by omega
  have hiI : (i : Int) + 2 ≤ p.size := by omega
  go_enter Try.func101, Try.ntmps101
  have h4 : Blk (w.alloc (.cells #[.int .u64 0, .int .u64 0, .int .u64 0, .int .u64 0] 24)) w.heap.size 24 (setC 0) := by rw [set0_eq]; exact Blk.new' _ _ _ rfl
  have hB1 : Below w.heap.size w (w.alloc (.cells #[.int .u64 0, .int .u64 0, .int .u64 0, .int .u64 0] 24)) := below_alloc (Below.refl _ _) _
  go_upto_region 1 with (fail)
  obtain ⟨w1, hw1⟩ : ∃ y, y = w.alloc (.cells #[.int .u64 0, .int .u64 0, .int .u64 0, .int .u64 0] 24) := ⟨_, rfl⟩
  have hg4 := h4.lt
  rw [← hw1] at h4 hB1 hg4 ⊢
  clear hw1
  replace hP := blk_then hP hB1
  replace hT := hT.then_ hB1
  replace hM := hM.then_ hB1
  clear hB1
  obtain ⟨g4, hg4e⟩ : ∃ y, y = w.heap.size := ⟨_, rfl⟩
  rw [← hg4e] at h4 hg4 ⊢
  have hwb := Lib.hid (show w.heap.size ≤ g4 by omega)
  clear hg4e
  have c0 : w1.cell? ⟨g, 0, none⟩ = some (.string p) := hP.cellv rfl
  have c1 : w1.cell? ⟨g, 1, none⟩ = some (.int .i64 (i : Int)) := hP.cellv rfl
  go_big_region
  rw [← hq.out]
  replace hP := hP.drew
  replace h4 := h4.drew
  replace hT := hT.then_ ((Below.refl w1.heap.size w1).drew)
  replace hM := hM.then_ ((Below.refl w1.heap.size w1).drew)
  replace hg4 : g4 < w1.drew.heap.size := hg4
  obtain ⟨w2, hw2⟩ : ∃ y, y = w1.drew := ⟨_, rfl⟩
  rw [← hw2] at hP h4 hT hM hg4 ⊢
  clear hw2 c0 c1
  have kI := hI.out w2 hM
  cases oe with
  | none =>
    have hr := Lib.hid (show r = .fault 43 s by rw [← hR.out])
    simp only at kI
    clear hI hend hsub
    go_wp2_with (first | (go_at_call 104; refine kI.mono ?_; rintro e w3 ⟨rfl, rfl⟩) | (go_at_call 40; refine (give_any 43 s _).mono ?_; rintro e w4 ⟨hfe, hB⟩; unfold faultE at hfe; subst hfe))
    rw [hr.out]
    exact ⟨rfl, hT.then_ hB, rfl⟩
  | some j =>
    obtain ⟨h1, h2, _⟩ := hend.out j rfl
    have h3 := h2.1
    obtain ⟨n, hn⟩ : ∃ n, j = i + 2 + n := ⟨j - (i + 2), by omega⟩
    subst hn
    have hjn : i + 2 + n - (i + 2) = n := by omega
    simp only [hjn] at kI
    have hqs : q.size = p.size - (i + 2) := by rw [hq.out]; simp
    have hnI : (n : Int) ≤ q.size := by omega
    have hnp : (n : Int) ≤ 1024 := by omega
    have kC := class_all (q.extract 0 n)
    rw [hsub.out n (by omega)] at kC
    clear h1 h2 h3 hjn hqs hend hsub hI
    cases hnb : Ere.nameB (Ere.sub p (i + 2) (i + 2 + n)) with
    | none =>
      have hcv : clsV (Ere.sub p (i + 2) (i + 2 + n)) = .tuple #[.agg (setC 0), .int .i64 30] := by unfold clsV; rw [hnb]
      rw [hcv] at kC
      have hr := Lib.hid (show r = .fault 30 i by rw [← hR.out]; simp only [hnb])
      clear hcv hnb hR
      go_upto_region 6 with (first | (go_at_call 104; refine kI.mono ?_; rintro e w3 ⟨rfl, rfl⟩) | (go_at_call 105; refine (kC _).mono ?_; rintro e w4 ⟨rfl, hB⟩) | (refine wl_store_set rfl _ _ rfl _ _ rfl rfl _ (Blk.new _ _ (setC 0)) ?_; intro w5 hb5 hg5))
      have hsz := Lib.hid (show g < w4.heap.size ∧ g4 < w4.heap.size ∧ w.heap.size ≤ w4.heap.size by have := hB.size; have := hP.lt; have := h4.lt; have := hT.size; omega)
      have hB5 := below_grown (below_then hB (below_alloc (Below.refl w4.heap.size w4) (.cells #[.int .u64 0, .int .u64 0, .int .u64 0, .int .u64 0] 24))) hg5 hB.size
      replace hP := blk_then hP hB5
      replace hT := hT.then_ hB5
      replace h4 := blk_then h4 hB5
      clear hB hg5 hM kI kC
      have hP0 := hP.lt
      have h40 := h4.lt
      have c1 : w5.cell? ⟨g, 1, none⟩ = some (.int .i64 (i : Int)) := hP.cellv rfl
      go_wp2_with (go_at_call 40; refine (give_any 30 i _).mono ?_; rintro e w6 ⟨hfe, hB⟩; unfold faultE at hfe; subst hfe)
      rw [hr.out]
      exact ⟨rfl, hT.then_ hB, rfl⟩
    | some x =>
      have hcv : clsV (Ere.sub p (i + 2) (i + 2 + n)) = .tuple #[.agg (setC x), .int .i64 0] := by unfold clsV; rw [hnb]
      rw [hcv] at kC
      have hr := Lib.hid (show r = .got x (i + 2 + n + 2) by rw [← hR.out]; simp only [hnb])
      clear hcv hnb hR
      go_upto_region 6 with (first | (go_at_call 104; refine kI.mono ?_; rintro e w3 ⟨rfl, rfl⟩) | (go_at_call 105; refine (kC _).mono ?_; rintro e w4 ⟨rfl, hB⟩) | (refine wl_store_set rfl _ _ rfl _ _ rfl rfl _ (Blk.new _ _ (setC 0)) ?_; intro w5 hb5 hg5))
      have hsz := Lib.hid (show g < w4.heap.size ∧ g4 < w4.heap.size ∧ w.heap.size ≤ w4.heap.size by have := hB.size; have := hP.lt; have := h4.lt; have := hT.size; omega)
      have hB5 := below_grown (below_then hB (below_alloc (Below.refl w4.heap.size w4) (.cells #[.int .u64 0, .int .u64 0, .int .u64 0, .int .u64 0] 24))) hg5 hB.size
      replace hP := blk_then hP hB5
      replace hT := hT.then_ hB5
      replace h4 := blk_then h4 hB5
      clear hB hg5 hM kI kC
      have hP0 := hP.lt
      have h40 := h4.lt
      have hb50 := hb5.lt
      obtain ⟨g7, hg7⟩ : ∃ y, y = w4.heap.size := ⟨_, rfl⟩
      rw [← hg7] at hb5 hb50 ⊢
      have hne := Lib.hid (show g7 ≠ g ∧ g4 ≠ g ∧ w.heap.size ≤ g7 by have := hsz.out; have := hwb.out; have := hgl.out; omega)
      clear hg7
      have c1 : w5.cell? ⟨g, 1, none⟩ = some (.int .i64 (i : Int)) := hP.cellv rfl
      have f1 := hP.frozen 1
      go_upto_region 9 with (fail)
      have hP2 := setRd hP (v := .int .i64 ((i : Int) + (2 + (n : Int) + 2))) (j := i + 2 + n + 2) (by congr 1; omega)
      have hT2 := turnRd hT 1 (.int .i64 ((i : Int) + (2 + (n : Int) + 2)))
      have h42 := h4.far (p := ⟨g, 1, none⟩) (by have := hne.out; simp; omega) (.int .i64 ((i : Int) + (2 + (n : Int) + 2)))
      have h72 := hb5.far (p := ⟨g, 1, none⟩) (by have := hne.out; simp; omega) (.int .i64 ((i : Int) + (2 + (n : Int) + 2)))
      obtain ⟨w6, hw6⟩ : ∃ y, y = w5.setCell ⟨g, 1, none⟩ (.int .i64 ((i : Int) + (2 + (n : Int) + 2))) := ⟨_, rfl⟩
      rw [← hw6] at hP2 hT2 h42 h72 ⊢
      clear hw6 c1 f1 hP hT h4 hb5 hB5
      go_wp2_with (first | (refine wl_load_set rfl _ rfl g7 rfl _ h72 ?_) | (refine wl_store_set rfl _ _ rfl g4 _ rfl rfl _ h42 ?_; intro w7 h7 hg7))
      refine ret_set rfl rfl h7 rfl ?_
      rw [hr.out]
      exact ⟨hT2.grown hg7 (fun q e => by injection e with e; have := hwb.out; right; omega), rfl, hP2.grown hg7 (fun e => by injection e with e; have := hne.out; omega)⟩
end Go.Proofs.Ytajainmldcnaeaa
namespace Go.Proofs.Ytajainmldcnaeaa
open Go.ChangeShapes Go.WideShapes Go.ChangeAt Go.RowKit
open Go.ChangeMaps (open_string shut_string)
set_option linter.unusedVariables false
set_option linter.unusedSimpArgs false

theorem own : ownKnob Try.prog.godebug = none := by kernel_rfl
theorem laidOut : laidOutB Try.prog = true := by kernel_rfl
section
variable {H : Type} {enc : TypeId × Value → H} {w : World} {base : Nat} {spare : Nat → Bool} {held : Bool} {fuel : Nat}
end

theorem choose_list {α : Type} {p : Nat → α → Prop} : ∀ (n : Nat), (∀ i, i < n → ∃ y, p i y) → ∃ l : List α, l.length = n ∧ ∀ i (h : i < l.length), p i l[i]
  | 0, _ => ⟨[], rfl, fun i h => absurd h (by simp)⟩
  | n + 1, h => by
    obtain ⟨l, hl, hp⟩ := choose_list n (fun i hi => h i (by omega))
    obtain ⟨y, hy⟩ := h n (by omega)
    refine ⟨l ++ [y], by simp [hl], fun i hi => ?_⟩
    by_cases e : i < l.length
    · rw [List.getElem_append_left e]; exact hp i e
    · have : i = n := by simp at hi; omega
      subst this
      rw [List.getElem_append_right (by omega)]
      simpa using hy
theorem spot_none {w : World} {a : Addr} {v : Value} (h : w.cell? a = some v) : a.spot = none := World.cell?_spot h
set_option maxRecDepth 100000 in
/-- an argument that is a slice whose elements read by enc -/
theorem open_slice_of {α : Type} {ea : α → Array Value} {t e : TypeId} {size : Nat} {H : Type} {enc : TypeId × Value → H} {W : World} {held : Bool} {r : Reach} {b0 : Nat} {v : Value} {d : DataW H} {ps : List MemPlace}
    (ht : Try.prog.underlying t = some (.slice e)) (hc : Try.prog.cellsOf e = size) (hpos : 0 < size) (hsz : ∀ y, (ea y).size = size)
    (hel : ∀ (fuel : Nat) (cs : List Value) (x : DataW H × List MemPlace), DataW.trod enc Try.prog W 0 (fun _ => true) held fuel e cs = some x → ∃ y, cs = (ea y).toList)
    (hval : Value.okWide Try.prog W r b0 t v) (hd : DataW.Trod enc Try.prog W 0 (fun _ => true) held t v d ps) :
    ∃ (A : Option Addr) (n c : Nat) (l : List α), v = .slice A n c ∧ n = l.length ∧ n ≤ maxLen ∧ SliceOf W W.heap.size size ea A l ∧ ((d = .nil ∧ n = 0) ∨ ∃ el sp, d = .slice el sp ∧ el.length = n) := by
  obtain ⟨A, n, c, rfl⟩ := okWide_slice ht hval
  obtain ⟨fuel, hf⟩ := hd
  rcases Deep.open_slice ht hf with ⟨hcs, hx⟩ | ⟨a, len, cap, m, n', D, Pl, hcs, _, hl, hm, hmm, hx, hi⟩
  · simp [Value.cells] at hcs
    obtain ⟨rfl, rfl, rfl⟩ := hcs
    exact ⟨none, 0, 0, [], rfl, rfl, by unfold maxLen; omega, .inl rfl, .inl ⟨by injection hx, rfl⟩⟩
  · simp [Value.cells] at hcs
    obtain ⟨rfl, rfl, rfl⟩ := hcs
    have hmc : m = c := by simpa using hmm
    subst hmc
    have key : ∀ i, i < n → ∃ y : α, W.cells? 0 (a.add (i * size)) size = some (ea y).toList := by
      intro i hlt
      obtain ⟨cs', h1, h2⟩ := hi i (by omega)
      obtain ⟨y, hy⟩ := hel _ _ _ h2
      rw [hc] at h1
      exact ⟨y, by rw [h1, hy]⟩
    obtain ⟨l, hll, hp⟩ := choose_list n key
    refine ⟨some a, n, m, l, rfl, hll.symm, by omega, ?_, .inr ⟨_, _, by injection hx, by simp⟩⟩
    rcases Nat.eq_zero_or_pos l.length with h0 | h0
    · exact .inl (List.eq_nil_of_length_eq_zero h0)
    · have hcell : ∀ i (h : i < l.length) (j : Nat) (u : Value), (ea l[i])[j]? = some u → W.cell? ((a.add (i * size)).add j) = some u := by
        intro i h j u hu
        obtain ⟨_, hlen, hget⟩ := World.cells?_some (hp i h)
        have hj : j < size := by
          rw [← hsz l[i]]
          rcases Nat.lt_or_ge j (ea l[i]).size with h1 | h1
          · exact h1
          · rw [Array.getElem?_eq_none h1] at hu; cases hu
        rw [hget j hj]
        simpa using hu
      have hz : ∃ u, (ea l[0])[0]? = some u := ⟨_, Array.getElem?_eq_getElem (by rw [hsz]; exact hpos)⟩
      obtain ⟨u, hu⟩ := hz
      have h00 := hcell 0 h0 0 u hu
      have hsp : a.spot = none := by
        have := spot_none h00
        simpa [Addr.add] using this
      obtain ⟨b, off, spot⟩ := a
      simp only at hsp
      subst hsp
      have hb : b < W.heap.size := by
        have := block_lt_of_cell h00
        simpa [Addr.add] using this
      refine .inr ⟨b, off, rfl, hb, fun i h j u hu => ?_⟩
      have := hcell i h j u hu
      rw [addr_add, addr_add] at this
      exact this

end Go.Proofs.Ytajainmldcnaeaa
namespace Go.Proofs.Ytajainmldcnaeaa
open Go.ChangeShapes Go.WideShapes Go.ChangeAt Go.RowKit
open Go.ChangeMaps (open_string shut_string)
set_option linter.unusedVariables false
set_option linter.unusedSimpArgs false

/-- a row whose specification has a condition of its own; the world's shape kept -/
theorem returnsInHanded_of_cond_shaped {H : Type} {enc : TypeId × Value → H} {a : Assume} {C : Checked} {os : Os} {f : FuncId} {fn : Func} {s : OpenSpec} {k : (H : Type) → List (DataW H) → Bool} (hk : s.cond = some k) {F : Stop.Interp} {conds : List PathCond} {apart fresh handsOn again : Bool}
    (own : ownKnob C.prog.godebug = none) (started : os.Started) (noInit : C.prog.inits.idxOf? f = none) (hfn : C.prog.funcs[f]? = some fn)
    (witness : ∃ (w : World) (tape : Tape) (i : Input), w.os = os ∧ (w.forCall tape i).Shaped C.prog ∧ i.vars = [] ∧ Input.okWide C.prog (w.forCall tape i) .any w.heap.size f i ∧
      s.pre6 enc C.prog fn conds apart (w.forCall tape i).memory i.args ∧ a.holds C.prog (lone (Frame.enter C.prog f i.args .normal) [] (w.forCall tape i)))
    (contract : ∀ (W : World) (base : Nat) (args : Array Value) (ds gs : List (DataW H)) (before : List MemPlace),
      (∀ (j : Nat) t v, fn.params[j]? = some t → args[j]? = some v → Value.okWide C.prog W .any base t v) →
      DataW.Whole enc C.prog fn.params.toList s.vars apart W args.toList ds gs before →
      conds.all (PathCond.test C.prog ⟨fn.params.toList, ds, s.bare.plain.varTypes C.prog, gs⟩) = true → k H (ds ++ gs) = true → W.ShapedOpen C.prog →
      a.holds C.prog (lone (Frame.enter C.prog f args .normal) [] W) →
      Calls C.prog f args W fun e W' => ∃ v, e = .returned v ∧ (s.at F).post enc C.prog fn apart fresh handsOn again W args v W') :
    ReturnsInHanded a C os f .any (s.pre6 enc C.prog fn conds apart) ((s.at F).post enc C.prog fn apart fresh handsOn again) := by
  refine returnsInHanded_of_calls own started noInit witness ?_
  intro w tape i _ hsh _ hok hpre hholds
  obtain ⟨_, _, _, fn', hfn', _, _, _, _, hval⟩ := hok
  have e : fn' = fn := Option.some.inj (hfn'.symm.trans hfn)
  subst e
  obtain ⟨ds, gs, before, hw, hc, hkk⟩ := (OpenSpec.pre_some hk conds apart _ _).1 hpre.1
  have hw' := DataW.Whole.of_heap (w' := w.forCall tape i) (by rfl) hw
  refine (contract (w.forCall tape i) w.heap.size i.args ds gs before hval hw' hc hkk hsh hholds).mono fun e W' ⟨v, he, hp⟩ => ?_
  subst he
  exact ChangeSpec.post_blind hp
theorem mx_of {W : World} (h : W.ShapedOpen Try.prog) : Mx W :=
  cell_of_shapedOpen_int (P := Try.prog) (g := 0) (t := 3) (zero := #[.int .i64 0]) h (of_decide_eq_true (by kernel_rfl)) (by kernel_rfl) rfl (by kernel_rfl) (by kernel_rfl) Try.underlying3
theorem bulk_str {H : Type} {l : List UInt8} {K : Nat} (h : Rows.uptoBulk (DataW.lit (H := H) (.string l)) ≤ K) : l.length ≤ K := by
  simp only [Rows.uptoBulk] at h
  omega
end Go.Proofs.Ytajainmldcnaeaa
namespace Go.Proofs.Ytajainmldcnaeaa
set_option linter.unusedVariables false
set_option linter.unusedSimpArgs false

theorem testBit_or_pow (x n i : Nat) : (x ||| 2 ^ n).testBit i = (x.testBit i || decide (n = i)) := by rw [Nat.testBit_or, Nat.testBit_two_pow]
/-- the numbers below n that are in the set, rising -/
def bitsTo (x n : Nat) : List Nat := (List.range n).filter x.testBit
theorem bitsTo_succ (x n : Nat) : bitsTo x (n + 1) = if x.testBit n then bitsTo x n ++ [n] else bitsTo x n := by
  unfold bitsTo
  rw [List.range_succ, List.filter_append]
  cases h : x.testBit n <;> simp [h]
theorem mem_bitsTo (x n i : Nat) : i ∈ bitsTo x n ↔ i < n ∧ x.testBit i = true := by simp [bitsTo]
theorem bitsTo_length (x n : Nat) : (bitsTo x n).length ≤ n := by
  have := List.length_filter_le x.testBit (List.range n)
  simpa [bitsTo] using this
open Classical in
/-- the numbers below n that have p, as bits -/
noncomputable def ofPred (p : Nat → Prop) : Nat → Nat
  | 0 => 0
  | n + 1 => if p n then ofPred p n ||| 2 ^ n else ofPred p n
theorem ofPred_bit (p : Nat → Prop) (n i : Nat) : (ofPred p n).testBit i = true ↔ i < n ∧ p i := by
  induction n with
  | zero => simp [ofPred]
  | succ n ih =>
    unfold ofPred
    split
    · rename_i h
      rw [testBit_or_pow, Bool.or_eq_true, ih, decide_eq_true_eq]
      constructor
      · rintro (h1 | rfl)
        · exact ⟨by omega, h1.2⟩
        · exact ⟨by omega, h⟩
      · rintro ⟨h1, h2⟩
        by_cases e : n = i
        · exact .inr e
        · exact .inl ⟨by omega, h2⟩
    · rename_i h
      rw [ih]
      constructor
      · rintro ⟨h1, h2⟩; exact ⟨by omega, h2⟩
      · rintro ⟨h1, h2⟩
        by_cases e : n = i
        · subst e; exact (h h2).elim
        · exact ⟨by omega, h2⟩
theorem bits_ext {x y : Nat} (h : ∀ i, x.testBit i = true ↔ y.testBit i = true) : x = y := by
  apply Nat.eq_of_testBit_eq
  intro i
  rw [Bool.eq_iff_iff]
  exact h i

end Go.Proofs.Ytajainmldcnaeaa
namespace Go.Proofs.Ytajainmldcnaeaa
set_option linter.unusedVariables false
set_option linter.unusedSimpArgs false

/-- may an edge be gone without a byte? -/
def may (b e : Bool) (d : Edg) : Bool := d.kd == 1 || (b && d.kd == 3) || (e && d.kd == 4)
/-- what is come to from a set without a byte -/
inductive Reach (E : List Edg) (b e : Bool) (x : Nat) : Nat → Prop
  | base {n : Nat} : x.testBit n = true → Reach E b e x n
  | step {d : Edg} : d ∈ E → may b e d = true → Reach E b e x d.fr.toNat → Reach E b e x d.tt.toNat
noncomputable def spreadN (E : List Edg) (N : Nat) (b e : Bool) (x : Nat) : Nat := ofPred (Reach E b e x) N
/-- a machine that fits -/
structure Fits (N : Nat) (E : List Edg) (R : List Nat) : Prop where
  one : 1 ≤ N
  rules : R.length = N
  kinds : ∀ d ∈ E, 1 ≤ d.kd ∧ d.kd ≤ 4
  fr : ∀ d ∈ E, 0 ≤ d.fr ∧ d.fr < N
  tt : ∀ d ∈ E, 0 ≤ d.tt ∧ d.tt < N
  sets : ∀ d ∈ E, d.kd ≠ 2 → d.st = 0
def below (x N : Nat) : Prop := ∀ i, x.testBit i = true → i < N
theorem reach_lt {E : List Edg} {N x : Nat} {b e : Bool} (hE : ∀ d ∈ E, 0 ≤ d.tt ∧ d.tt < N) (hx : below x N) {n : Nat} (h : Reach E b e x n) : n < N := by
  induction h with
  | base h => exact hx _ h
  | step hd _ _ _ => have := hE _ hd; omega
theorem spread_bit {E : List Edg} {N x : Nat} {b e : Bool} (hE : ∀ d ∈ E, 0 ≤ d.tt ∧ d.tt < N) (hx : below x N) (i : Nat) : (spreadN E N b e x).testBit i = true ↔ Reach E b e x i := by
  unfold spreadN
  rw [ofPred_bit]
  exact ⟨fun h => h.2, fun h => ⟨reach_lt hE hx h, h⟩⟩
theorem spread_below (E : List Edg) (N x : Nat) (b e : Bool) : below (spreadN E N b e x) N := fun i hi => ((ofPred_bit _ N i).1 hi).1
theorem below_or {x y N : Nat} (hx : below x N) (hy : below y N) : below (x ||| y) N := fun i hi => by
  rw [Nat.testBit_or, Bool.or_eq_true] at hi
  exact hi.elim (hx i) (hy i)
theorem below_pow {n N : Nat} (h : n < N) : below (2 ^ n) N := fun i hi => by
  rw [Nat.testBit_two_pow, decide_eq_true_eq] at hi
  omega
theorem below_zero (N : Nat) : below 0 N := fun i hi => by simp at hi
theorem below_lt {x N : Nat} (h : below x N) : x < 2 ^ N := by
  refine Classical.byContradiction fun hn => ?_
  obtain ⟨i, hi1, hi2⟩ := Nat.exists_ge_and_testBit_of_ge_two_pow (Nat.le_of_not_lt hn)
  have := h i hi2
  omega
/-- what holds the set, is closed, and is come to, is all that is come to -/
theorem spread_is {E : List Edg} {N x y : Nat} {b e : Bool} (hE : ∀ d ∈ E, 0 ≤ d.tt ∧ d.tt < N) (hx : below x N) (h1 : ∀ i, x.testBit i = true → y.testBit i = true)
    (h2 : ∀ d ∈ E, may b e d = true → y.testBit d.fr.toNat = true → y.testBit d.tt.toNat = true) (h3 : ∀ i, y.testBit i = true → Reach E b e x i) : y = spreadN E N b e x := by
  apply bits_ext
  intro i
  rw [spread_bit hE hx]
  refine ⟨h3 i, fun h => ?_⟩
  induction h with
  | base h => exact h1 _ h
  | step hd hm _ ih => exact h2 _ hd hm ih

/-- rules of states, together -/
def metN (R : List Nat) (x N : Nat) : Nat := (bitsTo x N).foldl (fun r n => r ||| R.getD n 0) 0
theorem foldl_or_bit (R : List Nat) (j : Nat) : ∀ (l : List Nat) (r : Nat), (l.foldl (fun r n => r ||| R.getD n 0) r).testBit j = (r.testBit j || l.any fun n => (R.getD n 0).testBit j)
  | [], r => by simp
  | n :: l, r => by rw [List.foldl_cons, foldl_or_bit R j l, Nat.testBit_or, List.any_cons, Bool.or_assoc]
theorem met_bit (R : List Nat) (x N j : Nat) : (metN R x N).testBit j = true ↔ ∃ n, n < N ∧ x.testBit n = true ∧ (R.getD n 0).testBit j = true := by
  unfold metN
  rw [foldl_or_bit]
  simp only [Nat.zero_testBit, Bool.false_or, List.any_eq_true]
  constructor
  · rintro ⟨n, hn, h⟩
    rw [mem_bitsTo] at hn
    exact ⟨n, hn.1, hn.2, h⟩
  · rintro ⟨n, h1, h2, h3⟩
    exact ⟨n, (mem_bitsTo _ _ _).2 ⟨h1, h2⟩, h3⟩
theorem met_lt {R : List Nat} (hR : ∀ r ∈ R, r < 2 ^ 32) (x N : Nat) : metN R x N < 2 ^ 32 := by
  refine below_lt fun j hj => ?_
  obtain ⟨n, _, _, h⟩ := (met_bit R x N j).1 hj
  refine Classical.byContradiction fun hn => ?_
  by_cases hl : n < R.length
  · rw [List.getD_eq_getElem?_getD, List.getElem?_eq_getElem hl, Option.getD_some] at h
    have h2 := Nat.testBit_lt_two_pow (Nat.lt_of_lt_of_le (hR _ (List.getElem_mem hl)) (Nat.pow_le_pow_right (by decide) (show 32 ≤ j by omega)))
    rw [h] at h2
    cases h2
  · simp [List.getD, List.getElem?_eq_none (Nat.le_of_not_lt hl)] at h
/-- where a byte leads, ahead of the free moves -/
noncomputable def byteN (E : List Edg) (N x c : Nat) : Nat := ofPred (fun t => t = 0 ∨ ∃ d ∈ E, d.kd = 2 ∧ x.testBit d.fr.toNat = true ∧ d.st.getLsbD c = true ∧ d.tt.toNat = t) N
theorem byte_bit (E : List Edg) (N x c i : Nat) : (byteN E N x c).testBit i = true ↔ i < N ∧ (i = 0 ∨ ∃ d ∈ E, d.kd = 2 ∧ x.testBit d.fr.toNat = true ∧ d.st.getLsbD c = true ∧ d.tt.toNat = i) := ofPred_bit _ N i
theorem byte_below (E : List Edg) (N x c : Nat) : below (byteN E N x c) N := fun i hi => ((byte_bit E N x c i).1 hi).1
end Go.Proofs.Ytajainmldcnaeaa
