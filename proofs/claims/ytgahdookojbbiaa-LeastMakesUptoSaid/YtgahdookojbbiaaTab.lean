/- Tables (api.DFA) as values and in memory; steps for loading and storing them. No condition beyond those named in each lemma. -/
import Derived.Test.YtgahdookojbbiaaLst
import Derived.Test.YtgahdookojbbiaaStore
import Derived.Laws.BitsAllLaws
namespace Go.Proofs.Ytgahdookojbbiaa
open Go.RowKit Go.Maps Go.WideMaps
set_option linter.unusedVariables false
set_option linter.unusedSimpArgs false

def encZ (z : Int) : Array Value := #[.int .i64 z]
theorem encZ_size (z : Int) : (encZ z).size = 1 := rfl
def encR (v : Nat) : Array Value := #[.int .u32 (v : Int)]
theorem encR_size (v : Nat) : (encR v).size = 1 := rfl
/-- a row of numbers, and where it lies -/
structure RV where
  a : Option Addr
  c : Nat
  l : List Int
def RV.v (r : RV) : Value := .slice r.a r.l.length r.c
def rowC (r : RV) : Array Value := #[.slice r.a r.l.length r.c]
theorem rowC_size (r : RV) : (rowC r).size = 1 := rfl
/-- a table's cells: its classes and three lists -/
def dfaC (f : Nat → Int) (A : Option Addr) (n c : Nat) (B : Option Addr) (m d : Nat) (C : Option Addr) (k e : Nat) : Array Value := clsC f ++ #[.slice A n c, .slice B m d, .slice C k e]
section
variable (f : Nat → Int) (A : Option Addr) (n c : Nat) (B : Option Addr) (m d : Nat) (C : Option Addr) (k e : Nat)
theorem dfaC_size : (dfaC f A n c B m d C k e).size = 259 := by simp [dfaC, clsC_size]
theorem dfaC_lo (i : Nat) (h : i < 256) : (dfaC f A n c B m d C k e)[i]? = some (.int .i64 (f i)) := by
  unfold dfaC
  rw [Array.getElem?_append_left (by rw [clsC_size]; exact h), clsC_at f i h]
theorem dfaC_1 : (dfaC f A n c B m d C k e)[256]? = some (.slice A n c) := by
  unfold dfaC
  rw [Array.getElem?_append_right (by rw [clsC_size]; omega), clsC_size]
  rfl
theorem dfaC_2 : (dfaC f A n c B m d C k e)[257]? = some (.slice B m d) := by
  unfold dfaC
  rw [Array.getElem?_append_right (by rw [clsC_size]; omega), clsC_size]
  rfl
theorem dfaC_3 : (dfaC f A n c B m d C k e)[258]? = some (.slice C k e) := by
  unfold dfaC
  rw [Array.getElem?_append_right (by rw [clsC_size]; omega), clsC_size]
  rfl
theorem dfaC_one : (dfaC f A n c B m d C k e).all (·.oneCell') = true := by
  unfold dfaC
  rw [Array.all_append, clsC_oneCell]
  simp [Value.oneCell']
theorem dfaC_ext {f g : Nat → Int} (h : ∀ b, b < 256 → f b = g b) : dfaC f A n c B m d C k e = dfaC g A n c B m d C k e := by
  unfold dfaC
  rw [clsC_ext h]
theorem set_app3 {α : Type} (l : Array α) (x y z u : α) (h : l.size = 256) : (l ++ #[x, y, z]).setIfInBounds 256 u = l ++ #[u, y, z] ∧ (l ++ #[x, y, z]).setIfInBounds 257 u = l ++ #[x, u, z] ∧ (l ++ #[x, y, z]).setIfInBounds 258 u = l ++ #[x, y, u] := by
  have key : ∀ j v, j < 3 → (l ++ #[x, y, z]).setIfInBounds (256 + j) v = l ++ (#[x, y, z].setIfInBounds j v) := by
    intro j v hj
    rw [← h]
    apply Array.ext
    · simp
    · intro i h1 h2
      simp only [Array.size_setIfInBounds, Array.size_append] at h1
      rw [Array.getElem_setIfInBounds (by simpa using h1)]
      by_cases e : i < l.size
      · rw [if_neg (by omega), Array.getElem_append_left e, Array.getElem_append_left e]
      · rw [Array.getElem_append_right (by omega), Array.getElem_append_right (by omega), Array.getElem_setIfInBounds]
        by_cases e2 : l.size + j = i
        · rw [if_pos e2, if_pos (by omega)]
        · rw [if_neg e2, if_neg (by omega)]
  exact ⟨key 0 u (by omega), key 1 u (by omega), key 2 u (by omega)⟩
theorem dfaC_set1 (A' : Option Addr) (n' c' : Nat) : (dfaC f A n c B m d C k e).setIfInBounds 256 (.slice A' n' c') = dfaC f A' n' c' B m d C k e := (set_app3 _ _ _ _ _ (clsC_size f)).1
theorem dfaC_set2 (A' : Option Addr) (n' c' : Nat) : (dfaC f A n c B m d C k e).setIfInBounds 257 (.slice A' n' c') = dfaC f A n c A' n' c' C k e := (set_app3 _ _ _ _ _ (clsC_size f)).2.1
theorem dfaC_set3 (A' : Option Addr) (n' c' : Nat) : (dfaC f A n c B m d C k e).setIfInBounds 258 (.slice A' n' c') = dfaC f A n c B m d A' n' c' := (set_app3 _ _ _ _ _ (clsC_size f)).2.2
theorem dfaC_setc (i : Nat) (v : Int) (hi : i < 256) : (dfaC f A n c B m d C k e).setIfInBounds i (.int .i64 v) = dfaC (putN f i v) A n c B m d C k e := by
  unfold dfaC
  rw [← clsC_set]
  apply Array.ext
  · simp
  · intro j h1 h2
    simp only [Array.size_setIfInBounds, Array.size_append] at h1
    rw [Array.getElem_setIfInBounds (by simpa using h1)]
    have hs := clsC_size f
    by_cases e : j < (clsC f).size
    · rw [Array.getElem_append_left e, Array.getElem_append_left (by simpa using e), Array.getElem_setIfInBounds]
    · rw [if_neg (by omega), Array.getElem_append_right (by omega), Array.getElem_append_right (by simp; omega)]
      simp
theorem dfaC_cls {w : World} {b off : Nat} (h : RowAt w b off (dfaC f A n c B m d C k e)) : RowAt w b off (clsC f) := fun j v hv => h j v (by
  unfold dfaC
  rw [Array.getElem?_append_left]
  · exact hv
  · rcases Nat.lt_or_ge j (clsC f).size with h1 | h1
    · exact h1
    · rw [Array.getElem?_eq_none h1] at hv; cases hv)
end
theorem info_dfa : (Try.prog.info? 47).map (·.size) = some 259 := by kernel_rfl
theorem info_cls : (Try.prog.info? 44).map (·.size) = some 256 := by kernel_rfl
theorem zero_cls (w : World) : (zeroValue 44).run Try.prog w = .ok (.agg (clsC fun _ => 0)) w := by kernel_rfl
theorem zero_dfa (w : World) : (zeroValue 47).run Try.prog w = .ok (.agg (dfaC (fun _ => 0) none 0 0 none 0 0 none 0 0)) w := by kernel_rfl
theorem build_dfa0 (w : World) : (Instr.build 47 #[]).run Try.prog w = .ok (.agg (dfaC (fun _ => 0) none 0 0 none 0 0 none 0 0)) w := by kernel_rfl
theorem field_dfa_0 (b off : Nat) (w : World) : (Instr.fieldAt 47 (.pointer (some ⟨b, off, none⟩)) 0).run Try.prog w = .ok (.pointer (some ⟨b, off, none⟩)) w := by kernel_rfl
theorem field_dfa_1 (b off : Nat) (w : World) : (Instr.fieldAt 47 (.pointer (some ⟨b, off, none⟩)) 1).run Try.prog w = .ok (.pointer (some ⟨b, off + 256, none⟩)) w := by kernel_rfl
theorem field_dfa_2 (b off : Nat) (w : World) : (Instr.fieldAt 47 (.pointer (some ⟨b, off, none⟩)) 2).run Try.prog w = .ok (.pointer (some ⟨b, off + 257, none⟩)) w := by kernel_rfl
theorem field_dfa_3 (b off : Nat) (w : World) : (Instr.fieldAt 47 (.pointer (some ⟨b, off, none⟩)) 3).run Try.prog w = .ok (.pointer (some ⟨b, off + 258, none⟩)) w := by kernel_rfl
theorem under_cls : Try.prog.underlying 44 = some (.array (Try.prog.arrayLen 44) (Try.prog.elem 44)) := by kernel_rfl
theorem len_cls : Try.prog.arrayLen 44 = 256 := by kernel_rfl
theorem size_clsE (w : World) : (sizeOf (Try.prog.elem 44)).run Try.prog w = .ok 1 w := by kernel_rfl
theorem index_cls (b off m : Nat) (hm : m < 256) (w : World) : (Instr.indexAt 44 (.pointer (some ⟨b, off, none⟩)) (.int .i64 m)).run Try.prog w = .ok (.pointer (some ⟨b, off + m * 1, none⟩)) w := by
  have e := run_indexAt_array (P := Try.prog) w 44 ⟨b, off, none⟩ .i64 (m : Int) under_cls
  rw [if_pos ⟨by omega, by rw [len_cls]; omega⟩, size_clsE] at e
  simp only [Int.toNat_natCast, Result.andThen_ok, addr_add] at e
  exact e
theorem run_size_int (w : World) : (sizeOf 3).run Try.prog w = .ok 1 w := by kernel_rfl
theorem run_index_cls (w : World) (g : Nat → Int) (b : Nat) (h : b < 256) : (Instr.index 44 (.agg (clsC g)) (.int .i64 (b : Int))).run Try.prog w = .ok (.int .i64 (g b)) w := by
  have hn : (0 : Int) ≤ b ∧ (b : Int) < 256 := by omega
  have hp := run_part_plain (P := Try.prog) w (e := 3) (by kernel_rfl) (xs := clsC g) (off := b * 1) (by rw [Nat.mul_one]; exact clsC_at g b h)
  simp [Instr.index, run_underlying Try.underlying44, asIntOf, hn, run_size_int]
  rw [if_pos h]
  simpa using hp
theorem blk_cls {w : World} {g b : Nat} {f : Nat → Int} {A : Option Addr} {n c : Nat} {B : Option Addr} {m d : Nat} {C : Option Addr} {k e : Nat} (h : Blk w g 47 (dfaC f A n c B m d C k e)) (hb : b < 256) : w.cell? ⟨g, 0 + b * 1, none⟩ = some (.int .i64 (f b)) := by
  rw [show 0 + b * 1 = b by omega]
  exact h.cellv (dfaC_lo _ _ _ _ _ _ _ _ _ _ b hb)
section
variable {w : World} {g : Nat} {f : Nat → Int} {A : Option Addr} {n c : Nat} {B : Option Addr} {m d : Nat} {C : Option Addr} {k e : Nat}
theorem blk_d1 (h : Blk w g 47 (dfaC f A n c B m d C k e)) : w.cell? ⟨g, 256, none⟩ = some (.slice A n c) := h.cellv (dfaC_1 _ _ _ _ _ _ _ _ _ _)
theorem blk_d2 (h : Blk w g 47 (dfaC f A n c B m d C k e)) : w.cell? ⟨g, 257, none⟩ = some (.slice B m d) := h.cellv (dfaC_2 _ _ _ _ _ _ _ _ _ _)
theorem blk_d3 (h : Blk w g 47 (dfaC f A n c B m d C k e)) : w.cell? ⟨g, 258, none⟩ = some (.slice C k e) := h.cellv (dfaC_3 _ _ _ _ _ _ _ _ _ _)
end
theorem under_rows : Try.prog.underlying 45 = some (.slice (Try.prog.elem 45)) := by kernel_rfl
theorem size_rowE (w : World) : (sizeOf (Try.prog.elem 45)).run Try.prog w = .ok 1 w := by kernel_rfl
theorem under_bools : Try.prog.underlying 81 = some (.slice (Try.prog.elem 81)) := by kernel_rfl
theorem size_boolE (w : World) : (sizeOf (Try.prog.elem 81)).run Try.prog w = .ok 1 w := by kernel_rfl

/-- a table, and where its parts lie -/
structure TV where
  f : Nat → Int
  rs : List RV
  A : Option Addr
  c : Nat
  fo : List Nat
  B : Option Addr
  d : Nat
  en : List Nat
  C : Option Addr
  e : Nat
def TV.T (x : TV) : Tb := ⟨x.f, x.rs.map (·.l), x.fo, x.en⟩
def TV.C' (x : TV) : Array Value := dfaC x.f x.A x.rs.length x.c x.B x.fo.length x.d x.C x.en.length x.e
/-- it lies in memory, below block N -/
structure TabIn (w : World) (N : Nat) (x : TV) : Prop where
  rows : SliceOf w N 1 rowC x.A x.rs
  row : ∀ r ∈ x.rs, SliceOf w N 1 encZ r.a r.l
  fo : SliceOf w N 1 encR x.B x.fo
  en : SliceOf w N 1 encR x.C x.en
  nb : x.rs.length ≤ 2199023255552
  rb : ∀ r ∈ x.rs, r.l.length ≤ 2199023255552
  fb : x.fo.length ≤ 2199023255552
  eb : x.en.length ≤ 2199023255552
  f32 : ∀ y ∈ x.fo, y < 4294967296
  e32 : ∀ y ∈ x.en, y < 4294967296
section
variable {w w' : World} {N : Nat} {x : TV}
theorem TabIn.below (h : TabIn w N x) (hb : Below N w w') : TabIn w' N x := ⟨h.rows.below hb, fun r hr => (h.row r hr).below hb, h.fo.below hb, h.en.below hb, h.nb, h.rb, h.fb, h.eb, h.f32, h.e32⟩
theorem TabIn.more {N' : Nat} (h : TabIn w N x) (hN : N ≤ N') : TabIn w N' x := ⟨h.rows.more hN, fun r hr => (h.row r hr).more hN, h.fo.more hN, h.en.more hN, h.nb, h.rb, h.fb, h.eb, h.f32, h.e32⟩
theorem TabIn.then_ (h : TabIn w w.heap.size x) (hb : Below w.heap.size w w') : TabIn w' w'.heap.size x := (h.below hb).more hb.size
/-- a row is there -/
theorem TabIn.rowAt (h : TabIn w N x) {s : Nat} (hs : s < x.rs.length) : ∃ b off, x.A = some ⟨b, off, none⟩ ∧ b < N ∧ w.cell? ⟨b, off + s * 1, none⟩ = some (.slice x.rs[s].a x.rs[s].l.length x.rs[s].c) := by
  obtain ⟨b, off, e, hb, hr⟩ := h.rows.at_ (by omega)
  exact ⟨b, off, e, hb, hr s hs 0 _ rfl⟩
theorem slice_cell {α : Type} {enc : α → Array Value} {A : Option Addr} {l : List α} (h : SliceOf w N 1 enc A l) {s : Nat} (hs : s < l.length) {v : Value} (hv : (enc l[s])[0]? = some v) : ∃ b off, A = some ⟨b, off, none⟩ ∧ b < N ∧ w.cell? ⟨b, off + s * 1, none⟩ = some v := by
  obtain ⟨b, off, e, hb, hr⟩ := h.at_ (by omega)
  exact ⟨b, off, e, hb, hr s hs 0 _ hv⟩
theorem cell_keep {b off : Nat} {v : Value} (h : w.cell? ⟨b, off, none⟩ = some v) (hb : b < N) (hB : Below N w w') : w'.cell? ⟨b, off, none⟩ = some v := (World.cell?_of_block (w := w) (hB.block b hb)).trans h
end
section
variable {ops : Array Oper} {rest : List Oper} {o : Oper} {a : Act} {w : World} {Q : Exit → Act → World → Prop}
theorem wl_load_dfa (hgd : o.guard = none) (x : Operand) (ho : o.op = .load 47 x)
    (g : Nat) (hx : a.eval x = .pointer (some ⟨g, 0, none⟩)) {f : Nat → Int} {A : Option Addr} {n c : Nat} {B : Option Addr} {m d : Nat} {C : Option Addr} {k e : Nat} (hb : Blk w g 47 (dfaC f A n c B m d C k e))
    (h : wpList Try.prog ops Q rest (a.put o.dst (.agg (dfaC f A n c B m d C k e))) w) : wpList Try.prog ops Q (o :: rest) a w :=
  wpList_load_row hgd _ x ho g hx _ _ _ _ hb Try.underlying47 rfl (info_dfa.trans (by rw [dfaC_size])) h
theorem wl_store_dfa (hgd : o.guard = none) (x y : Operand) (ho : o.op = .store 47 x y)
    (g : Nat) {f : Nat → Int} {A : Option Addr} {n c : Nat} {B : Option Addr} {m d : Nat} {C : Option Addr} {k e : Nat} (hx : a.eval x = .pointer (some ⟨g, 0, none⟩)) (hy : a.eval y = .agg (dfaC f A n c B m d C k e))
    {f0 : Nat → Int} {A0 : Option Addr} {n0 c0 : Nat} {B0 : Option Addr} {m0 d0 : Nat} {C0 : Option Addr} {k0 e0 : Nat} (hb : Blk w g 47 (dfaC f0 A0 n0 c0 B0 m0 d0 C0 k0 e0))
    (h : ∀ w', Blk w' g 47 (dfaC f A n c B m d C k e) → w.grownBy w' (some g) → wpList Try.prog ops Q rest (a.put o.dst undef) w') : wpList Try.prog ops Q (o :: rest) a w :=
  wpList_store_row hgd _ x y ho g _ hx hy _ _ hb (info_dfa.trans (by rw [dfaC_size])) (by rw [dfaC_size, dfaC_size]) (dfaC_one _ _ _ _ _ _ _ _ _ _) (h _ (hb.setRow_same _) (only_setRow (only_refl _ _) _))
theorem wl_load_cls (hgd : o.guard = none) (x : Operand) (ho : o.op = .load 44 x)
    (g : Nat) (hx : a.eval x = .pointer (some ⟨g, 0, none⟩)) (y : Nat → Int) (hr : RowAt w g 0 (clsC y))
    (h : wpList Try.prog ops Q rest (a.put o.dst (.agg (clsC y))) w) : wpList Try.prog ops Q (o :: rest) a w :=
  wpList_load_at hgd _ x ho g 0 hx _ _ hr Try.underlying44 rfl (info_cls.trans (by rw [clsC_size])) h
theorem wl_store_cls (hgd : o.guard = none) (x y : Operand) (ho : o.op = .store 44 x y)
    (g : Nat) (new : Nat → Int) (hx : a.eval x = .pointer (some ⟨g, 0, none⟩)) (hy : a.eval y = .agg (clsC new)) (old : Nat → Int) (hb : Blk w g 44 (clsC old))
    (h : ∀ w', Blk w' g 44 (clsC new) → w.grownBy w' (some g) → wpList Try.prog ops Q rest (a.put o.dst undef) w') : wpList Try.prog ops Q (o :: rest) a w :=
  wpList_store_row hgd _ x y ho g _ hx hy _ _ hb (info_cls.trans (by rw [clsC_size])) (by rw [clsC_size, clsC_size]) (clsC_oneCell new) (h _ (hb.setRow_same _) (only_setRow (only_refl _ _) _))
end
section
variable {ops : Array Oper} {S : Nat → GSpec} {Q : Exit → Act → World → Prop} {i : Nat} {o : Oper} {a : Act} {w : World}
theorem gs_load_dfa (hw : Region.wanted o (yielded ops a.tmps) = true) (x : Operand) (ho : o.op = .load 47 x) (g : Nat) (hx : a.eval x = .pointer (some ⟨g, 0, none⟩))
    {f : Nat → Int} {A : Option Addr} {n c : Nat} {B : Option Addr} {m d : Nat} {C : Option Addr} {k e : Nat} (hg : Blk w g 47 (dfaC f A n c B m d C k e))
    (hp : (S i).p (.agg (dfaC f A n c B m d C k e)) w) : GStep Try.prog ops S Q i o a w :=
  gs_load hw _ x ho g hx _ _ hg _ Try.underlying47 rfl (info_dfa.trans (by rw [dfaC_size])) hp
theorem gs_index_arr (hw : Region.wanted o (yielded ops a.tmps) = true) (t : TypeId) (x ix : Operand) (ho : o.op = .indexAddr t x ix) (b off m : Nat) (hx : a.eval x = .pointer (some ⟨b, off, none⟩)) (hi : a.eval ix = .int .i64 m)
    (hr : ∀ w, (Instr.indexAt t (.pointer (some ⟨b, off, none⟩)) (.int .i64 m)).run Try.prog w = .ok (.pointer (some ⟨b, off + m * 1, none⟩)) w) (hp : (S i).p (.pointer (some ⟨b, off + m * 1, none⟩)) w) : GStep Try.prog ops S Q i o a w :=
  gs_run hw (v := .pointer (some ⟨b, off + m * 1, none⟩)) (by unfold execOp; simp only [ho, hx, hi, Sem.run_bind, hr, Result.andThen_ok, Sem.run_pure]) (Below.refl _ _) hp
theorem gs_and_u32 (hw : Region.wanted o (yielded ops a.tmps) = true) (t t2 : TypeId) (x y : Operand) (ho : o.op = .binOp .and t x y t2) (p q : Nat) (hx : a.eval x = .int .u32 p) (hy : a.eval y = .int .u32 q) (hp1 : p < 4294967296) (hq1 : q < 4294967296)
    (hp : (S i).p (.int .u32 ((p &&& q : Nat) : Int)) w) : GStep Try.prog ops S Q i o a w :=
  gs_bin hw _ _ _ x y ho _ _ _ hx hy (by rw [eqGuard_at_int]; rfl) (by rw [← u32_and_nat p q hp1 hq1]; rfl) hp
theorem gs_andnot_u32 (hw : Region.wanted o (yielded ops a.tmps) = true) (t t2 : TypeId) (x y : Operand) (ho : o.op = .binOp .andNot t x y t2) (p q : Nat) (hx : a.eval x = .int .u32 p) (hy : a.eval y = .int .u32 q) (hp1 : p < 4294967296) (hq1 : q < 4294967296)
    (hp : (S i).p (.int .u32 ((p &&& (4294967295 - q) : Nat) : Int)) w) : GStep Try.prog ops S Q i o a w :=
  gs_bin hw _ _ _ x y ho _ _ _ hx hy (by rw [eqGuard_at_int]; rfl) (by rw [← u32_andNot_nat p q hp1 hq1]; rfl) hp
end
theorem andnot_zero (a b : Nat) (ha : a < 4294967296) (hb : b < 4294967296) : a &&& (4294967295 - b) = 0 ↔ a &&& b = a := by
  have ht : ∀ i, (4294967295 - b).testBit i = (decide (i < 32) && !b.testBit i) := by
    intro i
    have := Nat.testBit_two_pow_sub_succ (x := b) (n := 32) (by omega) i
    rw [← this]
    congr 1
    omega
  constructor
  · intro h
    apply Nat.eq_of_testBit_eq
    intro i
    have h1 := congrArg (fun n => n.testBit i) h
    simp only [Nat.testBit_and, ht, Nat.zero_testBit] at h1 ⊢
    by_cases hi : i < 32
    · simp [hi] at h1
      cases hA : a.testBit i
      · simp
      · simp [h1 hA]
    · have : a.testBit i = false := Nat.testBit_lt_two_pow (Nat.lt_of_lt_of_le ha (by have := Nat.pow_le_pow_right (show 0 < 2 by omega) (show 32 ≤ i by omega); omega))
      simp [this]
  · intro h
    apply Nat.eq_of_testBit_eq
    intro i
    have h1 := congrArg (fun n => n.testBit i) h
    simp only [Nat.testBit_and, ht, Nat.zero_testBit] at h1 ⊢
    cases hA : a.testBit i
    · simp
    · rw [hA] at h1
      simp at h1
      simp [h1]
attribute [irreducible] dfaC
end Go.Proofs.Ytgahdookojbbiaa
