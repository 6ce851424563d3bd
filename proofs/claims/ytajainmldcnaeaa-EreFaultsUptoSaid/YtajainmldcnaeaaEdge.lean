/- Edges and machines of the program: their cells, equality, loads and stores, equal sets. No condition beyond those named in each lemma. -/
import Derived.Test.YtajainmldcnaeaaEq
import Derived.Test.YtajainmldcnaeaaSlice
import Derived.Laws.StructEq
namespace Go.Proofs.Ytajainmldcnaeaa
open Go.RowKit
set_option linter.unusedVariables false
set_option linter.unusedSimpArgs false

structure Edg where
  kd : Int
  fr : Int
  tt : Int
  st : BSet
deriving DecidableEq
def edgC (e : Edg) : Array Value := #[.int .i64 e.kd, .int .i64 e.fr, .int .i64 e.tt, .int .u64 (word e.st 0), .int .u64 (word e.st 1), .int .u64 (word e.st 2), .int .u64 (word e.st 3)]
theorem edgC_size (e : Edg) : (edgC e).size = 7 := rfl
theorem edgC_sz2 (e f : Edg) : (edgC e).size = (edgC f).size := (edgC_size e).trans (edgC_size f).symm
theorem edgC_one (e : Edg) : (edgC e).all (·.oneCell') = true := by unfold edgC; simp [Value.oneCell']
theorem edgC_0 (e : Edg) : (edgC e)[0]? = some (.int .i64 e.kd) := rfl
theorem edgC_1 (e : Edg) : (edgC e)[1]? = some (.int .i64 e.fr) := rfl
theorem edgC_2 (e : Edg) : (edgC e)[2]? = some (.int .i64 e.tt) := rfl
theorem edgC_st (e : Edg) (k : Nat) (h : k < 4) : (edgC e)[3 + k]? = some (.int .u64 (word e.st k)) := by
  match k, h with
  | 0, _ => rfl
  | 1, _ => rfl
  | 2, _ => rfl
  | 3, _ => rfl
theorem RowAt.kd {w : World} {b off : Nat} {e : Edg} (h : RowAt w b off (edgC e)) : w.cell? ⟨b, off, none⟩ = some (.int .i64 e.kd) := h 0 _ rfl
theorem RowAt.fr {w : World} {b off : Nat} {e : Edg} (h : RowAt w b off (edgC e)) : w.cell? ⟨b, off + 1, none⟩ = some (.int .i64 e.fr) := h 1 _ rfl
theorem RowAt.tt {w : World} {b off : Nat} {e : Edg} (h : RowAt w b off (edgC e)) : w.cell? ⟨b, off + 2, none⟩ = some (.int .i64 e.tt) := h 2 _ rfl
theorem RowAt.st {w : World} {b off : Nat} {e : Edg} (h : RowAt w b off (edgC e)) : RowAt w b (off + 3) (setC e.st) := by
  intro j v hv
  have hj : j < 4 := by
    rcases Nat.lt_or_ge j 4 with h1 | h1
    · exact h1
    · rw [Array.getElem?_eq_none (by rw [setC_size]; exact h1)] at hv; cases hv
  rw [setC_at e.st j hj] at hv
  rw [Nat.add_assoc]
  exact h (3 + j) v ((edgC_st e j hj).trans hv)
theorem Blk.st {w : World} {g : Nat} {t : TypeId} {e : Edg} (h : Blk w g t (edgC e)) : RowAt w g 3 (setC e.st) := by
  have := (RowAt.of_blk h).st
  rwa [Nat.zero_add] at this
theorem info_edge : (Try.prog.info? 67).map (·.size) = some 7 := by kernel_rfl
theorem info_edge3 : (Try.prog.info? 67).map (fun i => (i.zero, i.size, i.bytes)) = some (some (.agg #[.int .i64 0, .int .i64 0, .int .i64 0, .int .u64 0, .int .u64 0, .int .u64 0, .int .u64 0]), 7, 56) := by kernel_rfl
def edge0 : Edg := ⟨0, 0, 0, 0⟩
theorem edge0_eq : edgC edge0 = #[.int .i64 0, .int .i64 0, .int .i64 0, .int .u64 0, .int .u64 0, .int .u64 0, .int .u64 0] := by kernel_rfl
theorem zero_edge (w : World) : (zeroValue 67).run Try.prog w = .ok (.agg (edgC edge0)) w := by kernel_rfl
theorem under_edges : Try.prog.underlying 49 = some (.slice (Try.prog.elem 49)) := by kernel_rfl
theorem size_edgeE (w : World) : (sizeOf (Try.prog.elem 49)).run Try.prog w = .ok 7 w := by kernel_rfl

/-! ### equality -/
theorem eq_set_at (d : Nat) (x y : BSet) (w : World) : (Op.equalIn (d + 2) 24 (.agg (setC x)) (.agg (setC y))).run Try.prog w = .ok (decide (x = y)) w := by
  obtain ⟨i, hi⟩ := info_u64'
  have h1 := run_equalIn_array (P := Try.prog) (w := w) (d + 1) (setC x) (setC y) Try.underlying24 hi
  have h2 := run_eqItems_ints (P := Try.prog) (k := .u64) d Try.underlying22 plain_u64 (words x) (words y) (List.range 4) w (fun j hj => by rw [List.mem_range] at hj; exact ⟨hj, hj⟩)
  rw [show d + 2 = (d + 1) + 1 from rfl, h1, cells_u64, setC_words, setC_words, h2]
  have h3 := all_eq (xs := words x) (ys := words y) (by simp [words])
  rw [show (words x).length = 4 from rfl] at h3
  rw [h3, words_beq]
theorem part_kd (e : Edg) (w : World) : (part 3 (edgC e) 0).run Try.prog w = .ok (.int .i64 e.kd) w := by kernel_rfl
theorem part_fr (e : Edg) (w : World) : (part 3 (edgC e) 1).run Try.prog w = .ok (.int .i64 e.fr) w := by kernel_rfl
theorem part_tt (e : Edg) (w : World) : (part 3 (edgC e) 2).run Try.prog w = .ok (.int .i64 e.tt) w := by kernel_rfl
theorem part_st (e : Edg) (w : World) : (part 24 (edgC e) 3).run Try.prog w = .ok (.agg (setC e.st)) w := by kernel_rfl
theorem edg_dec (a b : Edg) : decide (a = b) = (decide (a.kd = b.kd) && (decide (a.fr = b.fr) && (decide (a.tt = b.tt) && decide (a.st = b.st)))) := by
  rw [Bool.eq_iff_iff]
  simp only [decide_eq_true_eq, Bool.and_eq_true]
  constructor
  · rintro rfl; exact ⟨rfl, rfl, rfl, rfl⟩
  · obtain ⟨a1, a2, a3, a4⟩ := a
    obtain ⟨b1, b2, b3, b4⟩ := b
    rintro ⟨rfl, rfl, rfl, rfl⟩; rfl
theorem int_beq (a b : Int) : (a == b) = decide (a = b) := rfl
theorem run_eq_edge (a b : Edg) (w : World) : (Op.equalIn 10000 67 (.agg (edgC a)) (.agg (edgC b))).run Try.prog w = .ok (decide (a = b)) w := by
  have hf : Try.prog.fieldsOf 67 = Try.prog.fieldsOf 67 := rfl
  conv at hf => rhs; simp only [Program.fieldsOf, Try.underlying67]
  have hu : Try.prog.underlying 67 = some (.struct (Try.prog.fieldsOf 67)) := by rw [hf]; exact Try.underlying67
  have e1 := fun w x y => run_equalIn_int (P := Try.prog) w 9998 3 .i64 .i64 x y Try.underlying3
  have e2 := eq_set_at 9997 a.st b.st w
  rw [show (10000 : Nat) = 9999 + 1 from rfl, run_equalIn_struct w 9999 _ _ _ hu (by kernel_rfl), hf]
  simp only [Op.eqFields, ne_eq, String.reduceEq, not_false_eq_true, if_true, Sem.run_bind, part_kd, part_fr, part_tt, part_st, Result.andThen_ok, e1, e2, Sem.run_ite, Sem.run_pure]
  rw [edg_dec]
  by_cases h1 : a.kd = b.kd <;> by_cases h2 : a.fr = b.fr <;> by_cases h3 : a.tt = b.tt <;> by_cases h4 : a.st = b.st <;> simp [h1, h2, h3, h4]
theorem guard_edge : Try.prog.eqGuardType Try.prog.depth 67 = false := by kernel_rfl
theorem run_neq_edge (x y : Edg) (w : World) : (binOp .neq 67 (.agg (edgC x)) (.agg (edgC y))).run Try.prog w = .ok (.bool (!decide (x = y))) w := by
  rw [run_neq_struct, run_eq_edge]; rfl
theorem run_eql_edge (x y : Edg) (w : World) : (binOp .eql 67 (.agg (edgC x)) (.agg (edgC y))).run Try.prog w = .ok (.bool (decide (x = y))) w := by
  rw [run_eql_struct, run_eq_edge]; rfl

/-! ### the walk's laws -/
section
variable {ops : Array Oper} {rest : List Oper} {o : Oper} {a : Act} {w : World} {Q : Exit → Act → World → Prop}
theorem wl_load_edge (hgd : o.guard = none) (x : Operand) (ho : o.op = .load 67 x)
    (g : Nat) (hx : a.eval x = .pointer (some ⟨g, 0, none⟩)) (y : Edg) (hb : Blk w g 67 (edgC y))
    (h : wpList Try.prog ops Q rest (a.put o.dst (.agg (edgC y))) w) : wpList Try.prog ops Q (o :: rest) a w :=
  wpList_load_row hgd _ x ho g hx _ _ _ _ hb Try.underlying67 rfl (info_edge.trans (by rw [edgC_size])) h
theorem wl_load_edge_at (hgd : o.guard = none) (x : Operand) (ho : o.op = .load 67 x)
    (b off : Nat) (hx : a.eval x = .pointer (some ⟨b, off, none⟩)) (y : Edg) (hr : RowAt w b off (edgC y))
    (h : wpList Try.prog ops Q rest (a.put o.dst (.agg (edgC y))) w) : wpList Try.prog ops Q (o :: rest) a w :=
  wpList_load_at hgd _ x ho b off hx _ _ hr Try.underlying67 rfl (info_edge.trans (by rw [edgC_size])) h
theorem wl_store_edge (hgd : o.guard = none) (x y : Operand) (ho : o.op = .store 67 x y)
    (g : Nat) (new : Edg) (hx : a.eval x = .pointer (some ⟨g, 0, none⟩)) (hy : a.eval y = .agg (edgC new)) (old : Edg) (hb : Blk w g 67 (edgC old))
    (h : ∀ w', Blk w' g 67 (edgC new) → w.grownBy w' (some g) → wpList Try.prog ops Q rest (a.put o.dst undef) w') : wpList Try.prog ops Q (o :: rest) a w :=
  wpList_store_row hgd _ x y ho g _ hx hy _ _ hb (info_edge.trans (by rw [edgC_size])) (edgC_sz2 _ _) (edgC_one _) (h _ (hb.setRow_same _) (only_setRow (only_refl _ _) _))
end

/-! ### the sets of a machine's edges -/
def stepS (l : List BSet) (e : Edg) : List BSet := if e.kd = 2 ∧ e.st ∉ l then l ++ [e.st] else l
def setsL (es : List Edg) : List BSet := es.foldl stepS []
theorem setsL_snoc (es : List Edg) (e : Edg) : setsL (es ++ [e]) = stepS (setsL es) e := by simp [setsL]
theorem stepS_yes {l : List BSet} {e : Edg} (h1 : e.kd = 2) (h2 : e.st ∉ l) : stepS l e = l ++ [e.st] := if_pos ⟨h1, h2⟩
theorem stepS_kind {l : List BSet} {e : Edg} (h1 : ¬ e.kd = 2) : stepS l e = l := if_neg fun h => h1 h.1
theorem stepS_old {l : List BSet} {e : Edg} (h2 : e.st ∈ l) : stepS l e = l := if_neg fun h => h.2 h2
theorem stepS_le (l : List BSet) (e : Edg) : (stepS l e).length ≤ l.length + 1 := by
  unfold stepS
  split <;> simp
theorem setsL_le : ∀ (es : List Edg) (l : List BSet), (es.foldl stepS l).length ≤ l.length + es.length
  | [], l => by simp
  | e :: es, l => by
    have h1 := setsL_le es (stepS l e)
    have h2 := stepS_le l e
    simp only [List.foldl_cons, List.length_cons]
    omega
theorem setsL_length (es : List Edg) : (setsL es).length ≤ es.length := by
  have := setsL_le es []
  simpa [setsL] using this

/-- a machine's cells -/
def nfaC (s : Int) (A : Option Addr) (n c : Nat) (B : Option Addr) (m d : Nat) : Array Value := #[.int .i64 s, .slice A n c, .slice B m d]

end Go.Proofs.Ytajainmldcnaeaa
