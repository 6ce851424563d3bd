/- Edges and machines of the program: their cells, equality, loads and stores, equal sets. No condition beyond those named in each lemma. -/
import Derived.Test.YtjplgcmfifoefaaDoorEq
import Derived.Test.YtjplgcmfifoefaaDoorSlice
import Derived.Laws.StructEq
namespace Go.Proofs.YtjplgcmfifoefaaDoor
open Go.RowKit
set_option linter.unusedVariables false
set_option linter.unusedSimpArgs false

structure Edg where
  kd : Int
  fr : Int
  tt : Int
  st : BSet
deriving DecidableEq
def edgC (e : Edg) : Array Value := #[.int .i64 e.kd, .int .i64 e.fr, .int .i64 e.tt, .int .u64 (word e.st 0), .int .u64 (word e.st 1), .int .u64 (word e.st 2), .int .u64 (word e.st 3)]
theorem edgC_size (e : Edg) : (edgC e).size = 7 := rfl
theorem edgC_sz2 (e f : Edg) : (edgC e).size = (edgC f).size := (edgC_size e).trans (edgC_size f).symm
theorem edgC_one (e : Edg) : (edgC e).all (·.oneCell') = true := by unfold edgC; simp [Value.oneCell']
theorem edgC_0 (e : Edg) : (edgC e)[0]? = some (.int .i64 e.kd) := rfl
theorem edgC_1 (e : Edg) : (edgC e)[1]? = some (.int .i64 e.fr) := rfl
theorem edgC_2 (e : Edg) : (edgC e)[2]? = some (.int .i64 e.tt) := rfl
theorem edgC_st (e : Edg) (k : Nat) (h : k < 4) : (edgC e)[3 + k]? = some (.int .u64 (word e.st k)) := by
  match k, h with
  | 0, _ => rfl
  | 1, _ => rfl
  | 2, _ => rfl
  | 3, _ => rfl
theorem RowAt.kd {w : World} {b off : Nat} {e : Edg} (h : RowAt w b off (edgC e)) : w.cell? ⟨b, off, none⟩ = some (.int .i64 e.kd) := h 0 _ rfl
theorem RowAt.fr {w : World} {b off : Nat} {e : Edg} (h : RowAt w b off (edgC e)) : w.cell? ⟨b, off + 1, none⟩ = some (.int .i64 e.fr) := h 1 _ rfl
theorem RowAt.tt {w : World} {b off : Nat} {e : Edg} (h : RowAt w b off (edgC e)) : w.cell? ⟨b, off + 2, none⟩ = some (.int .i64 e.tt) := h 2 _ rfl
theorem RowAt.st {w : World} {b off : Nat} {e : Edg} (h : RowAt w b off (edgC e)) : RowAt w b (off + 3) (setC e.st) := by
  intro j v hv
  have hj : j < 4 := by
    rcases Nat.lt_or_ge j 4 with h1 | h1
    · exact h1
    · rw [Array.getElem?_eq_none (by rw [setC_size]; exact h1)] at hv; cases hv
  rw [setC_at e.st j hj] at hv
  rw [Nat.add_assoc]
  exact h (3 + j) v ((edgC_st e j hj).trans hv)
theorem Blk.st {w : World} {g : Nat} {t : TypeId} {e : Edg} (h : Blk w g t (edgC e)) : RowAt w g 3 (setC e.st) := by
  have := (RowAt.of_blk h).st
  rwa [Nat.zero_add] at this
def edge0 : Edg := ⟨0, 0, 0, 0⟩
theorem edge0_eq : edgC edge0 = #[.int .i64 0, .int .i64 0, .int .i64 0, .int .u64 0, .int .u64 0, .int .u64 0, .int .u64 0] := by kernel_rfl
theorem part_kd (e : Edg) (w : World) : (part 3 (edgC e) 0).run Tryd.prog w = .ok (.int .i64 e.kd) w := by kernel_rfl
theorem part_fr (e : Edg) (w : World) : (part 3 (edgC e) 1).run Tryd.prog w = .ok (.int .i64 e.fr) w := by kernel_rfl
theorem part_tt (e : Edg) (w : World) : (part 3 (edgC e) 2).run Tryd.prog w = .ok (.int .i64 e.tt) w := by kernel_rfl
theorem edg_dec (a b : Edg) : decide (a = b) = (decide (a.kd = b.kd) && (decide (a.fr = b.fr) && (decide (a.tt = b.tt) && decide (a.st = b.st)))) := by
  rw [Bool.eq_iff_iff]
  simp only [decide_eq_true_eq, Bool.and_eq_true]
  constructor
  · rintro rfl; exact ⟨rfl, rfl, rfl, rfl⟩
  · obtain ⟨a1, a2, a3, a4⟩ := a
    obtain ⟨b1, b2, b3, b4⟩ := b
    rintro ⟨rfl, rfl, rfl, rfl⟩; rfl
theorem int_beq (a b : Int) : (a == b) = decide (a = b) := rfl
section
variable {ops : Array Oper} {rest : List Oper} {o : Oper} {a : Act} {w : World} {Q : Exit → Act → World → Prop}
end

/-! ### the sets of a machine's edges -/
def stepS (l : List BSet) (e : Edg) : List BSet := if e.kd = 2 ∧ e.st ∉ l then l ++ [e.st] else l
def setsL (es : List Edg) : List BSet := es.foldl stepS []
theorem setsL_snoc (es : List Edg) (e : Edg) : setsL (es ++ [e]) = stepS (setsL es) e := by simp [setsL]
theorem stepS_yes {l : List BSet} {e : Edg} (h1 : e.kd = 2) (h2 : e.st ∉ l) : stepS l e = l ++ [e.st] := if_pos ⟨h1, h2⟩
theorem stepS_kind {l : List BSet} {e : Edg} (h1 : ¬ e.kd = 2) : stepS l e = l := if_neg fun h => h1 h.1
theorem stepS_old {l : List BSet} {e : Edg} (h2 : e.st ∈ l) : stepS l e = l := if_neg fun h => h.2 h2
theorem stepS_le (l : List BSet) (e : Edg) : (stepS l e).length ≤ l.length + 1 := by
  unfold stepS
  split <;> simp
theorem setsL_le : ∀ (es : List Edg) (l : List BSet), (es.foldl stepS l).length ≤ l.length + es.length
  | [], l => by simp
  | e :: es, l => by
    have h1 := setsL_le es (stepS l e)
    have h2 := stepS_le l e
    simp only [List.foldl_cons, List.length_cons]
    omega
theorem setsL_length (es : List Edg) : (setsL es).length ≤ es.length := by
  have := setsL_le es []
  simpa [setsL] using this

/-- a machine's cells -/
def nfaC (s : Int) (A : Option Addr) (n c : Nat) (B : Option Addr) (m d : Nat) : Array Value := #[.int .i64 s, .slice A n c, .slice B m d]

end Go.Proofs.YtjplgcmfifoefaaDoor
