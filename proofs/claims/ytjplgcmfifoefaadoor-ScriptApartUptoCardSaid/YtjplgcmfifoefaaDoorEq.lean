/- '==' and '!=' on arrays of integers, and on sets: equality of what they hold. -/
import Derived.Test.YtjplgcmfifoefaaDoorOctA
import Derived.ChangeKeysEq
namespace Go.Proofs.YtjplgcmfifoefaaDoor
open Go.RowKit
set_option linter.unusedVariables false
set_option linter.unusedSimpArgs false

/-- an array of integers of one kind -/
def intsC (k : IntKind) (l : List Int) : Array Value := (l.map (Value.int k)).toArray
theorem intsC_at (k : IntKind) (l : List Int) (i : Nat) (h : i < l.length) : (intsC k l)[i]? = some (.int k l[i]) := by simp [intsC, h]
theorem intsC_size (k : IntKind) (l : List Int) : (intsC k l).size = l.length := by simp [intsC]
theorem intsC_set (k : IntKind) (l : List Int) (i : Nat) (v : Int) : (intsC k l).setIfInBounds i (.int k v) = intsC k (l.set i v) := by
  apply Array.ext'
  simp [intsC, List.map_set]

theorem run_eqItems_ints {P : Program} (d : Nat) {e : TypeId} {k : IntKind} (he : P.underlying e = some (.int k)) (hp : P.plainKey e = true) (xs ys : List Int) :
    ∀ (is : List Nat) (w : World), (∀ i ∈ is, i < xs.length ∧ i < ys.length) → (Op.eqItems (d + 1) e 1 (intsC k xs) (intsC k ys) is).run P w = .ok (is.all fun i => xs.getD i 0 == ys.getD i 0) w
  | [], w, _ => by simp [Op.eqItems]
  | i :: is, w, h => by
    have hi := h i (by simp)
    have p1 := run_part_plain (P := P) w hp (xs := intsC k xs) (off := i * 1) (by rw [Nat.mul_one]; exact intsC_at k xs i hi.1)
    have p2 := run_part_plain (P := P) w hp (xs := intsC k ys) (off := i * 1) (by rw [Nat.mul_one]; exact intsC_at k ys i hi.2)
    have p3 := run_equalIn_int (P := P) w d e k k xs[i] ys[i] he
    have ih := run_eqItems_ints d he hp xs ys is w (fun j hj => h j (by simp [hj]))
    have e1 : xs.getD i 0 = xs[i] := by simp [hi.1]
    have e2 : ys.getD i 0 = ys[i] := by simp [hi.2]
    simp only [Op.eqItems, Sem.run_bind, p1, p2, p3, Result.andThen_ok, List.all_cons, e1, e2]
    cases hc : (xs[i] == ys[i])
    · simp
    · simpa using ih

theorem all_eq {xs ys : List Int} (h : xs.length = ys.length) : ((List.range xs.length).all fun i => xs.getD i 0 == ys.getD i 0) = (xs == ys) := by
  rw [Bool.eq_iff_iff]
  simp only [List.all_eq_true, List.mem_range, beq_iff_eq]
  constructor
  · intro hh
    apply List.ext_getElem h
    intro i h1 h2
    have := hh i h1
    simpa [h1, h2] using this
  · rintro rfl i _; rfl

/-- '==' on arrays of integers -/
theorem run_equal_ints {P : Program} {t e : TypeId} {k : IntKind} {n : Nat} {i : TypeInfo} (hu : P.underlying t = some (.array n e)) (hi : P.info? e = some i) (hc : P.cellsOf e = 1)
    (he : P.underlying e = some (.int k)) (hp : P.plainKey e = true) (xs ys : List Int) (ha : xs.length = n) (hb : ys.length = n) (w : World) :
    (Op.equalIn 10000 t (.agg (intsC k xs)) (.agg (intsC k ys))).run P w = .ok (xs == ys) w := by
  have h1 := run_equalIn_array (P := P) (w := w) 9999 (intsC k xs) (intsC k ys) hu hi
  rw [show (10000 : Nat) = 9999 + 1 from rfl, h1, hc, show (9999 : Nat) = 9998 + 1 from rfl, run_eqItems_ints 9998 he hp xs ys _ w (fun j hj => by rw [List.mem_range] at hj; omega), ← ha, all_eq (by omega)]

def words (x : BSet) : List Int := [(word x 0 : Int), (word x 1 : Int), (word x 2 : Int), (word x 3 : Int)]
theorem setC_words (x : BSet) : setC x = intsC .u64 (words x) := rfl
theorem words_inj {x y : BSet} (h : words x = words y) : x = y := setC_inj (by rw [setC_words, setC_words, h])
theorem words_beq (x y : BSet) : (words x == words y) = decide (x = y) := by
  rw [Bool.eq_iff_iff]
  simp only [beq_iff_eq, decide_eq_true_eq]
  exact ⟨words_inj, fun h => by rw [h]⟩

theorem info_u64' : ∃ i, Tryd.prog.info? 112 = some i := by
  cases h : Tryd.prog.info? 112 with
  | none => have := info_u64; rw [h] at this; cases this
  | some i => exact ⟨i, rfl⟩
theorem cells_u64 : Tryd.prog.cellsOf 112 = 1 := by kernel_rfl
theorem plain_u64 : Tryd.prog.plainKey 112 = true := by kernel_rfl
end Go.Proofs.YtjplgcmfifoefaaDoor
