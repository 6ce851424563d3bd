/- What the rows of heronlaw26 list, as the walks want it: the program's table of kinds, the library's tables, two sentinels. No condition beyond those named in each lemma. -/
import Derived.Test.YtjplgcmfifoefaaDoorRows
import Derived.Test.YtjplgcmfifoefaaDoorShC
import Derived.Test.YtjplgcmfifoefaaDoorOpen3
import Derived.Lib.LaidU8T
import Derived.Stop.LaidErr
import Derived.LaidMore
namespace Go.Proofs.YtjplgcmfifoefaaDoor
open Go.ChangeShapes Go.WideShapes Go.ChangeAt Go.RowKit Go.Joins Go.Lib
set_option linter.unusedVariables false
set_option linter.unusedSimpArgs false

section
variable {H : Type} {enc : TypeId × Value → H} {P : Program} {w : World} {base : Nat} {sp : Nat → Bool} {held : Bool}
/-- a struct whose fields are strings holds the strings that it reads as -/
theorem strs_of_struct {fuel : Nat} {t : TypeId} {fs : Array Field} {cs : List Value} {zs : List Bs} {p : List MemPlace} (ht : P.underlying t = some (.struct fs))
    (hf : ∀ (i : Nat) (f : Field), fs[i]? = some f → P.underlying f.type = some .string ∧ f.offset = i ∧ P.cellsOf f.type = 1) (hct : P.cellsOf t = fs.size)
    (h : DataW.trod enc P w base sp held fuel t cs = some (.agg (zs.map fun z => .lit (.string z)), p)) : cs = zs.map strV := by
  obtain ⟨xs, n, rfl, hx, hl, hxl, hall⟩ := DataW.trod_struct ht h
  have hxs : xs.map (·.1) = zs.map fun z => (DataW.lit (.string z) : DataW H) := by
    have := congrArg Prod.fst hx
    simpa using this.symm
  have hzl : zs.length = fs.size := by
    have := congrArg List.length hxs
    simp at this
    omega
  apply List.ext_getElem?
  intro i
  by_cases hi : i < fs.size
  · obtain ⟨hu, ho, hc⟩ := hf i fs[i] (by simp [hi])
    have h1 := hall i fs[i] (by simp [hi])
    obtain ⟨b, hb⟩ : ∃ b, xs[i]? = some b := ⟨xs[i]'(by omega), List.getElem?_eq_getElem (by omega)⟩
    rw [hb, ho, hc] at h1
    obtain ⟨s, hcz, rfl, _⟩ := DataW.trod_string hu h1
    have h2 : cs[i]? = some (.string s) := by
      have := congrArg (·[0]?) hcz
      simpa [List.getElem?_take, List.getElem?_drop] using this
    have h3 : (xs.map (·.1))[i]? = some (DataW.lit (.string s.data.toList) : DataW H) := by simp [hb]
    rw [hxs] at h3
    simp only [List.getElem?_map, Option.map_eq_some_iff, DataW.lit.injEq, Lit.string.injEq] at h3
    obtain ⟨z', hz', rfl⟩ := h3
    rw [h2, List.getElem?_map, hz']
    show some (Value.string s) = some (strV s.data.toList)
    unfold strV
    rw [bytes_of]
  · rw [List.getElem?_eq_none (by omega), List.getElem?_eq_none (by simp; omega)]
end
def rowsData : DataW Unit := .agg ((List.range 13).map fun k => .agg ([firsts.getD k [], letters.getD k []].map fun z => .lit (.string z)))
theorem rows_of_reads {w : World} (h : VarReads Tryd.prog w "heron/script.rows" rowsData) : RowAt w 0 0 rowsC := by
  obtain ⟨g, t, cs, fuel, p, hg, hty, hvar, hd⟩ := h
  obtain rfl : 0 = g := Option.some.inj ((show Tryd.prog.globalNamed "heron/script.rows" = some 0 by kernel_rfl).symm.trans hg)
  obtain rfl := Option.some.inj ((show (Tryd.prog.globals[0]?).map (·.type) = some 48 by kernel_rfl).symm.trans hty)
  have key : ∀ i, i < 13 → w.cell? ⟨0, 2 * i, none⟩ = some (strV (firsts.getD i [])) ∧ w.cell? ⟨0, 2 * i + 1, none⟩ = some (strV (letters.getD i [])) := by
    intro i hi
    obtain ⟨fuel', d, q, hdi, he⟩ := array_elem Tryd.underlying48 hd i hi
    simp only [List.getElem?_map, List.getElem?_range hi, Option.map_some, Option.some.injEq] at hdi
    subst hdi
    rw [show Tryd.prog.cellsOf 47 = 2 by kernel_rfl] at he
    have hcs := strs_of_struct Tryd.underlying47 (fun j f hj => by
      match j, hj with
      | 0, hj => simp at hj; subst hj; exact ⟨Tryd.underlying9, rfl, by kernel_rfl⟩
      | 1, hj => simp at hj; subst hj; exact ⟨Tryd.underlying9, rfl, by kernel_rfl⟩
      | j + 2, hj => simp at hj) (by kernel_rfl) he
    have e0 := congrArg (·[0]?) hcs
    have e1 := congrArg (·[1]?) hcs
    simp only [List.getElem?_take, List.getElem?_drop] at e0 e1
    constructor
    · rw [World.var?_cell hg hvar (2 * i), ← Array.getElem?_toList]
      simpa [Nat.mul_comm] using e0
    · rw [World.var?_cell hg hvar (2 * i + 1), ← Array.getElem?_toList]
      simpa [Nat.mul_comm] using e1
  intro j v hv
  have hj : j < 26 := by
    refine Classical.byContradiction fun hn => ?_
    rw [Array.getElem?_eq_none (by show rowsC.size ≤ j; rw [show rowsC.size = 26 by kernel_rfl]; omega)] at hv
    cases hv
  have hr : ∀ k, k < 13 → rowsC[2 * k]? = some (strV (firsts.getD k [])) ∧ rowsC[2 * k + 1]? = some (strV (letters.getD k [])) := by
    intro k hk
    rcases (by omega : k = 0 ∨ k = 1 ∨ k = 2 ∨ k = 3 ∨ k = 4 ∨ k = 5 ∨ k = 6 ∨ k = 7 ∨ k = 8 ∨ k = 9 ∨ k = 10 ∨ k = 11 ∨ k = 12) with rfl | rfl | rfl | rfl | rfl | rfl | rfl | rfl | rfl | rfl | rfl | rfl | rfl <;> exact ⟨rfl, rfl⟩
  rw [Nat.zero_add]
  rcases Nat.mod_two_eq_zero_or_one j with h | h
  · obtain ⟨i, rfl⟩ : ∃ i, j = 2 * i := ⟨j / 2, by omega⟩
    rw [(hr i (by omega)).1] at hv
    injection hv with hv
    subst hv
    exact (key i (by omega)).1
  · obtain ⟨i, rfl⟩ : ∃ i, j = 2 * i + 1 := ⟨j / 2, by omega⟩
    rw [(hr i (by omega)).2] at hv
    injection hv with hv
    subst hv
    exact (key i (by omega)).2
def uRen : Go.Shelf.Ren := ⟨id, fun | 5 => 5 | 119 => 116 | 138 => 118 | 139 => 119 | n => n, fun | 3 => 1 | 4 => 2 | n => n⟩
theorem uTypes : U8Types Tryd.prog uRen := by constructor <;> kernel_rfl
theorem uExtra : U8Extra Tryd.prog uRen := by constructor <;> kernel_rfl
theorem starE : "*" ++ "errors.errorString" = "*errors.errorString" := by decide
set_option maxRecDepth 100000 in
theorem row_err (u : TypeId) (h : Tryd.prog.typeName? 3 u = some "*errors.errorString") : u = 148 :=
  typeName_ptr_named (nm := "errors.errorString") (by rw [starE]; kernel_rfl) (by kernel_rfl) (by decide) u (by rw [starE]; exact h)
abbrev laidL : List (String × DataW Unit) := [("math/bits.deBruijn32tab", Rows.laid_math_bits_deBruijn32tab), ("math/bits.deBruijn64tab", Rows.laid_math_bits_deBruijn64tab), ("internal/strconv.uint64pow10", Rows.laid_internal_strconv_uint64pow10), ("unicode/utf8.acceptRanges", Rows.laid_unicode_utf8_acceptRanges), ("strconv.ErrRange", Rows.laid_strconv_ErrRange), ("strconv.ErrSyntax", Rows.laid_strconv_ErrSyntax), ("heron/script.rows", Rows.laid_heron_script_rows), ("unicode/utf8.first", Rows.laid_unicode_utf8_first)]
set_option maxRecDepth 100000 in
theorem sok_of_laid {W : World} (h : laidMet Tryd.prog laidL W) : SOk W := by
  have t1 := laidMet.tail h
  have t2 := laidMet.tail t1
  have t3 := laidMet.tail t2
  have t4 := laidMet.tail t3
  have t5 := laidMet.tail t4
  have hrows : VarReads Tryd.prog W "heron/script.rows" rowsData := laidMet.reads h (.tail _ (.tail _ (.tail _ (.tail _ (.tail _ (.tail _ (.head _)))))))
  have hfirst : VarReads Tryd.prog W "unicode/utf8.first" firstData := by
    have h9 := laidMet.reads h (.tail _ (.tail _ (.tail _ (.tail _ (.tail _ (.tail _ (.tail _ (.head _))))))))
    exact h9
  have hacc : VarReads Tryd.prog W "unicode/utf8.acceptRanges" acceptData := by
    have h9 := laidMet.reads h (.tail _ (.tail _ (.tail _ (.head _))))
    exact h9
  refine ⟨rows_of_reads hrows, utf8Tabs_of_readsT uTypes uExtra hfirst hacc, ?_, ?_, ?_⟩
  · have t2' : laidMet Tryd.prog (("internal/strconv.uint64pow10", tabData .u64 Lib.pow10Tab) :: _) W := t2
    exact tabIs_of_head gPow (t := (Tryd.prog.globals[4]?).elim 0 (·.type)) (n := 20) (by kernel_rfl) (by kernel_rfl) Tryd.underlying112 (by kernel_rfl) (by kernel_rfl) t2'
  · obtain ⟨a, s, hv, _, _, _⟩ := laid_sentinel (P := Tryd.prog) t5 (g := 5) (ti := 66) (tp := 148) (te := 150) (ts := 9) (by kernel_rfl) (by kernel_rfl) Tryd.underlying66 row_err Tryd.underlying148 Tryd.underlying150 rfl rfl Tryd.underlying9 (by kernel_rfl) (by kernel_rfl)
    exact ⟨_, by simpa using World.var?_cell (show Tryd.prog.globalNamed "strconv.ErrSyntax" = some 5 by kernel_rfl) hv 0, .inr ⟨_, _, rfl⟩⟩
  · obtain ⟨a, s, hv, _, _, _⟩ := laid_sentinel (P := Tryd.prog) t4 (g := 6) (ti := 66) (tp := 148) (te := 150) (ts := 9) (by kernel_rfl) (by kernel_rfl) Tryd.underlying66 row_err Tryd.underlying148 Tryd.underlying150 rfl rfl Tryd.underlying9 (by kernel_rfl) (by kernel_rfl)
    exact ⟨_, by simpa using World.var?_cell (show Tryd.prog.globalNamed "strconv.ErrRange" = some 6 by kernel_rfl) hv 0, .inr ⟨_, _, rfl⟩⟩
end Go.Proofs.YtjplgcmfifoefaaDoor
