/- strings.IndexByte, and ere's question whether one of some bytes stands at a place. No condition beyond those named in each lemma. (The steps of the first lemma follow the shelf's template.) -/
import Derived.Test.YtajainmldcnaeaaEreA
import Derived.Lib.Strings
import Derived.Lib.Walk
import Derived.Lib.Bytealg
import Derived.Lib.IndexLaws
namespace Go.Proofs.Ytajainmldcnaeaa
open Go.RowKit Go.Maps
set_option linter.unusedVariables false
set_option linter.unusedSimpArgs false
attribute [local go_sem] Oper.semAt_some

set_option maxHeartbeats 1000000 in
set_option maxRecDepth 100000 in
theorem slib_any (s : ByteArray) (c : Int) (w : World) :
    Calls Try.prog 55 #[.string s, .int .u8 c] w fun e w' => e = .returned (.int .i64 (Lib.indexByte s.data.toList c.toNat.toUInt8)) ∧ w' = w := by
  go_enter Try.func55, Try.ntmps55
  go_wp2
  rw [run_callFunc_extern Try.func65 (by kernel_rfl) (by kernel_rfl) (by kernel_rfl) (e := Extern.BytealgIndexByte.indexByte) (by kernel_rfl), Lib.run_indexByteString]
  simp only [Result.andThen]
  rw [Oper.upon_value]
  go_wp2
  go_ret
  exact ⟨rfl, rfl⟩
set_option maxHeartbeats 1000000 in
theorem sib_any (s : ByteArray) (c : Int) (w : World) :
    Calls Try.prog 37 #[.string s, .int .u8 c] w fun e w' => e = .returned (.int .i64 (Lib.indexByte s.data.toList c.toNat.toUInt8)) ∧ w' = w := by
  go_enter Try.func37, Try.ntmps37
  go_wp2_with (go_at_call 55; refine (slib_any _ _ _).mono ?_; rintro e w' ⟨rfl, rfl⟩)
  go_ret
  exact ⟨rfl, rfl⟩
theorem indexByte_ge (l : List UInt8) (c : UInt8) : decide (0 ≤ Lib.indexByte l c) = l.contains c := by
  cases h : l.contains c with
  | true =>
    rw [decide_eq_true_eq]
    rcases Int.lt_or_le (Lib.indexByte l c) 0 with h0 | h0
    · have h1 : Lib.indexByte l c = -1 := by
        have := Lib.indexByte_ge l c
        omega
      have h2 := Lib.indexByte_none h1
      obtain ⟨i, hi, e⟩ := List.mem_iff_getElem.1 (List.contains_iff_mem.1 h)
      exact absurd (by rw [List.getElem?_eq_getElem hi, e]) (h2 i)
    · exact h0
  | false =>
    rw [decide_eq_false_iff_not]
    intro h0
    obtain ⟨o, ho⟩ := Int.eq_ofNat_of_zero_le h0
    have h2 := (Lib.indexByte_some ho).1
    have h3 : c ∈ l := List.mem_of_getElem? h2
    have h4 := List.contains_iff_mem.2 h3
    rw [h] at h4
    cases h4
theorem contains_map (l : List UInt8) (c : UInt8) : (l.map UInt8.toNat).contains c.toNat = l.contains c := by
  rw [Bool.eq_iff_iff, List.contains_iff_mem, List.contains_iff_mem, List.mem_map]
  constructor
  · rintro ⟨a, ha, e⟩
    rw [← UInt8.toNat_inj.1 e]
    exact ha
  · exact fun h => ⟨c, h, rfl⟩
set_option maxHeartbeats 1000000 in
theorem one_any (g : Nat) (p o : ByteArray) (k i : Nat) (w : World) (h : Blk w g 76 (rdC p k)) :
    Calls Try.prog 81 #[.pointer (some ⟨g, 0, none⟩), .int .i64 (i : Int), .string o] w fun e w' => e = .returned (.bool (Ere.oneOf p i (o.data.toList.map UInt8.toNat))) ∧ Below w.heap.size w w' := by
  have c0 : w.cell? ⟨g, 0, none⟩ = some (.string p) := h.cellv rfl
  by_cases hi : i < p.size
  · have hI : (i : Int) < p.size := by omega
    have hI0 : ¬ (i : Int) < 0 := by omega
    have hv : decide (0 ≤ Lib.indexByte o.data.toList ((p[i].toNat : Nat) : Int).toNat.toUInt8) = Ere.oneOf p i (o.data.toList.map UInt8.toNat) := by
      unfold Ere.oneOf Ere.chr
      rw [dif_pos hi, decide_eq_true hi, Bool.true_and, indexByte_ge, contains_map]
      congr 1
      simp
    obtain ⟨z, hz⟩ : ∃ z, Lib.indexByte o.data.toList ((p[i].toNat : Nat) : Int).toNat.toUInt8 = z := ⟨_, rfl⟩
    have hc := sib_any o ((p[i].toNat : Nat) : Int) w
    rw [hz] at hv hc
    clear hz
    replace hv := Lib.hid hv
    go_enter Try.func81, Try.ntmps81
    go_wp2_with (go_at_call 37; refine hc.mono ?_; rintro e w' ⟨rfl, rfl⟩)
    go_ret
    exact ⟨congrArg (fun b => Ending.returned (.bool b)) hv.out, Below.refl _ _⟩
  · have hI : ¬ (i : Int) < p.size := by omega
    have hv : Ere.oneOf p i (o.data.toList.map UInt8.toNat) = false := by unfold Ere.oneOf; rw [decide_eq_false hi, Bool.false_and]
    rw [hv]
    go_enter Try.func81, Try.ntmps81
    go_wp2_with (fail)
    go_ret
    exact ⟨rfl, Below.refl _ _⟩
theorem enter_one (args : Array Value) (w : World) : (callFunc 81 args).run Try.prog w = .ok (.enter 81 args) w := by kernel_rfl
theorem enter_sib (args : Array Value) (w : World) : (callFunc 37 args).run Try.prog w = .ok (.enter 37 args) w := by kernel_rfl
end Go.Proofs.Ytajainmldcnaeaa
