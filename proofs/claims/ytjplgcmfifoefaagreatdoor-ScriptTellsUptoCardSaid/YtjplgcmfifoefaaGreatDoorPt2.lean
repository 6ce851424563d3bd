/- Part 2 of a proof; packed: the texts that it was made of follow one another. No condition beyond those named in each lemma. -/
import Derived.Test.YtjplgcmfifoefaaGreatDoorProg
import Derived.Test.YtjplgcmfifoefaaGreatDoorPt1
import Derived.Test.YtjplgcmfifoefaaGreatDoorRows
import Derived.Below
import Derived.BigQuiet
import Derived.BigRegion
import Derived.ChangeKeysEq
import Derived.ChangeOld
import Derived.Deep.AppendLies
import Derived.Deep.Cut
import Derived.Deep.DeepCutAuto
import Derived.Deep.DeepFit
import Derived.Deep.DeepMust
import Derived.Deep.Draws
import Derived.Deep.LoopGhost
import Derived.Deep.QuietTactic
import Derived.Deep.RegionHeld3
import Derived.Deep.Slices
import Derived.JoinedCond
import Derived.LaidMore
import Derived.Laws.BitsAllLaws
import Derived.Laws.BitsLemmas
import Derived.Laws.BytesString
import Derived.Laws.IdiomStrings
import Derived.Laws.OwnMore
import Derived.Laws.Rows
import Derived.Laws.StructEq
import Derived.Lib.AtoiAll
import Derived.Lib.Bytealg
import Derived.Lib.Hide
import Derived.Lib.IndexLaws
import Derived.Lib.ItoaLen
import Derived.Lib.ItoaNum
import Derived.Lib.Join
import Derived.Lib.LaidU8T
import Derived.Lib.MapLaws
import Derived.Lib.SmallJoins
import Derived.Lib.Strings
import Derived.Lib.TrimAscii
import Derived.Lib.TrimUEq
import Derived.Lib.Walk
import Derived.Maps.AppendAt
import Derived.OpenShut
import Derived.Outline
import Derived.OwnWalk
import Derived.ProofKit
import Derived.RegionTactic
import Derived.Shelf.Abstract
import Derived.Shelf.Bits.Mul64
import Derived.Shelf.LaysC
import Derived.Shelf.LaysM
import Derived.Shelf.Small.Strs
import Derived.Shelf.Small.Utf8
import Derived.Shelf.Strconv.Atoi
import Derived.Shelf.Strconv.AtoiAll
import Derived.Shelf.Strconv.AtoiErrFast
import Derived.Shelf.Strconv.AtoiFail
import Derived.Shelf.Strconv.AtoiInnerAll
import Derived.Shelf.Strconv.AtoiLong
import Derived.Shelf.Strconv.Clone
import Derived.Shelf.Strconv.Itoa0
import Derived.Shelf.Strconv.Itoa1
import Derived.Shelf.Strconv.Itoa2
import Derived.Shelf.Strconv.Itoa3
import Derived.Shelf.Strconv.Lower
import Derived.Shelf.Strconv.ParseInt10
import Derived.Shelf.Strconv.ParseIntEmpty
import Derived.Shelf.Strconv.ParseUint10
import Derived.Shelf.Strconv.ParseUint10Any
import Derived.Shelf.Strconv.ParseUint10Empty
import Derived.Shelf.Strconv.RangeError
import Derived.Shelf.Strconv.SyntaxError
import Derived.Shelf.Strconv.ToError
import Derived.Shelf.Strconv.ToErrorRange
import Derived.Shelf.Strings.AsciiSet
import Derived.Shelf.Strings.Builder1
import Derived.Shelf.Strings.Builder2
import Derived.Shelf.Strings.BuilderF
import Derived.Shelf.Strings.BuilderK
import Derived.Shelf.Strings.BuilderRune
import Derived.Shelf.Strings.OnBuilder
import Derived.Shelf.Strings.Prefix
import Derived.Shelf.Strings.Repeat
import Derived.Shelf.Strings.Runes
import Derived.Shelf.Strings.Search1
import Derived.Shelf.Strings.Trim
import Derived.Shelf.Unicode.Decode
import Derived.Shelf.Unicode.DecodeAny
import Derived.Shelf.Unicode.DecodeSlow
import Derived.ShutString
import Derived.SizedLaws
import Derived.StillTailTactics
import Derived.Stop.LaidErr
import Derived.WalkKit
import Derived.WalkLawsBesides
import Derived.WalkSmall
import Derived.WalkSpells
namespace Go.Proofs.YtjplgcmfifoefaaGreatDoor
open Go.ChangeShapes Go.WideShapes Go.ChangeAt Go.RowKit Go.Joins
set_option linter.unusedVariables false
set_option linter.unusedSimpArgs false

section
variable {H : Type}
end
section
variable {H : Type} {enc : TypeId × Value → H} {W : World} {held : Bool}
section
variable {H : Type} {enc : TypeId × Value → H} {W : World} {held : Bool} {n : Nat}
theorem open_u32e {cs : List Value} {x : DataW H × List MemPlace} (h : DataW.trod enc Tryz.prog W 0 (fun _ => true) held n 38 cs = some x) : ∃ z : Nat, cs = [.int .u32 (z : Int)] ∧ z < 4294967296 := by
  obtain ⟨z, hz, _, hw⟩ := DataW.trod_int Tryz.underlying38 h
  have h2 : IntKind.u32.min = 0 := by decide
  have h3 : IntKind.u32.max = 4294967295 := by decide
  simp only [Lit.wf, Bool.and_eq_true, decide_eq_true_eq] at hw
  obtain ⟨z', rfl⟩ := Int.eq_ofNat_of_zero_le (show 0 ≤ z by omega)
  exact ⟨z', hz, by omega⟩
set_option maxRecDepth 100000 in
theorem trod_loss {fuel : Nat} {cs : List Value} {x : DataW H × List MemPlace} (h : DataW.trod enc Tryz.prog W 0 (fun _ => true) held fuel 35 cs = some x) (hb : Rows.uptoBulk x.1 ≤ 1048576) :
    ∃ a0 a1 a2 a3 a4 : Int, cs = [.int .i64 a0, .int .i64 a1, .int .i64 a2, .int .i64 a3, .int .i64 a4] ∧ (i64z a0 ∧ i64z a1 ∧ i64z a2 ∧ i64z a3 ∧ i64z a4) := by
  obtain ⟨xs, n, _, hx, hl, hlen, hf⟩ := DataW.trod_struct Tryz.underlying35 h
  rw [show Tryz.prog.cellsOf 35 = 5 by kernel_rfl] at hl
  obtain ⟨c0, c1, c2, c3, c4, rfl⟩ : ∃ c0 c1 c2 c3 c4 : Value, cs = [c0, c1, c2, c3, c4] := by
    clear h hf hx
    match cs, hl with
    | [c0, c1, c2, c3, c4], _ => exact ⟨_, _, _, _, _, rfl⟩
  have xsl : xs.length = 5 := hlen
  have h0 : DataW.trod enc Tryz.prog W 0 (fun _ => true) held n 3 ((([c0, c1, c2, c3, c4] : List Value).drop 0).take (Tryz.prog.cellsOf 3)) = xs[0]? := hf 0 _ rfl
  rw [show Tryz.prog.cellsOf 3 = 1 by kernel_rfl, List.getElem?_eq_getElem (by omega)] at h0
  have hb0 := bulk_nth 0 (show 0 < xs.length by omega)
  have h1 : DataW.trod enc Tryz.prog W 0 (fun _ => true) held n 3 ((([c0, c1, c2, c3, c4] : List Value).drop 1).take (Tryz.prog.cellsOf 3)) = xs[1]? := hf 1 _ rfl
  rw [show Tryz.prog.cellsOf 3 = 1 by kernel_rfl, List.getElem?_eq_getElem (by omega)] at h1
  have hb1 := bulk_nth 1 (show 1 < xs.length by omega)
  have h2 : DataW.trod enc Tryz.prog W 0 (fun _ => true) held n 3 ((([c0, c1, c2, c3, c4] : List Value).drop 2).take (Tryz.prog.cellsOf 3)) = xs[2]? := hf 2 _ rfl
  rw [show Tryz.prog.cellsOf 3 = 1 by kernel_rfl, List.getElem?_eq_getElem (by omega)] at h2
  have hb2 := bulk_nth 2 (show 2 < xs.length by omega)
  have h3 : DataW.trod enc Tryz.prog W 0 (fun _ => true) held n 3 ((([c0, c1, c2, c3, c4] : List Value).drop 3).take (Tryz.prog.cellsOf 3)) = xs[3]? := hf 3 _ rfl
  rw [show Tryz.prog.cellsOf 3 = 1 by kernel_rfl, List.getElem?_eq_getElem (by omega)] at h3
  have hb3 := bulk_nth 3 (show 3 < xs.length by omega)
  have h4 : DataW.trod enc Tryz.prog W 0 (fun _ => true) held n 3 ((([c0, c1, c2, c3, c4] : List Value).drop 4).take (Tryz.prog.cellsOf 3)) = xs[4]? := hf 4 _ rfl
  rw [show Tryz.prog.cellsOf 3 = 1 by kernel_rfl, List.getElem?_eq_getElem (by omega)] at h4
  have hb4 := bulk_nth 4 (show 4 < xs.length by omega)
  rw [hx] at hb
  simp only [Rows.uptoBulk] at hb
  have g0 : DataW.trod enc Tryz.prog W 0 (fun _ => true) held n 3 [c0] = some xs[0] := h0
  obtain ⟨a0, e0, _, w0⟩ := open_i64 g0
  injection e0 with e0 _
  subst e0
  have g1 : DataW.trod enc Tryz.prog W 0 (fun _ => true) held n 3 [c1] = some xs[1] := h1
  obtain ⟨a1, e1, _, w1⟩ := open_i64 g1
  injection e1 with e1 _
  subst e1
  have g2 : DataW.trod enc Tryz.prog W 0 (fun _ => true) held n 3 [c2] = some xs[2] := h2
  obtain ⟨a2, e2, _, w2⟩ := open_i64 g2
  injection e2 with e2 _
  subst e2
  have g3 : DataW.trod enc Tryz.prog W 0 (fun _ => true) held n 3 [c3] = some xs[3] := h3
  obtain ⟨a3, e3, _, w3⟩ := open_i64 g3
  injection e3 with e3 _
  subst e3
  have g4 : DataW.trod enc Tryz.prog W 0 (fun _ => true) held n 3 [c4] = some xs[4] := h4
  obtain ⟨a4, e4, _, w4⟩ := open_i64 g4
  injection e4 with e4 _
  subst e4
  exact ⟨a0, a1, a2, a3, a4, rfl, w0, w1, w2, w3, w4⟩
set_option maxRecDepth 100000 in
theorem trod_mark {fuel : Nat} {cs : List Value} {x : DataW H × List MemPlace} (h : DataW.trod enc Tryz.prog W 0 (fun _ => true) held fuel 37 cs = some x) (hb : Rows.uptoBulk x.1 ≤ 1048576) :
    ∃ m : MkV, cs = m.C.toList ∧ m.ok := by
  obtain ⟨xs, n, _, hx, hl, hlen, hf⟩ := DataW.trod_struct Tryz.underlying37 h
  rw [show Tryz.prog.cellsOf 37 = 9 by kernel_rfl] at hl
  obtain ⟨c0, c1, c2, c3, c4, c5, c6, c7, c8, rfl⟩ : ∃ c0 c1 c2 c3 c4 c5 c6 c7 c8 : Value, cs = [c0, c1, c2, c3, c4, c5, c6, c7, c8] := by
    clear h hf hx
    match cs, hl with
    | [c0, c1, c2, c3, c4, c5, c6, c7, c8], _ => exact ⟨_, _, _, _, _, _, _, _, _, rfl⟩
  have xsl : xs.length = 5 := hlen
  have h0 : DataW.trod enc Tryz.prog W 0 (fun _ => true) held n 3 ((([c0, c1, c2, c3, c4, c5, c6, c7, c8] : List Value).drop 0).take (Tryz.prog.cellsOf 3)) = xs[0]? := hf 0 _ rfl
  rw [show Tryz.prog.cellsOf 3 = 1 by kernel_rfl, List.getElem?_eq_getElem (by omega)] at h0
  have hb0 := bulk_nth 0 (show 0 < xs.length by omega)
  have h1 : DataW.trod enc Tryz.prog W 0 (fun _ => true) held n 3 ((([c0, c1, c2, c3, c4, c5, c6, c7, c8] : List Value).drop 1).take (Tryz.prog.cellsOf 3)) = xs[1]? := hf 1 _ rfl
  rw [show Tryz.prog.cellsOf 3 = 1 by kernel_rfl, List.getElem?_eq_getElem (by omega)] at h1
  have hb1 := bulk_nth 1 (show 1 < xs.length by omega)
  have h2 : DataW.trod enc Tryz.prog W 0 (fun _ => true) held n 3 ((([c0, c1, c2, c3, c4, c5, c6, c7, c8] : List Value).drop 2).take (Tryz.prog.cellsOf 3)) = xs[2]? := hf 2 _ rfl
  rw [show Tryz.prog.cellsOf 3 = 1 by kernel_rfl, List.getElem?_eq_getElem (by omega)] at h2
  have hb2 := bulk_nth 2 (show 2 < xs.length by omega)
  have h3 : DataW.trod enc Tryz.prog W 0 (fun _ => true) held n 3 ((([c0, c1, c2, c3, c4, c5, c6, c7, c8] : List Value).drop 3).take (Tryz.prog.cellsOf 3)) = xs[3]? := hf 3 _ rfl
  rw [show Tryz.prog.cellsOf 3 = 1 by kernel_rfl, List.getElem?_eq_getElem (by omega)] at h3
  have hb3 := bulk_nth 3 (show 3 < xs.length by omega)
  have h4 : DataW.trod enc Tryz.prog W 0 (fun _ => true) held n 35 ((([c0, c1, c2, c3, c4, c5, c6, c7, c8] : List Value).drop 4).take (Tryz.prog.cellsOf 35)) = xs[4]? := hf 4 _ rfl
  rw [show Tryz.prog.cellsOf 35 = 5 by kernel_rfl, List.getElem?_eq_getElem (by omega)] at h4
  have hb4 := bulk_nth 4 (show 4 < xs.length by omega)
  rw [hx] at hb
  simp only [Rows.uptoBulk] at hb
  have g0 : DataW.trod enc Tryz.prog W 0 (fun _ => true) held n 3 [c0] = some xs[0] := h0
  obtain ⟨b0, e0, _, w0⟩ := open_i64 g0
  injection e0 with e0 _
  subst e0
  have g1 : DataW.trod enc Tryz.prog W 0 (fun _ => true) held n 3 [c1] = some xs[1] := h1
  obtain ⟨b1, e1, _, w1⟩ := open_i64 g1
  injection e1 with e1 _
  subst e1
  have g2 : DataW.trod enc Tryz.prog W 0 (fun _ => true) held n 3 [c2] = some xs[2] := h2
  obtain ⟨b2, e2, _, w2⟩ := open_i64 g2
  injection e2 with e2 _
  subst e2
  have g3 : DataW.trod enc Tryz.prog W 0 (fun _ => true) held n 3 [c3] = some xs[3] := h3
  obtain ⟨b3, e3, _, w3⟩ := open_i64 g3
  injection e3 with e3 _
  subst e3
  have g4 : DataW.trod enc Tryz.prog W 0 (fun _ => true) held n 35 [c4, c5, c6, c7, c8] = some xs[4] := h4
  obtain ⟨a0, a1, a2, a3, a4, e4, w4⟩ := trod_loss g4 (by omega)
  injection e4 with q0 e4
  injection e4 with q1 e4
  injection e4 with q2 e4
  injection e4 with q3 e4
  injection e4 with q4 e4
  subst q0 q1 q2 q3 q4
  obtain ⟨u0, u1, u2, u3, u4⟩ := w4
  exact ⟨⟨b0, b1, b2, b3, a0, a1, a2, a3, a4⟩, rfl, ⟨w0, w1, w2, w3, u0, u1, u2, u3, u4⟩⟩
set_option maxRecDepth 100000 in
theorem trod_alert {fuel : Nat} {cs : List Value} {x : DataW H × List MemPlace} (h : DataW.trod enc Tryz.prog W 0 (fun _ => true) held fuel 40 cs = some x) (hb : Rows.uptoBulk x.1 ≤ 1048576) :
    ∃ a : AlV, cs = a.C.toList ∧ AlOk a := by
  obtain ⟨xs, n, _, hx, hl, hlen, hf⟩ := DataW.trod_struct Tryz.underlying40 h
  rw [show Tryz.prog.cellsOf 40 = 12 by kernel_rfl] at hl
  obtain ⟨c0, c1, c2, c3, c4, c5, c6, c7, c8, c9, c10, c11, rfl⟩ : ∃ c0 c1 c2 c3 c4 c5 c6 c7 c8 c9 c10 c11 : Value, cs = [c0, c1, c2, c3, c4, c5, c6, c7, c8, c9, c10, c11] := by
    clear h hf hx
    match cs, hl with
    | [c0, c1, c2, c3, c4, c5, c6, c7, c8, c9, c10, c11], _ => exact ⟨_, _, _, _, _, _, _, _, _, _, _, _, rfl⟩
  have xsl : xs.length = 4 := hlen
  have h0 : DataW.trod enc Tryz.prog W 0 (fun _ => true) held n 3 ((([c0, c1, c2, c3, c4, c5, c6, c7, c8, c9, c10, c11] : List Value).drop 0).take (Tryz.prog.cellsOf 3)) = xs[0]? := hf 0 _ rfl
  rw [show Tryz.prog.cellsOf 3 = 1 by kernel_rfl, List.getElem?_eq_getElem (by omega)] at h0
  have hb0 := bulk_nth 0 (show 0 < xs.length by omega)
  have h1 : DataW.trod enc Tryz.prog W 0 (fun _ => true) held n 37 ((([c0, c1, c2, c3, c4, c5, c6, c7, c8, c9, c10, c11] : List Value).drop 1).take (Tryz.prog.cellsOf 37)) = xs[1]? := hf 1 _ rfl
  rw [show Tryz.prog.cellsOf 37 = 9 by kernel_rfl, List.getElem?_eq_getElem (by omega)] at h1
  have hb1 := bulk_nth 1 (show 1 < xs.length by omega)
  have h2 : DataW.trod enc Tryz.prog W 0 (fun _ => true) held n 9 ((([c0, c1, c2, c3, c4, c5, c6, c7, c8, c9, c10, c11] : List Value).drop 10).take (Tryz.prog.cellsOf 9)) = xs[2]? := hf 2 _ rfl
  rw [show Tryz.prog.cellsOf 9 = 1 by kernel_rfl, List.getElem?_eq_getElem (by omega)] at h2
  have hb2 := bulk_nth 2 (show 2 < xs.length by omega)
  have h3 : DataW.trod enc Tryz.prog W 0 (fun _ => true) held n 38 ((([c0, c1, c2, c3, c4, c5, c6, c7, c8, c9, c10, c11] : List Value).drop 11).take (Tryz.prog.cellsOf 38)) = xs[3]? := hf 3 _ rfl
  rw [show Tryz.prog.cellsOf 38 = 1 by kernel_rfl, List.getElem?_eq_getElem (by omega)] at h3
  have hb3 := bulk_nth 3 (show 3 < xs.length by omega)
  rw [hx] at hb
  simp only [Rows.uptoBulk] at hb
  have g0 : DataW.trod enc Tryz.prog W 0 (fun _ => true) held n 3 [c0] = some xs[0] := h0
  obtain ⟨path, e0, _, w0⟩ := open_i64 g0
  injection e0 with e0 _
  subst e0
  have g1 : DataW.trod enc Tryz.prog W 0 (fun _ => true) held n 37 [c1, c2, c3, c4, c5, c6, c7, c8, c9] = some xs[1] := h1
  obtain ⟨mk, e1, w1⟩ := trod_mark g1 (by omega)
  have g2 : DataW.trod enc Tryz.prog W 0 (fun _ => true) held n 9 [c10] = some xs[2] := h2
  obtain ⟨text, e2, w2⟩ := open_stre g2 (by omega)
  injection e2 with e2 _
  subst e2
  have g3 : DataW.trod enc Tryz.prog W 0 (fun _ => true) held n 38 [c11] = some xs[3] := h3
  obtain ⟨rules, e3, w3⟩ := open_u32e g3
  injection e3 with e3 _
  subst e3
  have e1 := e1
  simp only [MkV.C] at e1
  injection e1 with q0 e1
  injection e1 with q1 e1
  injection e1 with q2 e1
  injection e1 with q3 e1
  injection e1 with q4 e1
  injection e1 with q5 e1
  injection e1 with q6 e1
  injection e1 with q7 e1
  injection e1 with q8 e1
  subst q0 q1 q2 q3 q4 q5 q6 q7 q8
  exact ⟨⟨path, mk, text, rules⟩, rfl, ⟨w0, w1, w2, w3⟩⟩
theorem open_markse {v : Value} {x : DataW H × List MemPlace} (h : DataW.trod enc Tryz.prog W 0 (fun _ => true) held n 41 [v] = some x) (hb : Rows.uptoBulk x.1 ≤ 1048576) :
    ∃ (A : Option Addr) (m c : Nat) (l : List MkV), v = .slice A m c ∧ m = l.length ∧ m ≤ 1048576 ∧ SliceOf W W.heap.size 9 MkV.C A l ∧ ∀ z ∈ l, z.ok := by
  obtain ⟨B, m, e, rs, rfl, hm, hmK, hsr⟩ := trod_slice_q (K := 1048576) (size := 9) (ea := fun z : {z : MkV // z.ok} => z.1.C) Tryz.underlying41 (by kernel_rfl) (by omega) (fun z => rfl) (fun _ _ _ h hq => by
    obtain ⟨z, hz, hw⟩ := trod_mark h (by omega)
    exact ⟨⟨z, hw⟩, hz⟩) h hb
  refine ⟨B, m, e, rs.map (·.1), rfl, by rw [List.length_map]; exact hm, hmK, ?_, fun y hy => ?_⟩
  · rcases hsr with h | ⟨b, off, q1, q2, q3⟩
    · exact .inl (by rw [h]; rfl)
    · refine .inr ⟨b, off, q1, q2, fun i hi => ?_⟩
      simp only [List.getElem_map]
      exact q3 i (by simpa using hi)
  · obtain ⟨z, _, rfl⟩ := List.mem_map.1 hy
    exact z.2
set_option maxRecDepth 100000 in
theorem trod_note {fuel : Nat} {cs : List Value} {x : DataW H × List MemPlace} (h : DataW.trod enc Tryz.prog W 0 (fun _ => true) held fuel 43 cs = some x) (hb : Rows.uptoBulk x.1 ≤ 1048576) :
    ∃ (y : NtV) (ms : List MkV), cs = y.C.toList ∧ NtOk W y ms := by
  obtain ⟨xs, n, _, hx, hl, hlen, hf⟩ := DataW.trod_struct Tryz.underlying43 h
  rw [show Tryz.prog.cellsOf 43 = 15 by kernel_rfl] at hl
  obtain ⟨c0, c1, c2, c3, c4, c5, c6, c7, c8, c9, c10, c11, c12, c13, c14, rfl⟩ : ∃ c0 c1 c2 c3 c4 c5 c6 c7 c8 c9 c10 c11 c12 c13 c14 : Value, cs = [c0, c1, c2, c3, c4, c5, c6, c7, c8, c9, c10, c11, c12, c13, c14] := by
    clear h hf hx
    match cs, hl with
    | [c0, c1, c2, c3, c4, c5, c6, c7, c8, c9, c10, c11, c12, c13, c14], _ => exact ⟨_, _, _, _, _, _, _, _, _, _, _, _, _, _, _, rfl⟩
  have xsl : xs.length = 4 := hlen
  have h0 : DataW.trod enc Tryz.prog W 0 (fun _ => true) held n 3 ((([c0, c1, c2, c3, c4, c5, c6, c7, c8, c9, c10, c11, c12, c13, c14] : List Value).drop 0).take (Tryz.prog.cellsOf 3)) = xs[0]? := hf 0 _ rfl
  rw [show Tryz.prog.cellsOf 3 = 1 by kernel_rfl, List.getElem?_eq_getElem (by omega)] at h0
  have hb0 := bulk_nth 0 (show 0 < xs.length by omega)
  have h1 : DataW.trod enc Tryz.prog W 0 (fun _ => true) held n 40 ((([c0, c1, c2, c3, c4, c5, c6, c7, c8, c9, c10, c11, c12, c13, c14] : List Value).drop 1).take (Tryz.prog.cellsOf 40)) = xs[1]? := hf 1 _ rfl
  rw [show Tryz.prog.cellsOf 40 = 12 by kernel_rfl, List.getElem?_eq_getElem (by omega)] at h1
  have hb1 := bulk_nth 1 (show 1 < xs.length by omega)
  have h2 : DataW.trod enc Tryz.prog W 0 (fun _ => true) held n 3 ((([c0, c1, c2, c3, c4, c5, c6, c7, c8, c9, c10, c11, c12, c13, c14] : List Value).drop 13).take (Tryz.prog.cellsOf 3)) = xs[2]? := hf 2 _ rfl
  rw [show Tryz.prog.cellsOf 3 = 1 by kernel_rfl, List.getElem?_eq_getElem (by omega)] at h2
  have hb2 := bulk_nth 2 (show 2 < xs.length by omega)
  have h3 : DataW.trod enc Tryz.prog W 0 (fun _ => true) held n 41 ((([c0, c1, c2, c3, c4, c5, c6, c7, c8, c9, c10, c11, c12, c13, c14] : List Value).drop 14).take (Tryz.prog.cellsOf 41)) = xs[3]? := hf 3 _ rfl
  rw [show Tryz.prog.cellsOf 41 = 1 by kernel_rfl, List.getElem?_eq_getElem (by omega)] at h3
  have hb3 := bulk_nth 3 (show 3 < xs.length by omega)
  rw [hx] at hb
  simp only [Rows.uptoBulk] at hb
  have g0 : DataW.trod enc Tryz.prog W 0 (fun _ => true) held n 3 [c0] = some xs[0] := h0
  obtain ⟨kind, e0, _, w0⟩ := open_i64 g0
  injection e0 with e0 _
  subst e0
  have g1 : DataW.trod enc Tryz.prog W 0 (fun _ => true) held n 40 [c1, c2, c3, c4, c5, c6, c7, c8, c9, c10, c11, c12] = some xs[1] := h1
  obtain ⟨al, e1, w1⟩ := trod_alert g1 (by omega)
  have g2 : DataW.trod enc Tryz.prog W 0 (fun _ => true) held n 3 [c13] = some xs[2] := h2
  obtain ⟨att, e2, _, w2⟩ := open_i64 g2
  injection e2 with e2 _
  subst e2
  have g3 : DataW.trod enc Tryz.prog W 0 (fun _ => true) held n 41 [c14] = some xs[3] := h3
  obtain ⟨A, m, c, l, e3, hm, hmK, hs, hz⟩ := open_markse g3 (by omega)
  subst e3
  have e1 := e1
  simp only [AlV.C] at e1
  injection e1 with q0 e1
  injection e1 with q1 e1
  injection e1 with q2 e1
  injection e1 with q3 e1
  injection e1 with q4 e1
  injection e1 with q5 e1
  injection e1 with q6 e1
  injection e1 with q7 e1
  injection e1 with q8 e1
  injection e1 with q9 e1
  injection e1 with q10 e1
  injection e1 with q11 e1
  subst q0 q1 q2 q3 q4 q5 q6 q7 q8 q9 q10 q11
  exact ⟨⟨kind, al, att, A, m, c⟩, l, rfl, ⟨w1, w2, hm, hmK, hz, hs⟩⟩
set_option maxRecDepth 100000 in
theorem open_note {r : Go.Reach} {b0 : Nat} {v : Value} {d : DataW H} {ps : List MemPlace} (hval : Value.okWide Tryz.prog W r b0 43 v) (hd : DataW.Trod enc Tryz.prog W 0 (fun _ => true) held 43 v d ps) (hb : Rows.uptoBulk d ≤ 1048576) :
    ∃ (y : NtV) (l : List MkV), v = .agg y.C ∧ NtOk W y l := by
  have hv : ∃ cs, v = .agg cs := by
    unfold Value.okWide at hval
    rw [Tryz.underlying43] at hval
    obtain ⟨cs, h, _⟩ := hval
    exact ⟨cs, h⟩
  obtain ⟨cs, rfl⟩ := hv
  obtain ⟨fuel, hf⟩ := hd
  obtain ⟨y, l, h1, h3⟩ := trod_note hf hb
  have : cs.toList = y.C.toList := by simpa [Value.cells] using h1
  exact ⟨y, l, by rw [Array.toList_inj.1 this], h3⟩
end
end
end Go.Proofs.YtjplgcmfifoefaaGreatDoor
