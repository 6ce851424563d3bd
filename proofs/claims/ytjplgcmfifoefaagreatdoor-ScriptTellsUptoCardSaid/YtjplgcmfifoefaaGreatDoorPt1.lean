/- Part 1 of a proof; packed: the texts that it was made of follow one another. No condition beyond those named in each lemma. -/
import Derived.Test.YtjplgcmfifoefaaGreatDoorPr1
import Derived.Test.YtjplgcmfifoefaaGreatDoorPr2
import Derived.Test.YtjplgcmfifoefaaGreatDoorPr3
import Derived.Test.YtjplgcmfifoefaaGreatDoorPr4
import Derived.Test.YtjplgcmfifoefaaGreatDoorPr5
import Derived.Test.YtjplgcmfifoefaaGreatDoorPr6
import Derived.Test.YtjplgcmfifoefaaGreatDoorPr7
import Derived.Test.YtjplgcmfifoefaaGreatDoorPr8
import Derived.Test.YtjplgcmfifoefaaGreatDoorProg
import Derived.BigQuiet
import Derived.BigRegion
import Derived.ChangeKeysEq
import Derived.Deep.AppendLies
import Derived.Deep.CutRange
import Derived.Deep.DeepCutAuto
import Derived.Deep.DeepFit
import Derived.Deep.DeepMust
import Derived.Deep.Draws
import Derived.Deep.LoopGhost
import Derived.Deep.QuietTactic
import Derived.Deep.RegionHeld3
import Derived.Laws.BitsAllLaws
import Derived.Laws.BitsLemmas
import Derived.Laws.BytesString
import Derived.Laws.IdiomStrings
import Derived.Laws.OwnMore
import Derived.Laws.Rows
import Derived.Laws.StructEq
import Derived.Lib.AtoiAll
import Derived.Lib.Bytealg
import Derived.Lib.Hide
import Derived.Lib.IndexLaws
import Derived.Lib.ItoaLen
import Derived.Lib.ItoaNum
import Derived.Lib.Join
import Derived.Lib.MapLaws
import Derived.Lib.SmallJoins
import Derived.Lib.Strings
import Derived.Lib.TrimAscii
import Derived.Lib.TrimUEq
import Derived.Lib.Walk
import Derived.Maps.AppendAt
import Derived.Outline
import Derived.OwnWalk
import Derived.RegionTactic
import Derived.Shelf.Abstract
import Derived.Shelf.Bits.Mul64
import Derived.Shelf.LaysC
import Derived.Shelf.LaysM
import Derived.Shelf.Small.Strs
import Derived.Shelf.Small.Utf8
import Derived.Shelf.Strconv.Atoi
import Derived.Shelf.Strconv.AtoiAll
import Derived.Shelf.Strconv.AtoiErrFast
import Derived.Shelf.Strconv.AtoiFail
import Derived.Shelf.Strconv.AtoiInnerAll
import Derived.Shelf.Strconv.AtoiLong
import Derived.Shelf.Strconv.Clone
import Derived.Shelf.Strconv.Itoa0
import Derived.Shelf.Strconv.Itoa1
import Derived.Shelf.Strconv.Itoa2
import Derived.Shelf.Strconv.Itoa3
import Derived.Shelf.Strconv.Lower
import Derived.Shelf.Strconv.ParseInt10
import Derived.Shelf.Strconv.ParseIntEmpty
import Derived.Shelf.Strconv.ParseUint10
import Derived.Shelf.Strconv.ParseUint10Any
import Derived.Shelf.Strconv.ParseUint10Empty
import Derived.Shelf.Strconv.RangeError
import Derived.Shelf.Strconv.SyntaxError
import Derived.Shelf.Strconv.ToError
import Derived.Shelf.Strconv.ToErrorRange
import Derived.Shelf.Strings.AsciiSet
import Derived.Shelf.Strings.Builder1
import Derived.Shelf.Strings.Builder2
import Derived.Shelf.Strings.BuilderF
import Derived.Shelf.Strings.BuilderK
import Derived.Shelf.Strings.BuilderRune
import Derived.Shelf.Strings.OnBuilder
import Derived.Shelf.Strings.Prefix
import Derived.Shelf.Strings.Repeat
import Derived.Shelf.Strings.Runes
import Derived.Shelf.Strings.Search1
import Derived.Shelf.Strings.Trim
import Derived.Shelf.Unicode.Decode
import Derived.Shelf.Unicode.DecodeAny
import Derived.Shelf.Unicode.DecodeSlow
import Derived.StillTailTactics
import Derived.WalkKit
import Derived.WalkLawsBesides
import Derived.WalkSmall
import Derived.WalkSpells
namespace Go.Proofs.YtjplgcmfifoefaaGreatDoor
open Go.RowKit Go.Shelf Go.Maps
set_option linter.unusedVariables false
set_option linter.unusedSimpArgs false
attribute [local go_sem] Oper.semAt_some

/-- words, each with a blank ahead, as a text -/
def LB (ws : List Bs) : ByteArray := ⟨(lineW (ws.map quo)).toArray⟩
theorem LB_one (t : Bs) : (⟨#[32]⟩ : ByteArray) ++ ⟨(quo t).toArray⟩ = LB [t] := by
  rw [show (⟨#[32]⟩ : ByteArray) = ⟨([32] : Bs).toArray⟩ from rfl, bytes_cat]
  unfold LB
  simp [lineW]
theorem LB_snoc (ws : List Bs) (t : Bs) : LB ws ++ ⟨#[32]⟩ ++ ⟨(quo t).toArray⟩ = LB (ws ++ [t]) := by
  unfold LB
  rw [show (⟨#[32]⟩ : ByteArray) = ⟨([32] : Bs).toArray⟩ from rfl, bytes_cat, bytes_cat, List.map_append, lineW_app]
  simp [lineW]
theorem LB_size_one (t : Bs) : (LB [t]).size = 1 + (quo t).length := by
  rw [← LB_one, ByteArray.size_append]
  rfl
theorem LB_size_snoc (ws : List Bs) (t : Bs) : (LB (ws ++ [t])).size = (LB ws).size + 1 + (quo t).length := by
  rw [← LB_snoc, ByteArray.size_append, ByteArray.size_append]
  rfl
theorem JB_LB {w : Bs} (h : quo w = w) (ws : List Bs) : (⟨w.toArray⟩ : ByteArray) ++ LB ws = JB (w :: ws) := by
  unfold LB JB
  rw [bytes_cat]
  show _ = (⟨(quo w ++ lineW (ws.map quo)).toArray⟩ : ByteArray)
  rw [h]
theorem JB_app {ws : List Bs} (h : ws ≠ []) (us : List Bs) : JB ws ++ LB us = JB (ws ++ us) := by
  cases ws with
  | nil => exact absurd rfl h
  | cons a l =>
    unfold LB JB
    rw [bytes_cat]
    show (⟨(quo a ++ lineW (l.map quo) ++ lineW (us.map quo)).toArray⟩ : ByteArray) = ⟨(quo a ++ lineW ((l ++ us).map quo)).toArray⟩
    rw [List.map_append, lineW_app, List.append_assoc]
theorem wq_any (z : Int) (hz : i64z z) (W : World) : Calls Tryz.prog 22 #[.int .i64 z] W fun e w' => e = .returned (strV (quo (Lib.itoa z))) ∧ Below W.heap.size W w' := by
  have h := written_any z.natAbs z rfl hz W
  rw [← quo_itoa] at h
  exact h
theorem qi_len (z : Int) (hz : i64z z) : (quo (Lib.itoa z)).length ≤ 21 := by rw [quo_itoa]; exact Lib.itoa_length_le z hz.1 hz.2
theorem gs_load_al_at {ops : Array Oper} {S : Nat → GSpec} {Q : Exit → Act → World → Prop} {i : Nat} {o : Oper} {a : Act} {w : World} (hw : Region.wanted o (yielded ops a.tmps) = true) (x : Operand) (ho : o.op = .load 40 x) (b off : Nat) (hx : a.eval x = .pointer (some ⟨b, off, none⟩)) (y : AlV) (hr : RowAt w b off y.C)
    (hp : (S i).p (.agg y.C) w) : GStep Tryz.prog ops S Q i o a w :=
  gs_run hw (v := .agg y.C) (by unfold execOp; simp only [ho, hx, Instr.loadAt, Instr.sureAddr, Sem.run_bind, Sem.run_pure, Result.andThen_ok, run_loadVar_at w b off _ _ _ hr Tryz.underlying40 rfl (info_al.trans rfl)]) (Below.refl _ _) hp
theorem enter_place (args : Array Value) (w : World) : (callFunc 28 args).run Tryz.prog w = .ok (.enter 28 args) w := by kernel_rfl
theorem field_alx_0 (b off : Nat) (w : World) : (Instr.fieldAt 40 (.pointer (some ⟨b, off, none⟩)) 0).run Tryz.prog w = .ok (.pointer (some ⟨b, off, none⟩)) w := by kernel_rfl
theorem field_alx_1 (b off : Nat) (w : World) : (Instr.fieldAt 40 (.pointer (some ⟨b, off, none⟩)) 1).run Tryz.prog w = .ok (.pointer (some ⟨b, off + 1, none⟩)) w := by kernel_rfl
theorem field_alx_2 (b off : Nat) (w : World) : (Instr.fieldAt 40 (.pointer (some ⟨b, off, none⟩)) 2).run Tryz.prog w = .ok (.pointer (some ⟨b, off + 10, none⟩)) w := by kernel_rfl
theorem field_alx_3 (b off : Nat) (w : World) : (Instr.fieldAt 40 (.pointer (some ⟨b, off, none⟩)) 3).run Tryz.prog w = .ok (.pointer (some ⟨b, off + 11, none⟩)) w := by kernel_rfl
theorem field_mkx_0 (b off : Nat) (w : World) : (Instr.fieldAt 37 (.pointer (some ⟨b, off, none⟩)) 0).run Tryz.prog w = .ok (.pointer (some ⟨b, off, none⟩)) w := by kernel_rfl
theorem field_mkx_1 (b off : Nat) (w : World) : (Instr.fieldAt 37 (.pointer (some ⟨b, off, none⟩)) 1).run Tryz.prog w = .ok (.pointer (some ⟨b, off + 1, none⟩)) w := by kernel_rfl
theorem field_mkx_2 (b off : Nat) (w : World) : (Instr.fieldAt 37 (.pointer (some ⟨b, off, none⟩)) 2).run Tryz.prog w = .ok (.pointer (some ⟨b, off + 2, none⟩)) w := by kernel_rfl
theorem field_mkx_3 (b off : Nat) (w : World) : (Instr.fieldAt 37 (.pointer (some ⟨b, off, none⟩)) 3).run Tryz.prog w = .ok (.pointer (some ⟨b, off + 3, none⟩)) w := by kernel_rfl
theorem field_mkx_4 (b off : Nat) (w : World) : (Instr.fieldAt 37 (.pointer (some ⟨b, off, none⟩)) 4).run Tryz.prog w = .ok (.pointer (some ⟨b, off + 4, none⟩)) w := by kernel_rfl
theorem field_lsx_0 (b off : Nat) (w : World) : (Instr.fieldAt 35 (.pointer (some ⟨b, off, none⟩)) 0).run Tryz.prog w = .ok (.pointer (some ⟨b, off, none⟩)) w := by kernel_rfl
theorem field_lsx_1 (b off : Nat) (w : World) : (Instr.fieldAt 35 (.pointer (some ⟨b, off, none⟩)) 1).run Tryz.prog w = .ok (.pointer (some ⟨b, off + 1, none⟩)) w := by kernel_rfl
theorem field_lsx_2 (b off : Nat) (w : World) : (Instr.fieldAt 35 (.pointer (some ⟨b, off, none⟩)) 2).run Tryz.prog w = .ok (.pointer (some ⟨b, off + 2, none⟩)) w := by kernel_rfl
theorem field_lsx_3 (b off : Nat) (w : World) : (Instr.fieldAt 35 (.pointer (some ⟨b, off, none⟩)) 3).run Tryz.prog w = .ok (.pointer (some ⟨b, off + 3, none⟩)) w := by kernel_rfl
theorem field_lsx_4 (b off : Nat) (w : World) : (Instr.fieldAt 35 (.pointer (some ⟨b, off, none⟩)) 4).run Tryz.prog w = .ok (.pointer (some ⟨b, off + 4, none⟩)) w := by kernel_rfl
theorem field_ntx_1 (b off : Nat) (w : World) : (Instr.fieldAt 43 (.pointer (some ⟨b, off, none⟩)) 1).run Tryz.prog w = .ok (.pointer (some ⟨b, off + 1, none⟩)) w := by kernel_rfl
theorem field_ntx_2 (b off : Nat) (w : World) : (Instr.fieldAt 43 (.pointer (some ⟨b, off, none⟩)) 2).run Tryz.prog w = .ok (.pointer (some ⟨b, off + 13, none⟩)) w := by kernel_rfl
theorem field_ntx_3 (b off : Nat) (w : World) : (Instr.fieldAt 43 (.pointer (some ⟨b, off, none⟩)) 3).run Tryz.prog w = .ok (.pointer (some ⟨b, off + 14, none⟩)) w := by kernel_rfl
/-- the words of an alert's place -/
def placeW (a : AlV) : List Bs := [Lib.itoa a.path, Lib.itoa a.mark.serial, Lib.itoa a.mark.inode, Lib.itoa a.mark.gen, Lib.itoa a.mark.off]
set_option maxRecDepth 100000 in
set_option maxHeartbeats 4000000 in
theorem place_any (a : AlV) (ha : AlOk a) (w : World) : Calls Tryz.prog 28 #[.agg a.C] w fun e w' => e = .returned (.string (LB (placeW a))) ∧ Below w.heap.size w w' := by
  go_enter Tryz.func28, Tryz.ntmps28
  go_upto_region 1 with (fail)
  have hb : Blk (w.alloc (.cells a.C 40)) w.heap.size 40 a.C := Blk.new w _ _
  have hBw := below_alloc (Below.refl w.heap.size w) (.cells a.C 40)
  obtain ⟨w1, hw1⟩ : ∃ y, y = w.alloc (.cells a.C 40) := ⟨_, rfl⟩
  rw [← hw1] at hb hBw ⊢
  clear hw1
  obtain ⟨gA, hgA⟩ : ∃ y, y = w.heap.size := ⟨_, rfl⟩
  rw [← hgA] at hb ⊢
  replace hgA := Lib.hid hgA
  have hs1 : (LB [(Lib.itoa a.path)]).size ≤ 22 := by have h1 := LB_size_one (Lib.itoa a.path); have h2 := qi_len a.path ha.path; omega
  have hs2 : (LB ([(Lib.itoa a.path)] ++ [(Lib.itoa a.mark.serial)])).size ≤ 44 := by have h1 := LB_size_snoc [(Lib.itoa a.path)] (Lib.itoa a.mark.serial); have h2 := qi_len a.mark.serial ha.mark.1; omega
  have hs3 : (LB (([(Lib.itoa a.path)] ++ [(Lib.itoa a.mark.serial)]) ++ [(Lib.itoa a.mark.inode)])).size ≤ 66 := by have h1 := LB_size_snoc ([(Lib.itoa a.path)] ++ [(Lib.itoa a.mark.serial)]) (Lib.itoa a.mark.inode); have h2 := qi_len a.mark.inode ha.mark.2.1; omega
  have hs4 : (LB ((([(Lib.itoa a.path)] ++ [(Lib.itoa a.mark.serial)]) ++ [(Lib.itoa a.mark.inode)]) ++ [(Lib.itoa a.mark.gen)])).size ≤ 88 := by have h1 := LB_size_snoc (([(Lib.itoa a.path)] ++ [(Lib.itoa a.mark.serial)]) ++ [(Lib.itoa a.mark.inode)]) (Lib.itoa a.mark.gen); have h2 := qi_len a.mark.gen ha.mark.2.2.1; omega
  have hs5 : (LB (((([(Lib.itoa a.path)] ++ [(Lib.itoa a.mark.serial)]) ++ [(Lib.itoa a.mark.inode)]) ++ [(Lib.itoa a.mark.gen)]) ++ [(Lib.itoa a.mark.off)])).size ≤ 110 := by have h1 := LB_size_snoc ((([(Lib.itoa a.path)] ++ [(Lib.itoa a.mark.serial)]) ++ [(Lib.itoa a.mark.inode)]) ++ [(Lib.itoa a.mark.gen)]) (Lib.itoa a.mark.off); have h2 := qi_len a.mark.off ha.mark.2.2.2.1; omega
  refine wp_region_steps 29 [eqS (.pointer (some ⟨gA, 0, none⟩)), eqS (.int .i64 (a.path)), eqS (.string ⟨(quo (Lib.itoa a.path)).toArray⟩), eqS (.string (LB [(Lib.itoa a.path)])), eqS (.string ((LB [(Lib.itoa a.path)]) ++ (⟨#[32]⟩ : ByteArray))), eqS (.pointer (some ⟨gA, 1, none⟩)), eqS (.pointer (some ⟨gA, 1, none⟩)), eqS (.int .i64 (a.mark.serial)), eqS (.string ⟨(quo (Lib.itoa a.mark.serial)).toArray⟩), eqS (.string (LB ([(Lib.itoa a.path)] ++ [(Lib.itoa a.mark.serial)]))), eqS (.string ((LB ([(Lib.itoa a.path)] ++ [(Lib.itoa a.mark.serial)])) ++ (⟨#[32]⟩ : ByteArray))), eqS (.pointer (some ⟨gA, 1, none⟩)), eqS (.pointer (some ⟨gA, 2, none⟩)), eqS (.int .i64 (a.mark.inode)), eqS (.string ⟨(quo (Lib.itoa a.mark.inode)).toArray⟩), eqS (.string (LB (([(Lib.itoa a.path)] ++ [(Lib.itoa a.mark.serial)]) ++ [(Lib.itoa a.mark.inode)]))), eqS (.string ((LB (([(Lib.itoa a.path)] ++ [(Lib.itoa a.mark.serial)]) ++ [(Lib.itoa a.mark.inode)])) ++ (⟨#[32]⟩ : ByteArray))), eqS (.pointer (some ⟨gA, 1, none⟩)), eqS (.pointer (some ⟨gA, 3, none⟩)), eqS (.int .i64 (a.mark.gen)), eqS (.string ⟨(quo (Lib.itoa a.mark.gen)).toArray⟩), eqS (.string (LB ((([(Lib.itoa a.path)] ++ [(Lib.itoa a.mark.serial)]) ++ [(Lib.itoa a.mark.inode)]) ++ [(Lib.itoa a.mark.gen)]))), eqS (.string ((LB ((([(Lib.itoa a.path)] ++ [(Lib.itoa a.mark.serial)]) ++ [(Lib.itoa a.mark.inode)]) ++ [(Lib.itoa a.mark.gen)])) ++ (⟨#[32]⟩ : ByteArray))), eqS (.pointer (some ⟨gA, 1, none⟩)), eqS (.pointer (some ⟨gA, 4, none⟩)), eqS (.int .i64 (a.mark.off)), eqS (.string ⟨(quo (Lib.itoa a.mark.off)).toArray⟩), eqS (.string (LB (((([(Lib.itoa a.path)] ++ [(Lib.itoa a.mark.serial)]) ++ [(Lib.itoa a.mark.inode)]) ++ [(Lib.itoa a.mark.gen)]) ++ [(Lib.itoa a.mark.off)]))), eqS (.string (LB (((([(Lib.itoa a.path)] ++ [(Lib.itoa a.mark.serial)]) ++ [(Lib.itoa a.mark.inode)]) ++ [(Lib.itoa a.mark.gen)]) ++ [(Lib.itoa a.mark.off)])))] [3, 4, 5, 6, 7, 8, 9, 10, 11, 12, 13, 14, 15, 16, 17, 18, 19, 20, 21, 22, 23, 24, 25, 26, 27, 28, 29, 30, 2] (by kernel_rfl) (by kernel_rfl) (by kernel_rfl) ?_ ?_
  · skip
    refine Steps.cons (fun a' w' hG hB dep => gs_field (want_none rfl) _ _ _ rfl gA (0) (0) (hG.other 1 rfl) (fun wz => field_alx_0 gA (0) wz) rfl) ?_
    refine Steps.cons (fun a' w' hG hB dep => gs_load1 (want_none rfl) _ _ rfl gA (0) (dep 0 rfl 3 rfl) (.int .i64 (a.path)) ((blk_then hb hB).cellv (i := 0) rfl) _ Tryz.underlying3 rfl rfl) ?_
    refine Steps.cons (fun a' w' hG hB dep => gs_call (want_none rfl) _ _ _ rfl enter_written _ (map1 (dep 1 rfl 4 rfl)) ((wq_any a.path ha.path _).mono fun e w2 ⟨hq9, hb9⟩ => ⟨_, hq9, hb9, rfl⟩)) ?_
    refine Steps.cons (fun a' w' hG hB dep => gs_cat2 (want_none rfl) _ _ _ _ rfl (⟨#[32]⟩ : ByteArray) ⟨(quo (Lib.itoa a.path)).toArray⟩ rfl (dep 2 rfl 5 rfl) (by show 1 + (quo (Lib.itoa a.path)).length ≤ _; have h2 := qi_len a.path ha.path; omega) (LB [(Lib.itoa a.path)]) (LB_one _) rfl) ?_
    refine Steps.cons (fun a' w' hG hB dep => gs_cat (want_none rfl) _ _ _ _ rfl (LB [(Lib.itoa a.path)]) (⟨#[32]⟩ : ByteArray) (dep 3 rfl 6 rfl) rfl (by show ((LB [(Lib.itoa a.path)])).size + 1 ≤ _; omega) rfl) ?_
    refine Steps.cons (fun a' w' hG hB dep => gs_field (want_none rfl) _ _ _ rfl gA (0) (1) (hG.other 1 rfl) (fun wz => field_alx_1 gA (0) wz) rfl) ?_
    refine Steps.cons (fun a' w' hG hB dep => gs_field (want_none rfl) _ _ _ rfl gA (1) (1) (dep 5 rfl 8 rfl) (fun wz => field_mkx_0 gA (1) wz) rfl) ?_
    refine Steps.cons (fun a' w' hG hB dep => gs_load1 (want_none rfl) _ _ rfl gA (1) (dep 6 rfl 9 rfl) (.int .i64 (a.mark.serial)) ((blk_then hb hB).cellv (i := 1) rfl) _ Tryz.underlying3 rfl rfl) ?_
    refine Steps.cons (fun a' w' hG hB dep => gs_call (want_none rfl) _ _ _ rfl enter_written _ (map1 (dep 7 rfl 10 rfl)) ((wq_any a.mark.serial ha.mark.1 _).mono fun e w2 ⟨hq9, hb9⟩ => ⟨_, hq9, hb9, rfl⟩)) ?_
    refine Steps.cons (fun a' w' hG hB dep => gs_cat2 (want_none rfl) _ _ _ _ rfl ((LB [(Lib.itoa a.path)]) ++ (⟨#[32]⟩ : ByteArray)) ⟨(quo (Lib.itoa a.mark.serial)).toArray⟩ (dep 4 rfl 7 rfl) (dep 8 rfl 11 rfl) (by rw [ByteArray.size_append]; show (LB [(Lib.itoa a.path)]).size + 1 + (quo (Lib.itoa a.mark.serial)).length ≤ _; have h2 := qi_len a.mark.serial ha.mark.1; omega) (LB ([(Lib.itoa a.path)] ++ [(Lib.itoa a.mark.serial)])) (LB_snoc [(Lib.itoa a.path)] _) rfl) ?_
    refine Steps.cons (fun a' w' hG hB dep => gs_cat (want_none rfl) _ _ _ _ rfl (LB ([(Lib.itoa a.path)] ++ [(Lib.itoa a.mark.serial)])) (⟨#[32]⟩ : ByteArray) (dep 9 rfl 12 rfl) rfl (by show ((LB ([(Lib.itoa a.path)] ++ [(Lib.itoa a.mark.serial)]))).size + 1 ≤ _; omega) rfl) ?_
    refine Steps.cons (fun a' w' hG hB dep => gs_field (want_none rfl) _ _ _ rfl gA (0) (1) (hG.other 1 rfl) (fun wz => field_alx_1 gA (0) wz) rfl) ?_
    refine Steps.cons (fun a' w' hG hB dep => gs_field (want_none rfl) _ _ _ rfl gA (1) (2) (dep 11 rfl 14 rfl) (fun wz => field_mkx_1 gA (1) wz) rfl) ?_
    refine Steps.cons (fun a' w' hG hB dep => gs_load1 (want_none rfl) _ _ rfl gA (2) (dep 12 rfl 15 rfl) (.int .i64 (a.mark.inode)) ((blk_then hb hB).cellv (i := 2) rfl) _ Tryz.underlying3 rfl rfl) ?_
    refine Steps.cons (fun a' w' hG hB dep => gs_call (want_none rfl) _ _ _ rfl enter_written _ (map1 (dep 13 rfl 16 rfl)) ((wq_any a.mark.inode ha.mark.2.1 _).mono fun e w2 ⟨hq9, hb9⟩ => ⟨_, hq9, hb9, rfl⟩)) ?_
    refine Steps.cons (fun a' w' hG hB dep => gs_cat2 (want_none rfl) _ _ _ _ rfl ((LB ([(Lib.itoa a.path)] ++ [(Lib.itoa a.mark.serial)])) ++ (⟨#[32]⟩ : ByteArray)) ⟨(quo (Lib.itoa a.mark.inode)).toArray⟩ (dep 10 rfl 13 rfl) (dep 14 rfl 17 rfl) (by rw [ByteArray.size_append]; show (LB ([(Lib.itoa a.path)] ++ [(Lib.itoa a.mark.serial)])).size + 1 + (quo (Lib.itoa a.mark.inode)).length ≤ _; have h2 := qi_len a.mark.inode ha.mark.2.1; omega) (LB (([(Lib.itoa a.path)] ++ [(Lib.itoa a.mark.serial)]) ++ [(Lib.itoa a.mark.inode)])) (LB_snoc ([(Lib.itoa a.path)] ++ [(Lib.itoa a.mark.serial)]) _) rfl) ?_
    refine Steps.cons (fun a' w' hG hB dep => gs_cat (want_none rfl) _ _ _ _ rfl (LB (([(Lib.itoa a.path)] ++ [(Lib.itoa a.mark.serial)]) ++ [(Lib.itoa a.mark.inode)])) (⟨#[32]⟩ : ByteArray) (dep 15 rfl 18 rfl) rfl (by show ((LB (([(Lib.itoa a.path)] ++ [(Lib.itoa a.mark.serial)]) ++ [(Lib.itoa a.mark.inode)]))).size + 1 ≤ _; omega) rfl) ?_
    refine Steps.cons (fun a' w' hG hB dep => gs_field (want_none rfl) _ _ _ rfl gA (0) (1) (hG.other 1 rfl) (fun wz => field_alx_1 gA (0) wz) rfl) ?_
    refine Steps.cons (fun a' w' hG hB dep => gs_field (want_none rfl) _ _ _ rfl gA (1) (3) (dep 17 rfl 20 rfl) (fun wz => field_mkx_2 gA (1) wz) rfl) ?_
    refine Steps.cons (fun a' w' hG hB dep => gs_load1 (want_none rfl) _ _ rfl gA (3) (dep 18 rfl 21 rfl) (.int .i64 (a.mark.gen)) ((blk_then hb hB).cellv (i := 3) rfl) _ Tryz.underlying3 rfl rfl) ?_
    refine Steps.cons (fun a' w' hG hB dep => gs_call (want_none rfl) _ _ _ rfl enter_written _ (map1 (dep 19 rfl 22 rfl)) ((wq_any a.mark.gen ha.mark.2.2.1 _).mono fun e w2 ⟨hq9, hb9⟩ => ⟨_, hq9, hb9, rfl⟩)) ?_
    refine Steps.cons (fun a' w' hG hB dep => gs_cat2 (want_none rfl) _ _ _ _ rfl ((LB (([(Lib.itoa a.path)] ++ [(Lib.itoa a.mark.serial)]) ++ [(Lib.itoa a.mark.inode)])) ++ (⟨#[32]⟩ : ByteArray)) ⟨(quo (Lib.itoa a.mark.gen)).toArray⟩ (dep 16 rfl 19 rfl) (dep 20 rfl 23 rfl) (by rw [ByteArray.size_append]; show (LB (([(Lib.itoa a.path)] ++ [(Lib.itoa a.mark.serial)]) ++ [(Lib.itoa a.mark.inode)])).size + 1 + (quo (Lib.itoa a.mark.gen)).length ≤ _; have h2 := qi_len a.mark.gen ha.mark.2.2.1; omega) (LB ((([(Lib.itoa a.path)] ++ [(Lib.itoa a.mark.serial)]) ++ [(Lib.itoa a.mark.inode)]) ++ [(Lib.itoa a.mark.gen)])) (LB_snoc (([(Lib.itoa a.path)] ++ [(Lib.itoa a.mark.serial)]) ++ [(Lib.itoa a.mark.inode)]) _) rfl) ?_
    refine Steps.cons (fun a' w' hG hB dep => gs_cat (want_none rfl) _ _ _ _ rfl (LB ((([(Lib.itoa a.path)] ++ [(Lib.itoa a.mark.serial)]) ++ [(Lib.itoa a.mark.inode)]) ++ [(Lib.itoa a.mark.gen)])) (⟨#[32]⟩ : ByteArray) (dep 21 rfl 24 rfl) rfl (by show ((LB ((([(Lib.itoa a.path)] ++ [(Lib.itoa a.mark.serial)]) ++ [(Lib.itoa a.mark.inode)]) ++ [(Lib.itoa a.mark.gen)]))).size + 1 ≤ _; omega) rfl) ?_
    refine Steps.cons (fun a' w' hG hB dep => gs_field (want_none rfl) _ _ _ rfl gA (0) (1) (hG.other 1 rfl) (fun wz => field_alx_1 gA (0) wz) rfl) ?_
    refine Steps.cons (fun a' w' hG hB dep => gs_field (want_none rfl) _ _ _ rfl gA (1) (4) (dep 23 rfl 26 rfl) (fun wz => field_mkx_3 gA (1) wz) rfl) ?_
    refine Steps.cons (fun a' w' hG hB dep => gs_load1 (want_none rfl) _ _ rfl gA (4) (dep 24 rfl 27 rfl) (.int .i64 (a.mark.off)) ((blk_then hb hB).cellv (i := 4) rfl) _ Tryz.underlying3 rfl rfl) ?_
    refine Steps.cons (fun a' w' hG hB dep => gs_call (want_none rfl) _ _ _ rfl enter_written _ (map1 (dep 25 rfl 28 rfl)) ((wq_any a.mark.off ha.mark.2.2.2.1 _).mono fun e w2 ⟨hq9, hb9⟩ => ⟨_, hq9, hb9, rfl⟩)) ?_
    refine Steps.cons (fun a' w' hG hB dep => gs_cat2 (want_none rfl) _ _ _ _ rfl ((LB ((([(Lib.itoa a.path)] ++ [(Lib.itoa a.mark.serial)]) ++ [(Lib.itoa a.mark.inode)]) ++ [(Lib.itoa a.mark.gen)])) ++ (⟨#[32]⟩ : ByteArray)) ⟨(quo (Lib.itoa a.mark.off)).toArray⟩ (dep 22 rfl 25 rfl) (dep 26 rfl 29 rfl) (by rw [ByteArray.size_append]; show (LB ((([(Lib.itoa a.path)] ++ [(Lib.itoa a.mark.serial)]) ++ [(Lib.itoa a.mark.inode)]) ++ [(Lib.itoa a.mark.gen)])).size + 1 + (quo (Lib.itoa a.mark.off)).length ≤ _; have h2 := qi_len a.mark.off ha.mark.2.2.2.1; omega) (LB (((([(Lib.itoa a.path)] ++ [(Lib.itoa a.mark.serial)]) ++ [(Lib.itoa a.mark.inode)]) ++ [(Lib.itoa a.mark.gen)]) ++ [(Lib.itoa a.mark.off)])) (LB_snoc ((([(Lib.itoa a.path)] ++ [(Lib.itoa a.mark.serial)]) ++ [(Lib.itoa a.mark.inode)]) ++ [(Lib.itoa a.mark.gen)]) _) rfl) ?_
    refine Steps.cons (fun a' w' hG hB dep => gs_assign (want_none rfl) _ rfl (id (dep 27 rfl 30 rfl))) ?_
    exact Steps.nil
  intro u w2 hw2 ans
  have hus2 : u 2 = (.string (LB (((([(Lib.itoa a.path)] ++ [(Lib.itoa a.mark.serial)]) ++ [(Lib.itoa a.mark.inode)]) ++ [(Lib.itoa a.mark.gen)]) ++ [(Lib.itoa a.mark.off)]))) := ans 28 2 (by decide) rfl
  clear ans
  simp only [putAll, List.foldl_cons, List.foldl_nil, Act.put, List.setIfInBounds_toArray, List.set_cons_zero, List.set_cons_succ, hus2]
  clear hus2
  simp only [List.drop]
  refine wpList_nil ?_
  go_wp2_with (fail)
  go_ret
  exact ⟨rfl, hBw.trans (hw2.mono hBw.size)⟩
theorem placeW_size (a : AlV) (ha : AlOk a) : (LB (placeW a)).size ≤ 110 := by
  have hs1 : (LB [(Lib.itoa a.path)]).size ≤ 22 := by have h1 := LB_size_one (Lib.itoa a.path); have h2 := qi_len a.path ha.path; omega
  have hs2 : (LB ([(Lib.itoa a.path)] ++ [(Lib.itoa a.mark.serial)])).size ≤ 44 := by have h1 := LB_size_snoc [(Lib.itoa a.path)] (Lib.itoa a.mark.serial); have h2 := qi_len a.mark.serial ha.mark.1; omega
  have hs3 : (LB (([(Lib.itoa a.path)] ++ [(Lib.itoa a.mark.serial)]) ++ [(Lib.itoa a.mark.inode)])).size ≤ 66 := by have h1 := LB_size_snoc ([(Lib.itoa a.path)] ++ [(Lib.itoa a.mark.serial)]) (Lib.itoa a.mark.inode); have h2 := qi_len a.mark.inode ha.mark.2.1; omega
  have hs4 : (LB ((([(Lib.itoa a.path)] ++ [(Lib.itoa a.mark.serial)]) ++ [(Lib.itoa a.mark.inode)]) ++ [(Lib.itoa a.mark.gen)])).size ≤ 88 := by have h1 := LB_size_snoc (([(Lib.itoa a.path)] ++ [(Lib.itoa a.mark.serial)]) ++ [(Lib.itoa a.mark.inode)]) (Lib.itoa a.mark.gen); have h2 := qi_len a.mark.gen ha.mark.2.2.1; omega
  have hs5 : (LB (((([(Lib.itoa a.path)] ++ [(Lib.itoa a.mark.serial)]) ++ [(Lib.itoa a.mark.inode)]) ++ [(Lib.itoa a.mark.gen)]) ++ [(Lib.itoa a.mark.off)])).size ≤ 110 := by have h1 := LB_size_snoc ((([(Lib.itoa a.path)] ++ [(Lib.itoa a.mark.serial)]) ++ [(Lib.itoa a.mark.inode)]) ++ [(Lib.itoa a.mark.gen)]) (Lib.itoa a.mark.off); have h2 := qi_len a.mark.off ha.mark.2.2.2.1; omega
  exact hs5
set_option maxRecDepth 100000 in
set_option maxHeartbeats 16000000 in
theorem rtell_any (x : NtV) (ms : List MkV) (w : World) (hx : NtOk w x ms) :
    Calls Tryz.prog 13 #[.agg x.C] w fun e w' => e = .returned (.string (JB (tellT x.kind x.al x.attempt ms))) ∧ Below w.heap.size w w' := by
  obtain ⟨V, hV⟩ : ∃ V, (.string (JB (tellT x.kind x.al x.attempt ms)) : Value) = V := ⟨_, rfl⟩
  rw [hV]
  replace hV := Lib.hid hV
  have hru : i64z (x.al.rules : Int) := by have := hx.al.rules; unfold i64z; omega
  go_enter Tryz.func13, Tryz.ntmps13
  go_upto_region 1 with (fail)
  have hb : Blk (w.alloc (.cells x.C 43)) w.heap.size 43 x.C := Blk.new w _ _
  have hBw := below_alloc (Below.refl w.heap.size w) (.cells x.C 43)
  obtain ⟨w1, hw1⟩ : ∃ y, y = w.alloc (.cells x.C 43) := ⟨_, rfl⟩
  rw [← hw1] at hb hBw ⊢
  clear hw1
  obtain ⟨gN, hgN⟩ : ∃ y, y = w.heap.size := ⟨_, rfl⟩
  have hslg : SliceOf w gN 9 MkV.C x.A ms := by rw [hgN]; exact hx.sl
  rw [← hgN] at hb hBw ⊢
  replace hgN := Lib.hid hgN
  have htx := hx.al.text
  have htl : (tl x.al.text).length = x.al.text.size := by simp [tl]
  have hs1 : (LB [(Lib.itoa (x.al.rules : Int))]).size ≤ 22 := by have h1 := LB_size_one (Lib.itoa (x.al.rules : Int)); have h2 := qi_len (x.al.rules : Int) hru; omega
  have hs2 : (LB ([(Lib.itoa (x.al.rules : Int))] ++ [(tl x.al.text)])).size ≤ 4194332 := by have h1 := LB_size_snoc [(Lib.itoa (x.al.rules : Int))] (tl x.al.text); have h2 := quo_len (tl x.al.text); omega
  refine wp_region_steps 13 [eqS (.pointer (some ⟨gN, 1, none⟩)), eqS (.pointer (some ⟨gN, 12, none⟩)), eqS (.int .u32 ((x.al.rules : Int))), eqS (.int .i64 ((x.al.rules : Int))), eqS (.string ⟨(quo (Lib.itoa (x.al.rules : Int))).toArray⟩), eqS (.string (LB [(Lib.itoa (x.al.rules : Int))])), eqS (.string ((LB [(Lib.itoa (x.al.rules : Int))]) ++ (⟨#[32]⟩ : ByteArray))), eqS (.pointer (some ⟨gN, 1, none⟩)), eqS (.pointer (some ⟨gN, 11, none⟩)), eqS (.string x.al.text), eqS (.string ⟨(quo (tl x.al.text)).toArray⟩), eqS (.string (LB ([(Lib.itoa (x.al.rules : Int))] ++ [(tl x.al.text)]))), eqS (.string (LB ([(Lib.itoa (x.al.rules : Int))] ++ [(tl x.al.text)])))] [7, 8, 9, 10, 11, 12, 13, 14, 15, 16, 17, 18, 3] (by kernel_rfl) (by kernel_rfl) (by kernel_rfl) ?_ ?_
  · skip
    refine Steps.cons (fun a' w' hG hB dep => gs_field (want_none rfl) _ _ _ rfl gN (0) (1) (hG.other 1 rfl) (fun wz => field_ntx_1 gN (0) wz) rfl) ?_
    refine Steps.cons (fun a' w' hG hB dep => gs_field (want_none rfl) _ _ _ rfl gN (1) (12) (dep 0 rfl 7 rfl) (fun wz => field_alx_3 gN (1) wz) rfl) ?_
    refine Steps.cons (fun a' w' hG hB dep => gs_load1 (want_none rfl) _ _ rfl gN (12) (dep 1 rfl 8 rfl) (.int .u32 ((x.al.rules : Int))) ((blk_then hb hB).cellv (i := 12) rfl) _ Tryz.underlying38 rfl rfl) ?_
    refine Steps.cons (fun a' w' hG hB dep => gs_conv32 (want_none rfl) _ rfl (x.al.rules : Int) (by omega) (by have := hx.al.rules; omega) (dep 2 rfl 9 rfl) rfl) ?_
    refine Steps.cons (fun a' w' hG hB dep => gs_call (want_none rfl) _ _ _ rfl enter_written _ (map1 (dep 3 rfl 10 rfl)) ((wq_any (x.al.rules : Int) hru _).mono fun e w2 ⟨hq9, hb9⟩ => ⟨_, hq9, hb9, rfl⟩)) ?_
    refine Steps.cons (fun a' w' hG hB dep => gs_cat2 (want_none rfl) _ _ _ _ rfl (⟨#[32]⟩ : ByteArray) ⟨(quo (Lib.itoa (x.al.rules : Int))).toArray⟩ rfl (dep 4 rfl 11 rfl) (by show 1 + (quo (Lib.itoa (x.al.rules : Int))).length ≤ _; have h2 := qi_len (x.al.rules : Int) hru; omega) (LB [(Lib.itoa (x.al.rules : Int))]) (LB_one _) rfl) ?_
    refine Steps.cons (fun a' w' hG hB dep => gs_cat (want_none rfl) _ _ _ _ rfl (LB [(Lib.itoa (x.al.rules : Int))]) (⟨#[32]⟩ : ByteArray) (dep 5 rfl 12 rfl) rfl (by show ((LB [(Lib.itoa (x.al.rules : Int))])).size + 1 ≤ _; omega) rfl) ?_
    refine Steps.cons (fun a' w' hG hB dep => gs_field (want_none rfl) _ _ _ rfl gN (0) (1) (hG.other 1 rfl) (fun wz => field_ntx_1 gN (0) wz) rfl) ?_
    refine Steps.cons (fun a' w' hG hB dep => gs_field (want_none rfl) _ _ _ rfl gN (1) (11) (dep 7 rfl 14 rfl) (fun wz => field_alx_2 gN (1) wz) rfl) ?_
    refine Steps.cons (fun a' w' hG hB dep => gs_load1 (want_none rfl) _ _ rfl gN (11) (dep 8 rfl 15 rfl) (.string x.al.text) ((blk_then hb hB).cellv (i := 11) rfl) _ Tryz.underlying9 rfl rfl) ?_
    refine Steps.cons (fun a' w' hG hB dep => gs_call (want_none rfl) _ _ _ rfl enter_rquote _ (map1 (dep 9 rfl 16 rfl)) ((rquote_any x.al.text (by have := hx.al.text; omega) _).mono fun e w2 ⟨hq9, hb9⟩ => ⟨_, hq9, hb9, rfl⟩)) ?_
    refine Steps.cons (fun a' w' hG hB dep => gs_cat2 (want_none rfl) _ _ _ _ rfl ((LB [(Lib.itoa (x.al.rules : Int))]) ++ (⟨#[32]⟩ : ByteArray)) ⟨(quo (tl x.al.text)).toArray⟩ (dep 6 rfl 13 rfl) (dep 10 rfl 17 rfl) (by rw [ByteArray.size_append]; show (LB [(Lib.itoa (x.al.rules : Int))]).size + 1 + (quo (tl x.al.text)).length ≤ _; have h2 := quo_len (tl x.al.text); omega) (LB ([(Lib.itoa (x.al.rules : Int))] ++ [(tl x.al.text)])) (LB_snoc [(Lib.itoa (x.al.rules : Int))] _) rfl) ?_
    refine Steps.cons (fun a' w' hG hB dep => gs_assign (want_none rfl) _ rfl (id (dep 11 rfl 18 rfl))) ?_
    exact Steps.nil
  intro u w2 hw2 ans
  have hus3 : u 3 = (.string (LB ([(Lib.itoa (x.al.rules : Int))] ++ [(tl x.al.text)]))) := ans 12 3 (by decide) rfl
  clear ans
  simp only [putAll, List.foldl_cons, List.foldl_nil, Act.put, List.setIfInBounds_toArray, List.set_cons_zero, List.set_cons_succ, hus3]
  clear hus3
  simp only [List.drop]
  refine wpList_nil ?_
  obtain ⟨TW, hTW⟩ : ∃ TW : List Bs, TW = [Lib.itoa (x.al.rules : Int), tl x.al.text] := ⟨_, rfl⟩
  rw [show (LB ([(Lib.itoa (x.al.rules : Int))] ++ [(tl x.al.text)])) = LB TW from by rw [hTW]; rfl]
  have hTsz : Hid ((LB TW).size ≤ 4194400) := Lib.hid (by rw [hTW]; have h9 : (LB [Lib.itoa (x.al.rules : Int), tl x.al.text]).size ≤ 4194332 := hs2; omega)
  have hb2 := blk_then hb hw2
  have hBw2 := hBw.trans (hw2.mono (Nat.le_of_lt hb.lt))
  subst hTW
  obtain ⟨TW, hTW⟩ : ∃ TW : List Bs, [Lib.itoa (x.al.rules : Int), tl x.al.text] = TW := ⟨_, rfl⟩
  rw [hTW] at hTsz ⊢
  clear hb hBw hw2 htl
  have hb := hb2
  have hBw := hBw2
  have cK : w2.cell? ⟨gN, 0, none⟩ = some (.int .i64 x.kind) := hb.cellv rfl
  have hmk := Lib.hid hx.mks
  have hml := Lib.hid hx.len
  have hfew := hx.few
  have hTWH := Lib.hid hTW
  clear hb2 hBw2 hs1 hs2 htx hTW
  by_cases hk1 : x.kind = 1
  · rw [hk1] at cK
    have hv : Hid (V = .string (JB (((sentW :: placeW x.al) ++ [(Lib.itoa x.attempt)]) ++ TW))) := Lib.hid (by rw [← hV.out]; unfold tellT; rw [if_pos hk1, ← hTWH.out]; unfold textsA placeW; simp)
    clear  hk1
    go_upto_region 4 with (fail)
    have hTs := hTsz.out
    have hP := placeW_size x.al hx.al
    have hP4 : (JB (sentW :: placeW x.al)).size ≤ 114 := by
      rw [← JB_LB (w := sentW) (by decide), ByteArray.size_append]
      show 4 + _ ≤ _
      omega
    have hs1 : (JB ((sentW :: placeW x.al) ++ [(Lib.itoa x.attempt)])).size ≤ 136 := by have h1 := JB_snoc_size (ws := (sentW :: placeW x.al)) (by simp) (Lib.itoa x.attempt); have h2 := qi_len x.attempt hx.att; omega
    refine wp_region_steps 12 [eqS (.pointer (some ⟨gN, 1, none⟩)), eqS (.agg x.al.C), eqS (.string (LB (placeW x.al))), eqS (.string (JB (sentW :: placeW x.al))), eqS (.string ((JB (sentW :: placeW x.al)) ++ (⟨#[32]⟩ : ByteArray))), eqS (.pointer (some ⟨gN, 13, none⟩)), eqS (.int .i64 (x.attempt)), eqS (.string ⟨(quo (Lib.itoa x.attempt)).toArray⟩), eqS (.string (JB ((sentW :: placeW x.al) ++ [(Lib.itoa x.attempt)]))), eqS (.string (LB TW)), eqS (.string (JB (((sentW :: placeW x.al) ++ [(Lib.itoa x.attempt)]) ++ TW))), eqS (.string (JB (((sentW :: placeW x.al) ++ [(Lib.itoa x.attempt)]) ++ TW)))] [23, 24, 25, 26, 27, 28, 29, 30, 31, 32, 33, 2] (by kernel_rfl) (by kernel_rfl) (by kernel_rfl) ?_ ?_
    · skip
      refine Steps.cons (fun a' w' hG hB dep => gs_field (want_none rfl) _ _ _ rfl gN (0) (1) (hG.other 1 rfl) (fun wz => field_ntx_1 gN (0) wz) rfl) ?_
      refine Steps.cons (fun a' w' hG hB dep => gs_load_al_at (want_none rfl) _ rfl gN 1 (dep 0 rfl 23 rfl) _ (row_alert (blk_then hb hB)) rfl) ?_
      refine Steps.cons (fun a' w' hG hB dep => gs_call (want_none rfl) _ _ _ rfl enter_place _ (map1 (dep 1 rfl 24 rfl)) ((place_any x.al hx.al _).mono fun e w2 ⟨hq9, hb9⟩ => ⟨_, hq9, hb9, rfl⟩)) ?_
      refine Steps.cons (fun a' w' hG hB dep => gs_cat2 (want_none rfl) _ _ _ _ rfl (⟨#[115, 101, 110, 116]⟩ : ByteArray) (LB (placeW x.al)) rfl (dep 2 rfl 25 rfl) (by show 4 + (LB (placeW x.al)).size ≤ _; omega) (JB (sentW :: placeW x.al)) (JB_LB (w := sentW) (by decide) _) rfl) ?_
      refine Steps.cons (fun a' w' hG hB dep => gs_cat (want_none rfl) _ _ _ _ rfl (JB (sentW :: placeW x.al)) (⟨#[32]⟩ : ByteArray) (dep 3 rfl 26 rfl) rfl (by show ((JB (sentW :: placeW x.al))).size + 1 ≤ _; omega) rfl) ?_
      refine Steps.cons (fun a' w' hG hB dep => gs_field (want_none rfl) _ _ _ rfl gN (0) (13) (hG.other 1 rfl) (fun wz => field_ntx_2 gN (0) wz) rfl) ?_
      refine Steps.cons (fun a' w' hG hB dep => gs_load1 (want_none rfl) _ _ rfl gN (13) (dep 5 rfl 28 rfl) (.int .i64 (x.attempt)) ((blk_then hb hB).cellv (i := 13) rfl) _ Tryz.underlying3 rfl rfl) ?_
      refine Steps.cons (fun a' w' hG hB dep => gs_call (want_none rfl) _ _ _ rfl enter_written _ (map1 (dep 6 rfl 29 rfl)) ((wq_any x.attempt hx.att _).mono fun e w2 ⟨hq9, hb9⟩ => ⟨_, hq9, hb9, rfl⟩)) ?_
      refine Steps.cons (fun a' w' hG hB dep => gs_cat2 (want_none rfl) _ _ _ _ rfl ((JB (sentW :: placeW x.al)) ++ (⟨#[32]⟩ : ByteArray)) ⟨(quo (Lib.itoa x.attempt)).toArray⟩ (dep 4 rfl 27 rfl) (dep 7 rfl 30 rfl) (by rw [ByteArray.size_append]; show (JB (sentW :: placeW x.al)).size + 1 + (quo (Lib.itoa x.attempt)).length ≤ _; have h2 := qi_len x.attempt hx.att; omega) (JB ((sentW :: placeW x.al) ++ [(Lib.itoa x.attempt)])) (JB_snoc (ws := (sentW :: placeW x.al)) (by simp) _) rfl) ?_
      refine Steps.cons (fun a' w' hG hB dep => gs_move (want_none rfl) _ rfl (id (hG.other 3 rfl))) ?_
      refine Steps.cons (fun a' w' hG hB dep => gs_cat2 (want_none rfl) _ _ _ _ rfl (JB ((sentW :: placeW x.al) ++ [(Lib.itoa x.attempt)])) (LB TW) (dep 8 rfl 31 rfl) (dep 9 rfl 32 rfl) (by omega) (JB (((sentW :: placeW x.al) ++ [(Lib.itoa x.attempt)]) ++ TW)) (JB_app (ws := ((sentW :: placeW x.al) ++ [(Lib.itoa x.attempt)])) (by simp) _) rfl) ?_
      refine Steps.cons (fun a' w' hG hB dep => gs_assign (want_none rfl) _ rfl (id (dep 10 rfl 33 rfl))) ?_
      exact Steps.nil
    intro u w7 hw7 ans
    have hus2 : u 2 = (.string (JB (((sentW :: placeW x.al) ++ [(Lib.itoa x.attempt)]) ++ TW))) := ans 11 2 (by decide) rfl
    clear ans
    simp only [putAll, List.foldl_cons, List.foldl_nil, Act.put, List.setIfInBounds_toArray, List.set_cons_zero, List.set_cons_succ, hus2]
    clear hus2
    simp only [List.drop]
    refine wpList_nil ?_
    go_wp2_with (fail)
    go_ret
    exact ⟨by rw [hv.out]; rfl, by rw [← hgN.out]; exact hBw.trans (hw7.mono (Nat.le_of_lt hb.lt))⟩
  have e1 : (x.kind == 1) = false := beq_eq_false_iff_ne.2 hk1
  by_cases hk2 : x.kind = 2
  · rw [hk2] at cK
    have hv : Hid (V = .string (JB ((doneW :: placeW x.al) ++ TW))) := Lib.hid (by rw [← hV.out]; unfold tellT; rw [if_neg hk1, if_pos hk2, ← hTWH.out]; unfold textsA placeW; simp)
    clear hk1 hk2
    go_upto_region 6 with (fail)
    have hTs := hTsz.out
    have hP := placeW_size x.al hx.al
    have hP4 : (JB (doneW :: placeW x.al)).size ≤ 114 := by
      rw [← JB_LB (w := doneW) (by decide), ByteArray.size_append]
      show 4 + _ ≤ _
      omega
    refine wp_region_text 7 [eqS (.pointer (some ⟨gN, 1, none⟩)), eqS (.agg x.al.C), eqS (.string (LB (placeW x.al))), eqS (.string (JB (doneW :: placeW x.al))), eqS (.string (LB TW)), eqS (.string (JB ((doneW :: placeW x.al) ++ TW))), eqS (.string (JB ((doneW :: placeW x.al) ++ TW)))] [36, 37, 38, 39, 40, 41, 2] (by kernel_rfl) (by kernel_rfl) ?_ ?_
    · skip
      refine Steps.cons (fun a' w' hG hB dep => gs_field (want_none rfl) _ _ _ rfl gN (0) (1) (hG.other 1 rfl) (fun wz => field_ntx_1 gN (0) wz) rfl) ?_
      refine Steps.cons (fun a' w' hG hB dep => gs_load_al_at (want_none rfl) _ rfl gN 1 (dep 0 rfl 36 rfl) _ (row_alert (blk_then hb hB)) rfl) ?_
      refine Steps.cons (fun a' w' hG hB dep => gs_call (want_none rfl) _ _ _ rfl enter_place _ (map1 (dep 1 rfl 37 rfl)) ((place_any x.al hx.al _).mono fun e w2 ⟨hq9, hb9⟩ => ⟨_, hq9, hb9, rfl⟩)) ?_
      refine Steps.cons (fun a' w' hG hB dep => gs_cat2 (want_none rfl) _ _ _ _ rfl (⟨#[100, 111, 110, 101]⟩ : ByteArray) (LB (placeW x.al)) rfl (dep 2 rfl 38 rfl) (by show 4 + (LB (placeW x.al)).size ≤ _; omega) (JB (doneW :: placeW x.al)) (JB_LB (w := doneW) (by decide) _) rfl) ?_
      refine Steps.cons (fun a' w' hG hB dep => gs_move (want_none rfl) _ rfl (id (hG.other 3 rfl))) ?_
      refine Steps.cons (fun a' w' hG hB dep => gs_cat2 (want_none rfl) _ _ _ _ rfl (JB (doneW :: placeW x.al)) (LB TW) (dep 3 rfl 39 rfl) (dep 4 rfl 40 rfl) (by omega) (JB ((doneW :: placeW x.al) ++ TW)) (JB_app (ws := (doneW :: placeW x.al)) (by simp) _) rfl) ?_
      refine Steps.cons (fun a' w' hG hB dep => gs_assign (want_none rfl) _ rfl (id (dep 5 rfl 41 rfl))) ?_
      exact Steps.nil
    intro u w7 hw7 ans
    have hus2 : u 2 = (.string (JB ((doneW :: placeW x.al) ++ TW))) := ans 6 2 (by decide) rfl
    clear ans
    simp only [putAll, List.foldl_cons, List.foldl_nil, Act.put, List.setIfInBounds_toArray, List.set_cons_zero, List.set_cons_succ, hus2]
    clear hus2
    simp only [List.drop]
    refine wpList_nil ?_
    go_wp2_with (fail)
    go_ret
    exact ⟨by rw [hv.out]; rfl, by rw [← hgN.out]; exact hBw.trans (hw7.mono (Nat.le_of_lt hb.lt))⟩
  have e2 : (x.kind == 2) = false := beq_eq_false_iff_ne.2 hk2
  by_cases hk3 : x.kind = 3
  · rw [hk3] at cK
    have hv : Hid (V = .string (JB ((backW :: placeW x.al) ++ TW))) := Lib.hid (by rw [← hV.out]; unfold tellT; rw [if_neg hk1, if_neg hk2, if_pos hk3, ← hTWH.out]; unfold textsA placeW; simp)
    clear hk1 hk2 hk3
    go_upto_region 8 with (fail)
    have hTs := hTsz.out
    have hP := placeW_size x.al hx.al
    have hP4 : (JB (backW :: placeW x.al)).size ≤ 114 := by
      rw [← JB_LB (w := backW) (by decide), ByteArray.size_append]
      show 4 + _ ≤ _
      omega
    refine wp_region_text 7 [eqS (.pointer (some ⟨gN, 1, none⟩)), eqS (.agg x.al.C), eqS (.string (LB (placeW x.al))), eqS (.string (JB (backW :: placeW x.al))), eqS (.string (LB TW)), eqS (.string (JB ((backW :: placeW x.al) ++ TW))), eqS (.string (JB ((backW :: placeW x.al) ++ TW)))] [44, 45, 46, 47, 48, 49, 2] (by kernel_rfl) (by kernel_rfl) ?_ ?_
    · skip
      refine Steps.cons (fun a' w' hG hB dep => gs_field (want_none rfl) _ _ _ rfl gN (0) (1) (hG.other 1 rfl) (fun wz => field_ntx_1 gN (0) wz) rfl) ?_
      refine Steps.cons (fun a' w' hG hB dep => gs_load_al_at (want_none rfl) _ rfl gN 1 (dep 0 rfl 44 rfl) _ (row_alert (blk_then hb hB)) rfl) ?_
      refine Steps.cons (fun a' w' hG hB dep => gs_call (want_none rfl) _ _ _ rfl enter_place _ (map1 (dep 1 rfl 45 rfl)) ((place_any x.al hx.al _).mono fun e w2 ⟨hq9, hb9⟩ => ⟨_, hq9, hb9, rfl⟩)) ?_
      refine Steps.cons (fun a' w' hG hB dep => gs_cat2 (want_none rfl) _ _ _ _ rfl (⟨#[98, 97, 99, 107]⟩ : ByteArray) (LB (placeW x.al)) rfl (dep 2 rfl 46 rfl) (by show 4 + (LB (placeW x.al)).size ≤ _; omega) (JB (backW :: placeW x.al)) (JB_LB (w := backW) (by decide) _) rfl) ?_
      refine Steps.cons (fun a' w' hG hB dep => gs_move (want_none rfl) _ rfl (id (hG.other 3 rfl))) ?_
      refine Steps.cons (fun a' w' hG hB dep => gs_cat2 (want_none rfl) _ _ _ _ rfl (JB (backW :: placeW x.al)) (LB TW) (dep 3 rfl 47 rfl) (dep 4 rfl 48 rfl) (by omega) (JB ((backW :: placeW x.al) ++ TW)) (JB_app (ws := (backW :: placeW x.al)) (by simp) _) rfl) ?_
      refine Steps.cons (fun a' w' hG hB dep => gs_assign (want_none rfl) _ rfl (id (dep 5 rfl 49 rfl))) ?_
      exact Steps.nil
    intro u w7 hw7 ans
    have hus2 : u 2 = (.string (JB ((backW :: placeW x.al) ++ TW))) := ans 6 2 (by decide) rfl
    clear ans
    simp only [putAll, List.foldl_cons, List.foldl_nil, Act.put, List.setIfInBounds_toArray, List.set_cons_zero, List.set_cons_succ, hus2]
    clear hus2
    simp only [List.drop]
    refine wpList_nil ?_
    go_wp2_with (fail)
    go_ret
    exact ⟨by rw [hv.out]; rfl, by rw [← hgN.out]; exact hBw.trans (hw7.mono (Nat.le_of_lt hb.lt))⟩
  have e3 : (x.kind == 3) = false := beq_eq_false_iff_ne.2 hk3
  by_cases hk4 : x.kind = 4
  case neg =>
    have e4 : (x.kind == 4) = false := beq_eq_false_iff_ne.2 hk4
    by_cases hk5 : x.kind = 5
    · rw [hk5] at cK
      have hv : Hid (V = .string ⟨#[99, 114, 97, 115, 104]⟩) := Lib.hid (by rw [← hV.out]; unfold tellT; rw [if_neg hk1, if_neg hk2, if_neg hk3, if_neg hk4, if_pos hk5]; exact congrArg Value.string (by decide +kernel))
      clear hk1 hk2 hk3 hk4 hk5 e1 e2 e3 e4
      go_wp2_with (fail)
      go_ret
      exact ⟨by rw [hv.out]; rfl, by rw [← hgN.out]; exact hBw⟩
    · have e5 : (x.kind == 5) = false := beq_eq_false_iff_ne.2 hk5
      have hv : Hid (V = .string ⟨#[110, 111, 110, 101]⟩) := Lib.hid (by rw [← hV.out]; unfold tellT; rw [if_neg hk1, if_neg hk2, if_neg hk3, if_neg hk4, if_neg hk5]; exact congrArg Value.string (by decide +kernel))
      clear hk1 hk2 hk3 hk4 hk5
      go_wp2_with (fail)
      go_ret
      exact ⟨by rw [hv.out]; rfl, by rw [← hgN.out]; exact hBw⟩
  case pos =>
    have hv : Hid (V = .string (JB (keptW :: (ms.flatMap MkV.nums).map Lib.itoa))) := Lib.hid (by rw [← hV.out]; unfold tellT; rw [if_neg hk1, if_neg hk2, if_neg hk3, if_pos hk4])
    rw [hk4] at cK
    clear hk1 hk2 hk3 hk4 e1 e2 e3
    have hK0 : (⟨#[107, 101, 112, 116]⟩ : ByteArray) = JB [keptW] := by decide +kernel
    obtain ⟨KB, hKB⟩ : ∃ KB : ByteArray, KB = ⟨#[107, 101, 112, 116]⟩ := ⟨_, rfl⟩
    have cS : w2.cell? ⟨gN, 14, none⟩ = some (.slice x.A x.m x.c) := hb.cellv rfl
    have hgl := hb.lt
    go_upto_region 11 with (fail)
    rw [hK0]
    clear cK hKB KB hK0 cS
    go_wp2_with (fail)
    go_loopw [4, 5] (fun sv iv wr => ∃ (i : Nat) (ws : List Bs), sv = .string (JB ws) ∧ iv = .int .i64 i ∧ i ≤ x.m ∧ ws ≠ [] ∧ (JB ws).size ≤ 4 + 198 * i ∧ Hid (ws = keptW :: ((ms.take i).flatMap MkV.nums).map Lib.itoa) ∧ Blk wr gN 43 x.C ∧ Below gN w wr) (fun _ iv _ => x.m - (intOf iv).toNat)
    case atStart => exact ⟨0, [keptW], rfl, rfl, by omega, by simp, by decide +kernel, Lib.hid (by simp), hb, hBw⟩
    case round =>
      clear hb hBw hgl
      obtain ⟨i, ws, rfl, rfl, hi, hne, hws, hwd, hb, hBw⟩ := hrel
      have cS : wr.cell? ⟨gN, 14, none⟩ = some (.slice x.A x.m x.c) := hb.cellv rfl
      by_cases hl : i < x.m
      · have hI : (i : Int) < x.m := by omega
        have hI0 : ¬ (i : Int) < 0 := by omega
        have hil : i < ms.length := by rw [← hml.out]; exact hl
        obtain ⟨b, off, hA, hbb, hrow⟩ := hslg.at_ (by omega)
        obtain ⟨m, hm⟩ : ∃ m, ms[i] = m := ⟨_, rfl⟩
        have hrw : RowAt wr b (off + i * 9) m.C := fun j v hj => by
          rw [← hm] at hj
          exact (hBw.cell (p := ⟨b, off + i * 9 + j, none⟩) hbb).trans (hrow i hil j v hj)
        have hmo := hmk.out m (by rw [← hm]; exact List.getElem_mem _)
        have hwd2 : Hid ((((((((((ws ++ [(Lib.itoa m.serial)]) ++ [(Lib.itoa m.inode)]) ++ [(Lib.itoa m.gen)]) ++ [(Lib.itoa m.off)]) ++ [(Lib.itoa m.missed)]) ++ [(Lib.itoa m.gone)]) ++ [(Lib.itoa m.cuts)]) ++ [(Lib.itoa m.tails)]) ++ [(Lib.itoa m.long)]) = keptW :: ((ms.take (i + 1)).flatMap MkV.nums).map Lib.itoa) := Lib.hid (by
          rw [hwd.out, List.take_add_one, List.getElem?_eq_getElem hil, hm]
          simp [MkV.nums])
        rw [hA] at cS
        replace hmo := Lib.hid hmo
        clear hm hrow hwd
        go_upto_region 15 with (first
          | (refine wpList_load_at rfl _ _ rfl b (off + i * 9) rfl _ _ hrw Tryz.underlying37 rfl (info_mk.trans rfl) ?_)
          | (refine wl_store_mk rfl _ _ rfl wr.heap.size m ⟨0, 0, 0, 0, 0, 0, 0, 0, 0⟩ rfl rfl (Blk.new _ _ _) ?_; intro w3 hM hg3))
        have hB3 := below_grown (below_alloc (Below.refl wr.heap.size wr) _) hg3 (Nat.le_refl _)
        obtain ⟨gM, hgM⟩ : ∃ y, y = wr.heap.size := ⟨_, rfl⟩
        rw [← hgM] at hM ⊢
        replace hgM := Lib.hid hgM
        have hb3 := blk_then hb hB3
        have hBw3 := hBw.trans (hB3.mono (Nat.le_of_lt hb.lt))
        clear hb hBw cS hrw hg3 hB3
        have hmo := hmo.out
        have hs1 : (JB (ws ++ [(Lib.itoa m.serial)])).size ≤ 4 + 198 * i + 22 := by have h1 := JB_snoc_size (ws := ws) (by simp [hne]) (Lib.itoa m.serial); have h2 := qi_len m.serial hmo.1; omega
        have hs2 : (JB ((ws ++ [(Lib.itoa m.serial)]) ++ [(Lib.itoa m.inode)])).size ≤ 4 + 198 * i + 44 := by have h1 := JB_snoc_size (ws := (ws ++ [(Lib.itoa m.serial)])) (by simp [hne]) (Lib.itoa m.inode); have h2 := qi_len m.inode hmo.2.1; omega
        have hs3 : (JB (((ws ++ [(Lib.itoa m.serial)]) ++ [(Lib.itoa m.inode)]) ++ [(Lib.itoa m.gen)])).size ≤ 4 + 198 * i + 66 := by have h1 := JB_snoc_size (ws := ((ws ++ [(Lib.itoa m.serial)]) ++ [(Lib.itoa m.inode)])) (by simp [hne]) (Lib.itoa m.gen); have h2 := qi_len m.gen hmo.2.2.1; omega
        have hs4 : (JB ((((ws ++ [(Lib.itoa m.serial)]) ++ [(Lib.itoa m.inode)]) ++ [(Lib.itoa m.gen)]) ++ [(Lib.itoa m.off)])).size ≤ 4 + 198 * i + 88 := by have h1 := JB_snoc_size (ws := (((ws ++ [(Lib.itoa m.serial)]) ++ [(Lib.itoa m.inode)]) ++ [(Lib.itoa m.gen)])) (by simp [hne]) (Lib.itoa m.off); have h2 := qi_len m.off hmo.2.2.2.1; omega
        refine wp_region_steps 21 [eqS (.string (JB ws)), eqS (.string ((JB ws) ++ (⟨#[32]⟩ : ByteArray))), eqS (.pointer (some ⟨gM, 0, none⟩)), eqS (.int .i64 (m.serial)), eqS (.string ⟨(quo (Lib.itoa m.serial)).toArray⟩), eqS (.string (JB (ws ++ [(Lib.itoa m.serial)]))), eqS (.string ((JB (ws ++ [(Lib.itoa m.serial)])) ++ (⟨#[32]⟩ : ByteArray))), eqS (.pointer (some ⟨gM, 1, none⟩)), eqS (.int .i64 (m.inode)), eqS (.string ⟨(quo (Lib.itoa m.inode)).toArray⟩), eqS (.string (JB ((ws ++ [(Lib.itoa m.serial)]) ++ [(Lib.itoa m.inode)]))), eqS (.string ((JB ((ws ++ [(Lib.itoa m.serial)]) ++ [(Lib.itoa m.inode)])) ++ (⟨#[32]⟩ : ByteArray))), eqS (.pointer (some ⟨gM, 2, none⟩)), eqS (.int .i64 (m.gen)), eqS (.string ⟨(quo (Lib.itoa m.gen)).toArray⟩), eqS (.string (JB (((ws ++ [(Lib.itoa m.serial)]) ++ [(Lib.itoa m.inode)]) ++ [(Lib.itoa m.gen)]))), eqS (.string ((JB (((ws ++ [(Lib.itoa m.serial)]) ++ [(Lib.itoa m.inode)]) ++ [(Lib.itoa m.gen)])) ++ (⟨#[32]⟩ : ByteArray))), eqS (.pointer (some ⟨gM, 3, none⟩)), eqS (.int .i64 (m.off)), eqS (.string ⟨(quo (Lib.itoa m.off)).toArray⟩), eqS (.string (JB ((((ws ++ [(Lib.itoa m.serial)]) ++ [(Lib.itoa m.inode)]) ++ [(Lib.itoa m.gen)]) ++ [(Lib.itoa m.off)])))] [64, 65, 66, 67, 68, 69, 70, 71, 72, 73, 74, 75, 76, 77, 78, 79, 80, 81, 82, 83, 84] (by kernel_rfl) (by kernel_rfl) (by kernel_rfl) ?_ ?_
        · skip
          refine Steps.cons (fun a' w' hG hB dep => gs_move (want_none rfl) _ rfl (id (hG.other 4 rfl))) ?_
          refine Steps.cons (fun a' w' hG hB dep => gs_cat (want_none rfl) _ _ _ _ rfl (JB ws) (⟨#[32]⟩ : ByteArray) (dep 0 rfl 64 rfl) rfl (by show ((JB ws)).size + 1 ≤ _; omega) rfl) ?_
          refine Steps.cons (fun a' w' hG hB dep => gs_field (want_none rfl) _ _ _ rfl gM (0) (0) (hG.other 6 rfl) (fun wz => field_mkx_0 gM (0) wz) rfl) ?_
          refine Steps.cons (fun a' w' hG hB dep => gs_load1 (want_none rfl) _ _ rfl gM (0) (dep 2 rfl 66 rfl) (.int .i64 (m.serial)) ((blk_then hM hB).cellv (i := 0) rfl) _ Tryz.underlying3 rfl rfl) ?_
          refine Steps.cons (fun a' w' hG hB dep => gs_call (want_none rfl) _ _ _ rfl enter_written _ (map1 (dep 3 rfl 67 rfl)) ((wq_any m.serial hmo.1 _).mono fun e w2 ⟨hq9, hb9⟩ => ⟨_, hq9, hb9, rfl⟩)) ?_
          refine Steps.cons (fun a' w' hG hB dep => gs_cat2 (want_none rfl) _ _ _ _ rfl ((JB ws) ++ (⟨#[32]⟩ : ByteArray)) ⟨(quo (Lib.itoa m.serial)).toArray⟩ (dep 1 rfl 65 rfl) (dep 4 rfl 68 rfl) (by rw [ByteArray.size_append]; show (JB ws).size + 1 + (quo (Lib.itoa m.serial)).length ≤ _; have h2 := qi_len m.serial hmo.1; omega) (JB (ws ++ [(Lib.itoa m.serial)])) (JB_snoc (ws := ws) (by simp [hne]) _) rfl) ?_
          refine Steps.cons (fun a' w' hG hB dep => gs_cat (want_none rfl) _ _ _ _ rfl (JB (ws ++ [(Lib.itoa m.serial)])) (⟨#[32]⟩ : ByteArray) (dep 5 rfl 69 rfl) rfl (by show ((JB (ws ++ [(Lib.itoa m.serial)]))).size + 1 ≤ _; omega) rfl) ?_
          refine Steps.cons (fun a' w' hG hB dep => gs_field (want_none rfl) _ _ _ rfl gM (0) (1) (hG.other 6 rfl) (fun wz => field_mkx_1 gM (0) wz) rfl) ?_
          refine Steps.cons (fun a' w' hG hB dep => gs_load1 (want_none rfl) _ _ rfl gM (1) (dep 7 rfl 71 rfl) (.int .i64 (m.inode)) ((blk_then hM hB).cellv (i := 1) rfl) _ Tryz.underlying3 rfl rfl) ?_
          refine Steps.cons (fun a' w' hG hB dep => gs_call (want_none rfl) _ _ _ rfl enter_written _ (map1 (dep 8 rfl 72 rfl)) ((wq_any m.inode hmo.2.1 _).mono fun e w2 ⟨hq9, hb9⟩ => ⟨_, hq9, hb9, rfl⟩)) ?_
          refine Steps.cons (fun a' w' hG hB dep => gs_cat2 (want_none rfl) _ _ _ _ rfl ((JB (ws ++ [(Lib.itoa m.serial)])) ++ (⟨#[32]⟩ : ByteArray)) ⟨(quo (Lib.itoa m.inode)).toArray⟩ (dep 6 rfl 70 rfl) (dep 9 rfl 73 rfl) (by rw [ByteArray.size_append]; show (JB (ws ++ [(Lib.itoa m.serial)])).size + 1 + (quo (Lib.itoa m.inode)).length ≤ _; have h2 := qi_len m.inode hmo.2.1; omega) (JB ((ws ++ [(Lib.itoa m.serial)]) ++ [(Lib.itoa m.inode)])) (JB_snoc (ws := (ws ++ [(Lib.itoa m.serial)])) (by simp [hne]) _) rfl) ?_
          refine Steps.cons (fun a' w' hG hB dep => gs_cat (want_none rfl) _ _ _ _ rfl (JB ((ws ++ [(Lib.itoa m.serial)]) ++ [(Lib.itoa m.inode)])) (⟨#[32]⟩ : ByteArray) (dep 10 rfl 74 rfl) rfl (by show ((JB ((ws ++ [(Lib.itoa m.serial)]) ++ [(Lib.itoa m.inode)]))).size + 1 ≤ _; omega) rfl) ?_
          refine Steps.cons (fun a' w' hG hB dep => gs_field (want_none rfl) _ _ _ rfl gM (0) (2) (hG.other 6 rfl) (fun wz => field_mkx_2 gM (0) wz) rfl) ?_
          refine Steps.cons (fun a' w' hG hB dep => gs_load1 (want_none rfl) _ _ rfl gM (2) (dep 12 rfl 76 rfl) (.int .i64 (m.gen)) ((blk_then hM hB).cellv (i := 2) rfl) _ Tryz.underlying3 rfl rfl) ?_
          refine Steps.cons (fun a' w' hG hB dep => gs_call (want_none rfl) _ _ _ rfl enter_written _ (map1 (dep 13 rfl 77 rfl)) ((wq_any m.gen hmo.2.2.1 _).mono fun e w2 ⟨hq9, hb9⟩ => ⟨_, hq9, hb9, rfl⟩)) ?_
          refine Steps.cons (fun a' w' hG hB dep => gs_cat2 (want_none rfl) _ _ _ _ rfl ((JB ((ws ++ [(Lib.itoa m.serial)]) ++ [(Lib.itoa m.inode)])) ++ (⟨#[32]⟩ : ByteArray)) ⟨(quo (Lib.itoa m.gen)).toArray⟩ (dep 11 rfl 75 rfl) (dep 14 rfl 78 rfl) (by rw [ByteArray.size_append]; show (JB ((ws ++ [(Lib.itoa m.serial)]) ++ [(Lib.itoa m.inode)])).size + 1 + (quo (Lib.itoa m.gen)).length ≤ _; have h2 := qi_len m.gen hmo.2.2.1; omega) (JB (((ws ++ [(Lib.itoa m.serial)]) ++ [(Lib.itoa m.inode)]) ++ [(Lib.itoa m.gen)])) (JB_snoc (ws := ((ws ++ [(Lib.itoa m.serial)]) ++ [(Lib.itoa m.inode)])) (by simp [hne]) _) rfl) ?_
          refine Steps.cons (fun a' w' hG hB dep => gs_cat (want_none rfl) _ _ _ _ rfl (JB (((ws ++ [(Lib.itoa m.serial)]) ++ [(Lib.itoa m.inode)]) ++ [(Lib.itoa m.gen)])) (⟨#[32]⟩ : ByteArray) (dep 15 rfl 79 rfl) rfl (by show ((JB (((ws ++ [(Lib.itoa m.serial)]) ++ [(Lib.itoa m.inode)]) ++ [(Lib.itoa m.gen)]))).size + 1 ≤ _; omega) rfl) ?_
          refine Steps.cons (fun a' w' hG hB dep => gs_field (want_none rfl) _ _ _ rfl gM (0) (3) (hG.other 6 rfl) (fun wz => field_mkx_3 gM (0) wz) rfl) ?_
          refine Steps.cons (fun a' w' hG hB dep => gs_load1 (want_none rfl) _ _ rfl gM (3) (dep 17 rfl 81 rfl) (.int .i64 (m.off)) ((blk_then hM hB).cellv (i := 3) rfl) _ Tryz.underlying3 rfl rfl) ?_
          refine Steps.cons (fun a' w' hG hB dep => gs_call (want_none rfl) _ _ _ rfl enter_written _ (map1 (dep 18 rfl 82 rfl)) ((wq_any m.off hmo.2.2.2.1 _).mono fun e w2 ⟨hq9, hb9⟩ => ⟨_, hq9, hb9, rfl⟩)) ?_
          refine Steps.cons (fun a' w' hG hB dep => gs_cat2 (want_none rfl) _ _ _ _ rfl ((JB (((ws ++ [(Lib.itoa m.serial)]) ++ [(Lib.itoa m.inode)]) ++ [(Lib.itoa m.gen)])) ++ (⟨#[32]⟩ : ByteArray)) ⟨(quo (Lib.itoa m.off)).toArray⟩ (dep 16 rfl 80 rfl) (dep 19 rfl 83 rfl) (by rw [ByteArray.size_append]; show (JB (((ws ++ [(Lib.itoa m.serial)]) ++ [(Lib.itoa m.inode)]) ++ [(Lib.itoa m.gen)])).size + 1 + (quo (Lib.itoa m.off)).length ≤ _; have h2 := qi_len m.off hmo.2.2.2.1; omega) (JB ((((ws ++ [(Lib.itoa m.serial)]) ++ [(Lib.itoa m.inode)]) ++ [(Lib.itoa m.gen)]) ++ [(Lib.itoa m.off)])) (JB_snoc (ws := (((ws ++ [(Lib.itoa m.serial)]) ++ [(Lib.itoa m.inode)]) ++ [(Lib.itoa m.gen)])) (by simp [hne]) _) rfl) ?_
          exact Steps.nil
        intro u w5 hw5 ans
        have hus84 : u 84 = (.string (JB ((((ws ++ [(Lib.itoa m.serial)]) ++ [(Lib.itoa m.inode)]) ++ [(Lib.itoa m.gen)]) ++ [(Lib.itoa m.off)]))) := ans 20 84 (by decide) rfl
        clear ans
        simp only [putAll, List.foldl_cons, List.foldl_nil, Act.put, List.setIfInBounds_toArray, List.set_cons_zero, List.set_cons_succ, hus84]
        clear hus84
        simp only [List.drop]
        have hM5 := blk_then hM hw5
        have hb5 := blk_then hb3 hw5
        have hBw5 := hBw3.trans (hw5.mono (Nat.le_of_lt hb3.lt))
        clear hM hb3 hBw3 hs1 hs2 hs3
        replace hmo := Lib.hid hmo
        replace hs4 := Lib.hid hs4
        have hM := hM5
        go_upto_region 16 with (fail)
        have hmo := hmo.out
        have hs4 := hs4.out
        have ht1 : (JB (((((ws ++ [(Lib.itoa m.serial)]) ++ [(Lib.itoa m.inode)]) ++ [(Lib.itoa m.gen)]) ++ [(Lib.itoa m.off)]) ++ [(Lib.itoa m.missed)])).size ≤ 4 + 198 * i + 110 := by have h1 := JB_snoc_size (ws := ((((ws ++ [(Lib.itoa m.serial)]) ++ [(Lib.itoa m.inode)]) ++ [(Lib.itoa m.gen)]) ++ [(Lib.itoa m.off)])) (by simp [hne]) (Lib.itoa m.missed); have h2 := qi_len m.missed hmo.2.2.2.2.1; omega
        have ht2 : (JB ((((((ws ++ [(Lib.itoa m.serial)]) ++ [(Lib.itoa m.inode)]) ++ [(Lib.itoa m.gen)]) ++ [(Lib.itoa m.off)]) ++ [(Lib.itoa m.missed)]) ++ [(Lib.itoa m.gone)])).size ≤ 4 + 198 * i + 132 := by have h1 := JB_snoc_size (ws := (((((ws ++ [(Lib.itoa m.serial)]) ++ [(Lib.itoa m.inode)]) ++ [(Lib.itoa m.gen)]) ++ [(Lib.itoa m.off)]) ++ [(Lib.itoa m.missed)])) (by simp [hne]) (Lib.itoa m.gone); have h2 := qi_len m.gone hmo.2.2.2.2.2.1; omega
        have ht3 : (JB (((((((ws ++ [(Lib.itoa m.serial)]) ++ [(Lib.itoa m.inode)]) ++ [(Lib.itoa m.gen)]) ++ [(Lib.itoa m.off)]) ++ [(Lib.itoa m.missed)]) ++ [(Lib.itoa m.gone)]) ++ [(Lib.itoa m.cuts)])).size ≤ 4 + 198 * i + 154 := by have h1 := JB_snoc_size (ws := ((((((ws ++ [(Lib.itoa m.serial)]) ++ [(Lib.itoa m.inode)]) ++ [(Lib.itoa m.gen)]) ++ [(Lib.itoa m.off)]) ++ [(Lib.itoa m.missed)]) ++ [(Lib.itoa m.gone)])) (by simp [hne]) (Lib.itoa m.cuts); have h2 := qi_len m.cuts hmo.2.2.2.2.2.2.1; omega
        have ht4 : (JB ((((((((ws ++ [(Lib.itoa m.serial)]) ++ [(Lib.itoa m.inode)]) ++ [(Lib.itoa m.gen)]) ++ [(Lib.itoa m.off)]) ++ [(Lib.itoa m.missed)]) ++ [(Lib.itoa m.gone)]) ++ [(Lib.itoa m.cuts)]) ++ [(Lib.itoa m.tails)])).size ≤ 4 + 198 * i + 176 := by have h1 := JB_snoc_size (ws := (((((((ws ++ [(Lib.itoa m.serial)]) ++ [(Lib.itoa m.inode)]) ++ [(Lib.itoa m.gen)]) ++ [(Lib.itoa m.off)]) ++ [(Lib.itoa m.missed)]) ++ [(Lib.itoa m.gone)]) ++ [(Lib.itoa m.cuts)])) (by simp [hne]) (Lib.itoa m.tails); have h2 := qi_len m.tails hmo.2.2.2.2.2.2.2.1; omega
        have ht5 : (JB (((((((((ws ++ [(Lib.itoa m.serial)]) ++ [(Lib.itoa m.inode)]) ++ [(Lib.itoa m.gen)]) ++ [(Lib.itoa m.off)]) ++ [(Lib.itoa m.missed)]) ++ [(Lib.itoa m.gone)]) ++ [(Lib.itoa m.cuts)]) ++ [(Lib.itoa m.tails)]) ++ [(Lib.itoa m.long)])).size ≤ 4 + 198 * i + 198 := by have h1 := JB_snoc_size (ws := ((((((((ws ++ [(Lib.itoa m.serial)]) ++ [(Lib.itoa m.inode)]) ++ [(Lib.itoa m.gen)]) ++ [(Lib.itoa m.off)]) ++ [(Lib.itoa m.missed)]) ++ [(Lib.itoa m.gone)]) ++ [(Lib.itoa m.cuts)]) ++ [(Lib.itoa m.tails)])) (by simp [hne]) (Lib.itoa m.long); have h2 := qi_len m.long hmo.2.2.2.2.2.2.2.2; omega
        refine wp_region_steps 31 [eqS (.string (JB ((((ws ++ [(Lib.itoa m.serial)]) ++ [(Lib.itoa m.inode)]) ++ [(Lib.itoa m.gen)]) ++ [(Lib.itoa m.off)]))), eqS (.string ((JB ((((ws ++ [(Lib.itoa m.serial)]) ++ [(Lib.itoa m.inode)]) ++ [(Lib.itoa m.gen)]) ++ [(Lib.itoa m.off)])) ++ (⟨#[32]⟩ : ByteArray))), eqS (.pointer (some ⟨gM, 4, none⟩)), eqS (.pointer (some ⟨gM, 4, none⟩)), eqS (.int .i64 (m.missed)), eqS (.string ⟨(quo (Lib.itoa m.missed)).toArray⟩), eqS (.string (JB (((((ws ++ [(Lib.itoa m.serial)]) ++ [(Lib.itoa m.inode)]) ++ [(Lib.itoa m.gen)]) ++ [(Lib.itoa m.off)]) ++ [(Lib.itoa m.missed)]))), eqS (.string ((JB (((((ws ++ [(Lib.itoa m.serial)]) ++ [(Lib.itoa m.inode)]) ++ [(Lib.itoa m.gen)]) ++ [(Lib.itoa m.off)]) ++ [(Lib.itoa m.missed)])) ++ (⟨#[32]⟩ : ByteArray))), eqS (.pointer (some ⟨gM, 4, none⟩)), eqS (.pointer (some ⟨gM, 5, none⟩)), eqS (.int .i64 (m.gone)), eqS (.string ⟨(quo (Lib.itoa m.gone)).toArray⟩), eqS (.string (JB ((((((ws ++ [(Lib.itoa m.serial)]) ++ [(Lib.itoa m.inode)]) ++ [(Lib.itoa m.gen)]) ++ [(Lib.itoa m.off)]) ++ [(Lib.itoa m.missed)]) ++ [(Lib.itoa m.gone)]))), eqS (.string ((JB ((((((ws ++ [(Lib.itoa m.serial)]) ++ [(Lib.itoa m.inode)]) ++ [(Lib.itoa m.gen)]) ++ [(Lib.itoa m.off)]) ++ [(Lib.itoa m.missed)]) ++ [(Lib.itoa m.gone)])) ++ (⟨#[32]⟩ : ByteArray))), eqS (.pointer (some ⟨gM, 4, none⟩)), eqS (.pointer (some ⟨gM, 6, none⟩)), eqS (.int .i64 (m.cuts)), eqS (.string ⟨(quo (Lib.itoa m.cuts)).toArray⟩), eqS (.string (JB (((((((ws ++ [(Lib.itoa m.serial)]) ++ [(Lib.itoa m.inode)]) ++ [(Lib.itoa m.gen)]) ++ [(Lib.itoa m.off)]) ++ [(Lib.itoa m.missed)]) ++ [(Lib.itoa m.gone)]) ++ [(Lib.itoa m.cuts)]))), eqS (.string ((JB (((((((ws ++ [(Lib.itoa m.serial)]) ++ [(Lib.itoa m.inode)]) ++ [(Lib.itoa m.gen)]) ++ [(Lib.itoa m.off)]) ++ [(Lib.itoa m.missed)]) ++ [(Lib.itoa m.gone)]) ++ [(Lib.itoa m.cuts)])) ++ (⟨#[32]⟩ : ByteArray))), eqS (.pointer (some ⟨gM, 4, none⟩)), eqS (.pointer (some ⟨gM, 7, none⟩)), eqS (.int .i64 (m.tails)), eqS (.string ⟨(quo (Lib.itoa m.tails)).toArray⟩), eqS (.string (JB ((((((((ws ++ [(Lib.itoa m.serial)]) ++ [(Lib.itoa m.inode)]) ++ [(Lib.itoa m.gen)]) ++ [(Lib.itoa m.off)]) ++ [(Lib.itoa m.missed)]) ++ [(Lib.itoa m.gone)]) ++ [(Lib.itoa m.cuts)]) ++ [(Lib.itoa m.tails)]))), eqS (.string ((JB ((((((((ws ++ [(Lib.itoa m.serial)]) ++ [(Lib.itoa m.inode)]) ++ [(Lib.itoa m.gen)]) ++ [(Lib.itoa m.off)]) ++ [(Lib.itoa m.missed)]) ++ [(Lib.itoa m.gone)]) ++ [(Lib.itoa m.cuts)]) ++ [(Lib.itoa m.tails)])) ++ (⟨#[32]⟩ : ByteArray))), eqS (.pointer (some ⟨gM, 4, none⟩)), eqS (.pointer (some ⟨gM, 8, none⟩)), eqS (.int .i64 (m.long)), eqS (.string ⟨(quo (Lib.itoa m.long)).toArray⟩), eqS (.string (JB (((((((((ws ++ [(Lib.itoa m.serial)]) ++ [(Lib.itoa m.inode)]) ++ [(Lib.itoa m.gen)]) ++ [(Lib.itoa m.off)]) ++ [(Lib.itoa m.missed)]) ++ [(Lib.itoa m.gone)]) ++ [(Lib.itoa m.cuts)]) ++ [(Lib.itoa m.tails)]) ++ [(Lib.itoa m.long)])))] [85, 86, 87, 88, 89, 90, 91, 92, 93, 94, 95, 96, 97, 98, 99, 100, 101, 102, 103, 104, 105, 106, 107, 108, 109, 110, 111, 112, 113, 114, 115] (by kernel_rfl) (by kernel_rfl) (by kernel_rfl) ?_ ?_
        · skip
          refine Steps.cons (fun a' w' hG hB dep => gs_move (want_none rfl) _ rfl (id (hG.other 4 rfl))) ?_
          refine Steps.cons (fun a' w' hG hB dep => gs_cat (want_none rfl) _ _ _ _ rfl (JB ((((ws ++ [(Lib.itoa m.serial)]) ++ [(Lib.itoa m.inode)]) ++ [(Lib.itoa m.gen)]) ++ [(Lib.itoa m.off)])) (⟨#[32]⟩ : ByteArray) (dep 0 rfl 85 rfl) rfl (by show ((JB ((((ws ++ [(Lib.itoa m.serial)]) ++ [(Lib.itoa m.inode)]) ++ [(Lib.itoa m.gen)]) ++ [(Lib.itoa m.off)]))).size + 1 ≤ _; omega) rfl) ?_
          refine Steps.cons (fun a' w' hG hB dep => gs_field (want_none rfl) _ _ _ rfl gM (0) (4) (hG.other 6 rfl) (fun wz => field_mkx_4 gM (0) wz) rfl) ?_
          refine Steps.cons (fun a' w' hG hB dep => gs_field (want_none rfl) _ _ _ rfl gM (4) (4) (dep 2 rfl 87 rfl) (fun wz => field_lsx_0 gM (4) wz) rfl) ?_
          refine Steps.cons (fun a' w' hG hB dep => gs_load1 (want_none rfl) _ _ rfl gM (4) (dep 3 rfl 88 rfl) (.int .i64 (m.missed)) ((blk_then hM hB).cellv (i := 4) rfl) _ Tryz.underlying3 rfl rfl) ?_
          refine Steps.cons (fun a' w' hG hB dep => gs_call (want_none rfl) _ _ _ rfl enter_written _ (map1 (dep 4 rfl 89 rfl)) ((wq_any m.missed hmo.2.2.2.2.1 _).mono fun e w2 ⟨hq9, hb9⟩ => ⟨_, hq9, hb9, rfl⟩)) ?_
          refine Steps.cons (fun a' w' hG hB dep => gs_cat2 (want_none rfl) _ _ _ _ rfl ((JB ((((ws ++ [(Lib.itoa m.serial)]) ++ [(Lib.itoa m.inode)]) ++ [(Lib.itoa m.gen)]) ++ [(Lib.itoa m.off)])) ++ (⟨#[32]⟩ : ByteArray)) ⟨(quo (Lib.itoa m.missed)).toArray⟩ (dep 1 rfl 86 rfl) (dep 5 rfl 90 rfl) (by rw [ByteArray.size_append]; show (JB ((((ws ++ [(Lib.itoa m.serial)]) ++ [(Lib.itoa m.inode)]) ++ [(Lib.itoa m.gen)]) ++ [(Lib.itoa m.off)])).size + 1 + (quo (Lib.itoa m.missed)).length ≤ _; have h2 := qi_len m.missed hmo.2.2.2.2.1; omega) (JB (((((ws ++ [(Lib.itoa m.serial)]) ++ [(Lib.itoa m.inode)]) ++ [(Lib.itoa m.gen)]) ++ [(Lib.itoa m.off)]) ++ [(Lib.itoa m.missed)])) (JB_snoc (ws := ((((ws ++ [(Lib.itoa m.serial)]) ++ [(Lib.itoa m.inode)]) ++ [(Lib.itoa m.gen)]) ++ [(Lib.itoa m.off)])) (by simp [hne]) _) rfl) ?_
          refine Steps.cons (fun a' w' hG hB dep => gs_cat (want_none rfl) _ _ _ _ rfl (JB (((((ws ++ [(Lib.itoa m.serial)]) ++ [(Lib.itoa m.inode)]) ++ [(Lib.itoa m.gen)]) ++ [(Lib.itoa m.off)]) ++ [(Lib.itoa m.missed)])) (⟨#[32]⟩ : ByteArray) (dep 6 rfl 91 rfl) rfl (by show ((JB (((((ws ++ [(Lib.itoa m.serial)]) ++ [(Lib.itoa m.inode)]) ++ [(Lib.itoa m.gen)]) ++ [(Lib.itoa m.off)]) ++ [(Lib.itoa m.missed)]))).size + 1 ≤ _; omega) rfl) ?_
          refine Steps.cons (fun a' w' hG hB dep => gs_field (want_none rfl) _ _ _ rfl gM (0) (4) (hG.other 6 rfl) (fun wz => field_mkx_4 gM (0) wz) rfl) ?_
          refine Steps.cons (fun a' w' hG hB dep => gs_field (want_none rfl) _ _ _ rfl gM (4) (5) (dep 8 rfl 93 rfl) (fun wz => field_lsx_1 gM (4) wz) rfl) ?_
          refine Steps.cons (fun a' w' hG hB dep => gs_load1 (want_none rfl) _ _ rfl gM (5) (dep 9 rfl 94 rfl) (.int .i64 (m.gone)) ((blk_then hM hB).cellv (i := 5) rfl) _ Tryz.underlying3 rfl rfl) ?_
          refine Steps.cons (fun a' w' hG hB dep => gs_call (want_none rfl) _ _ _ rfl enter_written _ (map1 (dep 10 rfl 95 rfl)) ((wq_any m.gone hmo.2.2.2.2.2.1 _).mono fun e w2 ⟨hq9, hb9⟩ => ⟨_, hq9, hb9, rfl⟩)) ?_
          refine Steps.cons (fun a' w' hG hB dep => gs_cat2 (want_none rfl) _ _ _ _ rfl ((JB (((((ws ++ [(Lib.itoa m.serial)]) ++ [(Lib.itoa m.inode)]) ++ [(Lib.itoa m.gen)]) ++ [(Lib.itoa m.off)]) ++ [(Lib.itoa m.missed)])) ++ (⟨#[32]⟩ : ByteArray)) ⟨(quo (Lib.itoa m.gone)).toArray⟩ (dep 7 rfl 92 rfl) (dep 11 rfl 96 rfl) (by rw [ByteArray.size_append]; show (JB (((((ws ++ [(Lib.itoa m.serial)]) ++ [(Lib.itoa m.inode)]) ++ [(Lib.itoa m.gen)]) ++ [(Lib.itoa m.off)]) ++ [(Lib.itoa m.missed)])).size + 1 + (quo (Lib.itoa m.gone)).length ≤ _; have h2 := qi_len m.gone hmo.2.2.2.2.2.1; omega) (JB ((((((ws ++ [(Lib.itoa m.serial)]) ++ [(Lib.itoa m.inode)]) ++ [(Lib.itoa m.gen)]) ++ [(Lib.itoa m.off)]) ++ [(Lib.itoa m.missed)]) ++ [(Lib.itoa m.gone)])) (JB_snoc (ws := (((((ws ++ [(Lib.itoa m.serial)]) ++ [(Lib.itoa m.inode)]) ++ [(Lib.itoa m.gen)]) ++ [(Lib.itoa m.off)]) ++ [(Lib.itoa m.missed)])) (by simp [hne]) _) rfl) ?_
          refine Steps.cons (fun a' w' hG hB dep => gs_cat (want_none rfl) _ _ _ _ rfl (JB ((((((ws ++ [(Lib.itoa m.serial)]) ++ [(Lib.itoa m.inode)]) ++ [(Lib.itoa m.gen)]) ++ [(Lib.itoa m.off)]) ++ [(Lib.itoa m.missed)]) ++ [(Lib.itoa m.gone)])) (⟨#[32]⟩ : ByteArray) (dep 12 rfl 97 rfl) rfl (by show ((JB ((((((ws ++ [(Lib.itoa m.serial)]) ++ [(Lib.itoa m.inode)]) ++ [(Lib.itoa m.gen)]) ++ [(Lib.itoa m.off)]) ++ [(Lib.itoa m.missed)]) ++ [(Lib.itoa m.gone)]))).size + 1 ≤ _; omega) rfl) ?_
          refine Steps.cons (fun a' w' hG hB dep => gs_field (want_none rfl) _ _ _ rfl gM (0) (4) (hG.other 6 rfl) (fun wz => field_mkx_4 gM (0) wz) rfl) ?_
          refine Steps.cons (fun a' w' hG hB dep => gs_field (want_none rfl) _ _ _ rfl gM (4) (6) (dep 14 rfl 99 rfl) (fun wz => field_lsx_2 gM (4) wz) rfl) ?_
          refine Steps.cons (fun a' w' hG hB dep => gs_load1 (want_none rfl) _ _ rfl gM (6) (dep 15 rfl 100 rfl) (.int .i64 (m.cuts)) ((blk_then hM hB).cellv (i := 6) rfl) _ Tryz.underlying3 rfl rfl) ?_
          refine Steps.cons (fun a' w' hG hB dep => gs_call (want_none rfl) _ _ _ rfl enter_written _ (map1 (dep 16 rfl 101 rfl)) ((wq_any m.cuts hmo.2.2.2.2.2.2.1 _).mono fun e w2 ⟨hq9, hb9⟩ => ⟨_, hq9, hb9, rfl⟩)) ?_
          refine Steps.cons (fun a' w' hG hB dep => gs_cat2 (want_none rfl) _ _ _ _ rfl ((JB ((((((ws ++ [(Lib.itoa m.serial)]) ++ [(Lib.itoa m.inode)]) ++ [(Lib.itoa m.gen)]) ++ [(Lib.itoa m.off)]) ++ [(Lib.itoa m.missed)]) ++ [(Lib.itoa m.gone)])) ++ (⟨#[32]⟩ : ByteArray)) ⟨(quo (Lib.itoa m.cuts)).toArray⟩ (dep 13 rfl 98 rfl) (dep 17 rfl 102 rfl) (by rw [ByteArray.size_append]; show (JB ((((((ws ++ [(Lib.itoa m.serial)]) ++ [(Lib.itoa m.inode)]) ++ [(Lib.itoa m.gen)]) ++ [(Lib.itoa m.off)]) ++ [(Lib.itoa m.missed)]) ++ [(Lib.itoa m.gone)])).size + 1 + (quo (Lib.itoa m.cuts)).length ≤ _; have h2 := qi_len m.cuts hmo.2.2.2.2.2.2.1; omega) (JB (((((((ws ++ [(Lib.itoa m.serial)]) ++ [(Lib.itoa m.inode)]) ++ [(Lib.itoa m.gen)]) ++ [(Lib.itoa m.off)]) ++ [(Lib.itoa m.missed)]) ++ [(Lib.itoa m.gone)]) ++ [(Lib.itoa m.cuts)])) (JB_snoc (ws := ((((((ws ++ [(Lib.itoa m.serial)]) ++ [(Lib.itoa m.inode)]) ++ [(Lib.itoa m.gen)]) ++ [(Lib.itoa m.off)]) ++ [(Lib.itoa m.missed)]) ++ [(Lib.itoa m.gone)])) (by simp [hne]) _) rfl) ?_
          refine Steps.cons (fun a' w' hG hB dep => gs_cat (want_none rfl) _ _ _ _ rfl (JB (((((((ws ++ [(Lib.itoa m.serial)]) ++ [(Lib.itoa m.inode)]) ++ [(Lib.itoa m.gen)]) ++ [(Lib.itoa m.off)]) ++ [(Lib.itoa m.missed)]) ++ [(Lib.itoa m.gone)]) ++ [(Lib.itoa m.cuts)])) (⟨#[32]⟩ : ByteArray) (dep 18 rfl 103 rfl) rfl (by show ((JB (((((((ws ++ [(Lib.itoa m.serial)]) ++ [(Lib.itoa m.inode)]) ++ [(Lib.itoa m.gen)]) ++ [(Lib.itoa m.off)]) ++ [(Lib.itoa m.missed)]) ++ [(Lib.itoa m.gone)]) ++ [(Lib.itoa m.cuts)]))).size + 1 ≤ _; omega) rfl) ?_
          refine Steps.cons (fun a' w' hG hB dep => gs_field (want_none rfl) _ _ _ rfl gM (0) (4) (hG.other 6 rfl) (fun wz => field_mkx_4 gM (0) wz) rfl) ?_
          refine Steps.cons (fun a' w' hG hB dep => gs_field (want_none rfl) _ _ _ rfl gM (4) (7) (dep 20 rfl 105 rfl) (fun wz => field_lsx_3 gM (4) wz) rfl) ?_
          refine Steps.cons (fun a' w' hG hB dep => gs_load1 (want_none rfl) _ _ rfl gM (7) (dep 21 rfl 106 rfl) (.int .i64 (m.tails)) ((blk_then hM hB).cellv (i := 7) rfl) _ Tryz.underlying3 rfl rfl) ?_
          refine Steps.cons (fun a' w' hG hB dep => gs_call (want_none rfl) _ _ _ rfl enter_written _ (map1 (dep 22 rfl 107 rfl)) ((wq_any m.tails hmo.2.2.2.2.2.2.2.1 _).mono fun e w2 ⟨hq9, hb9⟩ => ⟨_, hq9, hb9, rfl⟩)) ?_
          refine Steps.cons (fun a' w' hG hB dep => gs_cat2 (want_none rfl) _ _ _ _ rfl ((JB (((((((ws ++ [(Lib.itoa m.serial)]) ++ [(Lib.itoa m.inode)]) ++ [(Lib.itoa m.gen)]) ++ [(Lib.itoa m.off)]) ++ [(Lib.itoa m.missed)]) ++ [(Lib.itoa m.gone)]) ++ [(Lib.itoa m.cuts)])) ++ (⟨#[32]⟩ : ByteArray)) ⟨(quo (Lib.itoa m.tails)).toArray⟩ (dep 19 rfl 104 rfl) (dep 23 rfl 108 rfl) (by rw [ByteArray.size_append]; show (JB (((((((ws ++ [(Lib.itoa m.serial)]) ++ [(Lib.itoa m.inode)]) ++ [(Lib.itoa m.gen)]) ++ [(Lib.itoa m.off)]) ++ [(Lib.itoa m.missed)]) ++ [(Lib.itoa m.gone)]) ++ [(Lib.itoa m.cuts)])).size + 1 + (quo (Lib.itoa m.tails)).length ≤ _; have h2 := qi_len m.tails hmo.2.2.2.2.2.2.2.1; omega) (JB ((((((((ws ++ [(Lib.itoa m.serial)]) ++ [(Lib.itoa m.inode)]) ++ [(Lib.itoa m.gen)]) ++ [(Lib.itoa m.off)]) ++ [(Lib.itoa m.missed)]) ++ [(Lib.itoa m.gone)]) ++ [(Lib.itoa m.cuts)]) ++ [(Lib.itoa m.tails)])) (JB_snoc (ws := (((((((ws ++ [(Lib.itoa m.serial)]) ++ [(Lib.itoa m.inode)]) ++ [(Lib.itoa m.gen)]) ++ [(Lib.itoa m.off)]) ++ [(Lib.itoa m.missed)]) ++ [(Lib.itoa m.gone)]) ++ [(Lib.itoa m.cuts)])) (by simp [hne]) _) rfl) ?_
          refine Steps.cons (fun a' w' hG hB dep => gs_cat (want_none rfl) _ _ _ _ rfl (JB ((((((((ws ++ [(Lib.itoa m.serial)]) ++ [(Lib.itoa m.inode)]) ++ [(Lib.itoa m.gen)]) ++ [(Lib.itoa m.off)]) ++ [(Lib.itoa m.missed)]) ++ [(Lib.itoa m.gone)]) ++ [(Lib.itoa m.cuts)]) ++ [(Lib.itoa m.tails)])) (⟨#[32]⟩ : ByteArray) (dep 24 rfl 109 rfl) rfl (by show ((JB ((((((((ws ++ [(Lib.itoa m.serial)]) ++ [(Lib.itoa m.inode)]) ++ [(Lib.itoa m.gen)]) ++ [(Lib.itoa m.off)]) ++ [(Lib.itoa m.missed)]) ++ [(Lib.itoa m.gone)]) ++ [(Lib.itoa m.cuts)]) ++ [(Lib.itoa m.tails)]))).size + 1 ≤ _; omega) rfl) ?_
          refine Steps.cons (fun a' w' hG hB dep => gs_field (want_none rfl) _ _ _ rfl gM (0) (4) (hG.other 6 rfl) (fun wz => field_mkx_4 gM (0) wz) rfl) ?_
          refine Steps.cons (fun a' w' hG hB dep => gs_field (want_none rfl) _ _ _ rfl gM (4) (8) (dep 26 rfl 111 rfl) (fun wz => field_lsx_4 gM (4) wz) rfl) ?_
          refine Steps.cons (fun a' w' hG hB dep => gs_load1 (want_none rfl) _ _ rfl gM (8) (dep 27 rfl 112 rfl) (.int .i64 (m.long)) ((blk_then hM hB).cellv (i := 8) rfl) _ Tryz.underlying3 rfl rfl) ?_
          refine Steps.cons (fun a' w' hG hB dep => gs_call (want_none rfl) _ _ _ rfl enter_written _ (map1 (dep 28 rfl 113 rfl)) ((wq_any m.long hmo.2.2.2.2.2.2.2.2 _).mono fun e w2 ⟨hq9, hb9⟩ => ⟨_, hq9, hb9, rfl⟩)) ?_
          refine Steps.cons (fun a' w' hG hB dep => gs_cat2 (want_none rfl) _ _ _ _ rfl ((JB ((((((((ws ++ [(Lib.itoa m.serial)]) ++ [(Lib.itoa m.inode)]) ++ [(Lib.itoa m.gen)]) ++ [(Lib.itoa m.off)]) ++ [(Lib.itoa m.missed)]) ++ [(Lib.itoa m.gone)]) ++ [(Lib.itoa m.cuts)]) ++ [(Lib.itoa m.tails)])) ++ (⟨#[32]⟩ : ByteArray)) ⟨(quo (Lib.itoa m.long)).toArray⟩ (dep 25 rfl 110 rfl) (dep 29 rfl 114 rfl) (by rw [ByteArray.size_append]; show (JB ((((((((ws ++ [(Lib.itoa m.serial)]) ++ [(Lib.itoa m.inode)]) ++ [(Lib.itoa m.gen)]) ++ [(Lib.itoa m.off)]) ++ [(Lib.itoa m.missed)]) ++ [(Lib.itoa m.gone)]) ++ [(Lib.itoa m.cuts)]) ++ [(Lib.itoa m.tails)])).size + 1 + (quo (Lib.itoa m.long)).length ≤ _; have h2 := qi_len m.long hmo.2.2.2.2.2.2.2.2; omega) (JB (((((((((ws ++ [(Lib.itoa m.serial)]) ++ [(Lib.itoa m.inode)]) ++ [(Lib.itoa m.gen)]) ++ [(Lib.itoa m.off)]) ++ [(Lib.itoa m.missed)]) ++ [(Lib.itoa m.gone)]) ++ [(Lib.itoa m.cuts)]) ++ [(Lib.itoa m.tails)]) ++ [(Lib.itoa m.long)])) (JB_snoc (ws := ((((((((ws ++ [(Lib.itoa m.serial)]) ++ [(Lib.itoa m.inode)]) ++ [(Lib.itoa m.gen)]) ++ [(Lib.itoa m.off)]) ++ [(Lib.itoa m.missed)]) ++ [(Lib.itoa m.gone)]) ++ [(Lib.itoa m.cuts)]) ++ [(Lib.itoa m.tails)])) (by simp [hne]) _) rfl) ?_
          exact Steps.nil
        intro u w6 hw6 ans
        have hus115 : u 115 = (.string (JB (((((((((ws ++ [(Lib.itoa m.serial)]) ++ [(Lib.itoa m.inode)]) ++ [(Lib.itoa m.gen)]) ++ [(Lib.itoa m.off)]) ++ [(Lib.itoa m.missed)]) ++ [(Lib.itoa m.gone)]) ++ [(Lib.itoa m.cuts)]) ++ [(Lib.itoa m.tails)]) ++ [(Lib.itoa m.long)]))) := ans 30 115 (by decide) rfl
        clear ans
        simp only [putAll, List.foldl_cons, List.foldl_nil, Act.put, List.setIfInBounds_toArray, List.set_cons_zero, List.set_cons_succ, hus115]
        clear hus115
        simp only [List.drop]
        have hfs : (JB (((((((((ws ++ [(Lib.itoa m.serial)]) ++ [(Lib.itoa m.inode)]) ++ [(Lib.itoa m.gen)]) ++ [(Lib.itoa m.off)]) ++ [(Lib.itoa m.missed)]) ++ [(Lib.itoa m.gone)]) ++ [(Lib.itoa m.cuts)]) ++ [(Lib.itoa m.tails)]) ++ [(Lib.itoa m.long)])).size ≤ 4 + 198 * (i + 1) := by omega
        clear hmo hs4 ht1 ht2 ht3 ht4 ht5
        go_wp2_with (fail)
        exact ⟨⟨i + 1, _, rfl, rfl, by omega, by simp, hfs, hwd2, blk_then hb5 hw6, hBw5.trans (hw6.mono (Nat.le_of_lt hb5.lt))⟩, by simp only [intOf]; omega⟩
      · have hI : ¬ (i : Int) < x.m := by omega
        have hv2 : Hid (V = .string (JB ws)) := Lib.hid (by
          rw [hv.out, hwd.out, List.take_of_length_le (by rw [← hml.out]; omega)])
        clear hwd
        go_wp2_with (fail)
        go_ret
        exact ⟨by rw [hv2.out]; rfl, by rw [← hgN.out]; exact hBw⟩
end Go.Proofs.YtjplgcmfifoefaaGreatDoor
namespace Go.Proofs.YtjplgcmfifoefaaGreatDoor
open Go.RowKit Go.Shelf Go.Maps
set_option linter.unusedVariables false
set_option linter.unusedSimpArgs false
attribute [local go_sem] Oper.semAt_some

theorem part_ls0 (e : MkV) (w : World) : (part 3 e.L 0).run Tryz.prog w = .ok (.int .i64 e.missed) w := by kernel_rfl
theorem part_ls1 (e : MkV) (w : World) : (part 3 e.L 1).run Tryz.prog w = .ok (.int .i64 e.gone) w := by kernel_rfl
theorem part_ls2 (e : MkV) (w : World) : (part 3 e.L 2).run Tryz.prog w = .ok (.int .i64 e.cuts) w := by kernel_rfl
theorem part_ls3 (e : MkV) (w : World) : (part 3 e.L 3).run Tryz.prog w = .ok (.int .i64 e.tails) w := by kernel_rfl
theorem part_ls4 (e : MkV) (w : World) : (part 3 e.L 4).run Tryz.prog w = .ok (.int .i64 e.long) w := by kernel_rfl
theorem part_mk0 (e : MkV) (w : World) : (part 3 e.C 0).run Tryz.prog w = .ok (.int .i64 e.serial) w := by kernel_rfl
theorem part_mk1 (e : MkV) (w : World) : (part 3 e.C 1).run Tryz.prog w = .ok (.int .i64 e.inode) w := by kernel_rfl
theorem part_mk2 (e : MkV) (w : World) : (part 3 e.C 2).run Tryz.prog w = .ok (.int .i64 e.gen) w := by kernel_rfl
theorem part_mk3 (e : MkV) (w : World) : (part 3 e.C 3).run Tryz.prog w = .ok (.int .i64 e.off) w := by kernel_rfl
theorem part_mk4 (e : MkV) (w : World) : (part 35 e.C 4).run Tryz.prog w = .ok (.agg e.L) w := by kernel_rfl
def lossEq (a b : MkV) : Bool := decide (a.missed = b.missed ∧ a.gone = b.gone ∧ a.cuts = b.cuts ∧ a.tails = b.tails ∧ a.long = b.long)
theorem eq_loss_at (d : Nat) (a b : MkV) (w : World) : (Op.equalIn (d + 2) 35 (.agg a.L) (.agg b.L)).run Tryz.prog w = .ok (lossEq a b) w := by
  have hf : Tryz.prog.fieldsOf 35 = Tryz.prog.fieldsOf 35 := rfl
  conv at hf => rhs; simp only [Program.fieldsOf, Tryz.underlying35]
  have hu : Tryz.prog.underlying 35 = some (.struct (Tryz.prog.fieldsOf 35)) := by rw [hf]; exact Tryz.underlying35
  have e1 := fun w x y => run_equalIn_int (P := Tryz.prog) w d 3 .i64 .i64 x y Tryz.underlying3
  rw [show d + 2 = (d + 1) + 1 from rfl, run_equalIn_struct w (d + 1) _ _ _ hu (by kernel_rfl), hf]
  simp only [Op.eqFields, ne_eq, String.reduceEq, not_false_eq_true, if_true, Sem.run_bind, part_ls0, part_ls1, part_ls2, part_ls3, part_ls4, Result.andThen_ok, e1, Sem.run_ite, Sem.run_pure]
  unfold lossEq
  by_cases h1 : a.missed = b.missed <;> by_cases h2 : a.gone = b.gone <;> by_cases h3 : a.cuts = b.cuts <;> by_cases h4 : a.tails = b.tails <;> by_cases h5 : a.long = b.long <;> simp [h1, h2, h3, h4, h5]
theorem mk_dec (a b : MkV) : decide (a = b) = (decide (a.serial = b.serial) && (decide (a.inode = b.inode) && (decide (a.gen = b.gen) && (decide (a.off = b.off) && lossEq a b)))) := by
  rw [Bool.eq_iff_iff]
  unfold lossEq
  simp only [decide_eq_true_eq, Bool.and_eq_true]
  constructor
  · rintro rfl; exact ⟨rfl, rfl, rfl, rfl, rfl, rfl, rfl, rfl, rfl⟩
  · obtain ⟨a1, a2, a3, a4, a5, a6, a7, a8, a9⟩ := a
    obtain ⟨b1, b2, b3, b4, b5, b6, b7, b8, b9⟩ := b
    rintro ⟨rfl, rfl, rfl, rfl, rfl, rfl, rfl, rfl, rfl⟩; rfl
theorem eq_mark_at (d : Nat) (a b : MkV) (w : World) : (Op.equalIn (d + 3) 37 (.agg a.C) (.agg b.C)).run Tryz.prog w = .ok (decide (a = b)) w := by
  have hf : Tryz.prog.fieldsOf 37 = Tryz.prog.fieldsOf 37 := rfl
  conv at hf => rhs; simp only [Program.fieldsOf, Tryz.underlying37]
  have hu : Tryz.prog.underlying 37 = some (.struct (Tryz.prog.fieldsOf 37)) := by rw [hf]; exact Tryz.underlying37
  have e1 := fun w x y => run_equalIn_int (P := Tryz.prog) w (d + 1) 3 .i64 .i64 x y Tryz.underlying3
  have e2 := fun w => eq_loss_at d a b w
  rw [show d + 3 = (d + 2) + 1 from rfl, run_equalIn_struct w (d + 2) _ _ _ hu (by kernel_rfl), hf]
  simp only [Op.eqFields, ne_eq, String.reduceEq, not_false_eq_true, if_true, Sem.run_bind, part_mk0, part_mk1, part_mk2, part_mk3, part_mk4, Result.andThen_ok, e1, e2, Sem.run_ite, Sem.run_pure]
  rw [mk_dec]
  by_cases h1 : a.serial = b.serial <;> by_cases h2 : a.inode = b.inode <;> by_cases h3 : a.gen = b.gen <;> by_cases h4 : a.off = b.off <;> cases h5 : lossEq a b <;> simp [h1, h2, h3, h4, h5]
theorem guard_mark : Tryz.prog.eqGuardType Tryz.prog.depth 37 = false := by kernel_rfl
theorem run_neq_mark (a b : MkV) (w : World) : (binOp .neq 37 (.agg a.C) (.agg b.C)).run Tryz.prog w = .ok (.bool (!decide (a = b))) w := by
  rw [run_neq_struct, show (10000 : Nat) = 9997 + 3 from rfl, eq_mark_at]; rfl
theorem gs_neq_mark {ops : Array Oper} {S : Nat → GSpec} {Q : Exit → Act → World → Prop} {i : Nat} {o : Oper} {a : Act} {w : World} (hw : Region.wanted o (yielded ops a.tmps) = true) (t2 : TypeId) (x y : Operand) (ho : o.op = .binOp .neq 37 x y t2) (p : MkV) (hx : a.eval x = .agg p.C) (hy : a.eval y = .agg p.C)
    (hp : (S i).p (.bool false) w) : GStep Tryz.prog ops S Q i o a w :=
  gs_bin hw _ _ _ x y ho _ _ _ hx hy (run_eqGuard_agg w _ _ _ _ _ _ guard_mark) (by rw [run_neq_mark, decide_eq_true rfl]; rfl) hp
theorem gs_load_mk_at {ops : Array Oper} {S : Nat → GSpec} {Q : Exit → Act → World → Prop} {i : Nat} {o : Oper} {a : Act} {w : World} (hw : Region.wanted o (yielded ops a.tmps) = true) (x : Operand) (ho : o.op = .load 37 x) (b off : Nat) (hx : a.eval x = .pointer (some ⟨b, off, none⟩)) (y : MkV) (hr : RowAt w b off y.C)
    (hp : (S i).p (.agg y.C) w) : GStep Tryz.prog ops S Q i o a w :=
  gs_run hw (v := .agg y.C) (by unfold execOp; simp only [ho, hx, Instr.loadAt, Instr.sureAddr, Sem.run_bind, Sem.run_pure, Result.andThen_ok, run_loadVar_at w b off _ _ _ hr Tryz.underlying37 rfl (info_mk.trans rfl)]) (Below.refl _ _) hp
theorem under_mks : Tryz.prog.underlying 41 = some (.slice (Tryz.prog.elem 41)) := by kernel_rfl
theorem size_mks (w : World) : (sizeOf (Tryz.prog.elem 41)).run Tryz.prog w = .ok 9 w := by kernel_rfl
theorem info_mk3 : (Tryz.prog.info? 37).map (fun i => (i.zero, i.size, i.bytes)) = some (some (.agg #[.int .i64 0, .int .i64 0, .int .i64 0, .int .i64 0, .int .i64 0, .int .i64 0, .int .i64 0, .int .i64 0, .int .i64 0]), 9, 72) := by kernel_rfl
theorem mkC_size (m : MkV) : m.C.size = 9 := rfl
theorem mkC_one (m : MkV) : m.C.all (·.oneCell') = true := by simp [MkV.C, Value.oneCell']
theorem info_nt : (Tryz.prog.info? 43).map (·.size) = some 15 := by kernel_rfl
theorem isz_mks : (Tryz.prog.info? 41).map (·.size) = some 1 := by kernel_rfl
theorem run_bM0 (w : World) : (Instr.buildSlice 41 0 #[]).run Tryz.prog w = .ok (.slice (some ⟨w.heap.size, 0, none⟩) 0 0) (w.alloc (.cells #[] 37)) := by kernel_rfl
theorem run_bM1 (w : World) (m : MkV) : (Instr.buildSlice 41 1 #[(0, .agg m.C)]).run Tryz.prog w = .ok (.slice (some ⟨w.heap.size, 0, none⟩) 1 1) (w.alloc (.cells m.C 37)) := by kernel_rfl
section
variable {ops : Array Oper} {rest : List Oper} {o : Oper} {a : Act} {w : World} {Q : Exit → Act → World → Prop}
theorem wl_bM0 (hgd : o.guard = none) (ho : o.op = .buildSlice 41 0 #[]) (h : wpList Tryz.prog ops Q rest (a.put o.dst (.slice (some ⟨w.heap.size, 0, none⟩) 0 0)) (w.alloc (.cells #[] 37))) : wpList Tryz.prog ops Q (o :: rest) a w :=
  wpList_plain hgd fun _ hK => by
    unfold Oper.wp execOp
    simp only [ho, List.map_toArray, List.map_nil, Sem.run_bind, run_bM0, Result.andThen_ok, Sem.run_pure]
    exact hK _ _ h
theorem wl_bM1 (hgd : o.guard = none) (x : Operand) (ho : o.op = .buildSlice 41 1 #[(0, x)]) (m : MkV) (hx : a.eval x = .agg m.C) (h : wpList Tryz.prog ops Q rest (a.put o.dst (.slice (some ⟨w.heap.size, 0, none⟩) 1 1)) (w.alloc (.cells m.C 37))) : wpList Tryz.prog ops Q (o :: rest) a w :=
  wpList_plain hgd fun _ hK => by
    unfold Oper.wp execOp
    simp only [ho, List.map_toArray, List.map_cons, List.map_nil, hx, Sem.run_bind, run_bM1, Result.andThen_ok, Sem.run_pure]
    exact hK _ _ h
theorem wl_appM (hgd : o.guard = none) (s x : Operand) (ho : o.op = .call { callee := .builtin .append, args := #[s, x], argTypes := #[41, 41] })
    (base : Nat) (l ys : List MkV) {A B : Option Addr} {n c m d lo : Nat} (hs : a.eval s = .slice A n c) (hx : a.eval x = .slice B m d) (hm : m = ys.length) (hy : SliceOf w lo 9 MkV.C B ys) (hown : Own w base 37 9 MkV.C (.slice A n c) l) (hn : n = l.length) (hl : l.length + ys.length ≤ 1073741824) (hbase : base ≤ w.heap.size)
    (h : ∀ A' c' w', Own w' base 37 9 MkV.C (.slice A' (n + m) c') (l ++ ys) → w.grownBy w' (Value.slice A n c).ownBlock → wpList Tryz.prog ops Q rest (a.put o.dst (.slice A' (n + m) c')) w') : wpList Tryz.prog ops Q (o :: rest) a w := by
  obtain ⟨ii, hii, hz0, hz1, hz2⟩ := info_parts info_mk3
  subst hn
  subst hm
  refine wl_append _ hgd _ _ 41 ho base 37 ii _ 9 72 Tryz.underlying41 hii hz0 hz1 hz2 rfl (by decide) mkC_size mkC_one (.slice A l.length c) l hs hown lo _ ys.length d ys hx rfl hy (by unfold maxLen; omega) (by omega) hbase ?_
  intro v' w' ho' hg hv
  obtain ⟨A', c', rfl, _, _⟩ := ho'.shape
  have hl8 : (l ++ ys).length = l.length + ys.length := by simp
  rw [hl8] at ho' hv ⊢
  exact h _ _ _ ho' hg
theorem wl_store_nt (hgd : o.guard = none) (x y : Operand) (ho : o.op = .store 43 x y)
    (g : Nat) (u v : NtV) (hx : a.eval x = .pointer (some ⟨g, 0, none⟩)) (hy : a.eval y = .agg u.C) (hb : Blk w g 43 v.C)
    (h : ∀ w', Blk w' g 43 u.C → w.grownBy w' (some g) → wpList Tryz.prog ops Q rest (a.put o.dst undef) w') : wpList Tryz.prog ops Q (o :: rest) a w :=
  wpList_store_row hgd _ x y ho g _ hx hy _ _ hb (info_nt.trans rfl) rfl (by simp [NtV.C, Value.oneCell']) (h _ (hb.setRow_same _) (only_setRow (only_refl _ _) _))
end
/-- one cell of an element of a row of the call's own is written -/
theorem wl_store_q {α : Type} {enc : α → Array Value} {base size : Nat} {e : TypeId} {w : World} {ys : List α} {ops : Array Oper} {rest : List Oper} {o : Oper} {a : Act} {Q : Exit → Act → World → Prop} (hsE : ∀ y, (enc y).size = size) (hgd : o.guard = none) (t : TypeId) (hsz : (Tryz.prog.info? t).map (·.size) = some 1) (x y : Operand) (ho : o.op = .store t x y)
    (g k q n cap : Nat) (hq : q < size) (hx : a.eval x = .pointer (some ⟨g, k * size + q, none⟩)) (z : α) (hk : k < ys.length) (hy : (enc z).toList = (enc ys[k]).toList.set q (a.eval y)) (hyc : (a.eval y).cells = #[a.eval y]) (hy1 : (a.eval y).oneCell' = true) (hown : Own w base e size enc (.slice (some ⟨g, 0, none⟩) n cap) ys)
    (h : ∀ w', Own w' base e size enc (.slice (some ⟨g, 0, none⟩) n cap) (ys.set k z) → w.grownBy w' (some g) → wpList Tryz.prog ops Q rest (a.put o.dst undef) w') : wpList Tryz.prog ops Q (o :: rest) a w := by
  have hcell : ∃ u, w.cell? ⟨g, k * size + q, none⟩ = some u := by
    have h0 : q < (enc ys[k]).size := by rw [hsE]; exact hq
    exact ⟨_, hown.row hsE k hk q _ (Array.getElem?_eq_getElem h0)⟩
  obtain ⟨u, hcell⟩ := hcell
  have hfr := hown.frozen (k * size + q)
  obtain ⟨v, hv⟩ : ∃ v, a.eval y = v := ⟨_, rfl⟩
  rw [hv] at hy hyc hy1
  have hrun : (storeVar t ⟨g, k * size + q, none⟩ v).run Tryz.prog w = .ok () (w.setCell ⟨g, k * size + q, none⟩ v) := by
    cases hq : Tryz.prog.info? t with
    | none => rw [hq] at hsz; cases hsz
    | some j =>
      have hs : j.size = 1 := by rw [hq] at hsz; simpa using hsz
      have e := run_store Tryz.prog w ⟨g, k * size + q, none⟩ v .plain hy1
      simp only [hcell, hfr, Bool.false_eq_true, if_false] at e
      have e0 : (⟨g, k * size + q, none⟩ : Addr).add 0 = ⟨g, k * size + q, none⟩ := rfl
      simp [storeVar, sizeOf, typeInfo, hq, hs, hyc, storeCells, e0, e]
  refine wpList_plain hgd fun _ hK => ?_
  unfold Oper.wp execOp
  simp only [ho, hx, hv, Instr.storeAt, Instr.sureAddr, Sem.run_bind, Sem.run_pure, Result.andThen_ok, hrun]
  exact hK _ _ (h _ (hown.setCell (i := k) (q := q) (y' := z) (u := v) hsE hk hq hy) (only_setCell (only_refl _ _) (.inl rfl) _))
theorem enter_stell (args : Array Value) (w : World) : (callFunc 12 args).run Tryz.prog w = .ok (.enter 12 args) w := by kernel_rfl
theorem enter_rtell (args : Array Value) (w : World) : (callFunc 13 args).run Tryz.prog w = .ok (.enter 13 args) w := by kernel_rfl
def mk77 : MkV := ⟨0, 0, 0, 77, 0, 0, 0, 0, 0⟩
set_option maxRecDepth 100000 in
set_option maxHeartbeats 16000000 in
theorem scriptTells_any (x : NtV) (ks : List MkV) (w : World) (hx : NtOk w x ks) (hS : SOk w) :
    Calls Tryz.prog 5 #[.agg x.C] w fun e w' => e = .returned (.bool true) ∧ Below w.heap.size w w' := by
  have h7 := hS.size
  replace hS := Lib.hid hS
  go_enter Tryz.func5, Tryz.ntmps5
  go_upto_region 1 with (fail)
  have hE : Blk (w.alloc (.cells x.C 43)) w.heap.size 43 x.C := Blk.new w _ _
  have hBw := below_alloc (Below.refl w.heap.size w) (.cells x.C 43)
  obtain ⟨w1, hw1⟩ : ∃ y, y = w.alloc (.cells x.C 43) := ⟨_, rfl⟩
  rw [← hw1] at hE hBw ⊢
  clear hw1
  have kF := fixed_any w1 (hS.out.then_ h7 hBw)
  obtain ⟨gN, hgN⟩ : ∃ y, y = w.heap.size := ⟨_, rfl⟩
  rw [← hgN] at hE ⊢
  go_upto_region 3 with (go_at_call 6; refine kF.mono ?_; clear kF; rintro e w2 ⟨rfl, hB2⟩; refine Lib.hid ?_)
  have hE2 := blk_then hE hB2
  have hBw2 : Below w.heap.size w w2 := hBw.trans (hB2.mono hBw.size)
  have hml := Lib.hid hx.len
  have hfew := hx.few
  have hslg : SliceOf w gN 9 MkV.C x.A ks := by rw [hgN]; exact hx.sl
  have hsl2 := (hx.then_ hBw2).sl
  replace hgN := Lib.hid hgN
  have cS : w2.cell? ⟨gN, 14, none⟩ = some (.slice x.A x.m x.c) := hE2.cellv rfl
  have hgl := hE2.lt
  replace hx := Lib.hid hx
  clear hE hBw hB2
  go_upto_region 4 with (first
    | (refine wl_bM0 rfl rfl ?_)
    | (refine wl_appM rfl _ _ rfl w2.heap.size [] ks rfl rfl hml.out (SliceOf.then_' hsl2 (below_alloc (Below.refl w2.heap.size w2) (.cells #[] 37))) (own_made (ys := []) mkC_size (Blk.new w2 37 #[]) rfl rfl (Nat.le_refl _) (by unfold maxLen; decide)) rfl (by have := hml.out; simp; omega) (by rw [World.size_alloc]; omega) ?_; intro A3 c3 w3 ho3 hg3; rw [List.nil_append, Nat.zero_add] at ho3; rw [Nat.zero_add])
    | (refine wl_bM1 rfl _ rfl mk77 rfl ?_)
    | (refine wl_appM rfl _ _ rfl w2.heap.size ks [mk77] rfl rfl rfl (slice_one (enc := MkV.C) (size := 9) (Blk.new _ _ _)) (ho3.alloc _) hml.out (by have := hml.out; simp; omega) (by have := hg3.size; rw [World.size_alloc] at this; rw [World.size_alloc]; omega) ?_; intro A c w4 ho4 hg4))
  have hB23 : Below w2.heap.size w2 w3 := (below_alloc (Below.refl w2.heap.size w2) (.cells #[] 37)).grown hg3 (by rw [World.size_alloc]; omega) (by rintro k ⟨⟩; exact Nat.le_refl _)
  have hB24 : Below w2.heap.size w2 w4 := (hB23.alloc hB23.size (.cells mk77.C 37)).grown hg4 (by rw [World.size_alloc]; have := hB23.size; omega) (fun k e => (ho3.lt k e).1)
  have hE4 := blk_then hE2 hB24
  have hBw4 := hBw2.trans (hB24.mono hBw2.size)
  obtain ⟨gA, cap, hvA, hAb, hAl, hAc, hAm⟩ := ho4.form (by simp)
  injection hvA with hA hq1 hq2
  subst hA
  subst hq2
  have hmc : x.m + 1 ≤ c := by rw [List.length_append, ← hml.out] at hAc; exact hAc
  have hz24 := hB24.size
  clear hg3 hg4 ho3 hB23 hsl2 cS hq1 hAm hAc
  go_upto_region 5 with (first
    | (refine wpList_load_row rfl _ _ rfl gN rfl _ _ _ _ hE4 Tryz.underlying43 rfl (info_nt.trans rfl) ?_)
    | (refine wl_store_nt rfl _ _ rfl w4.heap.size x ⟨0, ⟨0, ⟨0, 0, 0, 0, 0, 0, 0, 0, 0⟩, ⟨#[]⟩, 0⟩, 0, none, 0, 0⟩ rfl rfl (Blk.new _ _ _) ?_; intro w5 hX hg5))
  have hB45 := below_grown (below_alloc (Below.refl w4.heap.size w4) _) hg5 (Nat.le_refl _)
  obtain ⟨gX, hgX⟩ : ∃ y, y = w4.heap.size := ⟨_, rfl⟩
  rw [← hgX] at hX ⊢
  have hE := blk_then hE4 hB45
  have ho5 := ho4.then_ hB45
  have hBw5 := hBw4.trans (hB45.mono hBw4.size)
  have hXl := hX.lt
  have hz45 := hB45.size
  have hgAX : gA < gX := by omega
  have hgEX : gN < gX := by omega
  replace hgX := Lib.hid hgX
  clear hg5 hB45 hE4 hE2 ho4 hBw4
  refine wp_region_text 6 [eqS (.slice (some ⟨gA, 0, none⟩) (x.m + 1) c), eqS (.pointer (some ⟨gN, 14, none⟩)), eqS (.slice x.A x.m x.c), eqS (.int .i64 (((x.m : Nat) : Int))), eqS (.slice (some ⟨gA, 0, none⟩) x.m c), eqS (.pointer (some ⟨gX, 14, none⟩))] [16, 17, 18, 19, 20, 21] (by kernel_rfl) (by kernel_rfl) ?_ ?_
  · skip
    refine Steps.cons (fun a' w' hG hB dep => gs_move (want_none rfl) _ rfl (id (hG.other 3 rfl))) ?_
    refine Steps.cons (fun a' w' hG hB dep => gs_field (want_none rfl) _ _ _ rfl gN (0) (14) (hG.other 1 rfl) (fun wz => field_ntx_3 gN (0) wz) rfl) ?_
    refine Steps.cons (fun a' w' hG hB dep => gs_load1 (want_none rfl) _ _ rfl gN (14) (dep 1 rfl 17 rfl) (.slice x.A x.m x.c) ((blk_then hE hB).cellv (i := 14) rfl) _ Tryz.underlying41 rfl rfl) ?_
    refine Steps.cons (fun a' w' hG hB dep => gs_len (want_none rfl) _ _ rfl under_mks x.A x.m x.c (dep 2 rfl 18 rfl) rfl) ?_
    refine Steps.cons (fun a' w' hG hB dep => gs_slice_to (want_none rfl) _ _ _ rfl under_mks 9 size_mks ⟨gA, 0, none⟩ (x.m + 1) c x.m (dep 0 rfl 16 rfl) (dep 3 rfl 19 rfl) (by omega) rfl) ?_
    refine Steps.cons (fun a' w' hG hB dep => gs_field (want_none rfl) _ _ _ rfl gX (0) (14) (hG.other 4 rfl) (fun wz => field_ntx_3 gX (0) wz) rfl) ?_
    exact Steps.nil
  intro u w6 hw6 ans
  have hus20 : u 20 = (.slice (some ⟨gA, 0, none⟩) x.m c) := ans 4 20 (by decide) rfl
  have hus21 : u 21 = (.pointer (some ⟨gX, 14, none⟩)) := ans 5 21 (by decide) rfl
  clear ans
  simp only [putAll, List.foldl_cons, List.foldl_nil, Act.put, List.setIfInBounds_toArray, List.set_cons_zero, List.set_cons_succ, hus20, hus21]
  clear hus20 hus21
  simp only [List.drop]
  have hX6 := blk_then hX hw6
  go_upto_region 6 with (refine wl_store_cell rfl _ _ _ rfl gX 14 rfl _ _ ({ x with A := some ⟨gA, 0, none⟩, c := c } : NtV).C hX6 (by show 14 < 15; decide) isz_mks rfl rfl rfl ?_; intro w7 hX7 hg7)
  have hE6 := blk_then hE hw6
  have ho6 := ho5.then_ hw6
  have hz56 := hw6.size
  have hE7 := blk_grown hE6 hg7 (by omega)
  have ho7 := ho6.kept_ hg7 (fun j h1 h2 => by
    have h3 : j = gA := by
      have : some gA = some j := h1
      injection this with this
      exact this.symm
    injection h2 with h2
    omega)
  have hBw7 : Below w.heap.size w w7 := (hBw5.trans (hw6.mono hBw5.size)).grown hg7 (by have := hBw5.size; omega) (by rintro k ⟨⟩; have := hBw2.size; omega)
  have hAl7 : gA < w7.heap.size := by have := hg7.size; omega
  have hB27 : w2.heap.size ≤ w7.heap.size := by have := hg7.size; omega
  obtain ⟨y, hy⟩ : ∃ y : NtV, y = { x with A := some ⟨gA, 0, none⟩, c := c } := ⟨_, rfl⟩
  rw [← hy] at hX7
  have hyT : ∀ l : List MkV, tellT y.kind y.al y.attempt l = tellT x.kind x.al x.attempt l := fun l => by rw [hy]
  have hyA : y.A = some ⟨gA, 0, none⟩ ∧ y.m = x.m ∧ y.c = c := by rw [hy]; exact ⟨rfl, rfl, rfl⟩
  have hy14 : y.C[14]? = some (.slice (some ⟨gA, 0, none⟩) x.m c) := by rw [hy]; rfl
  have hyok : ∀ (W : World) (ks' : List MkV), ks'.length = ks.length → (∀ z ∈ ks', z.ok) → SliceOf W W.heap.size 9 MkV.C (some ⟨gA, 0, none⟩) ks' → NtOk W y ks' := fun W ks' h1 h2 h3 => by
    have h := hx.out
    refine ⟨?_, ?_, ?_, ?_, h2, ?_⟩
    · rw [hy]; exact h.al
    · rw [hy]; exact h.att
    · rw [hyA.2.1, h.len, h1]
    · rw [hyA.2.1]; exact h.few
    · rw [hyA.1]; exact h3
  replace hy := Lib.hid hy
  have hyokH := Lib.hid hyok
  have hyTH := Lib.hid hyT
  have hy7 := Lib.hid (hyok w7 ks rfl hx.out.mks ((ho7.slice_all mkC_size).pre))
  have hx7 := Lib.hid (hx.out.then_ hBw7)
  have hS7 := Lib.hid (hS.out.then_ h7 hBw7)
  obtain ⟨U, hU⟩ : ∃ U : ByteArray, JB (tellT x.kind x.al x.attempt ks) = U := ⟨_, rfl⟩
  have h77 : 7 ≤ w7.heap.size := Nat.le_trans h7 hBw7.size
  have kT : ∀ W, Below w7.heap.size w7 W → Calls Tryz.prog 12 #[.agg y.C] W fun e w' => e = .returned (.string U) ∧ Below W.heap.size W w' := fun W hW => by
    have h := tell_any y ks W (hy7.out.then_ hW) (hS7.out.then_ h77 hW)
    rw [hyTH.out, show strV (joinW ((tellT x.kind x.al x.attempt ks).map quo)) = .string (JB (tellT x.kind x.al x.attempt ks)) from rfl, hU] at h
    exact h
  have kR : ∀ W, Below w7.heap.size w7 W → Calls Tryz.prog 13 #[.agg x.C] W fun e w' => e = .returned (.string U) ∧ Below W.heap.size W w' := fun W hW => by
    have h := rtell_any x ks W (hx7.out.then_ hW)
    rw [hU] at h
    exact h
  clear hyok hyT hX hX6 hE hE6 ho5 ho6 hBw5 hw6 hg7 hz56 hXl hz24 hB24 hz45 hAl hU
  have hE := hE7
  have hX := hX7
  refine wp_region_steps 5 [eqS (.agg y.C), eqS (.string U), eqS (.agg x.C), eqS (.string U), eqS (.bool false)] [22, 23, 24, 25, 26] (by kernel_rfl) (by kernel_rfl) (by kernel_rfl) ?_ ?_
  · skip
    refine Steps.cons (fun a' w' hG hB dep => gs_load (want_none rfl) _ _ rfl gX (hG.other 4 rfl) _ _ (blk_then hX hB) _ Tryz.underlying43 rfl (info_nt.trans rfl) rfl) ?_
    refine Steps.cons (fun a' w' hG hB dep => gs_call (want_none rfl) _ _ _ rfl enter_stell _ (map1 (dep 0 rfl 22 rfl)) ((kT _ hB).mono fun e w2 ⟨hq9, hb9⟩ => ⟨_, hq9, hb9, rfl⟩)) ?_
    refine Steps.cons (fun a' w' hG hB dep => gs_load (want_none rfl) _ _ rfl gN (hG.other 1 rfl) _ _ (blk_then hE hB) _ Tryz.underlying43 rfl (info_nt.trans rfl) rfl) ?_
    refine Steps.cons (fun a' w' hG hB dep => gs_call (want_none rfl) _ _ _ rfl enter_rtell _ (map1 (dep 2 rfl 24 rfl)) ((kR _ hB).mono fun e w2 ⟨hq9, hb9⟩ => ⟨_, hq9, hb9, rfl⟩)) ?_
    refine Steps.cons (fun a' w' hG hB dep => gs_neq_same (want_none rfl) _ _ _ _ rfl U (dep 1 rfl 23 rfl) (dep 3 rfl 25 rfl) rfl) ?_
    exact Steps.nil
  intro u w8 hw8 ans
  have hus26 : u 26 = (.bool false) := ans 4 26 (by decide) rfl
  clear ans
  simp only [putAll, List.foldl_cons, List.foldl_nil, Act.put, List.setIfInBounds_toArray, List.set_cons_zero, List.set_cons_succ, hus26]
  clear hus26
  simp only [List.drop]
  refine wpList_nil ?_
  have hE8 := blk_then hE7 hw8
  have hX8 := blk_then hX7 hw8
  have ho8 := ho7.then_ hw8
  have hBw8 := hBw7.trans (hw8.mono hBw7.size)
  have hAl8 : gA < w8.heap.size := Nat.lt_of_lt_of_le hAl7 hw8.size
  have hz28 : w2.heap.size ≤ w8.heap.size := Nat.le_trans hB27 hw8.size
  clear kT kR hE hX hE7 hX7 ho7 hBw7 hAl7 hw8
  go_wp2_with (fail)
  go_loopw [5] (fun iv wr => ∃ i : Nat, i ≤ x.m ∧ iv = .int .i64 i ∧ Below w8.heap.size w8 wr) (fun iv _ => x.m - (intOf iv).toNat)
  case atStart => exact ⟨0, by omega, rfl, Below.refl _ _⟩
  case round =>
    obtain ⟨i, hi, rfl, hBr⟩ := hrel
    have hE := blk_then hE8 hBr
    have hX := blk_then hX8 hBr
    have hor := ho8.then_ hBr
    have hAl : gA < wr.heap.size := Nat.lt_of_lt_of_le hAl8 hBr.size
    have cS : wr.cell? ⟨gN, 14, none⟩ = some (.slice x.A x.m x.c) := hE.cellv rfl
    have hBwr := hBw8.trans (hBr.mono hBw8.size)
    by_cases hl : i < x.m
    · have hI : (i : Int) < x.m := by omega
      have hik : i < ks.length := by rw [← hml.out]; exact hl
      obtain ⟨bE, oE, hA, hbE0, hrowE⟩ := hslg.at_ (by omega)
      obtain ⟨m, hm⟩ : ∃ m, ks[i] = m := ⟨_, rfl⟩
      have rE : RowAt wr bE (oE + i * 9) m.C := fun j v hj => by
        rw [← hm] at hj
        exact (hBwr.cell (p := ⟨bE, oE + i * 9 + j, none⟩) (by have := hgN.out; simp only; omega)).trans (hrowE i hik j v hj)
      have hbE : bE < wr.heap.size := Nat.lt_trans hbE0 hE.lt
      have rA : RowAt wr gA (0 + i * 9) m.C := fun j v hj => by
        have h := hor.row mkC_size i (by rw [List.length_append]; omega) j v (by rw [List.getElem_append_left hik, hm]; exact hj)
        rw [Nat.zero_add]
        exact h
      have hcE : x.C[14]? = some (.slice (some ⟨bE, oE, none⟩) x.m x.c) := by rw [← hA]; rfl
      have hcEH := Lib.hid hcE
      have rEH := Lib.hid rE
      have rAH := Lib.hid rA
      clear hA hm hrowE hcE rE rA
      go_upto_region 11 with (fail)
      have hcE := hcEH.out
      have rE := rEH.out
      have rA := rAH.out
      refine wp_region_steps 10 [eqS (.slice (some ⟨gA, 0, none⟩) (x.m + 1) c), eqS (.int .i64 (((i : Nat) : Int))), eqS (.pointer (some ⟨gA, 0 + i * 9, none⟩)), eqS (.agg m.C), eqS (.pointer (some ⟨gN, 14, none⟩)), eqS (.slice (some ⟨bE, oE, none⟩) x.m x.c), eqS (.int .i64 (((i : Nat) : Int))), eqS (.pointer (some ⟨bE, oE + i * 9, none⟩)), eqS (.agg m.C), eqS (.bool false)] [34, 35, 36, 37, 38, 39, 40, 41, 42, 43] (by kernel_rfl) (by kernel_rfl) (by kernel_rfl) ?_ ?_
      · skip
        refine Steps.cons (fun a' w' hG hB dep => gs_move (want_none rfl) _ rfl (id (hG.other 3 rfl))) ?_
        refine Steps.cons (fun a' w' hG hB dep => gs_move (want_none rfl) _ rfl (id (hG.other 5 rfl))) ?_
        refine Steps.cons (fun a' w' hG hB dep => gs_index (want_none rfl) _ _ _ rfl under_mks 9 size_mks gA 0 (x.m + 1) c i (dep 0 rfl 34 rfl) (dep 1 rfl 35 rfl) (by omega) rfl) ?_
        refine Steps.cons (fun a' w' hG hB dep => gs_load_mk_at (want_none rfl) _ rfl gA (0 + i * 9) (dep 2 rfl 36 rfl) _ (rA.keep (hB.block gA hAl)) rfl) ?_
        refine Steps.cons (fun a' w' hG hB dep => gs_field (want_none rfl) _ _ _ rfl gN (0) (14) (hG.other 1 rfl) (fun wz => field_ntx_3 gN (0) wz) rfl) ?_
        refine Steps.cons (fun a' w' hG hB dep => gs_load1 (want_none rfl) _ _ rfl gN (14) (dep 4 rfl 38 rfl) (.slice (some ⟨bE, oE, none⟩) x.m x.c) ((blk_then hE hB).cellv (i := 14) hcE) _ Tryz.underlying41 rfl rfl) ?_
        refine Steps.cons (fun a' w' hG hB dep => gs_move (want_none rfl) _ rfl (id (hG.other 5 rfl))) ?_
        refine Steps.cons (fun a' w' hG hB dep => gs_index (want_none rfl) _ _ _ rfl under_mks 9 size_mks bE oE x.m x.c i (dep 5 rfl 39 rfl) (dep 6 rfl 40 rfl) hl rfl) ?_
        refine Steps.cons (fun a' w' hG hB dep => gs_load_mk_at (want_none rfl) _ rfl bE (oE + i * 9) (dep 7 rfl 41 rfl) _ (rE.keep (hB.block bE hbE)) rfl) ?_
        refine Steps.cons (fun a' w' hG hB dep => gs_neq_mark (want_none rfl) _ _ _ rfl m (dep 3 rfl 37 rfl) (dep 8 rfl 42 rfl) rfl) ?_
        exact Steps.nil
      intro u w9 hw9 ans
      have hus43 : u 43 = (.bool false) := ans 9 43 (by decide) rfl
      clear ans
      simp only [putAll, List.foldl_cons, List.foldl_nil, Act.put, List.setIfInBounds_toArray, List.set_cons_zero, List.set_cons_succ, hus43]
      clear hus43
      simp only [List.drop]
      refine wpList_nil ?_
      clear hcE rE rA
      go_wp2_with (fail)
      exact ⟨⟨i + 1, by omega, rfl, hBr.trans (hw9.mono hBr.size)⟩, by simp only [intOf]; omega⟩
    · have hI : ¬ (i : Int) < x.m := by omega
      have r77 : RowAt wr gA (0 + x.m * 9) mk77.C := fun j v hj => by
        have hlen : x.m < (ks ++ [mk77]).length := by rw [List.length_append, ← hml.out]; simp
        have h := hor.row mkC_size x.m hlen j v (by
          have : (ks ++ [mk77])[x.m]'hlen = mk77 := by simp [hml.out]
          rw [this]
          exact hj)
        rw [Nat.zero_add]
        exact h
      have r77H := Lib.hid r77
      clear r77
      go_upto_region 13 with (fail)
      have r77 := r77H.out
      refine wp_region_text 8 [eqS (.slice (some ⟨gA, 0, none⟩) (x.m + 1) c), eqS (.pointer (some ⟨gN, 14, none⟩)), eqS (.slice x.A x.m x.c), eqS (.int .i64 (((x.m : Nat) : Int))), eqS (.pointer (some ⟨gA, 0 + x.m * 9, none⟩)), eqS (.agg mk77.C), eqS (.agg mk77.C), eqS (.bool false)] [44, 45, 46, 47, 48, 49, 50, 51] (by kernel_rfl) (by kernel_rfl) ?_ ?_
      · skip
        refine Steps.cons (fun a' w' hG hB dep => gs_move (want_none rfl) _ rfl (id (hG.other 3 rfl))) ?_
        refine Steps.cons (fun a' w' hG hB dep => gs_field (want_none rfl) _ _ _ rfl gN (0) (14) (hG.other 1 rfl) (fun wz => field_ntx_3 gN (0) wz) rfl) ?_
        refine Steps.cons (fun a' w' hG hB dep => gs_load1 (want_none rfl) _ _ rfl gN (14) (dep 1 rfl 45 rfl) (.slice x.A x.m x.c) ((blk_then hE hB).cellv (i := 14) rfl) _ Tryz.underlying41 rfl rfl) ?_
        refine Steps.cons (fun a' w' hG hB dep => gs_len (want_none rfl) _ _ rfl under_mks x.A x.m x.c (dep 2 rfl 46 rfl) rfl) ?_
        refine Steps.cons (fun a' w' hG hB dep => gs_index (want_none rfl) _ _ _ rfl under_mks 9 size_mks gA 0 (x.m + 1) c x.m (dep 0 rfl 44 rfl) (dep 3 rfl 47 rfl) (by omega) rfl) ?_
        refine Steps.cons (fun a' w' hG hB dep => gs_load_mk_at (want_none rfl) _ rfl gA (0 + x.m * 9) (dep 4 rfl 48 rfl) _ (r77.keep (hB.block gA hAl)) rfl) ?_
        refine Steps.cons (fun a' w' hG hB dep => gs_run (want_none rfl) (v := .agg mk77.C) (w' := w') (by kernel_rfl) (Below.refl _ _) rfl) ?_
        refine Steps.cons (fun a' w' hG hB dep => gs_neq_mark (want_none rfl) _ _ _ rfl mk77 (dep 5 rfl 49 rfl) (dep 6 rfl 50 rfl) rfl) ?_
        exact Steps.nil
      intro u w9 hw9 ans
      have hus51 : u 51 = (.bool false) := ans 7 51 (by decide) rfl
      clear ans
      simp only [putAll, List.foldl_cons, List.foldl_nil, Act.put, List.setIfInBounds_toArray, List.set_cons_zero, List.set_cons_succ, hus51]
      clear hus51
      simp only [List.drop]
      refine wpList_nil ?_
      clear r77
      have hE9 := blk_then hE hw9
      have hX9 := blk_then hX hw9
      have ho9 := hor.then_ hw9
      have hBw9 := hBwr.trans (hw9.mono hBwr.size)
      have cL9 : w9.cell? ⟨gN, 14, none⟩ = some (.slice x.A x.m x.c) := hE9.cellv rfl
      by_cases hm0 : x.m = 0
      · have f0 : ((x.m : Int) == 0) = true := beq_iff_eq.2 (by omega)
        have hm0H := Lib.hid hm0
        clear hm0
        go_wp2_with (fail)
        go_ret
        exact ⟨rfl, hBw9⟩
      have f0 : ((x.m : Int) == 0) = false := beq_eq_false_iff_ne.2 (by omega)
      go_upto_region 17 with (fail)
      clear cL9 f0
      obtain ⟨m0, kt, hks⟩ : ∃ m0 kt, ks = m0 :: kt := by
        cases ks with
        | nil => exact absurd hml.out hm0
        | cons a t => exact ⟨a, t, rfl⟩
      have hAl9 : gA < w9.heap.size := Nat.lt_of_lt_of_le hAl hw9.size
      have cL : w9.cell? ⟨gA, 8, none⟩ = some (.int .i64 m0.long) := by
        have h := ho9.row mkC_size 0 (by rw [hks]; simp) 8 (.int .i64 m0.long) (by simp only [hks]; rfl)
        exact h
      have cLH := Lib.hid cL
      have hksH := Lib.hid hks
      replace hm0 : 0 < x.m := by omega
      clear hE hX hor hBwr hAl hw9 cL hks cS
      have cL := cLH.out
      have hAl := hAl9
      have hX := hX9
      refine wp_region_steps 12 [eqS (.pointer (some ⟨gX, 14, none⟩)), eqS (.slice (some ⟨gA, 0, none⟩) x.m c), eqS (.pointer (some ⟨gX, 14, none⟩)), eqS (.slice (some ⟨gA, 0, none⟩) x.m c), eqS (.pointer (some ⟨gA, 0, none⟩)), eqS (.pointer (some ⟨gA, 4, none⟩)), eqS (.pointer (some ⟨gA, 8, none⟩)), eqS (.int .i64 (m0.long)), eqS (.int .i64 (xorZ m0.long 1)), eqS (.pointer (some ⟨gA, 0, none⟩)), eqS (.pointer (some ⟨gA, 4, none⟩)), eqS (.pointer (some ⟨gA, 8, none⟩))] [56, 57, 58, 59, 60, 61, 62, 63, 64, 65, 66, 67] (by kernel_rfl) (by kernel_rfl) (by kernel_rfl) ?_ ?_
      · skip
        refine Steps.cons (fun a' w' hG hB dep => gs_field (want_none rfl) _ _ _ rfl gX (0) (14) (hG.other 4 rfl) (fun wz => field_ntx_3 gX (0) wz) rfl) ?_
        refine Steps.cons (fun a' w' hG hB dep => gs_load1 (want_none rfl) _ _ rfl gX (14) (dep 0 rfl 56 rfl) (.slice (some ⟨gA, 0, none⟩) x.m c) ((blk_then hX hB).cellv (i := 14) hy14) _ Tryz.underlying41 rfl rfl) ?_
        refine Steps.cons (fun a' w' hG hB dep => gs_field (want_none rfl) _ _ _ rfl gX (0) (14) (hG.other 4 rfl) (fun wz => field_ntx_3 gX (0) wz) rfl) ?_
        refine Steps.cons (fun a' w' hG hB dep => gs_load1 (want_none rfl) _ _ rfl gX (14) (dep 2 rfl 58 rfl) (.slice (some ⟨gA, 0, none⟩) x.m c) ((blk_then hX hB).cellv (i := 14) hy14) _ Tryz.underlying41 rfl rfl) ?_
        refine Steps.cons (fun a' w' hG hB dep => gs_index (want_none rfl) _ _ _ rfl under_mks 9 size_mks gA 0 x.m c 0 (dep 3 rfl 59 rfl) rfl (by omega) rfl) ?_
        refine Steps.cons (fun a' w' hG hB dep => gs_field (want_none rfl) _ _ _ rfl gA (0) (4) (dep 4 rfl 60 rfl) (fun wz => field_mkx_4 gA (0) wz) rfl) ?_
        refine Steps.cons (fun a' w' hG hB dep => gs_field (want_none rfl) _ _ _ rfl gA (4) (8) (dep 5 rfl 61 rfl) (fun wz => field_lsx_4 gA (4) wz) rfl) ?_
        refine Steps.cons (fun a' w' hG hB dep => gs_load1 (want_none rfl) _ _ rfl gA (8) (dep 6 rfl 62 rfl) (.int .i64 (m0.long)) ((hB.cell hAl).trans cL) _ Tryz.underlying3 rfl rfl) ?_
        refine Steps.cons (fun a' w' hG hB dep => gs_xor_i (want_none rfl) _ _ _ _ rfl m0.long 1 (dep 7 rfl 63 rfl) rfl rfl) ?_
        refine Steps.cons (fun a' w' hG hB dep => gs_index (want_none rfl) _ _ _ rfl under_mks 9 size_mks gA 0 x.m c 0 (dep 1 rfl 57 rfl) rfl (by omega) rfl) ?_
        refine Steps.cons (fun a' w' hG hB dep => gs_field (want_none rfl) _ _ _ rfl gA (0) (4) (dep 9 rfl 65 rfl) (fun wz => field_mkx_4 gA (0) wz) rfl) ?_
        refine Steps.cons (fun a' w' hG hB dep => gs_field (want_none rfl) _ _ _ rfl gA (4) (8) (dep 10 rfl 66 rfl) (fun wz => field_lsx_4 gA (4) wz) rfl) ?_
        exact Steps.nil
      intro u w10 hw10 ans
      have hus64 : u 64 = (.int .i64 (xorZ m0.long 1)) := ans 8 64 (by decide) rfl
      have hus67 : u 67 = (.pointer (some ⟨gA, 8, none⟩)) := ans 11 67 (by decide) rfl
      clear ans
      simp only [putAll, List.foldl_cons, List.foldl_nil, Act.put, List.setIfInBounds_toArray, List.set_cons_zero, List.set_cons_succ, hus64, hus67]
      clear hus64 hus67
      simp only [List.drop]
      clear cL
      have hX10 := blk_then hX9 hw10
      have ho10 := ho9.then_ hw10
      have hBw10 := hBw9.trans (hw10.mono hBw9.size)
      have h0l : 0 < (ks ++ [mk77]).length := by simp
      have hst : ({ m0 with long := xorZ m0.long 1 } : MkV).C.toList = ((ks ++ [mk77])[0]'h0l).C.toList.set 8 (.int .i64 (xorZ m0.long 1)) := by
        have : (ks ++ [mk77])[0]'h0l = m0 := by simp [hksH.out]
        rw [this]
        rfl
      go_upto_region 18 with (refine wl_store_q mkC_size rfl _ isz_int _ _ rfl gA 0 8 (x.m + 1) c (by decide) rfl ({ m0 with long := xorZ m0.long 1 } : MkV) h0l hst rfl rfl ho10 ?_; intro w11 ho11 hg11)
      have hX11 := blk_grown hX10 hg11 (by omega)
      have hBw11 : Below w.heap.size w w11 := hBw10.grown hg11 hBw10.size (by rintro k ⟨⟩; have := hBw2.size; omega)
      have hset : (ks ++ [mk77]).set 0 ({ m0 with long := xorZ m0.long 1 } : MkV) = (({ m0 with long := xorZ m0.long 1 } : MkV) :: kt) ++ [mk77] := by rw [hksH.out]; rfl
      rw [hset] at ho11
      have hm0ok := hx.out.mks m0 (by rw [hksH.out]; exact List.mem_cons_self)
      have hy11 := Lib.hid (hyokH.out w11 (({ m0 with long := xorZ m0.long 1 } : MkV) :: kt) (by rw [hksH.out]; rfl) (by
        intro z hz
        rcases List.mem_cons.1 hz with rfl | hz
        · obtain ⟨q1, q2, q3, q4, q5, q6, q7, q8, q9⟩ := hm0ok
          exact ⟨q1, q2, q3, q4, q5, q6, q7, q8, xorZ_ok _ _⟩
        · exact hx.out.mks z (by rw [hksH.out]; exact List.mem_cons_of_mem _ hz)) ((ho11.slice_all mkC_size).pre))
      have hS11 := Lib.hid (hS.out.then_ h7 hBw11)
      have h711 : 7 ≤ w11.heap.size := Nat.le_trans h7 hBw11.size
      obtain ⟨kz, hkz⟩ : ∃ kz, kz = (({ m0 with long := xorZ m0.long 1 } : MkV) :: kt) := ⟨_, rfl⟩
      rw [← hkz] at hy11
      obtain ⟨U, hU⟩ : ∃ U : ByteArray, JB (tellT y.kind y.al y.attempt kz) = U := ⟨_, rfl⟩
      have kT : ∀ W, Below w11.heap.size w11 W → Calls Tryz.prog 12 #[.agg y.C] W fun e w' => e = .returned (.string U) ∧ Below W.heap.size W w' := fun W hW => by
        have h := tell_any y kz W (hy11.out.then_ hW) (hS11.out.then_ h711 hW)
        rw [show strV (joinW ((tellT y.kind y.al y.attempt kz).map quo)) = .string (JB (tellT y.kind y.al y.attempt kz)) from rfl, hU] at h
        exact h
      have kR : ∀ W, Below w11.heap.size w11 W → Calls Tryz.prog 13 #[.agg y.C] W fun e w' => e = .returned (.string U) ∧ Below W.heap.size W w' := fun W hW => by
        have h := rtell_any y kz W (hy11.out.then_ hW)
        rw [hU] at h
        exact h
      clear hX hX9 hX10 ho10 ho9 hBw10 hBw9 hw10 hg11 ho11 hset hm0ok hkz hst hE9 hU
      have hX := hX11
      refine wp_region_steps 6 [eqS (.agg y.C), eqS (.string U), eqS (.agg y.C), eqS (.string U), eqS (.bool true), eqS (.bool true)] [68, 69, 70, 71, 72, 2] (by kernel_rfl) (by kernel_rfl) (by kernel_rfl) ?_ ?_
      · skip
        refine Steps.cons (fun a' w' hG hB dep => gs_load (want_none rfl) _ _ rfl gX (hG.other 4 rfl) _ _ (blk_then hX hB) _ Tryz.underlying43 rfl (info_nt.trans rfl) rfl) ?_
        refine Steps.cons (fun a' w' hG hB dep => gs_call (want_none rfl) _ _ _ rfl enter_stell _ (map1 (dep 0 rfl 68 rfl)) ((kT _ hB).mono fun e w2 ⟨hq9, hb9⟩ => ⟨_, hq9, hb9, rfl⟩)) ?_
        refine Steps.cons (fun a' w' hG hB dep => gs_load (want_none rfl) _ _ rfl gX (hG.other 4 rfl) _ _ (blk_then hX hB) _ Tryz.underlying43 rfl (info_nt.trans rfl) rfl) ?_
        refine Steps.cons (fun a' w' hG hB dep => gs_call (want_none rfl) _ _ _ rfl enter_rtell _ (map1 (dep 2 rfl 70 rfl)) ((kR _ hB).mono fun e w2 ⟨hq9, hb9⟩ => ⟨_, hq9, hb9, rfl⟩)) ?_
        refine Steps.cons (fun a' w' hG hB dep => gs_eql_same (want_none rfl) _ _ _ _ rfl U (dep 1 rfl 69 rfl) (dep 3 rfl 71 rfl) rfl) ?_
        refine Steps.cons (fun a' w' hG hB dep => gs_assign (want_none rfl) _ rfl (id (dep 4 rfl 72 rfl))) ?_
        exact Steps.nil
      intro u w12 hw12 ans
      have hus2 : u 2 = (.bool true) := ans 5 2 (by decide) rfl
      clear ans
      simp only [putAll, List.foldl_cons, List.foldl_nil, Act.put, List.setIfInBounds_toArray, List.set_cons_zero, List.set_cons_succ, hus2]
      clear hus2
      simp only [List.drop]
      refine wpList_nil ?_
      go_wp2_with (fail)
      go_ret
      exact ⟨rfl, hBw11.trans (hw12.mono hBw11.size)⟩
end Go.Proofs.YtjplgcmfifoefaaGreatDoor
