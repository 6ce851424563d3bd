/- Part 4 of a proof; packed: the texts that it was made of follow one another. No condition beyond those named in each lemma. -/
import Derived.Test.YtjplgcmfifoefaaGreatDoorCards
import Derived.Test.YtjplgcmfifoefaaGreatDoorPq1
import Derived.Test.YtjplgcmfifoefaaGreatDoorPq3
import Derived.Test.YtjplgcmfifoefaaGreatDoorPr1
import Derived.Test.YtjplgcmfifoefaaGreatDoorPr2
import Derived.Test.YtjplgcmfifoefaaGreatDoorPr3
import Derived.Test.YtjplgcmfifoefaaGreatDoorPr4
import Derived.Test.YtjplgcmfifoefaaGreatDoorPr5
import Derived.Test.YtjplgcmfifoefaaGreatDoorPr6
import Derived.Test.YtjplgcmfifoefaaGreatDoorPr7
import Derived.Test.YtjplgcmfifoefaaGreatDoorPr8
import Derived.Test.YtjplgcmfifoefaaGreatDoorProg
import Derived.Test.YtjplgcmfifoefaaGreatDoorRows
import Derived.Test.YtjplgcmfifoefaaGreatDoorTie
import Derived.Below
import Derived.ChangeKeysEq
import Derived.ChangeOld
import Derived.Deep.Cut
import Derived.Deep.Slices
import Derived.JoinedCond
import Derived.LaidMore
import Derived.Laws.BitsAllLaws
import Derived.Laws.BitsLemmas
import Derived.Laws.BytesString
import Derived.Laws.IdiomStrings
import Derived.Laws.StructEq
import Derived.Lay
import Derived.Lib.Bytealg
import Derived.Lib.IndexLaws
import Derived.Lib.ItoaLen
import Derived.Lib.Join
import Derived.Lib.LaidU8T
import Derived.Lib.SmallJoins
import Derived.Lib.Strings
import Derived.Lib.Walk
import Derived.OpenShut
import Derived.ProofKit
import Derived.SevenTiedAt
import Derived.Shelf.Abstract
import Derived.Shelf.Bits.Mul64
import Derived.Shelf.LaysC
import Derived.Shelf.LaysM
import Derived.Shelf.Small.Strs
import Derived.Shelf.Small.Utf8
import Derived.Shelf.Strconv.Atoi
import Derived.Shelf.Strconv.AtoiAll
import Derived.Shelf.Strconv.AtoiErrFast
import Derived.Shelf.Strconv.AtoiFail
import Derived.Shelf.Strconv.AtoiInnerAll
import Derived.Shelf.Strconv.AtoiLong
import Derived.Shelf.Strconv.Clone
import Derived.Shelf.Strconv.Itoa0
import Derived.Shelf.Strconv.Itoa1
import Derived.Shelf.Strconv.Itoa2
import Derived.Shelf.Strconv.Itoa3
import Derived.Shelf.Strconv.Lower
import Derived.Shelf.Strconv.ParseInt10
import Derived.Shelf.Strconv.ParseIntEmpty
import Derived.Shelf.Strconv.ParseUint10
import Derived.Shelf.Strconv.ParseUint10Any
import Derived.Shelf.Strconv.ParseUint10Empty
import Derived.Shelf.Strconv.RangeError
import Derived.Shelf.Strconv.SyntaxError
import Derived.Shelf.Strconv.ToError
import Derived.Shelf.Strconv.ToErrorRange
import Derived.Shelf.Strings.AsciiSet
import Derived.Shelf.Strings.Builder1
import Derived.Shelf.Strings.Builder2
import Derived.Shelf.Strings.BuilderF
import Derived.Shelf.Strings.BuilderK
import Derived.Shelf.Strings.BuilderRune
import Derived.Shelf.Strings.OnBuilder
import Derived.Shelf.Strings.Prefix
import Derived.Shelf.Strings.Repeat
import Derived.Shelf.Strings.Runes
import Derived.Shelf.Strings.Search1
import Derived.Shelf.Strings.Trim
import Derived.Shelf.Unicode.Decode
import Derived.Shelf.Unicode.DecodeAny
import Derived.Shelf.Unicode.DecodeSlow
import Derived.ShutString
import Derived.SizedLaws
import Derived.Stop.LaidErr
import Derived.WalkKit
import Derived.WalkSmall
namespace Go.Proofs.YtjplgcmfifoefaaGreatDoor
open Go.ChangeShapes Go.WideShapes Go.ChangeAt Go.RowKit
open Go.ChangeMaps (open_string shut_string)
set_option linter.unusedVariables false
set_option linter.unusedSimpArgs false

theorem door_met_scriptParses (os : Os) (args : Array Value) : laidMetH Tryz.prog Rows.scriptParsesUptoRow.laid ((World.laidAll Tryz.prog os laidL).forCall (fun _ _ => 0) ⟨#[], args, []⟩).memory :=
  laidMet_laidAll _ (by kernel_rfl) (by kernel_rfl)
set_option maxRecDepth 100000 in
theorem scriptParses_lifted (os : Os) (started : os.Started) (H : Type) (enc : TypeId × Value → H) (F : Stop.Interp) :
    ReturnsInHanded {} Tryz.checked os 3 .any (fun w args => ((Rows.OpenSpec.upto Rows.scriptParsesSpec).pre enc Tryz.prog Tryz.f3 [] false w args ∧ laidMetH Tryz.prog Rows.scriptParsesUptoRow.laid w) ∧ sizedMet enc Tryz.prog Tryz.f3 (Rows.OpenSpec.upto Rows.scriptParsesSpec) false w args) (((Rows.OpenSpec.upto Rows.scriptParsesSpec).at F).post enc Tryz.prog Tryz.f3 false true false false) := by
  have hw : (DataW.whole enc Tryz.prog ((World.laidAll Tryz.prog os laidL).forCall (fun _ _ => 0) ⟨#[], #[.string ⟨#[]⟩], []⟩).memory Tryz.f3.params.toList (Rows.OpenSpec.upto Rows.scriptParsesSpec).vars false #[.string ⟨#[]⟩].toList 8).map (fun x => (x.1, x.2.1)) = some ([.lit (.string [])], []) := by kernel_rfl
  obtain ⟨⟨x1, x2, x3⟩, hx, hx1⟩ := Option.map_eq_some_iff.1 hw
  simp only [Prod.mk.injEq] at hx1
  obtain ⟨rfl, rfl⟩ := hx1
  refine returnsInHanded_of_cond_and_shaped (C := Tryz.checked) (s := Rows.OpenSpec.upto Rows.scriptParsesSpec) rfl (X := fun w => laidMetH Tryz.prog Rows.scriptParsesUptoRow.laid w) (fun _ _ hh h => h.of_heap hh) own started (by kernel_rfl) Tryz.func3
    (witness_and (enc := enc) (C := Tryz.checked) (os := os) rfl false (World.laidAll Tryz.prog os laidL) #[.string ⟨#[]⟩] 8 rfl (World.shaped_of_ZipB (by kernel_rfl) (by kernel_rfl)) (by kernel_rfl) hx (by kernel_rfl) (by kernel_rfl) (by kernel_rfl) (door_met_scriptParses os _)) ?_
  intro W base args ds gs before hval0 hW _ hcond hL hsh _
  have hval : ∀ (j : Nat) t v, Tryz.f3.params[j]? = some t → args[j]? = some v → Value.okWide Tryz.prog W .any base t v := hval0
  have hW' := hW
  obtain ⟨p, q, hA0, hV, rfl, hfz, hnd⟩ := hW
  have hA : DataW.TrodAll enc Tryz.prog W 0 (fun _ => true) true Tryz.f3.params.toList args.toList ds p := hA0
  rw [Tryz.params3] at hA hval
  obtain ⟨v0, vs0, d0, ds0, p0, q0, hargs, rfl, rfl, h0, r0⟩ := trodAll_cons hA
  obtain ⟨rfl, rfl, rfl⟩ := trodAll_nil r0
  obtain rfl : args = #[v0] := by cases args; simp_all
  obtain ⟨rfl, rfl⟩ := trodVars_none hV
  have k0 := h0
  have lt0 : ∀ x ∈ p0, x.block < W.heap.size := by obtain ⟨m, hm⟩ := k0; exact DataW.trod_lt m _ _ _ hm
  have hbulk : Rows.uptoBulkAll ([d0] ++ []) ≤ 1048576 := of_decide_eq_true hcond
  simp only [List.append_nil, Rows.uptoBulkAll] at hbulk
  obtain ⟨s0, rfl, hd0, _⟩ := open_string Tryz.underlying9 (hval 0 9 v0 rfl rfl) h0
  have b0 : s0.size ≤ 1048576 := by
    rw [hd0] at hbulk
    simp only [Rows.uptoBulk] at hbulk
    have h9 : s0.data.toList.length = s0.size := by simp
    omega
  have hS := sok_of_laid hL
  clear hA0 hval0
  refine (scriptParses_any s0 b0 W hS).mono fun e W' ⟨he, bel⟩ => ?_
  subst he
  exact ⟨_, rfl, _, _, _, [], _, [], hW', trodAll_mk1 (shut_bool Tryz.underlying4 _), (trodAll_cons_mk (Below.trod laidOut (by kernel_rfl) (of_decide_eq_true (by kernel_rfl)) k0 bel lt0) trodAll_mk0), rfl, bel.frame _, fun h => by cases h⟩

theorem scriptParsesUpto_holds : Rows.ScriptParsesUptoSaid :=
  OpenClaim.holds_of_cond 3 Tryz.f3 rfl rfl rfl rfl rfl rfl rfl ⟨rfl, rfl, rfl, rfl, rfl⟩ rfl rfl rfl rfl rfl (by kernel_rfl) Tryz.func3 (by kernel_rfl)
    (of_decide_eq_true (by kernel_rfl)) (by unfold Func.isWrapper; rw [if_neg (of_decide_eq_false (by kernel_rfl))]; exact ⟨rfl, rfl⟩)
    (fun os started H enc _ F => scriptParses_lifted os started H enc F)
theorem scriptParsesUptoCard_holds : Rows.ScriptParsesUptoCardSaid :=
  Claim7.holds_tied_plain_at .later [] [.data, .data, .data, .data, .sentinel, .sentinel, .data, .pinned] true _ true
    scriptParsesUpto_holds (fun _ h => by cases h) (by kernel_rfl) (fun _ h => by cases h) scriptParsesUpto_row_tie rfl ⟨rfl, rfl⟩ (by kernel_rfl) rfl
    (fun f fn hf hfn => by
      obtain rfl : f = 3 := Option.some.inj ((show Tryz.prog.funcNamed "heron/heronlaw26.ScriptParses" = some 3 by kernel_rfl).symm.trans hf) |>.symm
      obtain rfl : fn = Tryz.f3 := (Option.some.inj (Tryz.func3.symm.trans hfn)).symm
      exact ⟨by kernel_rfl, fun j t ht => by
        rw [Tryz.params3] at ht
        have hm : t ∈ [9] := by simpa using Array.mem_of_getElem? ht
        have hall : ([9].all fun u => !Tryz.prog.wantsStandIn u) = true := by kernel_rfl
        exact (show Tryz.prog.wantsStandIn t = false by simpa using List.all_eq_true.1 hall t hm)⟩)
    (by kernel_rfl)
#print axioms scriptParsesUptoCard_holds
end Go.Proofs.YtjplgcmfifoefaaGreatDoor
