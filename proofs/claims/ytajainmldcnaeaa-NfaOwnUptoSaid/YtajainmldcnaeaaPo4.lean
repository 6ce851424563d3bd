/- Part 4 of a proof; packed: the texts that it was made of follow one another. No condition beyond those named in each lemma. -/
import Derived.Test.YtajainmldcnaeaaPn1
import Derived.Test.YtajainmldcnaeaaPn10
import Derived.Test.YtajainmldcnaeaaPn11
import Derived.Test.YtajainmldcnaeaaPn2
import Derived.Test.YtajainmldcnaeaaPn3
import Derived.Test.YtajainmldcnaeaaPn4
import Derived.Test.YtajainmldcnaeaaPn5
import Derived.Test.YtajainmldcnaeaaPn6
import Derived.Test.YtajainmldcnaeaaPn7
import Derived.Test.YtajainmldcnaeaaPn8
import Derived.Test.YtajainmldcnaeaaPn9
import Derived.Test.YtajainmldcnaeaaPo1
import Derived.Test.YtajainmldcnaeaaPo3
import Derived.Test.YtajainmldcnaeaaProg
import Derived.Test.YtajainmldcnaeaaRows
import Derived.Below
import Derived.BigQuiet
import Derived.BigRegion
import Derived.ChangeOld
import Derived.Deep.AppendLies
import Derived.Deep.CutBlock
import Derived.Deep.DeepCutAuto
import Derived.Deep.DeepFit
import Derived.Deep.DeepMust
import Derived.Deep.Draws
import Derived.Deep.LoopGhost
import Derived.Deep.QuietTactic
import Derived.Deep.RegionHeld3
import Derived.Deep.Slices
import Derived.JoinedCond
import Derived.Laws.BitsAllLaws
import Derived.Laws.BitsLemmas
import Derived.Laws.OwnMore
import Derived.Laws.Rows
import Derived.Lib.Bytealg
import Derived.Lib.Hide
import Derived.Lib.IndexLaws
import Derived.Lib.IndexMore
import Derived.Lib.SmallJoins
import Derived.Lib.Strings
import Derived.Lib.Walk
import Derived.Maps.AppendAt
import Derived.OpenShut
import Derived.Outline
import Derived.OwnWalk
import Derived.ProofKit
import Derived.RegionTactic
import Derived.Shelf.LaysM
import Derived.Shelf.Small.Strs
import Derived.Shelf.Strings.Search1
import Derived.Shelf.Strings.Search2
import Derived.Shelf.Strings.Search3
import Derived.Shelf.Strings.Shaped
import Derived.Shelf.Vars
import Derived.ShutString
import Derived.SizedLaws
import Derived.StillTailTactics
import Derived.WalkKit
import Derived.WalkLawsBesides
import Derived.WalkSpells
namespace Go.Proofs.Ytajainmldcnaeaa
open Go.ChangeShapes Go.WideShapes Go.ChangeAt Go.RowKit
open Go.ChangeMaps (open_string shut_string)
set_option linter.unusedVariables false
set_option linter.unusedSimpArgs false

set_option maxRecDepth 100000 in
theorem nfaOwn_contract (H : Type) (enc : TypeId × Value → H) (W : World) (base : Nat) (args : Array Value) (ds gs : List (DataW H)) (before : List MemPlace)
    (hval0 : ∀ (j : Nat) t v, Try.f10.params[j]? = some t → args[j]? = some v → Value.okWide Try.prog W .any base t v)
    (hcond : Rows.uptoSmall H (ds ++ gs) = true) (hM : Mx W)
    (hW : DataW.Whole enc Try.prog Try.f10.params.toList Rows.nfaOwnSpec.vars false W args.toList ds gs before) (F : Stop.Interp) :
    Calls Try.prog 10 args W fun e W' => ∃ v, e = .returned v ∧ ((Rows.OpenSpec.upto Rows.nfaOwnSpec).at F).post enc Try.prog Try.f10 false true false false W args v W' := by
  have hW' := hW
  obtain ⟨p, q, hA0, hV, rfl, hfz, hnd⟩ := hW
  have hA : DataW.TrodAll enc Try.prog W 0 (fun _ => true) true Try.f10.params.toList args.toList ds p := hA0
  have hval := hval0
  rw [Try.params10] at hA hval
  obtain ⟨v0, vs0, d0, ds0, p0, q0, hargs, rfl, rfl, h0, r0⟩ := trodAll_cons hA
  obtain ⟨v1, vs1, d1, ds1, p1, q1, rfl, rfl, rfl, h1, r1⟩ := trodAll_cons r0
  obtain ⟨rfl, rfl, rfl⟩ := trodAll_nil r1
  obtain rfl : args = #[v0, v1] := by cases args; simp_all
  obtain ⟨rfl, rfl⟩ := trodVars_none hV
  have k0 := h0
  have lt0 : ∀ x ∈ p0, x.block < W.heap.size := by obtain ⟨m, hm⟩ := k0; exact DataW.trod_lt m _ _ _ hm
  have k1 := h1
  have lt1 : ∀ x ∈ p1, x.block < W.heap.size := by obtain ⟨m, hm⟩ := k1; exact DataW.trod_lt m _ _ _ hm
  have hbulk : Rows.uptoBulkAll ([d0, d1] ++ []) ≤ 1048576 := of_decide_eq_true hcond
  simp only [List.append_nil, Rows.uptoBulkAll] at hbulk
  obtain ⟨s0, rfl, hd0, _⟩ := open_string Try.underlying9 (hval 0 9 v0 rfl rfl) h0
  have b0 : s0.size ≤ 1048576 := by
    rw [hd0] at hbulk
    have := bulk_str (H := H) (l := s0.data.toList) (K := 1048576) (by omega)
    simpa using this
  obtain ⟨s1, rfl, hd1, _⟩ := open_string Try.underlying9 (hval 1 9 v1 rfl rfl) h1
  have b1 : s1.size ≤ 1048576 := by
    rw [hd1] at hbulk
    have := bulk_str (H := H) (l := s1.data.toList) (K := 1048576) (by omega)
    simpa using this
  clear hA0 hval0
  refine (nfaOwn_any s0 s1 W hM).mono fun e W' ⟨he, bel⟩ => ?_
  subst he
  exact ⟨_, rfl, _, _, _, [], _, [], hW', trodAll_mk1 (shut_bool Try.underlying4 _), (trodAll_cons_mk (Below.trod laidOut (by kernel_rfl) (of_decide_eq_true (by kernel_rfl)) k0 bel lt0) (trodAll_cons_mk (Below.trod laidOut (by kernel_rfl) (of_decide_eq_true (by kernel_rfl)) k1 bel lt1) trodAll_mk0)), rfl, bel.frame _, fun h => by cases h⟩

set_option maxRecDepth 100000 in
theorem nfaOwn_lifted (os : Os) (started : os.Started) (H : Type) (enc : TypeId × Value → H) (F : Stop.Interp) :
    ReturnsInHanded {} Try.checked os 10 .any ((Rows.OpenSpec.upto Rows.nfaOwnSpec).pre6 enc Try.prog Try.f10 Rows.nfaOwnUptoRow.domain false) (((Rows.OpenSpec.upto Rows.nfaOwnSpec).at F).post enc Try.prog Try.f10 false true false false) := by
  refine returnsInHanded_of_cond_shaped (C := Try.checked) (s := Rows.OpenSpec.upto Rows.nfaOwnSpec) (k := Rows.uptoSmall) rfl own started (by kernel_rfl) Try.func10
    (OpenSpec.witness (enc := enc) (C := Try.checked) (s := Rows.OpenSpec.upto Rows.nfaOwnSpec) (k := Rows.uptoSmall) rfl false ⟨#[], #[.string ⟨#[]⟩, .string ⟨#[]⟩], []⟩ 8 (by kernel_rfl) (by kernel_rfl) (by kernel_rfl)
      (x := ([.lit (.string []), .lit (.string [])], [], [])) (by kernel_rfl) rfl (by kernel_rfl)) ?_
  intro W base args ds gs before hval hW _ hk hsh _
  exact nfaOwn_contract H enc W base args ds gs before hval hk (mx_of hsh) hW F

theorem nfaOwnUpto_holds : Rows.NfaOwnUptoSaid :=
  OpenClaim.holds_of_cond 10 Try.f10 rfl rfl rfl rfl rfl rfl rfl ⟨rfl, rfl, rfl, rfl, rfl⟩ rfl rfl rfl rfl rfl (by kernel_rfl) Try.func10 (by kernel_rfl)
    (of_decide_eq_true (by kernel_rfl)) (by unfold Func.isWrapper; first | (rw [if_pos (by decide +kernel)]; kernel_rfl) | (rw [if_neg (by decide +kernel)]; exact ⟨rfl, rfl⟩))
    (fun os started H enc _ F => nfaOwn_lifted os started H enc F)
#print axioms nfaOwnUpto_holds
end Go.Proofs.Ytajainmldcnaeaa
