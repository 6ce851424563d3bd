/- For every input of bulk at most 1048576 the statement ScriptLines answers true, and each argument reads behind the call as it read before. The listed variables are tied to the program's text. -/
import Derived.Test.YtjplgcmfifoefaaDoorQtY
import Derived.Test.YtjplgcmfifoefaaDoorOpenE
import Derived.Test.YtjplgcmfifoefaaDoorTie
import Derived.Test.YtjplgcmfifoefaaDoorCards
import Derived.SevenTiedAt
import Derived.Lay
namespace Go.Proofs.YtjplgcmfifoefaaDoor
open Go.ChangeShapes Go.WideShapes Go.ChangeAt Go.RowKit
open Go.ChangeMaps (open_string shut_string)
set_option linter.unusedVariables false
set_option linter.unusedSimpArgs false

theorem door_met_scriptLines (os : Os) (args : Array Value) : laidMetH Tryd.prog Rows.scriptLinesUptoRow.laid ((World.laidAll Tryd.prog os laidL).forCall (fun _ _ => 0) ⟨#[], args, []⟩).memory :=
  laidMet_laidAll _ (by kernel_rfl) (by kernel_rfl)
set_option maxRecDepth 100000 in
theorem scriptLines_lifted (os : Os) (started : os.Started) (H : Type) (enc : TypeId × Value → H) (F : Stop.Interp) :
    ReturnsInHanded {} Tryd.checked os 4 .any (fun w args => ((Rows.OpenSpec.upto Rows.scriptLinesSpec).pre enc Tryd.prog Tryd.f4 [] false w args ∧ laidMetH Tryd.prog Rows.scriptLinesUptoRow.laid w) ∧ sizedMet enc Tryd.prog Tryd.f4 (Rows.OpenSpec.upto Rows.scriptLinesSpec) false w args) (((Rows.OpenSpec.upto Rows.scriptLinesSpec).at F).post enc Tryd.prog Tryd.f4 false true false false) := by
  have hw : (DataW.whole enc Tryd.prog ((World.laidAll Tryd.prog os laidL).forCall (fun _ _ => 0) ⟨#[], #[.string ⟨#[]⟩], []⟩).memory Tryd.f4.params.toList (Rows.OpenSpec.upto Rows.scriptLinesSpec).vars false #[.string ⟨#[]⟩].toList 8).map (fun x => (x.1, x.2.1)) = some ([.lit (.string [])], []) := by kernel_rfl
  obtain ⟨⟨x1, x2, x3⟩, hx, hx1⟩ := Option.map_eq_some_iff.1 hw
  simp only [Prod.mk.injEq] at hx1
  obtain ⟨rfl, rfl⟩ := hx1
  refine returnsInHanded_of_cond_and_shaped (C := Tryd.checked) (s := Rows.OpenSpec.upto Rows.scriptLinesSpec) rfl (X := fun w => laidMetH Tryd.prog Rows.scriptLinesUptoRow.laid w) (fun _ _ hh h => h.of_heap hh) own started (by kernel_rfl) Tryd.func4
    (witness_and (enc := enc) (C := Tryd.checked) (os := os) rfl false (World.laidAll Tryd.prog os laidL) #[.string ⟨#[]⟩] 8 rfl (World.shaped_of_ZipB (by kernel_rfl) (by kernel_rfl)) (by kernel_rfl) hx (by kernel_rfl) (by kernel_rfl) (by kernel_rfl) (door_met_scriptLines os _)) ?_
  intro W base args ds gs before hval0 hW _ hcond hL hsh _
  have hval : ∀ (j : Nat) t v, Tryd.f4.params[j]? = some t → args[j]? = some v → Value.okWide Tryd.prog W .any base t v := hval0
  have hW' := hW
  obtain ⟨p, q, hA0, hV, rfl, hfz, hnd⟩ := hW
  have hA : DataW.TrodAll enc Tryd.prog W 0 (fun _ => true) true Tryd.f4.params.toList args.toList ds p := hA0
  rw [Tryd.params4] at hA hval
  obtain ⟨v0, vs0, d0, ds0, p0, q0, hargs, rfl, rfl, h0, r0⟩ := trodAll_cons hA
  obtain ⟨rfl, rfl, rfl⟩ := trodAll_nil r0
  obtain rfl : args = #[v0] := by cases args; simp_all
  obtain ⟨rfl, rfl⟩ := trodVars_none hV
  have k0 := h0
  have lt0 : ∀ x ∈ p0, x.block < W.heap.size := by obtain ⟨m, hm⟩ := k0; exact DataW.trod_lt m _ _ _ hm
  have hbulk : Rows.uptoBulkAll ([d0] ++ []) ≤ 1048576 := of_decide_eq_true hcond
  simp only [List.append_nil, Rows.uptoBulkAll] at hbulk
  obtain ⟨s0, rfl, hd0, _⟩ := open_string Tryd.underlying9 (hval 0 9 v0 rfl rfl) h0
  have b0 : s0.size ≤ 1048576 := by
    rw [hd0] at hbulk
    simp only [Rows.uptoBulk] at hbulk
    have h9 : s0.data.toList.length = s0.size := by simp
    omega
  have hS := sok_of_laid hL
  clear hA0 hval0
  refine (scriptLines_any s0 b0 W hS).mono fun e W' ⟨he, bel⟩ => ?_
  subst he
  exact ⟨_, rfl, _, _, _, [], _, [], hW', trodAll_mk1 (shut_bool Tryd.underlying4 _), (trodAll_cons_mk (Below.trod laidOut (by kernel_rfl) (of_decide_eq_true (by kernel_rfl)) k0 bel lt0) trodAll_mk0), rfl, bel.frame _, fun h => by cases h⟩

theorem scriptLinesUpto_holds : Rows.ScriptLinesUptoSaid :=
  OpenClaim.holds_of_cond 4 Tryd.f4 rfl rfl rfl rfl rfl rfl rfl ⟨rfl, rfl, rfl, rfl, rfl⟩ rfl rfl rfl rfl rfl (by kernel_rfl) Tryd.func4 (by kernel_rfl)
    (of_decide_eq_true (by kernel_rfl)) (by unfold Func.isWrapper; rw [if_neg (of_decide_eq_false (by kernel_rfl))]; exact ⟨rfl, rfl⟩)
    (fun os started H enc _ F => scriptLines_lifted os started H enc F)
theorem scriptLinesUptoCard_holds : Rows.ScriptLinesUptoCardSaid :=
  Claim7.holds_tied_plain_at .later [] [.data, .data, .data, .data, .sentinel, .sentinel, .data, .pinned] true _ true
    scriptLinesUpto_holds (fun _ h => by cases h) (by kernel_rfl) (fun _ h => by cases h) scriptLinesUpto_row_tie rfl ⟨rfl, rfl⟩ (by kernel_rfl) rfl
    (fun f fn hf hfn => by
      obtain rfl : f = 4 := Option.some.inj ((show Tryd.prog.funcNamed "heron/heronlaw26.ScriptLines" = some 4 by kernel_rfl).symm.trans hf) |>.symm
      obtain rfl : fn = Tryd.f4 := (Option.some.inj (Tryd.func4.symm.trans hfn)).symm
      exact ⟨by kernel_rfl, fun j t ht => by
        rw [Tryd.params4] at ht
        have hm : t ∈ [9] := by simpa using Array.mem_of_getElem? ht
        have hall : ([9].all fun u => !Tryd.prog.wantsStandIn u) = true := by kernel_rfl
        exact (show Tryd.prog.wantsStandIn t = false by simpa using List.all_eq_true.1 hall t hm)⟩)
    (by kernel_rfl)
#print axioms scriptLinesUptoCard_holds
end Go.Proofs.YtjplgcmfifoefaaDoor
