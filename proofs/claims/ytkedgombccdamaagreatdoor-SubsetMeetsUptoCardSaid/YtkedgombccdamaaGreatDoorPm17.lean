/- Part 17 of a proof; packed: the texts that it was made of follow one another. No condition beyond those named in each lemma. -/
import Derived.Test.YtkedgombccdamaaGreatDoorCards
import Derived.Test.YtkedgombccdamaaGreatDoorPm16
import Derived.Test.YtkedgombccdamaaGreatDoorTie
import Derived.SevenTiedAt
namespace Go.Proofs.YtkedgombccdamaaGreatDoor
open Go.ChangeShapes Go.WideShapes Go.ChangeAt Go.RowKit
open Go.ChangeMaps (open_string shut_string)
set_option linter.unusedVariables false
set_option linter.unusedSimpArgs false
theorem door_met_subsetMeets (os : Os) (args : Array Value) : laidMetH Tryz.prog Rows.subsetMeetsUptoRow.laid ((World.doorLaid Tryz.prog 400 os).forCall (fun _ _ => 0) ⟨#[], args, []⟩).memory :=
 laidMet_of_run' 8 (by kernel_rfl) (by kernel_rfl)
set_option maxRecDepth 100000 in
theorem subsetMeets_lifted (os : Os) (started : os.Started) (H : Type) (enc : TypeId × Value → H) (F : Stop.Interp) :
  ReturnsInHanded {} Tryz.checked os 3 .any (fun w args => ((Rows.OpenSpec.upto Rows.subsetMeetsSpec).pre enc Tryz.prog Tryz.f3 [] false w args ∧ laidMetH Tryz.prog Rows.subsetMeetsUptoRow.laid w) ∧ sizedMet enc Tryz.prog Tryz.f3 (Rows.OpenSpec.upto Rows.subsetMeetsSpec) false w args) (((Rows.OpenSpec.upto Rows.subsetMeetsSpec).at F).post enc Tryz.prog Tryz.f3 false true false false) := by
 have hw : (DataW.whole enc Tryz.prog ((World.doorLaid Tryz.prog 400 os).forCall (fun _ _ => 0) ⟨#[], #[.slice none 0 0, .string ⟨#[]⟩], []⟩).memory Tryz.f3.params.toList (Rows.OpenSpec.upto Rows.subsetMeetsSpec).vars false #[.slice none 0 0, .string ⟨#[]⟩].toList 8).map (fun x => (x.1, x.2.1)) = some ([.nil, .lit (.string [])], []) := by kernel_rfl
 obtain ⟨⟨x1, x2, x3⟩, hx, hx1⟩ := Option.map_eq_some_iff.1 hw
 simp only [Prod.mk.injEq] at hx1
 obtain ⟨rfl, rfl⟩ := hx1
 refine returnsInHanded_of_cond_and_shaped (C := Tryz.checked) (s := Rows.OpenSpec.upto Rows.subsetMeetsSpec) rfl (X := fun w => laidMetH Tryz.prog Rows.subsetMeetsUptoRow.laid w) (fun _ _ hh h => h.of_heap hh) own started (by kernel_rfl) Tryz.func3
  (witness_and (enc := enc) (C := Tryz.checked) (os := os) rfl false (World.doorLaid Tryz.prog 400 os) #[.slice none 0 0, .string ⟨#[]⟩] 8 rfl (World.shaped_of_RefB (by kernel_rfl) (by kernel_rfl)) (by kernel_rfl) hx (by kernel_rfl) (by kernel_rfl) (by kernel_rfl) (door_met_subsetMeets os _)) ?_
 intro W base args ds gs before hval0 hW _ hcond hL hsh _
 have hM := mx_of hsh
 have hval : ∀ (j : Nat) t v, Tryz.f3.params[j]? = some t → args[j]? = some v → Value.okWide Tryz.prog W .any base t v := hval0
 have hW' := hW
 obtain ⟨p, q, hA0, hV, rfl, hfz, hnd⟩ := hW
 have hA : DataW.TrodAll enc Tryz.prog W 0 (fun _ => true) true Tryz.f3.params.toList args.toList ds p := hA0
 rw [Tryz.params3] at hA hval
 obtain ⟨v0, vs0, d0, ds0, p0, q0, hargs, rfl, rfl, h0, r0⟩ := trodAll_cons hA
 obtain ⟨v1, vs1, d1, ds1, p1, q1, rfl, rfl, rfl, h1, r1⟩ := trodAll_cons r0
 obtain ⟨rfl, rfl, rfl⟩ := trodAll_nil r1
 obtain rfl : args = #[v0, v1] := by cases args; simp_all
 obtain ⟨rfl, rfl⟩ := trodVars_none hV
 have k0 := h0
 have lt0 : ∀ x ∈ p0, x.block < W.heap.size := by obtain ⟨m, hm⟩ := k0; exact DataW.trod_lt m _ _ _ hm
 have k1 := h1
 have lt1 : ∀ x ∈ p1, x.block < W.heap.size := by obtain ⟨m, hm⟩ := k1; exact DataW.trod_lt m _ _ _ hm
 have hbulk : Rows.uptoBulkAll ([d0, d1] ++ []) ≤ 1048576 := of_decide_eq_true hcond
 simp only [List.append_nil, Rows.uptoBulkAll] at hbulk
 obtain ⟨A0, n0, c0, l0, rfl, hn0, hm0, hs0, hb0⟩ := open_strs_q (K := 1048576) (hval 0 22 v0 rfl rfl) h0 (by omega)
 have hcap0 := (open_cap Tryz.underlying22 h0).1
 obtain ⟨s1, rfl, hd1, _⟩ := open_string Tryz.underlying9 (hval 1 9 v1 rfl rfl) h1
 have b1 : s1.size ≤ 1048576 := by
  rw [hd1] at hbulk
  have := bulk_str (H := H) (l := s1.data.toList) (K := 1048576) (by omega)
  simpa using this
 have hT := tab_of_laid3 hL
 clear hA0 hval0
 refine (subsetMeets_any A0 n0 c0 l0 hn0 (by omega) hcap0 s1 b1 W hM hT hs0).mono fun e W' ⟨he, bel⟩ => ?_
 subst he
 exact ⟨_, rfl, _, _, _, [], _, [], hW', trodAll_mk1 (shut_bool Tryz.underlying4 _), (trodAll_cons_mk (Below.trod laidOut (by kernel_rfl) (of_decide_eq_true (by kernel_rfl)) k0 bel lt0) (trodAll_cons_mk (Below.trod laidOut (by kernel_rfl) (of_decide_eq_true (by kernel_rfl)) k1 bel lt1) trodAll_mk0)), rfl, bel.frame _, fun h => by cases h⟩
theorem subsetMeetsUpto_holds : Rows.SubsetMeetsUptoSaid :=
 OpenClaim.holds_of_cond 3 Tryz.f3 rfl rfl rfl rfl rfl rfl rfl ⟨rfl, rfl, rfl, rfl, rfl⟩ rfl rfl rfl rfl rfl (by kernel_rfl) Tryz.func3 (by kernel_rfl)
  (of_decide_eq_true (by kernel_rfl)) (by unfold Func.isWrapper; rw [if_neg (of_decide_eq_false (by kernel_rfl))]; exact ⟨rfl, rfl⟩)
  (fun os started H enc _ F => subsetMeets_lifted os started H enc F)
theorem subsetMeetsUptoCard_holds : Rows.SubsetMeetsUptoCardSaid :=
 Claim7.holds_tied_plain_at .later [] [.data, .data, .data] true _ true
  subsetMeetsUpto_holds (fun _ h => by cases h) (by kernel_rfl) (fun _ h => by cases h) subsetMeetsUpto_row_tie rfl ⟨rfl, rfl⟩ (by kernel_rfl) rfl
  (fun f fn hf hfn => by
   obtain rfl : f = 3 := Option.some.inj ((show Tryz.prog.funcNamed "heron/heronlaw10.SubsetMeets" = some 3 by kernel_rfl).symm.trans hf) |>.symm
   obtain rfl : fn = Tryz.f3 := (Option.some.inj (Tryz.func3.symm.trans hfn)).symm
   exact ⟨by kernel_rfl, fun j t ht => by
    rw [Tryz.params3] at ht
    have hm : t ∈ [22, 9] := by simpa using Array.mem_of_getElem? ht
    have hall : ([22, 9].all fun u => !Tryz.prog.wantsStandIn u) = true := by kernel_rfl
    exact (show Tryz.prog.wantsStandIn t = false by simpa using List.all_eq_true.1 hall t hm)⟩)
  (by kernel_rfl)
#print axioms subsetMeetsUptoCard_holds
end Go.Proofs.YtkedgombccdamaaGreatDoor
