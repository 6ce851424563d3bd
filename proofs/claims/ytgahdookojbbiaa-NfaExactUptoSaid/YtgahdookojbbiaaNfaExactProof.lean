/- For every input of bulk at most 1048576 the statement NfaExact answers true, and each argument reads behind the call as it read before. -/
import Derived.Test.YtgahdookojbbiaaRows
import Derived.Test.YtgahdookojbbiaaOpenN
import Derived.WalkKit
import Derived.ProofKit
import Derived.OpenShut
import Derived.JoinedCond
namespace Go.Proofs.Ytgahdookojbbiaa
open Go.ChangeShapes Go.WideShapes Go.ChangeAt Go.RowKit
set_option linter.unusedVariables false
set_option linter.unusedSimpArgs false

section
variable {H : Type} {enc : TypeId × Value → H} {W : World} {held : Bool} {r : Reach} {b0 : Nat} {v : Value} {d : DataW H} {ps : List MemPlace}
set_option maxRecDepth 100000 in
theorem open_node (hval : Value.okWide Try.prog W r b0 27 v) (hd : DataW.Trod enc Try.prog W 0 (fun _ => true) held 27 v d ps) (hb : Rows.uptoBulk d ≤ 1048576) :
    ∃ (nd : Nd) (c : Array Value), v = .agg c ∧ NdIn W W.heap.size nd c := by
  have hv : ∃ cs, v = .agg cs := by
    unfold Value.okWide at hval
    rw [Try.underlying27] at hval
    obtain ⟨cs, h, _⟩ := hval
    exact ⟨cs, h⟩
  obtain ⟨cs, rfl⟩ := hv
  obtain ⟨fuel, hf⟩ := hd
  obtain ⟨nd, c, h1, _, h3⟩ := trod_node 1048576 _ _ _ (Nat.le_refl _) hf hb
  have : cs.toList = c.toList := by simpa [Value.cells] using h1
  exact ⟨nd, c, by rw [Array.toList_inj.1 this], h3⟩
set_option maxRecDepth 100000 in
theorem open_mvs (hval : Value.okWide Try.prog W r b0 28 v) (hd : DataW.Trod enc Try.prog W 0 (fun _ => true) held 28 v d ps) (hb : Rows.uptoBulk d ≤ 1048576) :
    ∃ (A : Option Addr) (n c : Nat) (l : List MV), v = .slice A n c ∧ n = l.length ∧ n ≤ 1048576 ∧ SliceOf W W.heap.size 3 MV.C A l ∧ MsIn W W.heap.size l := by
  obtain ⟨A, n, c, rfl⟩ := okWide_slice Try.underlying28 hval
  obtain ⟨fuel, hf⟩ := hd
  obtain ⟨A', n', c', l, e, hn, hnK, hsl⟩ := trod_slice_q (K := 1048576) (size := 3) (ea := fun z : {y : MV // SliceOf W W.heap.size 7 edgC y.A y.F.E ∧ SliceOf W W.heap.size 1 encR y.B y.F.R ∧ y.F.E.length ≤ 1048576 ∧ y.F.R.length ≤ 1048576} => z.1.C) Try.underlying28 cells_nfa (by omega) (fun z => rfl) (fun fuel cs x hx hb => by
    obtain ⟨y, e, h⟩ := trod_mv (Nat.le_refl _) fuel cs x hx (by omega)
    exact ⟨⟨y, h⟩, e⟩) hf hb
  injection e with e1 e2 e3
  subst e1 e2 e3
  refine ⟨A, n, c, l.map (·.1), rfl, by rw [List.length_map]; exact hn, hnK, ?_, ?_⟩
  · rcases hsl with h | ⟨b, off, q1, q2, q3⟩
    · exact .inl (by rw [h]; rfl)
    · refine .inr ⟨b, off, q1, q2, fun i hi => ?_⟩
      rw [List.getElem_map]
      exact q3 i (by simpa using hi)
  · refine fun y hy => ?_
    obtain ⟨z, _, rfl⟩ := List.mem_map.1 hy
    exact z.2
end

set_option maxRecDepth 100000 in
theorem nfaExact_contract (H : Type) (enc : TypeId × Value → H) (W : World) (base : Nat) (args : Array Value) (ds gs : List (DataW H)) (before : List MemPlace)
    (hval0 : ∀ (j : Nat) t v, Try.f3.params[j]? = some t → args[j]? = some v → Value.okWide Try.prog W .any base t v)
    (hcond : Rows.uptoSmall H (ds ++ gs) = true)
    (hW : DataW.Whole enc Try.prog Try.f3.params.toList Rows.nfaExactSpec.vars false W args.toList ds gs before) (F : Stop.Interp) :
    Calls Try.prog 3 args W fun e W' => ∃ v, e = .returned v ∧ ((Rows.OpenSpec.upto Rows.nfaExactSpec).at F).post enc Try.prog Try.f3 false true false false W args v W' := by
  have hW' := hW
  obtain ⟨p, q, hA0, hV, rfl, hfz, hnd⟩ := hW
  have hA : DataW.TrodAll enc Try.prog W 0 (fun _ => true) true Try.f3.params.toList args.toList ds p := hA0
  have hval := hval0
  rw [Try.params3] at hA hval
  obtain ⟨v0, vs0, d0, ds0, p0, q0, hargs, rfl, rfl, h0, r0⟩ := trodAll_cons hA
  obtain ⟨v1, vs1, d1, ds1, p1, q1, rfl, rfl, rfl, h1, r1⟩ := trodAll_cons r0
  obtain ⟨v2, vs2, d2, ds2, p2, q2, rfl, rfl, rfl, h2, r2⟩ := trodAll_cons r1
  obtain ⟨rfl, rfl, rfl⟩ := trodAll_nil r2
  obtain rfl : args = #[v0, v1, v2] := by cases args; simp_all
  obtain ⟨rfl, rfl⟩ := trodVars_none hV
  have k0 := h0
  have lt0 : ∀ x ∈ p0, x.block < W.heap.size := by obtain ⟨m, hm⟩ := k0; exact DataW.trod_lt m _ _ _ hm
  have k1 := h1
  have lt1 : ∀ x ∈ p1, x.block < W.heap.size := by obtain ⟨m, hm⟩ := k1; exact DataW.trod_lt m _ _ _ hm
  have k2 := h2
  have lt2 : ∀ x ∈ p2, x.block < W.heap.size := by obtain ⟨m, hm⟩ := k2; exact DataW.trod_lt m _ _ _ hm
  have hbulk : Rows.uptoBulkAll ([d0, d1, d2] ++ []) ≤ 1048576 := of_decide_eq_true hcond
  simp only [List.append_nil, Rows.uptoBulkAll] at hbulk
  obtain ⟨nd, cs, rfl, hin⟩ := open_node (hval 0 27 v0 rfl rfl) h0 (by omega)
  obtain ⟨rule, rfl, _, _, _⟩ := open_int Try.underlying3 (hval 1 3 v1 rfl rfl) h1
  obtain ⟨A, n, c, l, rfl, hn, hn2, hs, hM⟩ := open_mvs (hval 2 28 v2 rfl rfl) h2 (by omega)
  clear hA0 hval0
  refine (nfaExact_any nd rule A n c l hn hn2 W cs hin hs hM).mono fun e W' ⟨he, bel⟩ => ?_
  subst he
  exact ⟨_, rfl, _, _, _, [], _, [], hW', trodAll_mk1 (shut_bool Try.underlying4 _), (trodAll_cons_mk (Below.trod laidOut (by kernel_rfl) (of_decide_eq_true (by kernel_rfl)) k0 bel lt0) (trodAll_cons_mk (Below.trod laidOut (by kernel_rfl) (of_decide_eq_true (by kernel_rfl)) k1 bel lt1) (trodAll_cons_mk (Below.trod laidOut (by kernel_rfl) (of_decide_eq_true (by kernel_rfl)) k2 bel lt2) trodAll_mk0))), rfl, bel.frame _, fun h => by cases h⟩

set_option maxRecDepth 100000 in
theorem nfaExact_lifted (os : Os) (started : os.Started) (H : Type) (enc : TypeId × Value → H) (F : Stop.Interp) :
    ReturnsInHanded {} Try.checked os 3 .any ((Rows.OpenSpec.upto Rows.nfaExactSpec).pre6 enc Try.prog Try.f3 Rows.nfaExactUptoRow.domain false) (((Rows.OpenSpec.upto Rows.nfaExactSpec).at F).post enc Try.prog Try.f3 false true false false) := by
  refine returnsInHanded_of_cond (C := Try.checked) (s := Rows.OpenSpec.upto Rows.nfaExactSpec) (k := Rows.uptoSmall) rfl own started (by kernel_rfl) Try.func3
    (OpenSpec.witness (enc := enc) (C := Try.checked) (s := Rows.OpenSpec.upto Rows.nfaExactSpec) (k := Rows.uptoSmall) rfl false ⟨#[], #[.agg #[.int .i64 0, .int .u64 0, .int .u64 0, .int .u64 0, .int .u64 0, .slice none 0 0, .int .i64 0, .int .i64 0], .int .i64 0, .slice none 0 0], []⟩ 8 (by kernel_rfl) (by kernel_rfl) (by kernel_rfl)
      (x := ([.agg [.lit (.int .i64 0), .agg [.lit (.int .u64 0), .lit (.int .u64 0), .lit (.int .u64 0), .lit (.int .u64 0)], .nil, .lit (.int .i64 0), .lit (.int .i64 0)], .lit (.int .i64 0), .nil], [], [])) (by kernel_rfl) rfl (by kernel_rfl)) ?_
  intro W base args ds gs before hval hW _ hk _
  exact nfaExact_contract H enc W base args ds gs before hval hk hW F

theorem nfaExactUpto_holds : Rows.NfaExactUptoSaid :=
  OpenClaim.holds_of_cond 3 Try.f3 rfl rfl rfl rfl rfl rfl rfl ⟨rfl, rfl, rfl, rfl, rfl⟩ rfl rfl rfl rfl rfl (by kernel_rfl) Try.func3 (by kernel_rfl)
    (of_decide_eq_true (by kernel_rfl)) (by unfold Func.isWrapper; first | (rw [if_pos (by decide +kernel)]; kernel_rfl) | (rw [if_neg (by decide +kernel)]; exact ⟨rfl, rfl⟩))
    (fun os started H enc _ F => nfaExact_lifted os started H enc F)
#print axioms nfaExactUpto_holds
end Go.Proofs.Ytgahdookojbbiaa
