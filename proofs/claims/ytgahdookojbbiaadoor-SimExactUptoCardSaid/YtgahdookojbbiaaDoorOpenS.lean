/- Machines opened with the length of their lists; the bulk of what is read; the row's proof where the specification has a condition of its own and a variable is laid. No condition beyond those named in each lemma. -/
import Derived.Test.YtgahdookojbbiaaDoorOpen3
import Derived.Test.YtgahdookojbbiaaDoorSimC
import Derived.JoinedCond
import Derived.LaidMore
import Derived.Lib.LaidTab
namespace Go.Proofs.YtgahdookojbbiaaDoor
open Go.ChangeShapes Go.WideShapes Go.ChangeAt Go.RowKit Go.Joins
set_option linter.unusedVariables false
set_option linter.unusedSimpArgs false

section
variable {H : Type}
theorem bulk_pos (d : DataW H) : 1 ≤ Rows.uptoBulk d := by
  cases d with
  | lit l => cases l <;> simp [Rows.uptoBulk]
  | _ => simp [Rows.uptoBulk]
theorem bulk_len : ∀ l : List (DataW H), l.length ≤ Rows.uptoBulkAll l
  | [] => by simp [Rows.uptoBulkAll]
  | d :: l => by
    have := bulk_pos d
    have := bulk_len l
    simp only [List.length_cons, Rows.uptoBulkAll]
    omega
/-- the bulk of a machine tells its lists' lengths -/
theorem bulk_nfa {q0 q1 q2 : DataW H} {n m K : Nat} (h1 : (q1 = .nil ∧ n = 0) ∨ ∃ el sp, q1 = .slice el sp ∧ el.length = n) (h2 : (q2 = .nil ∧ m = 0) ∨ ∃ el sp, q2 = .slice el sp ∧ el.length = m) (h : Rows.uptoBulk (.agg [q0, q1, q2]) ≤ K) : n ≤ K ∧ m ≤ K := by
  simp only [Rows.uptoBulk, Rows.uptoBulkAll] at h
  constructor
  · rcases h1 with ⟨_, e⟩ | ⟨el, sp, rfl, e⟩
    · omega
    · have := bulk_len el
      simp only [Rows.uptoBulk] at h
      omega
  · rcases h2 with ⟨_, e⟩ | ⟨el, sp, rfl, e⟩
    · omega
    · have := bulk_len el
      simp only [Rows.uptoBulk] at h
      omega
end
section
variable {H : Type} {enc : TypeId × Value → H} {W : World} {held : Bool} {r : Go.Reach} {b0 : Nat} {v : Value} {d : DataW H} {ps : List MemPlace} {fuel : Nat}
theorem open_nfa2 (hval : Value.okWide Tryd.prog W r b0 25 v) (hd : DataW.Trod enc Tryd.prog W 0 (fun _ => true) held 25 v d ps) :
    ∃ (s : Int) (A : Option Addr) (n c : Nat) (B : Option Addr) (m e : Nat) (es : List Edg) (rs : List Nat) (q0 q1 q2 : DataW H), v = .agg (nfaC s A n c B m e) ∧ n = es.length ∧ SliceOf W W.heap.size 7 edgC A es ∧
      m = rs.length ∧ SliceOf W W.heap.size 1 encR B rs ∧ (∀ x ∈ rs, x < 4294967296) ∧ d = .agg [q0, q1, q2] ∧ ((q1 = .nil ∧ n = 0) ∨ ∃ el sp, q1 = .slice el sp ∧ el.length = n) ∧ ((q2 = .nil ∧ m = 0) ∨ ∃ el sp, q2 = .slice el sp ∧ el.length = m) := by
  obtain ⟨v0, v1, v2, y0, y1, y2, k, rfl, rfl, rfl, h0, h1, h2⟩ := open_agg3 Tryd.underlying25 (by kernel_rfl) cells_nfa hval hd
  obtain ⟨s, hs, _, hw⟩ := DataW.trod_int Tryd.underlying3 h0
  injection hs with hs _
  subst hs
  obtain ⟨A, n, c, es, rfl, hn, hc, hcm, hsl, hq1⟩ := trod_slice_of (size := 7) (ea := edgC) Tryd.underlying22 cells_edge (by omega) edgC_size (fun _ _ _ h => trod_edge h) h1
  obtain ⟨B, m, e, rs, rfl, hm, he, hem, hsr, hq2⟩ := trod_slice_of (size := 1) (ea := fun z : {z : Nat // z < 4294967296} => encR z.1) Tryd.underlying23 (by kernel_rfl) (by omega) (fun z => rfl) (fun _ _ _ h => by
    obtain ⟨z, hz, _, hw⟩ := DataW.trod_int Tryd.underlying28 h
    have h2 : IntKind.u32.min = 0 := by decide
    have h3 : IntKind.u32.max = 4294967295 := by decide
    simp only [Lit.wf, Bool.and_eq_true, decide_eq_true_eq] at hw
    obtain ⟨z', rfl⟩ := Int.eq_ofNat_of_zero_le (show 0 ≤ z by omega)
    exact ⟨⟨z', by omega⟩, by rw [hz]; rfl⟩) h2
  refine ⟨s, A, n, c, B, m, e, es, rs.map (·.1), _, _, _, rfl, hn, hsl, by rw [List.length_map]; exact hm, ?_, ?_, rfl, hq1, hq2⟩
  · rcases hsr with h | ⟨b, off, h1, h2, h3⟩
    · exact .inl (by rw [h]; rfl)
    · refine .inr ⟨b, off, h1, h2, fun i hi => ?_⟩
      rw [List.getElem_map]
      exact h3 i (by simpa using hi)
  · intro x hx
    obtain ⟨z, _, rfl⟩ := List.mem_map.1 hx
    exact z.2
end

/-- a row whose specification has a condition of its own, and that wants a word on the world besides -/
theorem returnsInHanded_of_cond_and {H : Type} {enc : TypeId × Value → H} {a : Assume} {C : Checked} {os : Os} {f : FuncId} {fn : Func} {s : OpenSpec} {k : (H : Type) → List (DataW H) → Bool} (hk : s.cond = some k) {F : Stop.Interp} {conds : List PathCond} {apart fresh handsOn again : Bool} {X : World → Prop}
    (hX : ∀ (w w' : World), w.heap = w'.heap → X w → X w')
    (own : ownKnob C.prog.godebug = none) (started : os.Started) (noInit : C.prog.inits.idxOf? f = none) (hfn : C.prog.funcs[f]? = some fn)
    (witness : ∃ (w : World) (tape : Tape) (i : Input), w.os = os ∧ (w.forCall tape i).Shaped C.prog ∧ i.vars = [] ∧ Input.okWide C.prog (w.forCall tape i) .any w.heap.size f i ∧
      ((s.pre enc C.prog fn conds apart (w.forCall tape i).memory i.args ∧ X (w.forCall tape i).memory) ∧ sizedMet enc C.prog fn s apart (w.forCall tape i).memory i.args) ∧ a.holds C.prog (lone (Frame.enter C.prog f i.args .normal) [] (w.forCall tape i)))
    (contract : ∀ (W : World) (base : Nat) (args : Array Value) (ds gs : List (DataW H)) (before : List MemPlace),
      (∀ (j : Nat) t v, fn.params[j]? = some t → args[j]? = some v → Value.okWide C.prog W .any base t v) →
      DataW.Whole enc C.prog fn.params.toList s.vars apart W args.toList ds gs before →
      conds.all (PathCond.test C.prog ⟨fn.params.toList, ds, s.bare.plain.varTypes C.prog, gs⟩) = true → k H (ds ++ gs) = true → X W →
      a.holds C.prog (lone (Frame.enter C.prog f args .normal) [] W) →
      Calls C.prog f args W fun e W' => ∃ v, e = .returned v ∧ (s.at F).post enc C.prog fn apart fresh handsOn again W args v W') :
    ReturnsInHanded a C os f .any (fun w args => (s.pre enc C.prog fn conds apart w args ∧ X w) ∧ sizedMet enc C.prog fn s apart w args) ((s.at F).post enc C.prog fn apart fresh handsOn again) := by
  refine returnsInHanded_of_calls own started noInit witness ?_
  intro w tape i _ _ _ hok hpre hholds
  obtain ⟨_, _, _, fn', hfn', _, _, _, _, hval⟩ := hok
  have e : fn' = fn := Option.some.inj (hfn'.symm.trans hfn)
  subst e
  obtain ⟨ds, gs, before, hw, hc, hkk⟩ := (OpenSpec.pre_some hk conds apart _ _).1 hpre.1.1
  have hw' := DataW.Whole.of_heap (w' := w.forCall tape i) (by rfl) hw
  refine (contract (w.forCall tape i) w.heap.size i.args ds gs before hval hw' hc hkk (hX _ _ (by rfl) hpre.1.2) hholds).mono fun e W' ⟨v, he, hp⟩ => ?_
  subst he
  exact ChangeSpec.post_blind hp
theorem witness_and {H : Type} {enc : TypeId × Value → H} {C : Checked} {os : Os} {f : FuncId} {fn : Func} {s : OpenSpec} {k : (H : Type) → List (DataW H) → Bool} (hk : s.cond = some k) {conds : List PathCond} {apart : Bool} {X : World → Prop} (modest : Bool) (w0 : World) (args : Array Value) (fuel : Nat) (hos : w0.os = os)
    (hsh : (w0.forCall (fun _ _ => 0) ⟨#[], args, []⟩).Shaped C.prog)
    (hok : Input.okWideB C.prog (w0.forCall (fun _ _ => 0) ⟨#[], args, []⟩) f ⟨#[], args, []⟩ = true)
    {x : List (DataW H) × List (DataW H) × List MemPlace} (hx : DataW.whole enc C.prog (w0.forCall (fun _ _ => 0) ⟨#[], args, []⟩).memory fn.params.toList s.vars apart args.toList fuel = some x)
    (hconds : conds.all (PathCond.test C.prog ⟨fn.params.toList, x.1, s.bare.plain.varTypes C.prog, x.2.1⟩) = true) (hkk : k H (x.1 ++ x.2.1) = true)
    (hsz : s.bare.sizedB enc C.prog fn apart (w0.forCall (fun _ _ => 0) ⟨#[], args, []⟩).memory args fuel = true)
    (hX : X (w0.forCall (fun _ _ => 0) ⟨#[], args, []⟩).memory) :
    ∃ (w : World) (tape : Tape) (i : Input), w.os = os ∧ (w.forCall tape i).Shaped C.prog ∧ i.vars = [] ∧ Input.okWide C.prog (w.forCall tape i) .any w.heap.size f i ∧
      ((s.pre enc C.prog fn conds apart (w.forCall tape i).memory i.args ∧ X (w.forCall tape i).memory) ∧ sizedMet enc C.prog fn s apart (w.forCall tape i).memory i.args) ∧ ({ modest := modest } : Assume).holds C.prog (lone (Frame.enter C.prog f i.args .normal) [] (w.forCall tape i)) :=
  ⟨w0, fun _ _ => 0, ⟨#[], args, []⟩, hos, hsh, (Input.okWide_of_okWideB (base := 0) hok).1, (Input.okWide_of_okWideB hok).2,
    ⟨⟨(OpenSpec.pre_some hk conds apart _ _).2 ⟨x.1, x.2.1, x.2.2, DataW.Whole_of_whole hx, hconds, hkk⟩, hX⟩, sizedMet_of_sizedB hsz⟩, by
    simp only [Assume.holds]
    exact ⟨by simp, by simp, fun _ => Modest.zero, by simp, by simp⟩⟩
theorem gTab : Tryd.prog.globalNamed "math/bits.deBruijn64tab" = some 0 := by kernel_rfl
/-- the variable that the rows list is the table of bits -/
theorem tab_of_laid {W : World} (h : laidMetH Tryd.prog [("math/bits.deBruijn64tab", Rows.laid_math_bits_deBruijn64tab)] W) : TabOk W := by
  have h2 : laidMet Tryd.prog [("math/bits.deBruijn64tab", Lib.tabData .u8 (deB.map Int.ofNat))] W := h
  have h3 := Lib.tabIs_of_head gTab (t := (Tryd.prog.globals[0]?).elim 0 (·.type)) (n := 64) (by kernel_rfl) (by kernel_rfl) Tryd.underlying5 (by kernel_rfl) (by kernel_rfl) h2
  intro i hi
  have := h3.cell gTab i (by simpa [deB] using hi)
  rw [this]
  congr 2
  have e : ∀ i, i < 64 → (deB.map Int.ofNat).getD i 0 = ((deB.getD i 0 : Nat) : Int) := by decide
  exact e i hi
end Go.Proofs.YtgahdookojbbiaaDoor
