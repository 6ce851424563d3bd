/- Events and notes opened; the row's proof where the specification has a condition of its own and variables are laid. No condition beyond those named in each lemma. -/
import Derived.Test.YtjplgcmfifoefaaDoorOpenW
import Derived.Test.YtjplgcmfifoefaaDoorOpen3
import Derived.Test.YtjplgcmfifoefaaDoorQtL
import Derived.JoinedCond
import Derived.Deep.Cut
namespace Go.Proofs.YtjplgcmfifoefaaDoor
open Go.ChangeShapes Go.WideShapes Go.ChangeAt Go.RowKit Go.Joins
set_option linter.unusedVariables false
set_option linter.unusedSimpArgs false

/-- a row whose specification has a condition of its own, that wants a word on the world besides; the world's shape kept -/
theorem returnsInHanded_of_cond_and_shaped {H : Type} {enc : TypeId × Value → H} {a : Assume} {C : Checked} {os : Os} {f : FuncId} {fn : Func} {s : OpenSpec} {k : (H : Type) → List (DataW H) → Bool} (hk : s.cond = some k) {F : Stop.Interp} {conds : List PathCond} {apart fresh handsOn again : Bool} {X : World → Prop}
    (hX : ∀ (w w' : World), w.heap = w'.heap → X w → X w')
    (own : ownKnob C.prog.godebug = none) (started : os.Started) (noInit : C.prog.inits.idxOf? f = none) (hfn : C.prog.funcs[f]? = some fn)
    (witness : ∃ (w : World) (tape : Tape) (i : Input), w.os = os ∧ (w.forCall tape i).Shaped C.prog ∧ i.vars = [] ∧ Input.okWide C.prog (w.forCall tape i) .any w.heap.size f i ∧
      ((s.pre enc C.prog fn conds apart (w.forCall tape i).memory i.args ∧ X (w.forCall tape i).memory) ∧ sizedMet enc C.prog fn s apart (w.forCall tape i).memory i.args) ∧ a.holds C.prog (lone (Frame.enter C.prog f i.args .normal) [] (w.forCall tape i)))
    (contract : ∀ (W : World) (base : Nat) (args : Array Value) (ds gs : List (DataW H)) (before : List MemPlace),
      (∀ (j : Nat) t v, fn.params[j]? = some t → args[j]? = some v → Value.okWide C.prog W .any base t v) →
      DataW.Whole enc C.prog fn.params.toList s.vars apart W args.toList ds gs before →
      conds.all (PathCond.test C.prog ⟨fn.params.toList, ds, s.bare.plain.varTypes C.prog, gs⟩) = true → k H (ds ++ gs) = true → X W → W.ShapedOpen C.prog →
      a.holds C.prog (lone (Frame.enter C.prog f args .normal) [] W) →
      Calls C.prog f args W fun e W' => ∃ v, e = .returned v ∧ (s.at F).post enc C.prog fn apart fresh handsOn again W args v W') :
    ReturnsInHanded a C os f .any (fun w args => (s.pre enc C.prog fn conds apart w args ∧ X w) ∧ sizedMet enc C.prog fn s apart w args) ((s.at F).post enc C.prog fn apart fresh handsOn again) := by
  refine returnsInHanded_of_calls own started noInit witness ?_
  intro w tape i _ hsh _ hok hpre hholds
  obtain ⟨_, _, _, fn', hfn', _, _, _, _, hval⟩ := hok
  have e : fn' = fn := Option.some.inj (hfn'.symm.trans hfn)
  subst e
  obtain ⟨ds, gs, before, hw, hc, hkk⟩ := (OpenSpec.pre_some hk conds apart _ _).1 hpre.1.1
  have hw' := DataW.Whole.of_heap (w' := w.forCall tape i) (by rfl) hw
  refine (contract (w.forCall tape i) w.heap.size i.args ds gs before hval hw' hc hkk (hX _ _ (by rfl) hpre.1.2) hsh hholds).mono fun e W' ⟨v, he, hp⟩ => ?_
  subst he
  exact ChangeSpec.post_blind hp
theorem witness_and {H : Type} {enc : TypeId × Value → H} {C : Checked} {os : Os} {f : FuncId} {fn : Func} {s : OpenSpec} {k : (H : Type) → List (DataW H) → Bool} (hk : s.cond = some k) {conds : List PathCond} {apart : Bool} {X : World → Prop} (modest : Bool) (w0 : World) (args : Array Value) (fuel : Nat) (hos : w0.os = os)
    (hsh : (w0.forCall (fun _ _ => 0) ⟨#[], args, []⟩).Shaped C.prog)
    (hok : Input.okWideB C.prog (w0.forCall (fun _ _ => 0) ⟨#[], args, []⟩) f ⟨#[], args, []⟩ = true)
    {x : List (DataW H) × List (DataW H) × List MemPlace} (hx : DataW.whole enc C.prog (w0.forCall (fun _ _ => 0) ⟨#[], args, []⟩).memory fn.params.toList s.vars apart args.toList fuel = some x)
    (hconds : conds.all (PathCond.test C.prog ⟨fn.params.toList, x.1, s.bare.plain.varTypes C.prog, x.2.1⟩) = true) (hkk : k H (x.1 ++ x.2.1) = true)
    (hsz : s.bare.sizedB enc C.prog fn apart (w0.forCall (fun _ _ => 0) ⟨#[], args, []⟩).memory args fuel = true)
    (hX : X (w0.forCall (fun _ _ => 0) ⟨#[], args, []⟩).memory) :
    ∃ (w : World) (tape : Tape) (i : Input), w.os = os ∧ (w.forCall tape i).Shaped C.prog ∧ i.vars = [] ∧ Input.okWide C.prog (w.forCall tape i) .any w.heap.size f i ∧
      ((s.pre enc C.prog fn conds apart (w.forCall tape i).memory i.args ∧ X (w.forCall tape i).memory) ∧ sizedMet enc C.prog fn s apart (w.forCall tape i).memory i.args) ∧ ({ modest := modest } : Assume).holds C.prog (lone (Frame.enter C.prog f i.args .normal) [] (w.forCall tape i)) :=
  ⟨w0, fun _ _ => 0, ⟨#[], args, []⟩, hos, hsh, (Input.okWide_of_okWideB (base := 0) hok).1, (Input.okWide_of_okWideB hok).2,
    ⟨⟨(OpenSpec.pre_some hk conds apart _ _).2 ⟨x.1, x.2.1, x.2.2, DataW.Whole_of_whole hx, hconds, hkk⟩, hX⟩, sizedMet_of_sizedB hsz⟩, by
    simp only [Assume.holds]
    exact ⟨by simp, by simp, fun _ => Modest.zero, by simp, by simp⟩⟩
section
variable {H : Type}
theorem bulk_pos (d : DataW H) : 1 ≤ Rows.uptoBulk d := by
  cases d with
  | lit l => cases l <;> simp [Rows.uptoBulk]
  | _ => simp [Rows.uptoBulk]
theorem bulk_len : ∀ l : List (DataW H), l.length ≤ Rows.uptoBulkAll l
  | [] => by simp [Rows.uptoBulkAll]
  | d :: l => by
    have := bulk_pos d
    have := bulk_len l
    simp only [List.length_cons, Rows.uptoBulkAll]
    omega
theorem bulk_mem : ∀ (l : List (DataW H)) (d : DataW H), d ∈ l → Rows.uptoBulk d ≤ Rows.uptoBulkAll l
  | [], d, h => by simp at h
  | e :: l, d, h => by
    simp only [Rows.uptoBulkAll]
    rcases List.mem_cons.1 h with rfl | h
    · omega
    · have := bulk_mem l d h
      omega
end
section
variable {H : Type} {enc : TypeId × Value → H} {W : World} {held : Bool}
set_option maxRecDepth 100000 in
/-- a slice, opened from its reading, where what is read is of bulk at most K -/
theorem trod_slice_q {α : Type} {ea : α → Array Value} {t e : TypeId} {size K fuel : Nat} {v : Value} {x : DataW H × List MemPlace}
    (ht : Tryd.prog.underlying t = some (.slice e)) (hc : Tryd.prog.cellsOf e = size) (hpos : 0 < size) (hsz : ∀ y, (ea y).size = size)
    (hel : ∀ (fuel : Nat) (cs : List Value) (x : DataW H × List MemPlace), DataW.trod enc Tryd.prog W 0 (fun _ => true) held fuel e cs = some x → Rows.uptoBulk x.1 + 1 ≤ K → ∃ y, cs = (ea y).toList)
    (hf : DataW.trod enc Tryd.prog W 0 (fun _ => true) held fuel t [v] = some x) (hK : Rows.uptoBulk x.1 ≤ K) :
    ∃ (A : Option Addr) (n c : Nat) (l : List α), v = .slice A n c ∧ n = l.length ∧ n ≤ K ∧ SliceOf W W.heap.size size ea A l := by
  rcases Deep.open_slice ht hf with ⟨hcs, hx⟩ | ⟨a, len, cap, m, n', D, Pl, hcs, _, hl, hm, hmm, hx, hi⟩
  · injection hcs with hcs _
    subst hcs
    exact ⟨none, 0, 0, [], rfl, rfl, by omega, .inl rfl⟩
  · injection hcs with hcs _
    subst hcs
    have hmc : m = cap := by simpa using hmm
    subst hmc
    rw [hx] at hK
    simp only [Rows.uptoBulk] at hK
    have hlen := bulk_len ((List.range len).map D)
    rw [List.length_map, List.length_range] at hlen
    have key : ∀ i, i < len → ∃ y : α, W.cells? 0 (a.add (i * size)) size = some (ea y).toList := by
      intro i hlt
      obtain ⟨cs', h1, h2⟩ := hi i (by omega)
      have hb := bulk_mem ((List.range len).map D) (D i) (List.mem_map_of_mem (List.mem_range.2 hlt))
      obtain ⟨y, hy⟩ := hel _ _ _ h2 (by simp only; omega)
      rw [hc] at h1
      exact ⟨y, by rw [h1, hy]⟩
    obtain ⟨l, hll, hp⟩ := choose_list len key
    refine ⟨some a, len, m, l, rfl, hll.symm, by omega, ?_⟩
    rcases Nat.eq_zero_or_pos l.length with h0 | h0
    · exact .inl (List.eq_nil_of_length_eq_zero h0)
    · have hcell : ∀ i (h : i < l.length) (j : Nat) (u : Value), (ea l[i])[j]? = some u → W.cell? ((a.add (i * size)).add j) = some u := by
        intro i h j u hu
        obtain ⟨_, hlen, hget⟩ := World.cells?_some (hp i h)
        have hj : j < size := by
          rw [← hsz l[i]]
          rcases Nat.lt_or_ge j (ea l[i]).size with h1 | h1
          · exact h1
          · rw [Array.getElem?_eq_none h1] at hu; cases hu
        rw [hget j hj]
        simpa using hu
      have hz : ∃ u, (ea l[0])[0]? = some u := ⟨_, Array.getElem?_eq_getElem (by rw [hsz]; exact hpos)⟩
      obtain ⟨u, hu⟩ := hz
      have h00 := hcell 0 h0 0 u hu
      have hsp : a.spot = none := by
        have := spot_none h00
        simpa [Addr.add] using this
      obtain ⟨b, off, spot⟩ := a
      simp only at hsp
      subst hsp
      have hb : b < W.heap.size := by
        have := block_lt_of_cell h00
        simpa [Addr.add] using this
      refine .inr ⟨b, off, rfl, hb, fun i h j u hu => ?_⟩
      have := hcell i h j u hu
      rw [addr_add, addr_add] at this
      exact this
theorem bulk_nth {xs : List (DataW H × List MemPlace)} (i : Nat) (h : i < xs.length) : Rows.uptoBulk (xs[i]).1 ≤ Rows.uptoBulkAll (xs.map (·.1)) :=
  bulk_mem _ _ (List.mem_map_of_mem (List.getElem_mem h))
section
variable {H : Type} {enc : TypeId × Value → H} {W : World} {held : Bool} {n : Nat}
theorem open_i64 {cs : List Value} {x : DataW H × List MemPlace} (h : DataW.trod enc Tryd.prog W 0 (fun _ => true) held n 3 cs = some x) : ∃ z : Int, cs = [.int .i64 z] ∧ True ∧ i64z z := by
  obtain ⟨z, hz, _, hw⟩ := DataW.trod_int Tryd.underlying3 h
  have h2 : IntKind.i64.min = -9223372036854775808 := by decide
  have h3 : IntKind.i64.max = 9223372036854775807 := by decide
  simp only [Lit.wf, Bool.and_eq_true, decide_eq_true_eq] at hw
  exact ⟨z, hz, trivial, by unfold i64z; omega⟩
theorem open_u32e {cs : List Value} {x : DataW H × List MemPlace} (h : DataW.trod enc Tryd.prog W 0 (fun _ => true) held n 38 cs = some x) : ∃ z : Nat, cs = [.int .u32 (z : Int)] ∧ z < 4294967296 := by
  obtain ⟨z, hz, _, hw⟩ := DataW.trod_int Tryd.underlying38 h
  have h2 : IntKind.u32.min = 0 := by decide
  have h3 : IntKind.u32.max = 4294967295 := by decide
  simp only [Lit.wf, Bool.and_eq_true, decide_eq_true_eq] at hw
  obtain ⟨z', rfl⟩ := Int.eq_ofNat_of_zero_le (show 0 ≤ z by omega)
  exact ⟨z', hz, by omega⟩
theorem open_stre {cs : List Value} {x : DataW H × List MemPlace} (h : DataW.trod enc Tryd.prog W 0 (fun _ => true) held n 9 cs = some x) (hb : Rows.uptoBulk x.1 ≤ 1048576) : ∃ s : ByteArray, cs = [.string s] ∧ s.size ≤ 1048576 := by
  obtain ⟨s, hc, hd, _⟩ := DataW.trod_string Tryd.underlying9 h
  refine ⟨s, hc, ?_⟩
  rw [hd] at hb
  simp only [Rows.uptoBulk] at hb
  have : s.data.toList.length = s.size := by simp
  omega
theorem open_intse {v : Value} {x : DataW H × List MemPlace} (h : DataW.trod enc Tryd.prog W 0 (fun _ => true) held n 22 [v] = some x) (hb : Rows.uptoBulk x.1 ≤ 1048576) :
    ∃ (A : Option Addr) (m c : Nat) (l : List Int), v = .slice A m c ∧ m = l.length ∧ m ≤ 1048576 ∧ SliceOf W W.heap.size 1 encZ A l ∧ ∀ z ∈ l, i64z z := by
  obtain ⟨B, m, e, rs, rfl, hm, hmK, hsr⟩ := trod_slice_q (K := 1048576) (size := 1) (ea := fun z : {z : Int // i64z z} => encZ z.1) Tryd.underlying22 (by kernel_rfl) (by omega) (fun z => rfl) (fun _ _ _ h _ => by
    obtain ⟨z, hz, _, hw⟩ := open_i64 h
    exact ⟨⟨z, hw⟩, by rw [hz]; rfl⟩) h hb
  refine ⟨B, m, e, rs.map (·.1), rfl, by rw [List.length_map]; exact hm, hmK, ?_, fun y hy => ?_⟩
  · rcases hsr with h | ⟨b, off, q1, q2, q3⟩
    · exact .inl (by rw [h]; rfl)
    · refine .inr ⟨b, off, q1, q2, fun i hi => ?_⟩
      simp only [List.getElem_map]
      exact q3 i (by simpa using hi)
  · obtain ⟨z, _, rfl⟩ := List.mem_map.1 hy
    exact z.2
set_option maxRecDepth 100000 in
theorem trod_event {fuel : Nat} {cs : List Value} {x : DataW H × List MemPlace} (h : DataW.trod enc Tryd.prog W 0 (fun _ => true) held fuel 24 cs = some x) (hb : Rows.uptoBulk x.1 ≤ 1048576) :
    ∃ (y : EvV) (ks : List Int), cs = y.C.toList ∧ EvOk W y ks := by
  obtain ⟨xs, n, _, hx, hl, hlen, hf⟩ := DataW.trod_struct Tryd.underlying24 h
  rw [show Tryd.prog.cellsOf 24 = 7 by kernel_rfl] at hl
  obtain ⟨c0, c1, c2, c3, c4, c5, c6, rfl⟩ : ∃ c0 c1 c2 c3 c4 c5 c6 : Value, cs = [c0, c1, c2, c3, c4, c5, c6] := by
    clear h hf hx
    match cs, hl with
    | [c0, c1, c2, c3, c4, c5, c6], _ => exact ⟨_, _, _, _, _, _, _, rfl⟩
  have xsl : xs.length = 7 := hlen
  have h0 : DataW.trod enc Tryd.prog W 0 (fun _ => true) held n 3 ((([c0, c1, c2, c3, c4, c5, c6] : List Value).drop 0).take (Tryd.prog.cellsOf 3)) = xs[0]? := hf 0 _ rfl
  rw [show Tryd.prog.cellsOf 3 = 1 by kernel_rfl, List.getElem?_eq_getElem (by omega)] at h0
  have hb0 := bulk_nth 0 (show 0 < xs.length by omega)
  have h1 : DataW.trod enc Tryd.prog W 0 (fun _ => true) held n 9 ((([c0, c1, c2, c3, c4, c5, c6] : List Value).drop 1).take (Tryd.prog.cellsOf 9)) = xs[1]? := hf 1 _ rfl
  rw [show Tryd.prog.cellsOf 9 = 1 by kernel_rfl, List.getElem?_eq_getElem (by omega)] at h1
  have hb1 := bulk_nth 1 (show 1 < xs.length by omega)
  have h2 : DataW.trod enc Tryd.prog W 0 (fun _ => true) held n 9 ((([c0, c1, c2, c3, c4, c5, c6] : List Value).drop 2).take (Tryd.prog.cellsOf 9)) = xs[2]? := hf 2 _ rfl
  rw [show Tryd.prog.cellsOf 9 = 1 by kernel_rfl, List.getElem?_eq_getElem (by omega)] at h2
  have hb2 := bulk_nth 2 (show 2 < xs.length by omega)
  have h3 : DataW.trod enc Tryd.prog W 0 (fun _ => true) held n 9 ((([c0, c1, c2, c3, c4, c5, c6] : List Value).drop 3).take (Tryd.prog.cellsOf 9)) = xs[3]? := hf 3 _ rfl
  rw [show Tryd.prog.cellsOf 9 = 1 by kernel_rfl, List.getElem?_eq_getElem (by omega)] at h3
  have hb3 := bulk_nth 3 (show 3 < xs.length by omega)
  have h4 : DataW.trod enc Tryd.prog W 0 (fun _ => true) held n 3 ((([c0, c1, c2, c3, c4, c5, c6] : List Value).drop 4).take (Tryd.prog.cellsOf 3)) = xs[4]? := hf 4 _ rfl
  rw [show Tryd.prog.cellsOf 3 = 1 by kernel_rfl, List.getElem?_eq_getElem (by omega)] at h4
  have hb4 := bulk_nth 4 (show 4 < xs.length by omega)
  have h5 : DataW.trod enc Tryd.prog W 0 (fun _ => true) held n 4 ((([c0, c1, c2, c3, c4, c5, c6] : List Value).drop 5).take (Tryd.prog.cellsOf 4)) = xs[5]? := hf 5 _ rfl
  rw [show Tryd.prog.cellsOf 4 = 1 by kernel_rfl, List.getElem?_eq_getElem (by omega)] at h5
  have hb5 := bulk_nth 5 (show 5 < xs.length by omega)
  have h6 : DataW.trod enc Tryd.prog W 0 (fun _ => true) held n 22 ((([c0, c1, c2, c3, c4, c5, c6] : List Value).drop 6).take (Tryd.prog.cellsOf 22)) = xs[6]? := hf 6 _ rfl
  rw [show Tryd.prog.cellsOf 22 = 1 by kernel_rfl, List.getElem?_eq_getElem (by omega)] at h6
  have hb6 := bulk_nth 6 (show 6 < xs.length by omega)
  rw [hx] at hb
  simp only [Rows.uptoBulk] at hb
  have g0 : DataW.trod enc Tryd.prog W 0 (fun _ => true) held n 3 [c0] = some xs[0] := h0
  obtain ⟨kind, e0, _, w0⟩ := open_i64 g0
  injection e0 with e0 _
  subst e0
  have g1 : DataW.trod enc Tryd.prog W 0 (fun _ => true) held n 9 [c1] = some xs[1] := h1
  obtain ⟨name, e1, w1⟩ := open_stre g1 (by omega)
  injection e1 with e1 _
  subst e1
  have g2 : DataW.trod enc Tryd.prog W 0 (fun _ => true) held n 9 [c2] = some xs[2] := h2
  obtain ⟨other, e2, w2⟩ := open_stre g2 (by omega)
  injection e2 with e2 _
  subst e2
  have g3 : DataW.trod enc Tryd.prog W 0 (fun _ => true) held n 9 [c3] = some xs[3] := h3
  obtain ⟨data, e3, w3⟩ := open_stre g3 (by omega)
  injection e3 with e3 _
  subst e3
  have g4 : DataW.trod enc Tryd.prog W 0 (fun _ => true) held n 3 [c4] = some xs[4] := h4
  obtain ⟨nn, e4, _, w4⟩ := open_i64 g4
  injection e4 with e4 _
  subst e4
  have g5 : DataW.trod enc Tryd.prog W 0 (fun _ => true) held n 4 [c5] = some xs[5] := h5
  obtain ⟨yes, e5, _⟩ := DataW.trod_bool Tryd.underlying4 g5
  injection e5 with e5 _
  subst e5
  have g6 : DataW.trod enc Tryd.prog W 0 (fun _ => true) held n 22 [c6] = some xs[6] := h6
  obtain ⟨A, m, c, l, e6, hm, hmK, hs, hz⟩ := open_intse g6 (by omega)
  subst e6
  exact ⟨⟨kind, name, other, data, nn, yes, A, m, c⟩, l, rfl, ⟨w1, w2, w3, hm, hmK, ⟨w4, hz⟩, hs⟩⟩
set_option maxRecDepth 100000 in
theorem trod_loss {fuel : Nat} {cs : List Value} {x : DataW H × List MemPlace} (h : DataW.trod enc Tryd.prog W 0 (fun _ => true) held fuel 35 cs = some x) (hb : Rows.uptoBulk x.1 ≤ 1048576) :
    ∃ a0 a1 a2 a3 a4 : Int, cs = [.int .i64 a0, .int .i64 a1, .int .i64 a2, .int .i64 a3, .int .i64 a4] ∧ (i64z a0 ∧ i64z a1 ∧ i64z a2 ∧ i64z a3 ∧ i64z a4) := by
  obtain ⟨xs, n, _, hx, hl, hlen, hf⟩ := DataW.trod_struct Tryd.underlying35 h
  rw [show Tryd.prog.cellsOf 35 = 5 by kernel_rfl] at hl
  obtain ⟨c0, c1, c2, c3, c4, rfl⟩ : ∃ c0 c1 c2 c3 c4 : Value, cs = [c0, c1, c2, c3, c4] := by
    clear h hf hx
    match cs, hl with
    | [c0, c1, c2, c3, c4], _ => exact ⟨_, _, _, _, _, rfl⟩
  have xsl : xs.length = 5 := hlen
  have h0 : DataW.trod enc Tryd.prog W 0 (fun _ => true) held n 3 ((([c0, c1, c2, c3, c4] : List Value).drop 0).take (Tryd.prog.cellsOf 3)) = xs[0]? := hf 0 _ rfl
  rw [show Tryd.prog.cellsOf 3 = 1 by kernel_rfl, List.getElem?_eq_getElem (by omega)] at h0
  have hb0 := bulk_nth 0 (show 0 < xs.length by omega)
  have h1 : DataW.trod enc Tryd.prog W 0 (fun _ => true) held n 3 ((([c0, c1, c2, c3, c4] : List Value).drop 1).take (Tryd.prog.cellsOf 3)) = xs[1]? := hf 1 _ rfl
  rw [show Tryd.prog.cellsOf 3 = 1 by kernel_rfl, List.getElem?_eq_getElem (by omega)] at h1
  have hb1 := bulk_nth 1 (show 1 < xs.length by omega)
  have h2 : DataW.trod enc Tryd.prog W 0 (fun _ => true) held n 3 ((([c0, c1, c2, c3, c4] : List Value).drop 2).take (Tryd.prog.cellsOf 3)) = xs[2]? := hf 2 _ rfl
  rw [show Tryd.prog.cellsOf 3 = 1 by kernel_rfl, List.getElem?_eq_getElem (by omega)] at h2
  have hb2 := bulk_nth 2 (show 2 < xs.length by omega)
  have h3 : DataW.trod enc Tryd.prog W 0 (fun _ => true) held n 3 ((([c0, c1, c2, c3, c4] : List Value).drop 3).take (Tryd.prog.cellsOf 3)) = xs[3]? := hf 3 _ rfl
  rw [show Tryd.prog.cellsOf 3 = 1 by kernel_rfl, List.getElem?_eq_getElem (by omega)] at h3
  have hb3 := bulk_nth 3 (show 3 < xs.length by omega)
  have h4 : DataW.trod enc Tryd.prog W 0 (fun _ => true) held n 3 ((([c0, c1, c2, c3, c4] : List Value).drop 4).take (Tryd.prog.cellsOf 3)) = xs[4]? := hf 4 _ rfl
  rw [show Tryd.prog.cellsOf 3 = 1 by kernel_rfl, List.getElem?_eq_getElem (by omega)] at h4
  have hb4 := bulk_nth 4 (show 4 < xs.length by omega)
  rw [hx] at hb
  simp only [Rows.uptoBulk] at hb
  have g0 : DataW.trod enc Tryd.prog W 0 (fun _ => true) held n 3 [c0] = some xs[0] := h0
  obtain ⟨a0, e0, _, w0⟩ := open_i64 g0
  injection e0 with e0 _
  subst e0
  have g1 : DataW.trod enc Tryd.prog W 0 (fun _ => true) held n 3 [c1] = some xs[1] := h1
  obtain ⟨a1, e1, _, w1⟩ := open_i64 g1
  injection e1 with e1 _
  subst e1
  have g2 : DataW.trod enc Tryd.prog W 0 (fun _ => true) held n 3 [c2] = some xs[2] := h2
  obtain ⟨a2, e2, _, w2⟩ := open_i64 g2
  injection e2 with e2 _
  subst e2
  have g3 : DataW.trod enc Tryd.prog W 0 (fun _ => true) held n 3 [c3] = some xs[3] := h3
  obtain ⟨a3, e3, _, w3⟩ := open_i64 g3
  injection e3 with e3 _
  subst e3
  have g4 : DataW.trod enc Tryd.prog W 0 (fun _ => true) held n 3 [c4] = some xs[4] := h4
  obtain ⟨a4, e4, _, w4⟩ := open_i64 g4
  injection e4 with e4 _
  subst e4
  exact ⟨a0, a1, a2, a3, a4, rfl, w0, w1, w2, w3, w4⟩
set_option maxRecDepth 100000 in
theorem trod_mark {fuel : Nat} {cs : List Value} {x : DataW H × List MemPlace} (h : DataW.trod enc Tryd.prog W 0 (fun _ => true) held fuel 37 cs = some x) (hb : Rows.uptoBulk x.1 ≤ 1048576) :
    ∃ m : MkV, cs = m.C.toList ∧ m.ok := by
  obtain ⟨xs, n, _, hx, hl, hlen, hf⟩ := DataW.trod_struct Tryd.underlying37 h
  rw [show Tryd.prog.cellsOf 37 = 9 by kernel_rfl] at hl
  obtain ⟨c0, c1, c2, c3, c4, c5, c6, c7, c8, rfl⟩ : ∃ c0 c1 c2 c3 c4 c5 c6 c7 c8 : Value, cs = [c0, c1, c2, c3, c4, c5, c6, c7, c8] := by
    clear h hf hx
    match cs, hl with
    | [c0, c1, c2, c3, c4, c5, c6, c7, c8], _ => exact ⟨_, _, _, _, _, _, _, _, _, rfl⟩
  have xsl : xs.length = 5 := hlen
  have h0 : DataW.trod enc Tryd.prog W 0 (fun _ => true) held n 3 ((([c0, c1, c2, c3, c4, c5, c6, c7, c8] : List Value).drop 0).take (Tryd.prog.cellsOf 3)) = xs[0]? := hf 0 _ rfl
  rw [show Tryd.prog.cellsOf 3 = 1 by kernel_rfl, List.getElem?_eq_getElem (by omega)] at h0
  have hb0 := bulk_nth 0 (show 0 < xs.length by omega)
  have h1 : DataW.trod enc Tryd.prog W 0 (fun _ => true) held n 3 ((([c0, c1, c2, c3, c4, c5, c6, c7, c8] : List Value).drop 1).take (Tryd.prog.cellsOf 3)) = xs[1]? := hf 1 _ rfl
  rw [show Tryd.prog.cellsOf 3 = 1 by kernel_rfl, List.getElem?_eq_getElem (by omega)] at h1
  have hb1 := bulk_nth 1 (show 1 < xs.length by omega)
  have h2 : DataW.trod enc Tryd.prog W 0 (fun _ => true) held n 3 ((([c0, c1, c2, c3, c4, c5, c6, c7, c8] : List Value).drop 2).take (Tryd.prog.cellsOf 3)) = xs[2]? := hf 2 _ rfl
  rw [show Tryd.prog.cellsOf 3 = 1 by kernel_rfl, List.getElem?_eq_getElem (by omega)] at h2
  have hb2 := bulk_nth 2 (show 2 < xs.length by omega)
  have h3 : DataW.trod enc Tryd.prog W 0 (fun _ => true) held n 3 ((([c0, c1, c2, c3, c4, c5, c6, c7, c8] : List Value).drop 3).take (Tryd.prog.cellsOf 3)) = xs[3]? := hf 3 _ rfl
  rw [show Tryd.prog.cellsOf 3 = 1 by kernel_rfl, List.getElem?_eq_getElem (by omega)] at h3
  have hb3 := bulk_nth 3 (show 3 < xs.length by omega)
  have h4 : DataW.trod enc Tryd.prog W 0 (fun _ => true) held n 35 ((([c0, c1, c2, c3, c4, c5, c6, c7, c8] : List Value).drop 4).take (Tryd.prog.cellsOf 35)) = xs[4]? := hf 4 _ rfl
  rw [show Tryd.prog.cellsOf 35 = 5 by kernel_rfl, List.getElem?_eq_getElem (by omega)] at h4
  have hb4 := bulk_nth 4 (show 4 < xs.length by omega)
  rw [hx] at hb
  simp only [Rows.uptoBulk] at hb
  have g0 : DataW.trod enc Tryd.prog W 0 (fun _ => true) held n 3 [c0] = some xs[0] := h0
  obtain ⟨b0, e0, _, w0⟩ := open_i64 g0
  injection e0 with e0 _
  subst e0
  have g1 : DataW.trod enc Tryd.prog W 0 (fun _ => true) held n 3 [c1] = some xs[1] := h1
  obtain ⟨b1, e1, _, w1⟩ := open_i64 g1
  injection e1 with e1 _
  subst e1
  have g2 : DataW.trod enc Tryd.prog W 0 (fun _ => true) held n 3 [c2] = some xs[2] := h2
  obtain ⟨b2, e2, _, w2⟩ := open_i64 g2
  injection e2 with e2 _
  subst e2
  have g3 : DataW.trod enc Tryd.prog W 0 (fun _ => true) held n 3 [c3] = some xs[3] := h3
  obtain ⟨b3, e3, _, w3⟩ := open_i64 g3
  injection e3 with e3 _
  subst e3
  have g4 : DataW.trod enc Tryd.prog W 0 (fun _ => true) held n 35 [c4, c5, c6, c7, c8] = some xs[4] := h4
  obtain ⟨a0, a1, a2, a3, a4, e4, w4⟩ := trod_loss g4 (by omega)
  injection e4 with q0 e4
  injection e4 with q1 e4
  injection e4 with q2 e4
  injection e4 with q3 e4
  injection e4 with q4 e4
  subst q0 q1 q2 q3 q4
  obtain ⟨u0, u1, u2, u3, u4⟩ := w4
  exact ⟨⟨b0, b1, b2, b3, a0, a1, a2, a3, a4⟩, rfl, ⟨w0, w1, w2, w3, u0, u1, u2, u3, u4⟩⟩
set_option maxRecDepth 100000 in
theorem trod_alert {fuel : Nat} {cs : List Value} {x : DataW H × List MemPlace} (h : DataW.trod enc Tryd.prog W 0 (fun _ => true) held fuel 40 cs = some x) (hb : Rows.uptoBulk x.1 ≤ 1048576) :
    ∃ a : AlV, cs = a.C.toList ∧ AlOk a := by
  obtain ⟨xs, n, _, hx, hl, hlen, hf⟩ := DataW.trod_struct Tryd.underlying40 h
  rw [show Tryd.prog.cellsOf 40 = 12 by kernel_rfl] at hl
  obtain ⟨c0, c1, c2, c3, c4, c5, c6, c7, c8, c9, c10, c11, rfl⟩ : ∃ c0 c1 c2 c3 c4 c5 c6 c7 c8 c9 c10 c11 : Value, cs = [c0, c1, c2, c3, c4, c5, c6, c7, c8, c9, c10, c11] := by
    clear h hf hx
    match cs, hl with
    | [c0, c1, c2, c3, c4, c5, c6, c7, c8, c9, c10, c11], _ => exact ⟨_, _, _, _, _, _, _, _, _, _, _, _, rfl⟩
  have xsl : xs.length = 4 := hlen
  have h0 : DataW.trod enc Tryd.prog W 0 (fun _ => true) held n 3 ((([c0, c1, c2, c3, c4, c5, c6, c7, c8, c9, c10, c11] : List Value).drop 0).take (Tryd.prog.cellsOf 3)) = xs[0]? := hf 0 _ rfl
  rw [show Tryd.prog.cellsOf 3 = 1 by kernel_rfl, List.getElem?_eq_getElem (by omega)] at h0
  have hb0 := bulk_nth 0 (show 0 < xs.length by omega)
  have h1 : DataW.trod enc Tryd.prog W 0 (fun _ => true) held n 37 ((([c0, c1, c2, c3, c4, c5, c6, c7, c8, c9, c10, c11] : List Value).drop 1).take (Tryd.prog.cellsOf 37)) = xs[1]? := hf 1 _ rfl
  rw [show Tryd.prog.cellsOf 37 = 9 by kernel_rfl, List.getElem?_eq_getElem (by omega)] at h1
  have hb1 := bulk_nth 1 (show 1 < xs.length by omega)
  have h2 : DataW.trod enc Tryd.prog W 0 (fun _ => true) held n 9 ((([c0, c1, c2, c3, c4, c5, c6, c7, c8, c9, c10, c11] : List Value).drop 10).take (Tryd.prog.cellsOf 9)) = xs[2]? := hf 2 _ rfl
  rw [show Tryd.prog.cellsOf 9 = 1 by kernel_rfl, List.getElem?_eq_getElem (by omega)] at h2
  have hb2 := bulk_nth 2 (show 2 < xs.length by omega)
  have h3 : DataW.trod enc Tryd.prog W 0 (fun _ => true) held n 38 ((([c0, c1, c2, c3, c4, c5, c6, c7, c8, c9, c10, c11] : List Value).drop 11).take (Tryd.prog.cellsOf 38)) = xs[3]? := hf 3 _ rfl
  rw [show Tryd.prog.cellsOf 38 = 1 by kernel_rfl, List.getElem?_eq_getElem (by omega)] at h3
  have hb3 := bulk_nth 3 (show 3 < xs.length by omega)
  rw [hx] at hb
  simp only [Rows.uptoBulk] at hb
  have g0 : DataW.trod enc Tryd.prog W 0 (fun _ => true) held n 3 [c0] = some xs[0] := h0
  obtain ⟨path, e0, _, w0⟩ := open_i64 g0
  injection e0 with e0 _
  subst e0
  have g1 : DataW.trod enc Tryd.prog W 0 (fun _ => true) held n 37 [c1, c2, c3, c4, c5, c6, c7, c8, c9] = some xs[1] := h1
  obtain ⟨mk, e1, w1⟩ := trod_mark g1 (by omega)
  have g2 : DataW.trod enc Tryd.prog W 0 (fun _ => true) held n 9 [c10] = some xs[2] := h2
  obtain ⟨text, e2, w2⟩ := open_stre g2 (by omega)
  injection e2 with e2 _
  subst e2
  have g3 : DataW.trod enc Tryd.prog W 0 (fun _ => true) held n 38 [c11] = some xs[3] := h3
  obtain ⟨rules, e3, w3⟩ := open_u32e g3
  injection e3 with e3 _
  subst e3
  have e1 := e1
  simp only [MkV.C] at e1
  injection e1 with q0 e1
  injection e1 with q1 e1
  injection e1 with q2 e1
  injection e1 with q3 e1
  injection e1 with q4 e1
  injection e1 with q5 e1
  injection e1 with q6 e1
  injection e1 with q7 e1
  injection e1 with q8 e1
  subst q0 q1 q2 q3 q4 q5 q6 q7 q8
  exact ⟨⟨path, mk, text, rules⟩, rfl, ⟨w0, w1, w2, w3⟩⟩
theorem open_markse {v : Value} {x : DataW H × List MemPlace} (h : DataW.trod enc Tryd.prog W 0 (fun _ => true) held n 41 [v] = some x) (hb : Rows.uptoBulk x.1 ≤ 1048576) :
    ∃ (A : Option Addr) (m c : Nat) (l : List MkV), v = .slice A m c ∧ m = l.length ∧ m ≤ 1048576 ∧ SliceOf W W.heap.size 9 MkV.C A l ∧ ∀ z ∈ l, z.ok := by
  obtain ⟨B, m, e, rs, rfl, hm, hmK, hsr⟩ := trod_slice_q (K := 1048576) (size := 9) (ea := fun z : {z : MkV // z.ok} => z.1.C) Tryd.underlying41 (by kernel_rfl) (by omega) (fun z => rfl) (fun _ _ _ h hq => by
    obtain ⟨z, hz, hw⟩ := trod_mark h (by omega)
    exact ⟨⟨z, hw⟩, hz⟩) h hb
  refine ⟨B, m, e, rs.map (·.1), rfl, by rw [List.length_map]; exact hm, hmK, ?_, fun y hy => ?_⟩
  · rcases hsr with h | ⟨b, off, q1, q2, q3⟩
    · exact .inl (by rw [h]; rfl)
    · refine .inr ⟨b, off, q1, q2, fun i hi => ?_⟩
      simp only [List.getElem_map]
      exact q3 i (by simpa using hi)
  · obtain ⟨z, _, rfl⟩ := List.mem_map.1 hy
    exact z.2
set_option maxRecDepth 100000 in
theorem trod_note {fuel : Nat} {cs : List Value} {x : DataW H × List MemPlace} (h : DataW.trod enc Tryd.prog W 0 (fun _ => true) held fuel 43 cs = some x) (hb : Rows.uptoBulk x.1 ≤ 1048576) :
    ∃ (y : NtV) (ms : List MkV), cs = y.C.toList ∧ NtOk W y ms := by
  obtain ⟨xs, n, _, hx, hl, hlen, hf⟩ := DataW.trod_struct Tryd.underlying43 h
  rw [show Tryd.prog.cellsOf 43 = 15 by kernel_rfl] at hl
  obtain ⟨c0, c1, c2, c3, c4, c5, c6, c7, c8, c9, c10, c11, c12, c13, c14, rfl⟩ : ∃ c0 c1 c2 c3 c4 c5 c6 c7 c8 c9 c10 c11 c12 c13 c14 : Value, cs = [c0, c1, c2, c3, c4, c5, c6, c7, c8, c9, c10, c11, c12, c13, c14] := by
    clear h hf hx
    match cs, hl with
    | [c0, c1, c2, c3, c4, c5, c6, c7, c8, c9, c10, c11, c12, c13, c14], _ => exact ⟨_, _, _, _, _, _, _, _, _, _, _, _, _, _, _, rfl⟩
  have xsl : xs.length = 4 := hlen
  have h0 : DataW.trod enc Tryd.prog W 0 (fun _ => true) held n 3 ((([c0, c1, c2, c3, c4, c5, c6, c7, c8, c9, c10, c11, c12, c13, c14] : List Value).drop 0).take (Tryd.prog.cellsOf 3)) = xs[0]? := hf 0 _ rfl
  rw [show Tryd.prog.cellsOf 3 = 1 by kernel_rfl, List.getElem?_eq_getElem (by omega)] at h0
  have hb0 := bulk_nth 0 (show 0 < xs.length by omega)
  have h1 : DataW.trod enc Tryd.prog W 0 (fun _ => true) held n 40 ((([c0, c1, c2, c3, c4, c5, c6, c7, c8, c9, c10, c11, c12, c13, c14] : List Value).drop 1).take (Tryd.prog.cellsOf 40)) = xs[1]? := hf 1 _ rfl
  rw [show Tryd.prog.cellsOf 40 = 12 by kernel_rfl, List.getElem?_eq_getElem (by omega)] at h1
  have hb1 := bulk_nth 1 (show 1 < xs.length by omega)
  have h2 : DataW.trod enc Tryd.prog W 0 (fun _ => true) held n 3 ((([c0, c1, c2, c3, c4, c5, c6, c7, c8, c9, c10, c11, c12, c13, c14] : List Value).drop 13).take (Tryd.prog.cellsOf 3)) = xs[2]? := hf 2 _ rfl
  rw [show Tryd.prog.cellsOf 3 = 1 by kernel_rfl, List.getElem?_eq_getElem (by omega)] at h2
  have hb2 := bulk_nth 2 (show 2 < xs.length by omega)
  have h3 : DataW.trod enc Tryd.prog W 0 (fun _ => true) held n 41 ((([c0, c1, c2, c3, c4, c5, c6, c7, c8, c9, c10, c11, c12, c13, c14] : List Value).drop 14).take (Tryd.prog.cellsOf 41)) = xs[3]? := hf 3 _ rfl
  rw [show Tryd.prog.cellsOf 41 = 1 by kernel_rfl, List.getElem?_eq_getElem (by omega)] at h3
  have hb3 := bulk_nth 3 (show 3 < xs.length by omega)
  rw [hx] at hb
  simp only [Rows.uptoBulk] at hb
  have g0 : DataW.trod enc Tryd.prog W 0 (fun _ => true) held n 3 [c0] = some xs[0] := h0
  obtain ⟨kind, e0, _, w0⟩ := open_i64 g0
  injection e0 with e0 _
  subst e0
  have g1 : DataW.trod enc Tryd.prog W 0 (fun _ => true) held n 40 [c1, c2, c3, c4, c5, c6, c7, c8, c9, c10, c11, c12] = some xs[1] := h1
  obtain ⟨al, e1, w1⟩ := trod_alert g1 (by omega)
  have g2 : DataW.trod enc Tryd.prog W 0 (fun _ => true) held n 3 [c13] = some xs[2] := h2
  obtain ⟨att, e2, _, w2⟩ := open_i64 g2
  injection e2 with e2 _
  subst e2
  have g3 : DataW.trod enc Tryd.prog W 0 (fun _ => true) held n 41 [c14] = some xs[3] := h3
  obtain ⟨A, m, c, l, e3, hm, hmK, hs, hz⟩ := open_markse g3 (by omega)
  subst e3
  have e1 := e1
  simp only [AlV.C] at e1
  injection e1 with q0 e1
  injection e1 with q1 e1
  injection e1 with q2 e1
  injection e1 with q3 e1
  injection e1 with q4 e1
  injection e1 with q5 e1
  injection e1 with q6 e1
  injection e1 with q7 e1
  injection e1 with q8 e1
  injection e1 with q9 e1
  injection e1 with q10 e1
  injection e1 with q11 e1
  subst q0 q1 q2 q3 q4 q5 q6 q7 q8 q9 q10 q11
  exact ⟨⟨kind, al, att, A, m, c⟩, l, rfl, ⟨w1, w2, hm, hmK, hz, hs⟩⟩
set_option maxRecDepth 100000 in
theorem open_event {r : Go.Reach} {b0 : Nat} {v : Value} {d : DataW H} {ps : List MemPlace} (hval : Value.okWide Tryd.prog W r b0 24 v) (hd : DataW.Trod enc Tryd.prog W 0 (fun _ => true) held 24 v d ps) (hb : Rows.uptoBulk d ≤ 1048576) :
    ∃ (y : EvV) (l : List Int), v = .agg y.C ∧ EvOk W y l := by
  have hv : ∃ cs, v = .agg cs := by
    unfold Value.okWide at hval
    rw [Tryd.underlying24] at hval
    obtain ⟨cs, h, _⟩ := hval
    exact ⟨cs, h⟩
  obtain ⟨cs, rfl⟩ := hv
  obtain ⟨fuel, hf⟩ := hd
  obtain ⟨y, l, h1, h3⟩ := trod_event hf hb
  have : cs.toList = y.C.toList := by simpa [Value.cells] using h1
  exact ⟨y, l, by rw [Array.toList_inj.1 this], h3⟩
set_option maxRecDepth 100000 in
theorem open_note {r : Go.Reach} {b0 : Nat} {v : Value} {d : DataW H} {ps : List MemPlace} (hval : Value.okWide Tryd.prog W r b0 43 v) (hd : DataW.Trod enc Tryd.prog W 0 (fun _ => true) held 43 v d ps) (hb : Rows.uptoBulk d ≤ 1048576) :
    ∃ (y : NtV) (l : List MkV), v = .agg y.C ∧ NtOk W y l := by
  have hv : ∃ cs, v = .agg cs := by
    unfold Value.okWide at hval
    rw [Tryd.underlying43] at hval
    obtain ⟨cs, h, _⟩ := hval
    exact ⟨cs, h⟩
  obtain ⟨cs, rfl⟩ := hv
  obtain ⟨fuel, hf⟩ := hd
  obtain ⟨y, l, h1, h3⟩ := trod_note hf hb
  have : cs.toList = y.C.toList := by simpa [Value.cells] using h1
  exact ⟨y, l, by rw [Array.toList_inj.1 this], h3⟩
end
end
end Go.Proofs.YtjplgcmfifoefaaDoor
