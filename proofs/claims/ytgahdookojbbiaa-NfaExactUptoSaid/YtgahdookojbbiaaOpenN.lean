/- Nodes and lists of machines opened. No condition beyond those named in each lemma. -/
import Derived.Test.YtgahdookojbbiaaOpen3
import Derived.Test.YtgahdookojbbiaaMain
import Derived.JoinedCond
namespace Go.Proofs.Ytgahdookojbbiaa
open Go.ChangeShapes Go.WideShapes Go.ChangeAt Go.RowKit Go.Joins
set_option linter.unusedVariables false
set_option linter.unusedSimpArgs false

theorem cells_node : Try.prog.cellsOf 27 = 8 := by kernel_rfl
theorem cells_slN : Try.prog.cellsOf 25 = 1 := by kernel_rfl
theorem cells_slE : Try.prog.cellsOf 31 = 1 := by kernel_rfl
theorem cells_slR : Try.prog.cellsOf 32 = 1 := by kernel_rfl
section
variable {H : Type}
theorem bulk_pos (d : DataW H) : 1 ≤ Rows.uptoBulk d := by
  cases d with
  | lit l => cases l <;> simp [Rows.uptoBulk]
  | _ => simp [Rows.uptoBulk]
theorem bulk_len : ∀ l : List (DataW H), l.length ≤ Rows.uptoBulkAll l
  | [] => by simp [Rows.uptoBulkAll]
  | d :: l => by
    have := bulk_pos d
    have := bulk_len l
    simp only [List.length_cons, Rows.uptoBulkAll]
    omega
theorem bulk_mem : ∀ (l : List (DataW H)) (d : DataW H), d ∈ l → Rows.uptoBulk d ≤ Rows.uptoBulkAll l
  | [], d, h => by simp at h
  | e :: l, d, h => by
    simp only [Rows.uptoBulkAll]
    rcases List.mem_cons.1 h with rfl | h
    · omega
    · have := bulk_mem l d h
      omega
end
section
variable {H : Type} {enc : TypeId × Value → H} {W : World} {held : Bool}
set_option maxRecDepth 100000 in
/-- a slice, opened from its reading, where what is read is of bulk at most K -/
theorem trod_slice_q {α : Type} {ea : α → Array Value} {t e : TypeId} {size K fuel : Nat} {v : Value} {x : DataW H × List MemPlace}
    (ht : Try.prog.underlying t = some (.slice e)) (hc : Try.prog.cellsOf e = size) (hpos : 0 < size) (hsz : ∀ y, (ea y).size = size)
    (hel : ∀ (fuel : Nat) (cs : List Value) (x : DataW H × List MemPlace), DataW.trod enc Try.prog W 0 (fun _ => true) held fuel e cs = some x → Rows.uptoBulk x.1 + 1 ≤ K → ∃ y, cs = (ea y).toList)
    (hf : DataW.trod enc Try.prog W 0 (fun _ => true) held fuel t [v] = some x) (hK : Rows.uptoBulk x.1 ≤ K) :
    ∃ (A : Option Addr) (n c : Nat) (l : List α), v = .slice A n c ∧ n = l.length ∧ n ≤ K ∧ SliceOf W W.heap.size size ea A l := by
  rcases Deep.open_slice ht hf with ⟨hcs, hx⟩ | ⟨a, len, cap, m, n', D, Pl, hcs, _, hl, hm, hmm, hx, hi⟩
  · injection hcs with hcs _
    subst hcs
    exact ⟨none, 0, 0, [], rfl, rfl, by omega, .inl rfl⟩
  · injection hcs with hcs _
    subst hcs
    have hmc : m = cap := by simpa using hmm
    subst hmc
    rw [hx] at hK
    simp only [Rows.uptoBulk] at hK
    have hlen := bulk_len ((List.range len).map D)
    rw [List.length_map, List.length_range] at hlen
    have key : ∀ i, i < len → ∃ y : α, W.cells? 0 (a.add (i * size)) size = some (ea y).toList := by
      intro i hlt
      obtain ⟨cs', h1, h2⟩ := hi i (by omega)
      have hb := bulk_mem ((List.range len).map D) (D i) (List.mem_map_of_mem (List.mem_range.2 hlt))
      obtain ⟨y, hy⟩ := hel _ _ _ h2 (by simp only; omega)
      rw [hc] at h1
      exact ⟨y, by rw [h1, hy]⟩
    obtain ⟨l, hll, hp⟩ := choose_list len key
    refine ⟨some a, len, m, l, rfl, hll.symm, by omega, ?_⟩
    rcases Nat.eq_zero_or_pos l.length with h0 | h0
    · exact .inl (List.eq_nil_of_length_eq_zero h0)
    · have hcell : ∀ i (h : i < l.length) (j : Nat) (u : Value), (ea l[i])[j]? = some u → W.cell? ((a.add (i * size)).add j) = some u := by
        intro i h j u hu
        obtain ⟨_, hlen, hget⟩ := World.cells?_some (hp i h)
        have hj : j < size := by
          rw [← hsz l[i]]
          rcases Nat.lt_or_ge j (ea l[i]).size with h1 | h1
          · exact h1
          · rw [Array.getElem?_eq_none h1] at hu; cases hu
        rw [hget j hj]
        simpa using hu
      have hz : ∃ u, (ea l[0])[0]? = some u := ⟨_, Array.getElem?_eq_getElem (by rw [hsz]; exact hpos)⟩
      obtain ⟨u, hu⟩ := hz
      have h00 := hcell 0 h0 0 u hu
      have hsp : a.spot = none := by
        have := spot_none h00
        simpa [Addr.add] using this
      obtain ⟨b, off, spot⟩ := a
      simp only at hsp
      subst hsp
      have hb : b < W.heap.size := by
        have := block_lt_of_cell h00
        simpa [Addr.add] using this
      refine .inr ⟨b, off, rfl, hb, fun i h j u hu => ?_⟩
      have := hcell i h j u hu
      rw [addr_add, addr_add] at this
      exact this
theorem bulk_nth {xs : List (DataW H × List MemPlace)} (i : Nat) (h : i < xs.length) : Rows.uptoBulk (xs[i]).1 ≤ Rows.uptoBulkAll (xs.map (·.1)) :=
  bulk_mem _ _ (List.mem_map_of_mem (List.getElem_mem h))
set_option maxRecDepth 100000 in
theorem trod_node : ∀ (K fuel : Nat) (cs : List Value) (x : DataW H × List MemPlace), K ≤ 1048576 → DataW.trod enc Try.prog W 0 (fun _ => true) held fuel 27 cs = some x → Rows.uptoBulk x.1 ≤ K →
    ∃ (nd : Nd) (c : Array Value), cs = c.toList ∧ c.size = 8 ∧ NdIn W W.heap.size nd c := by
  intro K
  induction K with
  | zero =>
    intro fuel cs x _ _ h
    have := bulk_pos x.1
    omega
  | succ K ih =>
    intro fuel cs x hK h hb
    obtain ⟨xs, n, _, hx, hl, hlen, hf⟩ := DataW.trod_struct Try.underlying27 h
    rw [cells_node] at hl
    obtain ⟨c0, c1, c2, c3, c4, c5, c6, c7, rfl⟩ : ∃ c0 c1 c2 c3 c4 c5 c6 c7 : Value, cs = [c0, c1, c2, c3, c4, c5, c6, c7] := by
      clear h hf hx ih
      match cs, hl with
      | [c0, c1, c2, c3, c4, c5, c6, c7], _ => exact ⟨_, _, _, _, _, _, _, _, rfl⟩
    have xsl : xs.length = 5 := hlen
    have h0 : DataW.trod enc Try.prog W 0 (fun _ => true) held n 3 ((([c0, c1, c2, c3, c4, c5, c6, c7] : List Value).drop 0).take (Try.prog.cellsOf 3)) = xs[0]? := hf 0 _ rfl
    have h1 : DataW.trod enc Try.prog W 0 (fun _ => true) held n 24 ((([c0, c1, c2, c3, c4, c5, c6, c7] : List Value).drop 1).take (Try.prog.cellsOf 24)) = xs[1]? := hf 1 _ rfl
    have h2 : DataW.trod enc Try.prog W 0 (fun _ => true) held n 25 ((([c0, c1, c2, c3, c4, c5, c6, c7] : List Value).drop 5).take (Try.prog.cellsOf 25)) = xs[2]? := hf 2 _ rfl
    have h3 : DataW.trod enc Try.prog W 0 (fun _ => true) held n 3 ((([c0, c1, c2, c3, c4, c5, c6, c7] : List Value).drop 6).take (Try.prog.cellsOf 3)) = xs[3]? := hf 3 _ rfl
    have h4 : DataW.trod enc Try.prog W 0 (fun _ => true) held n 3 ((([c0, c1, c2, c3, c4, c5, c6, c7] : List Value).drop 7).take (Try.prog.cellsOf 3)) = xs[4]? := hf 4 _ rfl
    rw [cells_int, List.getElem?_eq_getElem (by omega)] at h0 h3 h4
    rw [cells_set, List.getElem?_eq_getElem (by omega)] at h1
    rw [cells_slN, List.getElem?_eq_getElem (by omega)] at h2
    have hb2 := bulk_nth 2 (show 2 < xs.length by omega)
    rw [hx] at hb
    simp only [Rows.uptoBulk] at hb
    obtain ⟨z0, e0, _, _⟩ := DataW.trod_int Try.underlying3 h0
    obtain ⟨st, e1⟩ := trod_set h1
    obtain ⟨z3, e3, _, _⟩ := DataW.trod_int Try.underlying3 h3
    obtain ⟨z4, e4, _, _⟩ := DataW.trod_int Try.underlying3 h4
    have h2' : DataW.trod enc Try.prog W 0 (fun _ => true) held n 25 [c5] = some xs[2] := h2
    obtain ⟨A, len, cap, l, rfl, hn, hnK, hsl⟩ := trod_slice_q (K := K) (size := 8) (ea := fun z : {z : Nd × Array Value // z.2.size = 8 ∧ NdIn W W.heap.size z.1 z.2} => z.1.2) Try.underlying25 cells_node (by omega) (fun z => z.2.1) (fun fuel cs x hx hb => by
      obtain ⟨nd, c, e, hs8, hnd⟩ := ih fuel cs x (by omega) hx (by omega)
      exact ⟨⟨(nd, c), hs8, hnd⟩, e⟩) h2' (by omega)
    simp [setC] at e0 e1 e3 e4
    obtain ⟨e11, e12, e13, e14⟩ := e1
    subst e0 e11 e12 e13 e14 e3 e4
    refine ⟨.mk z0 st (l.map (·.1.1)) z3 z4, nodeC z0 st A len cap z3 z4, rfl, rfl, .mk z0 st _ z3 z4 A len cap (l.map (·.1.2)) (by rw [List.length_map]; exact hn) (by simp) (by omega) ?_ (fun i h h2 => ?_)⟩
    · rcases hsl with h | ⟨b, off, q1, q2, q3⟩
      · exact .inl (by rw [h]; rfl)
      · refine .inr ⟨b, off, q1, q2, fun i hi => ?_⟩
        rw [List.getElem_map]
        exact q3 i (by simpa using hi)
    · rw [List.getElem_map, List.getElem_map]
      exact (l[i]'(by simpa using h)).2.2
set_option maxRecDepth 100000 in
theorem trod_mv {K : Nat} (hK : K ≤ 1048576) (fuel : Nat) (cs : List Value) (x : DataW H × List MemPlace) (h : DataW.trod enc Try.prog W 0 (fun _ => true) held fuel 34 cs = some x) (hb : Rows.uptoBulk x.1 ≤ K) :
    ∃ y : MV, cs = y.C.toList ∧ SliceOf W W.heap.size 7 edgC y.A y.F.E ∧ SliceOf W W.heap.size 1 encR y.B y.F.R ∧ y.F.E.length ≤ 1048576 ∧ y.F.R.length ≤ 1048576 := by
  obtain ⟨xs, n, _, hx, hl, hlen, hf⟩ := DataW.trod_struct Try.underlying34 h
  rw [cells_nfa] at hl
  obtain ⟨c0, c1, c2, rfl⟩ : ∃ c0 c1 c2 : Value, cs = [c0, c1, c2] := by
    clear h hf hx
    match cs, hl with
    | [c0, c1, c2], _ => exact ⟨_, _, _, rfl⟩
  have xsl : xs.length = 3 := hlen
  have h0 : DataW.trod enc Try.prog W 0 (fun _ => true) held n 3 ((([c0, c1, c2] : List Value).drop 0).take (Try.prog.cellsOf 3)) = xs[0]? := hf 0 _ rfl
  have h1 : DataW.trod enc Try.prog W 0 (fun _ => true) held n 31 ((([c0, c1, c2] : List Value).drop 1).take (Try.prog.cellsOf 31)) = xs[1]? := hf 1 _ rfl
  have h2 : DataW.trod enc Try.prog W 0 (fun _ => true) held n 32 ((([c0, c1, c2] : List Value).drop 2).take (Try.prog.cellsOf 32)) = xs[2]? := hf 2 _ rfl
  rw [cells_int, List.getElem?_eq_getElem (by omega)] at h0
  rw [cells_slE, List.getElem?_eq_getElem (by omega)] at h1
  rw [cells_slR, List.getElem?_eq_getElem (by omega)] at h2
  have hb1 := bulk_nth 1 (show 1 < xs.length by omega)
  have hb2 := bulk_nth 2 (show 2 < xs.length by omega)
  rw [hx] at hb
  simp only [Rows.uptoBulk] at hb
  obtain ⟨z0, e0, _, _⟩ := DataW.trod_int Try.underlying3 h0
  have h1' : DataW.trod enc Try.prog W 0 (fun _ => true) held n 31 [c1] = some xs[1] := h1
  have h2' : DataW.trod enc Try.prog W 0 (fun _ => true) held n 32 [c2] = some xs[2] := h2
  obtain ⟨A, len, cap, es, rfl, hn, hnK, hsl⟩ := trod_slice_q (K := K) (size := 7) (ea := edgC) Try.underlying31 cells_edge (by omega) edgC_size (fun _ _ _ h _ => trod_edge h) h1' (by omega)
  obtain ⟨B, m, e, rs, rfl, hm, hmK, hsr⟩ := trod_slice_q (K := K) (size := 1) (ea := fun z : {z : Nat // z < 4294967296} => encR z.1) Try.underlying32 (by kernel_rfl) (by omega) (fun z => rfl) (fun _ _ _ h _ => by
    obtain ⟨z, hz, _, hw⟩ := DataW.trod_int Try.underlying55 h
    have h2 : IntKind.u32.min = 0 := by decide
    have h3 : IntKind.u32.max = 4294967295 := by decide
    simp only [Lit.wf, Bool.and_eq_true, decide_eq_true_eq] at hw
    obtain ⟨z', rfl⟩ := Int.eq_ofNat_of_zero_le (show 0 ≤ z by omega)
    exact ⟨⟨z', by omega⟩, by rw [hz]; rfl⟩) h2' (by omega)
  simp at e0
  subst e0
  refine ⟨⟨⟨z0, es, rs.map (·.1)⟩, A, cap, B, e⟩, ?_, hsl, ?_, by simp only; omega, by simp only [List.length_map]; omega⟩
  · subst hn hm
    simp [MV.C, nfaC]
  · rcases hsr with h | ⟨b, off, q1, q2, q3⟩
    · exact .inl (by rw [h]; rfl)
    · refine .inr ⟨b, off, q1, q2, fun i hi => ?_⟩
      simp only [List.getElem_map]
      exact q3 i (by simpa using hi)
end
end Go.Proofs.Ytgahdookojbbiaa
