/- Tables opened. No condition beyond those named in each lemma. -/
import Derived.Test.YtgahdookojbbiaaRows
import Derived.Test.YtgahdookojbbiaaOpen2
import Derived.Test.YtgahdookojbbiaaTab
import Derived.JoinedCond
import Derived.Lib.SmallJoins
namespace Go.Proofs.Ytgahdookojbbiaa
open Go.ChangeShapes Go.WideShapes Go.ChangeAt Go.RowKit Go.Joins
set_option linter.unusedVariables false
set_option linter.unusedSimpArgs false

section
variable {H : Type}
theorem bulk_pos (d : DataW H) : 1 ≤ Rows.uptoBulk d := by
  cases d with
  | lit l => cases l <;> simp [Rows.uptoBulk]
  | _ => simp [Rows.uptoBulk]
theorem bulk_len : ∀ l : List (DataW H), l.length ≤ Rows.uptoBulkAll l
  | [] => by simp [Rows.uptoBulkAll]
  | d :: l => by
    have := bulk_pos d
    have := bulk_len l
    simp only [List.length_cons, Rows.uptoBulkAll]
    omega
theorem bulk_mem : ∀ (l : List (DataW H)) (d : DataW H), d ∈ l → Rows.uptoBulk d ≤ Rows.uptoBulkAll l
  | [], d, h => by simp at h
  | e :: l, d, h => by
    simp only [Rows.uptoBulkAll]
    rcases List.mem_cons.1 h with rfl | h
    · omega
    · have := bulk_mem l d h
      omega
end
section
variable {H : Type} {enc : TypeId × Value → H} {W : World} {held : Bool}
set_option maxRecDepth 100000 in
/-- a slice, opened from its reading, where what is read is of bulk at most K -/
theorem trod_slice_q {α : Type} {ea : α → Array Value} {t e : TypeId} {size K fuel : Nat} {v : Value} {x : DataW H × List MemPlace}
    (ht : Try.prog.underlying t = some (.slice e)) (hc : Try.prog.cellsOf e = size) (hpos : 0 < size) (hsz : ∀ y, (ea y).size = size)
    (hel : ∀ (fuel : Nat) (cs : List Value) (x : DataW H × List MemPlace), DataW.trod enc Try.prog W 0 (fun _ => true) held fuel e cs = some x → Rows.uptoBulk x.1 + 1 ≤ K → ∃ y, cs = (ea y).toList)
    (hf : DataW.trod enc Try.prog W 0 (fun _ => true) held fuel t [v] = some x) (hK : Rows.uptoBulk x.1 ≤ K) :
    ∃ (A : Option Addr) (n c : Nat) (l : List α), v = .slice A n c ∧ n = l.length ∧ n ≤ K ∧ SliceOf W W.heap.size size ea A l := by
  rcases Deep.open_slice ht hf with ⟨hcs, hx⟩ | ⟨a, len, cap, m, n', D, Pl, hcs, _, hl, hm, hmm, hx, hi⟩
  · injection hcs with hcs _
    subst hcs
    exact ⟨none, 0, 0, [], rfl, rfl, by omega, .inl rfl⟩
  · injection hcs with hcs _
    subst hcs
    have hmc : m = cap := by simpa using hmm
    subst hmc
    rw [hx] at hK
    simp only [Rows.uptoBulk] at hK
    have hlen := bulk_len ((List.range len).map D)
    rw [List.length_map, List.length_range] at hlen
    have key : ∀ i, i < len → ∃ y : α, W.cells? 0 (a.add (i * size)) size = some (ea y).toList := by
      intro i hlt
      obtain ⟨cs', h1, h2⟩ := hi i (by omega)
      have hb := bulk_mem ((List.range len).map D) (D i) (List.mem_map_of_mem (List.mem_range.2 hlt))
      obtain ⟨y, hy⟩ := hel _ _ _ h2 (by simp only; omega)
      rw [hc] at h1
      exact ⟨y, by rw [h1, hy]⟩
    obtain ⟨l, hll, hp⟩ := choose_list len key
    refine ⟨some a, len, m, l, rfl, hll.symm, by omega, ?_⟩
    rcases Nat.eq_zero_or_pos l.length with h0 | h0
    · exact .inl (List.eq_nil_of_length_eq_zero h0)
    · have hcell : ∀ i (h : i < l.length) (j : Nat) (u : Value), (ea l[i])[j]? = some u → W.cell? ((a.add (i * size)).add j) = some u := by
        intro i h j u hu
        obtain ⟨_, hlen, hget⟩ := World.cells?_some (hp i h)
        have hj : j < size := by
          rw [← hsz l[i]]
          rcases Nat.lt_or_ge j (ea l[i]).size with h1 | h1
          · exact h1
          · rw [Array.getElem?_eq_none h1] at hu; cases hu
        rw [hget j hj]
        simpa using hu
      have hz : ∃ u, (ea l[0])[0]? = some u := ⟨_, Array.getElem?_eq_getElem (by rw [hsz]; exact hpos)⟩
      obtain ⟨u, hu⟩ := hz
      have h00 := hcell 0 h0 0 u hu
      have hsp : a.spot = none := by
        have := spot_none h00
        simpa [Addr.add] using this
      obtain ⟨b, off, spot⟩ := a
      simp only at hsp
      subst hsp
      have hb : b < W.heap.size := by
        have := block_lt_of_cell h00
        simpa [Addr.add] using this
      refine .inr ⟨b, off, rfl, hb, fun i h j u hu => ?_⟩
      have := hcell i h j u hu
      rw [addr_add, addr_add] at this
      exact this
theorem bulk_nth {xs : List (DataW H × List MemPlace)} (i : Nat) (h : i < xs.length) : Rows.uptoBulk (xs[i]).1 ≤ Rows.uptoBulkAll (xs.map (·.1)) :=
  bulk_mem _ _ (List.mem_map_of_mem (List.getElem_mem h))
set_option maxRecDepth 100000 in
theorem trod_cls {fuel : Nat} {cs : List Value} {x : DataW H × List MemPlace} (h : DataW.trod enc Try.prog W 0 (fun _ => true) held fuel 44 cs = some x) : ∃ f : Nat → Int, cs = (clsC f).toList := by
  obtain ⟨xs, m, _, _, hl, hn, hi⟩ := DataW.trod_array Try.underlying44 h
  rw [show Try.prog.cellsOf 44 = 256 by kernel_rfl] at hl
  have key : ∀ i, i < 256 → ∃ z : Int, cs[i]? = some (.int .i64 z) := by
    intro i hlt
    have h1 := hi i hlt
    rw [show Try.prog.cellsOf 3 = 1 by kernel_rfl, Nat.mul_one] at h1
    have hx : xs[i]? = some xs[i] := List.getElem?_eq_getElem (by omega)
    rw [hx] at h1
    obtain ⟨z, hc, _, hw⟩ := DataW.trod_int Try.underlying3 h1
    refine ⟨z, ?_⟩
    have : ((cs.drop i).take 1)[0]? = some (.int .i64 z) := by rw [hc]; rfl
    simpa using this
  obtain ⟨l, hll, hp⟩ := choose_list 256 key
  refine ⟨fun i => l.getD i 0, ?_⟩
  apply List.ext_getElem?
  intro i
  have e : (clsC fun i => l.getD i 0).toList[i]? = (clsC fun i => l.getD i 0)[i]? := by simp
  rw [e]
  by_cases h2 : i < 256
  · rw [clsC_at _ i h2, hp i (by omega)]
    simp [List.getD_eq_getElem?_getD, List.getElem?_eq_getElem (show i < l.length by omega)]
  · rw [List.getElem?_eq_none (by omega), Array.getElem?_eq_none (by rw [clsC_size]; omega)]
set_option maxRecDepth 100000 in
theorem trod_u32s {t K n : Nat} {v : Value} {x : DataW H × List MemPlace} (h : DataW.trod enc Try.prog W 0 (fun _ => true) held n 32 [v] = some x) (hb : Rows.uptoBulk x.1 ≤ K) :
    ∃ (A : Option Addr) (n c : Nat) (l : List Nat), v = .slice A n c ∧ n = l.length ∧ n ≤ K ∧ SliceOf W W.heap.size 1 encR A l ∧ ∀ y ∈ l, y < 4294967296 := by
  obtain ⟨B, m, e, rs, rfl, hm, hmK, hsr⟩ := trod_slice_q (K := K) (size := 1) (ea := fun z : {z : Nat // z < 4294967296} => encR z.1) Try.underlying32 (by kernel_rfl) (by omega) (fun z => rfl) (fun _ _ _ h _ => by
    obtain ⟨z, hz, _, hw⟩ := DataW.trod_int Try.underlying55 h
    have h2 : IntKind.u32.min = 0 := by decide
    have h3 : IntKind.u32.max = 4294967295 := by decide
    simp only [Lit.wf, Bool.and_eq_true, decide_eq_true_eq] at hw
    obtain ⟨z', rfl⟩ := Int.eq_ofNat_of_zero_le (show 0 ≤ z by omega)
    exact ⟨⟨z', by omega⟩, by rw [hz]; rfl⟩) h hb
  refine ⟨B, m, e, rs.map (·.1), rfl, by rw [List.length_map]; exact hm, hmK, ?_, fun y hy => ?_⟩
  · rcases hsr with h | ⟨b, off, q1, q2, q3⟩
    · exact .inl (by rw [h]; rfl)
    · refine .inr ⟨b, off, q1, q2, fun i hi => ?_⟩
      simp only [List.getElem_map]
      exact q3 i (by simpa using hi)
  · obtain ⟨z, _, rfl⟩ := List.mem_map.1 hy
    exact z.2
/-- a row opened -/
theorem trod_row {K n : Nat} (hK : K ≤ 1048576) (fuel : Nat) (cs : List Value) (x : DataW H × List MemPlace) (h : DataW.trod enc Try.prog W 0 (fun _ => true) held fuel 57 cs = some x) (hb : Rows.uptoBulk x.1 ≤ K) :
    ∃ r : RV, cs = (rowC r).toList ∧ SliceOf W W.heap.size 1 encZ r.a r.l ∧ r.l.length ≤ 1048576 := by
  obtain ⟨v, rfl⟩ : ∃ v, cs = [v] := by
    rcases Deep.open_slice Try.underlying57 h with ⟨hcs, _⟩ | ⟨a, len, cap, m, n', D, Pl, hcs, _⟩
    · exact ⟨_, hcs⟩
    · exact ⟨_, hcs⟩
  obtain ⟨A, m, c, l, rfl, hm, hmK, hs⟩ := trod_slice_q (K := K) (size := 1) (ea := encZ) Try.underlying57 (by kernel_rfl) (by omega) encZ_size (fun _ _ _ h _ => by
    obtain ⟨z, hz, _, _⟩ := DataW.trod_int Try.underlying3 h
    exact ⟨z, by rw [hz]; rfl⟩) h hb
  subst hm
  exact ⟨⟨A, c, l⟩, rfl, hs, by simp only; omega⟩
set_option maxRecDepth 100000 in
theorem trod_dfa {fuel : Nat} {cs : List Value} {x : DataW H × List MemPlace} (h : DataW.trod enc Try.prog W 0 (fun _ => true) held fuel 47 cs = some x) (hb : Rows.uptoBulk x.1 ≤ 1048576) :
    ∃ y : TV, cs = y.C'.toList ∧ TabIn W W.heap.size y ∧ y.rs.length ≤ 1048576 ∧ (∀ r ∈ y.rs, r.l.length ≤ 1048576) ∧ y.fo.length ≤ 1048576 ∧ y.en.length ≤ 1048576 := by
  obtain ⟨xs, n, _, hx, hl, hlen, hf⟩ := DataW.trod_struct Try.underlying47 h
  rw [show Try.prog.cellsOf 47 = 259 by kernel_rfl] at hl
  have xsl : xs.length = 4 := hlen
  have h0 : DataW.trod enc Try.prog W 0 (fun _ => true) held n 44 ((cs.drop 0).take (Try.prog.cellsOf 44)) = xs[0]? := hf 0 _ rfl
  have h1 : DataW.trod enc Try.prog W 0 (fun _ => true) held n 45 ((cs.drop 256).take (Try.prog.cellsOf 45)) = xs[1]? := hf 1 _ rfl
  have h2 : DataW.trod enc Try.prog W 0 (fun _ => true) held n 32 ((cs.drop 257).take (Try.prog.cellsOf 32)) = xs[2]? := hf 2 _ rfl
  have h3 : DataW.trod enc Try.prog W 0 (fun _ => true) held n 32 ((cs.drop 258).take (Try.prog.cellsOf 32)) = xs[3]? := hf 3 _ rfl
  rw [show Try.prog.cellsOf 44 = 256 by kernel_rfl, List.getElem?_eq_getElem (by omega), List.drop_zero] at h0
  rw [show Try.prog.cellsOf 45 = 1 by kernel_rfl, List.getElem?_eq_getElem (by omega)] at h1
  rw [show Try.prog.cellsOf 32 = 1 by kernel_rfl, List.getElem?_eq_getElem (by omega)] at h2 h3
  have one : ∀ i (hi : i < cs.length), (cs.drop i).take 1 = [cs[i]] := fun i hi => by
    rw [List.drop_eq_getElem_cons hi]; rfl
  have e1 := one 256 (by omega)
  have e2 := one 257 (by omega)
  have e3 := one 258 (by omega)
  have h4 : cs.drop 256 = [cs[256], cs[257], cs[258]] := by
    rw [List.drop_eq_getElem_cons (by omega), List.drop_eq_getElem_cons (by omega), List.drop_eq_getElem_cons (by omega), List.drop_eq_nil_of_le (by omega)]
  obtain ⟨v1, ev1⟩ : ∃ v, v = cs[256] := ⟨_, rfl⟩
  obtain ⟨v2, ev2⟩ : ∃ v, v = cs[257] := ⟨_, rfl⟩
  obtain ⟨v3, ev3⟩ : ∃ v, v = cs[258] := ⟨_, rfl⟩
  rw [← ev1] at e1 h4
  rw [← ev2] at e2 h4
  rw [← ev3] at e3 h4
  rw [e1] at h1
  rw [e2] at h2
  rw [e3] at h3
  have hb1 := bulk_nth 1 (show 1 < xs.length by omega)
  have hb2 := bulk_nth 2 (show 2 < xs.length by omega)
  have hb3 := bulk_nth 3 (show 3 < xs.length by omega)
  rw [hx] at hb
  simp only [Rows.uptoBulk] at hb
  obtain ⟨f, e0⟩ := trod_cls h0
  obtain ⟨A, n1, c1, l, q1, hn1, hk1, hs1⟩ := trod_slice_q (K := 1048576) (size := 1) (ea := fun z : {r : RV // SliceOf W W.heap.size 1 encZ r.a r.l ∧ r.l.length ≤ 1048576} => rowC z.1) Try.underlying45 (by kernel_rfl) (by omega) (fun z => rfl) (fun fuel cs x hx hb => by
    obtain ⟨r, e, h⟩ := trod_row (K := 1048576) (n := 0) (Nat.le_refl _) fuel cs x hx (by omega)
    exact ⟨⟨r, h⟩, e⟩) h1 (by omega)
  obtain ⟨B, n2, c2, fo, q2, hn2, hk2, hs2, hf2⟩ := trod_u32s (t := 0) (K := 1048576) h2 (by omega)
  obtain ⟨C, n3, c3, en, q3, hn3, hk3, hs3, hf3⟩ := trod_u32s (t := 0) (K := 1048576) h3 (by omega)
  subst hn1 hn2 hn3
  have hcs : cs = (clsC f).toList ++ [v1, v2, v3] := by
    rw [← e0, ← h4, List.take_append_drop]
  refine ⟨⟨f, l.map (·.1), A, c1, fo, B, c2, en, C, c3⟩, ?_, ⟨?_, fun r hr => ?_, hs2, hs3, ?_, fun r hr => ?_, ?_, ?_, hf2, hf3⟩, ?_, fun r hr => ?_, hk2, hk3⟩
  · rw [hcs, q1, q2, q3]
    unfold TV.C' dfaC
    simp
  · rcases hs1 with h | ⟨b, off, q1, q2, q3⟩
    · exact .inl (by simp only; rw [h]; rfl)
    · refine .inr ⟨b, off, q1, q2, fun i hi => ?_⟩
      simp only [List.getElem_map]
      exact q3 i (by simpa using hi)
  · obtain ⟨z, _, rfl⟩ := List.mem_map.1 hr
    exact z.2.1
  · simp only [List.length_map]; omega
  · obtain ⟨z, _, rfl⟩ := List.mem_map.1 hr
    have := z.2.2
    omega
  · simp only; omega
  · simp only; omega
  · simp only [List.length_map]; omega
  · obtain ⟨z, _, rfl⟩ := List.mem_map.1 hr
    exact z.2.2
end
section
variable {H : Type} {enc : TypeId × Value → H} {W : World} {held : Bool} {r : Go.Reach} {b0 : Nat} {v : Value} {d : DataW H} {ps : List MemPlace}
set_option maxRecDepth 100000 in
theorem open_dfa (hval : Value.okWide Try.prog W r b0 47 v) (hd : DataW.Trod enc Try.prog W 0 (fun _ => true) held 47 v d ps) (hb : Rows.uptoBulk d ≤ 1048576) :
    ∃ y : TV, v = .agg y.C' ∧ TabIn W W.heap.size y ∧ y.rs.length ≤ 1048576 ∧ (∀ r ∈ y.rs, r.l.length ≤ 1048576) ∧ y.fo.length ≤ 1048576 ∧ y.en.length ≤ 1048576 := by
  have hv : ∃ cs, v = .agg cs := by
    unfold Value.okWide at hval
    rw [Try.underlying47] at hval
    obtain ⟨cs, h, _⟩ := hval
    exact ⟨cs, h⟩
  obtain ⟨cs, rfl⟩ := hv
  obtain ⟨fuel, hf⟩ := hd
  obtain ⟨y, h1, h3⟩ := trod_dfa hf hb
  have : cs.toList = y.C'.toList := by simpa [Value.cells] using h1
  exact ⟨y, by rw [Array.toList_inj.1 this], h3⟩
end
end Go.Proofs.Ytgahdookojbbiaa
