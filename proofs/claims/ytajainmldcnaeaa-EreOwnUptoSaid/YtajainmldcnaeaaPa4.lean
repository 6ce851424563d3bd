/- Part 4 of a proof; packed: the texts that it was made of follow one another. No condition beyond those named in each lemma. -/
import Derived.Test.YtajainmldcnaeaaPa1
import Derived.Test.YtajainmldcnaeaaPa2
import Derived.Test.YtajainmldcnaeaaPa3
import Derived.Test.YtajainmldcnaeaaRows
import Derived.Below
import Derived.ChangeOld
import Derived.Deep.RegionWith
import Derived.Deep.Slices
import Derived.JoinedCond
import Derived.Lib.SmallJoins
import Derived.OpenShut
import Derived.ProofKit
import Derived.Shelf.Vars
import Derived.ShutString
import Derived.SizedLaws
import Derived.WalkKit
namespace Go.Proofs.Ytajainmldcnaeaa
open Go.ChangeShapes Go.WideShapes Go.ChangeAt Go.RowKit
open Go.ChangeMaps (open_string shut_string)
set_option linter.unusedVariables false
set_option linter.unusedSimpArgs false

theorem own : ownKnob Try.prog.godebug = none := by kernel_rfl
theorem laidOut : laidOutB Try.prog = true := by kernel_rfl
theorem cells_set : Try.prog.cellsOf 24 = 4 := by kernel_rfl
theorem bytes_set : Try.prog.bytesOf 24 = 32 := by kernel_rfl
theorem cells_u64o : Try.prog.cellsOf 22 = 1 := by kernel_rfl

/-- four words are a set -/
theorem word_of (f : Nat → Nat) (h : ∀ k, k < 4 → f k < 2 ^ 64) : ∃ x : BSet, ∀ k, k < 4 → word x k = f k := by
  refine ⟨setTo (fun i => (f (i / 64)).testBit (i % 64)) 256, fun k hk => ?_⟩
  apply word_eq_of (h k hk)
  intro j hj
  rw [setTo_get _ _ _ (by omega)]
  have e1 : (64 * k + j) / 64 = k := by omega
  have e2 : (64 * k + j) % 64 = j := by omega
  rw [e1, e2]
  simp; omega

section
variable {H : Type} {enc : TypeId × Value → H} {w : World} {base : Nat} {spare : Nat → Bool} {held : Bool} {fuel : Nat}
theorem trod_set {cs : List Value} {x : DataW H × List MemPlace} (h : DataW.trod enc Try.prog w base spare held fuel 24 cs = some x) : ∃ y : BSet, cs = (setC y).toList := by
  obtain ⟨xs, m, _, _, hl, hn, hi⟩ := DataW.trod_array Try.underlying24 h
  rw [cells_set] at hl
  have key : ∀ i, i < 4 → ∃ n : Nat, cs[i]? = some (.int .u64 n) ∧ n < 2 ^ 64 := by
    intro i hlt
    have h1 := hi i hlt
    rw [cells_u64o, Nat.mul_one] at h1
    have hx : xs[i]? = some xs[i] := List.getElem?_eq_getElem (by omega)
    rw [hx] at h1
    obtain ⟨n, hc, _, hw⟩ := DataW.trod_int Try.underlying22 h1
    have hb : 0 ≤ n ∧ n ≤ 18446744073709551615 := bounds_u64 hw
    obtain ⟨m, rfl⟩ := Int.eq_ofNat_of_zero_le hb.1
    refine ⟨m, ?_, by omega⟩
    have : ((cs.drop i).take 1)[0]? = some (.int .u64 (m : Int)) := by rw [hc]; rfl
    simpa using this
  obtain ⟨n0, h0, b0⟩ := key 0 (by omega)
  obtain ⟨n1, h1, b1⟩ := key 1 (by omega)
  obtain ⟨n2, h2, b2⟩ := key 2 (by omega)
  obtain ⟨n3, h3, b3⟩ := key 3 (by omega)
  obtain ⟨y, hy⟩ := word_of (fun k => match k with | 0 => n0 | 1 => n1 | 2 => n2 | _ => n3) (by
    intro k hk
    match k, hk with
    | 0, _ => exact b0
    | 1, _ => exact b1
    | 2, _ => exact b2
    | 3, _ => exact b3)
  refine ⟨y, ?_⟩
  have e0 : word y 0 = n0 := hy 0 (by omega)
  have e1 : word y 1 = n1 := hy 1 (by omega)
  have e2 : word y 2 = n2 := hy 2 (by omega)
  have e3 : word y 3 = n3 := hy 3 (by omega)
  have h4 : ∃ c0 c1 c2 c3, cs = [c0, c1, c2, c3] := by
    match cs, hl with
    | [c0, c1, c2, c3], _ => exact ⟨_, _, _, _, rfl⟩
  obtain ⟨c0, c1, c2, c3, rfl⟩ := h4
  simp only [List.getElem?_cons_zero, List.getElem?_cons_succ, Option.some.injEq] at h0 h1 h2 h3
  subst h0 h1 h2 h3
  simp [setC, e0, e1, e2, e3]

set_option maxRecDepth 100000 in
theorem open_set {r : Reach} {b0 : Nat} {v : Value} {d : DataW H} {ps : List MemPlace} (hval : Value.okWide Try.prog w r b0 24 v) (hd : DataW.Trod enc Try.prog w base spare held 24 v d ps) : ∃ y : BSet, v = .agg (setC y) := by
  have hv : ∃ cs, v = .agg cs := by
    unfold Value.okWide at hval
    rw [Try.underlying24] at hval
    obtain ⟨cs, h, _⟩ := hval
    exact ⟨cs, h⟩
  obtain ⟨cs, rfl⟩ := hv
  obtain ⟨fuel, hf⟩ := hd
  obtain ⟨y, hy⟩ := trod_set hf
  refine ⟨y, ?_⟩
  have : cs.toList = (setC y).toList := by simpa [Value.cells] using hy
  rw [Array.toList_inj.1 this]
end

theorem choose_list {α : Type} {p : Nat → α → Prop} : ∀ (n : Nat), (∀ i, i < n → ∃ y, p i y) → ∃ l : List α, l.length = n ∧ ∀ i (h : i < l.length), p i l[i]
  | 0, _ => ⟨[], rfl, fun i h => absurd h (by simp)⟩
  | n + 1, h => by
    obtain ⟨l, hl, hp⟩ := choose_list n (fun i hi => h i (by omega))
    obtain ⟨y, hy⟩ := h n (by omega)
    refine ⟨l ++ [y], by simp [hl], fun i hi => ?_⟩
    by_cases e : i < l.length
    · rw [List.getElem_append_left e]; exact hp i e
    · have : i = n := by simp at hi; omega
      subst this
      rw [List.getElem_append_right (by omega)]
      simpa using hy
theorem spot_none {w : World} {a : Addr} {v : Value} (h : w.cell? a = some v) : a.spot = none := World.cell?_spot h
set_option maxRecDepth 100000 in
/-- an argument that is a slice whose elements read by enc -/
theorem open_slice_of {α : Type} {ea : α → Array Value} {t e : TypeId} {size : Nat} {H : Type} {enc : TypeId × Value → H} {W : World} {held : Bool} {r : Reach} {b0 : Nat} {v : Value} {d : DataW H} {ps : List MemPlace}
    (ht : Try.prog.underlying t = some (.slice e)) (hc : Try.prog.cellsOf e = size) (hpos : 0 < size) (hsz : ∀ y, (ea y).size = size)
    (hel : ∀ (fuel : Nat) (cs : List Value) (x : DataW H × List MemPlace), DataW.trod enc Try.prog W 0 (fun _ => true) held fuel e cs = some x → ∃ y, cs = (ea y).toList)
    (hval : Value.okWide Try.prog W r b0 t v) (hd : DataW.Trod enc Try.prog W 0 (fun _ => true) held t v d ps) :
    ∃ (A : Option Addr) (n c : Nat) (l : List α), v = .slice A n c ∧ n = l.length ∧ n ≤ maxLen ∧ SliceOf W W.heap.size size ea A l ∧ ((d = .nil ∧ n = 0) ∨ ∃ el sp, d = .slice el sp ∧ el.length = n) := by
  obtain ⟨A, n, c, rfl⟩ := okWide_slice ht hval
  obtain ⟨fuel, hf⟩ := hd
  rcases Deep.open_slice ht hf with ⟨hcs, hx⟩ | ⟨a, len, cap, m, n', D, Pl, hcs, _, hl, hm, hmm, hx, hi⟩
  · simp [Value.cells] at hcs
    obtain ⟨rfl, rfl, rfl⟩ := hcs
    exact ⟨none, 0, 0, [], rfl, rfl, by unfold maxLen; omega, .inl rfl, .inl ⟨by injection hx, rfl⟩⟩
  · simp [Value.cells] at hcs
    obtain ⟨rfl, rfl, rfl⟩ := hcs
    have hmc : m = c := by simpa using hmm
    subst hmc
    have key : ∀ i, i < n → ∃ y : α, W.cells? 0 (a.add (i * size)) size = some (ea y).toList := by
      intro i hlt
      obtain ⟨cs', h1, h2⟩ := hi i (by omega)
      obtain ⟨y, hy⟩ := hel _ _ _ h2
      rw [hc] at h1
      exact ⟨y, by rw [h1, hy]⟩
    obtain ⟨l, hll, hp⟩ := choose_list n key
    refine ⟨some a, n, m, l, rfl, hll.symm, by omega, ?_, .inr ⟨_, _, by injection hx, by simp⟩⟩
    rcases Nat.eq_zero_or_pos l.length with h0 | h0
    · exact .inl (List.eq_nil_of_length_eq_zero h0)
    · have hcell : ∀ i (h : i < l.length) (j : Nat) (u : Value), (ea l[i])[j]? = some u → W.cell? ((a.add (i * size)).add j) = some u := by
        intro i h j u hu
        obtain ⟨_, hlen, hget⟩ := World.cells?_some (hp i h)
        have hj : j < size := by
          rw [← hsz l[i]]
          rcases Nat.lt_or_ge j (ea l[i]).size with h1 | h1
          · exact h1
          · rw [Array.getElem?_eq_none h1] at hu; cases hu
        rw [hget j hj]
        simpa using hu
      have hz : ∃ u, (ea l[0])[0]? = some u := ⟨_, Array.getElem?_eq_getElem (by rw [hsz]; exact hpos)⟩
      obtain ⟨u, hu⟩ := hz
      have h00 := hcell 0 h0 0 u hu
      have hsp : a.spot = none := by
        have := spot_none h00
        simpa [Addr.add] using this
      obtain ⟨b, off, spot⟩ := a
      simp only at hsp
      subst hsp
      have hb : b < W.heap.size := by
        have := block_lt_of_cell h00
        simpa [Addr.add] using this
      refine .inr ⟨b, off, rfl, hb, fun i h j u hu => ?_⟩
      have := hcell i h j u hu
      rw [addr_add, addr_add] at this
      exact this

end Go.Proofs.Ytajainmldcnaeaa
namespace Go.Proofs.Ytajainmldcnaeaa
open Go.RowKit
theorem cells_int : Try.prog.cellsOf 3 = 1 := by kernel_rfl
end Go.Proofs.Ytajainmldcnaeaa
namespace Go.Proofs.Ytajainmldcnaeaa
open Go.ChangeShapes Go.WideShapes Go.ChangeAt Go.RowKit Go.Joins
set_option linter.unusedVariables false
set_option linter.unusedSimpArgs false

theorem cells_edge : Try.prog.cellsOf 67 = 7 := by kernel_rfl
theorem bytes_edge : Try.prog.bytesOf 67 = 56 := by kernel_rfl
theorem cells_nfa : Try.prog.cellsOf 52 = 3 := by kernel_rfl
def enc32 (z : Nat) : Array Value := #[.int .u32 (z : Int)]
theorem enc32_size (z : Nat) : (enc32 z).size = 1 := rfl
theorem enc32_one (z : Nat) : (enc32 z).all (·.oneCell') = true := by simp [enc32, Value.oneCell']
section
variable {H : Type} {enc : TypeId × Value → H} {W : World} {held : Bool} {r : Reach} {b0 : Nat} {v : Value} {d : DataW H} {ps : List MemPlace} {fuel : Nat}
set_option maxRecDepth 100000 in
theorem trod_edge {w : World} {base : Nat} {spare : Nat → Bool} {cs : List Value} {x : DataW H × List MemPlace} (h : DataW.trod enc Try.prog w base spare held fuel 67 cs = some x) : ∃ y : Edg, cs = (edgC y).toList := by
  obtain ⟨xs, n, _, _, hl, hlen, hf⟩ := DataW.trod_struct Try.underlying67 h
  rw [cells_edge] at hl
  have xsl : xs.length = 4 := hlen
  have h0 : DataW.trod enc Try.prog w base spare held n 3 ((cs.drop 0).take (Try.prog.cellsOf 3)) = xs[0]? := hf 0 _ rfl
  have h1 : DataW.trod enc Try.prog w base spare held n 3 ((cs.drop 1).take (Try.prog.cellsOf 3)) = xs[1]? := hf 1 _ rfl
  have h2 : DataW.trod enc Try.prog w base spare held n 3 ((cs.drop 2).take (Try.prog.cellsOf 3)) = xs[2]? := hf 2 _ rfl
  have h3 : DataW.trod enc Try.prog w base spare held n 24 ((cs.drop 3).take (Try.prog.cellsOf 24)) = xs[3]? := hf 3 _ rfl
  rw [cells_int, List.getElem?_eq_getElem (by omega)] at h0 h1 h2
  rw [cells_set, List.getElem?_eq_getElem (by omega)] at h3
  obtain ⟨z0, e0, _, _⟩ := DataW.trod_int Try.underlying3 h0
  obtain ⟨z1, e1, _, _⟩ := DataW.trod_int Try.underlying3 h1
  obtain ⟨z2, e2, _, _⟩ := DataW.trod_int Try.underlying3 h2
  obtain ⟨y, e3⟩ := trod_set h3
  refine ⟨⟨z0, z1, z2, y⟩, ?_⟩
  match cs, hl with
  | [c0, c1, c2, c3, c4, c5, c6], _ =>
    simp [setC] at e0 e1 e2 e3
    obtain ⟨e3, e4, e5, e6⟩ := e3
    subst e0 e1 e2 e3 e4 e5 e6
    simp [edgC]
/-- a slice, opened from its reading -/
theorem trod_slice_of {α : Type} {ea : α → Array Value} {t e : TypeId} {size : Nat} {x : DataW H × List MemPlace}
    (ht : Try.prog.underlying t = some (.slice e)) (hc : Try.prog.cellsOf e = size) (hpos : 0 < size) (hsz : ∀ y, (ea y).size = size)
    (hel : ∀ (fuel : Nat) (cs : List Value) (x : DataW H × List MemPlace), DataW.trod enc Try.prog W 0 (fun _ => true) held fuel e cs = some x → ∃ y, cs = (ea y).toList)
    (hf : DataW.trod enc Try.prog W 0 (fun _ => true) held fuel t [v] = some x) :
    ∃ (A : Option Addr) (n c : Nat) (l : List α), v = .slice A n c ∧ n = l.length ∧ n ≤ c ∧ c ≤ maxLen ∧ SliceOf W W.heap.size size ea A l ∧ ((x.1 = .nil ∧ n = 0) ∨ ∃ el sp, x.1 = .slice el sp ∧ el.length = n) := by
  rcases Deep.open_slice ht hf with ⟨hcs, hx⟩ | ⟨a, len, cap, m, n', D, Pl, hcs, _, hl, hm, hmm, hx, hi⟩
  · injection hcs with hcs _
    subst hcs
    exact ⟨none, 0, 0, [], rfl, rfl, Nat.le_refl _, by unfold maxLen; omega, .inl rfl, .inl ⟨by rw [hx], rfl⟩⟩
  · injection hcs with hcs _
    subst hcs
    have hmc : m = cap := by simpa using hmm
    subst hmc
    have key : ∀ i, i < len → ∃ y : α, W.cells? 0 (a.add (i * size)) size = some (ea y).toList := by
      intro i hlt
      obtain ⟨cs', h1, h2⟩ := hi i (by omega)
      obtain ⟨y, hy⟩ := hel _ _ _ h2
      rw [hc] at h1
      exact ⟨y, by rw [h1, hy]⟩
    obtain ⟨l, hll, hp⟩ := choose_list len key
    refine ⟨some a, len, m, l, rfl, hll.symm, hl, hm, ?_, .inr ⟨_, _, by rw [hx], by simp⟩⟩
    rcases Nat.eq_zero_or_pos l.length with h0 | h0
    · exact .inl (List.eq_nil_of_length_eq_zero h0)
    · have hcell : ∀ i (h : i < l.length) (j : Nat) (u : Value), (ea l[i])[j]? = some u → W.cell? ((a.add (i * size)).add j) = some u := by
        intro i h j u hu
        obtain ⟨_, hlen, hget⟩ := World.cells?_some (hp i h)
        have hj : j < size := by
          rw [← hsz l[i]]
          rcases Nat.lt_or_ge j (ea l[i]).size with h1 | h1
          · exact h1
          · rw [Array.getElem?_eq_none h1] at hu; cases hu
        rw [hget j hj]
        simpa using hu
      have hz : ∃ u, (ea l[0])[0]? = some u := ⟨_, Array.getElem?_eq_getElem (by rw [hsz]; exact hpos)⟩
      obtain ⟨u, hu⟩ := hz
      have h00 := hcell 0 h0 0 u hu
      have hsp : a.spot = none := by
        have := spot_none h00
        simpa [Addr.add] using this
      obtain ⟨b, off, spot⟩ := a
      simp only at hsp
      subst hsp
      have hb : b < W.heap.size := by
        have := block_lt_of_cell h00
        simpa [Addr.add] using this
      refine .inr ⟨b, off, rfl, hb, fun i h j u hu => ?_⟩
      have := hcell i h j u hu
      rw [addr_add, addr_add] at this
      exact this
end

end Go.Proofs.Ytajainmldcnaeaa
namespace Go.Proofs.Ytajainmldcnaeaa
open Go.ChangeShapes Go.WideShapes Go.ChangeAt Go.RowKit
open Go.ChangeMaps (open_string shut_string)
set_option linter.unusedVariables false
set_option linter.unusedSimpArgs false

/-- a row whose specification has a condition of its own; the world's shape kept -/
theorem returnsInHanded_of_cond_shaped {H : Type} {enc : TypeId × Value → H} {a : Assume} {C : Checked} {os : Os} {f : FuncId} {fn : Func} {s : OpenSpec} {k : (H : Type) → List (DataW H) → Bool} (hk : s.cond = some k) {F : Stop.Interp} {conds : List PathCond} {apart fresh handsOn again : Bool}
    (own : ownKnob C.prog.godebug = none) (started : os.Started) (noInit : C.prog.inits.idxOf? f = none) (hfn : C.prog.funcs[f]? = some fn)
    (witness : ∃ (w : World) (tape : Tape) (i : Input), w.os = os ∧ (w.forCall tape i).Shaped C.prog ∧ i.vars = [] ∧ Input.okWide C.prog (w.forCall tape i) .any w.heap.size f i ∧
      s.pre6 enc C.prog fn conds apart (w.forCall tape i).memory i.args ∧ a.holds C.prog (lone (Frame.enter C.prog f i.args .normal) [] (w.forCall tape i)))
    (contract : ∀ (W : World) (base : Nat) (args : Array Value) (ds gs : List (DataW H)) (before : List MemPlace),
      (∀ (j : Nat) t v, fn.params[j]? = some t → args[j]? = some v → Value.okWide C.prog W .any base t v) →
      DataW.Whole enc C.prog fn.params.toList s.vars apart W args.toList ds gs before →
      conds.all (PathCond.test C.prog ⟨fn.params.toList, ds, s.bare.plain.varTypes C.prog, gs⟩) = true → k H (ds ++ gs) = true → W.ShapedOpen C.prog →
      a.holds C.prog (lone (Frame.enter C.prog f args .normal) [] W) →
      Calls C.prog f args W fun e W' => ∃ v, e = .returned v ∧ (s.at F).post enc C.prog fn apart fresh handsOn again W args v W') :
    ReturnsInHanded a C os f .any (s.pre6 enc C.prog fn conds apart) ((s.at F).post enc C.prog fn apart fresh handsOn again) := by
  refine returnsInHanded_of_calls own started noInit witness ?_
  intro w tape i _ hsh _ hok hpre hholds
  obtain ⟨_, _, _, fn', hfn', _, _, _, _, hval⟩ := hok
  have e : fn' = fn := Option.some.inj (hfn'.symm.trans hfn)
  subst e
  obtain ⟨ds, gs, before, hw, hc, hkk⟩ := (OpenSpec.pre_some hk conds apart _ _).1 hpre.1
  have hw' := DataW.Whole.of_heap (w' := w.forCall tape i) (by rfl) hw
  refine (contract (w.forCall tape i) w.heap.size i.args ds gs before hval hw' hc hkk hsh hholds).mono fun e W' ⟨v, he, hp⟩ => ?_
  subst he
  exact ChangeSpec.post_blind hp
theorem mx_of {W : World} (h : W.ShapedOpen Try.prog) : Mx W :=
  cell_of_shapedOpen_int (P := Try.prog) (g := 0) (t := 3) (zero := #[.int .i64 0]) h (of_decide_eq_true (by kernel_rfl)) (by kernel_rfl) rfl (by kernel_rfl) (by kernel_rfl) Try.underlying3
theorem bulk_str {H : Type} {l : List UInt8} {K : Nat} (h : Rows.uptoBulk (DataW.lit (H := H) (.string l)) ≤ K) : l.length ≤ K := by
  simp only [Rows.uptoBulk] at h
  omega
end Go.Proofs.Ytajainmldcnaeaa
namespace Go.Proofs.Ytajainmldcnaeaa
open Go.RowKit Go.Maps
set_option linter.unusedVariables false
set_option linter.unusedSimpArgs false
set_option linter.unnecessarySimpa false
section
variable {rw : Option Nat} {i0 : Nat}
def GKR (rw : Option Nat) (i0 : Nat) (S : Nat → GSpec) (i : Nat) (o : Oper) (a : Act) (w : World) : Act → World → Prop := fun a' w' => ∃ v, a' = a.put o.dst v ∧ (w.grownBy w' rw ∧ (i ≠ i0 → Below w.heap.size w w')) ∧ (S i).p v w'
def GStepR (rw : Option Nat) (i0 : Nat) (P : Program) (ops : Array Oper) (S : Nat → GSpec) (Q : Exit → Act → World → Prop) (i : Nat) (o : Oper) (a : Act) (w : World) : Prop :=
  if Region.wanted o (yielded ops a.tmps) = true then o.wp P a w (GKR rw i0 S i o a w) Q else (S i).p undef w

theorem getD_set_same' {l : Array Bool} {i : Nat} (h : i < l.size) : (l.setIfInBounds i true).getD i false = true := by simp [h]
structure GInvR (rw : Option Nat) (i0 : Nat) (ops : Array Oper) (n : Nat) (S : Nat → GSpec) (a0 : Act) (W0 : World) (listed : Array Bool) (a : Act) (w : World) : Prop where
  head : HeadInv .any ops n listed
  base : GBase ops n a0 a
  below : W0.grownBy w rw
  pure_ : listed.getD i0 false = false → Below W0.heap.size W0 w
  done : ∀ j, j < n → listed.getD j false = true → opOk ops S a w j

theorem wpAny_growR {P : Program} {ops : Array Oper} {n : Nat} {S : Nat → GSpec} {Q : Exit → Act → World → Prop} {a0 : Act} {W0 : World} (hkp : ∀ j, j ≠ i0 → ∀ v w w', (S j).p v w → w.grownBy w' rw → (S j).p v w') (hB : growB ops n a0.tmps.size = true)
    (hstep : ∀ i o, i < n → ops[i]? = some o → ∀ a w, GBase ops n a0 a → W0.grownBy w rw → (i = i0 → Below W0.heap.size W0 w) → (∀ e ∈ o.after, Region.binds .any e = true → opOk ops S a w e.on) → GStepR rw i0 P ops S Q i o a w)
    (hend : ∀ a w, GBase ops n a0 a → W0.grownBy w rw → (∀ j, j < n → opOk ops S a w j) → wpList P ops Q (ops.toList.drop n) a w) :
    ∀ (m : Nat) (listed : Array Bool) (a : Act) (w : World), GInvR rw i0 ops n S a0 W0 listed a w → unl n listed = m → wpAny P .any ops Q (m + (ops.size - n)) listed a w := by
  simp only [growB, Bool.and_eq_true, Bool.or_eq_true, decide_eq_true_eq] at hB
  obtain ⟨⟨⟨⟨⟨hn, hdup⟩, hlt⟩, hedge⟩, htail⟩, hseq⟩ := hB
  have hedge' : ∀ i o, i < n → ops[i]? = some o → ∀ e ∈ o.after, Region.binds .any e = true → e.on < i := by
    intro i o hi ho e he hb
    have h1 := List.all_eq_true.1 hedge i (List.mem_range.2 hi)
    simp only [ho] at h1
    have h2 := (Array.all_eq_true_iff_forall_mem.1 h1) e he
    simpa [hb] using h2
  have hready : ∀ (listed : Array Bool) (a : Act) (w : World), GInvR rw i0 ops n S a0 W0 listed a w → 0 < unl n listed → ∀ j ∈ Region.ready .any ops listed, j < n := by
    intro listed a w inv hpos j hj
    rcases htail with he | ⟨hs, hc⟩
    · obtain ⟨_, o, ho, _⟩ := mem_ready.1 hj
      have := (Array.getElem?_eq_some_iff.1 ho).1
      omega
    · rcases Nat.lt_or_ge n ops.size with hlt' | hge
      · unfold unl at hpos
        obtain ⟨i, hi⟩ := List.exists_mem_of_length_pos hpos
        simp only [List.mem_filter, List.mem_range, Bool.not_eq_true'] at hi
        have hun : listed.getD i true = false := getD_in (by rw [inv.head.size]; omega) hi.2
        rcases Nat.lt_or_ge j n with h | h
        · exact h
        · exact absurd hj (tail_waits hs hc hlt' inv.head _ i rfl hi.1 hun j h)
      · obtain ⟨_, o, ho, _⟩ := mem_ready.1 hj
        have := (Array.getElem?_eq_some_iff.1 ho).1
        omega
  have hne : ∀ (listed : Array Bool) (a : Act) (w : World), GInvR rw i0 ops n S a0 W0 listed a w → 0 < unl n listed → Region.ready .any ops listed ≠ [] := by
    intro listed a w inv hpos hnil
    have hex : ∃ i, i < n ∧ listed.getD i false = false := by
      unfold unl at hpos
      obtain ⟨i, hi⟩ := List.exists_mem_of_length_pos hpos
      simp only [List.mem_filter, List.mem_range, Bool.not_eq_true'] at hi
      exact ⟨i, hi.1, hi.2⟩
    have hmin : ∃ i, i < n ∧ listed.getD i false = false ∧ ∀ k, k < i → listed.getD k false = true := by
      obtain ⟨i, hi, hf⟩ := hex
      clear hpos
      induction i using Nat.strongRecOn with
      | _ i ih =>
        by_cases h : ∃ k, k < i ∧ listed.getD k false = false
        · obtain ⟨k, hk, hkf⟩ := h
          exact ih k hk (by omega) hkf
        · refine ⟨i, hi, hf, fun k hk => ?_⟩
          cases hc : listed.getD k false with
          | true => rfl
          | false => exact absurd ⟨k, hk, hc⟩ h
    obtain ⟨i, hi, hf, hall⟩ := hmin
    have ho : ops[i]? = some ops[i] := Array.getElem?_eq_getElem (by omega)
    have hmem : i ∈ Region.ready .any ops listed := mem_ready.2 ⟨getD_in (by rw [inv.head.size]; omega) hf, _, ho, fun e he hb => hall _ (hedge' i _ hi ho e he hb)⟩
    rw [hnil] at hmem
    cases hmem
  intro m
  induction m with
  | zero =>
    intro listed a w inv hm
    have hall : ∀ j, j < n → listed.getD j false = true := by
      intro j hj
      cases hc : listed.getD j false with
      | true => rfl
      | false => have := unl_pos hj hc; omega
    have hlist : listed = headTrue n (ops.size - n) := by
      have hsz := inv.head.size
      apply Array.ext
      · simp [headTrue, hsz]; omega
      · intro j h1 h2
        have hj : j < ops.size := by rw [← hsz]; exact h1
        simp only [headTrue, List.getElem_toArray, List.getElem_append, List.length_replicate, List.getElem_replicate]
        by_cases hjn : j < n
        · have := hall j hjn
          simp [h1] at this
          simp [hjn, this]
        · have := inv.head.tail j (by omega) hj
          simp [h1] at this
          simp [hjn, this]
    have hw := hend a w inv.base inv.below (fun j hj => inv.done j hj (hall j hj))
    have hdl : (ops.toList.drop n).length = ops.size - n := by simp
    have := wpAny_of_seq (md := .any) (Q' := Q) (ops.toList.drop n) n listed a w (fun j => by simp [List.getElem?_drop]) (by rw [hdl, hlist]; exact hseq) hw
    rw [hdl] at this
    rw [Nat.zero_add]
    exact this
  | succ m ih =>
    intro listed a w inv hm
    rw [show m + 1 + (ops.size - n) = (m + (ops.size - n)) + 1 by omega]
    refine ⟨fun h => absurd h (hne listed a w inv (by omega)), fun i hi => ?_⟩
    have hin := hready listed a w inv (by omega) i hi
    obtain ⟨hun, o, ho, hall⟩ := mem_ready.1 hi
    have hlisted : listed.getD i false = false := getD_both hun
    have hg := hstep i o hin ho a w inv.base inv.below (fun e => inv.pure_ (e ▸ hlisted)) (fun e he hb => inv.done e.on (by have := hedge' i o hin ho e he hb; omega) (hall e he hb))
    have hsz : i < listed.size := by rw [inv.head.size]; omega
    have hnext : ∀ a' w', GKR rw i0 S i o a w a' w' → wpAny P .any ops Q (m + (ops.size - n)) (listed.setIfInBounds i true) a' w' := by
      rintro a' w' ⟨v, rfl, hb, hp⟩
      refine ih _ _ _ ⟨inv.head.set hi hin, ⟨by rw [put_defers]; exact inv.base.defers, by rw [put_size]; exact inv.base.size, fun t ht => ?_⟩, inv.below.trans hb.1, fun hl0 => (by
        have hne : i ≠ i0 := fun e => by
          subst e
          rw [getD_set_same' hsz] at hl0
          cases hl0
        rw [getD_set_ne false hne] at hl0
        have k1 := inv.pure_ hl0
        exact k1.trans ((hb.2 hne).mono k1.size)), fun j hj hl d hd => ?_⟩ (by have := unl_set hin hsz hlisted; omega)
      · cases hd : o.dst with
        | none => exact inv.base.other t ht
        | some d =>
          have hmem : d ∈ headDsts ops n := List.mem_filterMap.2 ⟨o, by
            rw [List.mem_iff_getElem?]
            exact ⟨i, by rw [List.getElem?_take]; simp [hin, ho]⟩, hd⟩
          have hne : d ≠ t := by
            rintro rfl
            rw [List.contains_eq_mem] at ht
            simp [hmem] at ht
          rw [put_getD_ne hne]
          exact inv.base.other t ht
      · by_cases hij : i = j
        · subst hij
          rw [ho] at hd
          simp only [Option.bind_some] at hd
          rw [hd]
          have hmem : d ∈ headDsts ops n := List.mem_filterMap.2 ⟨o, by
            rw [List.mem_iff_getElem?]
            exact ⟨i, by rw [List.getElem?_take]; simp [hin, ho]⟩, hd⟩
          have hdl : d < a.tmps.size := by
            have := List.all_eq_true.1 hlt d hmem
            rw [inv.base.size]; simpa using this
          rw [put_getD_same hdl]
          exact hp
        · rw [getD_set_ne false hij] at hl
          have hold := inv.done j hj hl d hd
          have hkeep : (a.put o.dst v).tmps.getD d undef = a.tmps.getD d undef := by
            cases hod : o.dst with
            | none => rfl
            | some e =>
              apply put_getD_ne
              rintro rfl
              cases hoj : ops[j]? with
              | none => rw [hoj] at hd; cases hd
              | some oj =>
                rw [hoj] at hd
                simp only [Option.bind_some] at hd
                exact hij (noDup_spec _ hdup i j o oj e (by rw [List.getElem?_take]; simp [hin, ho]) (by rw [List.getElem?_take]; simp [hj, hoj]) hod hd)
          rw [hkeep]
          by_cases hj0 : j = i0
          · exact (S j).st _ _ _ hold (hb.2 (by omega))
          · exact hkp j hj0 _ _ _ hold hb.1
    unfold wpOp
    simp only [ho]
    unfold GStepR at hg
    split
    · rename_i hw
      rw [if_pos hw] at hg
      exact .inl (Oper.wp_mono hnext hg)
    · rename_i hw
      rw [if_neg hw] at hg
      exact hnext _ _ ⟨undef, rfl, ⟨World.grownBy.refl _ _, fun _ => Below.refl _ _⟩, hg⟩

/-- THE LAW. -/
theorem wp_region_growR {P : Program} {id : Nat} {l : List Oper} {Q : Exit → Act → World → Prop} {a : Act} {w : World} (n : Nat) (S : List GSpec) (hm : P.follows .mixedOrders = true) (hkp : ∀ j, j ≠ i0 → ∀ v w w', (specAt S j).p v w → w.grownBy w' rw → (specAt S j).p v w') (hB : growB l.toArray n a.tmps.size = true)
    (hstep : ∀ i o, i < n → l[i]? = some o → ∀ a' w', GBase l.toArray n a a' → w.grownBy w' rw → (i = i0 → Below w.heap.size w w') → (∀ e ∈ o.after, Region.binds .any e = true → opOk l.toArray (specAt S) a' w' e.on) → GStepR rw i0 P l.toArray (specAt S) Q i o a' w')
    (hend : ∀ (u : Nat → Value) w', w.grownBy w' rw → (∀ j d, j < n → (l[j]?).bind (·.dst) = some d → (specAt S j).p (u d) w') → wpList P l.toArray Q (l.drop n) (putAll a (headDsts l.toArray n) u) w') :
    (Code.region id l.toArray true).wp P Q a w := by
  refine wp_region_any hm ?_
  have hdr : ∀ {x : World}, w.grownBy x rw → w.drew.grownBy x rw := fun h => ⟨h.os, h.tape, h.output, h.size, h.block⟩
  have hrd : ∀ {x : World}, w.drew.grownBy x rw → w.grownBy x rw := fun h => ⟨h.os, h.tape, h.output, h.size, h.block⟩
  have hn : n ≤ l.length := by
    simp only [growB, Bool.and_eq_true, decide_eq_true_eq] at hB
    simpa using hB.1.1.1.1.1
  have key := wpAny_growR (P := P) (ops := l.toArray) (n := n) (S := specAt S) (Q := Q) (a0 := a) (W0 := w.drew) hkp hB
    (fun i o hi ho a' w' hb hw hp hd => hstep i o hi (by simpa using ho) a' w' hb (hrd hw) (fun e => ⟨(hp e).os, (hp e).tape, (hp e).output, (hp e).size, (hp e).block⟩) hd)
    (fun a' w' hb hw hd => by
      rw [act_eq hb]
      have := hend (fun d => a'.tmps.getD d undef) w' (hrd hw) (fun j d hj hd' => hd j hj d (by simpa using hd'))
      simpa using this)
    n (Array.replicate l.toArray.size false) a w.drew
    ⟨⟨by simp, fun j oj _ hl => (by rw [getD_replicate_false] at hl; cases hl), fun t _ ht => getD_in (by simpa using ht) (getD_replicate_false _ _)⟩, ⟨rfl, rfl, fun _ _ => rfl⟩, World.grownBy.refl _ _, fun _ => Below.refl _ _, fun j _ hl => (by rw [getD_replicate_false] at hl; cases hl)⟩
    (by
      unfold unl
      rw [List.filter_eq_self.2 (fun j _ => by rw [getD_replicate_false]; rfl), List.length_range])
  rw [show n + (l.toArray.size - n) = l.toArray.size by simp; omega] at key
  exact key

/-- the steps, one behind the other -/
def StepsR (rw : Option Nat) (i0 : Nat) (P : Program) (ops : Array Oper) (S : Nat → GSpec) (Q : Exit → Act → World → Prop) (n : Nat) (a : Act) (w : World) : List Oper → Nat → Prop
  | [], _ => True
  | o :: l, i => (∀ a' w', GBase ops n a a' → w.grownBy w' rw → (i = i0 → Below w.heap.size w w') → (∀ j, (o.after.toList.any fun e => Region.binds .any e && e.on == j) = true → opOk ops S a' w' j) → GStepR rw i0 P ops S Q i o a' w') ∧ StepsR rw i0 P ops S Q n a w l (i + 1)
theorem StepsR.nil {P : Program} {ops : Array Oper} {S : Nat → GSpec} {Q : Exit → Act → World → Prop} {n : Nat} {a : Act} {w : World} {i : Nat} : StepsR rw i0 P ops S Q n a w [] i := trivial
theorem StepsR.cons {P : Program} {ops : Array Oper} {S : Nat → GSpec} {Q : Exit → Act → World → Prop} {n : Nat} {a : Act} {w : World} {o : Oper} {l : List Oper} {i : Nat}
    (h : ∀ a' w', GBase ops n a a' → w.grownBy w' rw → (i = i0 → Below w.heap.size w w') → (∀ j, (o.after.toList.any fun e => Region.binds .any e && e.on == j) = true → opOk ops S a' w' j) → GStepR rw i0 P ops S Q i o a' w')
    (hl : StepsR rw i0 P ops S Q n a w l (i + 1)) : StepsR rw i0 P ops S Q n a w (o :: l) i := ⟨h, hl⟩
theorem StepsR.at_ {P : Program} {ops : Array Oper} {S : Nat → GSpec} {Q : Exit → Act → World → Prop} {n : Nat} {a : Act} {w : World} : ∀ {l : List Oper} {i : Nat}, StepsR rw i0 P ops S Q n a w l i → ∀ (k : Nat) (o : Oper), l[k]? = some o →
    ∀ a' w', GBase ops n a a' → w.grownBy w' rw → (i + k = i0 → Below w.heap.size w w') → (∀ j, (o.after.toList.any fun e => Region.binds .any e && e.on == j) = true → opOk ops S a' w' j) → GStepR rw i0 P ops S Q (i + k) o a' w'
  | [], _, _, k, o, hk => by simp at hk
  | o' :: l, i, h, k, o, hk => by
    rcases k with _ | k
    · simp only [List.getElem?_cons_zero, Option.some.injEq] at hk
      subst hk
      exact h.1
    · rw [List.getElem?_cons_succ] at hk
      have := StepsR.at_ h.2 k o hk
      rw [show i + (k + 1) = i + 1 + k by omega]
      exact this

/-- THE LAW, as it is used: S the answers, ds the head's slots. -/
theorem wp_region_stepsR {P : Program} {id : Nat} {l : List Oper} {Q : Exit → Act → World → Prop} {a : Act} {w : World} (n : Nat) (S : List GSpec) (ds : List Nat) (hm : P.follows .mixedOrders = true) (hkp : ∀ j, j ≠ i0 → ∀ v w w', (specAt S j).p v w → w.grownBy w' rw → (specAt S j).p v w') (hB : growB l.toArray n a.tmps.size = true)
    (hds : headDsts l.toArray n = ds) (hstep : StepsR rw i0 P l.toArray (specAt S) Q n a w (l.take n) 0)
    (hend : ∀ (u : Nat → Value) w', w.grownBy w' rw → (∀ j d, j < n → (l[j]?).bind (·.dst) = some d → (specAt S j).p (u d) w') → wpList P l.toArray Q (l.drop n) (putAll a ds u) w') :
    (Code.region id l.toArray true).wp P Q a w := by
  subst hds
  refine wp_region_growR n S hm hkp hB (fun i o hi ho a' w' hb hw hp hd => ?_) hend
  have := hstep.at_ i o (by rw [List.getElem?_take, if_pos hi]; exact ho) a' w' hb hw (by rw [Nat.zero_add]; exact hp) (fun j hj => by
    obtain ⟨e, he, hh⟩ := List.any_eq_true.1 hj
    simp only [Bool.and_eq_true, beq_iff_eq] at hh
    rw [← hh.2]
    exact hd e (Array.mem_toList_iff.1 he) hh.1)
  rw [Nat.zero_add] at this
  exact this

/-- a step that turns nothing -/
theorem GStepR.of {P : Program} {ops : Array Oper} {S : Nat → GSpec} {Q : Exit → Act → World → Prop} {i : Nat} {o : Oper} {a : Act} {w : World} (h : GStep P ops S Q i o a w) : GStepR rw i0 P ops S Q i o a w := by
  unfold GStep at h
  unfold GStepR
  split
  · rename_i hw
    rw [if_pos hw] at h
    refine Oper.wp_mono ?_ h
    rintro a' w' ⟨v, h1, h2, h3⟩
    exact ⟨v, h1, ⟨only_of_below h2 _, fun _ => h2⟩, h3⟩
  · rename_i hw
    rw [if_neg hw] at h
    exact h
/-- the step that turns the block -/
theorem GStepR.run {P : Program} {ops : Array Oper} {S : Nat → GSpec} {Q : Exit → Act → World → Prop} {o : Oper} {a : Act} {w : World} (hw : Region.wanted o (yielded ops a.tmps) = true) {v : Value} {w' : World} (hr : (execOp a.eval o).run P w = .ok (.value v) w') (hg : w.grownBy w' rw) (hp : (S i0).p v w') : GStepR rw i0 P ops S Q i0 o a w := by
  unfold GStepR
  rw [if_pos hw]
  unfold Oper.wp
  rw [hr]
  exact ⟨v, rfl, ⟨hg, fun h => (h rfl).elim⟩, hp⟩
end
end Go.Proofs.Ytajainmldcnaeaa
namespace Go.Proofs.Ytajainmldcnaeaa
open Go.RowKit Go.Maps
set_option linter.unusedVariables false
set_option linter.unusedSimpArgs false

theorem field_reader_0 (b off : Nat) (w : World) : (Instr.fieldAt 76 (.pointer (some ⟨b, off, none⟩)) 0).run Try.prog w = .ok (.pointer (some ⟨b, off, none⟩)) w := by kernel_rfl
theorem field_reader_1 (b off : Nat) (w : World) : (Instr.fieldAt 76 (.pointer (some ⟨b, off, none⟩)) 1).run Try.prog w = .ok (.pointer (some ⟨b, off + 1, none⟩)) w := by kernel_rfl
theorem gs_add_nat {P : Program} {ops : Array Oper} {S : Nat → GSpec} {Q : Exit → Act → World → Prop} {i : Nat} {o : Oper} {a : Act} {w : World} (hw : Region.wanted o (yielded ops a.tmps) = true) (t t2 : TypeId) (x y : Operand) (ho : o.op = .binOp .add t x y t2) (p q r : Nat) (hx : a.eval x = .int .i64 p) (hy : a.eval y = .int .i64 q) (hr : p + q = r) (hr64 : r < 9223372036854775808)
    (hp : (S i).p (.int .i64 (r : Nat)) w) : GStep P ops S Q i o a w :=
  gs_bin hw _ _ _ x y ho _ _ _ hx hy (by rw [eqGuard_at_int]; rfl) (by
    have e : (p : Int) + q = r := by omega
    have e2 : IntKind.i64.wrap (r : Int) = r := by rw [IntKind.wrap_i64]; omega
    rw [binOp_add]
    simp [Op.intArith, e, e2]) hp
theorem gs_len_str {ops : Array Oper} {S : Nat → GSpec} {Q : Exit → Act → World → Prop} {i : Nat} {o : Oper} {a : Act} {w : World} (hw : Region.wanted o (yielded ops a.tmps) = true) (x : Operand) (ho : o.op = .call { callee := .builtin .len, args := #[x], argTypes := #[9] })
    (p : ByteArray) (hx : a.eval x = .string p) (hp : (S i).p (.int .i64 (p.size : Int)) w) : GStep Try.prog ops S Q i o a w :=
  gs_run hw (v := .int .i64 (p.size : Int)) (w' := w) (by
    unfold execOp
    simp only [ho, resolve, invoke, builtin, Sem.run_bind, Sem.run_pure, Result.andThen_ok, List.map_toArray, List.map_cons, List.map_nil, hx, run_len_string w 9 o.type p Try.underlying9]
    rfl) (Below.refl _ _) hp
/-- a call that turns one block, or ends in a panic -/
theorem GStepR.call_or {rw : Option Nat} {i0 : Nat} {P : Program} {ops : Array Oper} {S : Nat → GSpec} {Q : Exit → Act → World → Prop} {o : Oper} {a : Act} {w : World} (hw : Region.wanted o (yielded ops a.tmps) = true) (f : FuncId) (xs : Array Operand) (ats : Array TypeId) (ho : o.op = .call { callee := .value (.func f), args := xs, argTypes := ats })
    (hf : ∀ args w, (callFunc f args).run P w = .ok (.enter f args) w) (vs : Array Value) (hv : xs.map a.eval = vs)
    (hc : Calls P f vs w fun e w' => (∃ v, e = .returned v ∧ w.grownBy w' rw ∧ (S i0).p v w') ∨ ∃ ch, e = .panicked ch ∧ Q (.panic ch) a w') : GStepR rw i0 P ops S Q i0 o a w := by
  unfold GStepR
  rw [if_pos hw]
  unfold Oper.wp
  have hr : (execOp a.eval o).run P w = .ok (.enter f vs) w := by
    have he : execOp a.eval o = callFunc f (#[] ++ xs.map a.eval ++ #[]) := by
      unfold execOp; rw [ho]; rfl
    rw [he, hv]
    simpa using hf vs w
  rw [hr, Oper.upon_enter]
  refine hc.mono ?_
  rintro e w' (⟨v, rfl, hb, hp⟩ | ⟨ch, rfl, hq⟩)
  · exact ⟨v, rfl, ⟨hb, fun h => (h rfl).elim⟩, hp⟩
  · exact hq
theorem Turn.one {g : Nat} {w w' : World} (h : Turn g (g + 1) w w') : w.grownBy w' (some g) := ⟨h.os, h.tape, h.output, h.size, fun k hk hn => h.block k hk (by
  rcases Nat.lt_trichotomy k g with h1 | h1 | h1
  · exact .inl h1
  · exact absurd (by rw [h1]) hn
  · exact .inr h1)⟩
theorem Turn.of_one {g : Nat} {w w' : World} (h : w.grownBy w' (some g)) : Turn g (g + 1) w w' := ⟨h.os, h.tape, h.output, h.size, fun k hk hn => h.block k hk (fun e => by injection e with e; omega)⟩
/-- what a reader's item hands back, and where the reader stands then -/
def rdS (g : Nat) (p : ByteArray) (y : Value) (k : Nat) (r : Prop) : GSpec := ⟨fun v w => r → v = y ∧ Blk w g 76 (rdC p k), fun v w w' h hB hr => ⟨(h hr).1, blk_then (h hr).2 hB⟩⟩
theorem enter_item (args : Array Value) (w : World) : (callFunc 90 args).run Try.prog w = .ok (.enter 90 args) w := by kernel_rfl
/-- an operation that never answers -/
def noS : GSpec := ⟨fun _ _ => False, fun _ _ _ h _ => h⟩
theorem wl_sets2 {ops : Array Oper} {rest : List Oper} {o : Oper} {a : Act} {w : World} {Q : Exit → Act → World → Prop} (hgd : o.guard = none) (x y : Operand) (ho : o.op = .buildSlice 123 2 #[(0, x), (1, y)]) (p q : BSet) (hx : a.eval x = .agg (setC p)) (hy : a.eval y = .agg (setC q))
    (h : wpList Try.prog ops Q rest (a.put o.dst (.slice (some ⟨w.heap.size, 0, none⟩) 2 2)) (w.alloc (.cells (setC p ++ setC q) 24))) : wpList Try.prog ops Q (o :: rest) a w :=
  wpList_plain hgd fun _ hK => by
    have e : (#[(0, x), (1, y)] : Array (Nat × Operand)).map (fun (i, x) => (i, a.eval x)) = #[(0, .agg (setC p)), (1, .agg (setC q))] := by simp [hx, hy]
    unfold Oper.wp execOp
    simp only [ho, e, Sem.run_bind, build_sets2, Result.andThen_ok, Sem.run_pure]
    exact hK _ _ h
theorem ofB_one (b : UInt8) : ofB [b] = bit b.toNat := by simp [ofB]
theorem rd_cell {g : Nat} {p : ByteArray} {i : Nat} {w w' : World} (h : Blk w g 76 (rdC p i)) (hB : Below w.heap.size w w') : w'.cell? ⟨g, 0, none⟩ = some (.string p) ∧ w'.cell? ⟨g, 0 + 1, none⟩ = some (.int .i64 (i : Int)) := ⟨(blk_then h hB).cellv rfl, (blk_then h hB).cellv rfl⟩
end Go.Proofs.Ytajainmldcnaeaa
namespace Go.Proofs.Ytajainmldcnaeaa
open Go.RowKit Go.Maps
set_option linter.unusedVariables false
set_option linter.unusedSimpArgs false
attribute [local go_sem] Oper.semAt_some

set_option maxRecDepth 100000 in
set_option maxHeartbeats 4000000 in
theorem item_any (g : Nat) (p : ByteArray) (i s : Nat) (w : World) (hP : Blk w g 76 (rdC p i)) (hi : i < p.size) (hp : p.size ≤ 1024) (hM : Mx w) :
    Calls Try.prog 90 #[.pointer (some ⟨g, 0, none⟩), .int .i64 (s : Int)] w fun e w' => RdAns g p w (fun x : BSet => .agg (setC x)) (Ere.itemR p s i) e w' := by
  obtain ⟨r, hr0⟩ : ∃ r, Ere.itemR p s i = r := ⟨_, rfl⟩
  rw [hr0]
  have hR := hr0
  unfold Ere.itemR at hR
  obtain ⟨rc, hrc⟩ : ∃ r, Ere.classR p s i = r := ⟨_, rfl⟩
  obtain ⟨b91, b91_e⟩ : ∃ b, Ere.isAt p i 91 = b := ⟨_, rfl⟩
  obtain ⟨j, hj⟩ : ∃ j, j = i + 1 := ⟨_, rfl⟩
  have hj2 : i + 2 = j + 1 := by omega
  have hj3 : i + 3 = j + 2 := by omega
  rw [hj2, hj3, ← hj] at hR
  obtain ⟨b58, b58_e⟩ : ∃ b, Ere.isAt p j 58 = b := ⟨_, rfl⟩
  obtain ⟨bo, bo_e⟩ : ∃ b, Ere.oneOf p j [46, 61] = b := ⟨_, rfl⟩
  obtain ⟨b45, b45_e⟩ : ∃ b, Ere.isAt p j 45 = b := ⟨_, rfl⟩
  obtain ⟨b93, b93_e⟩ : ∃ b, Ere.isAt p (j + 1) 93 = b := ⟨_, rfl⟩
  obtain ⟨bge, bge_e⟩ : ∃ b, decide (p.size ≤ j + 1) = b := ⟨_, rfl⟩
  obtain ⟨bp, bp_e⟩ : ∃ b, Ere.oneOf p (j + 2) [58, 46, 61] = b := ⟨_, rfl⟩
  have hge := Lib.hid (show decide (((p.size : Nat) : Int) ≤ ((j + 1 : Nat) : Int)) = bge by rw [← bge_e]; congr 1; simp only [eq_iff_iff]; omega)
  rw [b91_e, b58_e, bo_e, b45_e, b93_e, bge_e, bp_e, hrc] at hR
  have hKc : b58 = true → ∀ W, Blk W g 76 (rdC p i) → Mx W → Calls Try.prog 101 #[.pointer (some ⟨g, 0, none⟩), .int .i64 (s : Int)] W fun e w' => RdAns g p W (fun x : BSet => .agg (setC x)) rc e w' := fun h W hW hMW => by
    rw [← hrc]
    exact clas_any g p i s W hW (by have := Ere.isAt_lt (b58_e.trans h); omega) hp hMW
  have hch : Ere.chr p i = p[i].toNat := by unfold Ere.chr; rw [dif_pos hi]
  clear hr0 hrc
  replace hKc := Lib.hid hKc
  replace hR := Lib.hid hR
  replace hch := Lib.hid hch
  replace b91_e := Lib.hid b91_e
  replace b58_e := Lib.hid b58_e
  replace bo_e := Lib.hid bo_e
  replace b45_e := Lib.hid b45_e
  replace b93_e := Lib.hid b93_e
  replace bge_e := Lib.hid bge_e
  replace bp_e := Lib.hid bp_e
  have hT := Turn.refl g (g + 1) w
  have hgl := Lib.hid hP.lt
  have hiI : (i : Int) < p.size := by omega
  have hi0 : ¬ (i : Int) < 0 := by omega
  have hpI : (p.size : Int) ≤ 1024 := by omega
  have hjI : (i : Int) + 1 = (j : Int) := by omega
  have hjb : j ≤ 1024 := by omega
  replace hjI := Lib.hid hjI
  replace hj := Lib.hid hj
  clear hj2 hj3
  go_enter Try.func90, Try.ntmps90
  have h4 : Blk (w.alloc (.cells #[.int .u64 0, .int .u64 0, .int .u64 0, .int .u64 0] 24)) w.heap.size 24 (setC 0) := by rw [set0_eq]; exact Blk.new' _ _ _ rfl
  have hB1 : Below w.heap.size w (w.alloc (.cells #[.int .u64 0, .int .u64 0, .int .u64 0, .int .u64 0] 24)) := below_alloc (Below.refl _ _) _
  go_upto_region 1 with (fail)
  obtain ⟨w1, hw1⟩ : ∃ y, y = w.alloc (.cells #[.int .u64 0, .int .u64 0, .int .u64 0, .int .u64 0] 24) := ⟨_, rfl⟩
  rw [← hw1] at h4 hB1 ⊢
  clear hw1
  replace hP := blk_then hP hB1
  replace hT := hT.then_ hB1
  replace hM := hM.then_ hB1
  clear hB1
  obtain ⟨g4, hg4e⟩ : ∃ y, y = w.heap.size := ⟨_, rfl⟩
  rw [← hg4e] at h4 ⊢
  have hwb := Lib.hid (show w.heap.size ≤ g4 ∧ g4 ≠ g by have := hgl.out; omega)
  clear hg4e
  have c1 : w1.cell? ⟨g, 1, none⟩ = some (.int .i64 (i : Int)) := hP.cellv rfl
  have k91 := is_at g p i i 91 91 w1 hP rfl b91_e.out
  go_upto_if 14 with (go_at_call 57; refine k91.mono ?_; rintro e w2 ⟨rfl, hB⟩)
  replace hP := blk_then hP hB
  replace hT := hT.then_ hB
  replace hM := hM.then_ hB
  replace h4 := blk_then h4 hB
  clear k91 hB c1
  go_cut [] from 15 to 27 (fun wx => (b91 && b58) = false ∧ (b91 && bo) = false ∧ Below w2.heap.size w2 wx)
  case first =>
    cases b91 with
    | false =>
      go_wp2_with (fail)
      go_meet
      exact ⟨rfl, rfl, Below.refl _ _⟩
    | true =>
      have hP2 := hP
      have hT2 := hT
      have hM2 := hM
      have h42 := h4
      have k58 := is_at g p i j 58 58 w2 hP2 rfl b58_e.out
      rw [← hjI.out] at k58
      cases b58 with
      | true =>
        have hr := Lib.hid (show r = rc by rw [← hR.out]; simp)
        go_upto_region 4 with (go_at_call 57; refine k58.mono ?_; rintro e w3 ⟨rfl, hB3⟩)
        have kC := hKc.out (by trivial) w3 (blk_then hP2 hB3) (hM2.then_ hB3)
        cases rc with
        | fault e0 i0 =>
          go_wp2_with (go_at_call 101; refine kC.mono ?_; rintro e w4 ⟨hT4, hfe⟩; unfold faultE at hfe; subst hfe)
          rw [hr.out]
          exact ⟨rfl, (hT2.then_ hB3).trans hT4, rfl⟩
        | got x jx =>
          go_wp2_with (first | (go_at_call 101; refine kC.mono ?_; rintro e w4 ⟨hT4, rfl, hP4⟩; have h44 := blk_turn (blk_then h42 hB3) hT4 (by have := hwb.out; have := hgl.out; omega)) | (refine wl_store_set rfl _ _ rfl g4 _ rfl rfl _ h44 ?_; intro w5 h5 hg5))
          refine ret_set rfl rfl h5 rfl ?_
          rw [hr.out]
          exact ⟨((hT2.then_ hB3).trans hT4).grown hg5 (fun q e => by injection e with e; have := hwb.out; right; omega), rfl, hP4.grown hg5 (fun e => by injection e with e; have := hwb.out; omega)⟩
      | false =>
        go_upto_region 5 with (go_at_call 57; refine k58.mono ?_; rintro e w3 ⟨rfl, hB3⟩)
        have kO := one_any g p ⟨#[46, 61]⟩ i j w3 (blk_then hP2 hB3)
        rw [show (List.map UInt8.toNat (⟨#[46, 61]⟩ : ByteArray).data.toList) = [46, 61] from rfl, bo_e.out, ← hjI.out] at kO
        cases bo with
        | true =>
          have hr := Lib.hid (show r = .fault 43 i by rw [← hR.out]; simp)
          go_wp2_with (first | (go_at_call 81; refine kO.mono ?_; rintro e w4 ⟨rfl, hB4⟩) | (go_at_call 40; refine (give_any 43 i _).mono ?_; rintro e w5 ⟨hfe, hB5⟩; unfold faultE at hfe; subst hfe))
          rw [hr.out]
          exact ⟨rfl, ((hT2.then_ hB3).then_ hB4).then_ hB5, rfl⟩
        | false =>
          go_wp2_with (go_at_call 81; refine kO.mono ?_; rintro e w4 ⟨rfl, hB4⟩)
          go_meet
          exact ⟨rfl, rfl, below_then hB3 hB4⟩
  case rest =>
    obtain ⟨hx1, hx2, hBc⟩ := hcut
    have hR2 := hR.out
    rw [hx1, hx2] at hR2
    simp only [Bool.false_eq_true, if_false] at hR2
    replace hR2 := Lib.hid hR2
    replace hP := blk_then hP hBc
    replace hT := hT.then_ hBc
    replace h4 := blk_then h4 hBc
    clear hx1 hx2 hBc hM hKc hR
    have c0 : wc.cell? ⟨g, 0, none⟩ = some (.string p) := hP.cellv rfl
    have c1 : wc.cell? ⟨g, 1, none⟩ = some (.int .i64 (i : Int)) := hP.cellv rfl
    have f1 := hP.frozen 1
    go_upto_region 9 with (fail)
    rw [hjI.out]
    have hP2 := setRd hP (v := .int .i64 (j : Int)) (j := j) rfl
    have hT2 := turnRd hT 1 (.int .i64 (j : Int))
    have h42 := h4.far (p := ⟨g, 1, none⟩) (by have := hwb.out; simp; omega) (.int .i64 (j : Int))
    obtain ⟨w6, hw6⟩ : ∃ y, y = wc.setCell ⟨g, 1, none⟩ (.int .i64 (j : Int)) := ⟨_, rfl⟩
    rw [← hw6] at hP2 hT2 h42 ⊢
    clear hw6 c0 c1 f1 hP hT h4
    have hP := hP2
    refine wp_region_steps 29 [eqS (.pointer (some ⟨g, 0, none⟩)), eqS (.pointer (some ⟨g, 0, none⟩)), eqS (.pointer (some ⟨g, 0, none⟩)), eqS (.pointer (some ⟨g, 1, none⟩)), eqS (.int .i64 (((j : Nat) : Int))), eqS (.bool b45), eqS (.bool (!b45)), eqS (.bool (!b45)), eqS (vF (true && ((!b45) == false)) (.pointer (some ⟨g, 0, none⟩))), eqS (vF (true && ((!b45) == false)) (.pointer (some ⟨g, 0, none⟩))), eqS (vF (true && ((!b45) == false)) (.pointer (some ⟨g, 1, none⟩))), eqS (vF (true && ((!b45) == false)) (.int .i64 (((j : Nat) : Int)))), eqS (vF (true && ((!b45) == false)) (.int .i64 (((j + 1 : Nat) : Int)))), eqS (vF (true && ((!b45) == false)) (.pointer (some ⟨g, 0, none⟩))), eqS (vF (true && ((!b45) == false)) (.pointer (some ⟨g, 0, none⟩))), eqS (vF (true && ((!b45) == false)) (.pointer (some ⟨g, 0, none⟩))), eqS (vF (true && ((!b45) == false)) (.string p)), eqS (vF (true && ((!b45) == false)) (.int .i64 (((p.size : Nat) : Int)))), eqS (vF (true && ((!b45) == false)) (.bool bge)), eqS (.bool ((!b45) || bge)), eqS (.bool ((!b45) || bge)), eqS (vF (true && (((!b45) || bge) == false)) (.pointer (some ⟨g, 0, none⟩))), eqS (vF (true && (((!b45) || bge) == false)) (.pointer (some ⟨g, 0, none⟩))), eqS (vF (true && (((!b45) || bge) == false)) (.pointer (some ⟨g, 0, none⟩))), eqS (vF (true && (((!b45) || bge) == false)) (.pointer (some ⟨g, 1, none⟩))), eqS (vF (true && (((!b45) || bge) == false)) (.int .i64 (((j : Nat) : Int)))), eqS (vF (true && (((!b45) || bge) == false)) (.int .i64 (((j + 1 : Nat) : Int)))), eqS (vF (true && (((!b45) || bge) == false)) (.bool b93)), eqS (.bool (((!b45) || bge) || b93))] [41, 42, 43, 44, 45, 46, 47, 48, 49, 50, 51, 52, 53, 54, 55, 56, 57, 58, 59, 60, 61, 62, 63, 64, 65, 66, 67, 68, 69] follows_mixed (by kernel_rfl) (by kernel_rfl) ?_ ?_
    · skip
      refine Steps.cons (fun a' w' hG hB dep => gs_move (want_none rfl) _ rfl (id (hG.other 0 rfl))) ?_
      refine Steps.cons (fun a' w' hG hB dep => gs_move (want_none rfl) _ rfl (id (hG.other 0 rfl))) ?_
      refine Steps.cons (fun a' w' hG hB dep => gs_nil (want_none rfl) _ rfl _ (dep 1 rfl 42 rfl) rfl) ?_
      refine Steps.cons (fun a' w' hG hB dep => gs_field (want_none rfl) _ _ _ rfl g (0) (1) (dep 2 rfl 43 rfl) (fun wz => field_reader_1 g (0) wz) rfl) ?_
      refine Steps.cons (fun a' w' hG hB dep => gs_load1 (want_none rfl) _ _ rfl g (1) (dep 3 rfl 44 rfl) (.int .i64 (((j : Nat) : Int))) (rd_cell hP hB).2 _ Try.underlying3 rfl rfl) ?_
      refine Steps.cons (fun a' w' hG hB dep => gs_call (want_none rfl) _ _ _ rfl enter_is #[.pointer (some ⟨g, 0, none⟩), .int .i64 ((j : Nat) : Int), .int .u8 45] (map3 (dep 0 rfl 41 rfl) (dep 4 rfl 45 rfl) rfl) (ret_step (is_at g p j j 45 45 _ (blk_then hP hB) rfl b45_e) (fun _ => rfl))) ?_
      refine Steps.cons (fun a' w' hG hB dep => gs_not_bool (want_none rfl) _ _ rfl _ (dep 5 rfl 46 rfl) rfl) ?_
      refine Steps.cons (fun a' w' hG hB dep => gs_move (want_none rfl) _ rfl (id (dep 6 rfl 47 rfl))) ?_
      refine Steps.cons (fun a' w' hG hB dep => gs_guard (c := true) (b' := (!b45)) rfl rfl (dep 7 rfl 48 rfl) (fun hc he hw => gs_move hw _ rfl (Eq.trans (hG.other 0 rfl) (vF_yes (on_g hc he) _).symm)) (fun hn => vF_no hn _)) ?_
      refine Steps.cons (fun a' w' hG hB dep => gs_guard (c := true) (b' := (!b45)) rfl rfl (dep 7 rfl 48 rfl) (fun hc he hw => gs_nil hw _ rfl _ (Eq.trans (dep 8 rfl 49 rfl) (vF_yes (on_g hc he) _)) (vF_yes (on_g hc he) _).symm) (fun hn => vF_no hn _)) ?_
      refine Steps.cons (fun a' w' hG hB dep => gs_guard (c := true) (b' := (!b45)) rfl rfl (dep 7 rfl 48 rfl) (fun hc he hw => gs_field hw _ _ _ rfl g (0) (1) (Eq.trans (dep 9 rfl 50 rfl) (vF_yes (on_g hc he) _)) (fun wz => field_reader_1 g (0) wz) (vF_yes (on_g hc he) _).symm) (fun hn => vF_no hn _)) ?_
      refine Steps.cons (fun a' w' hG hB dep => gs_guard (c := true) (b' := (!b45)) rfl rfl (dep 7 rfl 48 rfl) (fun hc he hw => gs_load1 hw _ _ rfl g (1) (Eq.trans (dep 10 rfl 51 rfl) (vF_yes (on_g hc he) _)) (.int .i64 (((j : Nat) : Int))) (rd_cell hP hB).2 _ Try.underlying3 rfl (vF_yes (on_g hc he) _).symm) (fun hn => vF_no hn _)) ?_
      refine Steps.cons (fun a' w' hG hB dep => gs_guard (c := true) (b' := (!b45)) rfl rfl (dep 7 rfl 48 rfl) (fun hc he hw => gs_add_nat hw _ _ _ _ rfl j 1 (j + 1) (Eq.trans (dep 11 rfl 52 rfl) (vF_yes (on_g hc he) _)) rfl rfl (by omega) (vF_yes (on_g hc he) _).symm) (fun hn => vF_no hn _)) ?_
      refine Steps.cons (fun a' w' hG hB dep => gs_guard (c := true) (b' := (!b45)) rfl rfl (dep 7 rfl 48 rfl) (fun hc he hw => gs_move hw _ rfl (Eq.trans (hG.other 0 rfl) (vF_yes (on_g hc he) _).symm)) (fun hn => vF_no hn _)) ?_
      refine Steps.cons (fun a' w' hG hB dep => gs_guard (c := true) (b' := (!b45)) rfl rfl (dep 7 rfl 48 rfl) (fun hc he hw => gs_nil hw _ rfl _ (Eq.trans (dep 13 rfl 54 rfl) (vF_yes (on_g hc he) _)) (vF_yes (on_g hc he) _).symm) (fun hn => vF_no hn _)) ?_
      refine Steps.cons (fun a' w' hG hB dep => gs_guard (c := true) (b' := (!b45)) rfl rfl (dep 7 rfl 48 rfl) (fun hc he hw => gs_field hw _ _ _ rfl g (0) (0) (Eq.trans (dep 14 rfl 55 rfl) (vF_yes (on_g hc he) _)) (fun wz => field_reader_0 g (0) wz) (vF_yes (on_g hc he) _).symm) (fun hn => vF_no hn _)) ?_
      refine Steps.cons (fun a' w' hG hB dep => gs_guard (c := true) (b' := (!b45)) rfl rfl (dep 7 rfl 48 rfl) (fun hc he hw => gs_load1 hw _ _ rfl g (0) (Eq.trans (dep 15 rfl 56 rfl) (vF_yes (on_g hc he) _)) (.string p) (rd_cell hP hB).1 _ Try.underlying9 rfl (vF_yes (on_g hc he) _).symm) (fun hn => vF_no hn _)) ?_
      refine Steps.cons (fun a' w' hG hB dep => gs_guard (c := true) (b' := (!b45)) rfl rfl (dep 7 rfl 48 rfl) (fun hc he hw => gs_len_str hw _ rfl p (Eq.trans (dep 16 rfl 57 rfl) (vF_yes (on_g hc he) _)) (vF_yes (on_g hc he) _).symm) (fun hn => vF_no hn _)) ?_
      refine Steps.cons (fun a' w' hG hB dep => gs_guard (c := true) (b' := (!b45)) rfl rfl (dep 7 rfl 48 rfl) (fun hc he hw => gs_geq_int hw _ _ _ _ rfl _ _ _ (Eq.trans (dep 12 rfl 53 rfl) (vF_yes (on_g hc he) _)) (Eq.trans (dep 17 rfl 58 rfl) (vF_yes (on_g hc he) _)) (Eq.trans (congrArg Value.bool hge.out) (vF_yes (on_g hc he) _).symm)) (fun hn => vF_no hn _)) ?_
      refine Steps.cons (fun a' w' hG hB dep => gs_pick (want_none rfl) _ _ _ rfl (!b45) (dep 7 rfl 48 rfl) (id (pick_or2 (c := true) rfl (dep 18 rfl 59 rfl)))) ?_
      refine Steps.cons (fun a' w' hG hB dep => gs_move (want_none rfl) _ rfl (id (dep 19 rfl 60 rfl))) ?_
      refine Steps.cons (fun a' w' hG hB dep => gs_guard (c := true) (b' := ((!b45) || bge)) rfl rfl (dep 20 rfl 61 rfl) (fun hc he hw => gs_move hw _ rfl (Eq.trans (hG.other 0 rfl) (vF_yes (on_g hc he) _).symm)) (fun hn => vF_no hn _)) ?_
      refine Steps.cons (fun a' w' hG hB dep => gs_guard (c := true) (b' := ((!b45) || bge)) rfl rfl (dep 20 rfl 61 rfl) (fun hc he hw => gs_move hw _ rfl (Eq.trans (hG.other 0 rfl) (vF_yes (on_g hc he) _).symm)) (fun hn => vF_no hn _)) ?_
      refine Steps.cons (fun a' w' hG hB dep => gs_guard (c := true) (b' := ((!b45) || bge)) rfl rfl (dep 20 rfl 61 rfl) (fun hc he hw => gs_nil hw _ rfl _ (Eq.trans (dep 22 rfl 63 rfl) (vF_yes (on_g hc he) _)) (vF_yes (on_g hc he) _).symm) (fun hn => vF_no hn _)) ?_
      refine Steps.cons (fun a' w' hG hB dep => gs_guard (c := true) (b' := ((!b45) || bge)) rfl rfl (dep 20 rfl 61 rfl) (fun hc he hw => gs_field hw _ _ _ rfl g (0) (1) (Eq.trans (dep 23 rfl 64 rfl) (vF_yes (on_g hc he) _)) (fun wz => field_reader_1 g (0) wz) (vF_yes (on_g hc he) _).symm) (fun hn => vF_no hn _)) ?_
      refine Steps.cons (fun a' w' hG hB dep => gs_guard (c := true) (b' := ((!b45) || bge)) rfl rfl (dep 20 rfl 61 rfl) (fun hc he hw => gs_load1 hw _ _ rfl g (1) (Eq.trans (dep 24 rfl 65 rfl) (vF_yes (on_g hc he) _)) (.int .i64 (((j : Nat) : Int))) (rd_cell hP hB).2 _ Try.underlying3 rfl (vF_yes (on_g hc he) _).symm) (fun hn => vF_no hn _)) ?_
      refine Steps.cons (fun a' w' hG hB dep => gs_guard (c := true) (b' := ((!b45) || bge)) rfl rfl (dep 20 rfl 61 rfl) (fun hc he hw => gs_add_nat hw _ _ _ _ rfl j 1 (j + 1) (Eq.trans (dep 25 rfl 66 rfl) (vF_yes (on_g hc he) _)) rfl rfl (by omega) (vF_yes (on_g hc he) _).symm) (fun hn => vF_no hn _)) ?_
      refine Steps.cons (fun a' w' hG hB dep => gs_guard (c := true) (b' := ((!b45) || bge)) rfl rfl (dep 20 rfl 61 rfl) (fun hc he hw => gs_call hw _ _ _ rfl enter_is #[.pointer (some ⟨g, 0, none⟩), .int .i64 (((j + 1) : Nat) : Int), .int .u8 93] (map3 (Eq.trans (dep 21 rfl 62 rfl) (vF_yes (on_g hc he) _)) (Eq.trans (dep 26 rfl 67 rfl) (vF_yes (on_g hc he) _)) rfl) (ret_step (is_at g p j (j + 1) 93 93 _ (blk_then hP hB) rfl b93_e) (fun _ => (vF_yes (on_g hc he) _).symm))) (fun hn => vF_no hn _)) ?_
      refine Steps.cons (fun a' w' hG hB dep => gs_pick (want_none rfl) _ _ _ rfl ((!b45) || bge) (dep 20 rfl 61 rfl) (id (pick_or2 (c := true) rfl (dep 27 rfl 68 rfl)))) ?_
      exact Steps.nil
    intro u w7 hB7 ans
    have u69 : u 69 = .bool ((((!b45) || bge) || b93)) := ans 28 69 (by decide) rfl
    clear ans
    simp only [putAll, List.foldl_cons, List.foldl_nil, Act.put, List.setIfInBounds_toArray, List.set_cons_zero, List.set_cons_succ, u69]
    clear u69
    simp only [List.drop]
    refine wpList_nil ?_
    obtain ⟨q, hq⟩ : ∃ q, ((((!b45) || bge) || b93)) = q := ⟨_, rfl⟩
    rw [hq]
    have hP7 := blk_then hP2 hB7
    have hT7 := hT2.then_ hB7
    have h47 := blk_then h42 hB7
    have hpl := hP7.lt
    clear hB7 hP2 hT2 h42 hP
    cases q with
    | true =>
      have hr := Lib.hid (show r = .got (bit (Ere.chr p i)) j by rw [← hR2.out, if_pos hq])
      have kO := of_any (some ⟨w7.heap.size, 0, none⟩) 1 1 [p[i]] (w7.alloc (.cells #[.int .u8 ((p[i].toNat : Nat) : Int)] 5)) rfl (by unfold maxLen; omega) (bytes_of_blk (l := [p[i]]) (Blk.new w7 5 #[.int .u8 ((p[i].toNat : Nat) : Int)]))
      have hB8 := Lib.hid (below_alloc (Below.refl w7.heap.size w7) (.cells #[.int .u8 ((p[i].toNat : Nat) : Int)] 5))
      have h48 := Lib.hid (blk_then h47 hB8.out)
      replace hq := Lib.hid hq
      go_wp2_with (first | (go_at_call 82; refine kO.mono ?_; rintro e w8 ⟨rfl, hB9⟩; have h49 := blk_then h48.out hB9) | (refine wl_store_set rfl _ _ rfl g4 _ rfl rfl _ h49 ?_; intro w9 h9 hg9))
      refine ret_set rfl rfl h9 rfl ?_
      rw [hr.out, hch.out, ← ofB_one]
      exact ⟨((hT7.then_ hB8.out).then_ hB9).grown hg9 (fun q e => by injection e with e; have := hwb.out; right; omega), rfl, (blk_then (blk_then hP7 hB8.out) hB9).grown hg9 (fun e => by injection e with e; have := hwb.out; omega)⟩
    | false =>
      simp only [Bool.or_eq_false_iff, Bool.not_eq_false'] at hq
      obtain ⟨⟨hq1, hq2⟩, hq3⟩ := hq
      have hR3 := hR2.out
      rw [hq1, hq2, hq3] at hR3
      simp only [Bool.not_true, Bool.or_self, Bool.false_eq_true, if_false] at hR3
      have hj1 : j + 1 < p.size := by
        have := bge_e.out
        rw [hq2] at this
        simpa using this
      have hch2 : Ere.chr p (j + 1) = p[j + 1].toNat := by unfold Ere.chr; rw [dif_pos hj1]
      rw [hch2, hch.out] at hR3
      have hj1I : (j : Int) + 1 < p.size := by omega
      have hj10 : ¬ (j : Int) + 1 < 0 := by omega
      obtain ⟨k, hk⟩ : ∃ k, k = j + 1 := ⟨_, rfl⟩
      clear hq1 hq2 hq3 hR2 hch2
      obtain ⟨vl, hvl⟩ : ∃ v, p[i] = v := ⟨_, rfl⟩
      obtain ⟨vh, hvh⟩ : ∃ v, p[j + 1] = v := ⟨_, rfl⟩
      rw [hvl, hvh] at hR3
      replace hR3 := Lib.hid hR3
      have c0 : w7.cell? ⟨g, 0, none⟩ = some (.string p) := hP7.cellv rfl
      have c1 : w7.cell? ⟨g, 1, none⟩ = some (.int .i64 (j : Int)) := hP7.cellv rfl
      go_upto_region 11 with (fail)
      go_big_region
      rw [hvl]
      clear hvl hvh c0 c1 hj1I hj10 hk
      have hPd := hP7.drew
      have hTd := hT7.then_ ((Below.refl w7.heap.size w7).drew)
      have h4d := h47.drew
      obtain ⟨w8, hw8⟩ : ∃ y, y = w7.drew := ⟨_, rfl⟩
      rw [← hw8] at hPd hTd h4d ⊢
      clear hw8 hP7 hT7 h47
      have hvl8 : vl.toNat < 256 := vl.toNat_lt
      have hvh8 : vh.toNat < 256 := vh.toNat_lt
      have c1 : w8.cell? ⟨g, 1, none⟩ = some (.int .i64 (j : Int)) := hPd.cellv rfl
      by_cases h1 : vh.toNat < vl.toNat
      · have h1I : ((vh.toNat : Nat) : Int) < ((vl.toNat : Nat) : Int) := by omega
        have hr := Lib.hid (show r = .fault 43 i by rw [← hR3.out, decide_eq_true h1]; simp)
        go_wp2_with (go_at_call 40; refine (give_any 43 i _).mono ?_; rintro e w9 ⟨hfe, hB9⟩; unfold faultE at hfe; subst hfe)
        rw [hr.out]
        exact ⟨rfl, hTd.then_ hB9, rfl⟩
      · have h1I : ¬ ((vh.toNat : Nat) : Int) < ((vl.toNat : Nat) : Int) := by omega
        by_cases h2 : vh.toNat = 91
        · have h2I : ((((vh.toNat : Nat) : Int)) == 91) = true := by rw [beq_iff_eq]; omega
          have kO := one_any g p ⟨#[58, 46, 61]⟩ j (j + 2) w8 hPd
          rw [show (List.map UInt8.toNat (⟨#[58, 46, 61]⟩ : ByteArray).data.toList) = [58, 46, 61] from rfl, bp_e.out, show (((j + 2 : Nat)) : Int) = (j : Int) + 2 by omega] at kO
          cases bp with
          | true =>
            have hr := Lib.hid (show r = .fault 43 i by rw [← hR3.out, decide_eq_true h2]; simp)
            replace h2 := Lib.hid h2
            go_wp2_with (first | (go_at_call 81; refine kO.mono ?_; rintro e w9 ⟨rfl, hB9⟩) | (go_at_call 40; refine (give_any 43 i _).mono ?_; rintro e w10 ⟨hfe, hB10⟩; unfold faultE at hfe; subst hfe))
            rw [hr.out]
            exact ⟨rfl, (hTd.then_ hB9).then_ hB10, rfl⟩
          | false =>
            have hr := Lib.hid (show r = .got (spanB vl.toNat vh.toNat) (j + 2) by rw [← hR3.out, decide_eq_false h1]; simp)
            replace h2 := Lib.hid h2
            go_upto_region 14 with (go_at_call 81; refine kO.mono ?_; rintro e w9 ⟨rfl, hB9⟩)
            have hP9 := blk_then hPd hB9
            have hT9 := hTd.then_ hB9
            have h49 := blk_then h4d hB9
            clear hPd hTd h4d c1 hB9
            have c1 : w9.cell? ⟨g, 1, none⟩ = some (.int .i64 (j : Int)) := hP9.cellv rfl
            have f1 := hP9.frozen 1
            go_upto_region 15 with (fail)
            have hP2 := setRd hP9 (v := .int .i64 ((j : Int) + 2)) (j := j + 2) (by congr 1)
            have hT2 := turnRd hT9 1 (.int .i64 ((j : Int) + 2))
            have h42 := h49.far (p := ⟨g, 1, none⟩) (by have := hwb.out; simp; omega) (.int .i64 ((j : Int) + 2))
            obtain ⟨w6, hw6⟩ : ∃ y, y = w9.setCell ⟨g, 1, none⟩ (.int .i64 ((j : Int) + 2)) := ⟨_, rfl⟩
            rw [← hw6] at hP2 hT2 h42 ⊢
            clear hw6 c1 f1 hP9 hT9 h49
            have kS := span_any vl.toNat vh.toNat w6 hvl8 hvh8
            go_wp2_with (first | (go_at_call 102; refine kS.mono ?_; rintro e w7 ⟨rfl, hB7⟩; have h47 := blk_then h42 hB7) | (refine wl_store_set rfl _ _ rfl g4 _ rfl rfl _ h47 ?_; intro wz hz hgz))
            refine ret_set rfl rfl hz rfl ?_
            rw [hr.out]
            exact ⟨(hT2.then_ hB7).grown hgz (fun q e => by injection e with e; have := hwb.out; right; omega), rfl, (blk_then hP2 hB7).grown hgz (fun e => by injection e with e; have := hwb.out; omega)⟩
        · have h2I : ((((vh.toNat : Nat) : Int)) == 91) = false := by rw [beq_eq_false_iff_ne]; omega
          have hr := Lib.hid (show r = .got (spanB vl.toNat vh.toNat) (j + 2) by rw [← hR3.out, decide_eq_false h1, decide_eq_false h2]; simp)
          replace h2 := Lib.hid h2
          obtain ⟨w9, hw9⟩ : ∃ y, y = w8 := ⟨_, rfl⟩
          have hB9 : Below w8.heap.size w8 w9 := by rw [hw9]; exact Below.refl _ _
          go_upto_region 14 with (fail)
          rw [← hw9]
          clear hw9
          have hP9 := blk_then hPd hB9
          have hT9 := hTd.then_ hB9
          have h49 := blk_then h4d hB9
          clear hPd hTd h4d c1 hB9
          have c1 : w9.cell? ⟨g, 1, none⟩ = some (.int .i64 (j : Int)) := hP9.cellv rfl
          have f1 := hP9.frozen 1
          go_upto_region 15 with (fail)
          have hP2 := setRd hP9 (v := .int .i64 ((j : Int) + 2)) (j := j + 2) (by congr 1)
          have hT2 := turnRd hT9 1 (.int .i64 ((j : Int) + 2))
          have h42 := h49.far (p := ⟨g, 1, none⟩) (by have := hwb.out; simp; omega) (.int .i64 ((j : Int) + 2))
          obtain ⟨w6, hw6⟩ : ∃ y, y = w9.setCell ⟨g, 1, none⟩ (.int .i64 ((j : Int) + 2)) := ⟨_, rfl⟩
          rw [← hw6] at hP2 hT2 h42 ⊢
          clear hw6 c1 f1 hP9 hT9 h49
          have kS := span_any vl.toNat vh.toNat w6 hvl8 hvh8
          go_wp2_with (first | (go_at_call 102; refine kS.mono ?_; rintro e w7 ⟨rfl, hB7⟩; have h47 := blk_then h42 hB7) | (refine wl_store_set rfl _ _ rfl g4 _ rfl rfl _ h47 ?_; intro wz hz hgz))
          refine ret_set rfl rfl hz rfl ?_
          rw [hr.out]
          exact ⟨(hT2.then_ hB7).grown hgz (fun q e => by injection e with e; have := hwb.out; right; omega), rfl, (blk_then hP2 hB7).grown hgz (fun e => by injection e with e; have := hwb.out; omega)⟩
end Go.Proofs.Ytajainmldcnaeaa
namespace Go.Proofs.Ytajainmldcnaeaa
open Go.RowKit Go.Maps
set_option linter.unusedVariables false
set_option linter.unusedSimpArgs false
attribute [local go_sem] Oper.semAt_some

namespace Ere
theorem classR_fwd {p : ByteArray} {s i j : Nat} {x : BSet} (h : classR p s i = .got x j) : i < j ∧ j ≤ p.size := by
  unfold classR at h
  split at h
  · cases h
  · rename_i k hk
    obtain ⟨h1, h2, _⟩ := endAt_some p p.size (i + 2) k hk
    have := h2.1
    split at h
    · cases h
    · injection h with _ h
      omega
theorem itemR_fwd {p : ByteArray} {s i j : Nat} {x : BSet} (h : itemR p s i = .got x j) (hi : i < p.size) : i < j ∧ j ≤ p.size := by
  unfold itemR at h
  split at h
  · exact classR_fwd h
  · split at h
    · cases h
    · split at h
      · injection h with _ h; omega
      · rename_i h1 h2 h3
        split at h
        · cases h
        · injection h with _ h
          simp only [Bool.or_eq_true, Bool.not_eq_true', decide_eq_true_eq, not_or] at h3
          omega
theorem itemsR_fwd {p : ByteArray} {s : Nat} : ∀ n first i x y j, itemsR p s n first i x = .got y j → i ≤ j ∧ j < p.size
  | 0, _, _, _, _, _, h => by cases h
  | n + 1, first, i, x, y, j, h => by
    unfold itemsR at h
    split at h
    · rename_i h1
      injection h with _ h
      simp only [Bool.and_eq_true] at h1
      have := isAt_lt h1.2
      omega
    · split at h
      · cases h
      · cases ht : itemR p s i with
        | fault e k => rw [ht] at h; cases h
        | got t k =>
          rw [ht] at h
          have h1 := itemR_fwd ht (by omega)
          have h2 := itemsR_fwd n false k (x ||| t) y j h
          omega
end Ere
theorem joinL_two (x y : BSet) : joinL [x, y] = x ||| y := by simp [joinL]
set_option maxRecDepth 100000 in
set_option maxHeartbeats 4000000 in
theorem rset_any (g : Nat) (p : ByteArray) (i s : Nat) (w : World) (hP : Blk w g 76 (rdC p i)) (hi : i ≤ p.size) (hp : p.size ≤ 1024) (hM : Mx w) (h0 : 0 < g) :
    Calls Try.prog 78 #[.pointer (some ⟨g, 0, none⟩), .int .i64 (s : Int)] w fun e w' => NdAns g p w w.heap.size (Ere.setR p s i) e w' := by
  obtain ⟨r, hr0⟩ : ∃ r, Ere.setR p s i = r := ⟨_, rfl⟩
  rw [hr0]
  have hR := hr0
  unfold Ere.setR at hR
  obtain ⟨b94, b94_e⟩ : ∃ b, Ere.isAt p i 94 = b := ⟨_, rfl⟩
  rw [b94_e] at hR
  obtain ⟨i0, hi0e⟩ : ∃ k, (if b94 = true then i + 1 else i) = k := ⟨_, rfl⟩
  rw [hi0e] at hR
  have hi0 : i0 ≤ p.size := by
    rw [← hi0e]
    split
    · rename_i h
      have := Ere.isAt_lt (b94_e.trans h)
      omega
    · exact hi
  obtain ⟨rs, hrs⟩ : ∃ r, Ere.itemsR p s (p.size + 2) true i0 0 = r := ⟨_, rfl⟩
  rw [hrs] at hR
  clear hr0
  replace hR := Lib.hid hR
  replace b94_e := Lib.hid b94_e
  replace hi0e := Lib.hid hi0e
  replace hrs := Lib.hid hrs
  have hT := Turn.refl g (g + 1) w
  have hgl := Lib.hid hP.lt
  have hpI : (p.size : Int) ≤ 1024 := by omega
  have hiI : (i : Int) ≤ 1024 := by omega
  go_enter Try.func78, Try.ntmps78
  have h4 : Blk (w.alloc (.cells zeroC 27)) w.heap.size 27 zeroC := Blk.new' _ _ _ rfl
  have hB1 : Below w.heap.size w (w.alloc (.cells zeroC 27)) := below_alloc (Below.refl _ _) _
  unfold zeroC at h4 hB1
  go_upto_region 1 with (fail)
  obtain ⟨w1, hw1⟩ : ∃ y, y = w.alloc (.cells zeroC 27) := ⟨_, rfl⟩
  unfold zeroC at hw1
  rw [← hw1] at h4 hB1 ⊢
  clear hw1
  replace hP := blk_then hP hB1
  replace hT := hT.then_ hB1
  replace hM := hM.then_ hB1
  clear hB1
  obtain ⟨g4, hg4e⟩ : ∃ y, y = w.heap.size := ⟨_, rfl⟩
  have hwb := Lib.hid (show w.heap.size ≤ g4 ∧ g4 ≠ g ∧ 0 < g ∧ g < w.heap.size by have := hgl.out; omega)
  rw [← hg4e] at h4 ⊢
  clear hg4e h0
  have c1 : w1.cell? ⟨g, 1, none⟩ = some (.int .i64 (i : Int)) := hP.cellv rfl
  have k94 := is_at g p i i 94 94 w1 hP rfl b94_e.out
  go_upto_if 14 with (go_at_call 57; refine k94.mono ?_; rintro e w2 ⟨rfl, hB⟩)
  replace hP := blk_then hP hB
  replace hT := hT.then_ hB
  replace hM := hM.then_ hB
  replace h4 := blk_then h4 hB
  clear k94 hB c1
  go_cut [] from 15 to 21 (fun wx => Turn g (g + 1) w2 wx ∧ Blk wx g 76 (rdC p i0))
  case first =>
    cases b94 with
    | false =>
      go_wp2_with (fail)
      go_meet
      have e := hi0e.out
      simp only [Bool.false_eq_true, if_false] at e
      subst e
      exact ⟨Turn.refl _ _ _, hP⟩
    | true =>
      have e := hi0e.out
      simp only [if_true] at e
      replace e := Lib.hid e
      have c1 : w2.cell? ⟨g, 1, none⟩ = some (.int .i64 (i : Int)) := hP.cellv rfl
      have f1 := hP.frozen 1
      go_wp2_with (fail)
      go_meet
      rw [← e.out]
      exact ⟨turnRd (Turn.refl _ _ _) 1 _, setRd hP (by congr 1)⟩
  case rest =>
    obtain ⟨hTc, hPc⟩ := hcut
    replace hT := hT.trans hTc
    replace hM := hM.turn hTc hwb.out.2.2.1
    replace h4 := blk_turn h4 hTc (by have := hwb.out; omega)
    clear hTc hP
    have hP := hPc
    clear hPc
    go_upto_region 5 with (fail)
    have h6 : Blk (wc.alloc (.cells #[.int .u64 0, .int .u64 0, .int .u64 0, .int .u64 0] 24)) wc.heap.size 24 (setC 0) := by rw [set0_eq]; exact Blk.new' _ _ _ rfl
    have hB3 : Below wc.heap.size wc (wc.alloc (.cells #[.int .u64 0, .int .u64 0, .int .u64 0, .int .u64 0] 24)) := below_alloc (Below.refl _ _) _
    obtain ⟨w3, hw3⟩ : ∃ y, y = wc.alloc (.cells #[.int .u64 0, .int .u64 0, .int .u64 0, .int .u64 0] 24) := ⟨_, rfl⟩
    rw [← hw3] at h6 hB3 ⊢
    clear hw3
    replace hP := blk_then hP hB3
    have hgw3 := hT.size
    replace hT := hT.then_ hB3
    replace hM := hM.then_ hB3
    have h4l := h4.lt
    replace h4 := blk_then h4 hB3
    obtain ⟨g6, hg6e⟩ : ∃ y, y = wc.heap.size := ⟨_, rfl⟩
    rw [← hg6e] at h6 ⊢
    have hw6 := Lib.hid (show w.heap.size ≤ g6 ∧ g6 ≠ g ∧ g6 ≠ g4 by have := hwb.out; omega)
    clear hg6e hB3 hgw3 h4l
    go_wp2_with (fail)
    go_loopw [7] (fun mv wr => ∃ (m j : Nat) (x : BSet), mv = .int .i64 m ∧ m ≤ j ∧ j ≤ p.size ∧ Turn g (g + 1) w wr ∧ Mx wr ∧ Blk wr g 76 (rdC p j) ∧ Blk wr g4 27 #[.int .i64 0, .int .u64 0, .int .u64 0, .int .u64 0, .int .u64 0, .slice none 0 0, .int .i64 0, .int .i64 0] ∧ Blk wr g6 24 (setC x) ∧ rs = Ere.itemsR p s (p.size + 2 - m) (decide (m = 0)) j x) (fun mv _ => p.size + 2 - (intOf mv).toNat)
    case atStart => exact ⟨0, i0, 0, rfl, by omega, hi0, hT, hM, hP, h4, h6, hrs.out.symm⟩
    case round =>
      clear hT hM hP h4 h6
      obtain ⟨m, j, x, rfl, hmj, hjp, hT, hM, hP, h4, h6, hit⟩ := hrel
      have hfu : p.size + 2 - m = (p.size + 2 - (m + 1)) + 1 := by omega
      rw [hfu] at hit
      unfold Ere.itemsR at hit
      obtain ⟨b93, b93_e⟩ : ∃ b, Ere.isAt p j 93 = b := ⟨_, rfl⟩
      rw [b93_e] at hit
      replace hit := Lib.hid hit
      replace hfu := Lib.hid hfu
      have c1 : wr.cell? ⟨g, 1, none⟩ = some (.int .i64 (j : Int)) := hP.cellv rfl
      have k93 := is_at g p j j 93 93 wr hP rfl b93_e
      replace b93_e := Lib.hid b93_e
      have hjI : (j : Int) ≤ 1024 := by omega
      have hmI : (m : Int) ≤ 1024 := by omega
      by_cases hex : (!decide (m = 0) && b93) = true
      · simp only [Bool.and_eq_true, Bool.not_eq_true', decide_eq_false_iff_not] at hex
        obtain ⟨hm0, rfl⟩ := hex
        have hm0I : ((m : Int) == 0) = false := by simpa using hm0
        have hrs2 := hit.out
        rw [decide_eq_false hm0] at hrs2
        simp only [Bool.not_false, Bool.true_and, if_true] at hrs2
        have hr := hR.out
        rw [hrs2] at hr
        simp only [Ere.Res.bind] at hr
        replace hr := Lib.hid hr
        clear hrs2 hit
        have hjlt : j < p.size := Ere.isAt_lt b93_e.out
        go_upto_region 11 with (go_at_call 57; refine k93.mono ?_; rintro e w4 ⟨rfl, hB⟩)
        replace hT := hT.then_ hB
        replace hP := blk_then hP hB
        replace h4 := blk_then h4 hB
        replace h6 := blk_then h6 hB
        clear k93 c1 hB
        have c1 : w4.cell? ⟨g, 1, none⟩ = some (.int .i64 (j : Int)) := hP.cellv rfl
        have f1 := hP.frozen 1
        go_upto_if 53 with (fail)
        have hP2 := setRd hP (v := .int .i64 ((j : Int) + 1)) (j := j + 1) (by congr 1)
        have hT2 := turnRd hT 1 (.int .i64 ((j : Int) + 1))
        have h42 := h4.far (p := ⟨g, 1, none⟩) (by have := hwb.out; simp; omega) (.int .i64 ((j : Int) + 1))
        have h62 := h6.far (p := ⟨g, 1, none⟩) (by have := hw6.out; simp; omega) (.int .i64 ((j : Int) + 1))
        obtain ⟨w5, hw5⟩ : ∃ y, y = w4.setCell ⟨g, 1, none⟩ (.int .i64 ((j : Int) + 1)) := ⟨_, rfl⟩
        rw [← hw5] at hP2 hT2 h42 h62 ⊢
        clear hw5 c1 f1 hP hT h4 h6
        have fin : ∀ (x' : BSet) (W : World), Turn g (g + 1) w W → Blk W g 76 (rdC p (j + 1)) → Blk W g4 27 #[.int .i64 0, .int .u64 0, .int .u64 0, .int .u64 0, .int .u64 0, .slice none 0 0, .int .i64 0, .int .i64 0] → ∀ W', Below W.heap.size W W' → Turn g (g + 1) w W' ∧ Blk W' g 76 (rdC p (j + 1)) ∧ Blk W' g4 27 #[.int .i64 0, .int .u64 0, .int .u64 0, .int .u64 0, .int .u64 0, .slice none 0 0, .int .i64 0, .int .i64 0] := fun x' W a b c W' hB => ⟨a.then_ hB, blk_then b hB, blk_then c hB⟩
        replace fin := Lib.hid fin
        cases b94 with
        | false =>
          have kS := nset_any x w5
          go_wp2_with (first | (refine wl_load_set rfl _ rfl g6 rfl _ h62 ?_) | (go_at_call 79; refine kS.mono ?_; rintro e w6 ⟨rfl, hB6⟩; have h46 := blk_then h42 hB6) | (refine wl_store_nv rfl _ _ rfl g4 (NV.mk 2 (x &&& notB 0) none 0 0 0 0) rfl rfl _ rfl h46 ?_; intro w7 h7 hg7))
          refine ret_nv rfl rfl h7 rfl ?_
          rw [← hr.out]
          simp only [Bool.false_eq_true, if_false]
          exact ⟨(hT2.then_ hB6).grown hg7 (fun q e => by injection e with e; have := hwb.out; right; omega), (blk_then hP2 hB6).grown hg7 (fun e => by injection e with e; have := hwb.out; omega), _, [], rfl, NdO.leaf _ _ _ _ _ _⟩
        | true =>
          have kN := not_any x w5
          go_upto_region 14 with (first | (refine wl_load_set rfl _ rfl g6 rfl _ h62 ?_) | (go_at_call 80; refine kN.mono ?_; rintro e w6 ⟨rfl, hB6⟩; have h66 := blk_then h62 hB6) | (refine wl_store_set rfl _ _ rfl g6 _ rfl rfl _ h66 ?_; intro w7 h67 hg7))
          have hT7 := (hT2.then_ hB6).grown hg7 (fun q e => by injection e with e; have := hw6.out; right; omega)
          have hP7 := (blk_then hP2 hB6).grown hg7 (fun e => by injection e with e; have := hw6.out; omega)
          have h47 := (blk_then h42 hB6).grown hg7 (fun e => by injection e with e; have := hw6.out; omega)
          clear h66 hB6 hg7 kN h62 h42
          have kS := nset_any (notB x) w7
          go_wp2_with (first | (refine wl_load_set rfl _ rfl g6 rfl _ h67 ?_) | (go_at_call 79; refine kS.mono ?_; rintro e w8 ⟨rfl, hB8⟩; have h48 := blk_then h47 hB8) | (refine wl_store_nv rfl _ _ rfl g4 (NV.mk 2 (notB x &&& notB 0) none 0 0 0 0) rfl rfl _ rfl h48 ?_; intro w9 h9 hg9))
          refine ret_nv rfl rfl h9 rfl ?_
          rw [← hr.out]
          simp only [if_true]
          exact ⟨(hT7.then_ hB8).grown hg9 (fun q e => by injection e with e; have := hwb.out; right; omega), (blk_then hP7 hB8).grown hg9 (fun e => by injection e with e; have := hwb.out; omega), _, [], rfl, NdO.leaf _ _ _ _ _ _⟩
      · have hrs2 := hit.out
        rw [if_neg hex] at hrs2
        have hgo : (m = 0 ∧ True) ∨ (m ≠ 0 ∧ b93 = false) := by
          by_cases e : m = 0
          · exact .inl ⟨e, trivial⟩
          · right
            refine ⟨e, ?_⟩
            cases b93
            · rfl
            · exact absurd (by simp [e]) hex
        replace hrs2 := Lib.hid hrs2
        have hmj2 := Lib.hid hmj
        clear hit hex
        rcases hgo with ⟨hm0, -⟩ | ⟨hm0, rfl⟩
        · have hm0I : ((m : Int) == 0) = true := by simpa using hm0
          replace hm0 := Lib.hid hm0
          clear k93
          go_upto_region 8 with (fail)
          have hB : Below wr.heap.size wr wr := Below.refl _ _
          obtain ⟨wq, hwq⟩ : ∃ y, y = wr := ⟨_, rfl⟩
          have hBq : Below wr.heap.size wr wq := by rw [hwq]; exact hB
          rw [← hwq]
          clear hwq hB
          replace hT := hT.then_ hBq
          replace hM := hM.then_ hBq
          replace hP := blk_then hP hBq
          replace h4 := blk_then h4 hBq
          replace h6 := blk_then h6 hBq
          clear hBq c1
          have kM := more_any g p j wq hP
          by_cases hjs : j < p.size
          · rw [decide_eq_true hjs] at kM
            have hrs3 := hrs2.out
            rw [if_neg (by omega)] at hrs3
            go_upto_region 10 with (go_at_call 66; refine kM.mono ?_; rintro e w4 ⟨rfl, hB⟩)
            replace hT := hT.then_ hB
            replace hM := hM.then_ hB
            replace hP := blk_then hP hB
            replace h4 := blk_then h4 hB
            replace h6 := blk_then h6 hB
            clear hB kM
            obtain ⟨ri, hri⟩ : ∃ r, Ere.itemR p s j = r := ⟨_, rfl⟩
            have kI : ∀ W, Blk W g 76 (rdC p j) → Mx W → Calls Try.prog 90 #[.pointer (some ⟨g, 0, none⟩), .int .i64 (s : Int)] W fun e w' => RdAns g p W (fun x : BSet => .agg (setC x)) ri e w' := fun W hW hMW => by rw [← hri]; exact item_any g p j s W hW hjs hp hMW
            have hfw := fun (y : BSet) (k : Nat) (e : ri = .got y k) => Ere.itemR_fwd (hri.trans e) hjs
            rw [hri] at hrs3
            clear hri
            replace hrs3 := Lib.hid hrs3
            replace hfw := Lib.hid hfw
            replace hjs := Lib.hid hjs
            have hI := kI w4 hP hM
            have hId := kI w4.drew hP.drew (hM.then_ (Below.refl w4.heap.size w4).drew)
            replace kI := Lib.hid kI
            cases ri with
            | fault e0 k0 =>
              have hr := hR.out
              rw [hrs3.out] at hr
              simp only [Ere.Res.bind] at hr
              replace hr := Lib.hid hr
              refine wp_region_stepsR (rw := some g) (i0 := 3) 4 [eqS (.agg (setC x)), eqS (.pointer (some ⟨g, 0, none⟩)), eqS (.int .i64 (s : Int)), noS] [40, 41, 42, 43] follows_mixed ?_ (by kernel_rfl) rfl ?_ ?_
              · intro q hq v W W' hs _
                match q, hq with
                | 0, _ => exact hs
                | 1, _ => exact hs
                | 2, _ => exact hs
                | q + 4, _ => exact trivial
              · refine StepsR.cons (fun a' w' hG hB hp dep => GStepR.of (gs_load_set_at (want_none rfl) _ rfl g6 0 (hG.other 6 rfl) x (RowAt.of_blk (h6.grown hB (fun e => hw6.out.2.1 (by injection e)))) rfl)) ?_
                refine StepsR.cons (fun a' w' hG hB hp dep => GStepR.of (gs_move (want_none rfl) _ rfl (id (hG.other 0 rfl)))) ?_
                refine StepsR.cons (fun a' w' hG hB hp dep => GStepR.of (gs_move (want_none rfl) _ rfl (id (hG.other 1 rfl)))) ?_
                refine StepsR.cons (fun a' w' hG hB hp dep => GStepR.call_or (want_none rfl) _ _ _ rfl enter_item #[.pointer (some ⟨g, 0, none⟩), .int .i64 (s : Int)] (map2 (dep 1 rfl 41 rfl) (dep 2 rfl 42 rfl)) ((kI.out w' (blk_then hP (hp rfl)) (hM.then_ (hp rfl))).mono fun e w5 h => .inr ⟨_, h.2, ?_⟩)) ?_
                · refine And.intro (hG.defers : a'.defers = []) ?_
                  show NdAns g p w w.heap.size r _ w5
                  rw [← hr.out]
                  exact ⟨hT.trans ((Turn.of_one hB).trans h.1), rfl⟩
                exact StepsR.nil
              · intro u W hW ans
                exact absurd (ans 3 43 (by decide) rfl) (fun h => h)
            | got y k =>
              refine wp_region_stepsR (rw := some g) (i0 := 3) 4 [eqS (.agg (setC x)), eqS (.pointer (some ⟨g, 0, none⟩)), eqS (.int .i64 (s : Int)), rdS g p (.agg (setC y)) k True] [40, 41, 42, 43] follows_mixed ?_ (by kernel_rfl) rfl ?_ ?_
              · intro q hq v W W' hs _
                match q, hq with
                | 0, _ => exact hs
                | 1, _ => exact hs
                | 2, _ => exact hs
                | q + 4, _ => exact trivial
              · refine StepsR.cons (fun a' w' hG hB hp dep => GStepR.of (gs_load_set_at (want_none rfl) _ rfl g6 0 (hG.other 6 rfl) x (RowAt.of_blk (h6.grown hB (fun e => hw6.out.2.1 (by injection e)))) rfl)) ?_
                refine StepsR.cons (fun a' w' hG hB hp dep => GStepR.of (gs_move (want_none rfl) _ rfl (id (hG.other 0 rfl)))) ?_
                refine StepsR.cons (fun a' w' hG hB hp dep => GStepR.of (gs_move (want_none rfl) _ rfl (id (hG.other 1 rfl)))) ?_
                refine StepsR.cons (fun a' w' hG hB hp dep => GStepR.call_or (want_none rfl) _ _ _ rfl enter_item #[.pointer (some ⟨g, 0, none⟩), .int .i64 (s : Int)] (map2 (dep 1 rfl 41 rfl) (dep 2 rfl 42 rfl)) ((kI.out w' (blk_then hP (hp rfl)) (hM.then_ (hp rfl))).mono fun e w5 h => .inl ⟨_, h.2.1, h.1.one, fun _ => ⟨rfl, h.2.2⟩⟩)) ?_
                exact StepsR.nil
              intro u w5 hW ans
              have u40 : u 40 = .agg (setC x) := ans 0 40 (by decide) rfl
              have u43 := ans 3 43 (by decide) rfl trivial
              have hP5 := u43.2
              replace u43 : u 43 = .agg (setC y) := u43.1
              clear ans
              simp only [putAll, List.foldl_cons, List.foldl_nil, Act.put, List.setIfInBounds_toArray, List.set_cons_zero, List.set_cons_succ, u40, u43]
              clear u40 u43
              simp only [List.drop]
              have hTs := Turn.of_one hW
              have hT5 := hT.trans hTs
              have h45 := blk_turn h4 hTs (by have := hwb.out; omega)
              have h65 := blk_turn h6 hTs (by have := hw6.out; omega)
              have hM5 := hM.turn hTs hwb.out.2.2.1
              clear hT hM hP h4 h6 hW hTs hI hId
              have kJ := join_any (some ⟨w5.heap.size, 0, none⟩) 2 2 [x, y] (w5.alloc (.cells (setC x ++ setC y) 24)) rfl (by unfold maxLen; omega) (sets2_of x y w5)
              rw [joinL_two] at kJ
              have hB6 := below_alloc (Below.refl w5.heap.size w5) (.cells (setC x ++ setC y) 24)
              refine wl_sets2 rfl _ _ rfl x y rfl rfl ?_
              refine wl_call rfl _ _ _ rfl enter_join #[.slice (some ⟨w5.heap.size, 0, none⟩) 2 2] (map1 rfl) (kJ.mono ?_)
              rintro e w6 ⟨rfl, hB7⟩
              refine ⟨_, rfl, ?_⟩
              have hB8 := below_then hB6 hB7
              refine wl_store_set rfl _ _ rfl g6 _ rfl rfl _ (blk_then h65 hB8) ?_
              intro w7 h67 hg7
              refine wpList_nil ?_
              have hT7 := (hT5.then_ hB8).grown hg7 (fun q e => by injection e with e; have := hw6.out; right; omega)
              have hP7 := (blk_then hP5 hB8).grown hg7 (fun e => by injection e with e; have := hw6.out; omega)
              have h47 := (blk_then h45 hB8).grown hg7 (fun e => by injection e with e; have := hw6.out; omega)
              have hM7 : Mx w7 := by
                have h1 := hM5.then_ hB8
                obtain ⟨q, hq⟩ := h1
                have h0 : (0 : Nat) < w6.heap.size := by have := (blk_then hP5 hB8).lt; omega
                exact ⟨q, (World.cell?_of_block (w := w6) (hg7.block 0 h0 (fun e => by injection e with e; have := hw6.out; have := hwb.out; omega))).trans hq⟩
              have hk := hfw.out y k rfl
              have hfin : rs = Ere.itemsR p s (p.size + 2 - (m + 1)) (decide (m + 1 = 0)) k (x ||| y) := by
                rw [hrs3.out]
                simp only [Ere.Res.bind]
                rw [decide_eq_false (by omega)]
              replace hfin := Lib.hid hfin
              replace hk := Lib.hid hk
              clear hT5 hP5 h45 hM5 h65 hB6 hB7 hB8 hg7 kJ hrs3 hrs2 hfw hmj
              go_wp2_with (fail)
              have hk2 := hk.out
              exact ⟨⟨m + 1, k, x ||| y, by congr 1, by have := hmj2.out; omega, hk2.2, hT7, hM7, hP7, h47, h67, hfin.out⟩, by simp only [intOf]; have := hfu.out; omega⟩
          · rw [decide_eq_false hjs] at kM
            have hrs3 := hrs2.out
            rw [if_pos (by omega)] at hrs3
            have hr := hR.out
            rw [hrs3] at hr
            simp only [Ere.Res.bind] at hr
            replace hr := Lib.hid hr
            replace hrs3 := Lib.hid hrs3
            go_wp2_with (first | (go_at_call 66; refine kM.mono ?_; rintro e w4 ⟨rfl, hB⟩) | (go_at_call 40; refine (give_any 43 s _).mono ?_; rintro e w5 ⟨hfe, hB5⟩; unfold faultE at hfe; subst hfe))
            rw [← hr.out]
            exact ⟨rfl, (hT.then_ hB).then_ hB5, rfl⟩
        · have hm0I : ((m : Int) == 0) = false := by simpa using hm0
          replace hm0 := Lib.hid hm0
          go_upto_region 8 with (go_at_call 57; refine k93.mono ?_; rintro e wq ⟨rfl, hBq⟩)
          clear k93
          replace hT := hT.then_ hBq
          replace hM := hM.then_ hBq
          replace hP := blk_then hP hBq
          replace h4 := blk_then h4 hBq
          replace h6 := blk_then h6 hBq
          clear hBq c1
          have kM := more_any g p j wq hP
          by_cases hjs : j < p.size
          · rw [decide_eq_true hjs] at kM
            have hrs3 := hrs2.out
            rw [if_neg (by omega)] at hrs3
            go_upto_region 10 with (go_at_call 66; refine kM.mono ?_; rintro e w4 ⟨rfl, hB⟩)
            replace hT := hT.then_ hB
            replace hM := hM.then_ hB
            replace hP := blk_then hP hB
            replace h4 := blk_then h4 hB
            replace h6 := blk_then h6 hB
            clear hB kM
            obtain ⟨ri, hri⟩ : ∃ r, Ere.itemR p s j = r := ⟨_, rfl⟩
            have kI : ∀ W, Blk W g 76 (rdC p j) → Mx W → Calls Try.prog 90 #[.pointer (some ⟨g, 0, none⟩), .int .i64 (s : Int)] W fun e w' => RdAns g p W (fun x : BSet => .agg (setC x)) ri e w' := fun W hW hMW => by rw [← hri]; exact item_any g p j s W hW hjs hp hMW
            have hfw := fun (y : BSet) (k : Nat) (e : ri = .got y k) => Ere.itemR_fwd (hri.trans e) hjs
            rw [hri] at hrs3
            clear hri
            replace hrs3 := Lib.hid hrs3
            replace hfw := Lib.hid hfw
            replace hjs := Lib.hid hjs
            have hI := kI w4 hP hM
            have hId := kI w4.drew hP.drew (hM.then_ (Below.refl w4.heap.size w4).drew)
            replace kI := Lib.hid kI
            cases ri with
            | fault e0 k0 =>
              have hr := hR.out
              rw [hrs3.out] at hr
              simp only [Ere.Res.bind] at hr
              replace hr := Lib.hid hr
              refine wp_region_stepsR (rw := some g) (i0 := 3) 4 [eqS (.agg (setC x)), eqS (.pointer (some ⟨g, 0, none⟩)), eqS (.int .i64 (s : Int)), noS] [40, 41, 42, 43] follows_mixed ?_ (by kernel_rfl) rfl ?_ ?_
              · intro q hq v W W' hs _
                match q, hq with
                | 0, _ => exact hs
                | 1, _ => exact hs
                | 2, _ => exact hs
                | q + 4, _ => exact trivial
              · refine StepsR.cons (fun a' w' hG hB hp dep => GStepR.of (gs_load_set_at (want_none rfl) _ rfl g6 0 (hG.other 6 rfl) x (RowAt.of_blk (h6.grown hB (fun e => hw6.out.2.1 (by injection e)))) rfl)) ?_
                refine StepsR.cons (fun a' w' hG hB hp dep => GStepR.of (gs_move (want_none rfl) _ rfl (id (hG.other 0 rfl)))) ?_
                refine StepsR.cons (fun a' w' hG hB hp dep => GStepR.of (gs_move (want_none rfl) _ rfl (id (hG.other 1 rfl)))) ?_
                refine StepsR.cons (fun a' w' hG hB hp dep => GStepR.call_or (want_none rfl) _ _ _ rfl enter_item #[.pointer (some ⟨g, 0, none⟩), .int .i64 (s : Int)] (map2 (dep 1 rfl 41 rfl) (dep 2 rfl 42 rfl)) ((kI.out w' (blk_then hP (hp rfl)) (hM.then_ (hp rfl))).mono fun e w5 h => .inr ⟨_, h.2, ?_⟩)) ?_
                · refine And.intro (hG.defers : a'.defers = []) ?_
                  show NdAns g p w w.heap.size r _ w5
                  rw [← hr.out]
                  exact ⟨hT.trans ((Turn.of_one hB).trans h.1), rfl⟩
                exact StepsR.nil
              · intro u W hW ans
                exact absurd (ans 3 43 (by decide) rfl) (fun h => h)
            | got y k =>
              refine wp_region_stepsR (rw := some g) (i0 := 3) 4 [eqS (.agg (setC x)), eqS (.pointer (some ⟨g, 0, none⟩)), eqS (.int .i64 (s : Int)), rdS g p (.agg (setC y)) k True] [40, 41, 42, 43] follows_mixed ?_ (by kernel_rfl) rfl ?_ ?_
              · intro q hq v W W' hs _
                match q, hq with
                | 0, _ => exact hs
                | 1, _ => exact hs
                | 2, _ => exact hs
                | q + 4, _ => exact trivial
              · refine StepsR.cons (fun a' w' hG hB hp dep => GStepR.of (gs_load_set_at (want_none rfl) _ rfl g6 0 (hG.other 6 rfl) x (RowAt.of_blk (h6.grown hB (fun e => hw6.out.2.1 (by injection e)))) rfl)) ?_
                refine StepsR.cons (fun a' w' hG hB hp dep => GStepR.of (gs_move (want_none rfl) _ rfl (id (hG.other 0 rfl)))) ?_
                refine StepsR.cons (fun a' w' hG hB hp dep => GStepR.of (gs_move (want_none rfl) _ rfl (id (hG.other 1 rfl)))) ?_
                refine StepsR.cons (fun a' w' hG hB hp dep => GStepR.call_or (want_none rfl) _ _ _ rfl enter_item #[.pointer (some ⟨g, 0, none⟩), .int .i64 (s : Int)] (map2 (dep 1 rfl 41 rfl) (dep 2 rfl 42 rfl)) ((kI.out w' (blk_then hP (hp rfl)) (hM.then_ (hp rfl))).mono fun e w5 h => .inl ⟨_, h.2.1, h.1.one, fun _ => ⟨rfl, h.2.2⟩⟩)) ?_
                exact StepsR.nil
              intro u w5 hW ans
              have u40 : u 40 = .agg (setC x) := ans 0 40 (by decide) rfl
              have u43 := ans 3 43 (by decide) rfl trivial
              have hP5 := u43.2
              replace u43 : u 43 = .agg (setC y) := u43.1
              clear ans
              simp only [putAll, List.foldl_cons, List.foldl_nil, Act.put, List.setIfInBounds_toArray, List.set_cons_zero, List.set_cons_succ, u40, u43]
              clear u40 u43
              simp only [List.drop]
              have hTs := Turn.of_one hW
              have hT5 := hT.trans hTs
              have h45 := blk_turn h4 hTs (by have := hwb.out; omega)
              have h65 := blk_turn h6 hTs (by have := hw6.out; omega)
              have hM5 := hM.turn hTs hwb.out.2.2.1
              clear hT hM hP h4 h6 hW hTs hI hId
              have kJ := join_any (some ⟨w5.heap.size, 0, none⟩) 2 2 [x, y] (w5.alloc (.cells (setC x ++ setC y) 24)) rfl (by unfold maxLen; omega) (sets2_of x y w5)
              rw [joinL_two] at kJ
              have hB6 := below_alloc (Below.refl w5.heap.size w5) (.cells (setC x ++ setC y) 24)
              refine wl_sets2 rfl _ _ rfl x y rfl rfl ?_
              refine wl_call rfl _ _ _ rfl enter_join #[.slice (some ⟨w5.heap.size, 0, none⟩) 2 2] (map1 rfl) (kJ.mono ?_)
              rintro e w6 ⟨rfl, hB7⟩
              refine ⟨_, rfl, ?_⟩
              have hB8 := below_then hB6 hB7
              refine wl_store_set rfl _ _ rfl g6 _ rfl rfl _ (blk_then h65 hB8) ?_
              intro w7 h67 hg7
              refine wpList_nil ?_
              have hT7 := (hT5.then_ hB8).grown hg7 (fun q e => by injection e with e; have := hw6.out; right; omega)
              have hP7 := (blk_then hP5 hB8).grown hg7 (fun e => by injection e with e; have := hw6.out; omega)
              have h47 := (blk_then h45 hB8).grown hg7 (fun e => by injection e with e; have := hw6.out; omega)
              have hM7 : Mx w7 := by
                have h1 := hM5.then_ hB8
                obtain ⟨q, hq⟩ := h1
                have h0 : (0 : Nat) < w6.heap.size := by have := (blk_then hP5 hB8).lt; omega
                exact ⟨q, (World.cell?_of_block (w := w6) (hg7.block 0 h0 (fun e => by injection e with e; have := hw6.out; have := hwb.out; omega))).trans hq⟩
              have hk := hfw.out y k rfl
              have hfin : rs = Ere.itemsR p s (p.size + 2 - (m + 1)) (decide (m + 1 = 0)) k (x ||| y) := by
                rw [hrs3.out]
                simp only [Ere.Res.bind]
                rw [decide_eq_false (by omega)]
              replace hfin := Lib.hid hfin
              replace hk := Lib.hid hk
              clear hT5 hP5 h45 hM5 h65 hB6 hB7 hB8 hg7 kJ hrs3 hrs2 hfw hmj
              go_wp2_with (fail)
              have hk2 := hk.out
              exact ⟨⟨m + 1, k, x ||| y, by congr 1, by have := hmj2.out; omega, hk2.2, hT7, hM7, hP7, h47, h67, hfin.out⟩, by simp only [intOf]; have := hfu.out; omega⟩
          · rw [decide_eq_false hjs] at kM
            have hrs3 := hrs2.out
            rw [if_pos (by omega)] at hrs3
            have hr := hR.out
            rw [hrs3] at hr
            simp only [Ere.Res.bind] at hr
            replace hr := Lib.hid hr
            replace hrs3 := Lib.hid hrs3
            go_wp2_with (first | (go_at_call 66; refine kM.mono ?_; rintro e w4 ⟨rfl, hB⟩) | (go_at_call 40; refine (give_any 43 s _).mono ?_; rintro e w5 ⟨hfe, hB5⟩; unfold faultE at hfe; subst hfe))
            rw [← hr.out]
            exact ⟨rfl, (hT.then_ hB).then_ hB5, rfl⟩
end Go.Proofs.Ytajainmldcnaeaa
