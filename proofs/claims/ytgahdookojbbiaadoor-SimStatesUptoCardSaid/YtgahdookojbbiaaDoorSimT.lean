/- SimStates: steps on lists of states. No condition beyond those named in each lemma. -/
import Derived.Test.YtgahdookojbbiaaDoorSimR
import Derived.Deep.CutRange
namespace Go.Proofs.YtgahdookojbbiaaDoor
open Go.RowKit Go.Shelf Go.Maps
set_option linter.unusedVariables false
set_option linter.unusedSimpArgs false

theorem fits_right {N : Nat} {E : List Edg} {R : List Nat} (h : Fits N E R) : rightB (N : Int) E R.length = true := by
  unfold rightB
  rw [decide_eq_true (show (1 : Int) ≤ N by have := h.one; omega), decide_eq_true (show (R.length : Int) = N by rw [h.rules]), List.all_eq_true.2]
  · rfl
  · intro d hd
    have h1 := h.kinds d hd
    have h2 := h.fr d hd
    have h3 := h.tt d hd
    have h4 := h.sets d hd
    unfold badE inS
    rw [decide_eq_false (show ¬ d.kd < 1 by omega), decide_eq_false (show ¬ 4 < d.kd by omega), decide_eq_true h2.1, decide_eq_true h2.2, decide_eq_true h3.1, decide_eq_true h3.2]
    by_cases e : d.kd = 2
    · simp [e]
    · rw [decide_eq_true (h4 e)]
      simp
theorem begin_fit {N : Nat} (A : Option Addr) (n c0 : Nat) (B : Option Addr) (m d0 : Nat) {E : List Edg} {R : List Nat} (hf : Fits N E R) (hn : n = E.length) (hm : m = N) (hE : E.length ≤ 1099511627776) (hN : N ≤ 1099511627776) (hR : ∀ r ∈ R, r < 4294967296) (w : World)
    (hsE : SliceOf w w.heap.size 7 edgC A E) (hsR : SliceOf w w.heap.size 1 encR B R) (hT : TabOk w) :
    Calls Tryd.prog 11 #[.agg (nfaC N A n c0 B m d0)] w fun e w' => Below w.heap.size w w' ∧ ∃ gw gm lo nb, e = .returned (.tuple #[.pointer (some ⟨gw, 0, none⟩), .int .i64 0]) ∧ w.heap.size ≤ lo ∧ w.heap.size ≤ gw ∧ WalkOk lo nb w' gw gm N E R (begW E N R) := by
  have hl : R.length = N := hf.rules
  refine (begin_any N A n c0 B m d0 E R hn (hm.trans hl.symm) hE (by omega) hR w hsE hsR hT).mono ?_
  rintro e w' ⟨h1, h2⟩
  rcases h2 with ⟨h2, _⟩ | ⟨_, gw, gm, lo, nb, h2, h3, h4, h5⟩
  · rw [hm, ← hl, hl, ← hl, hl] at h2
    have := fits_right hf
    rw [hl] at this
    rw [this] at h2
    cases h2
  · rw [hl] at h5
    exact ⟨h1, gw, gm, lo, nb, h2, h3, h4, h5⟩
theorem under_ints : Tryd.prog.underlying 54 = some (.slice (Tryd.prog.elem 54)) := by kernel_rfl
theorem size_intE (w : World) : (sizeOf (Tryd.prog.elem 54)).run Tryd.prog w = .ok 1 w := by kernel_rfl
section
variable {P : Program} {ops : Array Oper} {S : Nat → GSpec} {Q : Exit → Act → World → Prop} {i : Nat} {o : Oper} {a : Act} {w : World}
theorem gs_geq_int (hw : Region.wanted o (yielded ops a.tmps) = true) (t t2 : TypeId) (x y : Operand) (ho : o.op = .binOp .geq t x y t2) (k : IntKind) (p q : Int) (hx : a.eval x = .int k p) (hy : a.eval y = .int k q)
    (hp : (S i).p (.bool (decide (q ≤ p))) w) : GStep P ops S Q i o a w :=
  gs_bin hw _ _ _ x y ho _ _ _ hx hy (by rw [eqGuard_at_int]; rfl) (by rw [binOp_geq]; rfl) hp
theorem gs_leq_int (hw : Region.wanted o (yielded ops a.tmps) = true) (t t2 : TypeId) (x y : Operand) (ho : o.op = .binOp .leq t x y t2) (k : IntKind) (p q : Int) (hx : a.eval x = .int k p) (hy : a.eval y = .int k q)
    (hp : (S i).p (.bool (decide (p ≤ q))) w) : GStep P ops S Q i o a w :=
  gs_bin hw _ _ _ x y ho _ _ _ hx hy (by rw [eqGuard_at_int]; rfl) (by rw [binOp_leq]; rfl) hp
theorem gs_sub_nat (hw : Region.wanted o (yielded ops a.tmps) = true) (t t2 : TypeId) (x y : Operand) (ho : o.op = .binOp .sub t x y t2) (p q r : Nat) (hx : a.eval x = .int .i64 p) (hy : a.eval y = .int .i64 q) (hr : r + q = p) (hp64 : p < 9223372036854775808)
    (hp : (S i).p (.int .i64 (r : Nat)) w) : GStep P ops S Q i o a w :=
  gs_bin hw _ _ _ x y ho _ _ _ hx hy (by rw [eqGuard_at_int]; rfl) (by
    have e : (p : Int) - q = r := by omega
    have e2 : IntKind.i64.wrap (r : Int) = r := by rw [IntKind.wrap_i64]; omega
    rw [binOp_sub]
    simp [Op.intArith, e, e2]) hp
end
/-- a list of states in memory -/
def intsAt (w : World) (g : Nat) (L : List Nat) : Prop := ∀ i (h : i < L.length), w.cell? ⟨g, 0 + i * 1, none⟩ = some (.int .i64 (L[i] : Nat))
theorem intsAt_own {w : World} {base g n c : Nat} {L : List Nat} (h : Own w base 3 1 encN (.slice (some ⟨g, 0, none⟩) n c) L) : intsAt w g L := fun i hi => by
  have := h.row encN_size i hi 0 _ rfl
  rw [Nat.zero_add]
  exact this
theorem intsAt.then_ {w w' : World} {g : Nat} {L : List Nat} (h : intsAt w g L) (hg : g < w.heap.size) (hb : Below w.heap.size w w') : intsAt w' g L := fun i hi => (World.cell?_of_block (hb.block g hg)).trans (h i hi)
/-- what is told of the two lists -/
structure TwoL (N : Nat) (L L2 : List Nat) : Prop where
  pos : 0 < L.length
  len : L2.length = L.length
  fst : ∀ h : 0 < L.length, L[0] = 0
  bel : ∀ i (h : i < L.length), L[i] < N
  rise : ∀ i (h : i < L.length) (h0 : 1 ≤ i), L[i - 1] < L[i]
  turn : ∀ i (h : i < L.length) (h0 : 1 ≤ i) (h2 : L.length - i < L2.length), mirror L[i] N = L2[L.length - i]
theorem two_of {x y N : Nat} (h : Turned x y N) (h0 : x.testBit 0 = true) (hN : 1 ≤ N) : TwoL N (bitsTo x N) (bitsTo y N) := by
  obtain ⟨rest, h1, h2⟩ := bitsTo_turned h h0 hN
  have hs := bitsTo_sorted x N
  have hm : ∀ a ∈ bitsTo x N, a < N := fun a ha => ((mem_bitsTo _ _ _).1 ha).1
  obtain ⟨L, hL⟩ : ∃ L, L = bitsTo x N := ⟨_, rfl⟩
  obtain ⟨L2, hL2⟩ : ∃ L, L = bitsTo y N := ⟨_, rfl⟩
  rw [← hL] at h1 hs hm ⊢
  rw [← hL2] at h2 ⊢
  clear hL hL2
  subst h1 h2
  refine ⟨by simp, by simp, fun _ => rfl, fun i hi => hm _ (List.getElem_mem hi), fun i hi h1 => ?_, fun i hi h1 h2 => ?_⟩
  · exact List.pairwise_iff_getElem.1 hs (i - 1) i (by omega) hi (by omega)
  · obtain ⟨j, rfl⟩ : ∃ j, i = j + 1 := ⟨i - 1, by omega⟩
    have hj : j < rest.length := by simpa using hi
    obtain ⟨k, hk⟩ : ∃ k, k + 1 = (0 :: rest).length - (j + 1) := ⟨rest.length - 1 - j, by simp; omega⟩
    have hkr : k < (rest.map (mirror · N)).reverse.length := by simp at hk ⊢; omega
    have e1 : (0 :: (rest.map (mirror · N)).reverse)[(0 :: rest).length - (j + 1)] = (rest.map (mirror · N)).reverse[k] := by
      have : ∀ q (hq : q < (0 :: (rest.map (mirror · N)).reverse).length), q = k + 1 → (0 :: (rest.map (mirror · N)).reverse)[q] = (rest.map (mirror · N)).reverse[k] := by
        intro q hq e
        subst e
        rfl
      exact this _ h2 hk.symm
    rw [e1, List.getElem_reverse, List.getElem_map, List.getElem_cons_succ]
    congr 2
    simp at hk ⊢
    omega
end Go.Proofs.YtgahdookojbbiaaDoor
