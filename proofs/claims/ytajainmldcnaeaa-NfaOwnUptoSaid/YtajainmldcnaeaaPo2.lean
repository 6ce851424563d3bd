/- Part 2 of a proof; packed: the texts that it was made of follow one another. No condition beyond those named in each lemma. -/
import Derived.Test.YtajainmldcnaeaaPo1
import Derived.Test.YtajainmldcnaeaaProg
import Derived.Test.YtajainmldcnaeaaRows
import Derived.Below
import Derived.BigQuiet
import Derived.BigRegion
import Derived.ChangeOld
import Derived.Deep.AppendLies
import Derived.Deep.CutBlock
import Derived.Deep.DeepCutAuto
import Derived.Deep.DeepFit
import Derived.Deep.DeepMust
import Derived.Deep.Draws
import Derived.Deep.LoopGhost
import Derived.Deep.QuietTactic
import Derived.Deep.RegionHeld3
import Derived.Deep.RegionWith
import Derived.Deep.Slices
import Derived.Laws.BitsAllLaws
import Derived.Laws.BitsLemmas
import Derived.Laws.CopyOwn
import Derived.Laws.CopyRow
import Derived.Laws.OwnMore
import Derived.Laws.Pointers
import Derived.Laws.Rows
import Derived.Lib.Bytealg
import Derived.Lib.Hide
import Derived.Lib.IndexLaws
import Derived.Lib.IndexMore
import Derived.Lib.Strings
import Derived.Lib.Walk
import Derived.Maps.AppendAt
import Derived.OpenShut
import Derived.Outline
import Derived.OwnWalk
import Derived.ProofKit
import Derived.Recover
import Derived.RegionTactic
import Derived.Shelf.LaysM
import Derived.Shelf.Small.Strs
import Derived.Shelf.Strings.Search1
import Derived.Shelf.Strings.Search2
import Derived.Shelf.Strings.Search3
import Derived.Shelf.Strings.Shaped
import Derived.ShutString
import Derived.SizedLaws
import Derived.StillTailTactics
import Derived.WalkKit
import Derived.WalkLawsBesides
import Derived.WalkSpells
namespace Go.Proofs.Ytajainmldcnaeaa
open Go.RowKit Go.Maps
set_option linter.unusedVariables false
set_option linter.unusedSimpArgs false
attribute [local go_sem] Oper.semAt_some

def CP.mv (x : CP) : MV := ⟨x.F, some ⟨x.ge, 0, none⟩, x.ce, some ⟨x.gu, 0, none⟩, x.cu⟩
theorem CP.In.slices {W : World} {base : Nat} {x : CP} (h : x.In W base) : SliceOf W W.heap.size 7 edgC (some ⟨x.ge, 0, none⟩) (x.F.E ++ [edge77]) ∧ SliceOf W W.heap.size 1 encR (some ⟨x.gu, 0, none⟩) (x.F.R ++ [77]) ∧ x.F.E.length + 1 ≤ x.ce ∧ x.F.R.length + 1 ≤ x.cu :=
  ⟨h.1.slice_all edgC_size, h.2.slice_all encR_size, h.1.cap.1, h.2.cap.1⟩
theorem CP.In.two {W : World} {base : Nat} {x : CP} (h : x.In W base) : SliceOf W W.heap.size 7 edgC x.mv.A x.F.E ∧ SliceOf W W.heap.size 1 encR x.mv.B x.F.R := by
  obtain ⟨t1, t2, _, _⟩ := h.slices
  have t1 := t1.take x.F.E.length
  have t2 := t2.take x.F.R.length
  rw [List.take_left' rfl] at t1 t2
  exact ⟨t1, t2⟩
/-- a machine that fits and is small -/
structure MOk (F : NF) : Prop where
  r : rightF F = true
  e : F.E.length ≤ 1000000
  l : F.R.length ≤ 1000000
theorem m_ok {nd : Nd} (hT : nd.isT = true) (hU : ¬ 2048 ≤ nd.U) {r : Nat} (hr : r < 32) : MOk ⟨(Mt.mN nd : Nat), Mt.mE nd, Mt.mR nd r⟩ := by
  have h1 := Mt.build_right hT hU hr
  rw [buildF_ok hT hU hr] at h1
  obtain ⟨hs, hel, hend⟩ := layF_good hT
  refine ⟨h1, ?_, ?_⟩
  · have : (Mt.mE nd).length ≤ 3 * nd.U := hel
    show (Mt.mE nd).length ≤ 1000000
    omega
  · show (Mt.mR nd r).length ≤ 1000000
    rw [Mt.mR_len]
    have : Mt.mN nd = 1 + nd.U := hs
    omega
theorem m_small {nd : Nd} (hT : nd.isT = true) (hU : ¬ 2048 ≤ nd.U) (r : Nat) : (Mt.mE nd).length ≤ 6144 ∧ (Mt.mR nd r).length ≤ 6144 := by
  obtain ⟨hs, hel, hend⟩ := layF_good hT
  refine ⟨?_, ?_⟩
  · have : (Mt.mE nd).length ≤ 3 * nd.U := hel
    omega
  · rw [Mt.mR_len]
    have : Mt.mN nd = 1 + nd.U := hs
    omega
theorem right_fits7 {F : NF} (h : rightF F = true) : Mt.FitsF F F.s.toNat := by
  unfold rightF rightB at h
  simp only [Bool.and_eq_true, decide_eq_true_eq, List.all_eq_true, Bool.not_eq_true'] at h
  obtain ⟨⟨h1, h2⟩, h3⟩ := h
  have key := fun (d : Edg) (hd : d ∈ F.E) => (by
    have := h3 d hd
    unfold badE at this
    simp only [Bool.or_eq_false_iff, Bool.not_eq_false', inS, Bool.and_eq_true, decide_eq_true_eq, decide_eq_false_iff_not] at this
    exact this : (((¬ d.kd < 1 ∧ ¬ 4 < d.kd) ∧ (0 ≤ d.fr ∧ d.fr < F.s)) ∧ (0 ≤ d.tt ∧ d.tt < F.s)) ∧ ((d.kd != 2) && !decide (d.st = 0)) = false)
  refine ⟨by omega, ⟨by omega, by omega, fun d hd => ?_, fun d hd => ?_, fun d hd => ?_, fun d hd hk => ?_⟩⟩
  · have := (key d hd).1.1.1; omega
  · have := (key d hd).1.1.2; omega
  · have := (key d hd).1.2; omega
  · have := (key d hd).2
    by_cases h0 : d.st = 0
    · exact h0
    · have h1 : (d.kd != 2) = true := by simpa using hk
      rw [h1, decide_eq_false h0] at this
      cases this
theorem u_ok {F G : NF} (hF : MOk F) (hG : MOk G) (he : F.E.length + G.E.length ≤ 500000) (hl : F.R.length + G.R.length ≤ 500000) : unionF [F, G] = (uFold [F, G], 0) ∧ MOk (uFold [F, G]) := by
  have h0 : ∀ H ∈ [F, G], Mt.FitsF H H.s.toNat := fun H hH => by
    rcases List.mem_cons.1 hH with rfl | hH
    · exact right_fits7 hF.r
    · rw [List.mem_singleton] at hH; subst hH; exact right_fits7 hG.r
  obtain ⟨h1, -⟩ := Mt.fold_fits ⟨#[]⟩ [F, G] h0
  refine ⟨by unfold unionF; simp [hF.r, hG.r], fits_right7 h1, ?_, ?_⟩
  · have : (uFold [F, G]).E.length = F.E.length + G.E.length + 2 := by simp [uFold, uStep]; omega
    omega
  · have : (uFold [F, G]).R.length = 1 + F.R.length + G.R.length := by simp [uFold, uStep]; omega
    omega
theorem u_small {F G : NF} {a b : Nat} (h1 : F.E.length ≤ a) (h2 : F.R.length ≤ a) (h3 : G.E.length ≤ b) (h4 : G.R.length ≤ b) : (uFold [F, G]).E.length ≤ a + b + 2 ∧ (uFold [F, G]).R.length ≤ a + b + 2 := by
  have e1 : (uFold [F, G]).E.length = F.E.length + G.E.length + 2 := by simp [uFold, uStep]; omega
  have e2 : (uFold [F, G]).R.length = 1 + F.R.length + G.R.length := by simp [uFold, uStep]; omega
  omega
theorem bs_nfaR2 (w : World) (s : Int) (A : Option Addr) (n c : Nat) (B : Option Addr) (m d : Nat) (s2 : Int) (A2 : Option Addr) (n2 c2 : Nat) (B2 : Option Addr) (m2 d2 : Nat) : (Instr.buildSlice 61 2 #[(0, .agg (nfaC s A n c B m d)), (1, .agg (nfaC s2 A2 n2 c2 B2 m2 d2))]).run Try.prog w = .ok (.slice (some ⟨w.heap.size, 0, none⟩) 2 2) (w.alloc (.cells (nfaC s A n c B m d ++ nfaC s2 A2 n2 c2 B2 m2 d2) 52)) := by kernel_rfl
theorem bs_nfaR5 (w : World) (s : Int) (A : Option Addr) (n c : Nat) (B : Option Addr) (m d : Nat) (s2 : Int) (A2 : Option Addr) (n2 c2 : Nat) (B2 : Option Addr) (m2 d2 : Nat) (s3 : Int) (A3 : Option Addr) (n3 c3 : Nat) (B3 : Option Addr) (m3 d3 : Nat) (s4 : Int) (A4 : Option Addr) (n4 c4 : Nat) (B4 : Option Addr) (m4 d4 : Nat) (s5 : Int) (A5 : Option Addr) (n5 c5 : Nat) (B5 : Option Addr) (m5 d5 : Nat) :
    (Instr.buildSlice 61 5 #[(0, .agg (nfaC s A n c B m d)), (1, .agg (nfaC s2 A2 n2 c2 B2 m2 d2)), (2, .agg (nfaC s3 A3 n3 c3 B3 m3 d3)), (3, .agg (nfaC s4 A4 n4 c4 B4 m4 d4)), (4, .agg (nfaC s5 A5 n5 c5 B5 m5 d5))]).run Try.prog w = .ok (.slice (some ⟨w.heap.size, 0, none⟩) 5 5) (w.alloc (.cells (nfaC s A n c B m d ++ (nfaC s2 A2 n2 c2 B2 m2 d2 ++ (nfaC s3 A3 n3 c3 B3 m3 d3 ++ (nfaC s4 A4 n4 c4 B4 m4 d4 ++ nfaC s5 A5 n5 c5 B5 m5 d5)))) 52)) := by kernel_rfl
section
variable {ops : Array Oper} {rest : List Oper} {o : Oper} {a : Act} {w : World} {Q : Exit → Act → World → Prop}
theorem wl_bs_mv2 (hgd : o.guard = none) (x y : Operand) (ho : o.op = .buildSlice 61 2 #[(0, x), (1, y)]) (X Y : MV) (hx : a.eval x = .agg X.C) (hy : a.eval y = .agg Y.C)
    (h : wpList Try.prog ops Q rest (a.put o.dst (.slice (some ⟨w.heap.size, 0, none⟩) 2 2)) (w.alloc (.cells (X.C ++ Y.C) 52))) : wpList Try.prog ops Q (o :: rest) a w :=
  wl_run hgd (v := .slice (some ⟨w.heap.size, 0, none⟩) 2 2) (by unfold execOp; simp only [ho, List.map_toArray, List.map_cons, List.map_nil, hx, hy, Sem.run_bind, MV.C, bs_nfaR2, Result.andThen_ok, Sem.run_pure]) h
theorem wl_bs_mv5 (hgd : o.guard = none) (x y z u v : Operand) (ho : o.op = .buildSlice 61 5 #[(0, x), (1, y), (2, z), (3, u), (4, v)]) (X Y Z U V : MV) (hx : a.eval x = .agg X.C) (hy : a.eval y = .agg Y.C) (hz : a.eval z = .agg Z.C) (hu : a.eval u = .agg U.C) (hv : a.eval v = .agg V.C)
    (h : wpList Try.prog ops Q rest (a.put o.dst (.slice (some ⟨w.heap.size, 0, none⟩) 5 5)) (w.alloc (.cells (X.C ++ (Y.C ++ (Z.C ++ (U.C ++ V.C)))) 52))) : wpList Try.prog ops Q (o :: rest) a w :=
  wl_run hgd (v := .slice (some ⟨w.heap.size, 0, none⟩) 5 5) (by unfold execOp; simp only [ho, List.map_toArray, List.map_cons, List.map_nil, hx, hy, hz, hu, hv, Sem.run_bind, MV.C, bs_nfaR5, Result.andThen_ok, Sem.run_pure]) h
end
theorem rows_two {w : World} {g : Nat} {X Y : MV} (h : Blk w g 52 (X.C ++ Y.C)) : SliceOf w w.heap.size 3 MV.C (some ⟨g, 0, none⟩) [X, Y] := by
  have : Own w 0 52 3 MV.C (.slice (some ⟨g, 0, none⟩) 2 2) [X, Y] :=
    ⟨by rw [flat_length MV.C_size], .inr ⟨g, 2, X.C ++ Y.C, rfl, Nat.zero_le _, h, Nat.le_refl _, by unfold maxLen; omega, by simp only [Array.size_append, MV.C_size, List.length_cons, List.length_nil], by rw [List.take_of_length_le (by simp only [Array.length_toList, Array.size_append, MV.C_size, List.length_cons, List.length_nil]; omega)]; simp only [flat, Array.toList_append, List.flatMap_cons, List.flatMap_nil, List.append_nil]⟩⟩
  exact this.slice_all MV.C_size
theorem rows_five {w : World} {g : Nat} {X Y Z U V : MV} (h : Blk w g 52 (X.C ++ (Y.C ++ (Z.C ++ (U.C ++ V.C))))) : SliceOf w w.heap.size 3 MV.C (some ⟨g, 0, none⟩) [X, Y, Z, U, V] := by
  have : Own w 0 52 3 MV.C (.slice (some ⟨g, 0, none⟩) 5 5) [X, Y, Z, U, V] :=
    ⟨by rw [flat_length MV.C_size], .inr ⟨g, 5, X.C ++ (Y.C ++ (Z.C ++ (U.C ++ V.C))), rfl, Nat.zero_le _, h, Nat.le_refl _, by unfold maxLen; omega, by simp only [Array.size_append, MV.C_size, List.length_cons, List.length_nil], by rw [List.take_of_length_le (by simp only [Array.length_toList, Array.size_append, MV.C_size, List.length_cons, List.length_nil]; omega)]; simp only [flat, Array.toList_append, List.flatMap_cons, List.flatMap_nil, List.append_nil]⟩⟩
  exact this.slice_all MV.C_size
/-- what two machines read as -/
def MRd (w : World) (x : MV) : Prop := SliceOf w w.heap.size 7 edgC x.A x.F.E ∧ SliceOf w w.heap.size 1 encR x.B x.F.R
theorem MO.rd {w : World} {B : Nat} {x : MV} (h : MO w B x) : MRd w x := ⟨h.1.slice_all edgC_size, h.2.slice_all encR_size⟩
theorem union_two (g c : Nat) (X Y : MV) (hX : MOk X.F) (hY : MOk Y.F) (he : X.F.E.length + Y.F.E.length ≤ 500000) (hl : X.F.R.length + Y.F.R.length ≤ 500000) (w : World) (hb : Blk w g 52 (X.C ++ Y.C)) (mX : MRd w X) (mY : MRd w Y) :
    Calls Try.prog 33 #[.slice (some ⟨g, 0, none⟩) 2 c] w fun e w' => Below w.heap.size w w' ∧ ∃ x : MV, x.F = uFold [X.F, Y.F] ∧ e = .returned (.tuple #[.agg x.C, .int .i64 0]) ∧ MO w' w.heap.size x := by
  have hM : MsIn w w.heap.size [X, Y] := fun x hx => by
    rcases List.mem_cons.1 hx with rfl | hx
    · exact ⟨mX.1, mX.2, by have := hX.e; omega, by have := hX.l; omega⟩
    · rw [List.mem_singleton] at hx; subst hx
      exact ⟨mY.1, mY.2, by have := hY.e; omega, by have := hY.l; omega⟩
  refine (union_own _ 2 c [X, Y] rfl (by omega) w (rows_two hb) hM).mono ?_
  rintro e w' ⟨hb, v, rfl, A', c', B', d, rfl, hE, hR⟩
  obtain ⟨hu, -⟩ := u_ok hX hY he hl
  have hu' : unionF (List.map MV.F [X, Y]) = (uFold [X.F, Y.F], 0) := hu
  rw [hu'] at hE hR ⊢
  exact ⟨hb, ⟨uFold [X.F, Y.F], A', c', B', d⟩, rfl, rfl, hE, hR⟩
theorem copied_mo (X : MV) (hX : MOk X.F) (w : World) (m : MRd w X) : Calls Try.prog 34 #[.agg X.C] w fun e w' => Below w.heap.size w w' ∧ ∃ x : CP, x.F = X.F ∧ e = .returned (.agg x.C) ∧ x.In w' w.heap.size :=
  copied_any X.F X.A _ X.c X.B _ X.d rfl rfl (by have := hX.e; omega) (by have := hX.l; omega) w m.1 m.2
theorem kept_mo (x : CP) (X : MV) (hF : x.F = X.F) (hX : MOk X.F) (w : World) {b : Nat} (hx : x.In w b) (m : MRd w X) : Calls Try.prog 35 #[.agg x.C, .agg X.C] w fun e w' => e = .returned (.bool true) ∧ Below w.heap.size w w' := by
  obtain ⟨t1, t2, t3, t4⟩ := hx.slices
  unfold CP.C MV.C
  rw [hF] at t1 t2 t3 t4 ⊢
  exact kept_any X.F.s X.A _ X.c X.B _ X.d x.ge x.ce x.gu x.cu X.F.E X.F.R rfl rfl (by have := hX.e; omega) (by have := hX.l; omega) t3 t4 w m.1 m.2 t1 t2
theorem gs_load_mv {ops : Array Oper} {S : Nat → GSpec} {Q : Exit → Act → World → Prop} {i : Nat} {o : Oper} {a : Act} {w : World} (hw : Region.wanted o (yielded ops a.tmps) = true) (x : Operand) (ho : o.op = .load 52 x) (g : Nat) (hx : a.eval x = .pointer (some ⟨g, 0, none⟩)) (y : MV) (hg : Blk w g 52 y.C)
    (hp : (S i).p (.agg y.C) w) : GStep Try.prog ops S Q i o a w :=
  gs_load hw _ x ho g hx _ _ hg _ Try.underlying52 rfl (info_nfaN.trans rfl) hp
/-- a copy that is answered -/
def cpS (b0 : Nat) (F : NF) : GSpec := ⟨fun v w => ∃ x : CP, v = .agg x.C ∧ x.F = F ∧ x.In w b0, fun v w w' ⟨x, h1, h2, h3⟩ hb => ⟨x, h1, h2, h3.then_ hb⟩⟩
theorem enter_copied7 (args : Array Value) (w : World) : (callFunc 34 args).run Try.prog w = .ok (.enter 34 args) w := by kernel_rfl
theorem CP.In.mono {W : World} {b b' : Nat} {x : CP} (h : x.In W b) (hb : b' ≤ b) : x.In W b' := ⟨h.1.mono hb, h.2.mono hb⟩
theorem CP.In.box {W W' : World} {b g : Nat} {x : CP} {cs : Array Value} (h : x.In W b) (hk : Blk W g 52 cs) (hg : W.grownBy W' (some g)) : x.In W' b := ⟨own_box h.1 hk hg (by decide), own_box h.2 hk hg (by decide)⟩
end Go.Proofs.Ytajainmldcnaeaa
namespace Go.Proofs.Ytajainmldcnaeaa
open Go.RowKit Go.Maps
set_option linter.unusedVariables false
set_option linter.unusedSimpArgs false
attribute [local go_sem] Oper.semAt_some

theorem ev_same {a : Act} {d : Nat} {v : Value} (h : d < a.tmps.size) : (a.put (some d) v).eval (.tmp d) = v := put_getD_same h
theorem ev_ne {a : Act} {d t : Nat} {v : Value} (h : d ≠ t) : (a.put (some d) v).eval (.tmp t) = a.eval (.tmp t) := put_getD_ne h
theorem at5 {α : Type} {P : α → Prop} {a b c d e : α} (ha : P a) (hb : P b) (hc : P c) (hd : P d) (he : P e) : ∀ j (h : j < [a, b, c, d, e].length), P [a, b, c, d, e][j] := by
  intro j h
  match j, h with
  | 0, _ => exact ha
  | 1, _ => exact hb
  | 2, _ => exact hc
  | 3, _ => exact hd
  | 4, _ => exact he
/-- own blocks of lists -/
def blkS (vs : List TS) : List Nat := vs.flatMap fun s => ownL s.A
theorem mem_blkS {vs : List TS} {i : Nat} (h : i < vs.length) {g : Nat} (hg : g ∈ ownL vs[i].A) : g ∈ blkS vs := List.mem_flatMap.2 ⟨_, List.getElem_mem h, hg⟩
theorem of_blkS {vs : List TS} {g : Nat} (h : g ∈ blkS vs) : ∃ i, ∃ h : i < vs.length, g ∈ ownL vs[i].A := by
  obtain ⟨s, hs, hg⟩ := List.mem_flatMap.1 h
  obtain ⟨i, hi, rfl⟩ := List.getElem_of_mem hs
  exact ⟨i, hi, hg⟩
theorem sep5 {a b c d e : TS} {l1 h1 l2 h2 l3 h3 l4 h4 l5 h5 : Nat} (ha : ∀ g ∈ ownL a.A, l1 ≤ g ∧ g < h1) (hb : ∀ g ∈ ownL b.A, l2 ≤ g ∧ g < h2) (hc : ∀ g ∈ ownL c.A, l3 ≤ g ∧ g < h3) (hd : ∀ g ∈ ownL d.A, l4 ≤ g ∧ g < h4) (he : ∀ g ∈ ownL e.A, l5 ≤ g ∧ g < h5)
    (k1 : h1 ≤ l2) (k2 : l2 ≤ h2) (k3 : h2 ≤ l3) (k4 : l3 ≤ h3) (k5 : h3 ≤ l4) (k6 : l4 ≤ h4) (k7 : h4 ≤ l5) : SepT [a, b, c, d, e] := by
  intro i j hi hj hne g g1 g2
  match i, hi, j, hj with
  | 0, _, 0, _ => exact hne rfl
  | 1, _, 1, _ => exact hne rfl
  | 2, _, 2, _ => exact hne rfl
  | 3, _, 3, _ => exact hne rfl
  | 4, _, 4, _ => exact hne rfl
  | 0, _, 1, _ => have := ha g g1; have := hb g g2; omega
  | 0, _, 2, _ => have := ha g g1; have := hc g g2; omega
  | 0, _, 3, _ => have := ha g g1; have := hd g g2; omega
  | 0, _, 4, _ => have := ha g g1; have := he g g2; omega
  | 1, _, 0, _ => have := hb g g1; have := ha g g2; omega
  | 1, _, 2, _ => have := hb g g1; have := hc g g2; omega
  | 1, _, 3, _ => have := hb g g1; have := hd g g2; omega
  | 1, _, 4, _ => have := hb g g1; have := he g g2; omega
  | 2, _, 0, _ => have := hc g g1; have := ha g g2; omega
  | 2, _, 1, _ => have := hc g g1; have := hb g g2; omega
  | 2, _, 3, _ => have := hc g g1; have := hd g g2; omega
  | 2, _, 4, _ => have := hc g g1; have := he g g2; omega
  | 3, _, 0, _ => have := hd g g1; have := ha g g2; omega
  | 3, _, 1, _ => have := hd g g1; have := hb g g2; omega
  | 3, _, 2, _ => have := hd g g1; have := hc g g2; omega
  | 3, _, 4, _ => have := hd g g1; have := he g g2; omega
  | 4, _, 0, _ => have := he g g1; have := ha g g2; omega
  | 4, _, 1, _ => have := he g g1; have := hb g g2; omega
  | 4, _, 2, _ => have := he g g1; have := hc g g2; omega
  | 4, _, 3, _ => have := he g g1; have := hd g g2; omega
theorem all_replicate {α : Type} {ys : List α} {n : Nat} {z : α} (hl : ys.length = n) (h : ∀ m, m < n → ys[m]? = some z) : ys = List.replicate n z := by
  apply List.ext_getElem?
  intro m
  by_cases hm : m < n
  · rw [h m hm, List.getElem?_replicate, if_pos hm]
  · rw [List.getElem?_eq_none (by omega), List.getElem?_replicate, if_neg hm]
theorem set_run {α : Type} {ys : List α} {k n : Nat} {z : α} (hl : ys.length = n) (hk : k < n) (h : ∀ m, m < k → ys[m]? = some z) : ∀ m, m < k + 1 → (ys.set k z)[m]? = some z := by
  intro m hm
  rw [List.getElem?_set]
  by_cases e : k = m
  · rw [if_pos e, if_pos (by omega)]
  · rw [if_neg e]
    exact h m (by omega)
/-- lists of edges and of words -/
abbrev Fam1E (base : Nat) (w : World) (vs : List TS) (i : Nat) : Prop := Fam1 edgC 7 base 67 w vs kE i
abbrev Fam1R (base : Nat) (w : World) (vs : List TS) (i : Nat) : Prop := Fam1 encR 1 base 57 w vs kR i
abbrev Fam2E (base : Nat) (w : World) (S0 : Nat) (vs NE : List TS) : Prop := Fam2 edgC 7 base 67 w S0 vs kE NE
abbrev Fam2R (base : Nat) (w : World) (S0 : Nat) (vs NE : List TS) : Prop := Fam2 encR 1 base 57 w S0 vs kR NE
theorem u32_50 {i : Nat} (h : i ≤ 5) : IntKind.u32.wrap (50 + (i : Int)) = ((kR i : Nat) : Int) := by
  unfold IntKind.wrap IntKind.bits IntKind.signed kR
  simp
  omega
theorem blk_spt {S : List Nat} {w w' : World} {b : Nat} {t : TypeId} {cs : Array Value} (h : Blk w b t cs) (k : SpF S w w') (hT : ∀ b ∈ S, ∃ t2 cs, Blk w b t2 cs ∧ t2 ≠ t) : Blk w' b t cs :=
  blk_sp h (fun hb => by
    obtain ⟨t2, cs2, h1, h2⟩ := hT b hb
    have := h1.symm.trans h
    injection this with this
    injection this with _ this
    exact h2 this) k
theorem info_slE : (Try.prog.info? 49).map (fun i => (i.zero, i.size, i.bytes)) = some (some (.slice none 0 0), 1, 24) := by kernel_rfl
theorem info_slR : (Try.prog.info? 50).map (fun i => (i.zero, i.size, i.bytes)) = some (some (.slice none 0 0), 1, 24) := by kernel_rfl
theorem bs_slE (w : World) (A : Option Addr) (n c : Nat) : (Instr.buildSlice 68 1 #[(0, .slice A n c)]).run Try.prog w = .ok (.slice (some ⟨w.heap.size, 0, none⟩) 1 1) (w.alloc (.cells #[.slice A n c] 49)) := by kernel_rfl
theorem bs_slR (w : World) (A : Option Addr) (n c : Nat) : (Instr.buildSlice 69 1 #[(0, .slice A n c)]).run Try.prog w = .ok (.slice (some ⟨w.heap.size, 0, none⟩) 1 1) (w.alloc (.cells #[.slice A n c] 50)) := by kernel_rfl
theorem bs_u32 (w : World) (v : Int) : (Instr.buildSlice 50 1 #[(0, .int .u32 v)]).run Try.prog w = .ok (.slice (some ⟨w.heap.size, 0, none⟩) 1 1) (w.alloc (.cells #[.int .u32 v] 57)) := by kernel_rfl
section
variable {ops : Array Oper} {rest : List Oper} {o : Oper} {a : Act} {w : World} {Q : Exit → Act → World → Prop}
theorem wl_bs_slE (hgd : o.guard = none) (x : Operand) (ho : o.op = .buildSlice 68 1 #[(0, x)]) (l : TS) (hx : a.eval x = l.v)
    (h : wpList Try.prog ops Q rest (a.put o.dst (.slice (some ⟨w.heap.size, 0, none⟩) 1 1)) (w.alloc (.cells (encT l) 49))) : wpList Try.prog ops Q (o :: rest) a w :=
  wl_run hgd (v := .slice (some ⟨w.heap.size, 0, none⟩) 1 1) (by unfold execOp; simp only [ho, List.map_toArray, List.map_cons, List.map_nil, hx, Sem.run_bind, TS.v, bs_slE, Result.andThen_ok, Sem.run_pure]; rfl) h
theorem wl_bs_slR (hgd : o.guard = none) (x : Operand) (ho : o.op = .buildSlice 69 1 #[(0, x)]) (l : TS) (hx : a.eval x = l.v)
    (h : wpList Try.prog ops Q rest (a.put o.dst (.slice (some ⟨w.heap.size, 0, none⟩) 1 1)) (w.alloc (.cells (encT l) 50))) : wpList Try.prog ops Q (o :: rest) a w :=
  wl_run hgd (v := .slice (some ⟨w.heap.size, 0, none⟩) 1 1) (by unfold execOp; simp only [ho, List.map_toArray, List.map_cons, List.map_nil, hx, Sem.run_bind, TS.v, bs_slR, Result.andThen_ok, Sem.run_pure]; rfl) h
theorem wl_bs_u32 (hgd : o.guard = none) (x : Operand) (ho : o.op = .buildSlice 50 1 #[(0, x)]) (v : Nat) (hx : a.eval x = .int .u32 (v : Int))
    (h : wpList Try.prog ops Q rest (a.put o.dst (.slice (some ⟨w.heap.size, 0, none⟩) 1 1)) (w.alloc (.cells (encR v) 57))) : wpList Try.prog ops Q (o :: rest) a w :=
  wl_run hgd (v := .slice (some ⟨w.heap.size, 0, none⟩) 1 1) (by unfold execOp; simp only [ho, List.map_toArray, List.map_cons, List.map_nil, hx, Sem.run_bind, bs_u32, Result.andThen_ok, Sem.run_pure]; rfl) h
/-- 'append' of one element, to a list that stays -/
theorem wl_pushG {α : Type} {enc : α → Array Value} {size bytes : Nat} {t e : TypeId} {z0 : Value} (hinfo : (Try.prog.info? e).map (fun i => (i.zero, i.size, i.bytes)) = some (some z0, size, bytes)) (ht : Try.prog.underlying t = some (.slice e)) (hz : z0.cells.size = size) (hpos : 0 < size) (hs : ∀ y, (enc y).size = size) (h1 : ∀ y, (enc y).all (·.oneCell') = true) (hby : bytes ≤ 100)
    (hgd : o.guard = none) (s x : Operand) (ho : o.op = .call { callee := .builtin .append, args := #[s, x], argTypes := #[t, t] }) {B : Nat} (l : TS) {ys : List α} (hO : Own w B e size enc l.v ys) (hsv : a.eval s = l.v) (g : Nat) (hx : a.eval x = .slice (some ⟨g, 0, none⟩) 1 1) (z : α) (hb : Blk w g e (enc z)) (hmax : ys.length ≤ 1000000) (hB : B ≤ w.heap.size)
    (h : ∀ (l' : TS) w', l'.n = ys.length + 1 → Own w' B e size enc l'.v (ys ++ [z]) → Own w' B e size enc l.v ys → w.grownBy w' l.v.ownBlock → (l'.v.ownBlock = l.v.ownBlock ∨ l'.v.ownBlock = some w.heap.size) → wpList Try.prog ops Q rest (a.put o.dst l'.v) w') : wpList Try.prog ops Q (o :: rest) a w := by
  obtain ⟨i, hi, hz0, hz1, hz2⟩ := info_parts hinfo
  refine wl_append_keep hgd s x t ho B e i z0 size bytes ht hi hz0 hz1 hz2 hz hpos hs h1 l.v ys hsv hO w.heap.size (some ⟨g, 0, none⟩) 1 1 [z] hx rfl (slice_one (enc := enc) (size := size) hb) (by unfold maxLen; omega) (by have : (ys.length + 1) * bytes ≤ 1000001 * 100 := Nat.mul_le_mul (by omega) hby; omega) hB ?_
  intro v' w' ho' hk hg hv
  obtain ⟨A', c', rfl, _, _⟩ := ho'.shape
  have hl8 : (ys ++ [z]).length = ys.length + 1 := by simp
  exact h ⟨A', (ys ++ [z]).length, c'⟩ w' hl8 ho' hk hg hv
end
theorem flat_one {α : Type} {enc : α → Array Value} (h1 : ∀ y, (enc y).all (·.oneCell') = true) (zs : List α) : ∀ v ∈ flat enc zs, v.oneCell' = true := by
  intro v hv
  obtain ⟨y, _, hy⟩ := List.mem_flatMap.1 hv
  have := h1 y
  rw [Array.all_eq_true_iff_forall_mem] at this
  exact this v (Array.mem_toList_iff.1 hy)
/-- 'copy' of a whole list into one as long -/
theorem wl_copyG {α : Type} {enc : α → Array Value} {size : Nat} {t e : TypeId} {w : World} {ops : Array Oper} {rest : List Oper} {o : Oper} {a : Act} {Q : Exit → Act → World → Prop} (hinfo : (Try.prog.info? e).map (·.size) = some size) (ht : Try.prog.underlying t = some (.slice e)) (hs : ∀ y, (enc y).size = size) (h1 : ∀ y, (enc y).all (·.oneCell') = true)
    (hgd : o.guard = none) (d s : Operand) (ho : o.op = .call { callee := .builtin .copy, args := #[d, s], argTypes := #[t, t] }) {B : Nat} (l : TS) {ys : List α} (hO : Own w B e size enc l.v ys) (hd : a.eval d = l.v) (gs c2 : Nat) (zs : List α) (hsv : a.eval s = .slice (some ⟨gs, 0, none⟩) zs.length c2)
    (hr : ∀ i (h : i < zs.length), RowAt w gs (i * size) (enc zs[i])) (hl : ys.length = zs.length) (h : ∀ w', Own w' B e size enc l.v zs → w.grownBy w' l.v.ownBlock → wpList Try.prog ops Q rest (a.put o.dst (goInt zs.length)) w') : wpList Try.prog ops Q (o :: rest) a w := by
  obtain ⟨lA, ln, lc⟩ := l
  simp only [TS.v] at hO hd h
  have hln : ln = ys.length := own_len hO
  have hsrc : ∀ j v, (flat enc zs)[j]? = some v → w.cell? ((⟨gs, 0, none⟩ : Addr).add j) = some v := by
    intro j v hv
    have hjl := (List.getElem?_eq_some_iff.1 hv).1
    rw [flat_length hs] at hjl
    have hpos : 0 < size := by
      rcases Nat.eq_zero_or_pos size with h | h
      · rw [h, Nat.mul_zero] at hjl; omega
      · exact h
    have hq : j / size < zs.length := Nat.div_lt_of_lt_mul (by rw [Nat.mul_comm]; exact hjl)
    have hm := Nat.mod_lt j hpos
    have he : j = j / size * size + j % size := by rw [Nat.mul_comm]; exact (Nat.div_add_mod j size).symm
    rw [he, flat_at hs zs _ _ hq hm] at hv
    have := hr _ hq _ v hv
    rw [addr_add, Nat.zero_add]
    rwa [← he] at this
  rcases hO.2 with ⟨hv, h0⟩ | ⟨g, cap, cur, hv, hb, hh, hc, hm, hsz, htk⟩
  · injection hv with e1 e2 e3
    subst e1 e2 e3
    have hz : zs = [] := List.eq_nil_of_length_eq_zero (by omega)
    subst hz
    have hy : ys = [] := List.eq_nil_of_length_eq_zero (by omega)
    subst hy
    refine wpList_plain hgd fun K hK => ?_
    have hrun : (Builtin.copy_ #[t, t] o.type #[.slice none 0 0, .slice (some ⟨gs, 0, none⟩) 0 c2]).run Try.prog w = .ok (goInt 0) w := by
      have hl := run_loadCells_list (P := Try.prog) w ⟨gs, 0, none⟩ [] (fun j v hv => by simp at hv)
      cases hq : Try.prog.info? e with
      | none => simp [hq] at hinfo
      | some i =>
        have hl2 : (loadCells ⟨gs, 0, none⟩ 0).run Try.prog w = .ok #[] w := by simpa using hl
        simp [Builtin.copy_, run_underlying ht, Builtin.lenOf, Builtin.firstCells, sizeOf, typeInfo, hq, hl2]
    unfold Oper.wp
    simp only [List.length_nil] at hsv
    simp [execOp, ho, resolve, invoke, builtin, hd, hsv, hrun, Result.andThen]
    exact hK _ _ (h _ hO (only_refl _ _))
  · injection hv with e1 e2 e3
    subst e1 e3
    have hrun := run_copy_wide (P := Try.prog) w t t o.type e g ln lc ⟨gs, 0, none⟩ zs.length c2 size cur e (flat enc zs) ht hinfo hh (by rw [flat_length hs, hln, hl]; simp) hsrc (by rw [flat_length hs, hsz]; exact Nat.mul_le_mul_right _ (by omega)) (flat_one h1 zs)
    have hmin : Nat.min zs.length ln = zs.length := by rw [hln, hl]; exact Nat.min_self _
    rw [hmin] at hrun
    refine wpList_plain hgd fun K hK => ?_
    unfold Oper.wp
    simp [execOp, ho, resolve, invoke, builtin, hd, hsv, hrun, Result.andThen]
    refine hK _ _ (h _ ?_ ?_)
    · refine ⟨by rw [flat_length hs], .inr ⟨g, lc, (flat enc zs ++ cur.toList.drop (flat enc zs).length).toArray, by rw [hln, hl], hb, setRow_heap w g _ _ _ _ hh, by omega, hm, ?_, ?_⟩⟩
      · have : zs.length * size ≤ lc * size := Nat.mul_le_mul_right _ (by omega)
        simp [flat_length hs]
        omega
      · rw [List.take_left' (by rw [flat_length hs])]
    · exact only_setRow (only_refl _ _) _
theorem CP.In.spf {S : List Nat} {w w' : World} {b : Nat} {x : CP} (h : x.In w b) (k : SpF S w w') (hn : ∀ b, (x.mv.eS.v.ownBlock = some b ∨ x.mv.rS.v.ownBlock = some b) → b ∉ S) : x.In w' b :=
  ⟨own_spf h.1 k fun g hg => hn g (.inl hg), own_spf h.2 k fun g hg => hn g (.inr hg)⟩
theorem MO.spf {S : List Nat} {w w' : World} {b : Nat} {x : MV} (h : MO w b x) (k : SpF S w w') (hn : ∀ b, (x.eS.v.ownBlock = some b ∨ x.rS.v.ownBlock = some b) → b ∉ S) : MO w' b x :=
  ⟨own_spf h.1 k fun g hg => hn g (.inl hg), own_spf h.2 k fun g hg => hn g (.inr hg)⟩
theorem CP.In.rowsE {w : World} {b : Nat} {x : CP} (h : x.In w b) : ∀ i (hi : i < x.F.E.length), RowAt w x.ge (i * 7) (edgC x.F.E[i]) := fun i hi => by
  have := h.1.row edgC_size i (by simp; omega)
  rwa [List.getElem_append_left hi] at this
theorem CP.In.rowsR {w : World} {b : Nat} {x : CP} (h : x.In w b) : ∀ i (hi : i < x.F.R.length), RowAt w x.gu (i * 1) (encR x.F.R[i]) := fun i hi => by
  have := h.2.row encR_size i (by simp; omega)
  rwa [List.getElem_append_left hi] at this
end Go.Proofs.Ytajainmldcnaeaa
