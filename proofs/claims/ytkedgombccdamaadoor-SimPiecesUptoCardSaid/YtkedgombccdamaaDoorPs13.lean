/- Part 13 of a proof; packed: the texts that it was made of follow one another. No condition beyond those named in each lemma. -/
import Derived.Test.YtkedgombccdamaaDoorPs1
import Derived.Test.YtkedgombccdamaaDoorPs10
import Derived.Test.YtkedgombccdamaaDoorPs12
import Derived.Test.YtkedgombccdamaaDoorPs2
import Derived.Test.YtkedgombccdamaaDoorPs6
import Derived.Test.YtkedgombccdamaaDoorPs7
import Derived.Test.YtkedgombccdamaaDoorPs9
import Derived.Test.YtkedgombccdamaaDoorRows
import Derived.JoinedCond
import Derived.LaidMore
import Derived.Lib.LaidTab
import Derived.Lib.SmallJoins
import Derived.OpenShut
import Derived.ProofKit
import Derived.Shelf.Vars
import Derived.WalkKit
namespace Go.Proofs.YtkedgombccdamaaDoor
open Go.RowKit Go.Shelf Go.Maps
set_option linter.unusedVariables false
set_option linter.unusedSimpArgs false
attribute [local go_sem] Oper.semAt_some

theorem under_strs8 : Tryd.prog.underlying 47 = some (.slice (Tryd.prog.elem 47)) := by kernel_rfl
theorem size_strE8 (w : World) : (sizeOf (Tryd.prog.elem 47)).run Tryd.prog w = .ok 1 w := by kernel_rfl
theorem info_str38 : (Tryd.prog.info? 9).map (fun i => (i.zero, i.size, i.bytes)) = some (some (.string ⟨#[]⟩), 1, 16) := by kernel_rfl
theorem encStr_one (s : ByteArray) : (encStr s).all (·.oneCell') = true := by simp [encStr, Value.oneCell']
theorem run_bstr (w : World) : (Instr.buildSlice 47 1 #[(0, .string ⟨#[]⟩)]).run Tryd.prog w = .ok (.slice (some ⟨w.heap.size, 0, none⟩) 1 1) (w.alloc (.cells (encStr ⟨#[]⟩) 9)) := by kernel_rfl
theorem enter_short8 (args : Array Value) (w : World) : (callFunc 25 args).run Tryd.prog w = .ok (.enter 25 args) w := by kernel_rfl
theorem enter_meets8 (args : Array Value) (w : World) : (callFunc 24 args).run Tryd.prog w = .ok (.enter 24 args) w := by kernel_rfl
theorem sh_step {P : Program} {f : FuncId} {vs : Array Value} {w : World} {T : GSpec} (hc : Calls P f vs w fun e w' => (∃ q' : ByteArray, e = .returned (.string q') ∧ q'.size ≤ 8) ∧ Below w.heap.size w w') (hp : ∀ (q : ByteArray) (_ : q.size ≤ 8) w', T.p (.string q) w') : Calls P f vs w fun e w' => ∃ v, e = .returned v ∧ Below w.heap.size w w' ∧ T.p v w' :=
  hc.mono fun e w' ⟨⟨q, h1, h2⟩, h3⟩ => ⟨_, h1, h3, hp q h2 _⟩
section
variable {ops : Array Oper} {rest : List Oper} {o : Oper} {a : Act} {w : World} {Q : Exit → Act → World → Prop}
theorem wl_bstr (hgd : o.guard = none) (x : Operand) (ho : o.op = .buildSlice 47 1 #[(0, x)]) (hx : a.eval x = .string ⟨#[]⟩)
    (h : wpList Tryd.prog ops Q rest (a.put o.dst (.slice (some ⟨w.heap.size, 0, none⟩) 1 1)) (w.alloc (.cells (encStr ⟨#[]⟩) 9))) : wpList Tryd.prog ops Q (o :: rest) a w :=
  wl_run hgd (v := .slice (some ⟨w.heap.size, 0, none⟩) 1 1) (by unfold execOp; simp only [ho, List.map_toArray, List.map_cons, List.map_nil, hx, Sem.run_bind, run_bstr, Result.andThen_ok, Sem.run_pure]) h
end
/-- the blocks of trees hold nodes -/
theorem NdO.isNode {w : World} {B : Nat} {nd : Nd} {x : NV} {bs : List Nat} (h : NdO w B nd x bs) : ∀ b ∈ bs, ∃ cs, w.heap[b]? = some (.cells cs 54 (0, 0)) := by
  induction h with
  | mk kd st l mi ma A n c cl bl hn hcl hbl hmax ho hr hd ih =>
    intro b hb
    rcases List.mem_append.1 hb with hb | hb
    · have hb' := (mem_ownL (n := n) (c := c)).1 hb
      rcases ho.2 with ⟨hv, _⟩ | ⟨g, cap, cur, hv, _, hh, _⟩
      · rw [hv] at hb'; cases hb'
      · rw [hv] at hb'
        injection hb' with hb'
        subst hb'
        exact ⟨cur, hh⟩
    · obtain ⟨i, hi, hb⟩ := mem_flat_at hb
      exact ih i (by omega) (by omega) hi b hb
theorem NdL.row {w w' : World} {B b2 : Nat} {A : Option Addr} {n c : Nat} {l : List Nd} {cl : List NV} {bl : List (List Nat)} {v : Value} {ys : List MV} (h : NdL w B A n c l cl bl) (ho : Own w b2 25 3 MV.C v ys) (hg : w.grownBy w' v.ownBlock) : NdL w' B A n c l cl bl :=
  h.keep fun b hb => hg.block b (h.lt b hb).2 fun e => by
    obtain ⟨cs, hcs⟩ := (h.node 0 0 0 0).isNode b hb
    rcases ho.2 with ⟨hv, _⟩ | ⟨g, cap, cur, hv, _, hh, _⟩
    · rw [hv] at e; cases e
    · rw [hv] at e
      injection e with e
      subst e
      rw [hcs] at hh
      injection hh with hh
      injection hh with _ hh
      exact absurd hh (by decide)
/-- trees and their machines under way -/
structure PI (base : Nat) (w : World) (A5 : Option Addr) (n5 c5 : Nat) (nds : List Nd) (cl : List NV) (bl : List (List Nat)) (v6 : Value) (ms : List MV) : Prop where
  l : NdL w base A5 n5 c5 nds cl bl
  m : Own w base 25 3 MV.C v6 ms
  o : ∀ x ∈ ms, MO w base x
theorem PI.then_ {base n5 c5 : Nat} {w w' : World} {A5 : Option Addr} {nds : List Nd} {cl : List NV} {bl : List (List Nat)} {v6 : Value} {ms : List MV} (h : PI base w A5 n5 c5 nds cl bl v6 ms) (hb : Below w.heap.size w w') : PI base w' A5 n5 c5 nds cl bl v6 ms :=
  ⟨h.l.then_ hb, h.m.then_ hb, fun x hx => (h.o x hx).then_ hb⟩
theorem PI.npush {base n5 c5 n' c' : Nat} {w w' : World} {A5 A' : Option Addr} {nds nds' : List Nd} {cl cl' : List NV} {bl bl' : List (List Nat)} {v6 : Value} {ms : List MV} (h : PI base w A5 n5 c5 nds cl bl v6 ms) (hl : NdL w' base A' n' c' nds' cl' bl') (hg : w.grownBy w' (Value.slice A5 n5 c5).ownBlock) : PI base w' A' n' c' nds' cl' bl' v6 ms :=
  ⟨hl, own_own h.m h.l.ho hg (by decide), fun x hx => ⟨own_own (h.o x hx).1 h.l.ho hg (by decide), own_own (h.o x hx).2 h.l.ho hg (by decide)⟩⟩
theorem PI.mpush {base n5 c5 : Nat} {w w' : World} {A5 : Option Addr} {nds : List Nd} {cl : List NV} {bl : List (List Nat)} {v6 u : Value} {ms : List MV} {x : MV} (h : PI base w A5 n5 c5 nds cl bl v6 ms) (hx : MO w base x) (ho : Own w' base 25 3 MV.C u (ms ++ [x])) (hg : w.grownBy w' v6.ownBlock) : PI base w' A5 n5 c5 nds cl bl u (ms ++ [x]) :=
  ⟨h.l.row h.m hg, ho, fun y hy => by
    rcases List.mem_append.1 hy with hy | hy
    · exact (h.o y hy).row h.m hg
    · rw [List.mem_singleton] at hy; subst hy; exact hx.row h.m hg⟩
/-- the trees and their machines, one by one -/
def MTs (nds : List Nd) (ms : List MV) : Prop := ms.length = nds.length ∧ ∀ k (h : k < nds.length) (h2 : k < ms.length), MTk nds[k] ms[k] k
theorem MTs.push {nds : List Nd} {ms : List MV} {nd : Nd} {x : MV} (h : MTs nds ms) (hx : MTk nd x nds.length) : MTs (nds ++ [nd]) (ms ++ [x]) := by
  obtain ⟨h1, h2⟩ := h
  refine ⟨by simp [h1], fun k hk hk2 => ?_⟩
  by_cases e : k < nds.length
  · rw [List.getElem_append_left e, List.getElem_append_left (by omega)]
    exact h2 k e (by omega)
  · have e1 : k = nds.length := by simp at hk; omega
    have e2 : (nds ++ [nd])[k] = nd := by subst e1; simp
    have e3 : (ms ++ [x])[k] = x := by have : k = ms.length := by omega
                                       subst this; simp
    rw [e2, e3, e1]
    exact hx
set_option maxRecDepth 100000 in
set_option maxHeartbeats 16000000 in
theorem simPieces_any (Ap : Option Addr) (np cp : Nat) (ps : List ByteArray) (hnp : np = ps.length) (hnp2 : np ≤ 1048576) (Al : Option Addr) (nl cll : Nat) (ls : List ByteArray) (hnl : nl = ls.length) (hnl2 : nl ≤ 1048576) (hls : ∀ s ∈ ls, s.size ≤ 1048576) (w : World) (hM : Mx w) (hTab : TabOk w) (hps : SliceOf w w.heap.size 1 encStr Ap ps) (hsl : SliceOf w w.heap.size 1 encStr Al ls) :
    Calls Tryd.prog 4 #[.slice Ap np cp, .slice Al nl cll] w fun e w' => e = .returned (.bool true) ∧ Below w.heap.size w w' := by
  have Hnp := Lib.hid hnp
  have Hnl := Lib.hid hnl
  have Hls := Lib.hid hls
  replace hM := Lib.hid hM
  clear hnp hnl hls
  go_enter Tryd.func4, Tryd.ntmps4
  go_upto_region 3 with (go_at_call 20; refine (fixed_any _ hTab).mono ?_; rintro en w1 ⟨rfl, hB1⟩)
  go_wp2_with (fail)
  go_loopw [5, 6, 7] (fun v5 v6 iv wr => ∃ (k : Nat) (A5 : Option Addr) (n5 c5 : Nat) (nds : List Nd) (cl : List NV) (bl : List (List Nat)) (ms : List MV) (A6 : Option Addr) (c6 : Nat), k ≤ np ∧ iv = .int .i64 k ∧ v5 = .slice A5 n5 c5 ∧ v6 = .slice A6 n5 c6 ∧ n5 ≤ 4 ∧ Hid (MTs nds ms) ∧ PI w.heap.size wr A5 n5 c5 nds cl bl (.slice A6 n5 c6) ms ∧ Below w.heap.size w wr) (fun _ _ iv _ => np - (intOf iv).toNat)
  case atStart => exact ⟨0, none, 0, 0, [], [], [], [], none, 0, by omega, rfl, rfl, rfl, by omega, Lib.hid ⟨rfl, fun k h => by simp at h⟩, ⟨NdL.nil_ _ _, Own.nil_ _ _ _ _ _, fun x hx => absurd hx (by simp)⟩, hB1⟩
  case round =>
    clear hB1
    obtain ⟨k, A5, n5, c5, nds, cl, bl, ms, A6, c6, hk, rfl, rfl, rfl, hn5, hT, hU, hBw⟩ := hrel
    have hkb : k < 1099511628000 := by omega
    go_upto_region 6 with (fail)
    go_cut [26] from 18 to 27 (fun v wx => wx = wr ∧ v = .bool (decide (k < np) && decide (n5 < 4)))
    case first =>
      by_cases e : k < np
      · have eI : (k : Int) < np := by omega
        by_cases e2 : n5 < 4
        · have e2I : (n5 : Int) < 4 := by omega
          have hv := Lib.hid (show (decide (k < np) && decide (n5 < 4)) = true by simp [e, e2])
          clear e e2
          go_wp2_with (fail)
          go_meet
          exact ⟨rfl, congrArg Value.bool hv.out.symm⟩
        · have e2I : ¬ (n5 : Int) < 4 := by omega
          have hv := Lib.hid (show (decide (k < np) && decide (n5 < 4)) = false by simp [e2])
          clear e e2
          go_wp2_with (fail)
          go_meet
          exact ⟨rfl, congrArg Value.bool hv.out.symm⟩
      · have eI : ¬ (k : Int) < np := by omega
        have hv := Lib.hid (show (decide (k < np) && decide (n5 < 4)) = false by simp [e])
        clear e
        go_wp2_with (fail)
        go_meet
        exact ⟨rfl, congrArg Value.bool hv.out.symm⟩
    obtain ⟨hwc, rfl⟩ := hcut
    subst hwc
    obtain ⟨co, hco⟩ : ∃ co, (decide (k < np) && decide (n5 < 4)) = co := ⟨_, rfl⟩
    rw [hco]
    have Hco := Lib.hid hco
    clear hco
    cases co with
    | true =>
      obtain ⟨hkn, hn4⟩ : k < np ∧ n5 < 4 := by have := Hco.out; simpa using this
      have hkI : (k : Int) < np := by omega
      have hkl : k < ps.length := by rw [← Hnp.out]; exact hkn
      obtain ⟨ba, off, rfl, hba, hrows⟩ := hps.at_ (by omega)
      obtain ⟨s, hs⟩ : ∃ s, ps[k] = s := ⟨_, rfl⟩
      have hcs : wc.cell? ⟨ba, off + k, none⟩ = some (.string s) := by
        have := ((hrows k hkl).keep (hBw.block ba (by omega))) 0 _ rfl
        rw [hs, Nat.mul_one, Nat.add_zero] at this
        exact this
      clear hrows hs Hco
      have kP := parse_any s wc (hM.out.then_ (hBw.mono (Nat.le_refl _)))
      have hgood := (Ere.trees_hold s).good
      have htot := Ere.parse_tot s
      obtain ⟨⟨nd, a, e⟩, hr⟩ : ∃ r, Ere.parseR s = r := ⟨_, rfl⟩
      rw [hr] at kP hgood htot
      simp only at kP hgood htot
      replace hgood := Lib.hid hgood
      replace htot := Lib.hid htot
      clear hr
      go_upto_region 9 with (first
        | (go_at_call 21; refine kP.mono ?_; rintro en w2 ⟨hB2, x7, bs7, rfl, hO2⟩)
        | (refine wl_store_nv rfl _ _ rfl _ x7 rfl rfl _ rfl (Blk.new _ _ zeroC) ?_; intro w3 k11 hg3))
      have hBa := below_alloc (Below.refl w2.heap.size w2) (.cells zeroC 54)
      have hBr : Below wc.heap.size wc w3 := below_grown (below_then hB2 hBa) hg3 (by have := hB2.size; omega)
      have hO3 := (hO2.then_ hBa).keep (w' := w3) (fun b hb => hg3.block b (by have := (hO2.lt b hb).2; simp; omega) (fun e => by injection e with e; have := (hO2.lt b hb).2; omega))
      have hx := hO3.toIn
      have hlow : ∀ b ∈ ownL A5 ++ bl.flatten, b < wc.heap.size := fun b hb => (hU.l.lt b hb).2
      replace hU := hU.then_ hBr
      have hwsz := hBw.size
      replace hBw := below_then hBw hBr
      obtain ⟨g8, hg8⟩ : ∃ y, y = w2.heap.size := ⟨_, rfl⟩
      rw [← hg8] at k11 ⊢
      clear hg3 hO2 hB2 kP hBa hg8 hBr hcs
      by_cases he : e = 0
      · obtain ⟨-, hTT, hp1, hp2, -⟩ := hgood.out he
        subst he
        have hpl := placesN_eq nd
        rw [← hpl] at hp2
        have hUU : ¬ 2048 ≤ nd.U := by unfold placesN at hp2; rw [if_pos hTT] at hp2; omega
        have kB := build_mo nd hTT hUU (7 * n5) (by omega) w3.heap.size w3 x7.C hx (Nat.le_refl _)
        rw [show (((7 * n5 : Nat) : Int)) = 7 * (n5 : Int) by omega] at kB
        have kMk : Hid (∀ x : MV, x.F = ⟨(Mt.mN nd : Nat), Mt.mE nd, Mt.mR nd (7 * n5)⟩ → MTk nd x n5) := Lib.hid fun x hx => ⟨hTT, hUU, htot.out, hx⟩
        replace kB := Lib.hid kB
        clear hp1 hp2 hpl hTT hUU hx hgood htot
        go_upto_region 11 with (first
          | (refine wl_load_nv rfl _ rfl g8 rfl x7 k11 ?_)
          | (go_at_call 22; refine kB.out.mono ?_; rintro en w4 ⟨hB4, x, hxF, rfl, hMO4⟩)
          | (refine wl_store_mv rfl _ _ rfl _ x rfl rfl _ rfl (Blk.new _ _ _) ?_; intro w5 k14 hg5))
        have kMx := Lib.hid (kMk.out x hxF)
        have hBb := below_alloc (Below.refl w4.heap.size w4) (.cells #[.int .i64 0, .slice none 0 0, .slice none 0 0] 25)
        have hBn := below_then hB4 (below_grown hBb hg5 (Nat.le_refl _))
        have hMO := ((hMO4.then_ hBb).box (Blk.new _ _ _) hg5).mono (B' := w.heap.size) (by have := hBw.size; omega)
        replace hU := hU.then_ hBn
        replace hBw := below_then hBw hBn
        replace k11 := blk_then k11 hBn
        have hO5 := hO3.then_ hBn
        obtain ⟨g14, hg14⟩ : ∃ y, y = w4.heap.size := ⟨_, rfl⟩
        rw [← hg14] at k14 ⊢
        have hx8 := k14.lt
        clear hBb hBn hMO4 hg5 hB4 hg14 kB hxF kMk hO3
        have hml : (ms ++ [x]).length = n5 + 1 := by have := hT.out.1; have := hU.l.hn; simp; omega
        have hnn : nds.length = n5 := hU.l.hn.symm
        have Hml := Lib.hid hml
        have Hnn := Lib.hid hnn
        clear hml hnn
        obtain ⟨i3, hi3, hz0, hz1, hz2⟩ := info_parts info_nfaR3
        go_upto_region 14 with (first | (refine wl_load_nv rfl _ rfl g8 rfl x7 k11 ?_) | (refine wl_build1n rfl _ rfl x7 rfl ?_) | (at_builtin; refine park ?_))
        refine Parked.mk ?_
        have hBq : Below w5.heap.size w5 (w5.alloc (.cells x7.C 54)) := below_alloc (Below.refl _ _) _
        have hUq := hU.then_ hBq
        have hMOq := hMO.then_ hBq
        have k14q := blk_then k14 hBq
        have hBwq := below_then hBw hBq
        have hOq := (hO5.then_ hBq).mono hwsz
        have hdis : ∀ b ∈ bs7, b ∉ ownL A5 ++ bl.flatten := fun b hb hm => by
          have h1 := hlow b hm
          have h2 := (hO5.lt b hb).1
          omega
        refine wl_pushN rfl _ _ rfl hUq.l hOq hdis rfl w5.heap.size rfl (Blk.new _ _ _) (by omega) hBwq.size ?_
        intro A' c' w8 hl8 hg8
        have hU8 := hUq.npush hl8 hg8
        have hMO8 : MO w8 w.heap.size x := ⟨own_own hMOq.1 hUq.l.ho hg8 (by decide), own_own hMOq.2 hUq.l.ho hg8 (by decide)⟩
        have k148 : Blk w8 g14 25 x.C := k14q.grown hg8 (fun e => own_blk_ne hUq.l.ho k14q (by decide) e.symm)
        have hBw8 := hBwq.grown hg8 hBwq.size (fun j e => (hUq.l.ho.lt j e).1)
        clear hl8 hg8 hdis hOq hBwq k14q hMOq hUq hBq hMO hU hBw k14 hO5 hlow k11
        simp only [Act.put, List.setIfInBounds_toArray, List.set_cons_zero, List.set_cons_succ]
        go_upto_region 7 with (first | (refine wl_load_mv rfl _ rfl g14 rfl x k148 ?_) | (refine wl_bs_mv rfl _ rfl x rfl ?_) | (at_builtin; refine park ?_))
        refine Parked.mk ?_
        have hBq : Below w8.heap.size w8 (w8.alloc (.cells x.C 25)) := below_alloc (Below.refl _ _) _
        have hUq := hU8.then_ hBq
        have hMOq := hMO8.then_ hBq
        have hBwq := below_then hBw8 hBq
        have hone := slice_one (enc := MV.C) (size := 3) (y := x) (w := w8.alloc (.cells x.C 25)) (g := w8.heap.size) (t := 25) (Blk.new _ _ _)
        have hmsl : ms.length + 1 = n5 + 1 := by have := Hml.out; simpa using this
        refine wl_append _ rfl _ _ 49 rfl w.heap.size 25 i3 _ 3 56 Tryd.underlying49 hi3 hz0 hz1 hz2 rfl (by decide) MV.C_size MV.C_one (.slice A6 _ c6) _ rfl hUq.m _ _ 1 1 [x] rfl rfl hone (by unfold maxLen; omega) (by omega) hBwq.size ?_
        intro v9 w9 ho9 hg9 hb9
        have hU9 := hUq.mpush hMOq ho9 hg9
        have hBw9 := hBwq.grown hg9 hBwq.size (fun j e => (hUq.m.lt j e).1)
        obtain ⟨A9, c9, hv9, _, _⟩ := ho9.shape
        rw [Hml.out] at hv9
        subst hv9
        have hT9 : Hid (MTs (nds ++ [nd]) (ms ++ [x])) := Lib.hid (hT.out.push (by rw [Hnn.out]; exact kMx.out))
        clear ho9 hg9 hb9 hone hBwq hMOq hUq hBq hU8 hMO8 hBw8 hi3 hz0 hz1 hz2 k148 hmsl
        simp only [Act.put, List.setIfInBounds_toArray, List.set_cons_zero, List.set_cons_succ]
        go_wp2_with (fail)
        exact ⟨⟨k + 1, A', n5 + 1, c', nds ++ [nd], cl ++ [x7], bl ++ [bs7], ms ++ [x], A9, c9, by omega, rfl, rfl, rfl, by omega, hT9, hU9, hBw9⟩, by simp only [intOf]; omega⟩
      · have heI : ((e : Int) != 0) = true := by rw [bne_iff_ne]; omega
        replace he := Lib.hid he
        clear hx hgood htot hO3 k11
        go_wp2_with (fail)
        exact ⟨⟨k + 1, A5, n5, c5, nds, cl, bl, ms, A6, c6, by omega, rfl, rfl, rfl, hn5, hT, hU, hBw⟩, by simp only [intOf]; omega⟩
    | false =>
      have hml : ms.length = n5 := by have := hT.out.1; have := hU.l.hn; omega
      have hlen : ms.length ≤ 12 := by omega
      have hG : ∀ x ∈ ms, MGood x := fun x hx => by
        obtain ⟨k, hk, rfl⟩ := List.mem_iff_getElem.1 hx
        exact (hT.out.2 k (by have := hT.out.1; omega) hk).good (by omega)
      have kU := union_mo A6 c6 ms hlen hG wc (by rw [hml]; exact hU.m) hU.o
      rw [hml] at kU
      have Hml := Lib.hid hml
      have HG := Lib.hid hG
      clear hml hlen hG Hco
      go_upto_region 16 with (first
        | (go_at_call 23; refine kU.mono ?_; rintro en w4 ⟨hB4, u, hxF, rfl, hMO4⟩)
        | (refine wl_store_mv rfl _ _ rfl _ u rfl rfl _ rfl (Blk.new _ _ _) ?_; intro w5 k13 hg5))
      have hBb := below_alloc (Below.refl w4.heap.size w4) (.cells #[.int .i64 0, .slice none 0 0, .slice none 0 0] 25)
      have hBn := below_then hB4 (below_grown hBb hg5 (Nat.le_refl _))
      have hMO := ((hMO4.then_ hBb).box (Blk.new _ _ _) hg5).mono (B' := w.heap.size) (by have := hBw.size; omega)
      replace hU := hU.then_ hBn
      replace hBw := below_then hBw hBn
      obtain ⟨g13, hg13⟩ : ∃ y, y = w4.heap.size := ⟨_, rfl⟩
      rw [← hg13] at k13 ⊢
      have hI : MeetsIn w5.heap.size w5 A5 n5 (cl.map NV.C) nds A6 ms u :=
        { l1 := hU.l.hn
          l2 := by rw [List.length_map]; exact hU.l.hcl
          l3 := hT.out.1
          few := hn5
          s1 := by
            rcases hU.l.ho.slice_all NV.size with h | ⟨b, off, e, hb, hh⟩
            · exact .inl (by rw [h]; rfl)
            · refine .inr ⟨b, off, e, hb, fun i hi => ?_⟩
              rw [List.getElem_map]
              exact hh i (by simpa using hi)
          nin := fun k h h2 => by
            rw [List.getElem_map]
            exact (hU.l.hr k h (by simpa using h2) (by have := hU.l.hbl; omega)).toIn
          s2 := hU.m.slice_all MV.C_size
          m := fun x hx => by
            have h1 := (HG.out x hx).ed
            have h2 := (HG.out x hx).few
            have h3 := (HG.out x hx).fit.2.rules
            exact ⟨(hU.o x hx).1.slice_all edgC_size, (hU.o x hx).2.slice_all encR_size, by omega, by omega⟩
          tm := hT.out.2
          uE := hMO.1.slice_all edgC_size
          uR := hMO.2.slice_all encR_size
          uF := hxF
          low := Nat.le_refl _ }
      have HI := Lib.hid hI
      have hT5 := hTab.then_ hTab.size hBw
      clear hBb hBn hMO4 hg5 hB4 hg13 kU hMO hI hxF hU hT HG Hml
      obtain ⟨i3, hi3, hz0, hz1, hz2⟩ := info_parts info_str38
      go_upto_region 19 with (first | (refine wl_bstr rfl _ rfl rfl ?_) | (at_builtin; refine park ?_))
      refine Parked.mk ?_
      have hBq : Below w5.heap.size w5 (w5.alloc (.cells (encStr ⟨#[]⟩) 9)) := below_alloc (Below.refl _ _) _
      have hBwq := below_then hBw hBq
      have hone : Own (w5.alloc (.cells (encStr ⟨#[]⟩) 9)) w.heap.size 9 1 encStr (.slice (some ⟨w5.heap.size, 0, none⟩) 1 1) [⟨#[]⟩] :=
        ⟨rfl, .inr ⟨w5.heap.size, 1, _, rfl, hBw.size, Blk.new _ _ _, Nat.le_refl _, by unfold maxLen; omega, rfl, by simp [flat, encStr]⟩⟩
      refine wl_append _ rfl _ _ 47 rfl w.heap.size 9 i3 _ 1 16 Tryd.underlying47 hi3 hz0 hz1 hz2 rfl (by decide) encStr_size encStr_one (.slice (some ⟨w5.heap.size, 0, none⟩) 1 1) [⟨#[]⟩] rfl hone _ Al nl cll ls rfl Hnl.out (hsl.below (hBwq.mono (Nat.le_refl _))) (by simp only [List.length_cons, List.length_nil]; unfold maxLen; omega) (by simp only [List.length_cons, List.length_nil]; omega) hBwq.size ?_
      intro v8 w8 hl8 hg8 hb8
      have hB58 : Below w5.heap.size w5 w8 := hBq.grown hg8 hBq.size (fun j e => Nat.le_of_eq (show w5.heap.size = j from Option.some.inj e))
      obtain ⟨L, hL⟩ : ∃ L, L = [(⟨#[]⟩ : ByteArray)] ++ ls := ⟨_, rfl⟩
      rw [← hL] at hl8
      have hLn : L.length = nl + 1 := by rw [hL]; simp [Hnl.out]
      have hLs : ∀ s ∈ L, s.size ≤ 1048576 := fun s hs => by
        rw [hL] at hs
        rcases List.mem_append.1 hs with h | h
        · rw [List.mem_singleton] at h; subst h; decide
        · exact Hls.out s h
      obtain ⟨gl, cl1, hv8, _, hgl, _, _⟩ := hl8.form (by omega)
      rw [hLn] at hv8
      subst hv8
      replace k13 := blk_then k13 hB58
      have hT8 := hT5.then_ hT5.size hB58
      have hBw8 := below_then hBw hB58
      have hI8 := HI.out.below (hB58)
      have HI8 := Lib.hid hI8
      have HLn := Lib.hid hLn
      have HLs := Lib.hid hLs
      clear hg8 hb8 hone hBwq hBq hi3 hz0 hz1 hz2 hL hLn hLs hI8 HI hT5 hBw
      simp only [Act.put, List.setIfInBounds_toArray, List.set_cons_zero, List.set_cons_succ]
      obtain ⟨nl1, hnl1⟩ : ∃ m, m = nl + 1 := ⟨_, rfl⟩
      have hnb : nl1 ≤ 1048577 := by omega
      rw [← hnl1] at hl8 HLn ⊢
      clear hnl1
      go_wp2_with (fail)
      go_loopw [15] (fun iv wi => ∃ j : Nat, j ≤ nl1 ∧ iv = .int .i64 j ∧ Below w8.heap.size w8 wi) (fun iv _ => nl1 - (intOf iv).toNat)
      case atStart => exact ⟨0, by omega, rfl, Below.refl _ _⟩
      case round =>
        obtain ⟨j, hj, rfl, hBi⟩ := hrel
        have hjb : j < 1099511628000 := by omega
        go_upto_region 20 with (fail)
        go_cut [75] from 68 to 76 (fun v wx => wx = wr ∧ v = .bool (decide (j < nl1) && decide (j < 6)))
        case first =>
          by_cases e : j < nl1
          · have eI : (j : Int) < nl1 := by omega
            by_cases e2 : j < 6
            · have e2I : (j : Int) < 6 := by omega
              have hv := Lib.hid (show (decide (j < nl1) && decide (j < 6)) = true by simp [e, e2])
              clear e e2
              go_wp2_with (fail)
              go_meet
              exact ⟨rfl, congrArg Value.bool hv.out.symm⟩
            · have e2I : ¬ (j : Int) < 6 := by omega
              have hv := Lib.hid (show (decide (j < nl1) && decide (j < 6)) = false by simp [e2])
              clear e e2
              go_wp2_with (fail)
              go_meet
              exact ⟨rfl, congrArg Value.bool hv.out.symm⟩
          · have eI : ¬ (j : Int) < nl1 := by omega
            have hv := Lib.hid (show (decide (j < nl1) && decide (j < 6)) = false by simp [e])
            clear e
            go_wp2_with (fail)
            go_meet
            exact ⟨rfl, congrArg Value.bool hv.out.symm⟩
        obtain ⟨hwc, rfl⟩ := hcut
        subst hwc
        obtain ⟨co, hco⟩ : ∃ co, (decide (j < nl1) && decide (j < 6)) = co := ⟨_, rfl⟩
        rw [hco]
        have Hco := Lib.hid hco
        clear hco
        cases co with
        | true =>
          obtain ⟨hjn, -⟩ : j < nl1 ∧ j < 6 := by have := Hco.out; simpa using this
          have hjl : j < L.length := by rw [HLn.out]; exact hjn
          have hrowj := (hl8.then_ hBi).row encStr_size j hjl
          rw [← Nat.zero_add (j * 1)] at hrowj
          obtain ⟨s, hs⟩ : ∃ s, s = L[j] := ⟨_, rfl⟩
          rw [← hs] at hrowj
          have hss : s.size ≤ 1099511627776 := by have := HLs.out _ (List.getElem_mem hjl); rw [← hs] at this; omega
          have kS := fun W => short8_any s hss W
          have kM : ∀ (g : {q : ByteArray // q.size ≤ 8}) W, Below wc.heap.size wc W → Calls Tryd.prog 24 #[.slice A5 n5 c5, .slice A6 n5 c6, .agg u.C, .string g.1] W fun e w' => e = .returned (.bool true) ∧ Below W.heap.size W w' := fun g W hW =>
            meets8_any _ n5 c5 c6 A5 A6 _ nds ms u g.1 g.2 W (HI8.out.below ((below_then hBi hW).mono hB58.size)) ((hT8.then_ hT8.size hBi).then_ (hT8.then_ hT8.size hBi).size hW)
          have hglw : gl < wc.heap.size := by have := hBi.size; omega
          have k13i := blk_then k13 hBi
          replace hgl := hglw
          clear hglw hs hss hjl Hco
          have hjnn := hjn
          go_upto_region 22 with (fail)
          refine wp_region_stepsE 10 7 [7] (fun g : {q : ByteArray // q.size ≤ 8} => [eqS (.slice A5 n5 c5), eqS (.slice A6 n5 c6), eqS (.agg u.C), eqS (.slice (some ⟨gl, 0, none⟩) nl1 cl1), eqS (.int .i64 (((j : Nat) : Int))), eqS (.pointer (some ⟨gl, 0 + j * 1, none⟩)), eqS (.string s), eqS (.string g.1), eqS (.bool true), eqS (.bool (!true))]) ⟨⟨#[]⟩, by decide⟩ [78, 79, 80, 81, 82, 83, 84, 85, 86, 87] follows_mixed (by kernel_rfl) (by kernel_rfl) (fun g g' j hj => by rcases j with _ | _ | _ | _ | _ | _ | _ | _ | _ | _ | j <;> first | rfl | (exact absurd hj (by decide))) (by kernel_rfl) ?_ ?_
          · skip
            refine StepsE.cons (fun g a' w' hG hB dep => gs_move (want_none rfl) _ rfl (id (hG.other 5 rfl))) ?_
            refine StepsE.cons (fun g a' w' hG hB dep => gs_move (want_none rfl) _ rfl (id (hG.other 6 rfl))) ?_
            refine StepsE.cons (fun g a' w' hG hB dep => gs_load_mv (want_none rfl) _ rfl g13 (hG.other 13 rfl) _ (blk_then k13i hB) rfl) ?_
            refine StepsE.cons (fun g a' w' hG hB dep => gs_move (want_none rfl) _ rfl (id (hG.other 1 rfl))) ?_
            refine StepsE.cons (fun g a' w' hG hB dep => gs_move (want_none rfl) _ rfl (id (hG.other 15 rfl))) ?_
            refine StepsE.cons (fun g a' w' hG hB dep => gs_index (want_none rfl) _ _ _ rfl under_strs8 1 size_strE8 gl 0 nl1 cl1 (j) (dep 3 rfl 81 rfl) (dep 4 rfl 82 rfl) hjnn rfl) ?_
            refine StepsE.cons (fun g a' w' hG hB dep => gs_load1 (want_none rfl) _ _ rfl gl (0 + j * 1) (dep 5 rfl 83 rfl) (.string s) ((hrowj.keep (hB.block gl hgl)) 0 _ rfl) _ Tryd.underlying9 rfl rfl) ?_
            refine StepsE.cons (fun g a' w' hG hB dep => gs_call (want_none rfl) _ _ _ rfl enter_short8 #[(.string s)] (map1 (dep 6 rfl 84 rfl)) (sh_step (kS _) (fun q hq _ => ⟨⟨q, hq⟩, rfl⟩))) ?_
            refine StepsE.cons (fun g a' w' hG hB dep => gs_call (want_none rfl) _ _ _ rfl enter_meets8 #[(.slice A5 n5 c5), (.slice A6 n5 c6), (.agg u.C), (.string g.1)] (map4 (dep 0 rfl 78 rfl) (dep 1 rfl 79 rfl) (dep 2 rfl 80 rfl) (dep 7 rfl 85 rfl)) (ret_step (kM g _ hB) (fun _ => rfl))) ?_
            refine StepsE.cons (fun g a' w' hG hB dep => gs_not_bool (want_none rfl) _ _ rfl _ (dep 8 rfl 86 rfl) rfl) ?_
            exact StepsE.nil
          intro g uu w9 hB9 ans
          have u87 : uu 87 = .bool (!true) := ans 9 87 (by decide) rfl
          clear ans
          simp only [putAll, List.foldl_cons, List.foldl_nil, Act.put, List.setIfInBounds_toArray, List.set_cons_zero, List.set_cons_succ, u87]
          clear u87 kS kM hrowj
          simp only [List.drop]
          refine wpList_nil ?_
          go_wp2_with (fail)
          exact ⟨⟨j + 1, by omega, rfl, below_then hBi hB9⟩, by simp only [intOf]; omega⟩
        | false =>
          go_wp2_with (fail)
          go_ret
          exact ⟨rfl, below_then hBw8 hBi⟩
end Go.Proofs.YtkedgombccdamaaDoor
namespace Go.Proofs.YtkedgombccdamaaDoor
open Go.ChangeShapes Go.WideShapes Go.ChangeAt Go.RowKit Go.Joins
set_option linter.unusedVariables false
set_option linter.unusedSimpArgs false

section
variable {H : Type}
theorem bulk_pos (d : DataW H) : 1 ≤ Rows.uptoBulk d := by
  cases d with
  | lit l => cases l <;> simp [Rows.uptoBulk]
  | _ => simp [Rows.uptoBulk]
theorem bulk_len : ∀ l : List (DataW H), l.length ≤ Rows.uptoBulkAll l
  | [] => by simp [Rows.uptoBulkAll]
  | d :: l => by
    have := bulk_pos d
    have := bulk_len l
    simp only [List.length_cons, Rows.uptoBulkAll]
    omega
theorem bulk_mem : ∀ (l : List (DataW H)) (d : DataW H), d ∈ l → Rows.uptoBulk d ≤ Rows.uptoBulkAll l
  | [], d, h => by simp at h
  | e :: l, d, h => by
    simp only [Rows.uptoBulkAll]
    rcases List.mem_cons.1 h with rfl | h
    · omega
    · have := bulk_mem l d h
      omega
end
section
variable {H : Type} {enc : TypeId × Value → H} {W : World} {held : Bool}
set_option maxRecDepth 100000 in
/-- a slice, opened from its reading, where what is read is of bulk at most K -/
theorem trod_slice_q {α : Type} {ea : α → Array Value} {t e : TypeId} {size K fuel : Nat} {v : Value} {x : DataW H × List MemPlace}
    (ht : Tryd.prog.underlying t = some (.slice e)) (hc : Tryd.prog.cellsOf e = size) (hpos : 0 < size) (hsz : ∀ y, (ea y).size = size)
    (hel : ∀ (fuel : Nat) (cs : List Value) (x : DataW H × List MemPlace), DataW.trod enc Tryd.prog W 0 (fun _ => true) held fuel e cs = some x → Rows.uptoBulk x.1 + 1 ≤ K → ∃ y, cs = (ea y).toList)
    (hf : DataW.trod enc Tryd.prog W 0 (fun _ => true) held fuel t [v] = some x) (hK : Rows.uptoBulk x.1 ≤ K) :
    ∃ (A : Option Addr) (n c : Nat) (l : List α), v = .slice A n c ∧ n = l.length ∧ n ≤ K ∧ SliceOf W W.heap.size size ea A l := by
  rcases Deep.open_slice ht hf with ⟨hcs, hx⟩ | ⟨a, len, cap, m, n', D, Pl, hcs, _, hl, hm, hmm, hx, hi⟩
  · injection hcs with hcs _
    subst hcs
    exact ⟨none, 0, 0, [], rfl, rfl, by omega, .inl rfl⟩
  · injection hcs with hcs _
    subst hcs
    have hmc : m = cap := by simpa using hmm
    subst hmc
    rw [hx] at hK
    simp only [Rows.uptoBulk] at hK
    have hlen := bulk_len ((List.range len).map D)
    rw [List.length_map, List.length_range] at hlen
    have key : ∀ i, i < len → ∃ y : α, W.cells? 0 (a.add (i * size)) size = some (ea y).toList := by
      intro i hlt
      obtain ⟨cs', h1, h2⟩ := hi i (by omega)
      have hb := bulk_mem ((List.range len).map D) (D i) (List.mem_map_of_mem (List.mem_range.2 hlt))
      obtain ⟨y, hy⟩ := hel _ _ _ h2 (by simp only; omega)
      rw [hc] at h1
      exact ⟨y, by rw [h1, hy]⟩
    obtain ⟨l, hll, hp⟩ := choose_list len key
    refine ⟨some a, len, m, l, rfl, hll.symm, by omega, ?_⟩
    rcases Nat.eq_zero_or_pos l.length with h0 | h0
    · exact .inl (List.eq_nil_of_length_eq_zero h0)
    · have hcell : ∀ i (h : i < l.length) (j : Nat) (u : Value), (ea l[i])[j]? = some u → W.cell? ((a.add (i * size)).add j) = some u := by
        intro i h j u hu
        obtain ⟨_, hlen, hget⟩ := World.cells?_some (hp i h)
        have hj : j < size := by
          rw [← hsz l[i]]
          rcases Nat.lt_or_ge j (ea l[i]).size with h1 | h1
          · exact h1
          · rw [Array.getElem?_eq_none h1] at hu; cases hu
        rw [hget j hj]
        simpa using hu
      have hz : ∃ u, (ea l[0])[0]? = some u := ⟨_, Array.getElem?_eq_getElem (by rw [hsz]; exact hpos)⟩
      obtain ⟨u, hu⟩ := hz
      have h00 := hcell 0 h0 0 u hu
      have hsp : a.spot = none := by
        have := spot_none h00
        simpa [Addr.add] using this
      obtain ⟨b, off, spot⟩ := a
      simp only at hsp
      subst hsp
      have hb : b < W.heap.size := by
        have := block_lt_of_cell h00
        simpa [Addr.add] using this
      refine .inr ⟨b, off, rfl, hb, fun i h j u hu => ?_⟩
      have := hcell i h j u hu
      rw [addr_add, addr_add] at this
      exact this
variable {r : Go.Reach} {b0 : Nat} {v : Value} {d : DataW H} {ps : List MemPlace}
end
end Go.Proofs.YtkedgombccdamaaDoor
namespace Go.Proofs.YtkedgombccdamaaDoor
open Go.ChangeShapes Go.WideShapes Go.ChangeAt Go.RowKit Go.Joins
set_option linter.unusedVariables false
set_option linter.unusedSimpArgs false

section
variable {H : Type}
end
section
variable {H : Type} {enc : TypeId × Value → H} {W : World} {held : Bool} {r : Go.Reach} {b0 : Nat} {v : Value} {d : DataW H} {ps : List MemPlace} {fuel : Nat}
end

theorem witness_and {H : Type} {enc : TypeId × Value → H} {C : Checked} {os : Os} {f : FuncId} {fn : Func} {s : OpenSpec} {k : (H : Type) → List (DataW H) → Bool} (hk : s.cond = some k) {conds : List PathCond} {apart : Bool} {X : World → Prop} (modest : Bool) (w0 : World) (args : Array Value) (fuel : Nat) (hos : w0.os = os)
    (hsh : (w0.forCall (fun _ _ => 0) ⟨#[], args, []⟩).Shaped C.prog)
    (hok : Input.okWideB C.prog (w0.forCall (fun _ _ => 0) ⟨#[], args, []⟩) f ⟨#[], args, []⟩ = true)
    {x : List (DataW H) × List (DataW H) × List MemPlace} (hx : DataW.whole enc C.prog (w0.forCall (fun _ _ => 0) ⟨#[], args, []⟩).memory fn.params.toList s.vars apart args.toList fuel = some x)
    (hconds : conds.all (PathCond.test C.prog ⟨fn.params.toList, x.1, s.bare.plain.varTypes C.prog, x.2.1⟩) = true) (hkk : k H (x.1 ++ x.2.1) = true)
    (hsz : s.bare.sizedB enc C.prog fn apart (w0.forCall (fun _ _ => 0) ⟨#[], args, []⟩).memory args fuel = true)
    (hX : X (w0.forCall (fun _ _ => 0) ⟨#[], args, []⟩).memory) :
    ∃ (w : World) (tape : Tape) (i : Input), w.os = os ∧ (w.forCall tape i).Shaped C.prog ∧ i.vars = [] ∧ Input.okWide C.prog (w.forCall tape i) .any w.heap.size f i ∧
      ((s.pre enc C.prog fn conds apart (w.forCall tape i).memory i.args ∧ X (w.forCall tape i).memory) ∧ sizedMet enc C.prog fn s apart (w.forCall tape i).memory i.args) ∧ ({ modest := modest } : Assume).holds C.prog (lone (Frame.enter C.prog f i.args .normal) [] (w.forCall tape i)) :=
  ⟨w0, fun _ _ => 0, ⟨#[], args, []⟩, hos, hsh, (Input.okWide_of_okWideB (base := 0) hok).1, (Input.okWide_of_okWideB hok).2,
    ⟨⟨(OpenSpec.pre_some hk conds apart _ _).2 ⟨x.1, x.2.1, x.2.2, DataW.Whole_of_whole hx, hconds, hkk⟩, hX⟩, sizedMet_of_sizedB hsz⟩, by
    simp only [Assume.holds]
    exact ⟨by simp, by simp, fun _ => Modest.zero, by simp, by simp⟩⟩
set_option maxRecDepth 100000 in
theorem gTab : Tryd.prog.globalNamed "math/bits.deBruijn64tab" = some 0 := by kernel_rfl
set_option maxRecDepth 100000 in
/-- the variable that the rows list is the table of bits -/
theorem tab_of_laid {W : World} (h : laidMetH Tryd.prog [("math/bits.deBruijn64tab", Rows.laid_math_bits_deBruijn64tab)] W) : TabOk W := by
  have h2 : laidMet Tryd.prog [("math/bits.deBruijn64tab", Lib.tabData .u8 (deB.map Int.ofNat))] W := h
  have h3 := Lib.tabIs_of_head gTab (t := (Tryd.prog.globals[0]?).elim 0 (·.type)) (n := 64) (by kernel_rfl) (by kernel_rfl) Tryd.underlying5 (by kernel_rfl) (by kernel_rfl) h2
  intro i hi
  have := h3.cell gTab i (by simpa [deB] using hi)
  rw [this]
  congr 2
  have e : ∀ i, i < 64 → (deB.map Int.ofNat).getD i 0 = ((deB.getD i 0 : Nat) : Int) := by decide
  exact e i hi
end Go.Proofs.YtkedgombccdamaaDoor
namespace Go.Proofs.YtkedgombccdamaaDoor
open Go.ChangeShapes Go.WideShapes Go.ChangeAt Go.RowKit
open Go.ChangeMaps (open_string shut_string)
set_option linter.unusedVariables false
set_option linter.unusedSimpArgs false

theorem mx_of {W : World} (h : W.ShapedOpen Tryd.prog) : Mx W :=
  cell_of_shapedOpen_int (P := Tryd.prog) (g := 1) (t := 3) (zero := #[.int .i64 0]) h (of_decide_eq_true (by kernel_rfl)) (by kernel_rfl) rfl (by kernel_rfl) (by kernel_rfl) Tryd.underlying3
theorem bulk_str {H : Type} {l : List UInt8} {K : Nat} (h : Rows.uptoBulk (DataW.lit (H := H) (.string l)) ≤ K) : l.length ≤ K := by
  simp only [Rows.uptoBulk] at h
  omega
end Go.Proofs.YtkedgombccdamaaDoor
namespace Go.Proofs.YtkedgombccdamaaDoor
open Go.ChangeShapes Go.WideShapes Go.ChangeAt Go.RowKit Go.Joins
set_option linter.unusedVariables false
set_option linter.unusedSimpArgs false

/-- a row whose specification has a condition of its own, that wants a word on the world besides; the world's shape kept -/
theorem returnsInHanded_of_cond_and_shaped {H : Type} {enc : TypeId × Value → H} {a : Assume} {C : Checked} {os : Os} {f : FuncId} {fn : Func} {s : OpenSpec} {k : (H : Type) → List (DataW H) → Bool} (hk : s.cond = some k) {F : Stop.Interp} {conds : List PathCond} {apart fresh handsOn again : Bool} {X : World → Prop}
    (hX : ∀ (w w' : World), w.heap = w'.heap → X w → X w')
    (own : ownKnob C.prog.godebug = none) (started : os.Started) (noInit : C.prog.inits.idxOf? f = none) (hfn : C.prog.funcs[f]? = some fn)
    (witness : ∃ (w : World) (tape : Tape) (i : Input), w.os = os ∧ (w.forCall tape i).Shaped C.prog ∧ i.vars = [] ∧ Input.okWide C.prog (w.forCall tape i) .any w.heap.size f i ∧
      ((s.pre enc C.prog fn conds apart (w.forCall tape i).memory i.args ∧ X (w.forCall tape i).memory) ∧ sizedMet enc C.prog fn s apart (w.forCall tape i).memory i.args) ∧ a.holds C.prog (lone (Frame.enter C.prog f i.args .normal) [] (w.forCall tape i)))
    (contract : ∀ (W : World) (base : Nat) (args : Array Value) (ds gs : List (DataW H)) (before : List MemPlace),
      (∀ (j : Nat) t v, fn.params[j]? = some t → args[j]? = some v → Value.okWide C.prog W .any base t v) →
      DataW.Whole enc C.prog fn.params.toList s.vars apart W args.toList ds gs before →
      conds.all (PathCond.test C.prog ⟨fn.params.toList, ds, s.bare.plain.varTypes C.prog, gs⟩) = true → k H (ds ++ gs) = true → X W → W.ShapedOpen C.prog →
      a.holds C.prog (lone (Frame.enter C.prog f args .normal) [] W) →
      Calls C.prog f args W fun e W' => ∃ v, e = .returned v ∧ (s.at F).post enc C.prog fn apart fresh handsOn again W args v W') :
    ReturnsInHanded a C os f .any (fun w args => (s.pre enc C.prog fn conds apart w args ∧ X w) ∧ sizedMet enc C.prog fn s apart w args) ((s.at F).post enc C.prog fn apart fresh handsOn again) := by
  refine returnsInHanded_of_calls own started noInit witness ?_
  intro w tape i _ hsh _ hok hpre hholds
  obtain ⟨_, _, _, fn', hfn', _, _, _, _, hval⟩ := hok
  have e : fn' = fn := Option.some.inj (hfn'.symm.trans hfn)
  subst e
  obtain ⟨ds, gs, before, hw, hc, hkk⟩ := (OpenSpec.pre_some hk conds apart _ _).1 hpre.1.1
  have hw' := DataW.Whole.of_heap (w' := w.forCall tape i) (by rfl) hw
  refine (contract (w.forCall tape i) w.heap.size i.args ds gs before hval hw' hc hkk (hX _ _ (by rfl) hpre.1.2) hsh hholds).mono fun e W' ⟨v, he, hp⟩ => ?_
  subst he
  exact ChangeSpec.post_blind hp
set_option maxRecDepth 100000 in
theorem open_strs_q {H : Type} {enc : TypeId × Value → H} {W : World} {held : Bool} {K : Nat} {r : Go.Reach} {b0 : Nat} {v : Value} {d : DataW H} {ps : List MemPlace} (hval : Value.okWide Tryd.prog W r b0 47 v) (hd : DataW.Trod enc Tryd.prog W 0 (fun _ => true) held 47 v d ps) (hK : Rows.uptoBulk d ≤ K) :
    ∃ (A : Option Addr) (n c : Nat) (l : List ByteArray), v = .slice A n c ∧ n = l.length ∧ n ≤ K ∧ SliceOf W W.heap.size 1 encStr A l ∧ ∀ s ∈ l, s.size ≤ K := by
  obtain ⟨A0, n0, c0, rfl⟩ := okWide_slice Tryd.underlying47 hval
  obtain ⟨fuel, hf⟩ := hd
  obtain ⟨A, n, c, l, h1, h2, h3, h4⟩ := trod_slice_q (K := K) (v := .slice A0 n0 c0) (α := {s : ByteArray // s.size ≤ K}) (ea := fun s => encStr s.1) (size := 1) Tryd.underlying47 cells_string (by omega) (fun s => rfl) (fun fuel cs x hx hxK => by
    obtain ⟨s, hc, hd, _⟩ := DataW.trod_string Tryd.underlying9 hx
    refine ⟨⟨s, ?_⟩, hc⟩
    simp only [hd] at hxK
    have := bulk_str (H := H) (l := s.data.toList) (K := K) (by omega)
    simpa using this) (by simpa [Value.cells] using hf) hK
  refine ⟨A, n, c, l.map (·.1), h1, by rw [List.length_map]; exact h2, h3, ?_, fun s hs => ?_⟩
  · rcases h4 with h | ⟨b, off, e1, e2, e3⟩
    · exact .inl (by rw [h]; rfl)
    · refine .inr ⟨b, off, e1, e2, fun i hi => ?_⟩
      rw [List.getElem_map]
      exact e3 i (by simpa using hi)
  · obtain ⟨z, _, rfl⟩ := List.mem_map.1 hs
    exact z.2
end Go.Proofs.YtkedgombccdamaaDoor
