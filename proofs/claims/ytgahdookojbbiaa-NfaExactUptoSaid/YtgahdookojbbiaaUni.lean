/- Union of both programs: plain laws, nfa.Union. No condition beyond those named in each lemma. -/
import Derived.Test.YtgahdookojbbiaaKept
namespace Go.Proofs.Ytgahdookojbbiaa
open Go.RowKit Go.Maps
set_option linter.unusedVariables false
set_option linter.unusedSimpArgs false
attribute [local go_sem] Oper.semAt_some

def shiftE (by_ : Int) (e : Edg) : Edg := ⟨e.kd, e.fr + by_, e.tt + by_, e.st⟩
def uStep (F x : NF) : NF := ⟨F.s + x.s, F.E ++ [⟨1, 0, F.s, 0⟩] ++ x.E.map (shiftE F.s), F.R ++ x.R⟩
def uFold (l : List NF) : NF := l.foldl uStep ⟨1, [], [0]⟩
def rightF (x : NF) : Bool := rightB x.s x.E x.R.length
def unionF (l : List NF) : NF × Int := if l.all rightF then (uFold l, 0) else (.none, 70)
theorem uFold_snoc (l : List NF) (x : NF) : uFold (l ++ [x]) = uStep (uFold l) x := by simp [uFold]
theorem right_parts {x : NF} (h : rightF x = true) : (x.R.length : Int) = x.s ∧ ∀ d ∈ x.E, 0 ≤ d.fr ∧ d.fr < x.s ∧ 0 ≤ d.tt ∧ d.tt < x.s := by
  unfold rightF rightB at h
  simp only [Bool.and_eq_true, decide_eq_true_eq, List.all_eq_true, Bool.not_eq_true'] at h
  refine ⟨h.1.2, fun d hd => ?_⟩
  have hb := h.2 d hd
  unfold badE at hb
  simp only [Bool.or_eq_false_iff, Bool.not_eq_false', inS, Bool.and_eq_true, decide_eq_true_eq] at hb
  exact ⟨hb.1.1.2.1, hb.1.1.2.2, hb.1.2.1, hb.1.2.2⟩
/-- what the folded machine's numbers are bounded by -/
theorem uFold_bound : ∀ (l : List NF), (∀ x ∈ l, rightF x = true ∧ x.E.length ≤ 1048576 ∧ x.R.length ≤ 1048576) → 1 ≤ (uFold l).s ∧ (uFold l).s ≤ 1 + l.length * 1048576 ∧ (uFold l).E.length ≤ l.length * 1048577 ∧ (uFold l).R.length ≤ 1 + l.length * 1048576 := by
  intro l
  obtain ⟨r, hr⟩ : ∃ r, r = l.reverse := ⟨_, rfl⟩
  have : l = r.reverse := by rw [hr, List.reverse_reverse]
  clear hr
  subst this
  induction r with
  | nil => intro _; simp [uFold]
  | cons x r ih =>
    intro h
    rw [List.reverse_cons] at h ⊢
    have h1 := ih (fun y hy => h y (by simp at hy ⊢; exact .inl hy))
    have h2 := h x (by simp)
    have h3 := (right_parts h2.1).1
    rw [uFold_snoc]
    simp only [uStep, List.length_append, List.length_cons, List.length_nil, List.length_map, List.length_reverse] at h1 ⊢
    omega
structure MV where
  F : NF
  A : Option Addr
  c : Nat
  B : Option Addr
  d : Nat
def MV.C (x : MV) : Array Value := nfaC x.F.s x.A x.F.E.length x.c x.B x.F.R.length x.d
theorem MV.C_size (x : MV) : x.C.size = 3 := rfl
def MsIn (w : World) (B : Nat) (l : List MV) : Prop := ∀ x ∈ l, SliceOf w B 7 edgC x.A x.F.E ∧ SliceOf w B 1 encR x.B x.F.R ∧ x.F.E.length ≤ 1048576 ∧ x.F.R.length ≤ 1048576
theorem MsIn.low {w w' : World} {B : Nat} {l : List MV} (h : MsIn w B l) (hb : Below B w w') : MsIn w' B l := fun x hx => ⟨(h x hx).1.below hb, (h x hx).2.1.below hb, (h x hx).2.2⟩
theorem MsIn.more {w : World} {B B' : Nat} {l : List MV} (h : MsIn w B l) (hb : B ≤ B') : MsIn w B' l := fun x hx => ⟨(h x hx).1.more hb, (h x hx).2.1.more hb, (h x hx).2.2⟩
theorem under_nfas : Try.prog.underlying 28 = some (.slice (Try.prog.elem 28)) := by kernel_rfl
theorem size_nfaE (w : World) : (sizeOf (Try.prog.elem 28)).run Try.prog w = .ok 3 w := by kernel_rfl
theorem run_bs0 (w : World) : (Instr.buildSlice 32 1 #[(0, .int .u32 0)]).run Try.prog w = .ok (.slice (some ⟨w.heap.size, 0, none⟩) 1 1) (w.alloc (.cells (encR 0) 55)) := by kernel_rfl
theorem run_buildN1 (w : World) (B : Option Addr) (m d : Nat) : (Instr.build 34 #[(0, .int .i64 1), (2, .slice B m d)]).run Try.prog w = .ok (.agg (nfaC 1 none 0 0 B m d)) w := by kernel_rfl
theorem run_buildE0 (w : World) (x : Int) : (Instr.build 69 #[(0, .int .i64 1), (1, .int .i64 0), (2, .int .i64 x)]).run Try.prog w = .ok (.agg (edgC ⟨1, 0, x, 0⟩)) w := by kernel_rfl
section
variable {ops : Array Oper} {rest : List Oper} {o : Oper} {a : Act} {w : World} {Q : Exit → Act → World → Prop}
theorem wl_bs0 (hgd : o.guard = none) (ho : o.op = .buildSlice 32 1 #[(0, .const (.int .u32 0))])
    (h : wpList Try.prog ops Q rest (a.put o.dst (.slice (some ⟨w.heap.size, 0, none⟩) 1 1)) (w.alloc (.cells (encR 0) 55))) : wpList Try.prog ops Q (o :: rest) a w := by
  have e : (#[(0, Operand.const (Value.int .u32 0))].map fun p : Nat × Operand => (p.1, a.eval p.2)) = #[(0, Value.int .u32 0)] := by simp; rfl
  exact wl_run hgd (v := .slice (some ⟨w.heap.size, 0, none⟩) 1 1) (by unfold execOp; simp only [ho, e, Sem.run_bind, run_bs0, Result.andThen_ok, Sem.run_pure]) h
theorem wl_buildN1 (hgd : o.guard = none) (x : Operand) (ho : o.op = .build 34 #[(0, .const (.int .i64 1)), (2, x)]) (B : Option Addr) (m d : Nat) (hx : a.eval x = .slice B m d)
    (h : wpList Try.prog ops Q rest (a.put o.dst (.agg (nfaC 1 none 0 0 B m d))) w) : wpList Try.prog ops Q (o :: rest) a w := by
  have e : (#[(0, Operand.const (Value.int .i64 1)), (2, x)].map fun p : Nat × Operand => (p.1, a.eval p.2)) = #[(0, Value.int .i64 1), (2, .slice B m d)] := by simp [hx]; rfl
  exact wl_run hgd (v := .agg (nfaC 1 none 0 0 B m d)) (by unfold execOp; simp only [ho, e, Sem.run_bind, run_buildN1, Result.andThen_ok, Sem.run_pure]) h
theorem wl_buildE0 (hgd : o.guard = none) (x : Operand) (ho : o.op = .build 69 #[(0, .const (.int .i64 1)), (1, .const (.int .i64 0)), (2, x)]) (z : Int) (hx : a.eval x = .int .i64 z)
    (h : wpList Try.prog ops Q rest (a.put o.dst (.agg (edgC ⟨1, 0, z, 0⟩))) w) : wpList Try.prog ops Q (o :: rest) a w := by
  have e : (#[(0, Operand.const (Value.int .i64 1)), (1, Operand.const (Value.int .i64 0)), (2, x)].map fun p : Nat × Operand => (p.1, a.eval p.2)) = #[(0, Value.int .i64 1), (1, .int .i64 0), (2, .int .i64 z)] := by simp [hx]; exact ⟨rfl, rfl⟩
  exact wl_run hgd (v := .agg (edgC ⟨1, 0, z, 0⟩)) (by unfold execOp; simp only [ho, e, Sem.run_bind, run_buildE0, Result.andThen_ok, Sem.run_pure]) h
theorem wl_load_nfa_row (hgd : o.guard = none) (x : Operand) (ho : o.op = .load 34 x) (b off : Nat) (hx : a.eval x = .pointer (some ⟨b, off, none⟩)) (y : MV) (hr : RowAt w b off y.C)
    (h : wpList Try.prog ops Q rest (a.put o.dst (.agg y.C)) w) : wpList Try.prog ops Q (o :: rest) a w :=
  wl_load_nfa_at hgd x ho b off hx _ _ _ _ _ _ _ hr h
theorem wl_store_mv (hgd : o.guard = none) (x y : Operand) (ho : o.op = .store 34 x y) (g : Nat) (z : MV) (hx : a.eval x = .pointer (some ⟨g, 0, none⟩)) (hy : a.eval y = .agg z.C) (old : Array Value) (ho2 : old.size = 3) (hb : Blk w g 34 old)
    (h : ∀ w', Blk w' g 34 z.C → w.grownBy w' (some g) → wpList Try.prog ops Q rest (a.put o.dst undef) w') : wpList Try.prog ops Q (o :: rest) a w :=
  wpList_store_row hgd _ x y ho g _ hx hy _ _ hb (info_nfaN.trans rfl) (by rw [ho2]; rfl) (by simp [MV.C, nfaC, Value.oneCell']) (h _ (hb.setRow_same _) (only_setRow (only_refl _ _) _))
theorem wl_load_mv (hgd : o.guard = none) (x : Operand) (ho : o.op = .load 34 x) (g : Nat) (hx : a.eval x = .pointer (some ⟨g, 0, none⟩)) (z : MV) (hb : Blk w g 34 z.C)
    (h : wpList Try.prog ops Q rest (a.put o.dst (.agg z.C)) w) : wpList Try.prog ops Q (o :: rest) a w :=
  wpList_load_row hgd _ x ho g hx _ _ _ _ hb Try.underlying34 rfl (info_nfaN.trans rfl) h
end
theorem info_int1 : (Try.prog.info? 3).map (·.size) = some 1 := by kernel_rfl
set_option maxRecDepth 100000 in
set_option maxHeartbeats 16000000 in
theorem union_any (A : Option Addr) (n c : Nat) (l : List MV) (hn : n = l.length) (hn2 : n ≤ 1048576) (w : World) (hs : SliceOf w w.heap.size 3 MV.C A l) (hM : MsIn w w.heap.size l) :
    Calls Try.prog 14 #[.slice A n c] w fun e w' => Below w.heap.size w w' ∧ ∃ v, e = .returned (.tuple #[v, .int .i64 (unionF (l.map MV.F)).2]) ∧ NfaAt w' v (unionF (l.map MV.F)).1 := by
  have hright : ∀ x ∈ l, ∀ W : World, Below w.heap.size w W → Calls Try.prog 16 #[.agg x.C] W fun e w' => e = .returned (.bool (rightF x.F)) ∧ Below W.heap.size W w' := fun x hx W hb =>
    right_any x.F.s x.A _ x.c x.B _ x.d x.F.E rfl (by have := (hM x hx).2.2.1; omega) W (((hM x hx).1.below hb).more hb.size)
  have huno : (l.map MV.F).all rightF = false → unionF (l.map MV.F) = (.none, 70) := fun h => by unfold unionF; rw [h]; rfl
  have huyes : (l.map MV.F).all rightF = true → unionF (l.map MV.F) = (uFold (l.map MV.F), 0) := fun h => by unfold unionF; rw [h]; rfl
  obtain ⟨bf, hbf⟩ : ∃ b, unionF (l.map MV.F) = b := ⟨_, rfl⟩
  rw [hbf] at huno huyes ⊢
  have Hn := Lib.hid hn
  have HM := Lib.hid hM
  have HR := Lib.hid hright
  have Hno := Lib.hid huno
  have Hyes := Lib.hid huyes
  clear hn hM hright huno huyes hbf
  go_enter Try.func14, Try.ntmps14
  have h2 : Blk (w.alloc (.cells #[.int .i64 0, .slice none 0 0, .slice none 0 0] 34)) w.heap.size 34 (nfaC 0 none 0 0 none 0 0) := Blk.new _ _ _
  have hB1 : Below w.heap.size w (w.alloc (.cells #[.int .i64 0, .slice none 0 0, .slice none 0 0] 34)) := below_alloc (Below.refl _ _) _
  go_upto_region 1 with (fail)
  obtain ⟨w1, hw1⟩ : ∃ y, y = w.alloc (.cells #[.int .i64 0, .slice none 0 0, .slice none 0 0] 34) := ⟨_, rfl⟩
  rw [← hw1] at h2 hB1 ⊢
  clear hw1
  have hl1 := h2.lt
  go_wp2_with (fail)
  go_loopw [14] (fun i wr => ∃ k : Nat, k ≤ n ∧ i = .int .i64 k ∧ Hid ((l.take k).all (fun x => rightF x.F) = true) ∧ Below w.heap.size w wr ∧ Blk wr w.heap.size 34 (nfaC 0 none 0 0 none 0 0)) (fun i _ => n - (intOf i).toNat)
  case atStart => exact ⟨0, by omega, rfl, Lib.hid rfl, hB1, h2⟩
  case round =>
    clear h2 hB1
    obtain ⟨k, hk, rfl, hall, hBw, h2⟩ := hrel
    have hszw := hBw.size
    by_cases hkn : k < n
    · have hkI : (k : Int) < n := by omega
      have hkl : k < l.length := by rw [← Hn.out]; exact hkn
      obtain ⟨ba, off, rfl, hba, hrows⟩ := hs.at_ (by omega)
      have hrow := (hrows k hkl).keep (hBw.block ba (by omega))
      have hmem : l[k] ∈ l := List.getElem_mem hkl
      obtain ⟨x, hx⟩ : ∃ x, x = l[k] := ⟨_, rfl⟩
      rw [← hx] at hrow hmem
      obtain ⟨y, hy⟩ : ∃ y, rightF x.F = y := ⟨_, rfl⟩
      have hst : (l.take (k + 1)).all (fun x => rightF x.F) = y := by
        rw [List.take_succ_eq_append_getElem hkl, List.all_append, hall.out, ← hx]
        simp [hy]
      have hno : y = false → (l.map MV.F).all rightF = false := fun h => by
        rw [List.all_eq_false]
        exact ⟨x.F, List.mem_map_of_mem hmem, by rw [hy, h]; decide⟩
      have hcall := fun W h => HR.out x hmem W h
      rw [hy] at hcall
      have Hcall := Lib.hid hcall
      have Hst := Lib.hid hst
      have Hno2 := Lib.hid hno
      have hkb : k < 1099511628000 := by omega
      clear hcall hst hno hy hx hrows
      go_upto_region 4 with (first | (refine wl_load_nfa_row rfl _ rfl _ _ rfl x hrow ?_) | (refine wl_store_mv rfl _ _ rfl _ x rfl rfl _ rfl (Blk.new _ _ _) ?_; intro w3 h5 hg3))
      have hB3 := below_grown (below_alloc (Below.refl _ wr) (.cells #[.int .i64 0, .slice none 0 0, .slice none 0 0] 34)) hg3 (Nat.le_refl _)
      have hB3w := below_then hBw hB3
      have h23 := blk_then h2 hB3
      clear hg3 hrow
      cases y
      · go_wp2_with (first | (refine wl_load_mv rfl _ rfl _ rfl x h5 ?_) | (go_at_call 16; refine (Hcall.out _ hB3w).mono ?_; rintro e w4 ⟨rfl, hB4⟩; have hBw4 := below_then hB3w hB4; have h24 := blk_then h23 hB4) | (go_at_call 16; refine park ?_) | (refine wl_build_nfa0 rfl rfl ?_) | (refine wl_store_nfa rfl _ _ rfl w.heap.size 0 none 0 0 none 0 0 rfl rfl _ _ _ _ _ _ _ h24 ?_; intro w7 h7 hg7))
        have hBe := hBw4.grown hg7 (by have := hBw4.size; omega) (fun j e => by injection e with e; omega)
        refine ret_nfa2 rfl rfl h7 rfl ?_
        refine ⟨hBe, .agg (nfaC 0 none 0 0 none 0 0), ?_, ?_⟩
        · rw [Hno.out (Hno2.out (by first | rfl | trivial))]; rfl
        · rw [Hno.out (Hno2.out (by first | rfl | trivial))]; exact NfaAt.none_ _
      · go_wp2_with (first | (refine wl_load_mv rfl _ rfl _ rfl x h5 ?_) | (go_at_call 16; refine (Hcall.out _ hB3w).mono ?_; rintro e w4 ⟨rfl, hB4⟩; have hBw4 := below_then hB3w hB4; have h24 := blk_then h23 hB4) | (go_at_call 16; refine park ?_))
        exact ⟨⟨k + 1, by omega, rfl, Lib.hid Hst.out, hBw4, h24⟩, by simp only [intOf]; omega⟩
    · have hkI : ¬ (k : Int) < n := by omega
      have hke : l.take k = l := List.take_of_length_le (by have := Hn.out; omega)
      have hallr : ∀ x ∈ l, rightF x.F = true := fun x hx => by
        have := hall.out
        rw [hke, List.all_eq_true] at this
        exact this x hx
      have hye := Hyes.out (by rw [List.all_eq_true]; intro z hz; obtain ⟨x, hx, rfl⟩ := List.mem_map.1 hz; exact hallr x hx)
      have HE := Lib.hid hye
      have HA := Lib.hid hallr
      clear hke hallr hye hall
      go_upto_region 7 with (fail)
      obtain ⟨WA, hWA⟩ : ∃ y, y = wr := ⟨_, rfl⟩
      rw [← hWA] at hBw h2 ⊢
      clear hWA
      have hBA := hBw
      have o1 : Own (WA.alloc (.cells (encR 0) 55)) w.heap.size 55 1 encR (.slice (some ⟨WA.heap.size, 0, none⟩) 1 1) [0] := ⟨rfl, .inr ⟨WA.heap.size, 1, encR 0, rfl, hBA.size, heap_alloc_new WA _, Nat.le_refl _, by unfold maxLen; omega, rfl, rfl⟩⟩
      have hBa : Below WA.heap.size WA (WA.alloc (.cells (encR 0) 55)) := below_alloc (Below.refl _ _) _
      go_upto_region 8 with (first | (refine wl_bs0 rfl rfl ?_) | (refine wl_buildN1 rfl _ rfl _ _ _ rfl ?_) | (refine wl_store_nfa rfl _ _ rfl _ _ _ _ _ _ _ _ rfl rfl 0 none 0 0 none 0 0 (Blk.new' _ _ _ (by simp)) ?_; intro w5 h6 hg6))
      have hBb := below_grown (below_alloc (Below.refl _ (WA.alloc (.cells (encR 0) 55))) (.cells #[.int .i64 0, .slice none 0 0, .slice none 0 0] 34)) hg6 (by simp)
      have o5 := o1.then_ hBb
      have hB5 := below_then (below_then hBA hBa) hBb
      have h25 := blk_then (blk_then h2 hBa) hBb
      obtain ⟨g6, hg6e⟩ : ∃ g, g = WA.heap.size + 1 := ⟨_, rfl⟩
      rw [← hg6e] at h6
      try rw [← hg6e]
      have hg6b : w.heap.size < g6 := by have := hBA.size; omega
      obtain ⟨gz, hgz⟩ : ∃ g, g = WA.heap.size := ⟨_, rfl⟩
      rw [← hgz] at o5 h6
      clear o1 hBa hg6 hBb hg6e hgz
      clear hBA hBw h2
      go_wp2_with (fail)
      go_loopw [27] (fun i wr => ∃ k : Nat, k ≤ n ∧ i = .int .i64 k ∧ (∃ vE vR, Blk wr g6 34 #[.int .i64 (uFold ((l.take k).map MV.F)).s, vE, vR] ∧ Own wr w.heap.size 69 7 edgC vE (uFold ((l.take k).map MV.F)).E ∧ Own wr w.heap.size 55 1 encR vR (uFold ((l.take k).map MV.F)).R) ∧ Blk wr w.heap.size 34 (nfaC 0 none 0 0 none 0 0) ∧ Below w.heap.size w wr) (fun i _ => n - (intOf i).toNat)
      case atStart => exact ⟨0, by omega, rfl, ⟨_, _, h6, Own.nil_ _ _ _ _ _, o5⟩, h25, hB5⟩
      case round =>
        clear h6 o5 h25 hB5
        obtain ⟨k, hk, rfl, ⟨vE, vR, hk6, hE, hR⟩, h2, hBw⟩ := hrel
        have hszw := hBw.size
        have hgk6 := hk6.lt
        have hbd := uFold_bound ((l.take k).map MV.F) (fun x hx => by
          obtain ⟨y, hy, rfl⟩ := List.mem_map.1 hx
          have hy2 := List.mem_of_mem_take hy
          exact ⟨HA.out y hy2, (HM.out y hy2).2.2⟩)
        rw [List.length_map, List.length_take, ← Hn.out, Nat.min_eq_left hk] at hbd
        by_cases hkn : k < n
        · have hkI : (k : Int) < n := by omega
          have hkl : k < l.length := by rw [← Hn.out]; exact hkn
          have hst : uFold ((l.take (k + 1)).map MV.F) = uStep (uFold ((l.take k).map MV.F)) l[k].F := by
            rw [List.take_succ_eq_append_getElem hkl, List.map_append, List.map_cons, List.map_nil, uFold_snoc]
          obtain ⟨F, hF⟩ : ∃ F, F = uFold ((l.take k).map MV.F) := ⟨_, rfl⟩
          rw [← hF] at hk6 hE hR hbd hst
          obtain ⟨hb1, hb2, hb3, hb4⟩ := hbd
          obtain ⟨ba, off, rfl, hba, hrows⟩ := hs.at_ (by omega)
          have hrow := (hrows k hkl).keep (hBw.block ba (by omega))
          have hmem : l[k] ∈ l := List.getElem_mem hkl
          obtain ⟨x, hx⟩ : ∃ x, x = l[k] := ⟨_, rfl⟩
          rw [← hx] at hrow hmem hst
          obtain ⟨hx1, hx2, hx3, hx4⟩ := HM.out x hmem
          obtain ⟨hx5, hx6⟩ := right_parts (HA.out x hmem)
          obtain ⟨⟨xs, xE, xR⟩, xA, xc, xB, xd⟩ := x
          simp only [MV.C] at hrow
          simp only at hx1 hx2 hx3 hx4 hx5 hx6 hst
          have Hst := Lib.hid hst
          have Hx6 := Lib.hid hx6
          clear hst hF hx hmem hrows hx6
          obtain ⟨ne, hne⟩ : ∃ q, q = xE.length := ⟨_, rfl⟩
          obtain ⟨nr, hnr⟩ : ∃ q, q = xR.length := ⟨_, rfl⟩
          rw [← hne, ← hnr] at hrow
          rw [← hne] at hx3
          rw [← hnr] at hx4 hx5
          have Hne := Lib.hid hne
          have Hnr := Lib.hid hnr
          have hkb : k < 1099511628000 := by omega
          have hxs0 : 0 ≤ xs := by omega
          have hxs1 : xs ≤ 1048576 := by omega
          clear hne hnr hx5
          go_upto_region 11 with (first | (refine wl_load_nfa_at rfl _ rfl _ _ rfl _ _ _ _ _ _ _ hrow ?_) | (refine wl_store_nfa rfl _ _ rfl _ _ _ _ _ _ _ _ rfl rfl 0 none 0 0 none 0 0 (Blk.new _ _ _) ?_; intro w3 h5 hg3))
          have hB3 := below_grown (below_alloc (Below.refl _ wr) (.cells #[.int .i64 0, .slice none 0 0, .slice none 0 0] 34)) hg3 (Nat.le_refl _)
          replace hBw := below_then hBw hB3
          replace h2 := blk_then h2 hB3
          replace hk6 := blk_then hk6 hB3
          replace hE := hE.then_ hB3
          replace hR := hR.then_ hB3
          obtain ⟨g8, hg8⟩ : ∃ g, g = wr.heap.size := ⟨_, rfl⟩
          rw [← hg8] at h5
          try rw [← hg8]
          have hg68 : g6 < g8 := by omega
          clear hB3 hg3 hrow hg8
          have c60 : w3.cell? ⟨g6, 0, none⟩ = some (.int .i64 F.s) := hk6.cellv (i := 0) rfl
          go_upto_region 12 with (fail)
          clear c60
          have hBq : Below w3.heap.size w3 (w3.alloc (.cells (edgC ⟨1, 0, F.s, 0⟩) 69)) := below_alloc (Below.refl _ _) _
          obtain ⟨Ae, ke, rfl, _, _⟩ := hE.shape
          obtain ⟨en, hen⟩ : ∃ x, x = (F.E).length := ⟨_, rfl⟩
          rw [← hen] at hE hk6
          try rw [← hen]
          have henb : en ≤ 1099513724928 := by omega
          have Hen := Lib.hid hen
          clear hen
          have c61 : w3.cell? ⟨g6, 1, none⟩ = some (.slice Ae en ke) := hk6.cellv (i := 1) rfl
          go_upto_region 13 with (first | (refine wl_buildE0 rfl _ rfl F.s rfl ?_) | (refine wl_one (d := ⟨1, 0, F.s, 0⟩) rfl _ rfl rfl ?_) | (at_builtin; refine park ?_))
          refine Parked.mk ?_
          clear c61
          have hEq := hE.then_ hBq
          have hRq := hR.then_ hBq
          have hkq := blk_then hk6 hBq
          have hBwq := below_then hBw hBq
          have hone := slice_one (enc := edgC) (size := 7) (y := ⟨1, 0, F.s, 0⟩) (w := w3.alloc (.cells (edgC ⟨1, 0, F.s, 0⟩) 69)) (g := w3.heap.size) (t := 69) (Blk.new _ _ _)
          obtain ⟨ie, hie, hye0, hye1, hye2⟩ := info_parts info_edge3
          refine wl_append _ rfl _ _ 31 rfl w.heap.size 69 ie _ 7 56 Try.underlying31 hie hye0 hye1 hye2 rfl (by decide) edgC_size edgC_one (.slice Ae _ ke) _ rfl hEq _ _ 1 1 [⟨1, 0, F.s, 0⟩] rfl rfl hone (by rw [← Hen.out]; unfold maxLen; omega) (by rw [← Hen.out]; omega) hBwq.size ?_
          intro v8 w8 hE8 hg8 _
          have hk8 : Blk w8 g6 34 _ := hkq.grown hg8 (fun e => own_blk_ne hEq hkq (by decide) e.symm)
          have hR8 := own_own hRq hEq hg8 (by decide)
          have h28 : Blk w8 w.heap.size 34 _ := (blk_then h2 hBq).grown hg8 (fun e => own_blk_ne hEq (blk_then h2 hBq) (by decide) e.symm)
          have h58 : Blk w8 g8 34 _ := (blk_then h5 hBq).grown hg8 (fun e => own_blk_ne hEq (blk_then h5 hBq) (by decide) e.symm)
          have hBw8 := hBwq.grown hg8 hBwq.size (fun j e => (hEq.lt j e).1)
          obtain ⟨A8, k8, rfl, _, _⟩ := hE8.shape
          obtain ⟨en8, hen8⟩ : ∃ q, q = ((F.E : List Edg) ++ [(⟨1, 0, F.s, 0⟩ : Edg)]).length := ⟨_, rfl⟩
          rw [← hen8] at hE8
          rw [← hen8]
          simp only [Act.put, List.setIfInBounds_toArray, List.set_cons_zero, List.set_cons_succ]
          clear hen8 hone hie hye0 hye1 hye2 hEq hRq hkq hg8 hE hR hk6 hBwq hBq
          go_upto_region 13 with (refine wl_store_cell rfl _ _ _ rfl g6 1 rfl _ _ #[.int .i64 F.s, .slice A8 en8 k8, vR] hk8 (by simp) info_edges1 rfl rfl rfl ?_; intro w9 hk9 hg9)
          have hE9 := own_box hE8 hk8 hg9 (by decide)
          have hR9 := own_box hR8 hk8 hg9 (by decide)
          have hBw9 := hBw8.grown hg9 (by have := hBw8.size; omega) (fun j e => by injection e with e; omega)
          have h29 := blk_grown h28 hg9 (by omega)
          have h59 := blk_grown h58 hg9 (by omega)
          clear hE8 hR8 hBw8 h28 h58 hk8 hg9 h5 h2
          have c81 : w9.cell? ⟨g8, 1, none⟩ = some (.slice xA ne xc) := h59.cellv (i := 1) rfl
          go_wp2_with (fail)
          clear c81
          obtain ⟨E0, hE0⟩ : ∃ q, q = F.E ++ [⟨1, 0, F.s, 0⟩] := ⟨_, rfl⟩
          have hE0l : E0.length ≤ 1099512676352 := by rw [hE0, List.length_append]; simp only [List.length_cons, List.length_nil]; omega
          rw [← hE0] at hE9
          have HE0 := Lib.hid hE0
          clear hE0
          go_loopw [43] (fun i wr => ∃ j : Nat, j ≤ ne ∧ i = .int .i64 j ∧ (∃ vE, Blk wr g6 34 #[.int .i64 F.s, vE, vR] ∧ Own wr w.heap.size 69 7 edgC vE (E0 ++ (xE.take j).map (shiftE F.s)) ∧ Own wr w.heap.size 55 1 encR vR F.R) ∧ Blk wr w.heap.size 34 (nfaC 0 none 0 0 none 0 0) ∧ Blk wr g8 34 (nfaC xs xA ne xc xB nr xd) ∧ Below w.heap.size w wr) (fun i _ => ne - (intOf i).toNat)
          case atStart => exact ⟨0, by omega, rfl, ⟨_, hk9, by rw [List.take_zero, List.map_nil, List.append_nil]; exact hE9, hR9⟩, h29, h59, hBw9⟩
          case round =>
            clear hk9 hE9 hR9 h29 h59 hBw9 hBw
            obtain ⟨j, hj, rfl, ⟨vE2, hk6, hE, hR⟩, h2, h5, hBw⟩ := hrel
            have hszz := hBw.size
            have hgk6 := hk6.lt
            have hgk8 := h5.lt
            have c81 : wr.cell? ⟨g8, 1, none⟩ = some (.slice xA ne xc) := h5.cellv (i := 1) rfl
            by_cases hjn : j < ne
            · have hjI : (j : Int) < ne := by omega
              have hjl : j < xE.length := by rw [← Hne.out]; exact hjn
              obtain ⟨be, oe, rfl, hbe, hre⟩ := hx1.at_ (by omega)
              have hrowe := (hre j hjl).keep (hBw.block be (by omega))
              obtain ⟨dd, hdd⟩ : ∃ q, q = xE[j] := ⟨_, rfl⟩
              have hst2 : (xE.take (j + 1)).map (shiftE F.s) = (xE.take j).map (shiftE F.s) ++ [shiftE F.s dd] := by
                rw [List.take_succ_eq_append_getElem hjl, List.map_append, ← hdd]; rfl
              rw [← hdd] at hrowe
              obtain ⟨q1, q2, q3, q4⟩ := Hx6.out dd (by rw [hdd]; exact List.getElem_mem hjl)
              have hlE : (E0 ++ (xE.take j).map (shiftE F.s)).length ≤ 1099513724928 := by
                rw [List.length_append, List.length_map, List.length_take]; omega
              have Hst2 := Lib.hid hst2
              have hjb : j < 1099511628000 := by omega
              clear hst2 hdd hre
              go_upto_region 16 with (first | (refine wl_load_edge_at rfl _ rfl _ _ rfl dd hrowe ?_) | (refine wl_store_edge rfl _ _ rfl _ _ rfl rfl edge0 (Blk.new _ _ _) ?_; intro w3 h11 hg3))
              have hB3 := below_grown (below_alloc (Below.refl _ wr) (.cells #[.int .i64 0, .int .i64 0, .int .i64 0, .int .u64 0, .int .u64 0, .int .u64 0, .int .u64 0] 69)) hg3 (Nat.le_refl _)
              replace hBw := below_then hBw hB3
              replace h2 := blk_then h2 hB3
              replace h5 := blk_then h5 hB3
              replace hk6 := blk_then hk6 hB3
              have hltE := fun q hq => (hE.lt q hq).2
              replace hE := hE.then_ hB3
              replace hR := hR.then_ hB3
              obtain ⟨g11, hg11⟩ : ∃ g, g = wr.heap.size := ⟨_, rfl⟩
              rw [← hg11] at h11 hltE
              try rw [← hg11]
              have hg611 : g6 < g11 := by omega
              have hg811 : g8 < g11 := by omega
              clear hB3 hg3 hrowe c81 hg11
              have c111 : w3.cell? ⟨g11, 1, none⟩ = some (.int .i64 dd.fr) := h11.cellv (i := 1) rfl
              have c112 : w3.cell? ⟨g11, 2, none⟩ = some (.int .i64 dd.tt) := h11.cellv (i := 2) rfl
              have f111 := h11.frozen 1
              have f112 := h11.frozen 2
              go_upto_region 17 with (fail)
              have h11x : Blk ((w3.setCell ⟨g11, 1, none⟩ (.int .i64 (dd.fr + F.s))).setCell ⟨g11, 2, none⟩ (.int .i64 (dd.tt + F.s))) g11 69 (edgC (shiftE F.s dd)) := (h11.set_eq (i := 1) (u := .int .i64 (dd.fr + F.s)) rfl).set_eq (i := 2) (u := .int .i64 (dd.tt + F.s)) rfl
              have hgx : w3.grownBy ((w3.setCell ⟨g11, 1, none⟩ (.int .i64 (dd.fr + F.s))).setCell ⟨g11, 2, none⟩ (.int .i64 (dd.tt + F.s))) (some g11) := only_setCell (only_setCell (only_refl w3 (some g11)) (p := ⟨g11, 1, none⟩) (.inl rfl) _) (p := ⟨g11, 2, none⟩) (.inl rfl) _
              obtain ⟨w4, hw4⟩ : ∃ y, y = (w3.setCell ⟨g11, 1, none⟩ (.int .i64 (dd.fr + F.s))).setCell ⟨g11, 2, none⟩ (.int .i64 (dd.tt + F.s)) := ⟨_, rfl⟩
              rw [← hw4] at h11x hgx ⊢
              clear hw4
              replace hk6 := blk_grown hk6 hgx (by omega)
              replace h2 := blk_grown h2 hgx (by omega)
              replace h5 := blk_grown h5 hgx (by omega)
              replace hR := own_box hR h11 hgx (by decide)
              replace hE := hE.kept_ hgx (fun q e1 e2 => by have := hltE q e1; injection e2; omega)
              replace hBw := hBw.grown hgx (by have := hBw.size; omega) (fun q e => by injection e; omega)
              clear c111 c112 f111 f112 hgx h11 hltE
              have hBq : Below w4.heap.size w4 (w4.alloc (.cells (edgC (shiftE F.s dd)) 69)) := below_alloc (Below.refl _ _) _
              obtain ⟨Ae, ke, rfl, _, _⟩ := hE.shape
              obtain ⟨en, hen⟩ : ∃ x, x = (E0 ++ (xE.take j).map (shiftE F.s)).length := ⟨_, rfl⟩
              rw [← hen] at hE hk6
              try rw [← hen]
              have henb : en ≤ 1099513724928 := by omega
              have Hen := Lib.hid hen
              clear hen
              have c61 : w4.cell? ⟨g6, 1, none⟩ = some (.slice Ae en ke) := hk6.cellv (i := 1) rfl
              go_upto_region 18 with (first | (refine wl_load_edge rfl _ rfl g11 rfl _ h11x ?_) | (refine wl_one (d := (shiftE F.s dd)) rfl _ rfl rfl ?_) | (at_builtin; refine park ?_))
              refine Parked.mk ?_
              clear c61
              have hEq := hE.then_ hBq
              have hRq := hR.then_ hBq
              have hkq := blk_then hk6 hBq
              have hBwq := below_then hBw hBq
              have hone := slice_one (enc := edgC) (size := 7) (y := (shiftE F.s dd)) (w := w4.alloc (.cells (edgC (shiftE F.s dd)) 69)) (g := w4.heap.size) (t := 69) (Blk.new _ _ _)
              obtain ⟨ie, hie, hye0, hye1, hye2⟩ := info_parts info_edge3
              refine wl_append _ rfl _ _ 31 rfl w.heap.size 69 ie _ 7 56 Try.underlying31 hie hye0 hye1 hye2 rfl (by decide) edgC_size edgC_one (.slice Ae _ ke) _ rfl hEq _ _ 1 1 [(shiftE F.s dd)] rfl rfl hone (by rw [← Hen.out]; unfold maxLen; omega) (by rw [← Hen.out]; omega) hBwq.size ?_
              intro v8 w8 hE8 hg8 _
              have hk8 : Blk w8 g6 34 _ := hkq.grown hg8 (fun e => own_blk_ne hEq hkq (by decide) e.symm)
              have hR8 := own_own hRq hEq hg8 (by decide)
              have h28 : Blk w8 w.heap.size 34 _ := (blk_then h2 hBq).grown hg8 (fun e => own_blk_ne hEq (blk_then h2 hBq) (by decide) e.symm)
              have h58 : Blk w8 g8 34 _ := (blk_then h5 hBq).grown hg8 (fun e => own_blk_ne hEq (blk_then h5 hBq) (by decide) e.symm)
              have hBw8 := hBwq.grown hg8 hBwq.size (fun j e => (hEq.lt j e).1)
              obtain ⟨A8, k8, rfl, _, _⟩ := hE8.shape
              obtain ⟨en8, hen8⟩ : ∃ q, q = ((E0 ++ (xE.take j).map (shiftE F.s) : List Edg) ++ [((shiftE F.s dd) : Edg)]).length := ⟨_, rfl⟩
              rw [← hen8] at hE8
              rw [← hen8]
              simp only [Act.put, List.setIfInBounds_toArray, List.set_cons_zero, List.set_cons_succ]
              clear hen8 hone hie hye0 hye1 hye2 hEq hRq hkq hg8 hE hR hk6 hBwq hBq
              go_upto_region 18 with (refine wl_store_cell rfl _ _ _ rfl g6 1 rfl _ _ #[.int .i64 F.s, .slice A8 en8 k8, vR] hk8 (by simp) info_edges1 rfl rfl rfl ?_; intro w9 hk9 hg9)
              have hE9 := own_box hE8 hk8 hg9 (by decide)
              have hR9 := own_box hR8 hk8 hg9 (by decide)
              have hBw9 := hBw8.grown hg9 (by have := hBw8.size; omega) (fun j e => by injection e with e; omega)
              have h29 := blk_grown h28 hg9 (by omega)
              have h59 := blk_grown h58 hg9 (by omega)
              clear hE8 hR8 hBw8 h28 h58 hk8 hg9 h5 h2 h11x
              go_wp2_with (fail)
              exact ⟨⟨j + 1, by omega, rfl, ⟨_, hk9, by rw [Hst2.out, ← List.append_assoc]; exact hE9, hR9⟩, h29, h59, hBw9⟩, by simp only [intOf]; omega⟩
            · have hjI : ¬ (j : Int) < ne := by omega
              have hke : xE.take j = xE := List.take_of_length_le (by have := Hne.out; omega)
              rw [hke] at hE
              obtain ⟨Ar, kr, rfl, _, _⟩ := hR.shape
              obtain ⟨mr, hmr⟩ : ∃ q, q = F.R.length := ⟨_, rfl⟩
              rw [← hmr] at hR hk6
              try rw [← hmr]
              have hmrb : mr ≤ 1099513724928 := by omega
              have Hmr := Lib.hid hmr
              have c62 : wr.cell? ⟨g6, 2, none⟩ = some (.slice Ar mr kr) := hk6.cellv (i := 2) rfl
              have c82 : wr.cell? ⟨g8, 2, none⟩ = some (.slice xB nr xd) := h5.cellv (i := 2) rfl
              obtain ⟨iu, hiu, hyu0, hyu1, hyu2⟩ := info_parts info_r3
              clear hke hmr
              go_upto_region 20 with (at_builtin; refine park ?_)
              refine Parked.mk ?_
              clear c62 c82 c81
              refine wl_append _ rfl _ _ 32 rfl w.heap.size 55 iu _ 1 4 Try.underlying32 hiu hyu0 hyu1 hyu2 rfl (by decide) encR_size encR_one (.slice Ar _ kr) _ rfl hR _ xB nr xd xR rfl Hnr.out (hx2.below hBw) (by rw [← Hmr.out]; unfold maxLen; omega) (by rw [← Hmr.out]; omega) hBw.size ?_
              intro v8 w8 hR8 hg8 _
              have hk8 : Blk w8 g6 34 _ := hk6.grown hg8 (fun e => own_blk_ne hR hk6 (by decide) e.symm)
              have hE8 := own_own hE hR hg8 (by decide)
              have h28 : Blk w8 w.heap.size 34 _ := h2.grown hg8 (fun e => own_blk_ne hR h2 (by decide) e.symm)
              have h58 : Blk w8 g8 34 _ := h5.grown hg8 (fun e => own_blk_ne hR h5 (by decide) e.symm)
              have hBw8 := hBw.grown hg8 hBw.size (fun j e => (hR.lt j e).1)
              obtain ⟨A8, k8, rfl, _, _⟩ := hR8.shape
              simp only [Act.put, List.setIfInBounds_toArray, List.set_cons_zero, List.set_cons_succ]
              clear hiu hyu0 hyu1 hyu2 hg8 hE hR hk6 h2 h5 hBw
              go_upto_region 20 with (refine wl_store_cell rfl _ _ _ rfl g6 2 rfl _ _ #[.int .i64 F.s, vE2, .slice A8 _ k8] hk8 (by simp) info_rules1 rfl rfl rfl ?_; intro w9 hk9 hg9)
              have hE9 := own_box hE8 hk8 hg9 (by decide)
              have hR9 := own_box hR8 hk8 hg9 (by decide)
              have hBw9 := hBw8.grown hg9 (by have := hBw8.size; omega) (fun j e => by injection e with e; omega)
              have h29 := blk_grown h28 hg9 (by omega)
              have h59 := blk_grown h58 hg9 (by omega)
              clear hE8 hR8 hBw8 h28 h58 hk8 hg9
              have c60 : w9.cell? ⟨g6, 0, none⟩ = some (.int .i64 F.s) := hk9.cellv (i := 0) rfl
              have c80 : w9.cell? ⟨g8, 0, none⟩ = some (.int .i64 xs) := h59.cellv (i := 0) rfl
              have f60 := hk9.frozen 0
              go_upto_region 21 with (fail)
              have hk10 : Blk (w9.setCell ⟨g6, 0, none⟩ (.int .i64 (F.s + xs))) g6 34 #[.int .i64 (F.s + xs), vE2, .slice A8 _ k8] := hk9.set_eq (i := 0) (u := .int .i64 (F.s + xs)) rfl
              have hg10 : w9.grownBy (w9.setCell ⟨g6, 0, none⟩ (.int .i64 (F.s + xs))) (some g6) := only_setCell (only_refl w9 (some g6)) (p := ⟨g6, 0, none⟩) (.inl rfl) _
              obtain ⟨w10, hw10⟩ : ∃ y, y = w9.setCell ⟨g6, 0, none⟩ (.int .i64 (F.s + xs)) := ⟨_, rfl⟩
              rw [← hw10] at hk10 hg10 ⊢
              clear hw10 c60 c80 f60
              have hE10 := own_box hE9 hk9 hg10 (by decide)
              have hR10 := own_box hR9 hk9 hg10 (by decide)
              have hBw10 := hBw9.grown hg10 (by have := hBw9.size; omega) (fun j e => by injection e with e; omega)
              have h210 := blk_grown h29 hg10 (by omega)
              rw [HE0.out] at hE10
              clear hE9 hR9 hBw9 h29 h59 hk9 hg10
              go_wp2_with (fail)
              exact ⟨⟨k + 1, by omega, rfl, ⟨_, _, by rw [Hst.out]; exact hk10, by rw [Hst.out]; exact hE10, by rw [Hst.out]; exact hR10⟩, h210, hBw10⟩, by simp only [intOf]; omega⟩
        · have hkI : ¬ (k : Int) < n := by omega
          have hke : l.take k = l := List.take_of_length_le (by have := Hn.out; omega)
          rw [hke] at hk6 hE hR
          obtain ⟨F, hF⟩ : ∃ F, F = uFold (l.map MV.F) := ⟨_, rfl⟩
          have he := HE.out
          rw [← hF] at hk6 hE hR he
          have HEF := Lib.hid he
          obtain ⟨Ae, ke, rfl, _, _⟩ := hE.shape
          obtain ⟨Ar, kr, rfl, _, _⟩ := hR.shape
          have hk6n : Blk wr g6 34 (nfaC F.s Ae F.E.length ke Ar F.R.length kr) := hk6
          clear hke hF hbd he hk6
          go_wp2_with (first | (refine wl_load_nfa rfl _ rfl g6 rfl _ _ _ _ _ _ _ hk6n ?_) | (refine wl_store_nfa rfl _ _ rfl w.heap.size _ _ _ _ _ _ _ rfl rfl 0 none 0 0 none 0 0 h2 ?_; intro w7 h7 hg7))
          have hE7 := own_box hE h2 hg7 (by decide)
          have hR7 := own_box hR h2 hg7 (by decide)
          have hBe := hBw.grown hg7 (by omega) (fun j e => by injection e with e; omega)
          refine ret_nfa2 rfl rfl h7 rfl ?_
          refine ⟨hBe, .agg (nfaC F.s Ae F.E.length ke Ar F.R.length kr), ?_, ?_⟩
          · rw [HEF.out]; rfl
          · rw [HEF.out]
            exact ⟨Ae, ke, Ar, kr, rfl, hE7.slice_all edgC_size, hR7.slice_all encR_size⟩
end Go.Proofs.Ytgahdookojbbiaa
