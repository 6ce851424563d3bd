/- Part 3 of a proof; packed: the texts that it was made of follow one another. No condition beyond those named in each lemma. -/
import Derived.Test.YtkedgombccdamaaDoorPe1
import Derived.Test.YtkedgombccdamaaDoorPe2
import Derived.Test.YtkedgombccdamaaDoorProg
import Derived.Test.YtkedgombccdamaaDoorRows
import Derived.Below
import Derived.ChangeOld
import Derived.Deep.RegionWith
import Derived.Deep.Slices
import Derived.DeepKeys4
import Derived.Laws.CopyOwn
import Derived.Laws.Pointers
import Derived.Lib.Bytealg
import Derived.Lib.IndexLaws
import Derived.Lib.IndexMore
import Derived.Lib.Strings
import Derived.Lib.Walk
import Derived.LoopIn
import Derived.LoopNIn
import Derived.Maps.OwnOps
import Derived.Maps.OwnSet
import Derived.OpenShut
import Derived.OrdersIn
import Derived.OwnWalkIn
import Derived.ProofKit
import Derived.RangeFuncBound
import Derived.RangeFuncCalls
import Derived.RangeFuncFrom
import Derived.RangeFuncLeaves
import Derived.RangeFuncNested
import Derived.Recover
import Derived.Shelf.Abstract
import Derived.Shelf.LaysM
import Derived.Shelf.RegionOpen
import Derived.Shelf.Small.Strs
import Derived.Shelf.Strings.Search1
import Derived.Shelf.Strings.Search2
import Derived.Shelf.Strings.Search3
import Derived.Shelf.Strings.Shaped
import Derived.ShutString
import Derived.SizedLaws
import Derived.Sort.CutIn
import Derived.TacticsInMore
import Derived.WideKeyPair
namespace Go.Proofs.YtkedgombccdamaaDoor
open Go.RowKit Go.Maps
set_option linter.unusedVariables false
set_option linter.unusedSimpArgs false
attribute [local go_sem] Oper.semAt_some

theorem gs_load_nfa {ops : Array Oper} {S : Nat → GSpec} {Q : Exit → Act → World → Prop} {i : Nat} {o : Oper} {a : Act} {w : World} (hw : Region.wanted o (yielded ops a.tmps) = true) (x : Operand) (ho : o.op = .load 25 x) (g : Nat) (hx : a.eval x = .pointer (some ⟨g, 0, none⟩)) (s : Int) (A : Option Addr) (n c : Nat) (B : Option Addr) (m d : Nat) (hg : Blk w g 25 (nfaC s A n c B m d))
    (hp : (S i).p (.agg (nfaC s A n c B m d)) w) : GStep Tryd.prog ops S Q i o a w :=
  gs_load hw _ x ho g hx _ _ hg _ Tryd.underlying25 rfl (info_nfaN.trans rfl) hp
theorem gs_add_nat {P : Program} {ops : Array Oper} {S : Nat → GSpec} {Q : Exit → Act → World → Prop} {i : Nat} {o : Oper} {a : Act} {w : World} (hw : Region.wanted o (yielded ops a.tmps) = true) (t t2 : TypeId) (x y : Operand) (ho : o.op = .binOp .add t x y t2) (p q r : Nat) (hx : a.eval x = .int .i64 p) (hy : a.eval y = .int .i64 q) (hr : p + q = r) (hr64 : r < 9223372036854775808)
    (hp : (S i).p (.int .i64 (r : Nat)) w) : GStep P ops S Q i o a w :=
  gs_bin hw _ _ _ x y ho _ _ _ hx hy (by rw [eqGuard_at_int]; rfl) (by
    have e : (p : Int) + q = r := by omega
    have e2 : IntKind.i64.wrap (r : Int) = r := by rw [IntKind.wrap_i64]; omega
    rw [binOp_add]
    simp [Op.intArith, e, e2]) hp
end Go.Proofs.YtkedgombccdamaaDoor
namespace Go.Proofs.YtkedgombccdamaaDoor
open Go.RowKit Go.Maps
set_option linter.unusedVariables false
set_option linter.unusedSimpArgs false
attribute [local go_sem] Oper.semAt_some

def shiftE (by_ : Int) (e : Edg) : Edg := ⟨e.kd, e.fr + by_, e.tt + by_, e.st⟩
def uStep (F x : NF) : NF := ⟨F.s + x.s, F.E ++ [⟨1, 0, F.s, 0⟩] ++ x.E.map (shiftE F.s), F.R ++ x.R⟩
def uFold (l : List NF) : NF := l.foldl uStep ⟨1, [], [0]⟩
structure MV where
  F : NF
  A : Option Addr
  c : Nat
  B : Option Addr
  d : Nat
def MV.C (x : MV) : Array Value := nfaC x.F.s x.A x.F.E.length x.c x.B x.F.R.length x.d
def MsIn (w : World) (B : Nat) (l : List MV) : Prop := ∀ x ∈ l, SliceOf w B 7 edgC x.A x.F.E ∧ SliceOf w B 1 encR x.B x.F.R ∧ x.F.E.length ≤ 1048576 ∧ x.F.R.length ≤ 1048576
theorem MsIn.low {w w' : World} {B : Nat} {l : List MV} (h : MsIn w B l) (hb : Below B w w') : MsIn w' B l := fun x hx => ⟨(h x hx).1.below hb, (h x hx).2.1.below hb, (h x hx).2.2⟩
theorem MsIn.more {w : World} {B B' : Nat} {l : List MV} (h : MsIn w B l) (hb : B ≤ B') : MsIn w B' l := fun x hx => ⟨(h x hx).1.more hb, (h x hx).2.1.more hb, (h x hx).2.2⟩
section
variable {ops : Array Oper} {rest : List Oper} {o : Oper} {a : Act} {w : World} {Q : Exit → Act → World → Prop}
end
end Go.Proofs.YtkedgombccdamaaDoor
namespace Go.Proofs.YtkedgombccdamaaDoor
open Go.RowKit Go.Maps
set_option linter.unusedVariables false
set_option linter.unusedSimpArgs false

section
variable {ops : Array Oper} {S : Nat → GSpec} {Q : Exit → Act → World → Prop} {i : Nat} {o : Oper} {a : Act} {w : World}
end
theorem build_sets1 (x : BSet) (w : World) : (Instr.buildSlice 83 1 #[(0, .agg (setC x))]).run Tryd.prog w = .ok (.slice (some ⟨w.heap.size, 0, none⟩) 1 1) (w.alloc (.cells (setC x) 52)) := by kernel_rfl
theorem wl_build1 {ops : Array Oper} {rest : List Oper} {o : Oper} {a : Act} {w : World} {Q : Exit → Act → World → Prop} (hgd : o.guard = none) (x : Operand) (ho : o.op = .buildSlice 83 1 #[(0, x)]) (y : BSet) (hx : a.eval x = .agg (setC y))
    (h : wpList Tryd.prog ops Q rest (a.put o.dst (.slice (some ⟨w.heap.size, 0, none⟩) 1 1)) (w.alloc (.cells (setC y) 52))) : wpList Tryd.prog ops Q (o :: rest) a w :=
  wpList_plain hgd fun _ hK => by
    have e : (#[(0, x)] : Array (Nat × Operand)).map (fun (i, x) => (i, a.eval x)) = #[(0, .agg (setC y))] := by simp [hx]
    unfold Oper.wp execOp
    simp only [ho, e, Sem.run_bind, build_sets1, Result.andThen_ok, Sem.run_pure]
    exact hK _ _ h
end Go.Proofs.YtkedgombccdamaaDoor
namespace Go.Proofs.YtkedgombccdamaaDoor
open Go.RowKit Go.Maps
set_option linter.unusedVariables false
set_option linter.unusedSimpArgs false

structure Turn (lo hi : Nat) (w w' : World) : Prop where
  os : w'.os = w.os
  tape : w'.tape = w.tape
  output : w'.output = w.output
  size : w.heap.size ≤ w'.heap.size
  block : ∀ k, k < w.heap.size → (k < lo ∨ hi ≤ k) → w'.heap[k]? = w.heap[k]?
section
variable {lo hi N g : Nat} {w w' w2 : World} {t : TypeId} {cs : Array Value}
theorem Turn.refl (lo hi : Nat) (w : World) : Turn lo hi w w := ⟨rfl, rfl, rfl, Nat.le_refl _, fun _ _ _ => rfl⟩
theorem Turn.trans (h : Turn lo hi w w') (k : Turn lo hi w' w2) : Turn lo hi w w2 := ⟨k.os.trans h.os, k.tape.trans h.tape, k.output.trans h.output, Nat.le_trans h.size k.size, fun j hj hh => (k.block j (by have := h.size; omega) hh).trans (h.block j hj hh)⟩
theorem Turn.of_below (h : Below w.heap.size w w') : Turn lo hi w w' := ⟨h.os, h.tape, h.output, h.size, fun k hk _ => h.block k hk⟩
theorem Turn.then_ (h : Turn lo hi w w') (k : Below w'.heap.size w' w2) : Turn lo hi w w2 := h.trans (Turn.of_below k)
theorem Turn.grown {row : Option Nat} (h : Turn lo hi w w') (hg : w'.grownBy w2 row) (hr : ∀ g, row = some g → (lo ≤ g ∧ g < hi) ∨ w.heap.size ≤ g) : Turn lo hi w w2 :=
  ⟨hg.os.trans h.os, hg.tape.trans h.tape, hg.output.trans h.output, Nat.le_trans h.size hg.size, fun k hk hh => (hg.block k (by have := h.size; omega) (fun e => by
    have := hr k e.symm
    omega)).trans (h.block k hk hh)⟩
theorem Turn.below (h : Turn lo hi w w') (h1 : N ≤ lo) (h2 : N ≤ w.heap.size) : Below N w w' := ⟨h.os, h.tape, h.output, h.size, fun k hk => h.block k (by omega) (.inl (by omega))⟩
theorem blk_turn (h : Blk w g t cs) (hm : Turn lo hi w w') (hg : g < lo ∨ hi ≤ g) : Blk w' g t cs := (hm.block g h.lt hg).trans h
end
end Go.Proofs.YtkedgombccdamaaDoor
namespace Go.Proofs.YtkedgombccdamaaDoor
open Go.RowKit Go.Maps
set_option linter.unusedVariables false
set_option linter.unusedSimpArgs false
attribute [local go_sem] Oper.semAt_some

theorem digits_le (p : ByteArray) : ∀ k i n m, (Ere.digits p k i n m).2.1 ≤ i + k ∧ i ≤ (Ere.digits p k i n m).2.1
  | 0, i, n, m => by unfold Ere.digits; exact ⟨Nat.le_refl _, Nat.le_refl _⟩
  | k + 1, i, n, m => by
    unfold Ere.digits
    split
    · have := digits_le p k (i + 1) (10 * n + (Ere.chr p i - 48)) (m + 1)
      omega
    · exact ⟨by simp, by simp⟩
end Go.Proofs.YtkedgombccdamaaDoor
namespace Go.Proofs.YtkedgombccdamaaDoor
open Go.RowKit Go.Maps
set_option linter.unusedVariables false
set_option linter.unusedSimpArgs false

/-- a node's cells, as one thing -/
structure NV where
  kd : Int
  st : BSet
  A : Option Addr
  n : Nat
  c : Nat
  mi : Int
  ma : Int
def NV.C (x : NV) : Array Value := nodeC x.kd x.st x.A x.n x.c x.mi x.ma
theorem NV.size (x : NV) : x.C.size = 8 := rfl
theorem NV.one (x : NV) : x.C.all (·.oneCell') = true := nodeC_one _ _ _ _ _ _ _
/-- the block that a slice lies in -/
def ownL (A : Option Addr) : List Nat := match A with
  | none => []
  | some a => [a.block]
theorem mem_ownL {A : Option Addr} {n c b : Nat} : b ∈ ownL A ↔ (Value.slice A n c).ownBlock = some b := by
  cases A with
  | none => simp [ownL, Value.ownBlock]
  | some a => simp [ownL, Value.ownBlock, eq_comm]
/-- a tree of which each list lies in a block of its own, from B on; the blocks -/
inductive NdO (w : World) (B : Nat) : Nd → NV → List Nat → Prop
  | mk (kd : Int) (st : BSet) (l : List Nd) (mi ma : Int) (A : Option Addr) (n c : Nat) (cl : List NV) (bl : List (List Nat)) (hn : n = l.length) (hcl : cl.length = l.length) (hbl : bl.length = l.length) (hmax : n ≤ 1099511627776)
      (ho : Own w B 54 8 NV.C (.slice A n c) cl) (hr : ∀ (i : Nat) (h : i < l.length) (h2 : i < cl.length) (h3 : i < bl.length), NdO w B l[i] cl[i] bl[i]) (hd : (ownL A ++ bl.flatten).Nodup) :
      NdO w B (.mk kd st l mi ma) ⟨kd, st, A, n, c, mi, ma⟩ (ownL A ++ bl.flatten)
/-- a list of such trees -/
structure NdL (w : World) (B : Nat) (A : Option Addr) (n c : Nat) (l : List Nd) (cl : List NV) (bl : List (List Nat)) : Prop where
  hn : n = l.length
  hcl : cl.length = l.length
  hbl : bl.length = l.length
  hmax : n ≤ 1099511627776
  ho : Own w B 54 8 NV.C (.slice A n c) cl
  hr : ∀ (i : Nat) (h : i < l.length) (h2 : i < cl.length) (h3 : i < bl.length), NdO w B l[i] cl[i] bl[i]
  hd : (ownL A ++ bl.flatten).Nodup
theorem NdL.node {w : World} {B : Nat} {A : Option Addr} {n c : Nat} {l : List Nd} {cl : List NV} {bl : List (List Nat)} (h : NdL w B A n c l cl bl) (kd : Int) (st : BSet) (mi ma : Int) : NdO w B (.mk kd st l mi ma) ⟨kd, st, A, n, c, mi, ma⟩ (ownL A ++ bl.flatten) :=
  .mk kd st l mi ma A n c cl bl h.hn h.hcl h.hbl h.hmax h.ho h.hr h.hd
theorem NdO.list {w : World} {B : Nat} {kd : Int} {st : BSet} {l : List Nd} {mi ma : Int} {x : NV} {bs : List Nat} (h : NdO w B (.mk kd st l mi ma) x bs) :
    ∃ A n c cl bl, x = ⟨kd, st, A, n, c, mi, ma⟩ ∧ bs = ownL A ++ bl.flatten ∧ NdL w B A n c l cl bl := by
  cases h with
  | mk kd st l mi ma A n c cl bl hn hcl hbl hmax ho hr hd => exact ⟨A, n, c, cl, bl, rfl, rfl, hn, hcl, hbl, hmax, ho, hr, hd⟩
theorem mem_flat_at {bl : List (List Nat)} {b : Nat} (h : b ∈ bl.flatten) : ∃ (i : Nat) (hi : i < bl.length), b ∈ bl[i] := by
  obtain ⟨l, hl, hb⟩ := List.mem_flatten.1 h
  obtain ⟨i, hi, rfl⟩ := List.mem_iff_getElem.1 hl
  exact ⟨i, hi, hb⟩
theorem flat_at_mem {bl : List (List Nat)} {b i : Nat} (hi : i < bl.length) (h : b ∈ bl[i]) : b ∈ bl.flatten := List.mem_flatten.2 ⟨_, List.getElem_mem hi, h⟩
theorem NdO.lt {w : World} {B : Nat} {nd : Nd} {x : NV} {bs : List Nat} (h : NdO w B nd x bs) : ∀ b ∈ bs, B ≤ b ∧ b < w.heap.size := by
  induction h with
  | mk kd st l mi ma A n c cl bl hn hcl hbl hmax ho hr hd ih =>
    intro b hb
    rcases List.mem_append.1 hb with hb | hb
    · exact ho.lt b (mem_ownL.1 hb)
    · obtain ⟨i, hi, hb⟩ := mem_flat_at hb
      exact ih i (by omega) (by omega) hi b hb
theorem NdL.lt {w : World} {B : Nat} {A : Option Addr} {n c : Nat} {l : List Nd} {cl : List NV} {bl : List (List Nat)} (h : NdL w B A n c l cl bl) : ∀ b ∈ ownL A ++ bl.flatten, B ≤ b ∧ b < w.heap.size := (h.node 0 0 0 0).lt
theorem own_block {α : Type} {enc : α → Array Value} {size base : Nat} {e : TypeId} {w w' : World} {v : Value} {ys : List α} (h : Own w base e size enc v ys) (hk : ∀ j, v.ownBlock = some j → w'.heap[j]? = w.heap[j]?) : Own w' base e size enc v ys := by
  obtain ⟨h1, h2⟩ := h
  refine ⟨h1, ?_⟩
  rcases h2 with h2 | ⟨g, cap, cur, hv, hg, hh, r⟩
  · exact .inl h2
  · exact .inr ⟨g, cap, cur, hv, hg, (hk g (by rw [hv]; rfl)).trans hh, r⟩
theorem NdO.keep {w w' : World} {B : Nat} {nd : Nd} {x : NV} {bs : List Nat} (h : NdO w B nd x bs) (hk : ∀ b ∈ bs, w'.heap[b]? = w.heap[b]?) : NdO w' B nd x bs := by
  induction h with
  | mk kd st l mi ma A n c cl bl hn hcl hbl hmax ho hr hd ih =>
    exact .mk kd st l mi ma A n c cl bl hn hcl hbl hmax (own_block ho fun j hj => hk j (List.mem_append_left _ (mem_ownL.2 hj)))
      (fun i h1 h2 h3 => ih i h1 h2 h3 fun b hb => hk b (List.mem_append_right _ (flat_at_mem h3 hb))) hd
theorem NdL.keep {w w' : World} {B : Nat} {A : Option Addr} {n c : Nat} {l : List Nd} {cl : List NV} {bl : List (List Nat)} (h : NdL w B A n c l cl bl) (hk : ∀ b ∈ ownL A ++ bl.flatten, w'.heap[b]? = w.heap[b]?) : NdL w' B A n c l cl bl :=
  ⟨h.hn, h.hcl, h.hbl, h.hmax, own_block h.ho fun j hj => hk j (List.mem_append_left _ (mem_ownL.2 hj)), fun i h1 h2 h3 => (h.hr i h1 h2 h3).keep fun b hb => hk b (List.mem_append_right _ (flat_at_mem h3 hb)), h.hd⟩
theorem NdO.mono {w : World} {B B' : Nat} {nd : Nd} {x : NV} {bs : List Nat} (h : NdO w B nd x bs) (hB : B' ≤ B) : NdO w B' nd x bs := by
  induction h with
  | mk kd st l mi ma A n c cl bl hn hcl hbl hmax ho hr hd ih => exact .mk kd st l mi ma A n c cl bl hn hcl hbl hmax (ho.mono hB) ih hd
theorem NdL.mono {w : World} {B B' : Nat} {A : Option Addr} {n c : Nat} {l : List Nd} {cl : List NV} {bl : List (List Nat)} (h : NdL w B A n c l cl bl) (hB : B' ≤ B) : NdL w B' A n c l cl bl :=
  ⟨h.hn, h.hcl, h.hbl, h.hmax, h.ho.mono hB, fun i h1 h2 h3 => (h.hr i h1 h2 h3).mono hB, h.hd⟩
theorem NdO.turn {w w' : World} {B g : Nat} {nd : Nd} {x : NV} {bs : List Nat} (h : NdO w B nd x bs) (ht : Turn g (g + 1) w w') (hg : g < B) : NdO w' B nd x bs :=
  h.keep fun b hb => ht.block b (h.lt b hb).2 (.inr (by have := (h.lt b hb).1; omega))
theorem NdO.then_ {w w' : World} {B : Nat} {nd : Nd} {x : NV} {bs : List Nat} (h : NdO w B nd x bs) (ht : Below w.heap.size w w') : NdO w' B nd x bs := h.keep fun b hb => ht.block b (h.lt b hb).2
theorem NdL.turn {w w' : World} {B g : Nat} {A : Option Addr} {n c : Nat} {l : List Nd} {cl : List NV} {bl : List (List Nat)} (h : NdL w B A n c l cl bl) (ht : Turn g (g + 1) w w') (hg : g < B) : NdL w' B A n c l cl bl :=
  h.keep fun b hb => ht.block b (h.lt b hb).2 (.inr (by have := (h.lt b hb).1; omega))
theorem NdL.then_ {w w' : World} {B : Nat} {A : Option Addr} {n c : Nat} {l : List Nd} {cl : List NV} {bl : List (List Nat)} (h : NdL w B A n c l cl bl) (ht : Below w.heap.size w w') : NdL w' B A n c l cl bl := h.keep fun b hb => ht.block b (h.lt b hb).2
theorem NdL.nil_ (w : World) (B : Nat) : NdL w B none 0 0 [] [] [] := ⟨rfl, rfl, rfl, by omega, Own.nil_ _ _ _ _ _, fun i h => absurd h (by simp), by simp [ownL]⟩
theorem NdL.one {w w' : World} {B g : Nat} {t : Nd} {x : NV} {bs : List Nat} (h : NdO w B t x bs) (hw : Below w.heap.size w w') (hg : w.heap.size ≤ g) (hb : Blk w' g 54 x.C) (hB : B ≤ w.heap.size) : NdL w' B (some ⟨g, 0, none⟩) 1 1 [t] [x] [bs] := by
  refine ⟨rfl, rfl, rfl, by omega, ?_, fun i h1 h2 h3 => ?_, ?_⟩
  · exact ⟨by simp [flat, NV.size], .inr ⟨g, 1, x.C, rfl, by omega, hb, Nat.le_refl _, by unfold maxLen; omega, by simp [NV.size], by rw [List.take_of_length_le (by simp [NV.size])]; simp [flat]⟩⟩
  · have e : i = 0 := by simpa using h1
    subst e
    exact h.then_ hw
  · simp only [ownL, List.flatten_cons, List.flatten_nil, List.append_nil, List.cons_append, List.nil_append, List.nodup_cons]
    refine ⟨fun hm => ?_, ?_⟩
    · have := (h.lt _ hm).2
      omega
    · cases h with
      | mk kd st l mi ma A n c cl bl hn hcl hbl hmax ho hr hd => exact hd
theorem NdO.nd {w : World} {B : Nat} {nd : Nd} {x : NV} {bs : List Nat} (h : NdO w B nd x bs) : bs.Nodup := by
  cases h with
  | mk kd st l mi ma A n c cl bl hn hcl hbl hmax ho hr hd => exact hd
/-- one more behind the list -/
theorem NdL.push {w w' : World} {B : Nat} {A : Option Addr} {n c : Nat} {l : List Nd} {cl : List NV} {bl : List (List Nat)} (h : NdL w B A n c l cl bl) {t : Nd} {x : NV} {bs : List Nat} (ht : NdO w B t x bs)
    (hdis : ∀ b ∈ bs, b ∉ ownL A ++ bl.flatten) (hmax : n + 1 ≤ 1099511627776) {v' : Value} (ho : Own w' B 54 8 NV.C v' (cl ++ [x])) (hg : w.grownBy w' (Value.slice A n c).ownBlock) (hv : v'.ownBlock = (Value.slice A n c).ownBlock ∨ v'.ownBlock = some w.heap.size) :
    ∃ A' c', v' = .slice A' (n + 1) c' ∧ NdL w' B A' (n + 1) c' (l ++ [t]) (cl ++ [x]) (bl ++ [bs]) := by
  obtain ⟨A', c', hv', _, _⟩ := ho.shape
  have hlen : (cl ++ [x]).length = n + 1 := by rw [List.length_append, h.hcl, ← h.hn]; rfl
  rw [hlen] at hv'
  subst hv'
  have hkeep : ∀ b, b < w.heap.size → b ∉ ownL A → w'.heap[b]? = w.heap[b]? := fun b hb hn => hg.block b hb (fun e => hn (mem_ownL.2 e.symm))
  have hnd := h.hd
  rw [List.nodup_append] at hnd
  obtain ⟨hA, hF, hAF⟩ := hnd
  refine ⟨A', c', rfl, by rw [List.length_append, ← h.hn]; rfl, by rw [List.length_append, List.length_append, h.hcl]; rfl, by rw [List.length_append, List.length_append, h.hbl]; rfl, hmax, ho, fun i h1 h2 h3 => ?_, ?_⟩
  · rw [List.length_append] at h1
    by_cases hi : i < l.length
    · rw [List.getElem_append_left hi, List.getElem_append_left (by have := h.hcl; omega), List.getElem_append_left (by have := h.hbl; omega)]
      have h3' : i < bl.length := by have := h.hbl; omega
      refine (h.hr i hi _ h3').keep fun b hb => hkeep b (NdO.lt (h.hr i hi (by have := h.hcl; omega) h3') b hb).2 fun hm => ?_
      exact hAF b hm b (flat_at_mem h3' hb) rfl
    · have e : i = l.length := by simp only [List.length_cons, List.length_nil] at h1; omega
      have q1 := h.hcl
      have q2 := h.hbl
      have e1 : (l ++ [t])[i] = t := by subst e; simp
      have e2 : (cl ++ [x])[i] = x := by have e : i = cl.length := by omega
                                         subst e; simp
      have e3 : (bl ++ [bs])[i] = bs := by have e : i = bl.length := by omega
                                           subst e; simp
      rw [e1, e2, e3]
      exact ht.keep fun b hb => hkeep b (ht.lt b hb).2 fun hm => hdis b hb (List.mem_append_left _ hm)
  · rw [List.flatten_append, List.flatten_cons, List.flatten_nil, List.append_nil, ← List.append_assoc]
    rw [List.nodup_append]
    refine ⟨?_, ht.nd, fun a ha b hb e => ?_⟩
    · rw [List.nodup_append]
      refine ⟨by cases A' <;> simp [ownL], hF, fun a ha b hb e => ?_⟩
      subst e
      rcases hv with hv | hv
      · exact hAF a (mem_ownL.2 (hv.symm.trans ((mem_ownL (n := n + 1) (c := c')).1 ha))) a hb rfl
      · have e2 := (mem_ownL (n := n + 1) (c := c')).1 ha
        rw [hv] at e2
        injection e2 with e2
        have := (h.lt a (List.mem_append_right _ hb)).2
        omega
    · subst e
      rcases List.mem_append.1 ha with ha | ha
      · rcases hv with hv | hv
        · exact hdis a hb (List.mem_append_left _ (mem_ownL.2 (hv.symm.trans ((mem_ownL (n := n + 1) (c := c')).1 ha))))
        · have e2 := (mem_ownL (n := n + 1) (c := c')).1 ha
          rw [hv] at e2
          injection e2 with e2
          have := (ht.lt a hb).2
          omega
      · exact hdis a hb (List.mem_append_right _ ha)
section
variable {ops : Array Oper} {rest : List Oper} {o : Oper} {a : Act} {w : World} {Q : Exit → Act → World → Prop}
end
end Go.Proofs.YtkedgombccdamaaDoor
namespace Go.Proofs.YtkedgombccdamaaDoor
open Go.RowKit Go.Maps
set_option linter.unusedVariables false
set_option linter.unusedSimpArgs false
attribute [local go_sem] Oper.semAt_some

theorem ret_step {P : Program} {f : FuncId} {vs : Array Value} {w : World} {S : GSpec} {v : Value} (hc : Calls P f vs w fun e w' => e = .returned v ∧ Below w.heap.size w w') (hp : ∀ w', S.p v w') : Calls P f vs w fun e w' => ∃ v, e = .returned v ∧ Below w.heap.size w w' ∧ S.p v w' :=
  hc.mono fun e w' h => ⟨v, h.1, h.2, hp w'⟩
end Go.Proofs.YtkedgombccdamaaDoor
namespace Go.Proofs.YtkedgombccdamaaDoor
open Go.RowKit Go.Maps
set_option linter.unusedVariables false
set_option linter.unusedSimpArgs false
attribute [local go_sem] Oper.semAt_some

namespace Ere
end Ere
/-- the library's variable holds some number -/
def Mx (w : World) : Prop := ∃ m : Int, w.cell? ⟨1, 0, none⟩ = some (.int .i64 m)
theorem Mx.size {w : World} (h : Mx w) : 1 < w.heap.size := by
  obtain ⟨m, hm⟩ := h
  by_cases e : 1 < w.heap.size
  · exact e
  · unfold World.cell? at hm
    simp [Array.getElem?_eq_none (show w.heap.size ≤ 1 by omega)] at hm
theorem Mx.turn {g : Nat} {w w' : World} (h : Mx w) (ht : Turn g (g + 1) w w') (h0 : 1 < g) : Mx w' := by
  have h1 := h.size
  obtain ⟨m, hm⟩ := h
  exact ⟨m, (World.cell?_of_block (w := w) (ht.block 1 h1 (.inl h0))).trans hm⟩
theorem Mx.then_ {w w' : World} (h : Mx w) (ht : Below w.heap.size w w') : Mx w' := h.turn (g := 2) (Turn.of_below ht) (by omega)
end Go.Proofs.YtkedgombccdamaaDoor
namespace Go.Proofs.YtkedgombccdamaaDoor
open Go.RowKit Go.Maps
set_option linter.unusedVariables false
set_option linter.unusedSimpArgs false

theorem Turn.one {g : Nat} {w w' : World} (h : Turn g (g + 1) w w') : w.grownBy w' (some g) := ⟨h.os, h.tape, h.output, h.size, fun k hk hn => h.block k hk (by
  rcases Nat.lt_trichotomy k g with h1 | h1 | h1
  · exact .inl h1
  · exact absurd (by rw [h1]) hn
  · exact .inr h1)⟩
end Go.Proofs.YtkedgombccdamaaDoor
namespace Go.Proofs.YtkedgombccdamaaDoor
open Go.RowKit Go.Maps
set_option linter.unusedVariables false
set_option linter.unusedSimpArgs false
attribute [local go_sem] Oper.semAt_some

namespace Ere
end Ere
theorem Mx.grown {w w' : World} {row : Option Nat} (h : Mx w) (hg : w.grownBy w' row) (h0 : row ≠ some 1) : Mx w' := by
  have h1 := h.size
  obtain ⟨m, hm⟩ := h
  exact ⟨m, (World.cell?_of_block (w := w) (hg.block 1 h1 (fun e => h0 e.symm))).trans hm⟩
end Go.Proofs.YtkedgombccdamaaDoor
namespace Go.Proofs.YtkedgombccdamaaDoor
open Go.RowKit Go.Maps
set_option linter.unusedVariables false
set_option linter.unusedSimpArgs false
attribute [local go_sem] Oper.semAt_some

namespace Ere
end Ere
theorem Turn.set {lo hi b i : Nat} {w w' : World} {v : Value} (h : Turn lo hi w w') (h1 : lo ≤ b) (h2 : b < hi) : Turn lo hi w (w'.setCell ⟨b, i, none⟩ v) :=
  h.grown (only_setCell (World.grownBy.refl w' (some b)) (.inl rfl) v) (fun q e => by injection e with e; left; omega)
end Go.Proofs.YtkedgombccdamaaDoor
namespace Go.Proofs.YtkedgombccdamaaDoor
set_option linter.unusedVariables false
set_option linter.unusedSimpArgs false

mutual
/-- how many nodes have a list that is not empty -/
def Nd.cnt : Nd → Nat
  | .mk _ _ l _ _ => (if l.isEmpty then 0 else 1) + Nd.cnts l
def Nd.cnts : List Nd → Nat
  | [] => 0
  | x :: l => x.cnt + Nd.cnts l
end
namespace Ere
section
variable {p : ByteArray}
end
end Ere
end Go.Proofs.YtkedgombccdamaaDoor
namespace Go.Proofs.YtkedgombccdamaaDoor
open Go.RowKit Go.Maps
set_option linter.unusedVariables false
set_option linter.unusedSimpArgs false
attribute [local go_sem] Oper.semAt_some

theorem NdIn.more {w : World} {B B' : Nat} (hB : B ≤ B') {nd : Nd} {cs : Array Value} (h : NdIn w B nd cs) : NdIn w B' nd cs := by
  induction h with
  | mk kd st l mi ma A n c cl hn hcl hmax hs hr ih => exact .mk kd st l mi ma A n c cl hn hcl hmax (hs.more hB) ih
section
variable {ops : Array Oper} {rest : List Oper} {o : Oper} {a : Act} {w : World} {Q : Exit → Act → World → Prop}
end
section
variable {ops : Array Oper} {S : Nat → GSpec} {Q : Exit → Act → World → Prop} {i : Nat} {o : Oper} {a : Act} {w : World}
end
end Go.Proofs.YtkedgombccdamaaDoor
namespace Go.Proofs.YtkedgombccdamaaDoor
open Go.RowKit Go.Maps
set_option linter.unusedVariables false
set_option linter.unusedSimpArgs false
attribute [local go_sem] Oper.semAt_some

/-- a block of ints -/
def IntBlk (w : World) (k : Nat) : Prop := ∃ cs, Blk w k 3 cs
/-- what may turn: block g; blocks of ints from lo on -/
structure TR (lo g : Nat) (w w' : World) : Prop where
  os : w'.os = w.os
  tape : w'.tape = w.tape
  output : w'.output = w.output
  size : w.heap.size ≤ w'.heap.size
  block : ∀ k, k < w.heap.size → k ≠ g → (k < lo ∨ ¬ IntBlk w k) → w'.heap[k]? = w.heap[k]?
section
variable {lo g : Nat} {w w' w2 : World}
theorem TR.refl (lo g : Nat) (w : World) : TR lo g w w := ⟨rfl, rfl, rfl, Nat.le_refl _, fun _ _ _ _ => rfl⟩
theorem int_eq {k : Nat} (e : w'.heap[k]? = w.heap[k]?) (h : IntBlk w' k) : IntBlk w k := by
  obtain ⟨cs, h⟩ := h
  exact ⟨cs, e.symm.trans h⟩
theorem TR.trans (h : TR lo g w w') (k : TR lo g w' w2) : TR lo g w w2 :=
  ⟨k.os.trans h.os, k.tape.trans h.tape, k.output.trans h.output, Nat.le_trans h.size k.size, fun j hj hn hh => by
    have e := h.block j hj hn hh
    refine (k.block j (Nat.lt_of_lt_of_le hj h.size) hn ?_).trans e
    rcases hh with hh | hh
    · exact .inl hh
    · exact .inr fun hI => hh (int_eq e hI)⟩
theorem TR.of_turn (h : Turn g (g + 1) w w') : TR lo g w w' := ⟨h.os, h.tape, h.output, h.size, fun k hk hn _ => h.block k hk (by omega)⟩
theorem TR.of_below (h : Below w.heap.size w w') : TR lo g w w' := TR.of_turn (Turn.of_below h)
theorem TR.then_ (h : TR lo g w w') (k : Below w'.heap.size w' w2) : TR lo g w w2 := h.trans (TR.of_below k)
theorem TR.turn (h : TR lo g w w') (k : Turn g (g + 1) w' w2) : TR lo g w w2 := h.trans (TR.of_turn k)
theorem TR.grown {row : Option Nat} (h : TR lo g w w') (hg : w'.grownBy w2 row) (hr : ∀ b, row = some b → b = g ∨ w.heap.size ≤ b ∨ (lo ≤ b ∧ IntBlk w' b)) : TR lo g w w2 :=
  ⟨hg.os.trans h.os, hg.tape.trans h.tape, hg.output.trans h.output, Nat.le_trans h.size hg.size, fun j hj hn hh => by
    have e := h.block j hj hn hh
    refine (hg.block j (Nat.lt_of_lt_of_le hj h.size) (fun er => ?_)).trans e
    rcases hr j er.symm with h1 | h1 | ⟨h1, h2⟩
    · exact hn h1
    · omega
    · rcases hh with hh | hh
      · omega
      · exact hh (int_eq e h2)⟩
theorem own_typed {α : Type} {enc : α → Array Value} {size base : Nat} {e : TypeId} {v : Value} {ys : List α} (h : Own w base e size enc v ys) : ∀ b, v.ownBlock = some b → ∃ cs, Blk w b e cs := by
  intro b hb
  rcases h.2 with ⟨hv, _⟩ | ⟨k, cap, cur, hv, _, hh, _⟩
  · rw [hv] at hb; cases hb
  · rw [hv] at hb
    simp only [Value.ownBlock, Option.some.injEq] at hb
    subst hb
    exact ⟨cur, hh⟩
theorem NdO.typed {B : Nat} {nd : Nd} {x : NV} {bs : List Nat} (h : NdO w B nd x bs) : ∀ b ∈ bs, ∃ cs, Blk w b 54 cs := by
  induction h with
  | mk kd st l mi ma A n c cl bl hn hcl hbl hmax ho hr hd ih =>
    intro b hb
    rcases List.mem_append.1 hb with hb | hb
    · exact own_typed ho b (mem_ownL.1 hb)
    · obtain ⟨q, hq, hb⟩ := List.mem_flatten.1 hb
      obtain ⟨i, hi, rfl⟩ := List.mem_iff_getElem.1 hq
      exact ih i (by omega) (by omega) hi b hb
theorem NdO.tr {B : Nat} {nd : Nd} {x : NV} {bs : List Nat} (h : NdO w B nd x bs) (k : TR lo g w w') (hg : g < B) : NdO w' B nd x bs :=
  h.keep fun b hb => k.block b (h.lt b hb).2 (by have := (h.lt b hb).1; omega) (.inr fun ⟨cs', h'⟩ => by
    obtain ⟨cs, hc⟩ := h.typed b hb
    have e := hc.symm.trans h'
    injection e with e
    injection e with _ e
    exact absurd e (by decide))
theorem NdL.tr {B : Nat} {A : Option Addr} {n c : Nat} {l : List Nd} {cl : List NV} {bl : List (List Nat)} (h : NdL w B A n c l cl bl) (k : TR lo g w w') (hg : g < B) : NdL w' B A n c l cl bl :=
  h.keep fun b hb => k.block b (h.lt b hb).2 (by have := (h.lt b hb).1; omega) (.inr fun ⟨cs', h'⟩ => by
    obtain ⟨cs, hc⟩ := (h.node 0 0 0 0).typed b hb
    have e := hc.symm.trans h'
    injection e with e
    injection e with _ e
    exact absurd e (by decide))
def encO (z : Int) : Array Value := #[.int .i64 z]
theorem encO_size (z : Int) : (encO z).size = 1 := rfl
/-- the places of the groups that are open: an own list; only its length matters -/
def OpenOk (w : World) (lo : Nat) (A : Option Addr) (n c : Nat) : Prop := ∃ xs : List Int, xs.length = n ∧ Own w lo 3 1 encO (.slice A n c) xs
variable {A : Option Addr} {n c : Nat}
theorem OpenOk.nil_ (w : World) (lo : Nat) : OpenOk w lo none 0 0 := ⟨[], rfl, Own.nil_ _ _ _ _ _⟩
theorem OpenOk.keep (h : OpenOk w lo A n c) (hk : ∀ b, (Value.slice A n c).ownBlock = some b → w'.heap[b]? = w.heap[b]?) : OpenOk w' lo A n c := by
  obtain ⟨xs, h1, h2⟩ := h
  exact ⟨xs, h1, own_block h2 hk⟩
theorem OpenOk.lt (h : OpenOk w lo A n c) : ∀ b, (Value.slice A n c).ownBlock = some b → lo ≤ b ∧ b < w.heap.size := by
  obtain ⟨xs, h1, h2⟩ := h
  exact h2.lt
theorem OpenOk.typed (h : OpenOk w lo A n c) : ∀ b, (Value.slice A n c).ownBlock = some b → IntBlk w b := by
  obtain ⟨xs, h1, h2⟩ := h
  exact own_typed h2
theorem OpenOk.ne (h : OpenOk w lo A n c) {b : Nat} {t : TypeId} {cs : Array Value} (hb : Blk w b t cs) (ht : t ≠ 3) : ∀ k, (Value.slice A n c).ownBlock = some k → k ≠ b := by
  rintro k hk rfl
  obtain ⟨cs', h'⟩ := h.typed k hk
  have e := hb.symm.trans h'
  injection e with e
  injection e with _ e
  exact ht e
theorem OpenOk.then_ (h : OpenOk w lo A n c) (hb : Below w.heap.size w w') : OpenOk w' lo A n c := h.keep fun b hk => hb.block b (h.lt b hk).2
theorem OpenOk.turn (h : OpenOk w lo A n c) {t : TypeId} {cs : Array Value} (hb : Blk w g t cs) (ht : t ≠ 3) (k : Turn g (g + 1) w w') : OpenOk w' lo A n c :=
  h.keep fun b hk => k.block b (h.lt b hk).2 (by have := h.ne hb ht b hk; omega)
theorem OpenOk.grown {r : Nat} (h : OpenOk w lo A n c) {t : TypeId} {cs : Array Value} (hb : Blk w r t cs) (ht : t ≠ 3) (hg : w.grownBy w' (some r)) : OpenOk w' lo A n c :=
  h.keep fun b hk => hg.block b (h.lt b hk).2 (fun e => h.ne hb ht b hk (by injection e))
theorem OpenOk.pop {A : Option Addr} {n c : Nat} (h : OpenOk w lo A (n + 1) c) : OpenOk w lo A n c := by
  obtain ⟨xs, h1, h2⟩ := h
  obtain ⟨k, cap, hv, _⟩ := h2.form (by omega)
  injection hv with hA hn hc
  subst hA
  have hx : xs = xs.take n ++ xs.drop n := (List.take_append_drop n xs).symm
  refine ⟨xs.take n, by simp; omega, ?_⟩
  unfold Own at h2 ⊢
  rw [hx, flat_append, List.take_append_drop, h1] at h2
  have hl : (xs.take n).length = n := by simp; omega
  rw [hl]
  exact ownsRow_pop (by rw [flat_length encO_size, hl]) h2
end
end Go.Proofs.YtkedgombccdamaaDoor
namespace Go.Proofs.YtkedgombccdamaaDoor
open Go.RowKit Go.Maps
set_option linter.unusedVariables false
set_option linter.unusedSimpArgs false
attribute [local go_sem] Oper.semAt_some

namespace Ere
end Ere
theorem gs_index_str {ops : Array Oper} {S : Nat → GSpec} {Q : Exit → Act → World → Prop} {i : Nat} {o : Oper} {a : Act} {w : World} (hw : Region.wanted o (yielded ops a.tmps) = true) (x y : Operand) (ho : o.op = .index 9 x y)
    (p : ByteArray) (n : Nat) (hx : a.eval x = .string p) (hy : a.eval y = .int .i64 (n : Int)) (hn : n < p.size) (hp : (S i).p (.int .u8 ((Ere.chr p n : Nat) : Int)) w) : GStep Tryd.prog ops S Q i o a w :=
  gs_run hw (v := .int .u8 ((Ere.chr p n : Nat) : Int)) (w' := w) (by
    unfold execOp Ere.chr
    simp only [ho, hx, hy, Sem.run_bind, run_index_string w 9 p .i64 (n : Int) Tryd.underlying9]
    rw [dif_pos ⟨by omega, by omega⟩, dif_pos hn]
    rfl) (Below.refl _ _) hp
end Go.Proofs.YtkedgombccdamaaDoor
namespace Go.Proofs.YtkedgombccdamaaDoor
open Go.RowKit Go.Maps
set_option linter.unusedVariables false
set_option linter.unusedSimpArgs false
attribute [local go_sem] Oper.semAt_some

/-- a block of lists of nodes -/
def LsBlk (w : World) (k : Nat) : Prop := ∃ cs, Blk w k 48 cs
/-- what may turn: blocks of lists of nodes from lo on -/
structure QT (lo : Nat) (w w' : World) : Prop where
  os : w'.os = w.os
  tape : w'.tape = w.tape
  output : w'.output = w.output
  size : w.heap.size ≤ w'.heap.size
  block : ∀ k, k < w.heap.size → (k < lo ∨ ¬ LsBlk w k) → w'.heap[k]? = w.heap[k]?
section
variable {lo : Nat} {w w' w2 : World}
theorem QT.refl (lo : Nat) (w : World) : QT lo w w := ⟨rfl, rfl, rfl, Nat.le_refl _, fun _ _ _ => rfl⟩
theorem QT.trans (h : QT lo w w') (k : QT lo w' w2) : QT lo w w2 :=
  ⟨k.os.trans h.os, k.tape.trans h.tape, k.output.trans h.output, Nat.le_trans h.size k.size, fun j hj hh => by
    have e := h.block j hj hh
    refine (k.block j (Nat.lt_of_lt_of_le hj h.size) ?_).trans e
    rcases hh with hh | hh
    · exact .inl hh
    · exact .inr fun ⟨cs, hI⟩ => hh ⟨cs, e.symm.trans hI⟩⟩
theorem QT.of_below (h : Below w.heap.size w w') : QT lo w w' := ⟨h.os, h.tape, h.output, h.size, fun k hk _ => h.block k hk⟩
theorem QT.then_ (h : QT lo w w') (k : Below w'.heap.size w' w2) : QT lo w w2 := h.trans (QT.of_below k)
theorem QT.grown {row : Option Nat} (h : QT lo w w') (hg : w'.grownBy w2 row) (hr : ∀ b, row = some b → w.heap.size ≤ b ∨ (lo ≤ b ∧ LsBlk w' b)) : QT lo w w2 :=
  ⟨hg.os.trans h.os, hg.tape.trans h.tape, hg.output.trans h.output, Nat.le_trans h.size hg.size, fun j hj hh => by
    have e := h.block j hj hh
    refine (hg.block j (Nat.lt_of_lt_of_le hj h.size) (fun er => ?_)).trans e
    rcases hr j er.symm with h1 | ⟨h1, ⟨cs, h2⟩⟩
    · omega
    · rcases hh with hh | hh
      · omega
      · exact hh ⟨cs, e.symm.trans h2⟩⟩
theorem QT.below {N : Nat} (h : QT lo w w') (h2 : N ≤ lo) (h3 : N ≤ w.heap.size) : Below N w w' := ⟨h.os, h.tape, h.output, h.size, fun k hk => h.block k (by omega) (.inl (by omega))⟩
end
/-- a list of nodes that fills a block from its start -/
structure SL where
  blk : Nat
  n : Nat
  c : Nat
def SL.v (s : SL) : Value := .slice (some ⟨s.blk, 0, none⟩) s.n s.c
/-- such a list, in memory of its own -/
def OwnS (w : World) (B : Nat) (s : SL) : Prop := s.n ≤ 1099511627776 ∧ ∃ ys : List NV, Own w B 54 8 NV.C s.v ys
/-- lists of lists, no two in one block -/
def GL (w : World) (B : Nat) (L : List SL) (bs : List Nat) : Prop := (L.map SL.blk).Nodup ∧ ∀ s ∈ L, s.blk ∈ bs ∧ OwnS w B s
section
variable {w w' : World} {B lo : Nat} {L M : List SL} {bs cs : List Nat}
theorem GL.nil (w : World) (B : Nat) (bs : List Nat) : GL w B [] bs := ⟨List.nodup_nil, fun s h => by cases h⟩
theorem GL.sub (h : GL w B L bs) (hb : ∀ b ∈ bs, b ∈ cs) : GL w B L cs := ⟨h.1, fun s hs => ⟨hb _ (h.2 s hs).1, (h.2 s hs).2⟩⟩
theorem GL.append (h : GL w B L bs) (k : GL w B M cs) (hd : ∀ b ∈ bs, b ∉ cs) : GL w B (L ++ M) (bs ++ cs) := by
  refine ⟨?_, fun s hs => ?_⟩
  · rw [List.map_append, List.nodup_append]
    refine ⟨h.1, k.1, fun a ha b hb e => ?_⟩
    subst e
    obtain ⟨s, hs, rfl⟩ := List.mem_map.1 ha
    obtain ⟨t, ht, e⟩ := List.mem_map.1 hb
    exact hd _ (h.2 s hs).1 (e ▸ (k.2 t ht).1)
  · rcases List.mem_append.1 hs with hs | hs
    · exact ⟨List.mem_append_left _ (h.2 s hs).1, (h.2 s hs).2⟩
    · exact ⟨List.mem_append_right _ (k.2 s hs).1, (k.2 s hs).2⟩
theorem GL.one {s : SL} (h : OwnS w B s) : GL w B [s] [s.blk] := ⟨by simp, fun t ht => by rw [List.mem_singleton.1 ht]; exact ⟨by simp, h⟩⟩
end
end Go.Proofs.YtkedgombccdamaaDoor
namespace Go.Proofs.YtkedgombccdamaaDoor
open Go.RowKit Go.Shelf Go.Maps
set_option linter.unusedVariables false
set_option linter.unusedSimpArgs false

theorem ruleD_lt {R : List Nat} (hR : ∀ r ∈ R, r < 4294967296) (n : Nat) : R.getD n 0 < 4294967296 := by
  rw [List.getD_eq_getElem?_getD]
  by_cases h : n < R.length
  · rw [List.getElem?_eq_getElem h]
    exact hR _ (List.getElem_mem h)
  · rw [List.getElem?_eq_none (Nat.le_of_not_lt h)]
    decide
theorem or_lt32 {a b : Nat} (ha : a < 4294967296) (hb : b < 4294967296) : a ||| b < 4294967296 := Nat.or_lt_two_pow (n := 32) ha hb
theorem bits_low {x y n : Nat} (h : ∀ i, i < n → x.testBit i = y.testBit i) : bitsTo x n = bitsTo y n := by
  induction n with
  | zero => rfl
  | succ n ih => rw [bitsTo_succ, bitsTo_succ, ih fun i hi => h i (by omega), h n (by omega)]
theorem bits_add {y t N : Nat} (ht : t < N) (hy : y.testBit t = false) : (bitsTo (y ||| 2 ^ t) N).length = (bitsTo y N).length + 1 := by
  induction N with
  | zero => omega
  | succ N ih =>
    rw [bitsTo_succ, bitsTo_succ, testBit_or_pow]
    by_cases e : t = N
    · subst e
      rw [hy, bits_low (x := y ||| 2 ^ t) (y := y) (n := t) (fun i hi => by rw [testBit_or_pow]; have : ¬ t = i := by omega
                                                                            simp [this])]
      simp
    · have := ih (by omega)
      simp only [e, decide_false, Bool.or_false]
      split
      · simp [this]
      · exact this
/-- more of a set's bits -/
theorem bits_grow {y z N q : Nat} (hyz : ∀ i, y.testBit i = true → z.testBit i = true) (hz : below z N) (hq : q < N) (h1 : z.testBit q = false) : (bitsTo y N).length < (bitsTo (z ||| 2 ^ q) N).length := by
  rw [bits_add hq h1]
  have : (bitsTo y N).length ≤ (bitsTo z N).length := by
    unfold bitsTo
    have key : ∀ l : List Nat, (l.filter y.testBit).length ≤ (l.filter z.testBit).length := fun l => by
      induction l with
      | nil => simp
      | cons a l ih =>
        simp only [List.filter_cons]
        cases hy : y.testBit a
        · cases z.testBit a <;> simp <;> omega
        · rw [hyz a hy]; simp; exact ih
    exact key _
  omega
def encB (b : Bool) : Array Value := #[.bool b]
theorem encB_size (b : Bool) : (encB b).size = 1 := rfl
theorem encB_one (b : Bool) : (encB b).all (·.oneCell') = true := by simp [encB, Value.oneCell']
def boolsN (x N : Nat) : List Bool := (List.range N).map x.testBit
theorem boolsN_length (x N : Nat) : (boolsN x N).length = N := by simp [boolsN]
theorem boolsN_get (x N i : Nat) (h : i < (boolsN x N).length) : (boolsN x N)[i] = x.testBit i := by simp [boolsN]
theorem boolsN_zero (N : Nat) : boolsN 0 N = List.replicate N false := by
  apply List.ext_getElem
  · simp [boolsN]
  · intro i h1 h2
    simp [boolsN]
theorem boolsN_set (x N q : Nat) : (boolsN x N).set q true = boolsN (x ||| 2 ^ q) N := by
  apply List.ext_getElem
  · simp [boolsN]
  · intro i h1 h2
    rw [List.getElem_set, boolsN_get, boolsN_get, testBit_or_pow]
    by_cases e : q = i
    · simp [e]
    · simp [e]
/-- how many of a row's cells are true -/
def trueAt (w : World) (g i : Nat) : Bool := match w.cell? ⟨g, i, none⟩ with | some (.bool true) => true | _ => false
def trues (w : World) (g N : Nat) : Nat := ((List.range N).filter (trueAt w g)).length
theorem trues_own {w : World} {base g n c x N : Nat} (h : Own w base 4 1 encB (.slice (some ⟨g, 0, none⟩) n c) (boolsN x N)) : trues w g N = (bitsTo x N).length := by
  unfold trues bitsTo
  congr 1
  apply List.filter_congr
  intro i hi
  rw [List.mem_range] at hi
  have hl : i < (boolsN x N).length := by rw [boolsN_length]; exact hi
  have := h.row encB_size i hl 0 _ rfl
  rw [boolsN_get] at this
  unfold trueAt
  have h2 : w.cell? ⟨g, i, none⟩ = some (.bool (x.testBit i)) := by
    rw [Nat.mul_one] at this
    exact this
  rw [h2]
  cases x.testBit i <;> rfl
theorem under_bools : Tryd.prog.underlying 68 = some (.slice (Tryd.prog.elem 68)) := by kernel_rfl
theorem size_boolE (w : World) : (sizeOf (Tryd.prog.elem 68)).run Tryd.prog w = .ok 1 w := by kernel_rfl
theorem info_bool3 : (Tryd.prog.info? 4).map (fun i => (i.zero, i.size, i.bytes)) = some (some (.bool false), 1, 1) := by kernel_rfl
/-- a store of one cell into a row of the call's own -/
theorem wl_store_one {α : Type} {enc : α → Array Value} {base : Nat} {e : TypeId} {w : World} {ys : List α} {ops : Array Oper} {rest : List Oper} {o : Oper} {a : Act} {Q : Exit → Act → World → Prop} (hsE : ∀ y, (enc y).size = 1) (hgd : o.guard = none) (t : TypeId) (hsz : (Tryd.prog.info? t).map (·.size) = some 1) (x y : Operand) (ho : o.op = .store t x y)
    (g k n cap : Nat) (hx : a.eval x = .pointer (some ⟨g, k, none⟩)) (z : α) (hy : (enc z).toList = [a.eval y]) (hyc : (a.eval y).cells = #[a.eval y]) (hy1 : (a.eval y).oneCell' = true) (hown : Own w base e 1 enc (.slice (some ⟨g, 0, none⟩) n cap) ys) (hk : k < ys.length)
    (h : ∀ w', Own w' base e 1 enc (.slice (some ⟨g, 0, none⟩) n cap) (ys.set k z) → w.grownBy w' (some g) → wpList Tryd.prog ops Q rest (a.put o.dst undef) w') : wpList Tryd.prog ops Q (o :: rest) a w := by
  have hcell : ∃ u, w.cell? ⟨g, k, none⟩ = some u ∧ (enc ys[k]).toList = [u] := by
    have h0 : 0 < (enc ys[k]).size := by rw [hsE]; decide
    have := hown.row hsE k hk 0 _ (Array.getElem?_eq_getElem h0)
    rw [Nat.mul_one] at this
    refine ⟨_, this, ?_⟩
    apply List.ext_getElem
    · simp [hsE]
    · intro i h1 h2
      have : i = 0 := by simpa using h2
      subst this
      simp
  obtain ⟨u, hcell, hu⟩ := hcell
  have hfr := hown.frozen k
  obtain ⟨v, hv⟩ : ∃ v, a.eval y = v := ⟨_, rfl⟩
  rw [hv] at hy hyc hy1
  have hrun : (storeVar t ⟨g, k, none⟩ v).run Tryd.prog w = .ok () (w.setCell ⟨g, k, none⟩ v) := by
    cases hq : Tryd.prog.info? t with
    | none => rw [hq] at hsz; cases hsz
    | some j =>
      have hs : j.size = 1 := by rw [hq] at hsz; simpa using hsz
      have e := run_store Tryd.prog w ⟨g, k, none⟩ v .plain hy1
      simp only [hcell, hfr, Bool.false_eq_true, if_false] at e
      have e0 : (⟨g, k, none⟩ : Addr).add 0 = ⟨g, k, none⟩ := rfl
      simp [storeVar, sizeOf, typeInfo, hq, hs, hyc, storeCells, e0, e]
  refine wpList_plain hgd fun _ hK => ?_
  unfold Oper.wp execOp
  simp only [ho, hx, hv, Instr.storeAt, Instr.sureAddr, Sem.run_bind, Sem.run_pure, Result.andThen_ok, hrun]
  have o1 := hown.setCell (i := k) (q := 0) (y' := z) (u := v) hsE hk (by decide) (by rw [hu, hy]; rfl)
  rw [Nat.mul_one, Nat.add_zero] at o1
  exact hK _ _ (h _ o1 (only_setCell (only_refl _ _) (.inl rfl) _))
/-- the machine that a caller handed in, in memory that stays -/
structure RMach (B0 : Nat) (W : World) (N : Nat) (E : List Edg) (R : List Nat) (A : Option Addr) (n : Nat) (B : Option Addr) (m : Nat) : Prop where
  fits : Fits N E R
  nE : n = E.length
  mR : m = N
  lE : E.length ≤ 1099511627776
  lN : N ≤ 1099511627776
  lt : ∀ r ∈ R, r < 4294967296
  edges : SliceOf W B0 7 edgC A E
  rules : SliceOf W B0 1 encR B R
  low : B0 ≤ W.heap.size
theorem RMach.then_ {B0 N n m : Nat} {W W' : World} {E : List Edg} {R : List Nat} {A B : Option Addr} (h : RMach B0 W N E R A n B m) (hb : Below W.heap.size W W') : RMach B0 W' N E R A n B m :=
  ⟨h.fits, h.nE, h.mR, h.lE, h.lN, h.lt, h.edges.keep (fun k hk => hb.block k (Nat.lt_of_lt_of_le hk h.low)), h.rules.keep (fun k hk => hb.block k (Nat.lt_of_lt_of_le hk h.low)), Nat.le_trans h.low hb.size⟩
theorem RMach.grown {B0 N n m r : Nat} {W W' : World} {E : List Edg} {R : List Nat} {A B : Option Addr} (h : RMach B0 W N E R A n B m) (hg : W.grownBy W' (some r)) (hr : B0 ≤ r) : RMach B0 W' N E R A n B m :=
  ⟨h.fits, h.nE, h.mR, h.lE, h.lN, h.lt, h.edges.keep (fun k hk => hg.block k (Nat.lt_of_lt_of_le hk h.low) (by simp; omega)), h.rules.keep (fun k hk => hg.block k (Nat.lt_of_lt_of_le hk h.low) (by simp; omega)), Nat.le_trans h.low hg.size⟩
section
variable {w : World} {ops : Array Oper} {rest : List Oper} {o : Oper} {a : Act} {Q : Exit → Act → World → Prop}
theorem wl_makeB (hgd : o.guard = none) (x y : Operand) (ho : o.op = .makeSlice 68 x y) (N base : Nat) (hx : a.eval x = .int .i64 N) (hy : a.eval y = .int .i64 N) (hN : N ≤ 1099511627776) (hb : base ≤ w.heap.size)
    (h : ∀ w', Own w' base 4 1 encB (.slice (some ⟨w.heap.size, 0, none⟩) N N) (boolsN 0 N) → Below w.heap.size w w' → wpList Tryd.prog ops Q rest (a.put o.dst (.slice (some ⟨w.heap.size, 0, none⟩) N N)) w') : wpList Tryd.prog ops Q (o :: rest) a w := by
  obtain ⟨i0, hi0, hz0, hz1, hz2⟩ := info_parts info_bool3
  refine wpList_make_full w hgd x y _ ho base 4 i0 _ 1 Tryd.underlying68 hi0 hz0 hz1 _ _ _ _ N hx hy rfl rfl (by rw [hz2]; omega) (by unfold maxLen; omega) hb fun w' r1 r2 => ?_
  have e1 : (madeCells (Value.bool false).cells (N * 1)).toList = flat encB (boolsN 0 N) := by
    rw [boolsN_zero]
    apply List.ext_getElem
    · rw [Array.length_toList, size_madeCells]
      simp [flat, encB]
    · intro j h1 h2
      simp [madeCells, Value.cells, flat, encB, List.flatMap_replicate]
      rw [Nat.mod_one]
      rfl
  rw [e1] at r1
  refine h w' ?_ ⟨r2.os, r2.tape, r2.output, r2.size, fun k hk => r2.block k hk (by simp)⟩
  unfold Own
  rw [boolsN_length]
  exact r1
end
theorem info_bool1 : (Tryd.prog.info? 4).map (·.size) = some 1 := by kernel_rfl
end Go.Proofs.YtkedgombccdamaaDoor
namespace Go.Proofs.YtkedgombccdamaaDoor
open Go.RowKit Go.Shelf Go.Maps
set_option linter.unusedVariables false
set_option linter.unusedSimpArgs false
attribute [local go_sem] Oper.semAt_some

theorem own_turn {α : Type} {enc : α → Array Value} {size base lo hi b n c : Nat} {e : TypeId} {w w' : World} {ys : List α} (h : Own w base e size enc (.slice (some ⟨b, 0, none⟩) n c) ys) (k : Turn lo hi w w') (hb : b < lo ∨ hi ≤ b) : Own w' base e size enc (.slice (some ⟨b, 0, none⟩) n c) ys :=
  own_block h fun g hg => by
    have : b = g := by simpa [Value.ownBlock] using hg
    subst this
    exact k.block b (h.lt b rfl).2 hb
theorem RMach.turn {B0 N n m lo hi : Nat} {W W' : World} {E : List Edg} {R : List Nat} {A B : Option Addr} (h : RMach B0 W N E R A n B m) (k : Turn lo hi W W') (hl : B0 ≤ lo) : RMach B0 W' N E R A n B m :=
  ⟨h.fits, h.nE, h.mR, h.lE, h.lN, h.lt, h.edges.keep (fun j hj => k.block j (Nat.lt_of_lt_of_le hj h.low) (by omega)), h.rules.keep (fun j hj => k.block j (Nat.lt_of_lt_of_le hj h.low) (by omega)), Nat.le_trans h.low k.size⟩
end Go.Proofs.YtkedgombccdamaaDoor
namespace Go.Proofs.YtkedgombccdamaaDoor
set_option linter.unusedVariables false
set_option linter.unusedSimpArgs false

namespace Mt
/-- the states at place k of the line, ahead of the free moves -/
noncomputable def mpre (E : List Edg) (N : Nat) (q : ByteArray) : Nat → Nat
  | 0 => 1
  | k + 1 => byteN E N (spreadN E N (decide (k = 0)) (decide (k = q.size)) (mpre E N q k)) (Ere.chr q k)
noncomputable def mx (E : List Edg) (N : Nat) (q : ByteArray) (k : Nat) : Nat := spreadN E N (decide (k = 0)) (decide (k = q.size)) (mpre E N q k)
/-- the rules that are met at the places ahead of k -/
noncomputable def mV (E : List Edg) (R : List Nat) (N : Nat) (q : ByteArray) : Nat → Nat
  | 0 => 0
  | k + 1 => mV E R N q k ||| metN R (mx E N q k) N
end Mt
end Go.Proofs.YtkedgombccdamaaDoor
namespace Go.Proofs.YtkedgombccdamaaDoor
open Go.RowKit Go.Shelf Go.Maps
set_option linter.unusedVariables false
set_option linter.unusedSimpArgs false
attribute [local go_sem] Oper.semAt_some

theorem own_grown' {α : Type} {enc : α → Array Value} {size base b r n c : Nat} {e : TypeId} {w w' : World} {ys : List α} (h : Own w base e size enc (.slice (some ⟨b, 0, none⟩) n c) ys) (k : w.grownBy w' (some r)) (hb : b ≠ r) : Own w' base e size enc (.slice (some ⟨b, 0, none⟩) n c) ys :=
  own_block h fun g hg => by
    have : b = g := by simpa [Value.ownBlock] using hg
    subst this
    exact k.block b (h.lt b rfl).2 (by simp; exact hb)
end Go.Proofs.YtkedgombccdamaaDoor
namespace Go.Proofs.YtkedgombccdamaaDoor
open Go.RowKit Go.Maps
set_option linter.unusedVariables false
set_option linter.unusedSimpArgs false
attribute [local go_sem] Oper.semAt_some

/-- an array of bytes, by its list -/
def arrB (l : List UInt8) : Array Value := (l.map fun b => Value.int .u8 b.toNat).toArray
theorem arrB_size (l : List UInt8) : (arrB l).size = l.length := by simp [arrB]
theorem arrB_set (l : List UInt8) (i : Nat) (b : UInt8) (h : i < l.length) : (arrB l).setIfInBounds i (.int .u8 (b.toNat : Int)) = arrB (l.set i b) := by
  unfold arrB
  rw [List.setIfInBounds_toArray, List.map_set]
theorem put_digit (i : Nat) (b : UInt8) (suf : List UInt8) : ((List.replicate (i + 1) (0 : UInt8)) ++ suf).set i b = List.replicate i 0 ++ b :: suf := by
  rw [List.replicate_succ', List.append_assoc, List.set_append_right _ _ (by simp)]
  simp
def digStr : ByteArray := ⟨#[48, 49, 50, 51, 52, 53, 54, 55, 56, 57, 97, 98, 99, 100, 101, 102, 103, 104, 105, 106, 107, 108, 109, 110, 111, 112, 113, 114, 115, 116, 117, 118, 119, 120, 121, 122]⟩
theorem digStr_get : ∀ n, n < 36 → digStr.data.getD n 0 = dg n := by decide
theorem digStr_at (n : Nat) (h : n < 36) (h2 : n < digStr.size) : digStr[n] = dg n := by
  rw [← digStr_get n h]
  show digStr.data[n] = _
  have h3 : n < digStr.data.size := h2
  rw [Array.getD_eq_getD_getElem?, Array.getElem?_eq_getElem h3]
  rfl
theorem run_digit (w : World) (k : IntKind) (n : Nat) (h : n < 36) : (Instr.index 9 (.string digStr) (.int k (n : Int))).run Tryd.prog w = .ok (.int .u8 ((dg n).toNat : Int)) w := by
  rw [run_index_string w 9 digStr k (n : Int) Tryd.underlying9, dif_pos ⟨by omega, by show (n : Int) < 36; omega⟩]
  rw [← digStr_at n h h]
  rfl
theorem zeros65 : Tryd.zeroCells190 = arrB (List.replicate 65 0) := by kernel_rfl
section
variable {ops : Array Oper} {rest : List Oper} {o : Oper} {a : Act} {w : World} {Q : Exit → Act → World → Prop}
theorem wl_digit (hgd : o.guard = none) (x y : Operand) (ho : o.op = .index 9 x y) (hx : a.eval x = .string digStr) (k : IntKind) (n : Nat) (h : n < 36) (hy : a.eval y = .int k (n : Int))
    (hK : wpList Tryd.prog ops Q rest (a.put o.dst (.int .u8 ((dg n).toNat : Int))) w) : wpList Tryd.prog ops Q (o :: rest) a w :=
  wl_run hgd (v := .int .u8 ((dg n).toNat : Int)) (by unfold execOp; simp only [ho, hx, hy, Sem.run_bind, run_digit w k n h, Result.andThen_ok, Sem.run_pure]) hK
end
theorem under_a65 : Tryd.prog.underlying 190 = some (.array (Tryd.prog.arrayLen 190) (Tryd.prog.elem 190)) := by kernel_rfl
theorem len_a65 : Tryd.prog.arrayLen 190 = 65 := by kernel_rfl
theorem size_a65 (w : World) : (sizeOf (Tryd.prog.elem 190)).run Tryd.prog w = .ok 1 w := by kernel_rfl
theorem run_arrfrom (w : World) (ga j : Nat) (h : j < 65) : (Instr.sliceAt 190 (.pointer (some ⟨ga, 0, none⟩)) (some (.int .i64 (j : Int))) none none).run Tryd.prog w = .ok (.slice (some ⟨ga, j, none⟩) (65 - j) (65 - j)) w := by
  rw [run_sliceAt_array_l (P := Tryd.prog) w 190 ⟨ga, 0, none⟩ under_a65 .i64 (j : Int) (by omega) (by rw [len_a65]; omega), size_a65, Result.andThen_ok, len_a65]
  unfold slicedAt
  rw [if_neg (by omega)]
  simp [Addr.add]
  exact fun h => h.symm
section
variable {ops : Array Oper} {rest : List Oper} {o : Oper} {a : Act} {w : World} {Q : Exit → Act → World → Prop}
theorem wl_arrfrom (hgd : o.guard = none) (x y : Operand) (ho : o.op = .slice 190 x (some y) none none) (ga j : Nat) (h : j < 65) (hx : a.eval x = .pointer (some ⟨ga, 0, none⟩)) (hy : a.eval y = .int .i64 (j : Int))
    (hK : wpList Tryd.prog ops Q rest (a.put o.dst (.slice (some ⟨ga, j, none⟩) (65 - j) (65 - j))) w) : wpList Tryd.prog ops Q (o :: rest) a w :=
  wl_run hgd (v := .slice (some ⟨ga, j, none⟩) (65 - j) (65 - j)) (by unfold execOp; simp only [ho, Option.map_none, Option.map_some, hx, hy, Sem.run_bind, run_arrfrom w ga j h, Result.andThen_ok, Sem.run_pure]) hK
end
theorem arrB_slice {w : World} {ga j : Nat} {t : TypeId} {suf : List UInt8} (h : Blk w ga t (arrB (List.replicate j 0 ++ suf))) : SliceOf w w.heap.size 1 enc8 (some ⟨ga, j, none⟩) suf := by
  refine .inr ⟨ga, j, rfl, h.lt, fun i hi k v hv => ?_⟩
  have hk : k = 0 := by
    have : k < (enc8 suf[i]).size := by
      rcases Nat.lt_or_ge k (enc8 suf[i]).size with h1 | h1
      · exact h1
      · rw [Array.getElem?_eq_none h1] at hv; cases hv
    simpa [enc8] using this
  subst hk
  refine h.cellv ?_
  rw [← hv]
  have e : (List.replicate j (0 : UInt8) ++ suf)[j + i * 1 + 0]? = some suf[i] := by
    rw [List.getElem?_append_right (by simp)]
    simp
  unfold arrB
  rw [List.getElem?_toArray, List.getElem?_map, e]
  rfl
theorem info_u8s : (Tryd.prog.info? 5).map (·.size) = some 1 := by kernel_rfl
theorem pow36_any (w : World) : Calls Tryd.prog 123 #[.int .i64 36] w fun e w' => e = .returned (.bool false) ∧ w' = w := by
  go_enter Tryd.func123, Tryd.ntmps123
  go_wp2_with (fail)
  go_ret
  exact ⟨rfl, rfl⟩
set_option maxRecDepth 100000 in
set_option maxHeartbeats 4000000 in
theorem bits36_any (u : Nat) (hu : u < 18446744073709551616) (w : World) :
    Calls Tryd.prog 110 #[.slice none 0 0, .int .u64 (u : Int), .int .i64 36, .bool false, .bool false] w fun e w' => e = .returned (.tuple #[.slice none 0 0, .string ⟨(dig36 u).toArray⟩]) ∧ Below w.heap.size w w' := by
  go_enter Tryd.func110, Tryd.ntmps110
  go_upto_region 4 with (fail)
  rw [zeros65]
  have hA := Blk.new w 190 (arrB (List.replicate 65 0))
  have hB1 : Below w.heap.size w (w.alloc (.cells (arrB (List.replicate 65 0)) 190)) := below_alloc (Below.refl _ _) _
  obtain ⟨W1, hW1⟩ : ∃ y, y = w.alloc (.cells (arrB (List.replicate 65 0)) 190) := ⟨_, rfl⟩
  obtain ⟨ga, hga⟩ : ∃ y, y = w.heap.size := ⟨_, rfl⟩
  have hgw : w.heap.size ≤ ga := by omega
  rw [← hga, ← hW1] at hA
  rw [← hW1] at hB1
  rw [← hga, ← hW1]
  clear hga hW1
  have hpow : u < 36 ^ 14 := Nat.lt_of_lt_of_le hu (by decide)
  have h0 : Hid (u < 36 ^ 14 ∧ dig36 u = (rev36 14 u).reverse ++ []) := Lib.hid ⟨hpow, by simp [dig36]⟩
  have hA' : Blk W1 ga 190 (arrB (List.replicate 65 0 ++ [])) := by rw [List.append_nil]; exact hA
  clear hpow hA
  go_wp2_with (go_at_call 123; refine (pow36_any _).mono ?_; rintro en wp ⟨rfl, hwp⟩; rw [hwp]; clear hwp)
  go_loopw [1, 13] (fun uv iv wr => ∃ (f v i : Nat) (suf : List UInt8), 1 ≤ f ∧ f ≤ 14 ∧ i = f + 51 ∧ uv = .int .u64 v ∧ iv = .int .i64 i ∧ v ≤ u ∧ suf.length + i = 65 ∧ Hid (v < 36 ^ f ∧ dig36 u = (rev36 f v).reverse ++ suf) ∧ Blk wr ga 190 (arrB (List.replicate i 0 ++ suf)) ∧ Below w.heap.size w wr) (fun uv _ _ => (intOf uv).toNat)
  case atStart => exact ⟨14, u, 65, [], by omega, by omega, rfl, rfl, rfl, by omega, rfl, h0, hA', hB1⟩
  case round =>
    clear h0 hA' hB1
    obtain ⟨f, v, i, suf, hf1, hf2, hi, rfl, rfl, hvu, hsl, Hr, hA, hB⟩ := hrel
    obtain ⟨j, hj⟩ : ∃ j, i = j + 1 := ⟨i - 1, by omega⟩
    have Hj := Lib.hid (And.intro hj (And.intro hi hsl))
    have hj1 : (i : Int) - 1 = (j : Int) := by omega
    have hj64 : j < 65 := by omega
    have hjI : (j : Int) < 65 := by omega
    have hj0 : ¬ (j : Int) < 0 := by omega
    have hA2 : Blk wr ga 190 (arrB (List.replicate (j + 1) 0 ++ suf)) := by rw [← hj]; exact hA
    have hsz : j < (arrB (List.replicate (j + 1) (0 : UInt8) ++ suf)).size := by rw [arrB_size]; simp; omega
    have hput := fun b : UInt8 => (arrB_set (List.replicate (j + 1) 0 ++ suf) j b (by simp; omega)).trans (congrArg arrB (put_digit j b suf))
    replace hput := Lib.hid hput
    clear hA hj hi hsl
    by_cases hv : v < 36
    · have hvI : (v : Int) < 36 := by omega
      have hfin : Hid (dig36 u = dg v :: suf) := by
        obtain ⟨r1, r2⟩ := Hr.out
        obtain ⟨f', rfl⟩ : ∃ f', f = f' + 1 := ⟨f - 1, by omega⟩
        rw [rev36, if_pos hv] at r2
        exact Lib.hid (by simpa using r2)
      have hlen : Hid (65 - j = (dg v :: suf).length) := Lib.hid (by have := Hj.out; simp; omega)
      go_wp2_with (first
        | (refine wl_digit rfl _ _ rfl rfl .u64 v hv rfl ?_)
        | (refine wl_store_cell rfl _ _ _ rfl ga j rfl 190 _ (arrB (List.replicate j 0 ++ dg v :: suf)) hA2 hsz info_u8s rfl rfl (hput.out _) ?_; intro w5 hA5 hg5)
        | (refine wl_arrfrom rfl _ _ rfl ga j hj64 rfl rfl ?_)
        | (refine wl_conv_str rfl _ rfl (dg v :: suf) rfl hlen.out (arrB_slice hA5) ?_))
      go_ret2
      exact ⟨by rw [hfin.out]; rfl, below_grown hB hg5 hgw⟩
    · have hvI : ¬ (v : Int) < 36 := by omega
      obtain ⟨d, hd⟩ : ∃ d, d = v % 36 := ⟨_, rfl⟩
      obtain ⟨v', hv'⟩ : ∃ x, x = v / 36 := ⟨_, rfl⟩
      have hd36 : d < 36 := by rw [hd]; exact Nat.mod_lt _ (by omega)
      have hdv : (v : Int) - (v' : Int) * 36 = (d : Int) := by omega
      have hdv2 : (v : Int) / 36 = (v' : Int) := by omega
      have hvl : v' < v := by omega
      have hdd := Lib.hid (And.intro hd hv')
      clear hd hv'
      go_wp2_with (first
        | (refine wl_digit rfl _ _ rfl rfl .u64 d hd36 rfl ?_)
        | (refine wl_store_cell rfl _ _ _ rfl ga j rfl 190 _ (arrB (List.replicate j 0 ++ dg d :: suf)) hA2 hsz info_u8s rfl rfl (hput.out _) ?_; intro w5 hA5 hg5))
      obtain ⟨e1, e2⟩ := hdd.out
      obtain ⟨q1, q2, q3⟩ := Hj.out
      obtain ⟨r1, r2⟩ := Hr.out
      have hf : 1 < f := by
        rcases Nat.lt_or_ge 1 f with h | h
        · exact h
        · have : f = 1 := by omega
          subst this
          simp at r1
          omega
      refine ⟨⟨f - 1, v', j, dg d :: suf, by omega, by omega, by omega, rfl, rfl, by omega, by simp; omega, Lib.hid ⟨?_, ?_⟩, hA5, below_grown hB hg5 hgw⟩, by simp only [intOf]; omega⟩
      · obtain ⟨f', rfl⟩ : ∃ f', f = f' + 1 := ⟨f - 1, by omega⟩
        rw [Nat.pow_succ] at r1
        rw [e2]
        exact Nat.div_lt_of_lt_mul (by simpa [Nat.mul_comm] using r1)
      · obtain ⟨f', rfl⟩ : ∃ f', f = f' + 1 := ⟨f - 1, by omega⟩
        rw [rev36, if_neg hv] at r2
        rw [r2, ← e1, ← e2]
        simp
theorem uint36_any (u : Nat) (hu : u < 18446744073709551616) (w : World) :
    Calls Tryd.prog 65 #[.int .u64 (u : Int), .int .i64 36] w fun e w' => e = .returned (.string ⟨(dig36 u).toArray⟩) ∧ Below w.heap.size w w' := by
  have k1 : Calls Tryd.prog 86 #[.int .u64 (u : Int), .int .i64 36] w fun e w' => e = .returned (.string ⟨(dig36 u).toArray⟩) ∧ Below w.heap.size w w' := by
    go_enter Tryd.func86, Tryd.ntmps86
    go_wp2_with (go_at_call 110; refine (bits36_any u hu w).mono ?_; rintro en w1 ⟨rfl, hB1⟩)
    go_ret
    exact ⟨rfl, hB1⟩
  go_enter Tryd.func65, Tryd.ntmps65
  go_wp2_with (go_at_call 86; refine k1.mono ?_; rintro en w1 ⟨rfl, hB1⟩)
  go_ret
  exact ⟨rfl, hB1⟩
end Go.Proofs.YtkedgombccdamaaDoor
namespace Go.Proofs.YtkedgombccdamaaDoor
set_option linter.unusedVariables false
set_option linter.unusedSimpArgs false

namespace Mt
/-- the places that a relation leads to from a set of places -/
noncomputable def im (n : Nat) (T : Rel) (x : Nat) : Nat := ofPred (fun j => ∃ i, x.testBit i = true ∧ T i j) (n + 1)
end Mt
end Go.Proofs.YtkedgombccdamaaDoor
namespace Go.Proofs.YtkedgombccdamaaDoor
set_option linter.unusedVariables false
set_option linter.unusedSimpArgs false

namespace Mt
/-- an edge between two numbers of states, of a kind that there is -/
def EgN (e : Edg) : Prop := 0 ≤ e.fr ∧ 0 ≤ e.tt ∧ 1 ≤ e.kd ∧ e.kd ≤ 4 ∧ (e.kd ≠ 2 → e.st = 0)
def AllN (m : Ly) : Prop := ∀ e ∈ m.e, EgN e
def KeepsN (f : LayF) : Prop := ∀ m a, AllN m → AllN (f m a).1
theorem AllN.edge {m : Ly} (h : AllN m) (kd : Int) (fr tt : Nat) (st : BSet) (h1 : 1 ≤ kd) (h2 : kd ≤ 4) (h3 : kd ≠ 2 → st = 0) : AllN (m.edge kd fr tt st) := by
  intro e he
  rcases List.mem_append.1 he with he | he
  · exact h e he
  · rw [List.mem_singleton] at he
    subst he
    exact ⟨by simp, by simp, h1, h2, h3⟩
theorem AllN.free {m : Ly} (h : AllN m) (fr tt : Nat) : AllN (m.free fr tt) := h.edge 1 fr tt 0 (by omega) (by omega) (fun _ => rfl)
theorem AllN.new {m : Ly} (h : AllN m) : AllN m.new := h
theorem AllN.frees (z : Nat) : ∀ (l : List Nat) (m : Ly), AllN m → AllN (m.frees z l)
  | [], m, h => h
  | x :: l, m, h => AllN.frees z l (m.free x z) (h.free x z)
theorem AllN.joined {m : Ly} (h : AllN m) (l : List Nat) : AllN (m.joined l).1 := AllN.frees _ l _ h.new
theorem KeepsN.reps {f : LayF} (h : KeepsN f) (r : Ly × Nat) (hr : AllN r.1) : ∀ n, AllN (reps f n r).1
  | 0 => hr
  | n + 1 => h _ _ (h.reps r hr n)
theorem KeepsN.opts {f : LayF} (h : KeepsN f) (r : (Ly × Nat) × List Nat) (hr : AllN r.1.1) : ∀ n, AllN (opts f n r).1.1
  | 0 => hr
  | n + 1 => h _ _ (h.opts r hr n)
theorem KeepsN.times {f : LayF} (h : KeepsN f) (u : Nat) (mi ma : Int) : KeepsN (timesP f u mi ma) := by
  intro m a hm
  unfold timesP
  split
  · exact hm
  split
  · exact ((h _ _ ((h.reps (m, a) hm _).new.free _ _)).free _ _).joined _
  split
  · exact (h.opts (_, _) (h.reps (m, a) hm _) _).joined _
  · exact h.reps (m, a) hm _
end Mt
end Go.Proofs.YtkedgombccdamaaDoor
namespace Go.Proofs.YtkedgombccdamaaDoor
open Go.RowKit Go.Maps
set_option linter.unusedVariables false
set_option linter.unusedSimpArgs false

namespace Mt
/-- the machine of a tree: how many states, which edges, which rules -/
def mN (nd : Nd) : Nat := (layF nd).1.s
def mE (nd : Nd) : List Edg := (layF nd).1.e
def mR (nd : Nd) (r : Nat) : List Nat := (List.replicate (layF nd).1.s 0).set (layF nd).2 (2 ^ r)
end Mt
end Go.Proofs.YtkedgombccdamaaDoor
namespace Go.Proofs.YtkedgombccdamaaDoor
set_option linter.unusedVariables false
set_option linter.unusedSimpArgs false

namespace Mt
section
variable {F x : NF} {N M : Nat} {q : ByteArray}
end
/-- what a machine meets -/
noncomputable def vF (q : ByteArray) (F : NF) : Nat := mV F.E F.R F.s.toNat q (q.size + 1)
end Mt
end Go.Proofs.YtkedgombccdamaaDoor
namespace Go.Proofs.YtkedgombccdamaaDoor
open Go.RowKit Go.Maps
set_option linter.unusedVariables false
set_option linter.unusedSimpArgs false
attribute [local go_sem] Oper.semAt_some

section
variable {ops : Array Oper} {rest : List Oper} {o : Oper} {a : Act} {w : World} {Q : Exit → Act → World → Prop}
theorem sliced_any (A : Option Addr) (m c s : Nat) : sliced A 0 m c s = .slice A m c := by
  unfold sliced
  cases A <;> split <;> simp [Addr.add]
/-- the front of a slice -/
theorem wl_front {P : Program} (hgd : o.guard = none) (t : TypeId) (x y : Operand) (ho : o.op = .slice t x none (some y) none)
    (hu : P.underlying t = some (.slice (P.elem t))) (sz : Nat) (hsz : ∀ w, (sizeOf (P.elem t)).run P w = .ok sz w) (A : Option Addr) (n c k : Nat) (hx : a.eval x = .slice A n c) (hy : a.eval y = .int .i64 (k : Int)) (hk : k ≤ c)
    (h : wpList P ops Q rest (a.put o.dst (.slice A k c)) w) : wpList P ops Q (o :: rest) a w :=
  wl_run hgd (v := .slice A k c) (by
    unfold execOp
    have e := run_slice_h (P := P) w t A n c hu .i64 (k : Int) (by omega) (by omega)
    simp only [Int.toNat_natCast, hsz, Result.andThen_ok, sliced_any] at e
    simp only [ho, Option.map_none, Option.map_some, hx, hy, Sem.run_bind, run_sliceAt_slice (P := P) w t _ _ _ _ hu, e, Result.andThen_ok, Sem.run_pure]) h
end
theorem own_row {α : Type} {enc : α → Array Value} {size base : Nat} {e : TypeId} {w w' : World} {v : Value} {ys : List α} {row : Option Nat} (h : Own w base e size enc v ys) (k : w.grownBy w' row) (hne : ∀ g, v.ownBlock = some g → row ≠ some g) : Own w' base e size enc v ys :=
  own_block h fun g hg => k.block g (h.lt g hg).2 (fun e => hne g hg e.symm)
/-- a machine whose lists are the call's own -/
def MO (w : World) (B : Nat) (x : MV) : Prop := Own w B 76 7 edgC (.slice x.A x.F.E.length x.c) x.F.E ∧ Own w B 43 1 encR (.slice x.B x.F.R.length x.d) x.F.R
theorem MO.then_ {w w' : World} {B : Nat} {x : MV} (h : MO w B x) (hb : Below w.heap.size w w') : MO w' B x := ⟨h.1.then_ hb, h.2.then_ hb⟩
theorem MO.mono {w : World} {B B' : Nat} {x : MV} (h : MO w B x) (hb : B' ≤ B) : MO w B' x := ⟨h.1.mono hb, h.2.mono hb⟩
theorem MO.row {w w' : World} {B b2 : Nat} {x : MV} {v : Value} {ys : List MV} (h : MO w B x) (ho : Own w b2 25 3 MV.C v ys) (hg : w.grownBy w' v.ownBlock) : MO w' B x := ⟨own_own h.1 ho hg (by decide), own_own h.2 ho hg (by decide)⟩
theorem MO.box {w w' : World} {B g : Nat} {x : MV} {cs : Array Value} (h : MO w B x) (hb : Blk w g 25 cs) (hg : w.grownBy w' (some g)) : MO w' B x := ⟨own_box h.1 hb hg (by decide), own_box h.2 hb hg (by decide)⟩
/-- two lists of machines under way -/
structure UI (base : Nat) (w : World) (v5 v6 : Value) (ms bs : List MV) : Prop where
  l : Own w base 25 3 MV.C v5 ms
  b : Own w base 25 3 MV.C v6 bs
  ne : ∀ g, v5.ownBlock = some g → v6.ownBlock ≠ some g
  m : ∀ x ∈ ms, MO w base x
theorem UI.then_ {base : Nat} {w w' : World} {v5 v6 : Value} {ms bs : List MV} (h : UI base w v5 v6 ms bs) (hb : Below w.heap.size w w') : UI base w' v5 v6 ms bs :=
  ⟨h.l.then_ hb, h.b.then_ hb, h.ne, fun x hx => (h.m x hx).then_ hb⟩
end Go.Proofs.YtkedgombccdamaaDoor
namespace Go.Proofs.YtkedgombccdamaaDoor
set_option linter.unusedVariables false
set_option linter.unusedSimpArgs false

namespace Ere
/-- q holds p from place a on, and no repeat stands behind it -/
structure Emb (p q : ByteArray) (a : Nat) : Prop where
  le : a + p.size ≤ q.size
  at_ : ∀ k, k < p.size → chr q (a + k) = chr p k
  fol : ∀ c, c = 42 ∨ c = 43 ∨ c = 63 ∨ c = 123 → isAt q (a + p.size) c = false
section
variable {p q : ByteArray} {a : Nat}
theorem Emb.isAt (A : Emb p q a) {k c : Nat} (h : k < p.size) : isAt q (a + k) c = isAt p k c := by
  unfold Ere.isAt
  rw [A.at_ k h, decide_eq_true h, decide_eq_true (show a + k < q.size by have := A.le; omega)]
theorem Emb.digits (A : Emb p q a) : ∀ k i n c, (digits p k i n c).2.1 < p.size → digits q k (a + i) n c = ((digits p k i n c).1, a + (digits p k i n c).2.1, (digits p k i n c).2.2)
  | 0, i, n, c, h => rfl
  | k + 1, i, n, c, h => by
    have hi : i < p.size := by
      have := (digits_le p (k + 1) i n c).2
      omega
    unfold Ere.digits at h ⊢
    rw [decide_eq_true hi] at h ⊢
    rw [decide_eq_true (show a + i < q.size by have := A.le; omega), A.at_ i hi]
    split
    · rename_i h1
      rw [if_pos h1] at h
      exact A.digits k (i + 1) _ _ h
    · rfl
theorem Emb.sub (A : Emb p q a) {i j : Nat} (hj : j ≤ p.size) : sub q (a + i) (a + j) = sub p i j := by
  unfold Ere.sub
  rw [show a + j - (a + i) = j - i by omega]
  apply List.map_congr_left
  intro k hk
  rw [List.mem_range] at hk
  rw [Nat.add_assoc]
  exact A.at_ _ (by omega)
end
end Ere
end Go.Proofs.YtkedgombccdamaaDoor
namespace Go.Proofs.YtkedgombccdamaaDoor
set_option linter.unusedVariables false
set_option linter.unusedSimpArgs false

namespace Ere
/-- where the class that begins at i - 1 ends -/
def clsE (p : ByteArray) : Nat → Nat → Nat
  | 0, i => i
  | n + 1, i => if i + 1 < p.size ∧ ¬ (chr p i = 58 ∧ chr p (i + 1) = 93 ∧ chr p (i - 1) ≠ 91) then clsE p n (i + 1) else i
def nextI (p : ByteArray) (i : Nat) : Nat :=
  if isAt p i 91 && isAt p (i + 1) 58 then clsE p p.size (i + 1) + 2
  else if isAt p (i + 1) 45 && decide (i + 2 < p.size) && !isAt p (i + 2) 93 then i + 3 else i + 1
def behL (p : ByteArray) : Nat → Bool → Nat → Nat
  | 0, _, i => i
  | n + 1, first, i => if i < p.size ∧ (first = true ∨ chr p i ≠ 93) then behL p n false (nextI p i) else i
/-- the place of the ']' that ends the set whose '[' stands at i -/
def behN (p : ByteArray) (i : Nat) : Nat := behL p (p.size + 1) true (if isAt p (i + 1) 94 then i + 2 else i + 1)
/-- bars, from a place on: how many '|' outside of all, how deep -/
def barL (p : ByteArray) : Nat → Nat → Int → Int → Int → Int × Int
  | 0, _, n, _, m => (n, m)
  | f + 1, i, n, d, m => if p.size ≤ i then (n, m)
    else if chr p i = 92 then barL p f (i + 2) n d m
    else if chr p i = 91 then barL p f (behN p i + 1) n d m
    else if chr p i = 40 then barL p f (i + 1) n (d + 1) (max m (d + 1))
    else if chr p i = 41 then barL p f (i + 1) n (d - 1) m
    else if chr p i = 124 then barL p f (i + 1) (if d = 0 then n + 1 else n) d m
    else barL p f (i + 1) n d m
section
variable {p : ByteArray}
/-- bars, from a place on -/
def Bs (p : ByteArray) (i : Nat) (n d m : Int) : Int × Int := barL p (p.size + 1) i n d m
end
end Ere
end Go.Proofs.YtkedgombccdamaaDoor
namespace Go.Proofs.YtkedgombccdamaaDoor
set_option linter.unusedVariables false
set_option linter.unusedSimpArgs false

namespace Ere
/-- the first m bytes are the same -/
structure Agree (p q : ByteArray) (m : Nat) : Prop where
  lp : m ≤ p.size
  lq : m ≤ q.size
  at_ : ∀ k, k < m → chr p k = chr q k
section
variable {p q : ByteArray} {m : Nat}
theorem Agree.isAt (A : Agree p q m) {k c : Nat} (h : k < m) : isAt q k c = isAt p k c := by
  unfold Ere.isAt
  rw [A.at_ k h, decide_eq_true (show k < p.size by have := A.lp; omega), decide_eq_true (show k < q.size by have := A.lq; omega)]
theorem Agree.digits (A : Agree p q m) : ∀ k i n c, (digits p k i n c).2.1 < m → digits q k i n c = digits p k i n c
  | 0, i, n, c, h => rfl
  | k + 1, i, n, c, h => by
    have hi : i < m := by
      have := (digits_le p (k + 1) i n c).2
      omega
    unfold Ere.digits at h ⊢
    rw [decide_eq_true (show i < p.size by have := A.lp; omega)] at h ⊢
    rw [decide_eq_true (show i < q.size by have := A.lq; omega), ← A.at_ i hi]
    split
    · rename_i h1
      rw [if_pos h1] at h
      exact A.digits k (i + 1) _ _ h
    · rfl
theorem Agree.sub (A : Agree p q m) {i j : Nat} (hj : j ≤ m) : sub q i j = sub p i j := by
  unfold Ere.sub
  apply List.map_congr_left
  intro k hk
  rw [List.mem_range] at hk
  exact (A.at_ _ (by omega)).symm
/-- a fault that stands -/
def Good (p : ByteArray) (m e a : Nat) : Prop := ((e = 44 ∨ e = 47) ∧ a + 1 ≤ m) ∨ (e = 46 ∧ a + 2 ≤ m) ∨ (e = 42 ∧ chr p a = 41 ∧ a + 1 ≤ m)
theorem Good.lt {e a : Nat} (h : Good p m e a) : a < m := by unfold Good at h; omega
end
end Ere
end Go.Proofs.YtkedgombccdamaaDoor
namespace Go.Proofs.YtkedgombccdamaaDoor
set_option linter.unusedVariables false
set_option linter.unusedSimpArgs false

namespace Ere
/-- a fault for the depth alone -/
def Deep (r : Res Nd) : Prop := ∃ x, r = .fault 47 x
def ScB (p : ByteArray) (i j : Nat) (L : Int) (c h : Nat) : Prop := ∀ n M : Int, L ≤ M → Bs p i n L M = Bs p j (n + c) L (max M (L + h))
theorem ScB.trans {p : ByteArray} {i j k : Nat} {L : Int} {c1 c2 h1 h2 : Nat} (a : ScB p i j L c1 h1) (b : ScB p j k L c2 h2) : ScB p i k L (c1 + c2) (max h1 h2) := fun n M hM => by
  rw [a n M hM, b _ _ (by omega)]
  congr 1 <;> omega
/-- where an alternative may end -/
def EndA (q : ByteArray) (top : Bool) (x : Nat) : Prop := q.size ≤ x ∨ isAt q x 124 = true ∨ (isAt q x 41 = true ∧ isAt q x 124 = false ∧ top = false)
def EndP (q : ByteArray) (top : Bool) (x : Nat) : Prop := q.size ≤ x ∨ (isAt q x 41 = true ∧ isAt q x 124 = false ∧ top = false)
theorem EndP.a {q : ByteArray} {top : Bool} {x : Nat} (h : EndP q top x) : EndA q top x := by
  rcases h with h | h
  · exact .inl h
  · exact .inr (.inr h)
theorem EndP.no {q : ByteArray} {top : Bool} {x : Nat} (h : EndP q top x) : isAt q x 124 = false := by
  rcases h with h | h
  · unfold isAt; rw [decide_eq_false (by omega), Bool.false_and]
  · exact h.2.1
section
variable {p : ByteArray}
end
end Ere
end Go.Proofs.YtkedgombccdamaaDoor
namespace Go.Proofs.YtkedgombccdamaaDoor
open Go.ChangeShapes Go.WideShapes Go.ChangeAt Go.RowKit
open Go.ChangeMaps (open_string shut_string)
set_option linter.unusedVariables false
set_option linter.unusedSimpArgs false

theorem own : ownKnob Tryd.prog.godebug = none := by kernel_rfl
theorem laidOut : laidOutB Tryd.prog = true := by kernel_rfl
theorem cells_set : Tryd.prog.cellsOf 52 = 4 := by kernel_rfl
theorem cells_u64o : Tryd.prog.cellsOf 50 = 1 := by kernel_rfl

/-- four words are a set -/
theorem word_of (f : Nat → Nat) (h : ∀ k, k < 4 → f k < 2 ^ 64) : ∃ x : BSet, ∀ k, k < 4 → word x k = f k := by
  refine ⟨setTo (fun i => (f (i / 64)).testBit (i % 64)) 256, fun k hk => ?_⟩
  apply word_eq_of (h k hk)
  intro j hj
  rw [setTo_get _ _ _ (by omega)]
  have e1 : (64 * k + j) / 64 = k := by omega
  have e2 : (64 * k + j) % 64 = j := by omega
  rw [e1, e2]
  simp; omega

section
variable {H : Type} {enc : TypeId × Value → H} {w : World} {base : Nat} {spare : Nat → Bool} {held : Bool} {fuel : Nat}
theorem trod_set {cs : List Value} {x : DataW H × List MemPlace} (h : DataW.trod enc Tryd.prog w base spare held fuel 52 cs = some x) : ∃ y : BSet, cs = (setC y).toList := by
  obtain ⟨xs, m, _, _, hl, hn, hi⟩ := DataW.trod_array Tryd.underlying52 h
  rw [cells_set] at hl
  have key : ∀ i, i < 4 → ∃ n : Nat, cs[i]? = some (.int .u64 n) ∧ n < 2 ^ 64 := by
    intro i hlt
    have h1 := hi i hlt
    rw [cells_u64o, Nat.mul_one] at h1
    have hx : xs[i]? = some xs[i] := List.getElem?_eq_getElem (by omega)
    rw [hx] at h1
    obtain ⟨n, hc, _, hw⟩ := DataW.trod_int Tryd.underlying50 h1
    have hb : 0 ≤ n ∧ n ≤ 18446744073709551615 := bounds_u64 hw
    obtain ⟨m, rfl⟩ := Int.eq_ofNat_of_zero_le hb.1
    refine ⟨m, ?_, by omega⟩
    have : ((cs.drop i).take 1)[0]? = some (.int .u64 (m : Int)) := by rw [hc]; rfl
    simpa using this
  obtain ⟨n0, h0, b0⟩ := key 0 (by omega)
  obtain ⟨n1, h1, b1⟩ := key 1 (by omega)
  obtain ⟨n2, h2, b2⟩ := key 2 (by omega)
  obtain ⟨n3, h3, b3⟩ := key 3 (by omega)
  obtain ⟨y, hy⟩ := word_of (fun k => match k with | 0 => n0 | 1 => n1 | 2 => n2 | _ => n3) (by
    intro k hk
    match k, hk with
    | 0, _ => exact b0
    | 1, _ => exact b1
    | 2, _ => exact b2
    | 3, _ => exact b3)
  refine ⟨y, ?_⟩
  have e0 : word y 0 = n0 := hy 0 (by omega)
  have e1 : word y 1 = n1 := hy 1 (by omega)
  have e2 : word y 2 = n2 := hy 2 (by omega)
  have e3 : word y 3 = n3 := hy 3 (by omega)
  have h4 : ∃ c0 c1 c2 c3, cs = [c0, c1, c2, c3] := by
    match cs, hl with
    | [c0, c1, c2, c3], _ => exact ⟨_, _, _, _, rfl⟩
  obtain ⟨c0, c1, c2, c3, rfl⟩ := h4
  simp only [List.getElem?_cons_zero, List.getElem?_cons_succ, Option.some.injEq] at h0 h1 h2 h3
  subst h0 h1 h2 h3
  simp [setC, e0, e1, e2, e3]

end

theorem choose_list {α : Type} {p : Nat → α → Prop} : ∀ (n : Nat), (∀ i, i < n → ∃ y, p i y) → ∃ l : List α, l.length = n ∧ ∀ i (h : i < l.length), p i l[i]
  | 0, _ => ⟨[], rfl, fun i h => absurd h (by simp)⟩
  | n + 1, h => by
    obtain ⟨l, hl, hp⟩ := choose_list n (fun i hi => h i (by omega))
    obtain ⟨y, hy⟩ := h n (by omega)
    refine ⟨l ++ [y], by simp [hl], fun i hi => ?_⟩
    by_cases e : i < l.length
    · rw [List.getElem_append_left e]; exact hp i e
    · have : i = n := by simp at hi; omega
      subst this
      rw [List.getElem_append_right (by omega)]
      simpa using hy
theorem spot_none {w : World} {a : Addr} {v : Value} (h : w.cell? a = some v) : a.spot = none := World.cell?_spot h
end Go.Proofs.YtkedgombccdamaaDoor
namespace Go.Proofs.YtkedgombccdamaaDoor
open Go.RowKit
theorem cells_int : Tryd.prog.cellsOf 3 = 1 := by kernel_rfl
end Go.Proofs.YtkedgombccdamaaDoor
namespace Go.Proofs.YtkedgombccdamaaDoor
open Go.ChangeShapes Go.WideShapes Go.ChangeAt Go.RowKit
set_option linter.unusedVariables false
set_option linter.unusedSimpArgs false

theorem open_cap {H : Type} {enc : TypeId × Value → H} {W : World} {held : Bool} {d : DataW H} {ps : List MemPlace} {t e : TypeId} {A : Option Addr} {n c : Nat} (ht : Tryd.prog.underlying t = some (.slice e)) (hd : DataW.Trod enc Tryd.prog W 0 (fun _ => true) held t (.slice A n c) d ps) : n ≤ c ∧ c ≤ maxLen := by
  obtain ⟨fuel, hf⟩ := hd
  rcases Deep.open_slice ht hf with ⟨hcs, hx⟩ | ⟨a, len, cap, m, n', D, Pl, hcs, _, hl, hm, hmm, hx, hi⟩
  · simp [Value.cells] at hcs
    obtain ⟨rfl, rfl, rfl⟩ := hcs
    exact ⟨Nat.le_refl _, by unfold maxLen; omega⟩
  · simp [Value.cells] at hcs
    obtain ⟨rfl, rfl, rfl⟩ := hcs
    have hmc : m = c := by simpa using hmm
    subst hmc
    exact ⟨by omega, by omega⟩
theorem cells_string : Tryd.prog.cellsOf 9 = 1 := by kernel_rfl
end Go.Proofs.YtkedgombccdamaaDoor
namespace Go.Proofs.YtkedgombccdamaaDoor
open Go.RowKit
set_option linter.unusedVariables false
set_option linter.unusedSimpArgs false
def deB : List Nat := [0, 1, 56, 2, 57, 49, 28, 3, 61, 58, 42, 50, 38, 29, 17, 4, 62, 47, 59, 36, 45, 43, 51, 22, 53, 39, 33, 30, 24, 18, 12, 5, 63, 55, 48, 27, 60, 41, 37, 16, 46, 35, 44, 21, 52, 32, 23, 11, 54, 26, 40, 15, 34, 20, 31, 10, 25, 14, 19, 9, 13, 8, 7, 6]
/-- the table of package math/bits lies where the program lays it -/
def TabOk (W : World) : Prop := ∀ i, i < 64 → W.cell? ⟨0, i, none⟩ = some (.int .u8 (deB.getD i 0 : Nat))
theorem TabOk.size {W : World} (h : TabOk W) : 0 < W.heap.size := by
  have h1 := h 0 (by decide)
  refine Classical.byContradiction fun hn => ?_
  have : W.heap[0]? = none := Array.getElem?_eq_none (by omega)
  simp [World.cell?, this] at h1
theorem TabOk.then_ {n : Nat} {W W' : World} (h : TabOk W) (hn : 0 < n) (hb : Below n W W') : TabOk W' := fun i hi => (hb.cell (p := ⟨0, i, none⟩) hn).trans (h i hi)
def encU (v : Nat) : Array Value := #[.int .u64 (v : Int)]
theorem encU_size (v : Nat) : (encU v).size = 1 := rfl
theorem encU_one (v : Nat) : (encU v).all (·.oneCell') = true := by simp [encU, Value.oneCell']
theorem u64_bit {v n : Nat} (hv : v < 18446744073709551616) : (bits BinOp.and IntKind.u64 ((v : Int) / 2 ^ n) 1 == 1) = v.testBit n := by
  have e1 : ((v : Int) / 2 ^ n) = ((v / 2 ^ n : Nat) : Int) := by
    rw [Int.natCast_ediv, Int.natCast_pow]; rfl
  have hlt : v / 2 ^ n < 18446744073709551616 := Nat.lt_of_le_of_lt (Nat.div_le_self _ _) hv
  rw [e1]
  have e2 := u64_and_nat (v / 2 ^ n) 1 hlt (by omega)
  rw [show ((1 : Nat) : Int) = 1 from rfl] at e2
  rw [e2, Nat.and_one_is_mod, Nat.testBit_eq_decide_div_mod_eq]
  rw [Bool.eq_iff_iff]
  simp only [beq_iff_eq, decide_eq_true_eq]
  omega
theorem u64_or_pow {v n : Nat} (hv : v < 18446744073709551616) (hn : n < 64) : bits BinOp.or IntKind.u64 (v : Int) (IntKind.u64.wrap (2 ^ n)) = ((v ||| 2 ^ n : Nat) : Int) := by
  have hlt : 2 ^ n < 18446744073709551616 := Nat.lt_of_lt_of_le (Nat.pow_lt_pow_right (by omega) hn) (Nat.le_refl _)
  have e1 : IntKind.u64.wrap (2 ^ n) = ((2 ^ n : Nat) : Int) := by
    rw [show (2 ^ n : Int) = ((2 ^ n : Nat) : Int) by rw [Int.natCast_pow]; rfl, IntKind.wrap_u64]
    exact Int.emod_eq_of_lt (Int.natCast_nonneg _) (Int.ofNat_lt.2 hlt)
  rw [e1]
  exact u64_or_nat _ _ hv hlt
end Go.Proofs.YtkedgombccdamaaDoor
namespace Go.Proofs.YtkedgombccdamaaDoor
open Go.RowKit Go.Shelf
set_option linter.unusedVariables false
set_option linter.unusedSimpArgs false
attribute [local go_sem] Oper.semAt_some

/-- the set's block, and the table of bits, are the same -/
def KpS (b : Nat) (W W' : World) : Prop := W'.heap[b]? = W.heap[b]? ∧ W'.heap[0]? = W.heap[0]?
theorem KpS.trans {b : Nat} {A B C : World} (h : KpS b A B) (k : KpS b B C) : KpS b A C := ⟨k.1.trans h.1, k.2.trans h.2⟩
theorem KpS.tab {b : Nat} {W W' : World} (h : KpS b W W') (hT : TabOk W) : TabOk W' := fun i hi => (World.cell?_of_block (w := W) h.2).trans (hT i hi)
end Go.Proofs.YtkedgombccdamaaDoor
namespace Go.Proofs.YtkedgombccdamaaDoor
set_option linter.unusedVariables false
set_option linter.unusedSimpArgs false

section
variable {α β : Type} [DecidableEq α] [DecidableEq β]
theorem idx_mem {l r : List α} {x : α} (h : x ∈ l) : (l ++ r).idxOf x = l.idxOf x := by rw [List.idxOf_append, if_pos h]
theorem idx_not {l r : List α} {x : α} (h : ¬ x ∈ l) : (l ++ r).idxOf x = l.length + r.idxOf x := by rw [List.idxOf_append, if_neg h]; omega
/-- the values of f below n, each once, as they are met -/
def firsts (f : Nat → α) : Nat → List α
  | 0 => []
  | n + 1 => if f n ∈ firsts f n then firsts f n else firsts f n ++ [f n]
/-- the number of f's value at b -/
def num (f : Nat → α) (b : Nat) : Nat := (firsts f (b + 1)).idxOf (f b)

theorem firsts_succ (f : Nat → α) (n : Nat) : firsts f (n + 1) = if f n ∈ firsts f n then firsts f n else firsts f n ++ [f n] := rfl
theorem mem_firsts (f : Nat → α) (n : Nat) (x : α) : x ∈ firsts f n ↔ ∃ b, b < n ∧ f b = x := by
  induction n with
  | zero => simp [firsts]
  | succ n ih =>
    rw [firsts_succ]
    constructor
    · intro h
      split at h
      · obtain ⟨b, hb, e⟩ := ih.1 h; exact ⟨b, by omega, e⟩
      · rw [List.mem_append] at h
        rcases h with h | h
        · obtain ⟨b, hb, e⟩ := ih.1 h; exact ⟨b, by omega, e⟩
        · exact ⟨n, by omega, (List.mem_singleton.1 h).symm⟩
    · rintro ⟨b, hb, e⟩
      rcases Nat.lt_or_ge b n with h | h
      · have := ih.2 ⟨b, h, e⟩
        split
        · exact this
        · exact List.mem_append_left _ this
      · have : b = n := by omega
        subst this
        split
        · rename_i h1; rwa [e] at h1
        · simp [e]
theorem firsts_prefix (f : Nat → α) {n m : Nat} (h : n ≤ m) : ∃ r, firsts f m = firsts f n ++ r := by
  induction m with
  | zero => have : n = 0 := by omega
            subst this; exact ⟨[], by simp⟩
  | succ m ih =>
    rcases Nat.lt_or_ge m n with h1 | h1
    · have : n = m + 1 := by omega
      subst this; exact ⟨[], by simp⟩
    · obtain ⟨r, hr⟩ := ih h1
      rw [firsts_succ]
      split
      · exact ⟨r, hr⟩
      · exact ⟨r ++ [f m], by rw [hr, List.append_assoc]⟩
theorem idxOf_firsts (f : Nat → α) {n m : Nat} (h : n ≤ m) (x : α) (hx : x ∈ firsts f n) : (firsts f m).idxOf x = (firsts f n).idxOf x := by
  obtain ⟨r, hr⟩ := firsts_prefix f h
  rw [hr, idx_mem hx]
theorem mem_firsts_self (f : Nat → α) {b n : Nat} (h : b < n) : f b ∈ firsts f n := (mem_firsts f n _).2 ⟨b, h, rfl⟩
theorem num_eq (f : Nat → α) {b n : Nat} (h : b < n) : num f b = (firsts f n).idxOf (f b) := (idxOf_firsts f h (f b) (mem_firsts_self f (by omega))).symm
theorem num_lt (f : Nat → α) {b n : Nat} (h : b < n) : num f b < (firsts f n).length := by
  rw [num_eq f h]; exact List.idxOf_lt_length_of_mem (mem_firsts_self f h)
theorem firsts_nodup (f : Nat → α) (n : Nat) : (firsts f n).Nodup := by
  induction n with
  | zero => simp [firsts]
  | succ n ih =>
    rw [firsts_succ]
    split
    · exact ih
    · rename_i h
      rw [List.nodup_append]
      refine ⟨ih, by simp, ?_⟩
      intro a ha b hb
      have : b = f n := by simpa using hb
      subst this
      rintro rfl
      exact h ha
theorem firsts_length_le (f : Nat → α) (n : Nat) : (firsts f n).length ≤ n := by
  induction n with
  | zero => simp [firsts]
  | succ n ih =>
    rw [firsts_succ]
    split
    · omega
    · simp; omega
theorem num_iff (f : Nat → α) (b c : Nat) : num f b = num f c ↔ f b = f c := by
  have hb := num_eq f (show b < b + c + 1 by omega)
  have hc := num_eq f (show c < b + c + 1 by omega)
  rw [hb, hc]
  constructor
  · intro h
    have h1 := mem_firsts_self f (show b < b + c + 1 by omega)
    have h2 := mem_firsts_self f (show c < b + c + 1 by omega)
    have e1 := List.getElem_idxOf (List.idxOf_lt_length_of_mem h1)
    have e2 := List.getElem_idxOf (List.idxOf_lt_length_of_mem h2)
    rw [← e1, ← e2]
    simp only [h]
  · intro h; rw [h]
/-- like kernels, like numbers -/
theorem firsts_kernel (f : Nat → α) (g : Nat → β) (N : Nat) (h : ∀ b c, b < N → c < N → (f b = f c ↔ g b = g c)) :
    ∀ n, n ≤ N → (firsts f n).length = (firsts g n).length ∧ ∀ b, b < n → (firsts f n).idxOf (f b) = (firsts g n).idxOf (g b) := by
  intro n
  induction n with
  | zero => intro _; exact ⟨rfl, fun b hb => by omega⟩
  | succ n ih =>
    intro hn
    obtain ⟨h1, h2⟩ := ih (by omega)
    have hm : f n ∈ firsts f n ↔ g n ∈ firsts g n := by
      rw [mem_firsts, mem_firsts]
      constructor
      · rintro ⟨b, hb, e⟩; exact ⟨b, hb, (h b n (by omega) (by omega)).1 e⟩
      · rintro ⟨b, hb, e⟩; exact ⟨b, hb, (h b n (by omega) (by omega)).2 e⟩
    rw [firsts_succ, firsts_succ]
    by_cases hf : f n ∈ firsts f n
    · have hg := hm.1 hf
      rw [if_pos hf, if_pos hg]
      refine ⟨h1, fun b hb => ?_⟩
      rcases Nat.lt_or_ge b n with hlt | hge
      · exact h2 b hlt
      · have : b = n := by omega
        subst this
        obtain ⟨c, hc, e⟩ := (mem_firsts f b _).1 hf
        have e2 := (h c b (by omega) (by omega)).1 e
        rw [← e, ← e2]
        exact h2 c hc
    · have hg : ¬ g n ∈ firsts g n := fun h => hf (hm.2 h)
      rw [if_neg hf, if_neg hg]
      refine ⟨by simp [h1], fun b hb => ?_⟩
      rcases Nat.lt_or_ge b n with hlt | hge
      · rw [idx_mem (mem_firsts_self f hlt), idx_mem (mem_firsts_self g hlt)]
        exact h2 b hlt
      · have : b = n := by omega
        subst this
        rw [idx_not hf, idx_not hg, h1]
        simp
theorem num_kernel (f : Nat → α) (g : Nat → β) (N : Nat) (h : ∀ b c, b < N → c < N → (f b = f c ↔ g b = g c)) (b : Nat) (hb : b < N) : num f b = num g b := by
  have := (firsts_kernel f g N h N (Nat.le_refl _)).2 b hb
  rw [num_eq f hb, num_eq g hb, this]
theorem many_kernel (f : Nat → α) (g : Nat → β) (N : Nat) (h : ∀ b c, b < N → c < N → (f b = f c ↔ g b = g c)) : (firsts f N).length = (firsts g N).length :=
  (firsts_kernel f g N h N (Nat.le_refl _)).1
theorem num_new (f : Nat → α) (b : Nat) (h : ¬ f b ∈ firsts f b) : num f b = (firsts f b).length := by
  unfold num
  rw [firsts_succ, if_neg h, idx_not h]
  simp
theorem num_old (f : Nat → α) (b : Nat) (h : f b ∈ firsts f b) : num f b = (firsts f b).idxOf (f b) := by
  unfold num
  rw [firsts_succ, if_pos h]
end

section
variable {α : Type} [DecidableEq α]
/-- where f's values are first met -/
def fb (f : Nat → α) : Nat → List Nat
  | 0 => []
  | n + 1 => if f n ∈ firsts f n then fb f n else fb f n ++ [n]
theorem fb_map (f : Nat → α) (n : Nat) : (fb f n).map f = firsts f n := by
  induction n with
  | zero => rfl
  | succ n ih =>
    unfold fb
    rw [firsts_succ]
    split
    · exact ih
    · simp [ih]
theorem fb_lt (f : Nat → α) (n : Nat) : ∀ x ∈ fb f n, x < n := by
  induction n with
  | zero => simp [fb]
  | succ n ih =>
    unfold fb
    intro x hx
    split at hx
    · have := ih x hx; omega
    · rw [List.mem_append] at hx
      rcases hx with hx | hx
      · have := ih x hx; omega
      · have : x = n := by simpa using hx
        omega
theorem fb_length (f : Nat → α) (n : Nat) : (fb f n).length = (firsts f n).length := by rw [← fb_map, List.length_map]
theorem fb_old (f : Nat → α) (n : Nat) (h : f n ∈ firsts f n) : fb f (n + 1) = fb f n := by
  show (if f n ∈ firsts f n then fb f n else fb f n ++ [n]) = _
  rw [if_pos h]
theorem fb_new (f : Nat → α) (n : Nat) (h : ¬ f n ∈ firsts f n) : fb f (n + 1) = fb f n ++ [n] := by
  show (if f n ∈ firsts f n then fb f n else fb f n ++ [n]) = _
  rw [if_neg h]
/-- the number so far: -1 while it is not met -/
def seek (f : Nat → α) (b c : Nat) : Int := if f b ∈ (firsts f b).take c then ((firsts f b).idxOf (f b) : Int) else -1
theorem seek_zero (f : Nat → α) (b : Nat) : seek f b 0 = -1 := by simp [seek]
theorem seek_hit (f : Nat → α) (b c : Nat) (hc : c < (fb f b).length) (h : f ((fb f b)[c]) = f b) : seek f b (c + 1) = c := by
  have hc' : c < (firsts f b).length := by rw [← fb_length]; exact hc
  have e : (firsts f b)[c] = f b := by
    have : (firsts f b)[c] = ((fb f b).map f)[c]'(by simpa using hc) := by simp only [fb_map]
    rw [this, List.getElem_map, h]
  unfold seek
  rw [if_pos (by rw [List.take_succ_eq_append_getElem hc', e]; simp)]
  have := (firsts_nodup f b).idxOf_getElem c hc'
  rw [e] at this
  rw [this]
theorem seek_miss (f : Nat → α) (b c : Nat) (hc : c < (fb f b).length) (h : ¬ f ((fb f b)[c]) = f b) : seek f b (c + 1) = seek f b c := by
  have hc' : c < (firsts f b).length := by rw [← fb_length]; exact hc
  have e : (firsts f b)[c] = f ((fb f b)[c]) := by
    have : (firsts f b)[c] = ((fb f b).map f)[c]'(by simpa using hc) := by simp only [fb_map]
    rw [this, List.getElem_map]
  unfold seek
  rw [List.take_succ_eq_append_getElem hc', e]
  have h' : ¬ f b = f ((fb f b)[c]) := fun x => h x.symm
  simp [h']
theorem seek_old (f : Nat → α) (b : Nat) (h : f b ∈ firsts f b) : seek f b (fb f b).length = (num f b : Int) := by
  unfold seek
  rw [fb_length, List.take_length, if_pos h, num_old f b h]
theorem seek_new (f : Nat → α) (b : Nat) (h : ¬ f b ∈ firsts f b) : seek f b (fb f b).length = -1 := by
  unfold seek
  rw [fb_length, List.take_length, if_neg h]
end

/-- which of the sets hold byte b -/
def sig (l : List BSet) (b : Nat) : List Bool := l.map fun s => s.getLsbD b
/-- a byte's class -/
def cls (l : List BSet) (b : Nat) : Int := (num (sig l) b : Int)
/-- how many classes there are -/
def many (l : List BSet) : Nat := (firsts (sig l) 256).length
/-- a class so far, and a set's bit -/
def keyN (g : Nat → Int) (s : BSet) (b : Nat) : Int × Bool := (g b, s.getLsbD b)

theorem sig_snoc (l : List BSet) (s : BSet) (b c : Nat) : sig (l ++ [s]) b = sig (l ++ [s]) c ↔ sig l b = sig l c ∧ s.getLsbD b = s.getLsbD c := by
  simp [sig]
theorem key_kernel (l : List BSet) (s : BSet) (b c : Nat) : keyN (cls l) s b = keyN (cls l) s c ↔ sig (l ++ [s]) b = sig (l ++ [s]) c := by
  rw [sig_snoc]
  simp only [keyN, Prod.mk.injEq, cls, Int.natCast_inj, num_iff]
theorem cls_snoc (l : List BSet) (s : BSet) (b : Nat) : cls (l ++ [s]) b = (num (keyN (cls l) s) b : Int) := by
  unfold cls
  rw [num_kernel (sig (l ++ [s])) (keyN (cls l) s) (b + 1) (fun _ _ _ _ => (key_kernel l s _ _).symm) b (by omega)]
  rfl
theorem many_snoc (l : List BSet) (s : BSet) : many (l ++ [s]) = (firsts (keyN (cls l) s) 256).length :=
  many_kernel _ _ _ fun _ _ _ _ => (key_kernel l s _ _).symm
theorem cls_nil (b : Nat) : cls [] b = 0 := by
  have : num (sig []) b = num (sig []) 0 := (num_iff _ _ _).2 rfl
  unfold cls
  rw [this]
  rfl
theorem firsts_const (n : Nat) : firsts (sig []) (n + 1) = [[]] := by
  induction n with
  | zero => rfl
  | succ n ih =>
    rw [firsts_succ, ih, if_pos (by simp [sig])]
theorem many_nil : many [] = 1 := by
  unfold many
  rw [firsts_const 255]
  rfl
theorem many_le (l : List BSet) : many l ≤ 256 := firsts_length_le _ _
theorem cls_lt (l : List BSet) {b : Nat} (h : b < 256) : cls l b < many l := by
  have := num_lt (sig l) h
  unfold cls many
  omega
theorem cls_ge (l : List BSet) (b : Nat) : 0 ≤ cls l b := by unfold cls; omega

/-- an array of 256 ints -/
def clsC (g : Nat → Int) : Array Value := intsC .i64 ((List.range 256).map g)
theorem clsC_size (g : Nat → Int) : (clsC g).size = 256 := by simp [clsC, intsC_size]
theorem clsC_at (g : Nat → Int) (i : Nat) (h : i < 256) : (clsC g)[i]? = some (.int .i64 (g i)) := by
  unfold clsC
  rw [intsC_at _ _ i (by simpa using h)]
  simp
theorem clsC_ext {g h : Nat → Int} (e : ∀ b, b < 256 → g b = h b) : clsC g = clsC h := by
  unfold clsC
  congr 1
  apply List.map_congr_left
  intro b hb
  exact e b (by simpa using hb)
def putN (g : Nat → Int) (i : Nat) (v : Int) (b : Nat) : Int := if b = i then v else g b
theorem clsC_set (g : Nat → Int) (i : Nat) (v : Int) : (clsC g).setIfInBounds i (.int .i64 v) = clsC (putN g i v) := by
  unfold clsC
  rw [intsC_set]
  congr 1
  apply List.ext_getElem
  · simp
  · intro j h1 h2
    simp only [List.getElem_set, List.getElem_map, List.getElem_range, putN]
    by_cases e : i = j
    · subst e; simp
    · rw [if_neg e, if_neg (fun h => e h.symm)]
theorem clsC_oneCell (g : Nat → Int) : (clsC g).all (·.oneCell') = true := by
  unfold clsC intsC
  simp [Value.oneCell']
theorem putN_put (g : Nat → Int) (i : Nat) (v v' : Int) : putN (putN g i v) i v' = putN g i v' := by
  funext b
  unfold putN
  by_cases e : b = i <;> simp [e]
theorem putN_self (g : Nat → Int) (i : Nat) (v : Int) : putN g i v i = v := by simp [putN]
/-- below n the new, from n on the old -/
def upto (n : Nat) (new old : Nat → Int) (b : Nat) : Int := if b < n then new b else old b
theorem upto_zero (new old : Nat → Int) : upto 0 new old = old := by funext b; simp [upto]
theorem upto_ge (new old : Nat → Int) {n b : Nat} (h : n ≤ b) : upto n new old b = old b := by unfold upto; rw [if_neg (by omega)]
theorem upto_all (new old : Nat → Int) : clsC (upto 256 new old) = clsC new := clsC_ext fun b hb => by unfold upto; rw [if_pos hb]
theorem upto_put (new old : Nat → Int) (n : Nat) (v : Int) (h : v = new n) : putN (upto n new old) n v = upto (n + 1) new old := by
  funext b
  unfold putN upto
  by_cases e : b = n
  · subst e; simp [h]
  · rw [if_neg e]
    by_cases h2 : b < n
    · rw [if_pos h2, if_pos (by omega)]
    · rw [if_neg h2, if_neg (by omega)]
attribute [irreducible] clsC

end Go.Proofs.YtkedgombccdamaaDoor
namespace Go.Proofs.YtkedgombccdamaaDoor
open Go.RowKit Go.Maps Go.WideMaps
set_option linter.unusedVariables false
set_option linter.unusedSimpArgs false

theorem mapM_lits {P : Program} {e : TypeId} {q : IntKind} (he : P.underlying e = some (.int q)) (d : Nat) (xs : List Int) (hw : ∀ x ∈ xs, (Lit.int q x).wf = true) :
    ∀ is : List Nat, (∀ i ∈ is, i < xs.length) → (is.mapM fun i => P.keyLits (d + 1) e (((xs.map (Value.int q)).drop (i * 1)).take 1)) = some (is.map fun i => [Lit.int q (xs.getD i 0)]) := by
  intro is
  induction is with
  | nil => intro _; rfl
  | cons i is ih =>
    intro h
    have hi : i < xs.length := h i (by simp)
    have e1 : ((xs.map (Value.int q)).drop (i * 1)).take 1 = [.int q xs[i]] := by
      rw [Nat.mul_one, List.drop_eq_getElem_cons (by simpa using hi)]
      simp
    have e2 : xs.getD i 0 = xs[i] := by simp [hi]
    have hx := hw xs[i] (List.getElem_mem hi)
    rw [List.mapM_cons, ih fun j hj => h j (by simp [hj]), e1]
    simp [Program.keyLits, he, hx, hi]
theorem flatten_ones {α β : Type} (f : α → β) : ∀ l : List α, (l.map fun i => [f i]).flatten = l.map f
  | [] => rfl
  | x :: l => by simp [flatten_ones f l]
theorem keyOf_ints {P : Program} {k e : TypeId} {q : IntKind} {n : Nat} (A : ArrKey P k e n) (he : P.underlying e = some (.int q)) (hsz : ∃ m, P.types.size = m + 1) (xs : List Int) (hn : xs.length = n) (hw : ∀ x ∈ xs, (Lit.int q x).wf = true) :
    keyOf P k (.agg (intsC q xs)) = some (.string (keyBytes (xs.map (Lit.int q)))) := by
  have hkt := A.keyType hsz
  obtain ⟨m, hm⟩ := hsz
  have hc : (Value.agg (intsC q xs)).cells.toList = xs.map (Value.int q) := by simp [Value.cells, intsC]
  have e1 : ((List.range n).map fun i => [Lit.int q (xs.getD i 0)]).flatten = xs.map (Lit.int q) := by
    rw [flatten_ones, ← hn]
    apply List.ext_getElem
    · simp
    · intro i h1 h2
      have : i < xs.length := by simpa using h2
      simp [this]
  unfold keyOf
  simp only [A.hu]
  rw [if_pos (by simp [hkt, Value.formed, A.hu, A.size, intsC, hn]), hm, hc]
  unfold Program.keyLits
  simp only [A.hu]
  rw [if_pos (by rw [A.size]; simp [hn]), A.one, mapM_lits he m xs hw _ (fun i hi => by rw [List.mem_range] at hi; omega)]
  simp only [Option.map_some, e1]
theorem intsC_inj {k : IntKind} {l l' : List Int} (h : intsC k l = intsC k l') : l = l' := by
  have h1 := congrArg Array.toList h
  simp only [intsC] at h1
  exact (List.map_inj_right (f := Value.int k) (by intro a b e; injection e)).1 h1

/-- keys that are told by a plain type -/
structure KeyEnc (P : Program) (k : TypeId) (κ : Type) (ok : κ → Prop) (kv : κ → Value) (lit : κ → Lit) : Prop where
  law : Keyed P k
  key : ∀ x, ok x → keyOf P k (kv x) = some (lit x)
  inj : ∀ x y, kv x = kv y → x = y
section
variable {P : Program} {k e : TypeId} {κ : Type} {ok : κ → Prop} {kv : κ → Value} {lit : κ → Lit}
theorem KeyEnc.lit_ne (K : KeyEnc P k κ ok kv lit) {x y : κ} (hx : ok x) (hy : ok y) (h : y ≠ x) : lit y ≠ lit x := fun e => h (K.inj _ _ (K.law.inj (K.key y hy) (e ▸ K.key x hx)))
theorem KeyEnc.isKey (K : KeyEnc P k κ ok kv lit) {x : κ} (hx : ok x) : WideAt.IsKeyLit (lit x) := K.law.key (K.key x hx)

/-- block b is a map of the call's own that holds what m says -/
def IntMap (P : Program) (k e : TypeId) (ok : κ → Prop) (lit : κ → Lit) (w : World) (b n : Nat) (m : κ → Option Int) (cnt : Nat) : Prop :=
  ∃ D : DataW Unit, w.ownsMap P k (plainElem P e) b n D ∧ (∀ x, ok x → Maps.has D (lit x) = (m x).isSome) ∧ (∀ x, ok x → D.atKey (lit x) (.lit (.int .i64 0)) = .lit (.int .i64 ((m x).getD 0))) ∧ Maps.size D = cnt

theorem IntMap.new (K : KeyEnc P k κ ok kv lit) (w : World) {g : Nat} (hg : g = w.heap.size) : IntMap P k e ok lit (w.alloc (.map #[] 0)) g 0 (fun _ => none) 0 := by
  subst hg
  exact ⟨_, World.ownsMap_made w P k _, fun x _ => rfl, fun x _ => rfl, rfl⟩
theorem IntMap.lt {w : World} {b n cnt : Nat} {m : κ → Option Int} (h : IntMap P k e ok lit w b n m cnt) : b < w.heap.size := by
  obtain ⟨D, h1, _⟩ := h; exact h1.lt
theorem IntMap.then_ {w w' : World} {b n cnt : Nat} {m : κ → Option Int} (h : IntMap P k e ok lit w b n m cnt) (hb : Below w.heap.size w w') : IntMap P k e ok lit w' b n m cnt := by
  obtain ⟨D, h1, h2⟩ := h
  exact ⟨D, h1.kept (only_of_below hb none) (by simp), h2⟩
theorem IntMap.grown {w w' : World} {b n cnt j : Nat} {m : κ → Option Int} (h : IntMap P k e ok lit w b n m cnt) (hg : w.grownBy w' (some j)) (hne : b ≠ j) : IntMap P k e ok lit w' b n m cnt := by
  obtain ⟨D, h1, h2⟩ := h
  exact ⟨D, h1.kept hg (by simpa using hne), h2⟩
theorem IntMap.drew {w : World} {b n cnt : Nat} {m : κ → Option Int} (h : IntMap P k e ok lit w b n m cnt) : IntMap P k e ok lit w.drew b n m cnt := by
  obtain ⟨D, h1, h2⟩ := h
  exact ⟨D, h1.drew, h2⟩
theorem IntMap.alloc {w : World} {b n cnt : Nat} {m : κ → Option Int} (h : IntMap P k e ok lit w b n m cnt) (o : Obj) : IntMap P k e ok lit (w.alloc o) b n m cnt := by
  obtain ⟨D, h1, h2⟩ := h
  exact ⟨D, h1.alloc o, h2⟩
theorem IntMap.setCell {w : World} {b n cnt : Nat} {m : κ → Option Int} (h : IntMap P k e ok lit w b n m cnt) {a : Addr} (ha : b ≠ a.block) (u : Value) : IntMap P k e ok lit (w.setCell a u) b n m cnt := by
  obtain ⟨D, h1, h2⟩ := h
  exact ⟨D, h1.setCell ha u, h2⟩
theorem IntMap.more {w : World} {b n n' cnt : Nat} {m : κ → Option Int} (h : IntMap P k e ok lit w b n m cnt) (hn : n ≤ n') : IntMap P k e ok lit w b n' m cnt := by
  obtain ⟨D, h1, h2⟩ := h
  exact ⟨D, h1.mono hn, h2⟩
def putM [DecidableEq κ] (m : κ → Option Int) (x : κ) (v : Int) (y : κ) : Option Int := if y = x then some v else m y

section
variable {ops : Array Oper} {rest : List Oper} {o : Oper} {a : Act} {Q : Exit → Act → World → Prop} {w : World} {t : TypeId} {b n cnt : Nat} {mf : κ → Option Int}
theorem wl_map_ok (K : KeyEnc P k κ ok kv lit) (ht : P.underlying t = some (.map k e)) (he : P.underlying e = some (.int .i64)) (hz : (zeroValue e).run P w = .ok (.int .i64 0) w)
    (h : IntMap P k e ok lit w b n mf cnt) (hg : o.guard = none) (m x : Operand) (hop : o.op = Op.lookup t m x true) (hm : a.eval m = .map (some b)) (y : κ) (hy : ok y) (hx : a.eval x = kv y)
    (hK : wpList P ops Q rest (a.put o.dst (.tuple #[.int .i64 ((mf y).getD 0), .bool (mf y).isSome])) w) : wpList P ops Q (o :: rest) a w := by
  obtain ⟨D, h1, h2, h3, h4⟩ := h
  refine wpList_lookup_own_ok_int w hg m x t hop k e .i64 K.law ht he hz b n D hm h1 (kv y) (lit y) hx (K.key y hy) fun c hc _ => ?_
  rw [h3 y hy] at hc
  rw [h2 y hy]
  injection hc with hc
  injection hc with _ hc
  rw [← hc]
  exact hK
theorem wl_map_len (ht : P.underlying t = some (.map k e)) (h : IntMap P k e ok lit w b n mf cnt) (hg : o.guard = none) (m : Operand)
    (hop : o.op = Op.call { callee := Callee.builtin Builtin.len, args := #[m], argTypes := #[t] }) (hm : a.eval m = .map (some b))
    (hK : wpList P ops Q rest (a.put o.dst (.int .i64 cnt)) w) : wpList P ops Q (o :: rest) a w := by
  obtain ⟨D, h1, h2, h3, rfl⟩ := h
  exact wpList_len_own w hg m t hop k e ht _ b n D hm h1 hK
theorem wl_map_put [DecidableEq κ] (K : KeyEnc P k κ ok kv lit) (ht : P.underlying t = some (.map k e)) (he : P.underlying e = some (.int .i64))
    (h : IntMap P k e ok lit w b n mf cnt) (hn : n < maxLen) (hg : o.guard = none) (m x v : Operand) (hop : o.op = Op.mapUpdate t m x v) (hm : a.eval m = .map (some b)) (y : κ) (hy : ok y) (hx : a.eval x = kv y)
    (c : Int) (hv : a.eval v = .int .i64 c) (hc : (Lit.int .i64 c).wf = true)
    (hK : ∀ w', IntMap P k e ok lit w' b (n + 1) (putM mf y c) (if (mf y).isSome then cnt else cnt + 1) → w.grownBy w' (some b) → wpList P ops Q rest (a.put o.dst undef) w') : wpList P ops Q (o :: rest) a w := by
  obtain ⟨D, h1, h2, h3, h4⟩ := h
  refine wpList_mapUpdate_own w hg m x v t hop k e K.law ht _ b n D hm h1 hn (kv y) (.int .i64 c) (lit y) hx hv (K.key y hy) _ [] (plainElem_int he hc) fun w' h5 h6 => hK w' ?_ h6
  refine ⟨_, h5, fun z hz => ?_, fun z hz => ?_, ?_⟩
  · by_cases e1 : z = y
    · subst e1
      rw [Maps.has_put_same h1.isMap (K.isKey hy)]
      simp [putM]
    · rw [Maps.has_put_other (K.lit_ne hy hz e1), h2 z hz]
      simp [putM, e1]
  · by_cases e1 : z = y
    · subst e1
      rw [Maps.atKey_put_same h1.isMap (K.isKey hy)]
      simp [putM]
    · rw [Maps.atKey_put_other (K.lit_ne hy hz e1), h3 z hz]
      simp [putM, e1]
  · rw [Maps.size_put (h1.tidy K.law), h2 y hy, h4]
end
end
theorem types_pos : ∃ m, Tryd.prog.types.size = m + 1 := ⟨Tryd.prog.types.size - 1, by have : 0 < Tryd.prog.types.size := of_decide_eq_true (by kernel_rfl); omega⟩
theorem laid_out : laidOutB Tryd.prog = true := by kernel_rfl
theorem zero_int (w : World) : (zeroValue 3).run Tryd.prog w = .ok (.int .i64 0) w := by kernel_rfl

end Go.Proofs.YtkedgombccdamaaDoor
namespace Go.Proofs.YtkedgombccdamaaDoor
open Go.RowKit Go.Shelf Go.Maps
set_option linter.unusedVariables false
set_option linter.unusedSimpArgs false
attribute [local go_sem] Oper.semAt_some

/-- a map of the call's own from ints to values of one cell -/
def ValMap (w : World) (b n : Nat) (m : Int → Option Value) : Prop :=
  ∃ D : DataW Value, w.ownsMap Tryd.prog 3 (fun v => some (.held v, [])) b n D ∧ ∀ x, (Lit.int .i64 x).wf = true → ∀ z, D.atKey (.int .i64 x) (.held z) = .held ((m x).getD z)
theorem ValMap.new (w : World) {g : Nat} (hg : g = w.heap.size) : ValMap (w.alloc (.map #[] 0)) g 0 (fun _ => none) := by
  subst hg
  exact ⟨_, World.ownsMap_made w _ _ _, fun x _ z => rfl⟩
theorem ValMap.lt {w : World} {b n : Nat} {m : Int → Option Value} (h : ValMap w b n m) : b < w.heap.size := by
  obtain ⟨D, h1, _⟩ := h; exact h1.lt
theorem ValMap.keep {w w' : World} {b n : Nat} {m : Int → Option Value} (h : ValMap w b n m) (hk : w'.heap[b]? = w.heap[b]?) : ValMap w' b n m := by
  obtain ⟨D, ⟨es, clock, hb, r⟩, h2⟩ := h
  exact ⟨D, ⟨es, clock, hk.trans hb, r⟩, h2⟩
section
variable {ops : Array Oper} {rest : List Oper} {o : Oper} {a : Act} {Q : Exit → Act → World → Prop} {w : World} {b n : Nat} {mf : Int → Option Value}
end

/-- the edges that leave a state, in their order -/
def edgesAt (E : List Edg) (n : Nat) : List Edg := E.filter fun d => d.fr == (n : Int)
theorem mem_edgesAt {E : List Edg} {n : Nat} {d : Edg} : d ∈ edgesAt E n ↔ d ∈ E ∧ d.fr = n := by simp [edgesAt]
/-- sim's copy of a machine, all of it below block nb -/
def MachOk (nb : Nat) (W : World) (gm N : Nat) (E : List Edg) (R : List Nat) : Prop :=
  Fits N E R ∧ N ≤ 1099511627776 ∧ E.length ≤ 1099511627776 ∧ (∀ r ∈ R, r < 4294967296) ∧ 0 < nb ∧ nb ≤ W.heap.size ∧ gm < nb ∧ ∃ bm nm B m d mf, bm < nb ∧ Blk W gm 146 #[.int .i64 (N : Int), .map (some bm), .slice B m d] ∧ m = R.length ∧ SliceOf W nb 1 encR B R ∧ ValMap W bm nm mf ∧
    ∀ n, n < N → ∃ A l c, (mf (n : Int)).getD (.slice none 0 0) = .slice A l c ∧ l = (edgesAt E n).length ∧ SliceOf W nb 7 edgC A (edgesAt E n)
theorem MachOk.keep {nb : Nat} {W W' : World} {gm N : Nat} {E : List Edg} {R : List Nat} (h : MachOk nb W gm N E R) (hk : ∀ k, k < nb → W'.heap[k]? = W.heap[k]?) (hs : W.heap.size ≤ W'.heap.size) : MachOk nb W' gm N E R := by
  obtain ⟨h1, h2, h3, h4, h5, h6, h7, bm, nm, B, m, d, mf, g1, g2, g3, g4, g5, g6⟩ := h
  refine ⟨h1, h2, h3, h4, h5, Nat.le_trans h6 hs, h7, bm, nm, B, m, d, mf, g1, (hk gm h7).trans g2, g3, g4.keep hk, g5.keep (hk bm g1), fun n hn => ?_⟩
  obtain ⟨A, l, c, e1, e2, e3⟩ := g6 n hn
  exact ⟨A, l, c, e1, e2, e3.keep hk⟩
theorem MachOk.below {nb n : Nat} {W W' : World} {gm N : Nat} {E : List Edg} {R : List Nat} (h : MachOk nb W gm N E R) (hb : Below n W W') (hn : nb ≤ n) : MachOk nb W' gm N E R := h.keep (fun k hk => hb.block k (by omega)) hb.size
theorem MachOk.grown {nb r : Nat} {W W' : World} {gm N : Nat} {E : List Edg} {R : List Nat} (h : MachOk nb W gm N E R) (hg : W.grownBy W' (some r)) (hr : nb ≤ r) : MachOk nb W' gm N E R := h.keep (fun k hk => hg.block k (by have := h.2.2.2.2.2.1; omega) (by intro e; injection e; omega)) hg.size

/-- how many words a set of N states takes -/
def wordsFor (N : Nat) : Nat := (N + 63) / 64
theorem info_u64z : (Tryd.prog.info? 50).map (fun i => (i.zero, i.size, i.bytes)) = some (some (.int .u64 0), 1, 8) := by kernel_rfl
theorem words_room (N : Nat) : N ≤ 64 * wordsFor N := by unfold wordsFor; omega
end Go.Proofs.YtkedgombccdamaaDoor
namespace Go.Proofs.YtkedgombccdamaaDoor
open Go.RowKit Go.Shelf Go.Maps
set_option linter.unusedVariables false
set_option linter.unusedSimpArgs false
attribute [local go_sem] Oper.semAt_some

section
variable {α β : Type} {enc : α → Array Value} {enc2 : β → Array Value} {size size2 base base2 B g r : Nat} {e e2 t : TypeId} {W W' : World} {v v2 : Value} {ys : List α} {zs : List β} {cs : Array Value} {row : Option Nat}
/-- one element off the end -/
theorem own_pop (hs : ∀ y, (enc y).size = size) {A : Option Addr} {n c : Nat} (h : Own W base e size enc (.slice A n c) ys) (hn : 0 < ys.length) : Own W base e size enc (.slice A (n - 1) c) ys.dropLast := by
  rcases h.2 with ⟨hv, h0⟩ | ⟨g', cap, cur, hv, hge, hh, hc, hm, hcs, ht⟩
  · omega
  · injection hv with hA hn2 hc2
    subst hA hn2 hc2
    have hlen : ys.dropLast.length = ys.length - 1 := List.length_dropLast
    unfold Own
    rw [hlen]
    refine ⟨by rw [flat_length hs, hlen], .inr ⟨g', c, cur, rfl, hge, hh, by omega, hm, hcs, ?_⟩⟩
    have e1 : flat enc ys.dropLast = (flat enc ys).take ((ys.length - 1) * size) := by
      rw [List.dropLast_eq_take]
      have e2 : flat enc ys = flat enc (ys.take (ys.length - 1)) ++ flat enc (ys.drop (ys.length - 1)) := by
        unfold flat
        rw [← List.flatMap_append, List.take_append_drop]
      rw [e2, List.take_left']
      rw [flat_length hs, List.length_take]
      congr 1
      omega
    rw [e1, ← ht, List.take_take, Nat.min_eq_left]
    exact Nat.mul_le_mul_right _ (by omega)
theorem own_same {v : Value} {xs ys : List α} (h : Own W base e size enc v xs) (h' : Own W base e size enc v ys) : flat enc xs = flat enc ys := by
  rcases h.2 with ⟨hv, h0⟩ | ⟨g', cap, cur, hv, hge, hh, hc, hm, hcs, ht⟩
  · rcases h'.2 with ⟨_, h1⟩ | ⟨g2, cap2, cur2, hv2, _⟩
    · rw [List.eq_nil_of_length_eq_zero h0, List.eq_nil_of_length_eq_zero h1]
    · rw [hv] at hv2; cases hv2
  · rcases h'.2 with ⟨hv2, _⟩ | ⟨g2, cap2, cur2, hv2, _, hh2, _, _, _, ht2⟩
    · rw [hv] at hv2; cases hv2
    · rw [hv] at hv2
      injection hv2 with e1 e2 e3
      injection e1 with e1
      injection e1 with e1
      subst e1
      rw [hh] at hh2
      injection hh2 with hh2
      injection hh2 with hh2
      subst hh2
      rw [← ht, ← ht2, e2]
end
def encN (n : Nat) : Array Value := #[.int .i64 (n : Int)]
theorem encN_size (v : Nat) : (encN v).size = 1 := rfl
theorem encN_one (v : Nat) : (encN v).all (·.oneCell') = true := by simp [encN, Value.oneCell']
theorem flat_encU_inj : ∀ {xs ys : List Nat}, flat encU xs = flat encU ys → xs = ys
  | [], [], _ => rfl
  | [], y :: ys, h => by simp [flat, encU] at h
  | x :: xs, [], h => by simp [flat, encU] at h
  | x :: xs, y :: ys, h => by
    have e1 : flat encU (x :: xs) = .int .u64 x :: flat encU xs := rfl
    have e2 : flat encU (y :: ys) = .int .u64 y :: flat encU ys := rfl
    rw [e1, e2] at h
    injection h with h1 h2
    injection h1 with _ h1
    rw [flat_encU_inj h2, Int.ofNat.inj h1]

end Go.Proofs.YtkedgombccdamaaDoor
