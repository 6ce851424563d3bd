/- Part 1 of a proof; packed: the texts that it was made of follow one another. No condition beyond those named in each lemma. -/
import Derived.Test.YtkedgombccdamaaGreatDoorProg
import Derived.BigQuiet
import Derived.BigRegion
import Derived.ChangeKeysEq
import Derived.Deep.AppendLies
import Derived.Deep.DeepCutAuto
import Derived.Deep.DeepFit
import Derived.Deep.DeepMust
import Derived.Deep.Draws
import Derived.Deep.LoopGhost
import Derived.Deep.QuietTactic
import Derived.Deep.RegionHeld3
import Derived.Laws.BitsAllLaws
import Derived.Laws.BitsLemmas
import Derived.Laws.BytesString
import Derived.Laws.IdiomStrings
import Derived.Laws.OwnMore
import Derived.Laws.Rows
import Derived.Laws.StructEq
import Derived.Lib.Hide
import Derived.Maps.AppendAt
import Derived.Outline
import Derived.OwnWalk
import Derived.RegionTactic
import Derived.StillTailTactics
import Derived.WalkKit
import Derived.WalkLawsBesides
import Derived.WalkSpells
namespace Go.Proofs.YtkedgombccdamaaGreatDoor
open Go.RowKit
def Blk (w : World) (g : Nat) (t : TypeId) (cs : Array Value) : Prop := w.heap[g]? = some (.cells cs t (0, 0))
section
variable {w w' : World} {g : Nat} {t : TypeId} {cs : Array Value}
theorem Blk.lt (h : Blk w g t cs) : g < w.heap.size := by
 rcases Nat.lt_or_ge g w.heap.size with hlt | hge
 ·exact hlt
 ·unfold Blk at h; rw [Array.getElem?_eq_none hge] at h; cases h
theorem Blk.cell (h : Blk w g t cs) (i : Nat) : w.cell? ⟨g, i, none⟩ = cs[i]? := cell_of_row w g i cs t (0, 0) h
theorem Blk.cellv (h : Blk w g t cs) {i : Nat} {v : Value} (hv : cs[i]? = some v) : w.cell? ⟨g, i, none⟩ = some v := (h.cell i).trans hv
theorem Blk.frozen (h : Blk w g t cs) (i : Nat) : w.frozen? ⟨g, i, none⟩ = false := by
 unfold Blk at h
 simp [World.frozen?, h]
theorem Blk.new (w : World) (t : TypeId) (cs : Array Value) : Blk (w.alloc (.cells cs t)) w.heap.size t cs := heap_alloc_new w _
theorem Blk.new' {n : Nat} (w : World) (t : TypeId) (cs : Array Value) (h : n = w.heap.size) : Blk (w.alloc (.cells cs t)) n t cs := by
 subst h; exact heap_alloc_new w _
theorem Blk.drew (h : Blk w g t cs) : Blk w.drew g t cs := h
theorem Blk.alloc (h : Blk w g t cs) (o : Obj) : Blk (w.alloc o) g t cs := (Below.heap_alloc w o g h.lt).trans h
theorem Blk.set_ (h : Blk w g t cs) (i : Nat) (u : Value) : Blk (w.setCell ⟨g, i, none⟩ u) g t (cs.setIfInBounds i u) := by
 unfold Blk at h ⊢
 simp [World.setCell, Array.getElem?_modify, h]
theorem Blk.set_eq (h : Blk w g t cs) {i : Nat} {u : Value} {cs' : Array Value} (e : cs.setIfInBounds i u = cs') : Blk (w.setCell ⟨g, i, none⟩ u) g t cs' := by
 rw [← e]; exact h.set_ i u
theorem Blk.far (h : Blk w g t cs) {p : Addr} (hp : g ≠ p.block) (u : Value) : Blk (w.setCell p u) g t cs := (Below.heap_setCell w p u g hp).trans h
theorem Blk.below {B : Nat} (h : Blk w g t cs) (hb : Below B w w') (hg : g < B) : Blk w' g t cs := (hb.block g hg).trans h
theorem Blk.grown {row : Option Nat} (h : Blk w g t cs) (hb : w.grownBy w' row) (hg : some g ≠ row) : Blk w' g t cs := (hb.block g h.lt hg).trans h
theorem Blk.ne_ {g' : Nat} {t' : TypeId} {cs' : Array Value} (h : Blk w g t cs) (h' : Blk w g' t' cs') (hne : t ≠ t') : g ≠ g' := by
 rintro rfl
 unfold Blk at h h'
 rw [h] at h'
 injection h' with h'
 injection h' with _ ht
 exact hne ht
theorem zzm {base : Nat} {e : TypeId} {size n : Nat} {v : Value} {xs : List Value} (h : w.ownsRow base e size v n xs) (hg : Blk w g t cs) (hne : e ≠ t) : v.ownBlock ≠ some g := by
 rcases h.2 with ⟨rfl, _⟩ | ⟨g', cap, cur, rfl, _, hh, _⟩
 ·simp [Value.ownBlock]
 ·intro he
  have : g' = g := by simpa [Value.ownBlock] using he
  subst this
  exact Blk.ne_ (t := e) hh hg hne rfl
theorem Blk.setRow_same (h : Blk w g t cs) (cs' : Array Value) : Blk (w.setRow g cs') g t cs' := setRow_heap w g cs cs' t _ h
end
theorem zqd {a w w' : World} (h : Below a.heap.size a w) (k : Below w.heap.size w w') : Below a.heap.size a w' := h.trans (k.mono h.size)
theorem zqh {a w w' : World} {g : Nat} (h : Below a.heap.size a w) (hg : w.grownBy w' (some g)) (hr : a.heap.size ≤ g) : Below a.heap.size a w' :=
 h.grown hg h.size (by rintro k ⟨⟩; exact hr)
theorem zqc {a w : World} (h : Below a.heap.size a w) (o : Obj) : Below a.heap.size a (w.alloc o) := h.alloc h.size o
theorem zqk {w w' : World} {g k : Nat} {t : TypeId} {cs : Array Value} (h : Blk w g t cs) (hg : w.grownBy w' (some k)) (hne : g ≠ k) : Blk w' g t cs := h.grown hg (fun e => hne (by injection e))
theorem zqb {w w' : World} {g : Nat} {t : TypeId} {cs : Array Value} (h : Blk w g t cs) (k : Below w.heap.size w w') : Blk w' g t cs := h.below k h.lt
theorem zzk (w : World) (row : Option Nat) : w.grownBy w row := World.grownBy.refl w row
theorem only_drew {a w : World} {row : Option Nat} (h : a.grownBy w row) : a.grownBy w.drew row := ⟨h.os, h.tape, h.output, h.size, h.block⟩
theorem zzi {a w : World} {g : Nat} (h : a.grownBy w (some g)) {p : Addr} (hp : p.block = g ∨ a.heap.size ≤ p.block) (u : Value) : a.grownBy (w.setCell p u) (some g) :=
 ⟨h.os, h.tape, h.output, by simpa [World.setCell] using h.size, fun i hi hne => (Below.heap_setCell w p u i (by
  rintro rfl
  rcases hp with hp | hp
  ·exact hne (by rw [hp])
  ·omega)).trans (h.block i hi hne)⟩
theorem zzq {a w : World} (h : Below a.heap.size a w) (row : Option Nat) : a.grownBy w row := ⟨h.os, h.tape, h.output, h.size, fun i hi _ => h.block i hi⟩
theorem ret_cell {P : Program} {w : World} {g : Nat} {t : TypeId} {cs : Array Value} {fn : Func} {p : Tmp} {ty : TypeId} (hres : fn.results = #[.cell p ty]) {a : Act} (d : TypeDesc)
  (hp : a.tmps.getD p undef = .pointer (some ⟨g, 0, none⟩)) (hb : Blk w g t cs)
  (hu : P.underlying ty = some d) (hd : (match d with | .struct _ | .array _ _ => true | _ => false) = true) (hi : (P.info? ty).map (·.size) = some cs.size)
  (hdf : a.defers = []) {R : Ending → World → Prop} (hR : R (.returned (.agg cs)) w) : bodyPost P fn R .ret a w :=
 bodyPost_ret (results_cell_row hres a.tmps w g t cs (0, 0) d hp hb hu hd hi) hdf hR
theorem ret_cell2 {P : Program} {w : World} {g : Nat} {t : TypeId} {cs : Array Value} {fn : Func} {p u : Tmp} {ty : TypeId} (hres : fn.results = #[.cell p ty, .tmp u]) {a : Act} (d : TypeDesc)
  (hp : a.tmps.getD p undef = .pointer (some ⟨g, 0, none⟩)) (hb : Blk w g t cs)
  (hu : P.underlying ty = some d) (hd : (match d with | .struct _ | .array _ _ => true | _ => false) = true) (hi : (P.info? ty).map (·.size) = some cs.size)
  (hdf : a.defers = []) {R : Ending → World → Prop} (hR : R (.returned (.tuple #[.agg cs, a.tmps.getD u undef])) w) : bodyPost P fn R .ret a w := by
 refine bodyPost_ret ?_ hdf hR
 have hl := run_loadVar_row (P := P) w g t ty cs (0, 0) d hb hu hd hi
 have hp' : a.tmps[p]?.getD undef = .pointer (some ⟨g, 0, none⟩) := by simpa using hp
 simp [results, hres, hp', asAddr, hl]
def RowAt (w : World) (b off : Nat) (cs : Array Value) : Prop := ∀ (j : Nat) (v : Value), cs[j]? = some v → w.cell? ⟨b, off + j, none⟩ = some v
theorem RowAt.of_blk {w : World} {g : Nat} {t : TypeId} {cs : Array Value} (h : Blk w g t cs) : RowAt w g 0 cs := fun j v hv => by rw [Nat.zero_add]; exact h.cellv hv
theorem RowAt.keep {w w' : World} {b off : Nat} {cs : Array Value} (h : RowAt w b off cs) (hk : w'.heap[b]? = w.heap[b]?) : RowAt w' b off cs :=
 fun j v hv => (World.cell?_of_block (w := w) hk).trans (h j v hv)
def SliceOf {α : Type} (w : World) (B size : Nat) (enc : α → Array Value) (A : Option Addr) (xs : List α) : Prop :=
 xs = [] ∨ ∃ b off, A = some ⟨b, off, none⟩ ∧ b < B ∧ ∀ i (h : i < xs.length), RowAt w b (off + i * size) (enc xs[i])
section
variable {α : Type} {w w' : World} {B B' size : Nat} {enc : α → Array Value} {A : Option Addr} {xs : List α}
theorem SliceOf.keep (h : SliceOf w B size enc A xs) (hk : ∀ k, k < B → w'.heap[k]? = w.heap[k]?) : SliceOf w' B size enc A xs := by
 rcases h with h | ⟨b, off, e, hb, hr⟩
 ·exact .inl h
 ·exact .inr ⟨b, off, e, hb, fun i hi => (hr i hi).keep (hk b hb)⟩
theorem SliceOf.below (h : SliceOf w B size enc A xs) (hb : Below B w w') : SliceOf w' B size enc A xs := h.keep hb.block
theorem SliceOf.more (h : SliceOf w B size enc A xs) (hB : B ≤ B') : SliceOf w B' size enc A xs := by
 rcases h with h | ⟨b, off, e, hb, hr⟩
 ·exact .inl h
 ·exact .inr ⟨b, off, e, by omega, hr⟩
theorem SliceOf.at_ (h : SliceOf w B size enc A xs) (hn : 0 < xs.length) : ∃ b off, A = some ⟨b, off, none⟩ ∧ b < B ∧ ∀ i (hi : i < xs.length), RowAt w b (off + i * size) (enc xs[i]) := by
 rcases h with rfl | h
 ·simp at hn
 ·exact h
end
theorem run_loadVar_at {P : Program} (w : World) (b off : Nat) (ty : TypeId) (cs : Array Value) (d : TypeDesc) (hr : RowAt w b off cs)
  (hu : P.underlying ty = some d) (hd : (match d with | .struct _ | .array _ _ => true | _ => false) = true) (hi : (P.info? ty).map (·.size) = some cs.size) :
  (loadVar ty ⟨b, off, none⟩).run P w = .ok (.agg cs) w := by
 have hl : (loadCells ⟨b, off, none⟩ cs.toList.length).run P w = .ok cs.toList.toArray w :=
  run_loadCells_list (P := P) w ⟨b, off, none⟩ cs.toList (fun j v hv => by
   have hadd : (⟨b, off, none⟩ : Addr).add j = ⟨b, off + j, none⟩ := by unfold Addr.add; split <;> simp_all
   rw [hadd]
   exact hr j v (by simpa using hv))
 cases hq : P.info? ty with
 | none => simp [hq] at hi
 | some i =>
  have hs : i.size = cs.size := by simpa [hq] using hi
  have hagg : (isAgg ty).run P w = .ok true w := by
   unfold isAgg
   rw [Sem.run_bind, run_underlying hu w]
   cases d <;> simp_all
  simp only [Array.length_toList, Array.toArray_toList] at hl
  simp [loadVar, Sem.run_bind, hagg, sizeOf, typeInfo, hq, hs, hl]
theorem wp_load_at {P : Program} {o : Oper} {a : Act} {w : World} {K : Act → World → Prop} {Q : Exit → Act → World → Prop} (ty : TypeId) (x : Operand) (ho : o.op = .load ty x)
  (b off : Nat) (hx : a.eval x = .pointer (some ⟨b, off, none⟩)) (cs : Array Value) (d : TypeDesc) (hr : RowAt w b off cs)
  (hu : P.underlying ty = some d) (hd : (match d with | .struct _ | .array _ _ => true | _ => false) = true) (hi : (P.info? ty).map (·.size) = some cs.size)
  (h : K (a.put o.dst (.agg cs)) w) : o.wp P a w K Q := by
 unfold Oper.wp execOp
 simp only [ho, hx, Instr.loadAt, Instr.sureAddr, Sem.run_bind, Sem.run_pure, Result.andThen_ok, run_loadVar_at w b off ty cs d hr hu hd hi]
 exact h
theorem wpList_load_at {P : Program} {ops : Array Oper} {rest : List Oper} {o : Oper} {a : Act} {w : World} {Q : Exit → Act → World → Prop} (hgd : o.guard = none) (ty : TypeId) (x : Operand) (ho : o.op = .load ty x)
  (b off : Nat) (hx : a.eval x = .pointer (some ⟨b, off, none⟩)) (cs : Array Value) (d : TypeDesc) (hr : RowAt w b off cs)
  (hu : P.underlying ty = some d) (hd : (match d with | .struct _ | .array _ _ => true | _ => false) = true) (hi : (P.info? ty).map (·.size) = some cs.size)
  (h : wpList P ops Q rest (a.put o.dst (.agg cs)) w) : wpList P ops Q (o :: rest) a w :=
 wpList_plain hgd fun _ hK => wp_load_at ty x ho b off hx cs d hr hu hd hi (hK _ _ h)
theorem wp_store_cell {P : Program} {o : Oper} {a : Act} {w : World} {K : Act → World → Prop} {Q : Exit → Act → World → Prop} (ty : TypeId) (x y : Operand) (ho : o.op = .store ty x y)
  (g i : Nat) (v : Value) (hx : a.eval x = .pointer (some ⟨g, i, none⟩)) (hy : a.eval y = v) (t : TypeId) (cs : Array Value) (hb : Blk w g t cs)
  (hv : v.cells = #[v]) (h1 : v.oneCell' = true) (hi : i < cs.size) (hsz : (P.info? ty).map (·.size) = some 1)
  (h : ∀ w', Blk w' g t (cs.setIfInBounds i v) → w.grownBy w' (some g) → K (a.put o.dst undef) w') : o.wp P a w K Q := by
 have hcell : w.cell? ⟨g, i, none⟩ = some cs[i] := hb.cellv (Array.getElem?_eq_getElem hi)
 have hfr := hb.frozen i
 have hrun : (storeVar ty ⟨g, i, none⟩ v).run P w = .ok () (w.setCell ⟨g, i, none⟩ v) := by
  cases hq : P.info? ty with
  | none => simp [hq] at hsz
  | some j =>
   have hs : j.size = 1 := by simpa [hq] using hsz
   have e := run_store P w ⟨g, i, none⟩ v .plain h1
   simp only [hcell, hfr, Bool.false_eq_true, if_false] at e
   have e0 : (⟨g, i, none⟩ : Addr).add 0 = ⟨g, i, none⟩ := rfl
   simp [storeVar, sizeOf, typeInfo, hq, hs, hv, storeCells, e0, e]
 unfold Oper.wp execOp
 simp only [ho, hx, hy, Instr.storeAt, Instr.sureAddr, Sem.run_bind, Sem.run_pure, Result.andThen_ok, hrun]
 exact h _ (hb.set_ i v) (zzi (zzk _ _) (.inl rfl) _)
theorem zqt {P : Program} {ops : Array Oper} {rest : List Oper} {o : Oper} {a : Act} {w : World} {Q : Exit → Act → World → Prop} (hgd : o.guard = none) (ty : TypeId) (x y : Operand) (ho : o.op = .store ty x y)
  (g i : Nat) (hx : a.eval x = .pointer (some ⟨g, i, none⟩)) (t : TypeId) (cs cs' : Array Value) (hb : Blk w g t cs) (hi : i < cs.size) (hsz : (P.info? ty).map (·.size) = some 1)
  (hv : (a.eval y).cells = #[a.eval y]) (h1 : (a.eval y).oneCell' = true) (he : cs.setIfInBounds i (a.eval y) = cs')
  (h : ∀ w', Blk w' g t cs' → w.grownBy w' (some g) → wpList P ops Q rest (a.put o.dst undef) w') : wpList P ops Q (o :: rest) a w :=
 wpList_plain hgd fun _ hK => wp_store_cell ty x y ho g i _ hx rfl t cs hb hv h1 hi hsz fun w' h1 h2 => hK _ _ (h w' (he ▸ h1) h2)
theorem zxs {a w : World} {g : Nat} (h : a.grownBy w (some g)) (cs : Array Value) : a.grownBy (w.setRow g cs) (some g) :=
 ⟨h.os, h.tape, h.output, by simpa using h.size, fun i hi hne => (setRow_other w g i cs (fun e => hne (by rw [e]))).trans (h.block i hi hne)⟩
end Go.Proofs.YtkedgombccdamaaGreatDoor
namespace Go.Proofs.YtkedgombccdamaaGreatDoor
open Go.RowKit
set_option linter.unusedVariables false
set_option linter.unusedSimpArgs false
set_option linter.unnecessarySimpa false
structure GSpec where
 p : Value → World → Prop
 st : ∀ (v : Value) (w w' : World), p v w → Below w.heap.size w w' → p v w'
def eqS (v : Value) : GSpec := ⟨fun u _ => u = v, fun _ _ _ h _ => h⟩
def anyS : GSpec := ⟨fun _ _ => True, fun _ _ _ h _ => h⟩
def zzl (l : List GSpec) (i : Nat) : GSpec := l.getD i anyS
def zzd (ops : Array Oper) (n : Nat) : List Nat := (ops.toList.take n).filterMap (·.dst)
def noDup : List Nat → Bool
 | [] => true
 | a :: l => !l.contains a && noDup l
def headTrue (n g : Nat) : Array Bool := (List.replicate n true ++ List.replicate g false).toArray
def growB (ops : Array Oper) (n size : Nat) : Bool :=
 decide (n ≤ ops.size) && noDup (zzd ops n) && (zzd ops n).all (fun d => decide (d < size)) &&
 (List.range n).all (fun i => match ops[i]? with | some o => o.after.all fun e => !Region.binds .any e || decide (e.on < i) | none => false) &&
 (decide (n = ops.size) || (Region.sinkB .any ops n && Region.chainB .any ops n)) && Region.seqB .any ops (ops.size - n) n (headTrue n (ops.size - n))
def opOk (ops : Array Oper) (S : Nat → GSpec) (a : Act) (w : World) (j : Nat) : Prop := ∀ d, (ops[j]?).bind (·.dst) = some d → (S j).p (a.tmps.getD d undef) w
structure GBase (ops : Array Oper) (n : Nat) (a0 a : Act) : Prop where
 defers : a.defers = a0.defers
 size : a.tmps.size = a0.tmps.size
 other : ∀ t, (zzd ops n).contains t = false → a.tmps.getD t undef = a0.tmps.getD t undef
def GK (S : Nat → GSpec) (i : Nat) (o : Oper) (a : Act) (w : World) : Act → World → Prop := fun a' w' => ∃ v, a' = a.put o.dst v ∧ Below w.heap.size w w' ∧ (S i).p v w'
def GStep (P : Program) (ops : Array Oper) (S : Nat → GSpec) (Q : Exit → Act → World → Prop) (i : Nat) (o : Oper) (a : Act) (w : World) : Prop :=
 if Region.wanted o (yielded ops a.tmps) = true then o.wp P a w (GK S i o a w) Q else (S i).p undef w
theorem put_getD_same {a : Act} {d : Nat} {v : Value} (h : d < a.tmps.size) : (a.put (some d) v).tmps.getD d undef = v := by simp [Act.put, h]
theorem zxp {a : Act} {d t : Nat} {v : Value} (h : d ≠ t) : (a.put (some d) v).tmps.getD t undef = a.tmps.getD t undef := by
 simp [Act.put, Array.getElem?_setIfInBounds_ne h]
theorem put_size {a : Act} {d : Option Tmp} {v : Value} : (a.put d v).tmps.size = a.tmps.size := by cases d <;> simp [Act.put]
theorem put_defers {a : Act} {d : Option Tmp} {v : Value} : (a.put d v).defers = a.defers := by cases d <;> simp [Act.put]
theorem noDup_spec : ∀ (l : List Oper), noDup (l.filterMap (·.dst)) = true → ∀ (i j : Nat) (oi oj : Oper) (d : Nat), l[i]? = some oi → l[j]? = some oj → oi.dst = some d → oj.dst = some d → i = j
 | [], _, i, j, oi, oj, d, hi, _, _, _ => by simp at hi
 | o :: l, h, i, j, oi, oj, d, hi, hj, hdi, hdj => by
  have mem : ∀ (k : Nat) (ok : Oper), l[k]? = some ok → ok.dst = some d → d ∈ l.filterMap (·.dst) := fun k ok hk hd =>
   List.mem_filterMap.2 ⟨ok, List.mem_of_getElem? hk, hd⟩
  cases ho : o.dst with
  | none =>
   rw [List.filterMap_cons, ho] at h
   rcases i with _ | i
   ·simp only [List.getElem?_cons_zero, Option.some.injEq] at hi; subst hi; rw [ho] at hdi; cases hdi
   ·rcases j with _ | j
    ·simp only [List.getElem?_cons_zero, Option.some.injEq] at hj; subst hj; rw [ho] at hdj; cases hdj
    ·rw [List.getElem?_cons_succ] at hi hj
     rw [noDup_spec l h i j oi oj d hi hj hdi hdj]
  | some e =>
   rw [List.filterMap_cons, ho] at h
   simp only [noDup, Bool.and_eq_true, Bool.not_eq_true'] at h
   rcases i with _ | i
   ·simp only [List.getElem?_cons_zero, Option.some.injEq] at hi; subst hi
    rw [hdi] at ho; injection ho with ho; subst ho
    rcases j with _ | j
    ·rfl
    ·rw [List.getElem?_cons_succ] at hj
     have := mem j oj hj hdj
     have h1 := h.1
     rw [List.contains_eq_mem] at h1
     simp [this] at h1
   ·rcases j with _ | j
    ·simp only [List.getElem?_cons_zero, Option.some.injEq] at hj; subst hj
     rw [hdj] at ho; injection ho with ho; subst ho
     rw [List.getElem?_cons_succ] at hi
     have := mem i oi hi hdi
     have h1 := h.1
     rw [List.contains_eq_mem] at h1
     simp [this] at h1
    ·rw [List.getElem?_cons_succ] at hi hj
     rw [noDup_spec l h.2 i j oi oj d hi hj hdi hdj]
structure GInv (ops : Array Oper) (n : Nat) (S : Nat → GSpec) (a0 : Act) (W0 : World) (listed : Array Bool) (a : Act) (w : World) : Prop where
 head : HeadInv .any ops n listed
 base : GBase ops n a0 a
 below : Below W0.heap.size W0 w
 done : ∀ j, j < n → listed.getD j false = true → opOk ops S a w j
def unl (n : Nat) (listed : Array Bool) : Nat := ((List.range n).filter fun j => !listed.getD j false).length
theorem unl_pos {n i : Nat} {listed : Array Bool} (hi : i < n) (h : listed.getD i false = false) : 0 < unl n listed := by
 unfold unl
 apply List.length_pos_of_mem (a := i)
 simp only [List.mem_filter, List.mem_range]
 exact ⟨hi, by rw [h]; rfl⟩
theorem unl_set {n i : Nat} {listed : Array Bool} (hi : i < n) (hs : i < listed.size) (h : listed.getD i false = false) : unl n (listed.setIfInBounds i true) + 1 = unl n listed := by
 unfold unl
 induction n with
 | zero => omega
 | succ n ih =>
  rw [List.range_succ, List.filter_append, List.filter_append, List.length_append, List.length_append]
  by_cases e : i = n
  ·subst e
   have e1 : (List.range i).filter (fun j => !(listed.setIfInBounds i true).getD j false) = (List.range i).filter (fun j => !listed.getD j false) := by
    apply List.filter_congr
    intro j hj
    have : j < i := by simpa using hj
    rw [getD_set_ne false (by omega)]
   rw [e1]
   have e2 : (listed.setIfInBounds i true).getD i false = true := by simp [hs]
   simp only [List.filter_cons, List.filter_nil, e2, h]
   simp
  ·have := ih (by omega)
   have e2 : (listed.setIfInBounds i true).getD n false = listed.getD n false := getD_set_ne false e
   simp only [List.filter_cons, List.filter_nil, e2]
   omega
theorem wpAny_grow {P : Program} {ops : Array Oper} {n : Nat} {S : Nat → GSpec} {Q : Exit → Act → World → Prop} {a0 : Act} {W0 : World} (hB : growB ops n a0.tmps.size = true)
  (hstep : ∀ i o, i < n → ops[i]? = some o → ∀ a w, GBase ops n a0 a → Below W0.heap.size W0 w → (∀ e ∈ o.after, Region.binds .any e = true → opOk ops S a w e.on) → GStep P ops S Q i o a w)
  (hend : ∀ a w, GBase ops n a0 a → Below W0.heap.size W0 w → (∀ j, j < n → opOk ops S a w j) → wpList P ops Q (ops.toList.drop n) a w) :
  ∀ (m : Nat) (listed : Array Bool) (a : Act) (w : World), GInv ops n S a0 W0 listed a w → unl n listed = m → wpAny P .any ops Q (m + (ops.size - n)) listed a w := by
 simp only [growB, Bool.and_eq_true, Bool.or_eq_true, decide_eq_true_eq] at hB
 obtain ⟨⟨⟨⟨⟨hn, hdup⟩, hlt⟩, hedge⟩, htail⟩, hseq⟩ := hB
 have hedge' : ∀ i o, i < n → ops[i]? = some o → ∀ e ∈ o.after, Region.binds .any e = true → e.on < i := by
  intro i o hi ho e he hb
  have h1 := List.all_eq_true.1 hedge i (List.mem_range.2 hi)
  simp only [ho] at h1
  have h2 := (Array.all_eq_true_iff_forall_mem.1 h1) e he
  simpa [hb] using h2
 have hready : ∀ (listed : Array Bool) (a : Act) (w : World), GInv ops n S a0 W0 listed a w → 0 < unl n listed → ∀ j ∈ Region.ready .any ops listed, j < n := by
  intro listed a w inv hpos j hj
  rcases htail with he | ⟨hs, hc⟩
  ·obtain ⟨_, o, ho, _⟩ := mem_ready.1 hj
   have := (Array.getElem?_eq_some_iff.1 ho).1
   omega
  ·rcases Nat.lt_or_ge n ops.size with hlt' | hge
   ·unfold unl at hpos
    obtain ⟨i, hi⟩ := List.exists_mem_of_length_pos hpos
    simp only [List.mem_filter, List.mem_range, Bool.not_eq_true'] at hi
    have hun : listed.getD i true = false := getD_in (by rw [inv.head.size]; omega) hi.2
    rcases Nat.lt_or_ge j n with h | h
    ·exact h
    ·exact absurd hj (tail_waits hs hc hlt' inv.head _ i rfl hi.1 hun j h)
   ·obtain ⟨_, o, ho, _⟩ := mem_ready.1 hj
    have := (Array.getElem?_eq_some_iff.1 ho).1
    omega
 have hne : ∀ (listed : Array Bool) (a : Act) (w : World), GInv ops n S a0 W0 listed a w → 0 < unl n listed → Region.ready .any ops listed ≠ [] := by
  intro listed a w inv hpos hnil
  have hex : ∃ i, i < n ∧ listed.getD i false = false := by
   unfold unl at hpos
   obtain ⟨i, hi⟩ := List.exists_mem_of_length_pos hpos
   simp only [List.mem_filter, List.mem_range, Bool.not_eq_true'] at hi
   exact ⟨i, hi.1, hi.2⟩
  have hmin : ∃ i, i < n ∧ listed.getD i false = false ∧ ∀ k, k < i → listed.getD k false = true := by
   obtain ⟨i, hi, hf⟩ := hex
   clear hpos
   induction i using Nat.strongRecOn with
   | _ i ih =>
    by_cases h : ∃ k, k < i ∧ listed.getD k false = false
    ·obtain ⟨k, hk, hkf⟩ := h
     exact ih k hk (by omega) hkf
    ·refine ⟨i, hi, hf, fun k hk => ?_⟩
     cases hc : listed.getD k false with
     | true => rfl
     | false => exact absurd ⟨k, hk, hc⟩ h
  obtain ⟨i, hi, hf, hall⟩ := hmin
  have ho : ops[i]? = some ops[i] := Array.getElem?_eq_getElem (by omega)
  have hmem : i ∈ Region.ready .any ops listed := mem_ready.2 ⟨getD_in (by rw [inv.head.size]; omega) hf, _, ho, fun e he hb => hall _ (hedge' i _ hi ho e he hb)⟩
  rw [hnil] at hmem
  cases hmem
 intro m
 induction m with
 | zero =>
  intro listed a w inv hm
  have hall : ∀ j, j < n → listed.getD j false = true := by
   intro j hj
   cases hc : listed.getD j false with
   | true => rfl
   | false => have := unl_pos hj hc; omega
  have hlist : listed = headTrue n (ops.size - n) := by
   have hsz := inv.head.size
   apply Array.ext
   ·simp [headTrue, hsz]; omega
   ·intro j h1 h2
    have hj : j < ops.size := by rw [← hsz]; exact h1
    simp only [headTrue, List.getElem_toArray, List.getElem_append, List.length_replicate, List.getElem_replicate]
    by_cases hjn : j < n
    ·have := hall j hjn
     simp [h1] at this
     simp [hjn, this]
    ·have := inv.head.tail j (by omega) hj
     simp [h1] at this
     simp [hjn, this]
  have hw := hend a w inv.base inv.below (fun j hj => inv.done j hj (hall j hj))
  have hdl : (ops.toList.drop n).length = ops.size - n := by simp
  have := wpAny_of_seq (md := .any) (Q' := Q) (ops.toList.drop n) n listed a w (fun j => by simp [List.getElem?_drop]) (by rw [hdl, hlist]; exact hseq) hw
  rw [hdl] at this
  rw [Nat.zero_add]
  exact this
 | succ m ih =>
  intro listed a w inv hm
  rw [show m + 1 + (ops.size - n) = (m + (ops.size - n)) + 1 by omega]
  refine ⟨fun h => absurd h (hne listed a w inv (by omega)), fun i hi => ?_⟩
  have hin := hready listed a w inv (by omega) i hi
  obtain ⟨hun, o, ho, hall⟩ := mem_ready.1 hi
  have hlisted : listed.getD i false = false := getD_both hun
  have hg := hstep i o hin ho a w inv.base inv.below (fun e he hb => inv.done e.on (by have := hedge' i o hin ho e he hb; omega) (hall e he hb))
  have hsz : i < listed.size := by rw [inv.head.size]; omega
  have hnext : ∀ a' w', GK S i o a w a' w' → wpAny P .any ops Q (m + (ops.size - n)) (listed.setIfInBounds i true) a' w' := by
   rintro a' w' ⟨v, rfl, hb, hp⟩
   refine ih _ _ _ ⟨inv.head.set hi hin, ⟨by rw [put_defers]; exact inv.base.defers, by rw [put_size]; exact inv.base.size, fun t ht => ?_⟩, inv.below.trans (hb.mono inv.below.size), fun j hj hl d hd => ?_⟩ (by have := unl_set hin hsz hlisted; omega)
   ·cases hd : o.dst with
    | none => exact inv.base.other t ht
    | some d =>
     have hmem : d ∈ zzd ops n := List.mem_filterMap.2 ⟨o, by
      rw [List.mem_iff_getElem?]
      exact ⟨i, by rw [List.getElem?_take]; simp [hin, ho]⟩, hd⟩
     have hne : d ≠ t := by
      rintro rfl
      rw [List.contains_eq_mem] at ht
      simp [hmem] at ht
     rw [zxp hne]
     exact inv.base.other t ht
   ·by_cases hij : i = j
    ·subst hij
     rw [ho] at hd
     simp only [Option.bind_some] at hd
     rw [hd]
     have hmem : d ∈ zzd ops n := List.mem_filterMap.2 ⟨o, by
      rw [List.mem_iff_getElem?]
      exact ⟨i, by rw [List.getElem?_take]; simp [hin, ho]⟩, hd⟩
     have hdl : d < a.tmps.size := by
      have := List.all_eq_true.1 hlt d hmem
      rw [inv.base.size]; simpa using this
     rw [put_getD_same hdl]
     exact hp
    ·rw [getD_set_ne false hij] at hl
     have hold := inv.done j hj hl d hd
     have hkeep : (a.put o.dst v).tmps.getD d undef = a.tmps.getD d undef := by
      cases hod : o.dst with
      | none => rfl
      | some e =>
       apply zxp
       rintro rfl
       cases hoj : ops[j]? with
       | none => rw [hoj] at hd; cases hd
       | some oj =>
        rw [hoj] at hd
        simp only [Option.bind_some] at hd
        exact hij (noDup_spec _ hdup i j o oj e (by rw [List.getElem?_take]; simp [hin, ho]) (by rw [List.getElem?_take]; simp [hj, hoj]) hod hd)
     rw [hkeep]
     exact (S j).st _ _ _ hold hb
  unfold wpOp
  simp only [ho]
  unfold GStep at hg
  split
  ·rename_i hw
   rw [if_pos hw] at hg
   exact .inl (Oper.wp_mono hnext hg)
  ·rename_i hw
   rw [if_neg hw] at hg
   exact hnext _ _ ⟨undef, rfl, Below.refl _ _, hg⟩
def zqr (a : Act) (ds : List Nat) (u : Nat → Value) : Act := ds.foldl (fun a d => a.put (some d) (u d)) a
theorem putAll_spec (u : Nat → Value) : ∀ (ds : List Nat) (a : Act), (zqr a ds u).defers = a.defers ∧ (zqr a ds u).tmps.size = a.tmps.size ∧
  ∀ t, (zqr a ds u).tmps.getD t undef = if t ∈ ds ∧ t < a.tmps.size then u t else a.tmps.getD t undef
 | [], a => ⟨rfl, rfl, fun t => by simp [zqr]⟩
 | d :: ds, a => by
  obtain ⟨h1, h2, h3⟩ := putAll_spec u ds (a.put (some d) (u d))
  refine ⟨h1.trans put_defers, h2.trans put_size, fun t => ?_⟩
  rw [show zqr a (d :: ds) u = zqr (a.put (some d) (u d)) ds u from rfl, h3 t, put_size]
  by_cases ht : t < a.tmps.size
  ·by_cases hm : t ∈ ds
   ·simp [hm, ht]
   ·by_cases e : d = t
    ·subst e
     rw [if_neg (by simp [hm]), put_getD_same ht, if_pos ⟨by simp, ht⟩]
    ·have e' : ¬ t = d := fun h => e h.symm
     rw [zxp e, if_neg (by simp [hm]), if_neg (by simp [hm, e'])]
  ·have h0 : ∀ b : Act, b.tmps.size = a.tmps.size → b.tmps.getD t undef = undef := fun b hb => by
    simp [Array.getElem?_eq_none (xs := b.tmps) (i := t) (by omega)]
   rw [if_neg (by simp [ht]), if_neg (by simp [ht]), h0 _ put_size, h0 _ rfl]
theorem getD_lt {l : Array Value} {t : Nat} (h : t < l.size) : l.getD t undef = l[t] := by simp [h]
theorem act_eq {ops : Array Oper} {n : Nat} {a0 a : Act} (h : GBase ops n a0 a) : a = zqr a0 (zzd ops n) fun d => a.tmps.getD d undef := by
 obtain ⟨h1, h2, h3⟩ := putAll_spec (fun d => a.tmps.getD d undef) (zzd ops n) a0
 have ht : a.tmps = (zqr a0 (zzd ops n) fun d => a.tmps.getD d undef).tmps := by
  apply Array.ext
  ·rw [h2, h.size]
  ·intro t ht1 ht2
   rw [← getD_lt ht1, ← getD_lt ht2, h3 t]
   by_cases hm : t ∈ zzd ops n
   ·rw [if_pos ⟨hm, by rw [← h.size]; exact ht1⟩]
   ·rw [if_neg (fun hh => hm hh.1)]
    exact h.other t (by rw [List.contains_eq_mem]; simp [hm])
 cases a
 cases hh : zqr a0 (zzd ops n) _
 rw [hh] at ht h1
 simp only [Act.mk.injEq]
 exact ⟨ht, h.defers.trans h1.symm⟩
theorem wp_region_grow {P : Program} {id : Nat} {l : List Oper} {Q : Exit → Act → World → Prop} {a : Act} {w : World} (n : Nat) (S : List GSpec) (hm : P.follows .mixedOrders = true) (hB : growB l.toArray n a.tmps.size = true)
  (hstep : ∀ i o, i < n → l[i]? = some o → ∀ a' w', GBase l.toArray n a a' → Below w.heap.size w w' → (∀ e ∈ o.after, Region.binds .any e = true → opOk l.toArray (zzl S) a' w' e.on) → GStep P l.toArray (zzl S) Q i o a' w')
  (hend : ∀ (u : Nat → Value) w', Below w.heap.size w w' → (∀ j d, j < n → (l[j]?).bind (·.dst) = some d → (zzl S j).p (u d) w') → wpList P l.toArray Q (l.drop n) (zqr a (zzd l.toArray n) u) w') :
  (Code.region id l.toArray true).wp P Q a w := by
 refine wp_region_any hm ?_
 have hdr : ∀ {x : World}, Below w.heap.size w x → Below w.heap.size w.drew x := fun h => ⟨h.os, h.tape, h.output, h.size, h.block⟩
 have hrd : ∀ {x : World}, Below w.heap.size w.drew x → Below w.heap.size w x := fun h => ⟨h.os, h.tape, h.output, h.size, h.block⟩
 have hn : n ≤ l.length := by
  simp only [growB, Bool.and_eq_true, decide_eq_true_eq] at hB
  simpa using hB.1.1.1.1.1
 have key := wpAny_grow (P := P) (ops := l.toArray) (n := n) (S := zzl S) (Q := Q) (a0 := a) (W0 := w.drew) hB
  (fun i o hi ho a' w' hb hw hd => hstep i o hi (by simpa using ho) a' w' hb (hrd hw) hd)
  (fun a' w' hb hw hd => by
   rw [act_eq hb]
   have := hend (fun d => a'.tmps.getD d undef) w' (hrd hw) (fun j d hj hd' => hd j hj d (by simpa using hd'))
   simpa using this)
  n (Array.replicate l.toArray.size false) a w.drew
  ⟨⟨by simp, fun j oj _ hl => (by rw [getD_replicate_false] at hl; cases hl), fun t _ ht => getD_in (by simpa using ht) (getD_replicate_false _ _)⟩, ⟨rfl, rfl, fun _ _ => rfl⟩, Below.refl _ _, fun j _ hl => (by rw [getD_replicate_false] at hl; cases hl)⟩
  (by
   unfold unl
   rw [List.filter_eq_self.2 (fun j _ => by rw [getD_replicate_false]; rfl), List.length_range])
 rw [show n + (l.toArray.size - n) = l.toArray.size by simp; omega] at key
 exact key
def Steps (P : Program) (ops : Array Oper) (S : Nat → GSpec) (Q : Exit → Act → World → Prop) (n : Nat) (a : Act) (w : World) : List Oper → Nat → Prop
 | [], _ => True
 | o :: l, i => (∀ a' w', GBase ops n a a' → Below w.heap.size w w' → (∀ j, (o.after.toList.any fun e => Region.binds .any e && e.on == j) = true → opOk ops S a' w' j) → GStep P ops S Q i o a' w') ∧ Steps P ops S Q n a w l (i + 1)
theorem Steps.nil {P : Program} {ops : Array Oper} {S : Nat → GSpec} {Q : Exit → Act → World → Prop} {n : Nat} {a : Act} {w : World} {i : Nat} : Steps P ops S Q n a w [] i := trivial
theorem Steps.cons {P : Program} {ops : Array Oper} {S : Nat → GSpec} {Q : Exit → Act → World → Prop} {n : Nat} {a : Act} {w : World} {o : Oper} {l : List Oper} {i : Nat}
  (h : ∀ a' w', GBase ops n a a' → Below w.heap.size w w' → (∀ j, (o.after.toList.any fun e => Region.binds .any e && e.on == j) = true → opOk ops S a' w' j) → GStep P ops S Q i o a' w')
  (hl : Steps P ops S Q n a w l (i + 1)) : Steps P ops S Q n a w (o :: l) i := ⟨h, hl⟩
theorem Steps.at_ {P : Program} {ops : Array Oper} {S : Nat → GSpec} {Q : Exit → Act → World → Prop} {n : Nat} {a : Act} {w : World} : ∀ {l : List Oper} {i : Nat}, Steps P ops S Q n a w l i → ∀ (k : Nat) (o : Oper), l[k]? = some o →
  ∀ a' w', GBase ops n a a' → Below w.heap.size w w' → (∀ j, (o.after.toList.any fun e => Region.binds .any e && e.on == j) = true → opOk ops S a' w' j) → GStep P ops S Q (i + k) o a' w'
 | [], _, _, k, o, hk => by simp at hk
 | o' :: l, i, h, k, o, hk => by
  rcases k with _ | k
  ·simp only [List.getElem?_cons_zero, Option.some.injEq] at hk
   subst hk
   exact h.1
  ·rw [List.getElem?_cons_succ] at hk
   have := Steps.at_ h.2 k o hk
   rw [show i + (k + 1) = i + 1 + k by omega]
   exact this
theorem zql {P : Program} {id : Nat} {l : List Oper} {Q : Exit → Act → World → Prop} {a : Act} {w : World} (n : Nat) (S : List GSpec) (ds : List Nat) (hm : P.follows .mixedOrders = true) (hB : growB l.toArray n a.tmps.size = true)
  (hds : zzd l.toArray n = ds) (hstep : Steps P l.toArray (zzl S) Q n a w (l.take n) 0)
  (hend : ∀ (u : Nat → Value) w', Below w.heap.size w w' → (∀ j d, j < n → (l[j]?).bind (·.dst) = some d → (zzl S j).p (u d) w') → wpList P l.toArray Q (l.drop n) (zqr a ds u) w') :
  (Code.region id l.toArray true).wp P Q a w := by
 subst hds
 refine wp_region_grow n S hm hB (fun i o hi ho a' w' hb hw hd => ?_) hend
 have := hstep.at_ i o (by rw [List.getElem?_take, if_pos hi]; exact ho) a' w' hb hw (fun j hj => by
  obtain ⟨e, he, hh⟩ := List.any_eq_true.1 hj
  simp only [Bool.and_eq_true, beq_iff_eq] at hh
  rw [← hh.2]
  exact hd e (Array.mem_toList_iff.1 he) hh.1)
 rw [Nat.zero_add] at this
 exact this
theorem wpList_grow {P : Program} {l : List Oper} {n : Nat} {S : Nat → GSpec} {Q : Exit → Act → World → Prop} {a0 : Act} {W0 : World} (hn : n ≤ l.length) (hdup : noDup (zzd l.toArray n) = true)
  (hlt : (zzd l.toArray n).all (fun d => decide (d < a0.tmps.size)) = true)
  (hedge : (List.range n).all (fun i => match l.toArray[i]? with | some o => o.after.all fun e => !Region.binds .any e || decide (e.on < i) | none => false) = true)
  (hstep : ∀ i o, i < n → l[i]? = some o → ∀ a w, GBase l.toArray n a0 a → Below W0.heap.size W0 w → (∀ e ∈ o.after, Region.binds .any e = true → opOk l.toArray S a w e.on) → GStep P l.toArray S Q i o a w)
  (hend : ∀ a w, GBase l.toArray n a0 a → Below W0.heap.size W0 w → (∀ j, j < n → opOk l.toArray S a w j) → wpList P l.toArray Q (l.drop n) a w) :
  ∀ (m k : Nat) (a : Act) (w : World), k + m = n → GBase l.toArray n a0 a → Below W0.heap.size W0 w → (∀ j, j < k → opOk l.toArray S a w j) → wpList P l.toArray Q (l.drop k) a w := by
 intro m
 induction m with
 | zero =>
  intro k a w hk hb hw hd
  obtain rfl : k = n := by omega
  exact hend a w hb hw hd
 | succ m ih =>
  intro k a w hk hb hw hd
  have hkl : k < l.length := by omega
  have ho : l[k]? = some l[k] := List.getElem?_eq_getElem hkl
  have hoA : l.toArray[k]? = some l[k] := by simp
  rw [List.drop_eq_getElem_cons hkl]
  have hed : ∀ e ∈ l[k].after, Region.binds .any e = true → e.on < k := by
   intro e he hbd
   have h1 := List.all_eq_true.1 hedge k (List.mem_range.2 (by omega))
   simp only [hoA] at h1
   have h2 := (Array.all_eq_true_iff_forall_mem.1 h1) e he
   simpa [hbd] using h2
  have hg := hstep k l[k] (by omega) ho a w hb hw (fun e he hbd => hd e.on (hed e he hbd))
  have hnext : ∀ a' w', GK S k l[k] a w a' w' → wpList P l.toArray Q (l.drop (k + 1)) a' w' := by
   rintro a' w' ⟨v, rfl, hbw, hp⟩
   have hmem : ∀ d, l[k].dst = some d → d ∈ zzd l.toArray n := fun d hd' => List.mem_filterMap.2 ⟨l[k], by
    rw [List.mem_iff_getElem?]
    exact ⟨k, by rw [List.getElem?_take, if_pos (by omega)]; exact ho⟩, hd'⟩
   refine ih (k + 1) _ _ (by omega) ⟨by rw [put_defers]; exact hb.defers, by rw [put_size]; exact hb.size, fun t ht => ?_⟩ (hw.trans (hbw.mono hw.size)) (fun j hj d hdj => ?_)
   ·cases hdd : l[k].dst with
    | none => exact hb.other t ht
    | some d =>
     have hne : d ≠ t := by
      rintro rfl
      rw [List.contains_eq_mem] at ht
      simp [hmem d hdd] at ht
     rw [zxp hne]
     exact hb.other t ht
   ·by_cases hkj : k = j
    ·subst hkj
     rw [hoA] at hdj
     simp only [Option.bind_some] at hdj
     rw [hdj]
     have hdl : d < a.tmps.size := by
      have := List.all_eq_true.1 hlt d (hmem d hdj)
      rw [hb.size]; simpa using this
     rw [put_getD_same hdl]
     exact hp
    ·have hold := hd j (by omega) d hdj
     have hkeep : (a.put l[k].dst v).tmps.getD d undef = a.tmps.getD d undef := by
      cases hod : l[k].dst with
      | none => rfl
      | some e =>
       apply zxp
       rintro rfl
       cases hoj : l.toArray[j]? with
       | none => rw [hoj] at hdj; cases hdj
       | some oj =>
        rw [hoj] at hdj
        simp only [Option.bind_some] at hdj
        exact hkj (noDup_spec _ hdup k j l[k] oj e (by rw [List.getElem?_take, if_pos (by omega)]; exact ho) (by rw [List.getElem?_take, if_pos (by omega)]; simpa using hoj) hod hdj)
     rw [hkeep]
     exact (S j).st _ _ _ hold hbw
  unfold GStep at hg
  unfold wpList
  split
  ·rename_i hwn
   rw [if_pos hwn] at hg
   exact .inl (Oper.wp_mono hnext hg)
  ·rename_i hwn
   rw [if_neg hwn] at hg
   exact hnext _ _ ⟨undef, rfl, Below.refl _ _, hg⟩
def textB (ops : Array Oper) (n size : Nat) : Bool :=
 decide (n ≤ ops.size) && noDup (zzd ops n) && (zzd ops n).all (fun d => decide (d < size)) &&
 (List.range n).all (fun i => match ops[i]? with | some o => o.after.all fun e => !Region.binds .any e || decide (e.on < i) | none => false)
theorem zqs {P : Program} {id : Nat} {l : List Oper} {Q : Exit → Act → World → Prop} {a : Act} {w : World} (n : Nat) (S : List GSpec) (ds : List Nat) (hB : textB l.toArray n a.tmps.size = true)
  (hds : zzd l.toArray n = ds) (hstep : Steps P l.toArray (zzl S) Q n a w (l.take n) 0)
  (hend : ∀ (u : Nat → Value) w', Below w.heap.size w w' → (∀ j d, j < n → (l[j]?).bind (·.dst) = some d → (zzl S j).p (u d) w') → wpList P l.toArray Q (l.drop n) (zqr a ds u) w') :
  (Code.region id l.toArray false).wp P Q a w := by
 subst hds
 simp only [textB, Bool.and_eq_true, decide_eq_true_eq] at hB
 refine wp_region_list ?_
 have := wpList_grow (P := P) (l := l) (n := n) (S := zzl S) (Q := Q) (a0 := a) (W0 := w) (by simpa using hB.1.1.1) hB.1.1.2 hB.1.2 hB.2
  (fun i o hi ho a' w' hb hw hd => by
   have := hstep.at_ i o (by rw [List.getElem?_take, if_pos hi]; exact ho) a' w' hb hw (fun j hj => by
    obtain ⟨e, he, hh⟩ := List.any_eq_true.1 hj
    simp only [Bool.and_eq_true, beq_iff_eq] at hh
    rw [← hh.2]
    exact hd e (Array.mem_toList_iff.1 he) hh.1)
   rw [Nat.zero_add] at this
   exact this)
  (fun a' w' hb hw hd => by
   rw [act_eq hb]
   exact hend (fun d => a'.tmps.getD d undef) w' hw (fun j d hj hd' => hd j hj d (by simpa using hd')))
  n 0 a w (by omega) ⟨rfl, rfl, fun _ _ => rfl⟩ (Below.refl _ _) (fun j hj => by omega)
 simpa using this
end Go.Proofs.YtkedgombccdamaaGreatDoor
namespace Go.Proofs.YtkedgombccdamaaGreatDoor
open Go.RowKit
set_option linter.unusedVariables false
set_option linter.unusedSimpArgs false
theorem addr_add (b off j : Nat) : (⟨b, off, none⟩ : Addr).add j = ⟨b, off + j, none⟩ := by unfold Addr.add; split <;> simp_all
def flat {α : Type} (enc : α → Array Value) (ys : List α) : List Value := ys.flatMap fun y => (enc y).toList
section
variable {α : Type} {enc : α → Array Value} {size : Nat}
theorem flat_append (xs ys : List α) : flat enc (xs ++ ys) = flat enc xs ++ flat enc ys := by simp [flat]
theorem zyn (hs : ∀ y, (enc y).size = size) (ys : List α) : (flat enc ys).length = ys.length * size := by
 induction ys with
 | nil => simp [flat]
 | cons y ys ih =>
  have : flat enc (y :: ys) = (enc y).toList ++ flat enc ys := rfl
  rw [this, List.length_append, ih, List.length_cons, Nat.add_mul]
  simp [hs]; omega
theorem flat_at (hs : ∀ y, (enc y).size = size) : ∀ (ys : List α) (i q : Nat) (hi : i < ys.length), q < size → (flat enc ys)[i * size + q]? = (enc ys[i])[q]? := by
 intro ys
 induction ys with
 | nil => intro i q hi; simp at hi
 | cons y ys ih =>
  intro i q hi hq
  have hf : flat enc (y :: ys) = (enc y).toList ++ flat enc ys := rfl
  have hy : (enc y).toList.length = size := by simp [hs]
  rw [hf]
  rcases i with _ | i
  ·rw [List.getElem?_append_left (by simp [hs]; omega)]
   simp
  ·have e1 : (i + 1) * size + q = size + (i * size + q) := by rw [Nat.add_mul]; omega
   rw [e1, List.getElem?_append_right (by omega), hy, show size + (i * size + q) - size = i * size + q by omega, ih i q (by simpa using hi) hq]
   simp
theorem flat_set (hs : ∀ y, (enc y).size = size) : ∀ (ys : List α) (i q : Nat) (u : Value) (y' : α) (hi : i < ys.length), q < size → (enc y').toList = (enc ys[i]).toList.set q u → (flat enc ys).set (i * size + q) u = flat enc (ys.set i y') := by
 intro ys
 induction ys with
 | nil => intro i q u y' hi; simp at hi
 | cons y ys ih =>
  intro i q u y' hi hq he
  have hf : flat enc (y :: ys) = (enc y).toList ++ flat enc ys := rfl
  have hy : (enc y).toList.length = size := by simp [hs]
  rw [hf]
  rcases i with _ | i
  ·simp only [List.getElem_cons_zero] at he
   rw [List.set_append_left _ _ (by simp [hs]; omega), List.set_cons_zero]
   have : flat enc (y' :: ys) = (enc y').toList ++ flat enc ys := rfl
   rw [this, he]
   simp
  ·have e1 : (i + 1) * size + q = size + (i * size + q) := by rw [Nat.add_mul]; omega
   rw [e1, List.set_append_right _ _ (by omega), hy, show size + (i * size + q) - size = i * size + q by omega, List.set_cons_succ]
   have : flat enc (y :: ys.set i y') = (enc y).toList ++ flat enc (ys.set i y') := rfl
   rw [this, ih i q u y' (by simpa using hi) hq (by simpa using he)]
end
def Own {α : Type} (w : World) (base : Nat) (e : TypeId) (size : Nat) (enc : α → Array Value) (v : Value) (ys : List α) : Prop := w.ownsRow base e size v ys.length (flat enc ys)
section
variable {α : Type} {enc : α → Array Value} {size base : Nat} {e : TypeId} {w w' : World} {v : Value} {ys : List α}
theorem Own.nil_ (w : World) (base : Nat) (e : TypeId) (size : Nat) (enc : α → Array Value) : Own w base e size enc (.slice none 0 0) ([] : List α) := World.ownsRow_nil _ _ _ _
theorem Own.then_ (h : Own w base e size enc v ys) (hb : Below w.heap.size w w') : Own w' base e size enc v ys :=
 World.ownsRow.kept h (zzq hb none) (by cases hv : v.ownBlock <;> simp)
theorem Own.drew (h : Own w base e size enc v ys) : Own w.drew base e size enc v ys := World.ownsRow.drew h
theorem Own.alloc (h : Own w base e size enc v ys) (o : Obj) : Own (w.alloc o) base e size enc v ys := World.ownsRow.alloc h o
theorem Own.grown {k : Nat} (h : Own w base e size enc v ys) (hg : w.grownBy w' (some k)) (hne : v.ownBlock ≠ some k) : Own w' base e size enc v ys :=
 World.ownsRow.kept h hg (.inr hne)
theorem Own.mono {base' : Nat} (h : Own w base e size enc v ys) (hb : base' ≤ base) : Own w base' e size enc v ys := by
 obtain ⟨h1, h2⟩ := h
 refine ⟨h1, ?_⟩
 rcases h2 with h2 | ⟨g, cap, cur, hv, hg, r⟩
 ·exact .inl h2
 ·exact .inr ⟨g, cap, cur, hv, by omega, r⟩
theorem Own.lt (h : Own w base e size enc v ys) : ∀ k, v.ownBlock = some k → base ≤ k ∧ k < w.heap.size := World.ownsRow.lt h
theorem Own.form (h : Own w base e size enc v ys) (hn : 0 < ys.length) : ∃ g cap, v = .slice (some ⟨g, 0, none⟩) ys.length cap ∧ base ≤ g ∧ g < w.heap.size ∧ ys.length ≤ cap ∧ cap ≤ maxLen := by
 rcases h.2 with ⟨_, h0⟩ | ⟨g, cap, cur, hv, hb, hh, hc, hm, _⟩
 ·omega
 ·refine ⟨g, cap, hv, hb, ?_, hc, hm⟩
  rcases Nat.lt_or_ge g w.heap.size with h1 | h1
  ·exact h1
  ·rw [Array.getElem?_eq_none h1] at hh; cases hh
theorem Own.shape (h : Own w base e size enc v ys) : ∃ A c, v = .slice A ys.length c ∧ ys.length ≤ c ∧ c ≤ maxLen := by
 rcases h.2 with ⟨hv, h0⟩ | ⟨g, cap, cur, hv, hb, hh, hc, hm, _⟩
 ·exact ⟨none, 0, by rw [hv, h0], by omega, by unfold maxLen; omega⟩
 ·exact ⟨_, cap, hv, hc, hm⟩
theorem Own.len {a : Addr} {n cap : Nat} (h : Own w base e size enc (.slice (some a) n cap) ys) : n = ys.length := by
 rcases h.2 with ⟨hv, _⟩ | ⟨g, cap', cur, hv, _⟩
 ·cases hv
 ·injection hv
theorem Own.row {g n cap : Nat} (hs : ∀ y, (enc y).size = size) (h : Own w base e size enc (.slice (some ⟨g, 0, none⟩) n cap) ys) (i : Nat) (hi : i < ys.length) : RowAt w g (i * size) (enc ys[i]) := by
 obtain rfl := h.len
 intro q u hu
 have hq : q < size := by
  rw [← hs ys[i]]
  rcases Nat.lt_or_ge q (enc ys[i]).size with h1 | h1
  ·exact h1
  ·rw [Array.getElem?_eq_none h1] at hu; cases hu
 have hlt : i * size + q < ys.length * size := by
  have : (i + 1) * size ≤ ys.length * size := Nat.mul_le_mul_right _ (by omega)
  rw [Nat.add_mul] at this; omega
 rw [World.ownsRow.cellAt h (i * size + q) hlt, flat_at hs ys i q hi hq, hu]
theorem Own.frozen {g n cap : Nat} (h : Own w base e size enc (.slice (some ⟨g, 0, none⟩) n cap) ys) (j : Nat) : w.frozen? ⟨g, j, none⟩ = false := by
 obtain rfl := h.len
 exact World.ownsRow.frozenAt h j
theorem Own.slice {A : Option Addr} {n cap : Nat} (hs : ∀ y, (enc y).size = size) (h : Own w base e size enc (.slice A n cap) ys) (m : Nat) : SliceOf w w.heap.size size enc A (ys.take m) := by
 rcases Nat.eq_zero_or_pos ys.length with h0 | hp
 ·exact .inl (by rw [List.eq_nil_of_length_eq_zero h0, List.take_nil])
 ·obtain ⟨g, cap', hv, _, hlt, _⟩ := h.form hp
  injection hv with hA hn hc
  subst hA hn hc
  refine .inr ⟨g, 0, rfl, hlt, fun i hi => ?_⟩
  simp only [List.length_take] at hi
  rw [List.getElem_take, Nat.zero_add]
  exact h.row hs i (by omega)
theorem Own.slice_all {A : Option Addr} {n cap : Nat} (hs : ∀ y, (enc y).size = size) (h : Own w base e size enc (.slice A n cap) ys) : SliceOf w w.heap.size size enc A ys := by
 have := h.slice hs ys.length
 rwa [List.take_of_length_le (Nat.le_refl _)] at this
theorem Own.setCell {g n cap i q : Nat} {u : Value} {y' : α} (hs : ∀ y, (enc y).size = size) (h : Own w base e size enc (.slice (some ⟨g, 0, none⟩) n cap) ys) (hi : i < ys.length) (hq : q < size)
  (he : (enc y').toList = (enc ys[i]).toList.set q u) : Own (w.setCell ⟨g, i * size + q, none⟩ u) base e size enc (.slice (some ⟨g, 0, none⟩) n cap) (ys.set i y') := by
 obtain rfl := h.len
 have h1 := World.ownsRow.stored h (i * size + q) u
 rw [flat_set hs ys i q u y' hi hq he] at h1
 unfold Own
 rw [List.length_set]
 exact h1.1
end
section
variable {P : Program} (w : World)
theorem run_append_none (base : Nat) (t ty e : TypeId) (i : TypeInfo) (ht : P.underlying t = some (.slice e)) (hi : P.info? e = some i) (size : Nat)
  (v : Value) (n : Nat) (xs : List Value) (hown : w.ownsRow base e size v n xs) (c : Nat) : (Builtin.append_ #[t, t] ty #[v, .slice none 0 c]).run P w = .ok v w := by
 rcases hown.2 with ⟨rfl, rfl⟩ | ⟨g, cap, cur, rfl, _, _, hnc, _⟩
 ·simp [Builtin.append_, run_underlying ht, sizeOf, typeInfo, hi, Builtin.lenOf, Builtin.firstCells]
 ·simp [Builtin.append_, run_underlying ht, sizeOf, typeInfo, hi, Builtin.lenOf, Builtin.firstCells, hnc, storeCells]
theorem run_append_slice {α : Type} {enc : α → Array Value} (base : Nat) (t ty e : TypeId) (i : TypeInfo) (z : Value) (size bytes : Nat) (ht : P.underlying t = some (.slice e)) (hi : P.info? e = some i) (hz : i.zero = some z)
  (hsize : i.size = size) (hby : i.bytes = bytes) (hzs : z.cells.size = size) (hsz : 0 < size) (hs : ∀ y, (enc y).size = size) (h1 : ∀ y, (enc y).all (·.oneCell') = true)
  (v : Value) (xs : List α) (hown : Own w base e size enc v xs) (B : Nat) (A : Option Addr) (m c : Nat) (ys : List α) (hm : m = ys.length) (hr : SliceOf w B size enc A ys)
  (h63 : xs.length + m ≤ maxLen) (hbytes : (xs.length + m) * bytes ≤ 140737488355328) (hbase : base ≤ w.heap.size) :
  ∃ v' w', (Builtin.append_ #[t, t] ty #[v, .slice A m c]).run P w = .ok v' w' ∧ Own w' base e size enc v' (xs ++ ys) ∧ w.grownBy w' v.ownBlock ∧ (v'.ownBlock = v.ownBlock ∨ v'.ownBlock = some w.heap.size) := by
 subst hm
 rcases A with _ | ad
 ·have hm : ys = [] := by
   rcases hr with h | ⟨b, off, h, _⟩
   ·exact h
   ·cases h
  subst hm
  exact ⟨v, w, run_append_none w base t ty e i ht hi size v _ _ hown c, by simpa using hown, World.grownBy.refl w _, .inl rfl⟩
 ·have hcells : ∀ j u, (flat enc ys)[j]? = some u → w.cell? (ad.add j) = some u := by
   intro j u hu
   have hj : j < ys.length * size := by
    rw [← zyn hs]
    rcases Nat.lt_or_ge j (flat enc ys).length with h | h
    ·exact h
    ·rw [List.getElem?_eq_none h] at hu; cases hu
   have hpos : 0 < ys.length := by
    rcases Nat.eq_zero_or_pos ys.length with h0 | h0
    ·rw [h0, Nat.zero_mul] at hj; omega
    ·exact h0
   obtain ⟨b, off, e1, _, hrow⟩ := hr.at_ hpos
   injection e1 with e1
   subst e1
   have hdm : j = j / size * size + j % size := by rw [Nat.mul_comm]; exact (Nat.div_add_mod _ _).symm
   have hi2 : j / size < ys.length := Nat.div_lt_of_lt_mul (by rw [Nat.mul_comm]; exact hj)
   have hq : j % size < size := Nat.mod_lt _ hsz
   have hu' : (enc ys[j / size])[j % size]? = some u := by
    rw [← flat_at hs ys _ _ hi2 hq, ← hdm]; exact hu
   have := hrow _ hi2 _ _ hu'
   rw [addr_add]
   rw [show off + j / size * size + j % size = off + j by omega] at this
   exact this
  have hone : ∀ u ∈ flat enc ys, u.oneCell' = true := by
   intro u hu
   simp only [flat, List.mem_flatMap] at hu
   obtain ⟨y, _, hy⟩ := hu
   exact (Array.all_eq_true_iff_forall_mem.1 (h1 y)) u (by simpa using hy)
  obtain ⟨v', w', hrun, h2, h3, _, h5⟩ := run_append_own_at (P := P) w base t ty e i z size bytes ht hi hz hsize hby hzs hsz v xs.length (flat enc xs) hown ad ys.length c (flat enc ys) (zyn hs ys) hcells hone h63 hbytes hbase
  refine ⟨v', w', hrun, ?_, h3, h5⟩
  unfold Own
  rw [flat_append, List.length_append]
  exact h2
theorem zxh {α : Type} {enc : α → Array Value} {ops : Array Oper} {rest : List Oper} {o : Oper} {a : Act} {Q : Exit → Act → World → Prop} (hgd : o.guard = none) (s x : Operand) (t : TypeId)
  (ho : o.op = .call { callee := .builtin .append, args := #[s, x], argTypes := #[t, t] })
  (base : Nat) (e : TypeId) (i : TypeInfo) (z : Value) (size bytes : Nat) (ht : P.underlying t = some (.slice e)) (hi : P.info? e = some i) (hz : i.zero = some z)
  (hsize : i.size = size) (hby : i.bytes = bytes) (hzs : z.cells.size = size) (hsz : 0 < size) (hs : ∀ y, (enc y).size = size) (h1 : ∀ y, (enc y).all (·.oneCell') = true)
  (v : Value) (xs : List α) (hv : a.eval s = v) (hown : Own w base e size enc v xs) (B : Nat) (A : Option Addr) (m c : Nat) (ys : List α) (hx : a.eval x = .slice A m c) (hm : m = ys.length) (hr : SliceOf w B size enc A ys)
  (h63 : xs.length + m ≤ maxLen) (hbytes : (xs.length + m) * bytes ≤ 140737488355328) (hbase : base ≤ w.heap.size)
  (h : ∀ v' w', Own w' base e size enc v' (xs ++ ys) → w.grownBy w' v.ownBlock → (v'.ownBlock = v.ownBlock ∨ v'.ownBlock = some w.heap.size) → wpList P ops Q rest (a.put o.dst v') w') : wpList P ops Q (o :: rest) a w := by
 obtain ⟨v', w', hrun, h2, h3, h4⟩ := run_append_slice (P := P) w base t o.type e i z size bytes ht hi hz hsize hby hzs hsz hs h1 v xs hown B A m c ys hm hr h63 hbytes hbase
 refine wpList_plain hgd fun _ hK => ?_
 unfold Oper.wp execOp
 simp only [ho, resolve, invoke, builtin, Sem.run_bind, Sem.run_pure, Result.andThen_ok, List.map_toArray, List.map_cons, List.map_nil, hv, hx, hrun]
 exact hK _ _ (h v' w' h2 h3 h4)
end
theorem below_own {a w w' : World} {v : Value} (h : Below a.heap.size a w) (hg : w.grownBy w' v.ownBlock) (hb : ∀ k, v.ownBlock = some k → a.heap.size ≤ k) : Below a.heap.size a w' :=
 h.grown hg h.size hb
theorem zxk {α : Type} {enc : α → Array Value} {w : World} {t : TypeId} {g size : Nat} {y : α} (h : Blk w g t (enc y)) : SliceOf w w.heap.size size enc (some ⟨g, 0, none⟩) [y] := by
 refine .inr ⟨g, 0, rfl, h.lt, fun i hi => ?_⟩
 have : i = 0 := by simpa using hi
 subst this
 rw [Nat.zero_mul]
 exact RowAt.of_blk h
abbrev BSet := BitVec 256
def word (x : BSet) (k : Nat) : Nat := (x.extractLsb' (64 * k) 64).toNat
def setC (x : BSet) : Array Value := #[.int .u64 (word x 0), .int .u64 (word x 1), .int .u64 (word x 2), .int .u64 (word x 3)]
def bit (b : Nat) : BSet := BitVec.twoPow 256 b
theorem zxi (x : BSet) (k j : Nat) : (word x k).testBit j = (decide (j < 64) && x.getLsbD (64 * k + j)) := by
 unfold word
 rw [BitVec.testBit_toNat, BitVec.getLsbD_extractLsb']
theorem word_lt (x : BSet) (k : Nat) : word x k < 2 ^ 64 := (x.extractLsb' (64 * k) 64).isLt
theorem word_lt' (x : BSet) (k : Nat) : word x k < 18446744073709551616 := word_lt x k
theorem word_ext {x y : BSet} (h : ∀ k, k < 4 → word x k = word y k) : x = y := by
 apply BitVec.eq_of_getLsbD_eq
 intro i hi
 have h1 := zxi x (i / 64) (i % 64)
 have h2 := zxi y (i / 64) (i % 64)
 rw [h (i / 64) (by omega), h2] at h1
 have e : 64 * (i / 64) + i % 64 = i := by omega
 have e2 : decide (i % 64 < 64) = true := by simp; omega
 rw [e, e2] at h1
 simpa using h1.symm
theorem testBit_big {n j : Nat} (hn : n < 2 ^ 64) (hj : 64 ≤ j) : n.testBit j = false :=
 Nat.testBit_lt_two_pow (Nat.lt_of_lt_of_le hn (Nat.pow_le_pow_right (by omega) hj))
theorem word_eq_of {x : BSet} {k n : Nat} (hn : n < 2 ^ 64) (h : ∀ j, j < 64 → n.testBit j = x.getLsbD (64 * k + j)) : word x k = n := by
 apply Nat.eq_of_testBit_eq
 intro j
 rw [zxi]
 by_cases hj : j < 64
 ·simp [hj, h j hj]
 ·simp [hj, testBit_big hn (by omega : 64 ≤ j)]
theorem word_bit {x : BSet} {b : Nat} (hb : b < 256) : x.getLsbD b = (word x (b / 64)).testBit (b % 64) := by
 rw [zxi]
 have e : 64 * (b / 64) + b % 64 = b := by omega
 have e2 : decide (b % 64 < 64) = true := by simp; omega
 rw [e, e2]; simp
theorem setC_at (x : BSet) (k : Nat) (h : k < 4) : (setC x)[k]? = some (.int .u64 (word x k)) := by
 unfold setC
 match k, h with
 | 0, _ => rfl
 | 1, _ => rfl
 | 2, _ => rfl
 | 3, _ => rfl
theorem zye (x : BSet) : (setC x).size = 4 := rfl
theorem setC_sz2 (x y : BSet) : (setC x).size = (setC y).size := (zye x).trans (zye y).symm
theorem setC_one (x : BSet) : (setC x).all (·.oneCell') = true := by unfold setC; simp [Value.oneCell']
theorem setC_set {x z : BSet} {k v : Nat} (hk : k < 4) (hv : word z k = v) (ho : ∀ j, j < 4 → j ≠ k → word x j = word z j) :
  (setC x).setIfInBounds k (.int .u64 (v : Int)) = setC z := by
 subst hv
 unfold setC
 match k, hk with
 | 0, _ => simp [ho 1, ho 2, ho 3]
 | 1, _ => simp [ho 0, ho 2, ho 3]
 | 2, _ => simp [ho 0, ho 1, ho 3]
 | 3, _ => simp [ho 0, ho 1, ho 2]
theorem setC_inj {x y : BSet} (h : setC x = setC y) : x = y := by
 apply word_ext
 intro k hk
 have h1 := setC_at x k hk
 rw [h, setC_at y k hk] at h1
 injection h1 with h1
 injection h1 with _ h1
 omega
theorem getLsbD_bit (b i : Nat) : (bit b).getLsbD i = (decide (i < 256) && decide (b = i)) := by
 unfold bit
 rw [BitVec.getLsbD_twoPow]
 by_cases h : b = i <;> by_cases h2 : i < 256 <;> simp [h, h2] <;> omega
theorem word_and (x y : BSet) (k : Nat) : word (x &&& y) k = word x k &&& word y k := by
 apply Nat.eq_of_testBit_eq; intro j
 simp only [zxi, Nat.testBit_and, BitVec.getLsbD_and]
 cases decide (j < 64) <;> simp
theorem word_or (x y : BSet) (k : Nat) : word (x ||| y) k = word x k ||| word y k := by
 apply Nat.eq_of_testBit_eq; intro j
 simp only [zxi, Nat.testBit_or, BitVec.getLsbD_or]
 cases decide (j < 64) <;> simp
theorem word_bit_same {b : Nat} (hb : b < 256) : word (bit b) (b / 64) = 2 ^ (b % 64) := by
 apply word_eq_of (Nat.pow_lt_pow_right (by omega) (by omega))
 intro j hj
 rw [getLsbD_bit, Nat.testBit_two_pow]
 by_cases h : b % 64 = j
 ·simp [h]; omega
 ·simp [h]; omega
theorem word_bit_other {b k : Nat} (hk : k ≠ b / 64) : word (bit b) k = 0 := by
 apply Nat.eq_of_testBit_eq; intro j
 rw [zxi, getLsbD_bit]
 by_cases h : j < 64
 ·have : ¬ b = 64 * k + j := by omega
  simp [this]
 ·simp [h]
def setTo (p : Nat → Bool) : Nat → BSet
 | 0 => 0
 | n + 1 => if p n then setTo p n ||| bit n else setTo p n
theorem setTo_get (p : Nat → Bool) (n i : Nat) (hi : i < 256) : (setTo p n).getLsbD i = (decide (i < n) && p i) := by
 induction n with
 | zero => simp [setTo]
 | succ n ih =>
  unfold setTo
  by_cases hp : p n
  ·rw [if_pos hp, BitVec.getLsbD_or, ih, getLsbD_bit]
   by_cases e : n = i
   ·subst e; simp [hi, hp]
   ·by_cases h : i < n
    ·simp [h, e, show i < n + 1 by omega]
    ·simp [h, e, show ¬ i < n + 1 by omega]
  ·rw [if_neg hp, ih]
   by_cases e : n = i
   ·subst e; simp [hp]
   ·by_cases h : i < n
    ·simp [h, show i < n + 1 by omega]
    ·simp [h, show ¬ i < n + 1 by omega]
theorem setTo_succ_pos {p : Nat → Bool} {n : Nat} (h : p n = true) : setTo p (n + 1) = setTo p n ||| bit n := by rw [setTo, if_pos h]
theorem setTo_succ_neg {p : Nat → Bool} {n : Nat} (h : p n = false) : setTo p (n + 1) = setTo p n := by rw [setTo, if_neg (by simp [h])]
def low (k : Nat) : BSet := setTo (fun i => decide (i < 64 * k)) 256
theorem getLsbD_low (k i : Nat) (hi : i < 256) : (low k).getLsbD i = decide (i < 64 * k) := by
 unfold low
 rw [setTo_get _ _ _ hi]
 simp [hi]
def mix (k : Nat) (x y : BSet) : BSet := (x &&& low k) ||| (y &&& ~~~ low k)
theorem word_mix_lt {k j : Nat} (x y : BSet) (hj : j < k) (h4 : j < 4) : word (mix k x y) j = word x j := by
 apply Nat.eq_of_testBit_eq; intro i
 simp only [zxi, mix, BitVec.getLsbD_or, BitVec.getLsbD_and, BitVec.getLsbD_not]
 by_cases hi : i < 64
 ·have h1 : 64 * j + i < 256 := by omega
  have h2 : 64 * j + i < 64 * k := by omega
  rw [getLsbD_low k _ h1]
  simp [h1, h2]
 ·simp [hi]
theorem word_mix_ge {k j : Nat} (x y : BSet) (hj : k ≤ j) (h4 : j < 4) : word (mix k x y) j = word y j := by
 apply Nat.eq_of_testBit_eq; intro i
 simp only [zxi, mix, BitVec.getLsbD_or, BitVec.getLsbD_and, BitVec.getLsbD_not]
 by_cases hi : i < 64
 ·have h1 : 64 * j + i < 256 := by omega
  have h2 : ¬ 64 * j + i < 64 * k := by omega
  rw [getLsbD_low k _ h1]
  simp [h1, h2]
 ·simp [hi]
theorem mix_zero (x y : BSet) : mix 0 x y = y := word_ext fun k hk => word_mix_ge x y (by omega) hk
theorem mix_four (x y : BSet) : mix 4 x y = x := word_ext fun k hk => word_mix_lt x y hk hk
theorem mix_set {k v : Nat} {x y : BSet} (hk : k < 4) (hv : word x k = v) : (setC (mix k x y)).setIfInBounds k (.int .u64 (v : Int)) = setC (mix (k + 1) x y) := by
 apply setC_set hk
 ·rw [word_mix_lt x y (by omega) hk, hv]
 ·intro j hj hne
  by_cases h : j < k
  ·rw [word_mix_lt x y h hj, word_mix_lt x y (by omega) hj]
  ·rw [word_mix_ge x y (by omega) hj, word_mix_ge x y (by omega) hj]
theorem put_set {x : BSet} {b : Nat} (hb : b < 256) : (setC x).setIfInBounds (b / 64) (.int .u64 ((word x (b / 64) ||| 2 ^ (b % 64) : Nat) : Int)) = setC (x ||| bit b) := by
 apply setC_set (by omega)
 ·rw [word_or, word_bit_same hb]
 ·intro j _ hne
  rw [word_or, word_bit_other hne, Nat.or_zero]
def joinL (l : List BSet) : BSet := l.foldl (fun x y => x ||| y) 0
def spanB (f t : Nat) : BSet := setTo (fun i => decide (f ≤ i ∧ i ≤ t)) 256
def line : BSet := bit 10
def notB (x : BSet) : BSet := ~~~ (x ||| line)
def cntTo (x : BSet) (n : Nat) : Nat := ((List.range n).filter fun i => x.getLsbD i).length
def cnt (x : BSet) : Nat := cntTo x 256
theorem joinL_snoc (l : List BSet) (b : BSet) : joinL (l ++ [b]) = joinL l ||| b := by simp [joinL]
theorem spanB_eq (f t : Nat) (ht : t < 256) : setTo (fun i => decide (f ≤ i ∧ i ≤ t)) (f + (t + 1 - f)) = spanB f t := by
 apply BitVec.eq_of_getLsbD_eq
 intro i hi
 unfold spanB
 rw [setTo_get _ _ _ hi, setTo_get _ _ _ hi]
 by_cases h : f ≤ i ∧ i ≤ t
 ·have h1 : i < f + (t + 1 - f) := by omega
  simp [h, h1, hi]
 ·simp [h]
theorem setTo_none {p : Nat → Bool} {n : Nat} (h : ∀ i, i < n → p i = false) : setTo p n = 0 := by
 induction n with
 | zero => rfl
 | succ n ih => rw [setTo_succ_neg (h n (by omega)), ih fun i hi => h i (by omega)]
def enc8 (b : UInt8) : Array Value := #[.int .u8 b.toNat]
def ofB (l : List UInt8) : BSet := l.foldl (fun x b => x ||| bit b.toNat) 0
theorem ofB_snoc (l : List UInt8) (b : UInt8) : ofB (l ++ [b]) = ofB l ||| bit b.toNat := by simp [ofB]
theorem take_snoc' {α : Type} (l : List α) (k : Nat) (h : k < l.length) : l.take (k + 1) = l.take k ++ [l[k]] := by
 rw [List.take_succ_eq_append_getElem h]
def hasnt (x : BSet) (i : Nat) : Bool := !x.getLsbD i && (i != 10)
theorem setTo_hasnt (x : BSet) : setTo (hasnt x) 256 = notB x := by
 apply BitVec.eq_of_getLsbD_eq
 intro i hi
 unfold notB line
 rw [setTo_get _ _ _ hi, BitVec.getLsbD_not, BitVec.getLsbD_or, getLsbD_bit]
 unfold hasnt
 by_cases e : i = 10
 ·subst e; simp
 ·have e2 : ¬ 10 = i := fun h => e h.symm
  simp [hi, e, e2]
theorem hasB {x : BSet} {b : Nat} (hb : b < 256) : (bits BinOp.and IntKind.u64 ((word x (b / 64) : Int) / 2 ^ (b % 64)) 1 == 1) = x.getLsbD b := by
 have e1 : ((word x (b / 64) : Int) / 2 ^ (b % 64)) = ((word x (b / 64) / 2 ^ (b % 64) : Nat) : Int) := by
  rw [Int.natCast_ediv, Int.natCast_pow]; rfl
 have hlt : word x (b / 64) / 2 ^ (b % 64) < 18446744073709551616 := Nat.lt_of_le_of_lt (Nat.div_le_self _ _) (word_lt' _ _)
 rw [e1]
 have e2 := u64_and_nat (word x (b / 64) / 2 ^ (b % 64)) 1 hlt (by omega)
 rw [show ((1 : Nat) : Int) = 1 from rfl] at e2
 rw [e2, Nat.and_one_is_mod, word_bit hb, Nat.testBit_eq_decide_div_mod_eq]
 rw [Bool.eq_iff_iff]
 simp only [beq_iff_eq, decide_eq_true_eq]
 omega
theorem putB {x : BSet} {b : Nat} (hb : b < 256) : bits BinOp.or IntKind.u64 (word x (b / 64)) (IntKind.u64.wrap (2 ^ (b % 64))) = ((word x (b / 64) ||| 2 ^ (b % 64) : Nat) : Int) := by
 have hlt : 2 ^ (b % 64) < 18446744073709551616 := Nat.lt_of_lt_of_le (Nat.pow_lt_pow_right (by omega) (by omega : b % 64 < 64)) (Nat.le_refl _)
 have e1 : IntKind.u64.wrap (2 ^ (b % 64)) = ((2 ^ (b % 64) : Nat) : Int) := by
  rw [show (2 ^ (b % 64) : Int) = ((2 ^ (b % 64) : Nat) : Int) by rw [Int.natCast_pow]; rfl, IntKind.wrap_u64]
  exact Int.emod_eq_of_lt (Int.natCast_nonneg _) (Int.ofNat_lt.2 hlt)
 rw [e1]
 exact u64_or_nat _ _ (word_lt' _ _) hlt
theorem word_not {x : BSet} {k : Nat} (hk : k < 4) : word (~~~ x) k = (2 ^ 64 - 1) ^^^ word x k := by
 apply Nat.eq_of_testBit_eq; intro j
 rw [Nat.testBit_xor, zxi, zxi, Nat.testBit_two_pow_sub_one, BitVec.getLsbD_not]
 by_cases hj : j < 64
 ·have : 64 * k + j < 256 := by omega
  simp [hj, this]
 ·simp [hj]
theorem notW {x : BSet} {k : Nat} (hk : k < 4) : bits BinOp.xor IntKind.u64 (if IntKind.u64.signed = true then -1 else IntKind.u64.max) (word x k) = (word (~~~ x) k : Nat) := by
 have e : (if IntKind.u64.signed = true then (-1 : Int) else IntKind.u64.max) = ((18446744073709551615 : Nat) : Int) := by decide
 rw [e, word_not hk]
 exact u64_xor_nat 18446744073709551615 (word x k) (by decide) (word_lt' _ _)
theorem info_set : (Tryz.prog.info? 53).map (·.size) = some 4 := by kernel_rfl
theorem zqp : Tryz.prog.follows .mixedOrders = true := by kernel_rfl
theorem info_u64 : (Tryz.prog.info? 51).map (·.size) = some 1 := by kernel_rfl
theorem info_int : (Tryz.prog.info? 3).map (·.size) = some 1 := by kernel_rfl
section
variable {ops : Array Oper} {rest : List Oper} {o : Oper} {a : Act} {w : World} {Q : Exit → Act → World → Prop}
theorem ret_set {fn : Func} {p : Tmp} {g : Nat} {x : BSet} (hres : fn.results = #[.cell p 53])
  (hp : a.tmps.getD p undef = .pointer (some ⟨g, 0, none⟩)) (hb : Blk w g 53 (setC x))
  (hdf : a.defers = []) {R : Ending → World → Prop} (hR : R (.returned (.agg (setC x))) w) : bodyPost Tryz.prog fn R .ret a w :=
 ret_cell hres _ hp hb Tryz.underlying53 rfl (info_set.trans (by rw [zye])) hdf hR
theorem zqv (hgd : o.guard = none) (x : Operand) (ho : o.op = .load 53 x)
  (g : Nat) (hx : a.eval x = .pointer (some ⟨g, 0, none⟩)) (y : BSet) (hb : Blk w g 53 (setC y))
  (h : wpList Tryz.prog ops Q rest (a.put o.dst (.agg (setC y))) w) : wpList Tryz.prog ops Q (o :: rest) a w :=
 wpList_load_row hgd _ x ho g hx _ _ _ _ hb Tryz.underlying53 rfl (info_set.trans (by rw [zye])) h
theorem zqo (hgd : o.guard = none) (x : Operand) (ho : o.op = .load 53 x)
  (b off : Nat) (hx : a.eval x = .pointer (some ⟨b, off, none⟩)) (y : BSet) (hr : RowAt w b off (setC y))
  (h : wpList Tryz.prog ops Q rest (a.put o.dst (.agg (setC y))) w) : wpList Tryz.prog ops Q (o :: rest) a w :=
 wpList_load_at hgd _ x ho b off hx _ _ hr Tryz.underlying53 rfl (info_set.trans (by rw [zye])) h
theorem zqm (hgd : o.guard = none) (x y : Operand) (ho : o.op = .store 53 x y)
  (g : Nat) (new : BSet) (hx : a.eval x = .pointer (some ⟨g, 0, none⟩)) (hy : a.eval y = .agg (setC new)) (old : BSet) (hb : Blk w g 53 (setC old))
  (h : ∀ w', Blk w' g 53 (setC new) → w.grownBy w' (some g) → wpList Tryz.prog ops Q rest (a.put o.dst undef) w') : wpList Tryz.prog ops Q (o :: rest) a w :=
 wpList_store_row hgd _ x y ho g _ hx hy _ _ hb (info_set.trans (by rw [zye])) (setC_sz2 _ _) (setC_one _) (h _ (hb.setRow_same _) (zxs (zzk _ _) _))
end
set_option maxHeartbeats 400000 in
theorem put_any (x : BSet) (b : Nat) (hb : b < 256) (g : Nat) (w : World) (h : Blk w g 53 (setC x)) :
  Calls Tryz.prog 93 #[.pointer (some ⟨g, 0, none⟩), .int .u8 b] w fun e w' => e = .returned (.tuple #[]) ∧ Blk w' g 53 (setC (x ||| bit b)) ∧ w.grownBy w' (some g) := by
 have c1 := h.cellv (setC_at _ (b / 64) (by omega))
 have f1 := h.frozen (b / 64)
 go_enter Tryz.func93, Tryz.ntmps93
 go_region
 go_end0
 refine ⟨rfl, ?_, ?_⟩
 ·rw [putB hb]; exact (h.set_eq (put_set hb)).drew
 ·exact only_drew (zzi (zzk _ _) (.inl rfl) _)
theorem put_int (x : BSet) (b : Int) (h0 : 0 ≤ b) (h1 : b < 256) (g : Nat) (w : World) (h : Blk w g 53 (setC x)) :
  Calls Tryz.prog 93 #[.pointer (some ⟨g, 0, none⟩), .int .u8 b] w fun e w' => e = .returned (.tuple #[]) ∧ Blk w' g 53 (setC (x ||| bit b.toNat)) ∧ w.grownBy w' (some g) := by
 obtain ⟨n, rfl⟩ := Int.eq_ofNat_of_zero_le h0
 exact put_any x n (by omega) g w h
set_option maxHeartbeats 400000 in
theorem has_any (x : BSet) (b : Nat) (h0 : b < 256) (w : World) :
  Calls Tryz.prog 34 #[.agg (setC x), .int .u8 b] w fun e w' => e = .returned (.bool (x.getLsbD b)) ∧ Below w.heap.size w w' := by
 have hc := (Blk.new w 53 (setC x)).cellv (setC_at x (b / 64) (by omega))
 go_enter Tryz.func34, Tryz.ntmps34
 go_wp2
 go_ret
 refine ⟨?_, (Below.refl _ _).alloc (Nat.le_refl _) _⟩
 exact congrArg (fun v => Ending.returned (.bool v)) (hasB h0)
set_option maxHeartbeats 400000 in
theorem meet_any (x y : BSet) (w : World) :
  Calls Tryz.prog 92 #[.agg (setC x), .agg (setC y)] w fun e w' => e = .returned (.agg (setC (x &&& y))) ∧ Below w.heap.size w w' := by
 go_enter Tryz.func92, Tryz.ntmps92
 go_wp2
 go_loopw [6] (fun i wr => ∃ k : Nat, k ≤ 4 ∧ i = .int .i64 k ∧ Blk wr w.heap.size 53 (setC (mix k (x &&& y) x)) ∧ Blk wr (w.heap.size + 1) 53 (setC y) ∧ Blk wr (w.heap.size + 1 + 1) 53 (setC 0) ∧ Below w.heap.size w wr) (fun i _ => 4 - (intOf i).toNat)
 case atStart =>
  refine ⟨0, by omega, rfl, ?_, ?_, ?_, ?_⟩
  ·rw [mix_zero]; exact ((Blk.new _ _ _).alloc _).alloc _
  ·exact (Blk.new' _ _ _ (by simp)).alloc _
  ·exact Blk.new' _ _ _ (by simp)
  ·exact (((Below.refl _ _).alloc (Nat.le_refl _) _).alloc (by simp) _).alloc (by simp; omega) _
 case round =>
  obtain ⟨k, hk, rfl, hb1, hb2, hb3, hB⟩ := hrel
  by_cases hlt : k < 4
  ·have c1 := hb1.cellv (setC_at _ k hlt)
   have c2 := hb2.cellv (setC_at _ k hlt)
   have f1 := hb1.frozen k
   go_wp2
   go_region
   go_wp2
   go_roundw
   case rel =>
    refine ⟨k + 1, by omega, by go_num, ?_, (hb2.far (by simp) _).drew, (hb3.far (by simp; omega) _).drew, (hB.setCell (Nat.le_refl _) _).drew⟩
    rw [word_mix_ge _ _ (Nat.le_refl _) hlt, u64_and_nat _ _ (word_lt' _ _) (word_lt' _ _)]
    exact (hb1.set_eq (mix_set hlt (word_and _ _ _))).drew
   case measure => simp [intOf]; omega
  ·have hs2 : w.heap.size ≤ w.heap.size + 1 + 1 := by omega
   obtain rfl : k = 4 := by omega
   rw [mix_four] at hb1
   go_wp2_with (first | (refine zqv rfl _ rfl _ rfl _ hb1 ?_) | (refine zqm rfl _ _ rfl _ _ rfl rfl _ hb3 ?_; intro w1 hb4 hg4))
   exact ret_set rfl rfl hb4 rfl ⟨rfl, hB.grown hg4 hB.size (by rintro k ⟨⟩; exact hs2)⟩
def intsC (k : IntKind) (l : List Int) : Array Value := (l.map (Value.int k)).toArray
theorem intsC_at (k : IntKind) (l : List Int) (i : Nat) (h : i < l.length) : (intsC k l)[i]? = some (.int k l[i]) := by simp [intsC, h]
theorem intsC_size (k : IntKind) (l : List Int) : (intsC k l).size = l.length := by simp [intsC]
theorem intsC_set (k : IntKind) (l : List Int) (i : Nat) (v : Int) : (intsC k l).setIfInBounds i (.int k v) = intsC k (l.set i v) := by
 apply Array.ext'
 simp [intsC, List.map_set]
theorem run_eqItems_ints {P : Program} (d : Nat) {e : TypeId} {k : IntKind} (he : P.underlying e = some (.int k)) (hp : P.plainKey e = true) (xs ys : List Int) :
  ∀ (is : List Nat) (w : World), (∀ i ∈ is, i < xs.length ∧ i < ys.length) → (Op.eqItems (d + 1) e 1 (intsC k xs) (intsC k ys) is).run P w = .ok (is.all fun i => xs.getD i 0 == ys.getD i 0) w
 | [], w, _ => by simp [Op.eqItems]
 | i :: is, w, h => by
  have hi := h i (by simp)
  have p1 := run_part_plain (P := P) w hp (xs := intsC k xs) (off := i * 1) (by rw [Nat.mul_one]; exact intsC_at k xs i hi.1)
  have p2 := run_part_plain (P := P) w hp (xs := intsC k ys) (off := i * 1) (by rw [Nat.mul_one]; exact intsC_at k ys i hi.2)
  have p3 := run_equalIn_int (P := P) w d e k k xs[i] ys[i] he
  have ih := run_eqItems_ints d he hp xs ys is w (fun j hj => h j (by simp [hj]))
  have e1 : xs.getD i 0 = xs[i] := by simp [hi.1]
  have e2 : ys.getD i 0 = ys[i] := by simp [hi.2]
  simp only [Op.eqItems, Sem.run_bind, p1, p2, p3, Result.andThen_ok, List.all_cons, e1, e2]
  cases hc : (xs[i] == ys[i])
  ·simp
  ·simpa using ih
theorem all_eq {xs ys : List Int} (h : xs.length = ys.length) : ((List.range xs.length).all fun i => xs.getD i 0 == ys.getD i 0) = (xs == ys) := by
 rw [Bool.eq_iff_iff]
 simp only [List.all_eq_true, List.mem_range, beq_iff_eq]
 constructor
 ·intro hh
  apply List.ext_getElem h
  intro i h1 h2
  have := hh i h1
  simpa [h1, h2] using this
 ·rintro rfl i _; rfl
theorem run_equal_ints {P : Program} {t e : TypeId} {k : IntKind} {n : Nat} {i : TypeInfo} (hu : P.underlying t = some (.array n e)) (hi : P.info? e = some i) (hc : P.cellsOf e = 1)
  (he : P.underlying e = some (.int k)) (hp : P.plainKey e = true) (xs ys : List Int) (ha : xs.length = n) (hb : ys.length = n) (w : World) :
  (Op.equalIn 10000 t (.agg (intsC k xs)) (.agg (intsC k ys))).run P w = .ok (xs == ys) w := by
 have h1 := run_equalIn_array (P := P) (w := w) 9999 (intsC k xs) (intsC k ys) hu hi
 rw [show (10000 : Nat) = 9999 + 1 from rfl, h1, hc, show (9999 : Nat) = 9998 + 1 from rfl, run_eqItems_ints 9998 he hp xs ys _ w (fun j hj => by rw [List.mem_range] at hj; omega), ← ha, all_eq (by omega)]
def words (x : BSet) : List Int := [(word x 0 : Int), (word x 1 : Int), (word x 2 : Int), (word x 3 : Int)]
theorem setC_words (x : BSet) : setC x = intsC .u64 (words x) := rfl
theorem words_inj {x y : BSet} (h : words x = words y) : x = y := setC_inj (by rw [setC_words, setC_words, h])
theorem words_beq (x y : BSet) : (words x == words y) = decide (x = y) := by
 rw [Bool.eq_iff_iff]
 simp only [beq_iff_eq, decide_eq_true_eq]
 exact ⟨words_inj, fun h => by rw [h]⟩
theorem info_u64' : ∃ i, Tryz.prog.info? 51 = some i := by
 cases h : Tryz.prog.info? 51 with
 | none => have := info_u64; rw [h] at this; cases this
 | some i => exact ⟨i, rfl⟩
theorem cells_u64 : Tryz.prog.cellsOf 51 = 1 := by kernel_rfl
theorem plain_u64 : Tryz.prog.plainKey 51 = true := by kernel_rfl
theorem guard_set : Tryz.prog.eqGuardType Tryz.prog.depth 53 = false := by kernel_rfl
theorem run_eq_set (x y : BSet) (w : World) : (Op.equalIn 10000 53 (.agg (setC x)) (.agg (setC y))).run Tryz.prog w = .ok (decide (x = y)) w := by
 obtain ⟨i, hi⟩ := info_u64'
 have := run_equal_ints (P := Tryz.prog) (k := .u64) Tryz.underlying53 hi cells_u64 Tryz.underlying51 plain_u64 (words x) (words y) rfl rfl w
 rw [words_beq] at this
 exact this
theorem run_eql_set (x y : BSet) (w : World) : (binOp .eql 53 (.agg (setC x)) (.agg (setC y))).run Tryz.prog w = .ok (.bool (decide (x = y))) w := by
 rw [run_eql_struct, run_eq_set]; rfl
theorem run_neq_set (x y : BSet) (w : World) : (binOp .neq 53 (.agg (setC x)) (.agg (setC y))).run Tryz.prog w = .ok (.bool (!decide (x = y))) w := by
 rw [run_neq_struct, run_eq_set]; rfl
structure Edg where
 kd : Int
 fr : Int
 tt : Int
 st : BSet
deriving DecidableEq
def edgC (e : Edg) : Array Value := #[.int .i64 e.kd, .int .i64 e.fr, .int .i64 e.tt, .int .u64 (word e.st 0), .int .u64 (word e.st 1), .int .u64 (word e.st 2), .int .u64 (word e.st 3)]
theorem zxt (e : Edg) : (edgC e).size = 7 := rfl
theorem edgC_sz2 (e f : Edg) : (edgC e).size = (edgC f).size := (zxt e).trans (zxt f).symm
theorem edgC_one (e : Edg) : (edgC e).all (·.oneCell') = true := by unfold edgC; simp [Value.oneCell']
theorem edgC_0 (e : Edg) : (edgC e)[0]? = some (.int .i64 e.kd) := rfl
theorem edgC_st (e : Edg) (k : Nat) (h : k < 4) : (edgC e)[3 + k]? = some (.int .u64 (word e.st k)) := by
 match k, h with
 | 0, _ => rfl
 | 1, _ => rfl
 | 2, _ => rfl
 | 3, _ => rfl
theorem RowAt.st {w : World} {b off : Nat} {e : Edg} (h : RowAt w b off (edgC e)) : RowAt w b (off + 3) (setC e.st) := by
 intro j v hv
 have hj : j < 4 := by
  rcases Nat.lt_or_ge j 4 with h1 | h1
  ·exact h1
  ·rw [Array.getElem?_eq_none (by rw [zye]; exact h1)] at hv; cases hv
 rw [setC_at e.st j hj] at hv
 rw [Nat.add_assoc]
 exact h (3 + j) v ((edgC_st e j hj).trans hv)
theorem Blk.st {w : World} {g : Nat} {t : TypeId} {e : Edg} (h : Blk w g t (edgC e)) : RowAt w g 3 (setC e.st) := by
 have := (RowAt.of_blk h).st
 rwa [Nat.zero_add] at this
theorem info_edge : (Tryz.prog.info? 69).map (·.size) = some 7 := by kernel_rfl
theorem info_edge3 : (Tryz.prog.info? 69).map (fun i => (i.zero, i.size, i.bytes)) = some (some (.agg #[.int .i64 0, .int .i64 0, .int .i64 0, .int .u64 0, .int .u64 0, .int .u64 0, .int .u64 0]), 7, 56) := by kernel_rfl
def edge0 : Edg := ⟨0, 0, 0, 0⟩
theorem zero_edge (w : World) : (zeroValue 69).run Tryz.prog w = .ok (.agg (edgC edge0)) w := by kernel_rfl
section
variable {ops : Array Oper} {rest : List Oper} {o : Oper} {a : Act} {w : World} {Q : Exit → Act → World → Prop}
theorem wl_load_edge (hgd : o.guard = none) (x : Operand) (ho : o.op = .load 69 x)
  (g : Nat) (hx : a.eval x = .pointer (some ⟨g, 0, none⟩)) (y : Edg) (hb : Blk w g 69 (edgC y))
  (h : wpList Tryz.prog ops Q rest (a.put o.dst (.agg (edgC y))) w) : wpList Tryz.prog ops Q (o :: rest) a w :=
 wpList_load_row hgd _ x ho g hx _ _ _ _ hb Tryz.underlying69 rfl (info_edge.trans (by rw [zxt])) h
theorem zzs (hgd : o.guard = none) (x : Operand) (ho : o.op = .load 69 x)
  (b off : Nat) (hx : a.eval x = .pointer (some ⟨b, off, none⟩)) (y : Edg) (hr : RowAt w b off (edgC y))
  (h : wpList Tryz.prog ops Q rest (a.put o.dst (.agg (edgC y))) w) : wpList Tryz.prog ops Q (o :: rest) a w :=
 wpList_load_at hgd _ x ho b off hx _ _ hr Tryz.underlying69 rfl (info_edge.trans (by rw [zxt])) h
theorem zxm (hgd : o.guard = none) (x y : Operand) (ho : o.op = .store 69 x y)
  (g : Nat) (new : Edg) (hx : a.eval x = .pointer (some ⟨g, 0, none⟩)) (hy : a.eval y = .agg (edgC new)) (old : Edg) (hb : Blk w g 69 (edgC old))
  (h : ∀ w', Blk w' g 69 (edgC new) → w.grownBy w' (some g) → wpList Tryz.prog ops Q rest (a.put o.dst undef) w') : wpList Tryz.prog ops Q (o :: rest) a w :=
 wpList_store_row hgd _ x y ho g _ hx hy _ _ hb (info_edge.trans (by rw [zxt])) (edgC_sz2 _ _) (edgC_one _) (h _ (hb.setRow_same _) (zxs (zzk _ _) _))
end
def stepS (l : List BSet) (e : Edg) : List BSet := if e.kd = 2 ∧ e.st ∉ l then l ++ [e.st] else l
def setsL (es : List Edg) : List BSet := es.foldl stepS []
theorem setsL_snoc (es : List Edg) (e : Edg) : setsL (es ++ [e]) = stepS (setsL es) e := by simp [setsL]
theorem stepS_yes {l : List BSet} {e : Edg} (h1 : e.kd = 2) (h2 : e.st ∉ l) : stepS l e = l ++ [e.st] := if_pos ⟨h1, h2⟩
theorem stepS_kind {l : List BSet} {e : Edg} (h1 : ¬ e.kd = 2) : stepS l e = l := if_neg fun h => h1 h.1
theorem stepS_old {l : List BSet} {e : Edg} (h2 : e.st ∈ l) : stepS l e = l := if_neg fun h => h.2 h2
theorem stepS_le (l : List BSet) (e : Edg) : (stepS l e).length ≤ l.length + 1 := by
 unfold stepS
 split <;> simp
theorem setsL_le : ∀ (es : List Edg) (l : List BSet), (es.foldl stepS l).length ≤ l.length + es.length
 | [], l => by simp
 | e :: es, l => by
  have h1 := setsL_le es (stepS l e)
  have h2 := stepS_le l e
  simp only [List.foldl_cons, List.length_cons]
  omega
theorem setsL_length (es : List Edg) : (setsL es).length ≤ es.length := by
 have := setsL_le es []
 simpa [setsL] using this
def nfaC (s : Int) (A : Option Addr) (n c : Nat) (B : Option Addr) (m d : Nat) : Array Value := #[.int .i64 s, .slice A n c, .slice B m d]
end Go.Proofs.YtkedgombccdamaaGreatDoor
namespace Go.Proofs.YtkedgombccdamaaGreatDoor
open Go.RowKit Go.Maps Go.WideMaps
set_option linter.unusedVariables false
set_option linter.unusedSimpArgs false
section
variable {P : Program} {ops : Array Oper} {S : Nat → GSpec} {Q : Exit → Act → World → Prop} {i : Nat} {o : Oper} {a : Act} {w : World}
theorem zqa (h : o.guard = none) : Region.wanted o (yielded ops a.tmps) = true := by simp [Region.wanted, h]
theorem zzb {g : Nat} {b : Bool} {d : Nat} (h : o.guard = some (g, b)) (hd : (ops[g]?).bind (·.dst) = some d) (hv : a.tmps.getD d undef = .bool b) : Region.wanted o (yielded ops a.tmps) = true := by
 have h1 : a.tmps[d]? = some (.bool b) := by
  cases hh : a.tmps[d]? with
  | none => simp [hh] at hv; cases hv
  | some v => simp [hh] at hv; rw [hv]
 simp [Region.wanted, h, yielded, hd, h1]
theorem want_no {g : Nat} {b : Bool} {d : Nat} (h : o.guard = some (g, !b)) (hd : (ops[g]?).bind (·.dst) = some d) (hv : a.tmps.getD d undef = .bool b) : Region.wanted o (yielded ops a.tmps) = false := by
 have h1 : a.tmps[d]? = some (.bool b) := by
  cases hh : a.tmps[d]? with
  | none => simp [hh] at hv; cases hv
  | some v => simp [hh] at hv; rw [hv]
 simp [Region.wanted, h, yielded, hd, h1]
theorem gs_skip (hw : Region.wanted o (yielded ops a.tmps) = false) (hp : (S i).p undef w) : GStep P ops S Q i o a w := by
 unfold GStep; rw [hw]; exact hp
theorem zzx (hw : Region.wanted o (yielded ops a.tmps) = true) {v : Value} {w' : World} (hr : (execOp a.eval o).run P w = .ok (.value v) w') (hb : Below w.heap.size w w') (hp : (S i).p v w') : GStep P ops S Q i o a w := by
 unfold GStep
 rw [if_pos hw]
 unfold Oper.wp
 rw [hr]
 exact ⟨v, rfl, hb, hp⟩
theorem zqi (hw : Region.wanted o (yielded ops a.tmps) = true) (x : Operand) (ho : o.op = .move x) (hp : (S i).p (a.eval x) w) : GStep P ops S Q i o a w :=
 zzx hw (v := a.eval x) (by unfold execOp; rw [ho]; rfl) (Below.refl _ _) hp
theorem zqy (hw : Region.wanted o (yielded ops a.tmps) = true) (c x y : Operand) (ho : o.op = .pick c x y) (b : Bool) (hc : a.eval c = .bool b) (hp : (S i).p (if b then a.eval x else a.eval y) w) : GStep P ops S Q i o a w :=
 zzx hw (v := if b then a.eval x else a.eval y) (by unfold execOp; rw [ho]; simp only [hc]; rfl) (Below.refl _ _) hp
theorem gs_load (hw : Region.wanted o (yielded ops a.tmps) = true) (ty : TypeId) (x : Operand) (ho : o.op = .load ty x) (g : Nat) (hx : a.eval x = .pointer (some ⟨g, 0, none⟩)) (t : TypeId) (cs : Array Value) (hg : Blk w g t cs) (d : TypeDesc)
  (hu : P.underlying ty = some d) (hd : (match d with | .struct _ | .array _ _ => true | _ => false) = true) (hi : (P.info? ty).map (·.size) = some cs.size) (hp : (S i).p (.agg cs) w) : GStep P ops S Q i o a w :=
 zzx hw (v := .agg cs) (by unfold execOp; simp only [ho, hx, Instr.loadAt, Instr.sureAddr, Sem.run_bind, Sem.run_pure, Result.andThen_ok, run_loadVar_row w g t ty cs (0, 0) d hg hu hd hi]) (Below.refl _ _) hp
theorem zze (hw : Region.wanted o (yielded ops a.tmps) = true) (f : FuncId) (xs : Array Operand) (ats : Array TypeId) (ho : o.op = .call { callee := .value (.func f), args := xs, argTypes := ats })
  (hf : ∀ args w, (callFunc f args).run P w = .ok (.enter f args) w) (vs : Array Value) (hv : xs.map a.eval = vs)
  (hc : Calls P f vs w fun e w' => ∃ v, e = .returned v ∧ Below w.heap.size w w' ∧ (S i).p v w') : GStep P ops S Q i o a w := by
 unfold GStep
 rw [if_pos hw]
 unfold Oper.wp
 have hr : (execOp a.eval o).run P w = .ok (.enter f vs) w := by
  have he : execOp a.eval o = callFunc f (#[] ++ xs.map a.eval ++ #[]) := by
   unfold execOp; rw [ho]; rfl
  rw [he, hv]
  simpa using hf vs w
 rw [hr, Oper.upon_enter]
 refine hc.mono ?_
 rintro e w' ⟨v, rfl, hb, hp⟩
 exact ⟨v, rfl, hb, hp⟩
theorem gs_bin (hw : Region.wanted o (yielded ops a.tmps) = true) (op : BinOp) (t t2 : TypeId) (x y : Operand) (ho : o.op = .binOp op t x y t2) (vx vy v : Value) (hx : a.eval x = vx) (hy : a.eval y = vy)
  (hgd : (eqGuard op t x y vx vy).run P w = .ok () w) (hr : (binOp op t vx vy).run P w = .ok v w) (hp : (S i).p v w) : GStep P ops S Q i o a w :=
 zzx hw (v := v) (by unfold execOp; simp only [ho, hx, hy, Sem.run_bind, hgd, Result.andThen_ok, hr, Sem.run_pure]) (Below.refl _ _) hp
end
section
variable {ops : Array Oper} {S : Nat → GSpec} {Q : Exit → Act → World → Prop} {i : Nat} {o : Oper} {a : Act} {w : World}
theorem zxj (hw : Region.wanted o (yielded ops a.tmps) = true) (x : Operand) (ho : o.op = .load 53 x) (g : Nat) (hx : a.eval x = .pointer (some ⟨g, 0, none⟩)) (y : BSet) (hg : Blk w g 53 (setC y))
  (hp : (S i).p (.agg (setC y)) w) : GStep Tryz.prog ops S Q i o a w :=
 gs_load hw _ x ho g hx _ _ hg _ Tryz.underlying53 rfl (info_set.trans (by rw [zye])) hp
theorem gs_neq_set (hw : Region.wanted o (yielded ops a.tmps) = true) (x y : Operand) (t2 : TypeId) (ho : o.op = .binOp .neq 53 x y t2) (p q : BSet) (hx : a.eval x = .agg (setC p)) (hy : a.eval y = .agg (setC q))
  (hp : (S i).p (.bool (!decide (p = q))) w) : GStep Tryz.prog ops S Q i o a w :=
 gs_bin hw _ _ _ x y ho _ _ _ hx hy (run_eqGuard_agg w _ _ _ _ _ _ guard_set) (run_neq_set p q w) hp
end
theorem map1 {a : Act} {x : Operand} {v : Value} (h : a.eval x = v) : #[x].map a.eval = #[v] := by simp [h]
theorem map2 {a : Act} {x y : Operand} {v u : Value} (h : a.eval x = v) (h2 : a.eval y = u) : #[x, y].map a.eval = #[v, u] := by simp [h, h2]
theorem map3 {a : Act} {x y z : Operand} {v u t : Value} (h : a.eval x = v) (h2 : a.eval y = u) (h3 : a.eval z = t) : #[x, y, z].map a.eval = #[v, u, t] := by simp [h, h2, h3]
section
variable {P : Program} {ops : Array Oper} {S : Nat → GSpec} {Q : Exit → Act → World → Prop} {i : Nat} {o : Oper} {a : Act} {w : World}
theorem zxl (hw : Region.wanted o (yielded ops a.tmps) = true) (x : Operand) (ho : o.op = .assign x) (hp : (S i).p (a.eval x) w) : GStep P ops S Q i o a w :=
 zzx hw (v := a.eval x) (by unfold execOp; rw [ho]; rfl) (Below.refl _ _) hp
theorem gs_not_bool (hw : Region.wanted o (yielded ops a.tmps) = true) (t : TypeId) (x : Operand) (ho : o.op = .unOp .not t x) (b : Bool) (hx : a.eval x = .bool b) (hp : (S i).p (.bool (!b)) w) : GStep P ops S Q i o a w :=
 zzx hw (v := .bool (!b)) (by unfold execOp; simp only [ho, hx]; rfl) (Below.refl _ _) hp
theorem zzo (hw : Region.wanted o (yielded ops a.tmps) = true) (t t2 : TypeId) (x y : Operand) (ho : o.op = .binOp .eql t x y t2) (k : IntKind) (p q : Int) (hx : a.eval x = .int k p) (hy : a.eval y = .int k q)
  (hp : (S i).p (.bool (p == q)) w) : GStep P ops S Q i o a w :=
 gs_bin hw _ _ _ x y ho _ _ _ hx hy (by rw [eqGuard_at_int]; rfl) (by rw [binOp_eql]; rfl) hp
theorem zzn (hw : Region.wanted o (yielded ops a.tmps) = true) (t t2 : TypeId) (x y : Operand) (ho : o.op = .binOp .neq t x y t2) (k : IntKind) (p q : Int) (hx : a.eval x = .int k p) (hy : a.eval y = .int k q)
  (hp : (S i).p (.bool (p != q)) w) : GStep P ops S Q i o a w :=
 gs_bin hw _ _ _ x y ho _ _ _ hx hy (by rw [eqGuard_at_int]; rfl) (by rw [binOp_neq]; rfl) hp
end
section
variable {P : Program} {ops : Array Oper} {S : Nat → GSpec} {Q : Exit → Act → World → Prop} {i : Nat} {o : Oper} {a : Act} {w : World}
theorem gs_len (hw : Region.wanted o (yielded ops a.tmps) = true) (x : Operand) (t : TypeId) (ho : o.op = .call { callee := .builtin .len, args := #[x], argTypes := #[t] }) (ht : P.underlying t = some (.slice (P.elem t)))
  (A : Option Addr) (n c : Nat) (hx : a.eval x = .slice A n c) (hp : (S i).p (.int .i64 n) w) : GStep P ops S Q i o a w :=
 zzx hw (v := .int .i64 n) (by
  unfold execOp
  simp only [ho, resolve, invoke, builtin, Sem.run_bind, Sem.run_pure, Result.andThen_ok, List.map_toArray, List.map_cons, List.map_nil, hx, run_len_slice w t o.type A n c ht]
  rfl) (Below.refl _ _) hp
theorem zxu (hw : Region.wanted o (yielded ops a.tmps) = true) (x ix : Operand) (t : TypeId) (ho : o.op = .indexAddr t x ix) (ht : P.underlying t = some (.slice (P.elem t))) (size : Nat) (hsz : ∀ w, (sizeOf (P.elem t)).run P w = .ok size w)
  (b off n c m : Nat) (hx : a.eval x = .slice (some ⟨b, off, none⟩) n c) (hi : a.eval ix = .int .i64 m) (hm : m < n) (hp : (S i).p (.pointer (some ⟨b, off + m * size, none⟩)) w) : GStep P ops S Q i o a w :=
 zzx hw (v := .pointer (some ⟨b, off + m * size, none⟩)) (by
  unfold execOp
  have e := run_indexAt_slice (P := P) w t ⟨b, off, none⟩ n c .i64 (m : Int) ht
  rw [if_pos ⟨by omega, by omega⟩, hsz] at e
  simp only [Int.toNat_natCast, Result.andThen_ok, addr_add] at e
  simp only [ho, hx, hi, Sem.run_bind, e, Result.andThen_ok, Sem.run_pure]) (Below.refl _ _) hp
end
section
variable {ops : Array Oper} {S : Nat → GSpec} {Q : Exit → Act → World → Prop} {i : Nat} {o : Oper} {a : Act} {w : World}
end
theorem run_load1 {P : Program} (w : World) (a : Addr) (ty : TypeId) (d : TypeDesc) (v : Value) (hc : w.cell? a = some v) (hu : P.underlying ty = some d) (hd : (match d with | .struct _ | .array _ _ => true | _ => false) = false) :
  (loadVar ty a).run P w = .ok v w := by
 have hagg : (isAgg ty).run P w = .ok false w := by
  unfold isAgg
  rw [Sem.run_bind, run_underlying hu w]
  cases d <;> simp_all
 simp [loadVar, Sem.run_bind, hagg, hc]
theorem field_nfa_0 (b off : Nat) (w : World) : (Instr.fieldAt 26 (.pointer (some ⟨b, off, none⟩)) 0).run Tryz.prog w = .ok (.pointer (some ⟨b, off, none⟩)) w := by kernel_rfl
theorem field_nfa_1 (b off : Nat) (w : World) : (Instr.fieldAt 26 (.pointer (some ⟨b, off, none⟩)) 1).run Tryz.prog w = .ok (.pointer (some ⟨b, off + 1, none⟩)) w := by kernel_rfl
theorem field_nfa_2 (b off : Nat) (w : World) : (Instr.fieldAt 26 (.pointer (some ⟨b, off, none⟩)) 2).run Tryz.prog w = .ok (.pointer (some ⟨b, off + 2, none⟩)) w := by kernel_rfl
theorem zxz (b off : Nat) (w : World) : (Instr.fieldAt 69 (.pointer (some ⟨b, off, none⟩)) 0).run Tryz.prog w = .ok (.pointer (some ⟨b, off, none⟩)) w := by kernel_rfl
theorem field_edge_1 (b off : Nat) (w : World) : (Instr.fieldAt 69 (.pointer (some ⟨b, off, none⟩)) 1).run Tryz.prog w = .ok (.pointer (some ⟨b, off + 1, none⟩)) w := by kernel_rfl
theorem field_edge_2 (b off : Nat) (w : World) : (Instr.fieldAt 69 (.pointer (some ⟨b, off, none⟩)) 2).run Tryz.prog w = .ok (.pointer (some ⟨b, off + 2, none⟩)) w := by kernel_rfl
theorem field_edge_3 (b off : Nat) (w : World) : (Instr.fieldAt 69 (.pointer (some ⟨b, off, none⟩)) 3).run Tryz.prog w = .ok (.pointer (some ⟨b, off + 3, none⟩)) w := by kernel_rfl
section
variable {P : Program} {ops : Array Oper} {S : Nat → GSpec} {Q : Exit → Act → World → Prop} {i : Nat} {o : Oper} {a : Act} {w : World}
theorem zqn (hw : Region.wanted o (yielded ops a.tmps) = true) (t : TypeId) (x : Operand) (f : Nat) (ho : o.op = .fieldAddr t x f) (b off off' : Nat) (hx : a.eval x = .pointer (some ⟨b, off, none⟩))
  (hr : ∀ w, (Instr.fieldAt t (.pointer (some ⟨b, off, none⟩)) f).run P w = .ok (.pointer (some ⟨b, off', none⟩)) w) (hp : (S i).p (.pointer (some ⟨b, off', none⟩)) w) : GStep P ops S Q i o a w :=
 zzx hw (v := .pointer (some ⟨b, off', none⟩)) (by unfold execOp; simp only [ho, hx, Sem.run_bind, hr, Result.andThen_ok, Sem.run_pure]) (Below.refl _ _) hp
theorem zqj (hw : Region.wanted o (yielded ops a.tmps) = true) (ty : TypeId) (x : Operand) (ho : o.op = .load ty x) (b off : Nat) (hx : a.eval x = .pointer (some ⟨b, off, none⟩)) (v : Value) (hc : w.cell? ⟨b, off, none⟩ = some v)
  (d : TypeDesc) (hu : P.underlying ty = some d) (hd : (match d with | .struct _ | .array _ _ => true | _ => false) = false) (hp : (S i).p v w) : GStep P ops S Q i o a w :=
 zzx hw (v := v) (by unfold execOp; simp only [ho, hx, Instr.loadAt, Instr.sureAddr, Sem.run_bind, Sem.run_pure, Result.andThen_ok, run_load1 w _ ty d v hc hu hd]) (Below.refl _ _) hp
end
section
variable {ops : Array Oper} {S : Nat → GSpec} {Q : Exit → Act → World → Prop} {i : Nat} {o : Oper} {a : Act} {w : World}
theorem gs_load_edge_at (hw : Region.wanted o (yielded ops a.tmps) = true) (x : Operand) (ho : o.op = .load 69 x) (b off : Nat) (hx : a.eval x = .pointer (some ⟨b, off, none⟩)) (y : Edg) (hr : RowAt w b off (edgC y))
  (hp : (S i).p (.agg (edgC y)) w) : GStep Tryz.prog ops S Q i o a w :=
 zzx hw (v := .agg (edgC y)) (by unfold execOp; simp only [ho, hx, Instr.loadAt, Instr.sureAddr, Sem.run_bind, Sem.run_pure, Result.andThen_ok, run_loadVar_at w b off _ _ _ hr Tryz.underlying69 rfl (info_edge.trans (by rw [zxt]))]) (Below.refl _ _) hp
end
theorem zxa : Tryz.prog.underlying 24 = some (.slice (Tryz.prog.elem 24)) := by kernel_rfl
theorem size_ruleE (w : World) : (sizeOf (Tryz.prog.elem 24)).run Tryz.prog w = .ok 1 w := by kernel_rfl
section
variable {P : Program} {ops : Array Oper} {S : Nat → GSpec} {Q : Exit → Act → World → Prop} {i : Nat} {o : Oper} {a : Act} {w : World}
theorem gs_nil (hw : Region.wanted o (yielded ops a.tmps) = true) (x : Operand) (ho : o.op = .nilCheck x) (p : Addr) (hx : a.eval x = .pointer (some p)) (hp : (S i).p (.pointer (some p)) w) : GStep P ops S Q i o a w :=
 zzx hw (v := .pointer (some p)) (by unfold execOp; simp only [ho, hx]; rfl) (Below.refl _ _) hp
theorem gs_or_u32 (hw : Region.wanted o (yielded ops a.tmps) = true) (t t2 : TypeId) (x y : Operand) (ho : o.op = .binOp .or t x y t2) (p q : Int) (hx : a.eval x = .int .u32 p) (hy : a.eval y = .int .u32 q) (r : Int)
  (hr : bits .or .u32 p q = r) (hp : (S i).p (.int .u32 r) w) : GStep P ops S Q i o a w :=
 gs_bin hw _ _ _ x y ho _ _ _ hx hy (by rw [eqGuard_at_int]; rfl) (by rw [← hr]; rfl) hp
end
def vF : Bool → Value → Value
 | true, v => v
 | false, _ => undef
theorem vF_true (v : Value) : vF true v = v := rfl
theorem vF_false (v : Value) : vF false v = undef := rfl
theorem vF_no {c : Bool} (e : c = false) (v : Value) : undef = vF c v := by rw [e]; rfl
theorem zqg {c : Bool} (e : c = true) (v : Value) : vF c v = v := by rw [e]; rfl
theorem vF_and {c b : Bool} (h1 : c = true) (h2 : b = true) (v : Value) : vF (c && b) v = v := by rw [h1, h2]; rfl
theorem zxn {k : Bool} (e : (true && (k == false)) = false) : (!k) = false := by cases k <;> simp_all
theorem off_and {c b : Bool} (e : (c && (b == true)) = false) : (c && b) = false := by cases c <;> cases b <;> simp_all
theorem zzt {k : Bool} (e : k = false) : (!k) = true := by rw [e]; rfl
theorem pick_and {a b : Bool} {v : Value} (h : v = vF a (.bool b)) : (if a = true then v else .bool false) = .bool (a && b) := by cases a <;> simp_all [vF]
theorem pick_or {a b : Bool} {v : Value} (h : v = vF (!a) (.bool b)) : (if a = true then .bool true else v) = .bool (a || b) := by cases a <;> simp_all [vF]
section
variable {P : Program} {ops : Array Oper} {S : Nat → GSpec} {Q : Exit → Act → World → Prop} {i : Nat} {o : Oper} {a : Act} {w : World}
theorem zqf {g d : Nat} {b c b' : Bool} (ho : o.guard = some (g, b)) (hd : (ops[g]?).bind (·.dst) = some d) (hv : a.tmps.getD d undef = vF c (.bool b'))
  (h1 : c = true → b' = b → Region.wanted o (yielded ops a.tmps) = true → GStep P ops S Q i o a w) (h2 : (c && (b' == b)) = false → (S i).p undef w) : GStep P ops S Q i o a w := by
 cases c
 ·refine gs_skip ?_ (h2 rfl)
  rw [vF_false] at hv
  have h1 : a.tmps[d]? ≠ some (.bool b) := by
   intro hh
   simp [hh] at hv
   cases hv
  simp only [Region.wanted, ho, yielded, hd, Option.bind_some]
  rcases hh : a.tmps[d]? with _ | v
  ·simp
  ·have hv2 : v = undef := by simpa [hh] using hv
   rw [hv2]
   rfl
 ·rw [vF_true] at hv
  by_cases e : b' = b
  ·exact h1 rfl e (zzb ho hd (e ▸ hv))
  ·have e2 : b = !b' := by cases b <;> cases b' <;> simp_all
   refine gs_skip (want_no (b := b') ?_ hd hv) (h2 (by simp [e]))
   rw [ho, e2]
end
section
variable {P : Program} {ops : Array Oper} {S : Nat → GSpec} {Q : Exit → Act → World → Prop} {i : Nat} {o : Oper} {a : Act} {w : World}
theorem gs_geq_int (hw : Region.wanted o (yielded ops a.tmps) = true) (t t2 : TypeId) (x y : Operand) (ho : o.op = .binOp .geq t x y t2) (k : IntKind) (p q : Int) (hx : a.eval x = .int k p) (hy : a.eval y = .int k q)
  (hp : (S i).p (.bool (decide (q ≤ p))) w) : GStep P ops S Q i o a w :=
 gs_bin hw _ _ _ x y ho _ _ _ hx hy (by rw [eqGuard_at_int]; rfl) (by rw [binOp_geq]; rfl) hp
theorem gs_leq_int (hw : Region.wanted o (yielded ops a.tmps) = true) (t t2 : TypeId) (x y : Operand) (ho : o.op = .binOp .leq t x y t2) (k : IntKind) (p q : Int) (hx : a.eval x = .int k p) (hy : a.eval y = .int k q)
  (hp : (S i).p (.bool (decide (p ≤ q))) w) : GStep P ops S Q i o a w :=
 gs_bin hw _ _ _ x y ho _ _ _ hx hy (by rw [eqGuard_at_int]; rfl) (by rw [binOp_leq]; rfl) hp
end
theorem under_ints : Tryz.prog.underlying 47 = some (.slice (Tryz.prog.elem 47)) := by kernel_rfl
theorem size_intE (w : World) : (sizeOf (Tryz.prog.elem 47)).run Tryz.prog w = .ok 1 w := by kernel_rfl
theorem on_g {c x b : Bool} (h1 : c = true) (h2 : x = b) : (c && (x == b)) = true := by rw [h1, h2]; simp
theorem zzr {c x y : Bool} {v : Value} (hc : c = true) (h : v = vF (c && (x == false)) (.bool y)) : (if x = true then .bool true else v) = .bool (x || y) := by
 subst hc
 cases x
 ·exact h
 ·rfl
theorem zxq {c x y : Bool} {v : Value} (hc : c = true) (h : v = vF (c && (x == true)) (.bool y)) : (if x = true then v else .bool false) = .bool (x && y) := by
 subst hc
 cases x
 ·rfl
 ·exact h
section
variable {P : Program} {ops : Array Oper} {S : Nat → GSpec} {Q : Exit → Act → World → Prop} {i : Nat} {o : Oper} {a : Act} {w : World}
theorem gs_lss_int (hw : Region.wanted o (yielded ops a.tmps) = true) (t t2 : TypeId) (x y : Operand) (ho : o.op = .binOp .lss t x y t2) (k : IntKind) (p q : Int) (hx : a.eval x = .int k p) (hy : a.eval y = .int k q)
  (hp : (S i).p (.bool (decide (p < q))) w) : GStep P ops S Q i o a w :=
 gs_bin hw _ _ _ x y ho _ _ _ hx hy (by rw [eqGuard_at_int]; rfl) (by rw [binOp_lss]; rfl) hp
theorem gs_gtr_int (hw : Region.wanted o (yielded ops a.tmps) = true) (t t2 : TypeId) (x y : Operand) (ho : o.op = .binOp .gtr t x y t2) (k : IntKind) (p q : Int) (hx : a.eval x = .int k p) (hy : a.eval y = .int k q)
  (hp : (S i).p (.bool (decide (q < p))) w) : GStep P ops S Q i o a w :=
 gs_bin hw _ _ _ x y ho _ _ _ hx hy (by rw [eqGuard_at_int]; rfl) (by rw [binOp_gtr]; rfl) hp
theorem gs_callv (hw : Region.wanted o (yielded ops a.tmps) = true) (f : FuncId) (c : Operand) (cap : Array Value) (xs : Array Operand) (ats : Array TypeId) (ho : o.op = .call { callee := .value c, args := xs, argTypes := ats })
  (he : a.eval c = .func (.func f) #[] cap) (hf : ∀ args w, (callFunc f args).run P w = .ok (.enter f args) w) (vs : Array Value) (hv : xs.map a.eval ++ cap = vs)
  (hc : Calls P f vs w fun e w' => ∃ v, e = .returned v ∧ Below w.heap.size w w' ∧ (S i).p v w') : GStep P ops S Q i o a w := by
 unfold GStep
 rw [if_pos hw]
 unfold Oper.wp
 have hr : (execOp a.eval o).run P w = .ok (.enter f vs) w := by
  have he2 : execOp a.eval o = callFunc f (#[] ++ xs.map a.eval ++ cap) := by
   unfold execOp; rw [ho]; simp only [resolve, he]; rfl
  rw [he2, Array.empty_append, hv]
  exact hf vs w
 rw [hr, Oper.upon_enter]
 refine hc.mono ?_
 rintro e w' ⟨v, rfl, hb, hp⟩
 exact ⟨v, rfl, hb, hp⟩
end
section
variable {ops : Array Oper} {S : Nat → GSpec} {Q : Exit → Act → World → Prop} {i : Nat} {o : Oper} {a : Act} {w : World}
theorem zxe (hw : Region.wanted o (yielded ops a.tmps) = true) (x : Operand) (ho : o.op = .load 53 x) (b off : Nat) (hx : a.eval x = .pointer (some ⟨b, off, none⟩)) (y : BSet) (hr : RowAt w b off (setC y))
  (hp : (S i).p (.agg (setC y)) w) : GStep Tryz.prog ops S Q i o a w :=
 zzx hw (v := .agg (setC y)) (by unfold execOp; simp only [ho, hx, Instr.loadAt, Instr.sureAddr, Sem.run_bind, Sem.run_pure, Result.andThen_ok, run_loadVar_at w b off _ _ _ hr Tryz.underlying53 rfl (info_set.trans (by rw [zye]))]) (Below.refl _ _) hp
theorem build_set0 (w : World) : (Instr.build 53 #[]).run Tryz.prog w = .ok (.agg (setC 0)) w := by kernel_rfl
theorem gs_build_set0 (hw : Region.wanted o (yielded ops a.tmps) = true) (ho : o.op = .build 53 #[]) (hp : (S i).p (.agg (setC 0)) w) : GStep Tryz.prog ops S Q i o a w :=
 zzx hw (v := .agg (setC 0)) (by unfold execOp; simp only [ho, List.map_toArray, List.map_nil, Sem.run_bind, build_set0, Result.andThen_ok, Sem.run_pure]) (Below.refl _ _) hp
end
theorem map4 {a : Act} {x y z s : Operand} {v u t r : Value} (h : a.eval x = v) (h2 : a.eval y = u) (h3 : a.eval z = t) (h4 : a.eval s = r) : #[x, y, z, s].map a.eval = #[v, u, t, r] := by simp [h, h2, h3, h4]
theorem wl_call {P : Program} {ops : Array Oper} {rest : List Oper} {o : Oper} {a : Act} {w : World} {Q : Exit → Act → World → Prop} (hgd : o.guard = none) (f : FuncId) (xs : Array Operand) (ats : Array TypeId) (ho : o.op = .call { callee := .value (.func f), args := xs, argTypes := ats })
  (hf : ∀ args w, (callFunc f args).run P w = .ok (.enter f args) w) (vs : Array Value) (hv : xs.map a.eval = vs)
  (hc : Calls P f vs w fun e w' => ∃ v, e = .returned v ∧ wpList P ops Q rest (a.put o.dst v) w') : wpList P ops Q (o :: rest) a w := by
 refine wpList_plain hgd fun K hK => ?_
 unfold Oper.wp
 have hr : (execOp a.eval o).run P w = .ok (.enter f vs) w := by
  have he : execOp a.eval o = callFunc f (#[] ++ xs.map a.eval ++ #[]) := by
   unfold execOp; rw [ho]; rfl
  rw [he, hv]
  simpa using hf vs w
 rw [hr, Oper.upon_enter]
 refine hc.mono ?_
 rintro e w' ⟨v, rfl, h⟩
 exact hK _ _ h
theorem wpList_w {P : Program} {ops : Array Oper} {rest : List Oper} {o : Oper} {a : Act} {w : World} {Q : Exit → Act → World → Prop} (hw : Region.wanted o (yielded ops a.tmps) = true) (h : wpList P ops Q ({ o with guard := none } :: rest) a w) : wpList P ops Q (o :: rest) a w := by
 unfold wpList at h ⊢
 rw [if_pos (by simp [Region.wanted])] at h
 rw [if_pos hw]
 exact h
theorem wl_load_set_g {ops : Array Oper} {rest : List Oper} {o : Oper} {a : Act} {w : World} {Q : Exit → Act → World → Prop} (hw : Region.wanted o (yielded ops a.tmps) = true) (x : Operand) (ho : o.op = .load 53 x)
  (b off : Nat) (hx : a.eval x = .pointer (some ⟨b, off, none⟩)) (y : BSet) (hr : RowAt w b off (setC y))
  (h : wpList Tryz.prog ops Q rest (a.put o.dst (.agg (setC y))) w) : wpList Tryz.prog ops Q (o :: rest) a w :=
 wpList_w hw (zqo (o := { o with guard := none }) rfl x ho b off hx y hr h)
theorem map1c {a : Act} {x : Operand} {v : Value} (p : Value) (h : a.eval x = v) : #[x].map a.eval ++ #[p] = #[v, p] := by simp [h]
structure Parked (p : Prop) : Prop where
 h : p
theorem park {p : Prop} (h : Parked p) : p := h.h
theorem info_int3 : (Tryz.prog.info? 3).map (fun i => (i.zero, i.size, i.bytes)) = some (some (.int .i64 0), 1, 8) := by kernel_rfl
theorem info_ints1 : (Tryz.prog.info? 47).map (·.size) = some 1 := by kernel_rfl
section
variable {α : Type} {enc : α → Array Value} {size : Nat}
end
theorem info_nfa : (Tryz.prog.info? 26).map (·.size) = some 3 := by kernel_rfl
section
variable {ops : Array Oper} {rest : List Oper} {o : Oper} {a : Act} {w : World} {Q : Exit → Act → World → Prop}
theorem wl_load_nfa (hgd : o.guard = none) (x : Operand) (ho : o.op = .load 26 x)
  (g : Nat) (hx : a.eval x = .pointer (some ⟨g, 0, none⟩)) (s : Int) (A : Option Addr) (n c : Nat) (B : Option Addr) (m d : Nat) (hb : Blk w g 26 (nfaC s A n c B m d))
  (h : wpList Tryz.prog ops Q rest (a.put o.dst (.agg (nfaC s A n c B m d))) w) : wpList Tryz.prog ops Q (o :: rest) a w :=
 wpList_load_row hgd _ x ho g hx _ _ _ _ hb Tryz.underlying26 rfl (info_nfa.trans rfl) h
theorem zzw (hgd : o.guard = none) (x y : Operand) (ho : o.op = .store 26 x y)
  (g : Nat) (s : Int) (A : Option Addr) (n c : Nat) (B : Option Addr) (m d : Nat) (hx : a.eval x = .pointer (some ⟨g, 0, none⟩)) (hy : a.eval y = .agg (nfaC s A n c B m d))
  (s0 : Int) (A0 : Option Addr) (n0 c0 : Nat) (B0 : Option Addr) (m0 d0 : Nat) (hb : Blk w g 26 (nfaC s0 A0 n0 c0 B0 m0 d0))
  (h : ∀ w', Blk w' g 26 (nfaC s A n c B m d) → w.grownBy w' (some g) → wpList Tryz.prog ops Q rest (a.put o.dst undef) w') : wpList Tryz.prog ops Q (o :: rest) a w :=
 wpList_store_row hgd _ x y ho g _ hx hy _ _ hb (info_nfa.trans rfl) rfl (by simp [nfaC, Value.oneCell']) (h _ (hb.setRow_same _) (zxs (zzk _ _) _))
end
section
variable {ops : Array Oper} {S : Nat → GSpec} {Q : Exit → Act → World → Prop} {i : Nat} {o : Oper} {a : Act} {w : World}
end
def newS (b0 : Nat) (t : TypeId) (cs : Array Value) : GSpec :=
 ⟨fun v w => ∃ g, v = .pointer (some ⟨g, 0, none⟩) ∧ b0 ≤ g ∧ Blk w g t cs, fun v w w' ⟨g, h1, h2, h3⟩ hb => ⟨g, h1, h2, zqb h3 hb⟩⟩
section
variable {ops : Array Oper} {S : Nat → GSpec} {Q : Exit → Act → World → Prop} {i : Nat} {o : Oper} {a : Act} {w : World}
end
theorem Own.kept_ {α : Type} {enc : α → Array Value} {size base : Nat} {e : TypeId} {w w' : World} {v : Value} {ys : List α} {row : Option Nat} (h : Own w base e size enc v ys) (hg : w.grownBy w' row) (hne : ∀ j, v.ownBlock = some j → row = some j → False) : Own w' base e size enc v ys := by
 cases hv : v.ownBlock with
 | none => exact World.ownsRow.kept h hg (by simp [hv])
 | some j =>
  refine World.ownsRow.kept h hg (.inr ?_)
  rw [hv]
  intro e
  exact hne j hv e.symm
end Go.Proofs.YtkedgombccdamaaGreatDoor
namespace Go.Proofs.YtkedgombccdamaaGreatDoor
open Go.RowKit Go.Maps
set_option linter.unusedVariables false
set_option linter.unusedSimpArgs false
theorem info_b3 : (Tryz.prog.info? 5).map (fun i => (i.zero, i.size, i.bytes)) = some (some (.int .u8 0), 1, 1) := by kernel_rfl
section
variable {ops : Array Oper} {rest : List Oper} {o : Oper} {a : Act} {w : World} {Q : Exit → Act → World → Prop}
theorem str_of8 {A : Option Addr} {n c B : Nat} {l : List UInt8} (hn : n = l.length) (hs : SliceOf w B 1 enc8 A l) : (Go.convert 74 9 (.slice A n c)).run Tryz.prog w = .ok (.string ⟨l.toArray⟩) w := by
 subst hn
 rcases A with _ | a
 ·have hl : l = [] := by
   rcases hs with h | ⟨b, off, h, _⟩
   ·exact h
   ·cases h
  subst hl
  rw [run_convert_bytes_string w _ _ 5 none _ c Tryz.underlying74 Tryz.underlying5 Tryz.underlying9]
  rfl
 ·refine run_convert_bytes_back w _ _ 5 a c l Tryz.underlying74 Tryz.underlying5 Tryz.underlying9 fun j hj => ?_
  obtain ⟨b, off, e, _, hrow⟩ := hs.at_ (by omega)
  injection e with e
  subst e
  have := hrow j hj 0 _ rfl
  rw [Nat.mul_one] at this
  rw [addr_add]
  exact this
theorem wl_conv_str (hgd : o.guard = none) (x : Operand) (ho : o.op = .convert 74 9 x) {A : Option Addr} {n c B : Nat} (l : List UInt8) (hx : a.eval x = .slice A n c) (hn : n = l.length) (hs : SliceOf w B 1 enc8 A l)
  (h : wpList Tryz.prog ops Q rest (a.put o.dst (.string ⟨l.toArray⟩)) w) : wpList Tryz.prog ops Q (o :: rest) a w :=
 wpList_plain hgd fun _ hK => by
  unfold Oper.wp execOp
  simp only [ho, hx, Sem.run_bind, str_of8 hn hs, Result.andThen_ok, Sem.run_pure]
  exact hK _ _ h
end
end Go.Proofs.YtkedgombccdamaaGreatDoor
