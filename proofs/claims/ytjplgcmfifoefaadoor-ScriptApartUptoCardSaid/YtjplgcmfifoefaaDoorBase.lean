/- Plain lemmas on the model's memory: a block known whole, a slice that reads as a list of multi-cell elements, and the walk's laws for loading and storing them. No condition beyond those named in each lemma. -/
import Derived.WalkKit
import Derived.WalkSpells
import Derived.WalkLawsBesides
import Derived.RegionTactic
import Derived.BigRegion
import Derived.Deep.QuietTactic
import Derived.BigQuiet
import Derived.Lib.Hide
import Derived.Outline
import Derived.Laws.OwnMore
import Derived.Deep.Draws
import Derived.Laws.Rows
import Derived.Deep.AppendLies
import Derived.Deep.RegionHeld3
import Derived.Maps.AppendAt
import Derived.OwnWalk
import Derived.Deep.DeepFit
import Derived.Deep.DeepMust
import Derived.Deep.LoopGhost
import Derived.Deep.DeepCutAuto
import Derived.StillTailTactics
namespace Go.Proofs.YtjplgcmfifoefaaDoor
open Go.RowKit

/-- Block g is just the cells cs of element type t, none frozen. -/
def Blk (w : World) (g : Nat) (t : TypeId) (cs : Array Value) : Prop := w.heap[g]? = some (.cells cs t (0, 0))

section
variable {w w' : World} {g : Nat} {t : TypeId} {cs : Array Value}
theorem Blk.lt (h : Blk w g t cs) : g < w.heap.size := by
  rcases Nat.lt_or_ge g w.heap.size with hlt | hge
  · exact hlt
  · unfold Blk at h; rw [Array.getElem?_eq_none hge] at h; cases h
theorem Blk.cell (h : Blk w g t cs) (i : Nat) : w.cell? ⟨g, i, none⟩ = cs[i]? := cell_of_row w g i cs t (0, 0) h
theorem Blk.cellv (h : Blk w g t cs) {i : Nat} {v : Value} (hv : cs[i]? = some v) : w.cell? ⟨g, i, none⟩ = some v := (h.cell i).trans hv
theorem Blk.frozen (h : Blk w g t cs) (i : Nat) : w.frozen? ⟨g, i, none⟩ = false := by
  unfold Blk at h
  simp [World.frozen?, h]
theorem Blk.new (w : World) (t : TypeId) (cs : Array Value) : Blk (w.alloc (.cells cs t)) w.heap.size t cs := heap_alloc_new w _
theorem Blk.new' {n : Nat} (w : World) (t : TypeId) (cs : Array Value) (h : n = w.heap.size) : Blk (w.alloc (.cells cs t)) n t cs := by
  subst h; exact heap_alloc_new w _
theorem Blk.drew (h : Blk w g t cs) : Blk w.drew g t cs := h
theorem Blk.drewN (h : Blk w g t cs) (n : Nat) : Blk (w.drewN n) g t cs := h
theorem Blk.alloc (h : Blk w g t cs) (o : Obj) : Blk (w.alloc o) g t cs := (Below.heap_alloc w o g h.lt).trans h
theorem Blk.set_ (h : Blk w g t cs) (i : Nat) (u : Value) : Blk (w.setCell ⟨g, i, none⟩ u) g t (cs.setIfInBounds i u) := by
  unfold Blk at h ⊢
  simp [World.setCell, Array.getElem?_modify, h]
theorem Blk.set_eq (h : Blk w g t cs) {i : Nat} {u : Value} {cs' : Array Value} (e : cs.setIfInBounds i u = cs') : Blk (w.setCell ⟨g, i, none⟩ u) g t cs' := by
  rw [← e]; exact h.set_ i u
theorem Blk.far (h : Blk w g t cs) {p : Addr} (hp : g ≠ p.block) (u : Value) : Blk (w.setCell p u) g t cs := (Below.heap_setCell w p u g hp).trans h
theorem Blk.below {B : Nat} (h : Blk w g t cs) (hb : Below B w w') (hg : g < B) : Blk w' g t cs := (hb.block g hg).trans h
theorem Blk.grown {row : Option Nat} (h : Blk w g t cs) (hb : w.grownBy w' row) (hg : some g ≠ row) : Blk w' g t cs := (hb.block g h.lt hg).trans h
theorem Blk.ne_ {g' : Nat} {t' : TypeId} {cs' : Array Value} (h : Blk w g t cs) (h' : Blk w g' t' cs') (hne : t ≠ t') : g ≠ g' := by
  rintro rfl
  unfold Blk at h h'
  rw [h] at h'
  injection h' with h'
  injection h' with _ ht
  exact hne ht
theorem own_blk_ne {base : Nat} {e : TypeId} {size n : Nat} {v : Value} {xs : List Value} (h : w.ownsRow base e size v n xs) (hg : Blk w g t cs) (hne : e ≠ t) : v.ownBlock ≠ some g := by
  rcases h.2 with ⟨rfl, _⟩ | ⟨g', cap, cur, rfl, _, hh, _⟩
  · simp [Value.ownBlock]
  · intro he
    have : g' = g := by simpa [Value.ownBlock] using he
    subst this
    exact Blk.ne_ (t := e) hh hg hne rfl
theorem Blk.setRow_same (h : Blk w g t cs) (cs' : Array Value) : Blk (w.setRow g cs') g t cs' := setRow_heap w g cs cs' t _ h
theorem Blk.setRow_far (h : Blk w g t cs) {k : Nat} (hk : g ≠ k) (cs' : Array Value) : Blk (w.setRow k cs') g t cs := (setRow_other w k g cs' hk).trans h
end

theorem below_drewN' {B : Nat} {a w : World} (h : Below B a w) (n : Nat) : Below B a (w.drewN n) := ⟨h.os, h.tape, h.output, h.size, h.block⟩
theorem below_setRow {w a : World} {B : Nat} (h : Below B a w) {k : Nat} (hk : B ≤ k) (cs' : Array Value) : Below B a (w.setRow k cs') :=
  h.trans ⟨rfl, rfl, rfl, by simp, fun i hi => setRow_other w k i cs' (by omega)⟩
/-- what a world that has only grown keeps of the caller's frame -/
theorem below_then {a w w' : World} (h : Below a.heap.size a w) (k : Below w.heap.size w w') : Below a.heap.size a w' := h.trans (k.mono h.size)
theorem below_grown {a w w' : World} {g : Nat} (h : Below a.heap.size a w) (hg : w.grownBy w' (some g)) (hr : a.heap.size ≤ g) : Below a.heap.size a w' :=
  h.grown hg h.size (by rintro k ⟨⟩; exact hr)
theorem below_alloc {a w : World} (h : Below a.heap.size a w) (o : Obj) : Below a.heap.size a (w.alloc o) := h.alloc h.size o
theorem blk_grown {w w' : World} {g k : Nat} {t : TypeId} {cs : Array Value} (h : Blk w g t cs) (hg : w.grownBy w' (some k)) (hne : g ≠ k) : Blk w' g t cs := h.grown hg (fun e => hne (by injection e))
theorem blk_then {w w' : World} {g : Nat} {t : TypeId} {cs : Array Value} (h : Blk w g t cs) (k : Below w.heap.size w w') : Blk w' g t cs := h.below k h.lt

theorem only_refl (w : World) (row : Option Nat) : w.grownBy w row := World.grownBy.refl w row
theorem only_drew {a w : World} {row : Option Nat} (h : a.grownBy w row) : a.grownBy w.drew row := ⟨h.os, h.tape, h.output, h.size, h.block⟩
theorem only_drewN {a w : World} {row : Option Nat} (h : a.grownBy w row) (n : Nat) : a.grownBy (w.drewN n) row := ⟨h.os, h.tape, h.output, h.size, h.block⟩
theorem only_alloc {a w : World} {row : Option Nat} (h : a.grownBy w row) (o : Obj) : a.grownBy (w.alloc o) row :=
  ⟨h.os, h.tape, h.output, Nat.le_trans h.size (by simp), fun i hi hne => (Below.heap_alloc w o i (Nat.lt_of_lt_of_le hi h.size)).trans (h.block i hi hne)⟩
theorem only_setCell {a w : World} {g : Nat} (h : a.grownBy w (some g)) {p : Addr} (hp : p.block = g ∨ a.heap.size ≤ p.block) (u : Value) : a.grownBy (w.setCell p u) (some g) :=
  ⟨h.os, h.tape, h.output, by simpa [World.setCell] using h.size, fun i hi hne => (Below.heap_setCell w p u i (by
    rintro rfl
    rcases hp with hp | hp
    · exact hne (by rw [hp])
    · omega)).trans (h.block i hi hne)⟩
theorem only_of_below {a w : World} (h : Below a.heap.size a w) (row : Option Nat) : a.grownBy w row := ⟨h.os, h.tape, h.output, h.size, fun i hi _ => h.block i hi⟩

theorem ret_cell {P : Program} {w : World} {g : Nat} {t : TypeId} {cs : Array Value} {fn : Func} {p : Tmp} {ty : TypeId} (hres : fn.results = #[.cell p ty]) {a : Act} (d : TypeDesc)
    (hp : a.tmps.getD p undef = .pointer (some ⟨g, 0, none⟩)) (hb : Blk w g t cs)
    (hu : P.underlying ty = some d) (hd : (match d with | .struct _ | .array _ _ => true | _ => false) = true) (hi : (P.info? ty).map (·.size) = some cs.size)
    (hdf : a.defers = []) {R : Ending → World → Prop} (hR : R (.returned (.agg cs)) w) : bodyPost P fn R .ret a w :=
  bodyPost_ret (results_cell_row hres a.tmps w g t cs (0, 0) d hp hb hu hd hi) hdf hR
theorem ret_cell2 {P : Program} {w : World} {g : Nat} {t : TypeId} {cs : Array Value} {fn : Func} {p u : Tmp} {ty : TypeId} (hres : fn.results = #[.cell p ty, .tmp u]) {a : Act} (d : TypeDesc)
    (hp : a.tmps.getD p undef = .pointer (some ⟨g, 0, none⟩)) (hb : Blk w g t cs)
    (hu : P.underlying ty = some d) (hd : (match d with | .struct _ | .array _ _ => true | _ => false) = true) (hi : (P.info? ty).map (·.size) = some cs.size)
    (hdf : a.defers = []) {R : Ending → World → Prop} (hR : R (.returned (.tuple #[.agg cs, a.tmps.getD u undef])) w) : bodyPost P fn R .ret a w := by
  refine bodyPost_ret ?_ hdf hR
  have hl := run_loadVar_row (P := P) w g t ty cs (0, 0) d hb hu hd hi
  have hp' : a.tmps[p]?.getD undef = .pointer (some ⟨g, 0, none⟩) := by simpa using hp
  simp [results, hres, hp', asAddr, hl]

/-- the cells cs lie from offset off on -/
def RowAt (w : World) (b off : Nat) (cs : Array Value) : Prop := ∀ (j : Nat) (v : Value), cs[j]? = some v → w.cell? ⟨b, off + j, none⟩ = some v

theorem RowAt.of_blk {w : World} {g : Nat} {t : TypeId} {cs : Array Value} (h : Blk w g t cs) : RowAt w g 0 cs := fun j v hv => by rw [Nat.zero_add]; exact h.cellv hv
theorem RowAt.keep {w w' : World} {b off : Nat} {cs : Array Value} (h : RowAt w b off cs) (hk : w'.heap[b]? = w.heap[b]?) : RowAt w' b off cs :=
  fun j v hv => (World.cell?_of_block (w := w) hk).trans (h j v hv)

/-- A slice's address A leads to the elements xs, 'size' cells each, below block B (or there are none). -/
def SliceOf {α : Type} (w : World) (B size : Nat) (enc : α → Array Value) (A : Option Addr) (xs : List α) : Prop :=
  xs = [] ∨ ∃ b off, A = some ⟨b, off, none⟩ ∧ b < B ∧ ∀ i (h : i < xs.length), RowAt w b (off + i * size) (enc xs[i])

section
variable {α : Type} {w w' : World} {B B' size : Nat} {enc : α → Array Value} {A : Option Addr} {xs : List α}
theorem SliceOf.nil_ (w : World) (B size : Nat) (enc : α → Array Value) (A : Option Addr) : SliceOf w B size enc A [] := .inl rfl
theorem SliceOf.keep (h : SliceOf w B size enc A xs) (hk : ∀ k, k < B → w'.heap[k]? = w.heap[k]?) : SliceOf w' B size enc A xs := by
  rcases h with h | ⟨b, off, e, hb, hr⟩
  · exact .inl h
  · exact .inr ⟨b, off, e, hb, fun i hi => (hr i hi).keep (hk b hb)⟩
theorem SliceOf.below (h : SliceOf w B size enc A xs) (hb : Below B w w') : SliceOf w' B size enc A xs := h.keep hb.block
theorem SliceOf.more (h : SliceOf w B size enc A xs) (hB : B ≤ B') : SliceOf w B' size enc A xs := by
  rcases h with h | ⟨b, off, e, hb, hr⟩
  · exact .inl h
  · exact .inr ⟨b, off, e, by omega, hr⟩
theorem SliceOf.drew (h : SliceOf w B size enc A xs) : SliceOf w.drew B size enc A xs := h
theorem SliceOf.alloc (h : SliceOf w B size enc A xs) (hB : B ≤ w.heap.size) (o : Obj) : SliceOf (w.alloc o) B size enc A xs :=
  h.keep fun k hk => Below.heap_alloc _ _ _ (by omega)
theorem SliceOf.setCell (h : SliceOf w B size enc A xs) {p : Addr} (hB : B ≤ p.block) (u : Value) : SliceOf (w.setCell p u) B size enc A xs :=
  h.keep fun k hk => Below.heap_setCell _ _ _ _ (by omega)
theorem SliceOf.setRow (h : SliceOf w B size enc A xs) {g : Nat} (hB : B ≤ g) (cs : Array Value) : SliceOf (w.setRow g cs) B size enc A xs :=
  h.keep fun k hk => setRow_other w g k cs (by omega)
theorem SliceOf.grown {row : Option Nat} (h : SliceOf w B size enc A xs) (hg : w.grownBy w' row) (hB : B ≤ w.heap.size) (hr : ∀ g, row = some g → B ≤ g) : SliceOf w' B size enc A xs :=
  h.keep fun k hk => hg.block k (by omega) (fun e => by have := hr _ e.symm; omega)
theorem SliceOf.at_ (h : SliceOf w B size enc A xs) (hn : 0 < xs.length) : ∃ b off, A = some ⟨b, off, none⟩ ∧ b < B ∧ ∀ i (hi : i < xs.length), RowAt w b (off + i * size) (enc xs[i]) := by
  rcases h with rfl | h
  · simp at hn
  · exact h
theorem SliceOf.take (h : SliceOf w B size enc A xs) (n : Nat) : SliceOf w B size enc A (xs.take n) := by
  rcases h with rfl | ⟨b, off, e, hb, hr⟩
  · exact .inl (by simp)
  · refine .inr ⟨b, off, e, hb, fun i hi => ?_⟩
    simp only [List.length_take] at hi
    rw [List.getElem_take]
    exact hr i (by omega)
theorem SliceOf.of_own {e n c : Nat} (h : w.ownsRow B e size (.slice A n c) n (xs.flatMap fun x => (enc x).toList)) (hs : ∀ x ∈ xs, (enc x).size = size) (hn : n = xs.length) :
    SliceOf w w.heap.size size enc A xs := by
  subst hn
  rcases Nat.eq_zero_or_pos xs.length with h0 | hpos
  · exact .inl (List.eq_nil_of_length_eq_zero h0)
  · obtain ⟨g, cap, hv, _, hlt⟩ := h.form hpos
    have hA : A = some ⟨g, 0, none⟩ := by injection hv
    subst hA
    have hc := h.cells (g := g) rfl
    refine .inr ⟨g, 0, rfl, hlt, fun i hi j v hv => ?_⟩
    have hsi : (enc xs[i]).size = size := hs _ (List.getElem_mem hi)
    have hj : j < size := by
      rw [← hsi]
      by_cases hlt : j < (enc xs[i]).size
      · exact hlt
      · rw [Array.getElem?_eq_none (by omega)] at hv; cases hv
    have key : ∀ (l : List α) (i j : Nat) (hi : i < l.length), (∀ x ∈ l, (enc x).size = size) → j < size → (l.flatMap fun x => (enc x).toList)[i * size + j]? = (enc l[i])[j]? := by
      intro l
      induction l with
      | nil => intro i j hi; simp at hi
      | cons x l ih =>
        intro i j hi hsz hj
        have hx : (enc x).size = size := hsz x (by simp)
        rw [List.flatMap_cons]
        rcases i with _ | i
        · rw [List.getElem?_append_left (by simp [hx]; omega)]
          simp
        · have e1 : (i + 1) * size + j = size + (i * size + j) := by rw [Nat.add_mul]; omega
          rw [e1, List.getElem?_append_right (by simp [hx])]
          have e2 : size + (i * size + j) - (enc x).toList.length = i * size + j := by simp [hx]
          rw [e2, ih i j (by simpa using hi) (fun y hy => hsz y (by simp [hy])) hj]
          simp
    have := hc (i * size + j) v (by rw [key xs i j hi hs hj]; exact hv)
    have hadd : ∀ n, (⟨g, 0, none⟩ : Addr).add n = ⟨g, 0 + n, none⟩ := fun n => by unfold Addr.add; split <;> simp_all
    rw [hadd] at this
    rw [show 0 + i * size + j = 0 + (i * size + j) by omega]
    exact this
end

/-- a load of a whole struct or array out of a row of cells -/
theorem run_loadVar_at {P : Program} (w : World) (b off : Nat) (ty : TypeId) (cs : Array Value) (d : TypeDesc) (hr : RowAt w b off cs)
    (hu : P.underlying ty = some d) (hd : (match d with | .struct _ | .array _ _ => true | _ => false) = true) (hi : (P.info? ty).map (·.size) = some cs.size) :
    (loadVar ty ⟨b, off, none⟩).run P w = .ok (.agg cs) w := by
  have hl : (loadCells ⟨b, off, none⟩ cs.toList.length).run P w = .ok cs.toList.toArray w :=
    run_loadCells_list (P := P) w ⟨b, off, none⟩ cs.toList (fun j v hv => by
      have hadd : (⟨b, off, none⟩ : Addr).add j = ⟨b, off + j, none⟩ := by unfold Addr.add; split <;> simp_all
      rw [hadd]
      exact hr j v (by simpa using hv))
  cases hq : P.info? ty with
  | none => simp [hq] at hi
  | some i =>
    have hs : i.size = cs.size := by simpa [hq] using hi
    have hagg : (isAgg ty).run P w = .ok true w := by
      unfold isAgg
      rw [Sem.run_bind, run_underlying hu w]
      cases d <;> simp_all
    simp only [Array.length_toList, Array.toArray_toList] at hl
    simp [loadVar, Sem.run_bind, hagg, sizeOf, typeInfo, hq, hs, hl]

theorem wp_load_at {P : Program} {o : Oper} {a : Act} {w : World} {K : Act → World → Prop} {Q : Exit → Act → World → Prop} (ty : TypeId) (x : Operand) (ho : o.op = .load ty x)
    (b off : Nat) (hx : a.eval x = .pointer (some ⟨b, off, none⟩)) (cs : Array Value) (d : TypeDesc) (hr : RowAt w b off cs)
    (hu : P.underlying ty = some d) (hd : (match d with | .struct _ | .array _ _ => true | _ => false) = true) (hi : (P.info? ty).map (·.size) = some cs.size)
    (h : K (a.put o.dst (.agg cs)) w) : o.wp P a w K Q := by
  unfold Oper.wp execOp
  simp only [ho, hx, Instr.loadAt, Instr.sureAddr, Sem.run_bind, Sem.run_pure, Result.andThen_ok, run_loadVar_at w b off ty cs d hr hu hd hi]
  exact h

theorem wpList_load_at {P : Program} {ops : Array Oper} {rest : List Oper} {o : Oper} {a : Act} {w : World} {Q : Exit → Act → World → Prop} (hgd : o.guard = none) (ty : TypeId) (x : Operand) (ho : o.op = .load ty x)
    (b off : Nat) (hx : a.eval x = .pointer (some ⟨b, off, none⟩)) (cs : Array Value) (d : TypeDesc) (hr : RowAt w b off cs)
    (hu : P.underlying ty = some d) (hd : (match d with | .struct _ | .array _ _ => true | _ => false) = true) (hi : (P.info? ty).map (·.size) = some cs.size)
    (h : wpList P ops Q rest (a.put o.dst (.agg cs)) w) : wpList P ops Q (o :: rest) a w :=
  wpList_plain hgd fun _ hK => wp_load_at ty x ho b off hx cs d hr hu hd hi (hK _ _ h)

/-- a store of one cell into a block known whole: the world behind it is a new name -/
theorem wp_store_cell {P : Program} {o : Oper} {a : Act} {w : World} {K : Act → World → Prop} {Q : Exit → Act → World → Prop} (ty : TypeId) (x y : Operand) (ho : o.op = .store ty x y)
    (g i : Nat) (v : Value) (hx : a.eval x = .pointer (some ⟨g, i, none⟩)) (hy : a.eval y = v) (t : TypeId) (cs : Array Value) (hb : Blk w g t cs)
    (hv : v.cells = #[v]) (h1 : v.oneCell' = true) (hi : i < cs.size) (hsz : (P.info? ty).map (·.size) = some 1)
    (h : ∀ w', Blk w' g t (cs.setIfInBounds i v) → w.grownBy w' (some g) → K (a.put o.dst undef) w') : o.wp P a w K Q := by
  have hcell : w.cell? ⟨g, i, none⟩ = some cs[i] := hb.cellv (Array.getElem?_eq_getElem hi)
  have hfr := hb.frozen i
  have hrun : (storeVar ty ⟨g, i, none⟩ v).run P w = .ok () (w.setCell ⟨g, i, none⟩ v) := by
    cases hq : P.info? ty with
    | none => simp [hq] at hsz
    | some j =>
      have hs : j.size = 1 := by simpa [hq] using hsz
      have e := run_store P w ⟨g, i, none⟩ v .plain h1
      simp only [hcell, hfr, Bool.false_eq_true, if_false] at e
      have e0 : (⟨g, i, none⟩ : Addr).add 0 = ⟨g, i, none⟩ := rfl
      simp [storeVar, sizeOf, typeInfo, hq, hs, hv, storeCells, e0, e]
  unfold Oper.wp execOp
  simp only [ho, hx, hy, Instr.storeAt, Instr.sureAddr, Sem.run_bind, Sem.run_pure, Result.andThen_ok, hrun]
  exact h _ (hb.set_ i v) (only_setCell (only_refl _ _) (.inl rfl) _)
theorem wl_store_cell {P : Program} {ops : Array Oper} {rest : List Oper} {o : Oper} {a : Act} {w : World} {Q : Exit → Act → World → Prop} (hgd : o.guard = none) (ty : TypeId) (x y : Operand) (ho : o.op = .store ty x y)
    (g i : Nat) (hx : a.eval x = .pointer (some ⟨g, i, none⟩)) (t : TypeId) (cs cs' : Array Value) (hb : Blk w g t cs) (hi : i < cs.size) (hsz : (P.info? ty).map (·.size) = some 1)
    (hv : (a.eval y).cells = #[a.eval y]) (h1 : (a.eval y).oneCell' = true) (he : cs.setIfInBounds i (a.eval y) = cs')
    (h : ∀ w', Blk w' g t cs' → w.grownBy w' (some g) → wpList P ops Q rest (a.put o.dst undef) w') : wpList P ops Q (o :: rest) a w :=
  wpList_plain hgd fun _ hK => wp_store_cell ty x y ho g i _ hx rfl t cs hb hv h1 hi hsz fun w' h1 h2 => hK _ _ (h w' (he ▸ h1) h2)

theorem wst_load_row {P : Program} {ops : Array Oper} {rest : List Oper} {o : Oper} {a : Act} {w : World} {Q : Act → Prop} (hgd : o.guard = none) (ty : TypeId) (x : Operand) (ho : o.op = .load ty x)
    (g : Nat) (hx : a.eval x = .pointer (some ⟨g, 0, none⟩)) (t : TypeId) (cs : Array Value) (hg : Blk w g t cs) (d : TypeDesc)
    (hu : P.underlying ty = some d) (hd : (match d with | .struct _ | .array _ _ => true | _ => false) = true) (hi : (P.info? ty).map (·.size) = some cs.size)
    (h : wpStill P ops w Q rest (a.put o.dst (.agg cs))) : wpStill P ops w Q (o :: rest) a := by
  have hw : Region.wanted o (yielded ops a.tmps) = true := by simp [Region.wanted, hgd]
  unfold wpStill
  rw [if_pos hw]
  unfold Oper.still execOp
  simp only [ho, hx, Instr.loadAt, Instr.sureAddr, Sem.run_bind, Sem.run_pure, Result.andThen_ok, run_loadVar_row w g t ty cs (0, 0) d hg hu hd hi]
  exact ((Oper.stillUpon_value o a w _ _).symm ▸ h)
theorem wst_load_at {P : Program} {ops : Array Oper} {rest : List Oper} {o : Oper} {a : Act} {w : World} {Q : Act → Prop} (hgd : o.guard = none) (ty : TypeId) (x : Operand) (ho : o.op = .load ty x)
    (b off : Nat) (hx : a.eval x = .pointer (some ⟨b, off, none⟩)) (cs : Array Value) (hr : RowAt w b off cs) (d : TypeDesc)
    (hu : P.underlying ty = some d) (hd : (match d with | .struct _ | .array _ _ => true | _ => false) = true) (hi : (P.info? ty).map (·.size) = some cs.size)
    (h : wpStill P ops w Q rest (a.put o.dst (.agg cs))) : wpStill P ops w Q (o :: rest) a := by
  have hw : Region.wanted o (yielded ops a.tmps) = true := by simp [Region.wanted, hgd]
  unfold wpStill
  rw [if_pos hw]
  unfold Oper.still execOp
  simp only [ho, hx, Instr.loadAt, Instr.sureAddr, Sem.run_bind, Sem.run_pure, Result.andThen_ok, run_loadVar_at w b off ty cs d hr hu hd hi]
  exact ((Oper.stillUpon_value o a w _ _).symm ▸ h)

theorem only_setRow {a w : World} {g : Nat} (h : a.grownBy w (some g)) (cs : Array Value) : a.grownBy (w.setRow g cs) (some g) :=
  ⟨h.os, h.tape, h.output, by simpa using h.size, fun i hi hne => (setRow_other w g i cs (fun e => hne (by rw [e]))).trans (h.block i hi hne)⟩

end Go.Proofs.YtjplgcmfifoefaaDoor
