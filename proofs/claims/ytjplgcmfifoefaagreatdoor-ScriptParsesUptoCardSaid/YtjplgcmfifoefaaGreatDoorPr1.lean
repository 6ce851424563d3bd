/- Part 1 of a proof; packed: the texts that it was made of follow one another. No condition beyond those named in each lemma. -/
import Derived.Test.YtjplgcmfifoefaaGreatDoorProg
import Derived.BigQuiet
import Derived.BigRegion
import Derived.ChangeKeysEq
import Derived.Deep.AppendLies
import Derived.Deep.DeepCutAuto
import Derived.Deep.DeepFit
import Derived.Deep.DeepMust
import Derived.Deep.Draws
import Derived.Deep.LoopGhost
import Derived.Deep.QuietTactic
import Derived.Deep.RegionHeld3
import Derived.Laws.BitsAllLaws
import Derived.Laws.BitsLemmas
import Derived.Laws.OwnMore
import Derived.Laws.Rows
import Derived.Laws.StructEq
import Derived.Lib.AtoiAll
import Derived.Lib.Bytealg
import Derived.Lib.Hide
import Derived.Lib.IndexLaws
import Derived.Lib.ItoaNum
import Derived.Lib.MapLaws
import Derived.Lib.Strings
import Derived.Lib.TrimAscii
import Derived.Lib.TrimUEq
import Derived.Lib.Walk
import Derived.Maps.AppendAt
import Derived.Outline
import Derived.OwnWalk
import Derived.RegionTactic
import Derived.Shelf.Abstract
import Derived.Shelf.Strings.BuilderK
import Derived.Shelf.Strings.BuilderRune
import Derived.StillTailTactics
import Derived.WalkKit
import Derived.WalkLawsBesides
import Derived.WalkSpells
namespace Go.Proofs.YtjplgcmfifoefaaGreatDoor
open Go.Lib
set_option linter.unusedVariables false
set_option linter.unusedSimpArgs false

abbrev Bs := List UInt8
def plainB (b : UInt8) : Bool := decide (33 ≤ b.toNat ∧ b.toNat ≤ 126 ∧ b.toNat ≠ 34 ∧ b.toNat ≠ 92 ∧ b.toNat ≠ 35)
def isPl (l : Bs) : Bool := decide (l ≠ []) && l.all plainB
def hexD (n : Nat) : UInt8 := if n < 10 then UInt8.ofNat (48 + n) else UInt8.ofNat (87 + n)
def byN (b : UInt8) : Bs := [92, 120, hexD (b.toNat / 16), hexD (b.toNat % 16)]
def qOne (l : Bs) : Bs :=
  if (decodeL l).1 = 34 ∨ (decodeL l).1 = 92 then [92, UInt8.ofNat (decodeL l).1]
  else if (decodeL l).1 = 10 then [92, 110]
  else if (decodeL l).1 = 9 then [92, 116]
  else if (decodeL l).1 < 32 ∨ (decodeL l).1 = 127 ∨ ((decodeL l).1 = 65533 ∧ (decodeL l).2 = 1) then byN (l.getD 0 0)
  else l.take (decodeL l).2
def qGo : Nat → Bs → Bs
  | 0, _ => []
  | f + 1, l => if l = [] then [] else qOne l ++ qGo f (l.drop (decodeL l).2)
def quo (l : Bs) : Bs := if isPl l then l else 34 :: (qGo l.length l ++ [34])

def ordB (b : UInt8) : Prop := 32 ≤ b.toNat ∧ b.toNat ≠ 127 ∧ b.toNat ≠ 34 ∧ b.toNat ≠ 92
/-- a piece of a quoted word, and the bytes that it means -/
inductive Piece : Bs → Bs → Prop
  | esc (b c : UInt8) (h : (c.toNat = b.toNat ∧ (b.toNat = 34 ∨ b.toNat = 92)) ∨ (c.toNat = 110 ∧ b.toNat = 10) ∨ (c.toNat = 116 ∧ b.toNat = 9)) : Piece [92, c] [b]
  | hex (b : UInt8) : Piece (byN b) [b]
  | ord (x : Bs) (h : ∀ b ∈ x, ordB b) : Piece x x
inductive Pieces : Bs → Bs → Prop
  | nil : Pieces [] []
  | cons {x y X Y : Bs} (h : Piece x y) (t : Pieces X Y) : Pieces (x ++ X) (y ++ Y)

theorem ofNat_toNat (b : UInt8) : UInt8.ofNat b.toNat = b := by simp
theorem piece (l : Bs) (hne : l ≠ []) : Piece (qOne l) (l.take (decodeL l).2) := by
  have hN := decodeL_N l
  have hlen : 0 < l.length := List.length_pos_iff.2 hne
  rcases decodeN_shape l.length (l.getD 0 0).toNat (l.getD 1 0).toNat (l.getD 2 0).toNat (l.getD 3 0).toNat with ⟨h1, e⟩ | ⟨h0, hn, h1, hv, e⟩ | ⟨h0, hn, h1, h2, hv, hs, e⟩ | ⟨h0, hn, h1, h2, h3, hv, hs, e⟩ | e
  · rw [← hN] at e
    unfold qOne
    simp only [e]
    rw [takeA l hlen]
    generalize l.getD 0 0 = b at h1 ⊢
    rw [ofNat_toNat]
    split
    · next h => exact .esc b b (.inl ⟨rfl, h⟩)
    · split
      · next h => exact .esc b 110 (.inr (.inl ⟨rfl, h⟩))
      · split
        · next h => exact .esc b 116 (.inr (.inr ⟨rfl, h⟩))
        · split
          · exact .hex b
          · refine .ord [b] fun c hc => ?_
            obtain rfl : c = b := by simpa using hc
            unfold ordB
            omega
  all_goals
    rw [← hN] at e
    unfold qOne
    simp only [e]
  · rw [if_neg (by omega), if_neg (by omega), if_neg (by omega), if_neg (by omega), takeB l hn]
    refine .ord _ fun c hc => ?_
    simp only [List.mem_cons, List.not_mem_nil, or_false] at hc
    unfold ordB
    rcases hc with rfl | rfl <;> omega
  · rw [if_neg (by omega), if_neg (by omega), if_neg (by omega), if_neg (by omega), takeC l hn]
    refine .ord _ fun c hc => ?_
    simp only [List.mem_cons, List.not_mem_nil, or_false] at hc
    unfold ordB
    rcases hc with rfl | rfl | rfl <;> omega
  · rw [if_neg (by omega), if_neg (by omega), if_neg (by omega), if_neg (by omega), takeD l hn]
    refine .ord _ fun c hc => ?_
    simp only [List.mem_cons, List.not_mem_nil, or_false] at hc
    unfold ordB
    rcases hc with rfl | rfl | rfl | rfl <;> omega
  · rw [if_neg (by decide), if_neg (by decide), if_neg (by decide), if_pos (by decide), takeA l hlen]
    exact .hex _
theorem pieces : ∀ (f : Nat) (l : Bs), l.length ≤ f → Pieces (qGo f l) l
  | 0, l, h => by
    obtain rfl : l = [] := List.eq_nil_of_length_eq_zero (by omega)
    exact .nil
  | f + 1, l, h => by
    unfold qGo
    by_cases hl : l = []
    · rw [if_pos hl, hl]; exact .nil
    · rw [if_neg hl]
      have h1 := decodeL_width l
      have h2 := List.length_pos_iff.2 hl
      have := Pieces.cons (piece l hl) (pieces f (l.drop (decodeL l).2) (by rw [List.length_drop]; omega))
      rwa [List.take_append_drop] at this

def nib (c : UInt8) : Option Nat := if 48 ≤ c.toNat ∧ c.toNat ≤ 57 then some (c.toNat - 48) else if 97 ≤ c.toNat ∧ c.toNat ≤ 102 then some (c.toNat - 87) else none
def escL : Bs → Option (UInt8 × Nat)
  | [] => none
  | a :: u =>
    if a.toNat = 34 ∨ a.toNat = 92 then some (a, 1) else if a.toNat = 110 then some (10, 1) else if a.toNat = 116 then some (9, 1)
    else if a.toNat = 120 then (match u with
      | p :: q :: _ => (match nib p, nib q with
        | some x, some y => some (UInt8.ofNat (16 * x + y), 3)
        | _, _ => none)
      | _ => none)
    else none
def unqG : Nat → Bs → Option Bs
  | _, [] => some []
  | 0, _ :: _ => none
  | f + 1, c :: t =>
    if c.toNat = 92 then (match escL t with
      | none => none
      | some (b, n) => (unqG f (t.drop n)).map (b :: ·))
    else if c.toNat < 32 ∨ c.toNat = 127 ∨ c.toNat = 34 then none else (unqG f t).map (c :: ·)
def unq (w : Bs) : Option Bs :=
  if isPl w then some w else if w.length < 2 ∨ w.getD 0 0 ≠ 34 ∨ w.getD (w.length - 1) 0 ≠ 34 then none else unqG w.length ((w.drop 1).take (w.length - 2))

theorem unqG_nil (f : Nat) : unqG f [] = some [] := by cases f <;> rfl
theorem quo_pl {l : Bs} (h : isPl l = true) : quo l = l := by unfold quo; rw [if_pos h]
theorem quo_no {l : Bs} (h : isPl l = false) : quo l = 34 :: (qGo l.length l ++ [34]) := by unfold quo; rw [if_neg (by simp [h])]
/-- where a quoted word ends -/
def sc : Nat → Bs → Nat
  | _, [] => 0
  | 0, _ :: _ => 0
  | f + 1, c :: t => if c.toNat = 34 then 0 else if c.toNat = 92 then 2 + sc f (t.drop 1) else 1 + sc f t
/-- how many bytes the first part of a line has -/
def cutN (m : Bs) : Nat := if m.getD 0 0 = 34 then min (2 + sc m.length (m.drop 1)) m.length else m.findIdx (· == 32)
theorem isPl_all {l : Bs} (h : isPl l = true) : l ≠ [] ∧ ∀ b ∈ l, plainB b = true := by
  unfold isPl at h
  simp only [Bool.and_eq_true, decide_eq_true_eq, List.all_eq_true] at h
  exact h
/-- a line's parts; none: one is no word -/
def partsG : Nat → Bs → Option (List Bs)
  | 0, _ => none
  | f + 1, l =>
    if l.dropWhile (· == 32) = [] then some []
    else if (cutN (l.dropWhile (· == 32)) = (l.dropWhile (· == 32)).length ∨ (l.dropWhile (· == 32)).getD (cutN (l.dropWhile (· == 32))) 0 = 32) ∧ (unq ((l.dropWhile (· == 32)).take (cutN (l.dropWhile (· == 32))))).isSome then
      (partsG f ((l.dropWhile (· == 32)).drop (cutN (l.dropWhile (· == 32))))).map ((l.dropWhile (· == 32)).take (cutN (l.dropWhile (· == 32))) :: ·)
    else none
def lineW : List Bs → Bs
  | [] => []
  | w :: ws => 32 :: (w ++ lineW ws)
def blank (l : Bs) : Prop := ∀ b ∈ l, b = 32
end Go.Proofs.YtjplgcmfifoefaaGreatDoor
namespace Go.Proofs.YtjplgcmfifoefaaGreatDoor
open Go.Lib
set_option linter.unusedVariables false
set_option linter.unusedSimpArgs false

theorem byte_dig {d : Nat} (h : d < 10) : (UInt8.ofNat (48 + d)).toNat = 48 + d := by
  have : ∀ d, d < 10 → (UInt8.ofNat (48 + d)).toNat = 48 + d := by decide
  exact this d h
theorem dec_digit (u : Nat) : decDigits u ≠ [] ∧ ∀ b ∈ decDigits u, 48 ≤ b.toNat ∧ b.toNat ≤ 57 := by
  induction u using Nat.strongRecOn with
  | _ u ih =>
    rw [decDigits]
    by_cases h : u < 10
    · rw [dif_pos h]
      refine ⟨by simp, fun b hb => ?_⟩
      obtain rfl : b = UInt8.ofNat (48 + u) := by simpa using hb
      rw [byte_dig h]
      omega
    · rw [dif_neg h]
      have hm : u % 10 < 10 := Nat.mod_lt _ (by decide)
      refine ⟨by simp, fun b hb => ?_⟩
      rcases List.mem_append.1 hb with hb | hb
      · exact (ih (u / 10) (by omega)).2 b hb
      · obtain rfl : b = UInt8.ofNat (48 + u % 10) := by simpa using hb
        rw [byte_dig hm]
        omega
theorem isPl_dec (u : Nat) : isPl (decDigits u) = true := by
  unfold isPl
  simp only [Bool.and_eq_true, decide_eq_true_eq, List.all_eq_true]
  refine ⟨(dec_digit u).1, fun b hb => ?_⟩
  have := (dec_digit u).2 b hb
  unfold plainB
  exact decide_eq_true (by omega)
theorem isPl_itoa (n : Int) : isPl (itoa n) = true := by
  unfold itoa
  split
  · have h := isPl_all (isPl_dec n.natAbs)
    unfold isPl
    simp only [Bool.and_eq_true, decide_eq_true_eq, List.all_eq_true]
    refine ⟨by simp, fun b hb => ?_⟩
    rcases List.mem_cons.1 hb with rfl | hb
    · decide
    · exact h.2 b hb
  · exact isPl_dec _
theorem quo_itoa (n : Int) : quo (itoa n) = itoa n := quo_pl (isPl_itoa n)
/-- an integer that is written just so -/
def intW (w : Bs) : Option Int := match atoiAll w with
  | .ok v => if itoa v = w then some v else none
  | _ => none
end Go.Proofs.YtjplgcmfifoefaaGreatDoor
namespace Go.Proofs.YtjplgcmfifoefaaGreatDoor
open Go.RowKit

/-- Block g is just the cells cs of element type t, none frozen. -/
def Blk (w : World) (g : Nat) (t : TypeId) (cs : Array Value) : Prop := w.heap[g]? = some (.cells cs t (0, 0))

section
variable {w w' : World} {g : Nat} {t : TypeId} {cs : Array Value}
theorem Blk.lt (h : Blk w g t cs) : g < w.heap.size := by
  rcases Nat.lt_or_ge g w.heap.size with hlt | hge
  · exact hlt
  · unfold Blk at h; rw [Array.getElem?_eq_none hge] at h; cases h
theorem Blk.cell (h : Blk w g t cs) (i : Nat) : w.cell? ⟨g, i, none⟩ = cs[i]? := cell_of_row w g i cs t (0, 0) h
theorem Blk.cellv (h : Blk w g t cs) {i : Nat} {v : Value} (hv : cs[i]? = some v) : w.cell? ⟨g, i, none⟩ = some v := (h.cell i).trans hv
theorem Blk.frozen (h : Blk w g t cs) (i : Nat) : w.frozen? ⟨g, i, none⟩ = false := by
  unfold Blk at h
  simp [World.frozen?, h]
theorem Blk.new (w : World) (t : TypeId) (cs : Array Value) : Blk (w.alloc (.cells cs t)) w.heap.size t cs := heap_alloc_new w _
theorem Blk.drew (h : Blk w g t cs) : Blk w.drew g t cs := h
theorem Blk.drewN (h : Blk w g t cs) (n : Nat) : Blk (w.drewN n) g t cs := h
theorem Blk.alloc (h : Blk w g t cs) (o : Obj) : Blk (w.alloc o) g t cs := (Below.heap_alloc w o g h.lt).trans h
theorem Blk.set_ (h : Blk w g t cs) (i : Nat) (u : Value) : Blk (w.setCell ⟨g, i, none⟩ u) g t (cs.setIfInBounds i u) := by
  unfold Blk at h ⊢
  simp [World.setCell, Array.getElem?_modify, h]
theorem Blk.below {B : Nat} (h : Blk w g t cs) (hb : Below B w w') (hg : g < B) : Blk w' g t cs := (hb.block g hg).trans h
theorem Blk.grown {row : Option Nat} (h : Blk w g t cs) (hb : w.grownBy w' row) (hg : some g ≠ row) : Blk w' g t cs := (hb.block g h.lt hg).trans h
theorem Blk.setRow_same (h : Blk w g t cs) (cs' : Array Value) : Blk (w.setRow g cs') g t cs' := setRow_heap w g cs cs' t _ h
end

/-- what a world that has only grown keeps of the caller's frame -/
theorem below_then {a w w' : World} (h : Below a.heap.size a w) (k : Below w.heap.size w w') : Below a.heap.size a w' := h.trans (k.mono h.size)
theorem below_grown {a w w' : World} {g : Nat} (h : Below a.heap.size a w) (hg : w.grownBy w' (some g)) (hr : a.heap.size ≤ g) : Below a.heap.size a w' :=
  h.grown hg h.size (by rintro k ⟨⟩; exact hr)
theorem below_alloc {a w : World} (h : Below a.heap.size a w) (o : Obj) : Below a.heap.size a (w.alloc o) := h.alloc h.size o
theorem blk_grown {w w' : World} {g k : Nat} {t : TypeId} {cs : Array Value} (h : Blk w g t cs) (hg : w.grownBy w' (some k)) (hne : g ≠ k) : Blk w' g t cs := h.grown hg (fun e => hne (by injection e))
theorem blk_then {w w' : World} {g : Nat} {t : TypeId} {cs : Array Value} (h : Blk w g t cs) (k : Below w.heap.size w w') : Blk w' g t cs := h.below k h.lt

theorem only_refl (w : World) (row : Option Nat) : w.grownBy w row := World.grownBy.refl w row
theorem only_setCell {a w : World} {g : Nat} (h : a.grownBy w (some g)) {p : Addr} (hp : p.block = g ∨ a.heap.size ≤ p.block) (u : Value) : a.grownBy (w.setCell p u) (some g) :=
  ⟨h.os, h.tape, h.output, by simpa [World.setCell] using h.size, fun i hi hne => (Below.heap_setCell w p u i (by
    rintro rfl
    rcases hp with hp | hp
    · exact hne (by rw [hp])
    · omega)).trans (h.block i hi hne)⟩
theorem only_of_below {a w : World} (h : Below a.heap.size a w) (row : Option Nat) : a.grownBy w row := ⟨h.os, h.tape, h.output, h.size, fun i hi _ => h.block i hi⟩

theorem ret_cell2 {P : Program} {w : World} {g : Nat} {t : TypeId} {cs : Array Value} {fn : Func} {p u : Tmp} {ty : TypeId} (hres : fn.results = #[.cell p ty, .tmp u]) {a : Act} (d : TypeDesc)
    (hp : a.tmps.getD p undef = .pointer (some ⟨g, 0, none⟩)) (hb : Blk w g t cs)
    (hu : P.underlying ty = some d) (hd : (match d with | .struct _ | .array _ _ => true | _ => false) = true) (hi : (P.info? ty).map (·.size) = some cs.size)
    (hdf : a.defers = []) {R : Ending → World → Prop} (hR : R (.returned (.tuple #[.agg cs, a.tmps.getD u undef])) w) : bodyPost P fn R .ret a w := by
  refine bodyPost_ret ?_ hdf hR
  have hl := run_loadVar_row (P := P) w g t ty cs (0, 0) d hb hu hd hi
  have hp' : a.tmps[p]?.getD undef = .pointer (some ⟨g, 0, none⟩) := by simpa using hp
  simp [results, hres, hp', asAddr, hl]

/-- the cells cs lie from offset off on -/
def RowAt (w : World) (b off : Nat) (cs : Array Value) : Prop := ∀ (j : Nat) (v : Value), cs[j]? = some v → w.cell? ⟨b, off + j, none⟩ = some v

theorem RowAt.of_blk {w : World} {g : Nat} {t : TypeId} {cs : Array Value} (h : Blk w g t cs) : RowAt w g 0 cs := fun j v hv => by rw [Nat.zero_add]; exact h.cellv hv
theorem RowAt.keep {w w' : World} {b off : Nat} {cs : Array Value} (h : RowAt w b off cs) (hk : w'.heap[b]? = w.heap[b]?) : RowAt w' b off cs :=
  fun j v hv => (World.cell?_of_block (w := w) hk).trans (h j v hv)

/-- A slice's address A leads to the elements xs, 'size' cells each, below block B (or there are none). -/
def SliceOf {α : Type} (w : World) (B size : Nat) (enc : α → Array Value) (A : Option Addr) (xs : List α) : Prop :=
  xs = [] ∨ ∃ b off, A = some ⟨b, off, none⟩ ∧ b < B ∧ ∀ i (h : i < xs.length), RowAt w b (off + i * size) (enc xs[i])

section
variable {α : Type} {w w' : World} {B B' size : Nat} {enc : α → Array Value} {A : Option Addr} {xs : List α}
theorem SliceOf.nil_ (w : World) (B size : Nat) (enc : α → Array Value) (A : Option Addr) : SliceOf w B size enc A [] := .inl rfl
theorem SliceOf.keep (h : SliceOf w B size enc A xs) (hk : ∀ k, k < B → w'.heap[k]? = w.heap[k]?) : SliceOf w' B size enc A xs := by
  rcases h with h | ⟨b, off, e, hb, hr⟩
  · exact .inl h
  · exact .inr ⟨b, off, e, hb, fun i hi => (hr i hi).keep (hk b hb)⟩
theorem SliceOf.below (h : SliceOf w B size enc A xs) (hb : Below B w w') : SliceOf w' B size enc A xs := h.keep hb.block
theorem SliceOf.more (h : SliceOf w B size enc A xs) (hB : B ≤ B') : SliceOf w B' size enc A xs := by
  rcases h with h | ⟨b, off, e, hb, hr⟩
  · exact .inl h
  · exact .inr ⟨b, off, e, by omega, hr⟩
theorem SliceOf.drew (h : SliceOf w B size enc A xs) : SliceOf w.drew B size enc A xs := h
theorem SliceOf.alloc (h : SliceOf w B size enc A xs) (hB : B ≤ w.heap.size) (o : Obj) : SliceOf (w.alloc o) B size enc A xs :=
  h.keep fun k hk => Below.heap_alloc _ _ _ (by omega)
theorem SliceOf.setCell (h : SliceOf w B size enc A xs) {p : Addr} (hB : B ≤ p.block) (u : Value) : SliceOf (w.setCell p u) B size enc A xs :=
  h.keep fun k hk => Below.heap_setCell _ _ _ _ (by omega)
theorem SliceOf.setRow (h : SliceOf w B size enc A xs) {g : Nat} (hB : B ≤ g) (cs : Array Value) : SliceOf (w.setRow g cs) B size enc A xs :=
  h.keep fun k hk => setRow_other w g k cs (by omega)
theorem SliceOf.grown {row : Option Nat} (h : SliceOf w B size enc A xs) (hg : w.grownBy w' row) (hB : B ≤ w.heap.size) (hr : ∀ g, row = some g → B ≤ g) : SliceOf w' B size enc A xs :=
  h.keep fun k hk => hg.block k (by omega) (fun e => by have := hr _ e.symm; omega)
theorem SliceOf.at_ (h : SliceOf w B size enc A xs) (hn : 0 < xs.length) : ∃ b off, A = some ⟨b, off, none⟩ ∧ b < B ∧ ∀ i (hi : i < xs.length), RowAt w b (off + i * size) (enc xs[i]) := by
  rcases h with rfl | h
  · simp at hn
  · exact h
theorem SliceOf.take (h : SliceOf w B size enc A xs) (n : Nat) : SliceOf w B size enc A (xs.take n) := by
  rcases h with rfl | ⟨b, off, e, hb, hr⟩
  · exact .inl (by simp)
  · refine .inr ⟨b, off, e, hb, fun i hi => ?_⟩
    simp only [List.length_take] at hi
    rw [List.getElem_take]
    exact hr i (by omega)
end

/-- a load of a whole struct or array out of a row of cells -/
theorem run_loadVar_at {P : Program} (w : World) (b off : Nat) (ty : TypeId) (cs : Array Value) (d : TypeDesc) (hr : RowAt w b off cs)
    (hu : P.underlying ty = some d) (hd : (match d with | .struct _ | .array _ _ => true | _ => false) = true) (hi : (P.info? ty).map (·.size) = some cs.size) :
    (loadVar ty ⟨b, off, none⟩).run P w = .ok (.agg cs) w := by
  have hl : (loadCells ⟨b, off, none⟩ cs.toList.length).run P w = .ok cs.toList.toArray w :=
    run_loadCells_list (P := P) w ⟨b, off, none⟩ cs.toList (fun j v hv => by
      have hadd : (⟨b, off, none⟩ : Addr).add j = ⟨b, off + j, none⟩ := by unfold Addr.add; split <;> simp_all
      rw [hadd]
      exact hr j v (by simpa using hv))
  cases hq : P.info? ty with
  | none => simp [hq] at hi
  | some i =>
    have hs : i.size = cs.size := by simpa [hq] using hi
    have hagg : (isAgg ty).run P w = .ok true w := by
      unfold isAgg
      rw [Sem.run_bind, run_underlying hu w]
      cases d <;> simp_all
    simp only [Array.length_toList, Array.toArray_toList] at hl
    simp [loadVar, Sem.run_bind, hagg, sizeOf, typeInfo, hq, hs, hl]

theorem wp_load_at {P : Program} {o : Oper} {a : Act} {w : World} {K : Act → World → Prop} {Q : Exit → Act → World → Prop} (ty : TypeId) (x : Operand) (ho : o.op = .load ty x)
    (b off : Nat) (hx : a.eval x = .pointer (some ⟨b, off, none⟩)) (cs : Array Value) (d : TypeDesc) (hr : RowAt w b off cs)
    (hu : P.underlying ty = some d) (hd : (match d with | .struct _ | .array _ _ => true | _ => false) = true) (hi : (P.info? ty).map (·.size) = some cs.size)
    (h : K (a.put o.dst (.agg cs)) w) : o.wp P a w K Q := by
  unfold Oper.wp execOp
  simp only [ho, hx, Instr.loadAt, Instr.sureAddr, Sem.run_bind, Sem.run_pure, Result.andThen_ok, run_loadVar_at w b off ty cs d hr hu hd hi]
  exact h

theorem wpList_load_at {P : Program} {ops : Array Oper} {rest : List Oper} {o : Oper} {a : Act} {w : World} {Q : Exit → Act → World → Prop} (hgd : o.guard = none) (ty : TypeId) (x : Operand) (ho : o.op = .load ty x)
    (b off : Nat) (hx : a.eval x = .pointer (some ⟨b, off, none⟩)) (cs : Array Value) (d : TypeDesc) (hr : RowAt w b off cs)
    (hu : P.underlying ty = some d) (hd : (match d with | .struct _ | .array _ _ => true | _ => false) = true) (hi : (P.info? ty).map (·.size) = some cs.size)
    (h : wpList P ops Q rest (a.put o.dst (.agg cs)) w) : wpList P ops Q (o :: rest) a w :=
  wpList_plain hgd fun _ hK => wp_load_at ty x ho b off hx cs d hr hu hd hi (hK _ _ h)

/-- a store of one cell into a block known whole: the world behind it is a new name -/
theorem wp_store_cell {P : Program} {o : Oper} {a : Act} {w : World} {K : Act → World → Prop} {Q : Exit → Act → World → Prop} (ty : TypeId) (x y : Operand) (ho : o.op = .store ty x y)
    (g i : Nat) (v : Value) (hx : a.eval x = .pointer (some ⟨g, i, none⟩)) (hy : a.eval y = v) (t : TypeId) (cs : Array Value) (hb : Blk w g t cs)
    (hv : v.cells = #[v]) (h1 : v.oneCell' = true) (hi : i < cs.size) (hsz : (P.info? ty).map (·.size) = some 1)
    (h : ∀ w', Blk w' g t (cs.setIfInBounds i v) → w.grownBy w' (some g) → K (a.put o.dst undef) w') : o.wp P a w K Q := by
  have hcell : w.cell? ⟨g, i, none⟩ = some cs[i] := hb.cellv (Array.getElem?_eq_getElem hi)
  have hfr := hb.frozen i
  have hrun : (storeVar ty ⟨g, i, none⟩ v).run P w = .ok () (w.setCell ⟨g, i, none⟩ v) := by
    cases hq : P.info? ty with
    | none => simp [hq] at hsz
    | some j =>
      have hs : j.size = 1 := by simpa [hq] using hsz
      have e := run_store P w ⟨g, i, none⟩ v .plain h1
      simp only [hcell, hfr, Bool.false_eq_true, if_false] at e
      have e0 : (⟨g, i, none⟩ : Addr).add 0 = ⟨g, i, none⟩ := rfl
      simp [storeVar, sizeOf, typeInfo, hq, hs, hv, storeCells, e0, e]
  unfold Oper.wp execOp
  simp only [ho, hx, hy, Instr.storeAt, Instr.sureAddr, Sem.run_bind, Sem.run_pure, Result.andThen_ok, hrun]
  exact h _ (hb.set_ i v) (only_setCell (only_refl _ _) (.inl rfl) _)
theorem wl_store_cell {P : Program} {ops : Array Oper} {rest : List Oper} {o : Oper} {a : Act} {w : World} {Q : Exit → Act → World → Prop} (hgd : o.guard = none) (ty : TypeId) (x y : Operand) (ho : o.op = .store ty x y)
    (g i : Nat) (hx : a.eval x = .pointer (some ⟨g, i, none⟩)) (t : TypeId) (cs cs' : Array Value) (hb : Blk w g t cs) (hi : i < cs.size) (hsz : (P.info? ty).map (·.size) = some 1)
    (hv : (a.eval y).cells = #[a.eval y]) (h1 : (a.eval y).oneCell' = true) (he : cs.setIfInBounds i (a.eval y) = cs')
    (h : ∀ w', Blk w' g t cs' → w.grownBy w' (some g) → wpList P ops Q rest (a.put o.dst undef) w') : wpList P ops Q (o :: rest) a w :=
  wpList_plain hgd fun _ hK => wp_store_cell ty x y ho g i _ hx rfl t cs hb hv h1 hi hsz fun w' h1 h2 => hK _ _ (h w' (he ▸ h1) h2)

theorem only_setRow {a w : World} {g : Nat} (h : a.grownBy w (some g)) (cs : Array Value) : a.grownBy (w.setRow g cs) (some g) :=
  ⟨h.os, h.tape, h.output, by simpa using h.size, fun i hi hne => (setRow_other w g i cs (fun e => hne (by rw [e]))).trans (h.block i hi hne)⟩

end Go.Proofs.YtjplgcmfifoefaaGreatDoor
namespace Go.Proofs.YtjplgcmfifoefaaGreatDoor
open Go.RowKit
set_option linter.unusedVariables false
set_option linter.unusedSimpArgs false

theorem addr_add (b off j : Nat) : (⟨b, off, none⟩ : Addr).add j = ⟨b, off + j, none⟩ := by unfold Addr.add; split <;> simp_all
def flat {α : Type} (enc : α → Array Value) (ys : List α) : List Value := ys.flatMap fun y => (enc y).toList
section
variable {α : Type} {enc : α → Array Value} {size : Nat}
theorem flat_append (xs ys : List α) : flat enc (xs ++ ys) = flat enc xs ++ flat enc ys := by simp [flat]
theorem flat_length (hs : ∀ y, (enc y).size = size) (ys : List α) : (flat enc ys).length = ys.length * size := by
  induction ys with
  | nil => simp [flat]
  | cons y ys ih =>
    have : flat enc (y :: ys) = (enc y).toList ++ flat enc ys := rfl
    rw [this, List.length_append, ih, List.length_cons, Nat.add_mul]
    simp [hs]; omega
theorem flat_at (hs : ∀ y, (enc y).size = size) : ∀ (ys : List α) (i q : Nat) (hi : i < ys.length), q < size → (flat enc ys)[i * size + q]? = (enc ys[i])[q]? := by
  intro ys
  induction ys with
  | nil => intro i q hi; simp at hi
  | cons y ys ih =>
    intro i q hi hq
    have hf : flat enc (y :: ys) = (enc y).toList ++ flat enc ys := rfl
    have hy : (enc y).toList.length = size := by simp [hs]
    rw [hf]
    rcases i with _ | i
    · rw [List.getElem?_append_left (by simp [hs]; omega)]
      simp
    · have e1 : (i + 1) * size + q = size + (i * size + q) := by rw [Nat.add_mul]; omega
      rw [e1, List.getElem?_append_right (by omega), hy, show size + (i * size + q) - size = i * size + q by omega, ih i q (by simpa using hi) hq]
      simp
theorem flat_set (hs : ∀ y, (enc y).size = size) : ∀ (ys : List α) (i q : Nat) (u : Value) (y' : α) (hi : i < ys.length), q < size → (enc y').toList = (enc ys[i]).toList.set q u → (flat enc ys).set (i * size + q) u = flat enc (ys.set i y') := by
  intro ys
  induction ys with
  | nil => intro i q u y' hi; simp at hi
  | cons y ys ih =>
    intro i q u y' hi hq he
    have hf : flat enc (y :: ys) = (enc y).toList ++ flat enc ys := rfl
    have hy : (enc y).toList.length = size := by simp [hs]
    rw [hf]
    rcases i with _ | i
    · simp only [List.getElem_cons_zero] at he
      rw [List.set_append_left _ _ (by simp [hs]; omega), List.set_cons_zero]
      have : flat enc (y' :: ys) = (enc y').toList ++ flat enc ys := rfl
      rw [this, he]
      simp
    · have e1 : (i + 1) * size + q = size + (i * size + q) := by rw [Nat.add_mul]; omega
      rw [e1, List.set_append_right _ _ (by omega), hy, show size + (i * size + q) - size = i * size + q by omega, List.set_cons_succ]
      have : flat enc (y :: ys.set i y') = (enc y).toList ++ flat enc (ys.set i y') := rfl
      rw [this, ih i q u y' (by simpa using hi) hq (by simpa using he)]
end

/-- The slice value v owns, in a block from base on, the elements ys. -/
def Own {α : Type} (w : World) (base : Nat) (e : TypeId) (size : Nat) (enc : α → Array Value) (v : Value) (ys : List α) : Prop := w.ownsRow base e size v ys.length (flat enc ys)

section
variable {α : Type} {enc : α → Array Value} {size base : Nat} {e : TypeId} {w w' : World} {v : Value} {ys : List α}
theorem Own.nil_ (w : World) (base : Nat) (e : TypeId) (size : Nat) (enc : α → Array Value) : Own w base e size enc (.slice none 0 0) ([] : List α) := World.ownsRow_nil _ _ _ _
theorem Own.then_ (h : Own w base e size enc v ys) (hb : Below w.heap.size w w') : Own w' base e size enc v ys :=
  World.ownsRow.kept h (only_of_below hb none) (by cases hv : v.ownBlock <;> simp)
theorem Own.drew (h : Own w base e size enc v ys) : Own w.drew base e size enc v ys := World.ownsRow.drew h
theorem Own.alloc (h : Own w base e size enc v ys) (o : Obj) : Own (w.alloc o) base e size enc v ys := World.ownsRow.alloc h o
theorem Own.grown {k : Nat} (h : Own w base e size enc v ys) (hg : w.grownBy w' (some k)) (hne : v.ownBlock ≠ some k) : Own w' base e size enc v ys :=
  World.ownsRow.kept h hg (.inr hne)
theorem Own.mono {base' : Nat} (h : Own w base e size enc v ys) (hb : base' ≤ base) : Own w base' e size enc v ys := by
  obtain ⟨h1, h2⟩ := h
  refine ⟨h1, ?_⟩
  rcases h2 with h2 | ⟨g, cap, cur, hv, hg, r⟩
  · exact .inl h2
  · exact .inr ⟨g, cap, cur, hv, by omega, r⟩
theorem Own.lt (h : Own w base e size enc v ys) : ∀ k, v.ownBlock = some k → base ≤ k ∧ k < w.heap.size := World.ownsRow.lt h
/-- what it looks like where it holds an element -/
theorem Own.form (h : Own w base e size enc v ys) (hn : 0 < ys.length) : ∃ g cap, v = .slice (some ⟨g, 0, none⟩) ys.length cap ∧ base ≤ g ∧ g < w.heap.size ∧ ys.length ≤ cap ∧ cap ≤ maxLen := by
  rcases h.2 with ⟨_, h0⟩ | ⟨g, cap, cur, hv, hb, hh, hc, hm, _⟩
  · omega
  · refine ⟨g, cap, hv, hb, ?_, hc, hm⟩
    rcases Nat.lt_or_ge g w.heap.size with h1 | h1
    · exact h1
    · rw [Array.getElem?_eq_none h1] at hh; cases hh
/-- nil or not: as a slice value of this length -/
theorem Own.shape (h : Own w base e size enc v ys) : ∃ A c, v = .slice A ys.length c ∧ ys.length ≤ c ∧ c ≤ maxLen := by
  rcases h.2 with ⟨hv, h0⟩ | ⟨g, cap, cur, hv, hb, hh, hc, hm, _⟩
  · exact ⟨none, 0, by rw [hv, h0], by omega, by unfold maxLen; omega⟩
  · exact ⟨_, cap, hv, hc, hm⟩
theorem Own.len {a : Addr} {n cap : Nat} (h : Own w base e size enc (.slice (some a) n cap) ys) : n = ys.length := by
  rcases h.2 with ⟨hv, _⟩ | ⟨g, cap', cur, hv, _⟩
  · cases hv
  · injection hv
theorem Own.cap {a : Addr} {n cap : Nat} (h : Own w base e size enc (.slice (some a) n cap) ys) : n ≤ cap ∧ cap ≤ maxLen := by
  rcases h.2 with ⟨hv, _⟩ | ⟨g, cap', cur, hv, _, _, hc, hm, _⟩
  · cases hv
  · injection hv with _ h1 h2
    subst h2
    exact ⟨by omega, hm⟩
theorem Own.row {g n cap : Nat} (hs : ∀ y, (enc y).size = size) (h : Own w base e size enc (.slice (some ⟨g, 0, none⟩) n cap) ys) (i : Nat) (hi : i < ys.length) : RowAt w g (i * size) (enc ys[i]) := by
  obtain rfl := h.len
  intro q u hu
  have hq : q < size := by
    rw [← hs ys[i]]
    rcases Nat.lt_or_ge q (enc ys[i]).size with h1 | h1
    · exact h1
    · rw [Array.getElem?_eq_none h1] at hu; cases hu
  have hlt : i * size + q < ys.length * size := by
    have : (i + 1) * size ≤ ys.length * size := Nat.mul_le_mul_right _ (by omega)
    rw [Nat.add_mul] at this; omega
  rw [World.ownsRow.cellAt h (i * size + q) hlt, flat_at hs ys i q hi hq, hu]
theorem Own.frozen {g n cap : Nat} (h : Own w base e size enc (.slice (some ⟨g, 0, none⟩) n cap) ys) (j : Nat) : w.frozen? ⟨g, j, none⟩ = false := by
  obtain rfl := h.len
  exact World.ownsRow.frozenAt h j
theorem Own.slice {A : Option Addr} {n cap : Nat} (hs : ∀ y, (enc y).size = size) (h : Own w base e size enc (.slice A n cap) ys) (m : Nat) : SliceOf w w.heap.size size enc A (ys.take m) := by
  rcases Nat.eq_zero_or_pos ys.length with h0 | hp
  · exact .inl (by rw [List.eq_nil_of_length_eq_zero h0, List.take_nil])
  · obtain ⟨g, cap', hv, _, hlt, _⟩ := h.form hp
    injection hv with hA hn hc
    subst hA hn hc
    refine .inr ⟨g, 0, rfl, hlt, fun i hi => ?_⟩
    simp only [List.length_take] at hi
    rw [List.getElem_take, Nat.zero_add]
    exact h.row hs i (by omega)
theorem Own.slice_all {A : Option Addr} {n cap : Nat} (hs : ∀ y, (enc y).size = size) (h : Own w base e size enc (.slice A n cap) ys) : SliceOf w w.heap.size size enc A ys := by
  have := h.slice hs ys.length
  rwa [List.take_of_length_le (Nat.le_refl _)] at this
theorem Own.setCell {g n cap i q : Nat} {u : Value} {y' : α} (hs : ∀ y, (enc y).size = size) (h : Own w base e size enc (.slice (some ⟨g, 0, none⟩) n cap) ys) (hi : i < ys.length) (hq : q < size)
    (he : (enc y').toList = (enc ys[i]).toList.set q u) : Own (w.setCell ⟨g, i * size + q, none⟩ u) base e size enc (.slice (some ⟨g, 0, none⟩) n cap) (ys.set i y') := by
  obtain rfl := h.len
  have h1 := World.ownsRow.stored h (i * size + q) u
  rw [flat_set hs ys i q u y' hi hq he] at h1
  unfold Own
  rw [List.length_set]
  exact h1.1
end

section
variable {P : Program} (w : World)
theorem run_append_none (base : Nat) (t ty e : TypeId) (i : TypeInfo) (ht : P.underlying t = some (.slice e)) (hi : P.info? e = some i) (size : Nat)
    (v : Value) (n : Nat) (xs : List Value) (hown : w.ownsRow base e size v n xs) (c : Nat) : (Builtin.append_ #[t, t] ty #[v, .slice none 0 c]).run P w = .ok v w := by
  rcases hown.2 with ⟨rfl, rfl⟩ | ⟨g, cap, cur, rfl, _, _, hnc, _⟩
  · simp [Builtin.append_, run_underlying ht, sizeOf, typeInfo, hi, Builtin.lenOf, Builtin.firstCells]
  · simp [Builtin.append_, run_underlying ht, sizeOf, typeInfo, hi, Builtin.lenOf, Builtin.firstCells, hnc, storeCells]

/-- append of a slice (nil, empty or not) onto a row of the call's own -/
theorem run_append_slice {α : Type} {enc : α → Array Value} (base : Nat) (t ty e : TypeId) (i : TypeInfo) (z : Value) (size bytes : Nat) (ht : P.underlying t = some (.slice e)) (hi : P.info? e = some i) (hz : i.zero = some z)
    (hsize : i.size = size) (hby : i.bytes = bytes) (hzs : z.cells.size = size) (hsz : 0 < size) (hs : ∀ y, (enc y).size = size) (h1 : ∀ y, (enc y).all (·.oneCell') = true)
    (v : Value) (xs : List α) (hown : Own w base e size enc v xs) (B : Nat) (A : Option Addr) (m c : Nat) (ys : List α) (hm : m = ys.length) (hr : SliceOf w B size enc A ys)
    (h63 : xs.length + m ≤ maxLen) (hbytes : (xs.length + m) * bytes ≤ 140737488355328) (hbase : base ≤ w.heap.size) :
    ∃ v' w', (Builtin.append_ #[t, t] ty #[v, .slice A m c]).run P w = .ok v' w' ∧ Own w' base e size enc v' (xs ++ ys) ∧ w.grownBy w' v.ownBlock ∧ (v'.ownBlock = v.ownBlock ∨ v'.ownBlock = some w.heap.size) := by
  subst hm
  rcases A with _ | ad
  · have hm : ys = [] := by
      rcases hr with h | ⟨b, off, h, _⟩
      · exact h
      · cases h
    subst hm
    exact ⟨v, w, run_append_none w base t ty e i ht hi size v _ _ hown c, by simpa using hown, World.grownBy.refl w _, .inl rfl⟩
  · have hcells : ∀ j u, (flat enc ys)[j]? = some u → w.cell? (ad.add j) = some u := by
      intro j u hu
      have hj : j < ys.length * size := by
        rw [← flat_length hs]
        rcases Nat.lt_or_ge j (flat enc ys).length with h | h
        · exact h
        · rw [List.getElem?_eq_none h] at hu; cases hu
      have hpos : 0 < ys.length := by
        rcases Nat.eq_zero_or_pos ys.length with h0 | h0
        · rw [h0, Nat.zero_mul] at hj; omega
        · exact h0
      obtain ⟨b, off, e1, _, hrow⟩ := hr.at_ hpos
      injection e1 with e1
      subst e1
      have hdm : j = j / size * size + j % size := by rw [Nat.mul_comm]; exact (Nat.div_add_mod _ _).symm
      have hi2 : j / size < ys.length := Nat.div_lt_of_lt_mul (by rw [Nat.mul_comm]; exact hj)
      have hq : j % size < size := Nat.mod_lt _ hsz
      have hu' : (enc ys[j / size])[j % size]? = some u := by
        rw [← flat_at hs ys _ _ hi2 hq, ← hdm]; exact hu
      have := hrow _ hi2 _ _ hu'
      rw [addr_add]
      rw [show off + j / size * size + j % size = off + j by omega] at this
      exact this
    have hone : ∀ u ∈ flat enc ys, u.oneCell' = true := by
      intro u hu
      simp only [flat, List.mem_flatMap] at hu
      obtain ⟨y, _, hy⟩ := hu
      exact (Array.all_eq_true_iff_forall_mem.1 (h1 y)) u (by simpa using hy)
    obtain ⟨v', w', hrun, h2, h3, _, h5⟩ := run_append_own_at (P := P) w base t ty e i z size bytes ht hi hz hsize hby hzs hsz v xs.length (flat enc xs) hown ad ys.length c (flat enc ys) (flat_length hs ys) hcells hone h63 hbytes hbase
    refine ⟨v', w', hrun, ?_, h3, h5⟩
    unfold Own
    rw [flat_append, List.length_append]
    exact h2

theorem wl_append {α : Type} {enc : α → Array Value} {ops : Array Oper} {rest : List Oper} {o : Oper} {a : Act} {Q : Exit → Act → World → Prop} (hgd : o.guard = none) (s x : Operand) (t : TypeId)
    (ho : o.op = .call { callee := .builtin .append, args := #[s, x], argTypes := #[t, t] })
    (base : Nat) (e : TypeId) (i : TypeInfo) (z : Value) (size bytes : Nat) (ht : P.underlying t = some (.slice e)) (hi : P.info? e = some i) (hz : i.zero = some z)
    (hsize : i.size = size) (hby : i.bytes = bytes) (hzs : z.cells.size = size) (hsz : 0 < size) (hs : ∀ y, (enc y).size = size) (h1 : ∀ y, (enc y).all (·.oneCell') = true)
    (v : Value) (xs : List α) (hv : a.eval s = v) (hown : Own w base e size enc v xs) (B : Nat) (A : Option Addr) (m c : Nat) (ys : List α) (hx : a.eval x = .slice A m c) (hm : m = ys.length) (hr : SliceOf w B size enc A ys)
    (h63 : xs.length + m ≤ maxLen) (hbytes : (xs.length + m) * bytes ≤ 140737488355328) (hbase : base ≤ w.heap.size)
    (h : ∀ v' w', Own w' base e size enc v' (xs ++ ys) → w.grownBy w' v.ownBlock → (v'.ownBlock = v.ownBlock ∨ v'.ownBlock = some w.heap.size) → wpList P ops Q rest (a.put o.dst v') w') : wpList P ops Q (o :: rest) a w := by
  obtain ⟨v', w', hrun, h2, h3, h4⟩ := run_append_slice (P := P) w base t o.type e i z size bytes ht hi hz hsize hby hzs hsz hs h1 v xs hown B A m c ys hm hr h63 hbytes hbase
  refine wpList_plain hgd fun _ hK => ?_
  unfold Oper.wp execOp
  simp only [ho, resolve, invoke, builtin, Sem.run_bind, Sem.run_pure, Result.andThen_ok, List.map_toArray, List.map_cons, List.map_nil, hv, hx, hrun]
  exact hK _ _ (h v' w' h2 h3 h4)
end
theorem below_own {a w w' : World} {v : Value} (h : Below a.heap.size a w) (hg : w.grownBy w' v.ownBlock) (hb : ∀ k, v.ownBlock = some k → a.heap.size ≤ k) : Below a.heap.size a w' :=
  h.grown hg h.size hb
/-- one element in a block of its own -/
theorem slice_one {α : Type} {enc : α → Array Value} {w : World} {t : TypeId} {g size : Nat} {y : α} (h : Blk w g t (enc y)) : SliceOf w w.heap.size size enc (some ⟨g, 0, none⟩) [y] := by
  refine .inr ⟨g, 0, rfl, h.lt, fun i hi => ?_⟩
  have : i = 0 := by simpa using hi
  subst this
  rw [Nat.zero_mul]
  exact RowAt.of_blk h

end Go.Proofs.YtjplgcmfifoefaaGreatDoor
namespace Go.Proofs.YtjplgcmfifoefaaGreatDoor
open Go.RowKit
set_option linter.unusedVariables false
set_option linter.unusedSimpArgs false

abbrev BSet := BitVec 256
def word (x : BSet) (k : Nat) : Nat := (x.extractLsb' (64 * k) 64).toNat
def setC (x : BSet) : Array Value := #[.int .u64 (word x 0), .int .u64 (word x 1), .int .u64 (word x 2), .int .u64 (word x 3)]
def bit (b : Nat) : BSet := BitVec.twoPow 256 b

theorem setC_at (x : BSet) (k : Nat) (h : k < 4) : (setC x)[k]? = some (.int .u64 (word x k)) := by
  unfold setC
  match k, h with
  | 0, _ => rfl
  | 1, _ => rfl
  | 2, _ => rfl
  | 3, _ => rfl
theorem setC_size (x : BSet) : (setC x).size = 4 := rfl
def line : BSet := bit 10
end Go.Proofs.YtjplgcmfifoefaaGreatDoor
namespace Go.Proofs.YtjplgcmfifoefaaGreatDoor
open Go.RowKit
set_option linter.unusedVariables false
set_option linter.unusedSimpArgs false

theorem follows_mixed : Tryz.prog.follows .mixedOrders = true := by kernel_rfl
section
variable {ops : Array Oper} {rest : List Oper} {o : Oper} {a : Act} {w : World} {Q : Exit → Act → World → Prop}
end

end Go.Proofs.YtjplgcmfifoefaaGreatDoor
namespace Go.Proofs.YtjplgcmfifoefaaGreatDoor
open Go.RowKit
set_option linter.unusedVariables false
set_option linter.unusedSimpArgs false

def words (x : BSet) : List Int := [(word x 0 : Int), (word x 1 : Int), (word x 2 : Int), (word x 3 : Int)]
end Go.Proofs.YtjplgcmfifoefaaGreatDoor
namespace Go.Proofs.YtjplgcmfifoefaaGreatDoor
open Go.RowKit
set_option linter.unusedVariables false
set_option linter.unusedSimpArgs false

structure Edg where
  kd : Int
  fr : Int
  tt : Int
  st : BSet
deriving DecidableEq
def edgC (e : Edg) : Array Value := #[.int .i64 e.kd, .int .i64 e.fr, .int .i64 e.tt, .int .u64 (word e.st 0), .int .u64 (word e.st 1), .int .u64 (word e.st 2), .int .u64 (word e.st 3)]
theorem edgC_st (e : Edg) (k : Nat) (h : k < 4) : (edgC e)[3 + k]? = some (.int .u64 (word e.st k)) := by
  match k, h with
  | 0, _ => rfl
  | 1, _ => rfl
  | 2, _ => rfl
  | 3, _ => rfl
theorem RowAt.kd {w : World} {b off : Nat} {e : Edg} (h : RowAt w b off (edgC e)) : w.cell? ⟨b, off, none⟩ = some (.int .i64 e.kd) := h 0 _ rfl
theorem RowAt.fr {w : World} {b off : Nat} {e : Edg} (h : RowAt w b off (edgC e)) : w.cell? ⟨b, off + 1, none⟩ = some (.int .i64 e.fr) := h 1 _ rfl
theorem RowAt.tt {w : World} {b off : Nat} {e : Edg} (h : RowAt w b off (edgC e)) : w.cell? ⟨b, off + 2, none⟩ = some (.int .i64 e.tt) := h 2 _ rfl
theorem RowAt.st {w : World} {b off : Nat} {e : Edg} (h : RowAt w b off (edgC e)) : RowAt w b (off + 3) (setC e.st) := by
  intro j v hv
  have hj : j < 4 := by
    rcases Nat.lt_or_ge j 4 with h1 | h1
    · exact h1
    · rw [Array.getElem?_eq_none (by rw [setC_size]; exact h1)] at hv; cases hv
  rw [setC_at e.st j hj] at hv
  rw [Nat.add_assoc]
  exact h (3 + j) v ((edgC_st e j hj).trans hv)
theorem Blk.st {w : World} {g : Nat} {t : TypeId} {e : Edg} (h : Blk w g t (edgC e)) : RowAt w g 3 (setC e.st) := by
  have := (RowAt.of_blk h).st
  rwa [Nat.zero_add] at this
section
variable {ops : Array Oper} {rest : List Oper} {o : Oper} {a : Act} {w : World} {Q : Exit → Act → World → Prop}
end

end Go.Proofs.YtjplgcmfifoefaaGreatDoor
namespace Go.Proofs.YtjplgcmfifoefaaGreatDoor
open Go.RowKit
set_option linter.unusedVariables false
set_option linter.unusedSimpArgs false
set_option linter.unnecessarySimpa false

/-- what an operation answers: a word on the value and the memory, which growth leaves standing -/
structure GSpec where
  p : Value → World → Prop
  st : ∀ (v : Value) (w w' : World), p v w → Below w.heap.size w w' → p v w'
def eqS (v : Value) : GSpec := ⟨fun u _ => u = v, fun _ _ _ h _ => h⟩
def anyS : GSpec := ⟨fun _ _ => True, fun _ _ _ h _ => h⟩
def specAt (l : List GSpec) (i : Nat) : GSpec := l.getD i anyS

def headDsts (ops : Array Oper) (n : Nat) : List Nat := (ops.toList.take n).filterMap (·.dst)
def noDup : List Nat → Bool
  | [] => true
  | a :: l => !l.contains a && noDup l
def headTrue (n g : Nat) : Array Bool := (List.replicate n true ++ List.replicate g false).toArray
def growB (ops : Array Oper) (n size : Nat) : Bool :=
  decide (n ≤ ops.size) && noDup (headDsts ops n) && (headDsts ops n).all (fun d => decide (d < size)) &&
  (List.range n).all (fun i => match ops[i]? with | some o => o.after.all fun e => !Region.binds .any e || decide (e.on < i) | none => false) &&
  (decide (n = ops.size) || (Region.sinkB .any ops n && Region.chainB .any ops n)) && Region.seqB .any ops (ops.size - n) n (headTrue n (ops.size - n))

/-- the answer of operation j stands -/
def opOk (ops : Array Oper) (S : Nat → GSpec) (a : Act) (w : World) (j : Nat) : Prop := ∀ d, (ops[j]?).bind (·.dst) = some d → (S j).p (a.tmps.getD d undef) w

structure GBase (ops : Array Oper) (n : Nat) (a0 a : Act) : Prop where
  defers : a.defers = a0.defers
  size : a.tmps.size = a0.tmps.size
  other : ∀ t, (headDsts ops n).contains t = false → a.tmps.getD t undef = a0.tmps.getD t undef

def GK (S : Nat → GSpec) (i : Nat) (o : Oper) (a : Act) (w : World) : Act → World → Prop := fun a' w' => ∃ v, a' = a.put o.dst v ∧ Below w.heap.size w w' ∧ (S i).p v w'
def GStep (P : Program) (ops : Array Oper) (S : Nat → GSpec) (Q : Exit → Act → World → Prop) (i : Nat) (o : Oper) (a : Act) (w : World) : Prop :=
  if Region.wanted o (yielded ops a.tmps) = true then o.wp P a w (GK S i o a w) Q else (S i).p undef w

theorem put_getD_same {a : Act} {d : Nat} {v : Value} (h : d < a.tmps.size) : (a.put (some d) v).tmps.getD d undef = v := by simp [Act.put, h]
theorem put_getD_ne {a : Act} {d t : Nat} {v : Value} (h : d ≠ t) : (a.put (some d) v).tmps.getD t undef = a.tmps.getD t undef := by
  simp [Act.put, Array.getElem?_setIfInBounds_ne h]
theorem put_size {a : Act} {d : Option Tmp} {v : Value} : (a.put d v).tmps.size = a.tmps.size := by cases d <;> simp [Act.put]
theorem put_defers {a : Act} {d : Option Tmp} {v : Value} : (a.put d v).defers = a.defers := by cases d <;> simp [Act.put]

theorem noDup_spec : ∀ (l : List Oper), noDup (l.filterMap (·.dst)) = true → ∀ (i j : Nat) (oi oj : Oper) (d : Nat), l[i]? = some oi → l[j]? = some oj → oi.dst = some d → oj.dst = some d → i = j
  | [], _, i, j, oi, oj, d, hi, _, _, _ => by simp at hi
  | o :: l, h, i, j, oi, oj, d, hi, hj, hdi, hdj => by
    have mem : ∀ (k : Nat) (ok : Oper), l[k]? = some ok → ok.dst = some d → d ∈ l.filterMap (·.dst) := fun k ok hk hd =>
      List.mem_filterMap.2 ⟨ok, List.mem_of_getElem? hk, hd⟩
    cases ho : o.dst with
    | none =>
      rw [List.filterMap_cons, ho] at h
      rcases i with _ | i
      · simp only [List.getElem?_cons_zero, Option.some.injEq] at hi; subst hi; rw [ho] at hdi; cases hdi
      · rcases j with _ | j
        · simp only [List.getElem?_cons_zero, Option.some.injEq] at hj; subst hj; rw [ho] at hdj; cases hdj
        · rw [List.getElem?_cons_succ] at hi hj
          rw [noDup_spec l h i j oi oj d hi hj hdi hdj]
    | some e =>
      rw [List.filterMap_cons, ho] at h
      simp only [noDup, Bool.and_eq_true, Bool.not_eq_true'] at h
      rcases i with _ | i
      · simp only [List.getElem?_cons_zero, Option.some.injEq] at hi; subst hi
        rw [hdi] at ho; injection ho with ho; subst ho
        rcases j with _ | j
        · rfl
        · rw [List.getElem?_cons_succ] at hj
          have := mem j oj hj hdj
          have h1 := h.1
          rw [List.contains_eq_mem] at h1
          simp [this] at h1
      · rcases j with _ | j
        · simp only [List.getElem?_cons_zero, Option.some.injEq] at hj; subst hj
          rw [hdj] at ho; injection ho with ho; subst ho
          rw [List.getElem?_cons_succ] at hi
          have := mem i oi hi hdi
          have h1 := h.1
          rw [List.contains_eq_mem] at h1
          simp [this] at h1
        · rw [List.getElem?_cons_succ] at hi hj
          rw [noDup_spec l h.2 i j oi oj d hi hj hdi hdj]

structure GInv (ops : Array Oper) (n : Nat) (S : Nat → GSpec) (a0 : Act) (W0 : World) (listed : Array Bool) (a : Act) (w : World) : Prop where
  head : HeadInv .any ops n listed
  base : GBase ops n a0 a
  below : Below W0.heap.size W0 w
  done : ∀ j, j < n → listed.getD j false = true → opOk ops S a w j

def unl (n : Nat) (listed : Array Bool) : Nat := ((List.range n).filter fun j => !listed.getD j false).length

theorem unl_pos {n i : Nat} {listed : Array Bool} (hi : i < n) (h : listed.getD i false = false) : 0 < unl n listed := by
  unfold unl
  apply List.length_pos_of_mem (a := i)
  simp only [List.mem_filter, List.mem_range]
  exact ⟨hi, by rw [h]; rfl⟩
theorem unl_set {n i : Nat} {listed : Array Bool} (hi : i < n) (hs : i < listed.size) (h : listed.getD i false = false) : unl n (listed.setIfInBounds i true) + 1 = unl n listed := by
  unfold unl
  induction n with
  | zero => omega
  | succ n ih =>
    rw [List.range_succ, List.filter_append, List.filter_append, List.length_append, List.length_append]
    by_cases e : i = n
    · subst e
      have e1 : (List.range i).filter (fun j => !(listed.setIfInBounds i true).getD j false) = (List.range i).filter (fun j => !listed.getD j false) := by
        apply List.filter_congr
        intro j hj
        have : j < i := by simpa using hj
        rw [getD_set_ne false (by omega)]
      rw [e1]
      have e2 : (listed.setIfInBounds i true).getD i false = true := by simp [hs]
      simp only [List.filter_cons, List.filter_nil, e2, h]
      simp
    · have := ih (by omega)
      have e2 : (listed.setIfInBounds i true).getD n false = listed.getD n false := getD_set_ne false e
      simp only [List.filter_cons, List.filter_nil, e2]
      omega

theorem wpAny_grow {P : Program} {ops : Array Oper} {n : Nat} {S : Nat → GSpec} {Q : Exit → Act → World → Prop} {a0 : Act} {W0 : World} (hB : growB ops n a0.tmps.size = true)
    (hstep : ∀ i o, i < n → ops[i]? = some o → ∀ a w, GBase ops n a0 a → Below W0.heap.size W0 w → (∀ e ∈ o.after, Region.binds .any e = true → opOk ops S a w e.on) → GStep P ops S Q i o a w)
    (hend : ∀ a w, GBase ops n a0 a → Below W0.heap.size W0 w → (∀ j, j < n → opOk ops S a w j) → wpList P ops Q (ops.toList.drop n) a w) :
    ∀ (m : Nat) (listed : Array Bool) (a : Act) (w : World), GInv ops n S a0 W0 listed a w → unl n listed = m → wpAny P .any ops Q (m + (ops.size - n)) listed a w := by
  simp only [growB, Bool.and_eq_true, Bool.or_eq_true, decide_eq_true_eq] at hB
  obtain ⟨⟨⟨⟨⟨hn, hdup⟩, hlt⟩, hedge⟩, htail⟩, hseq⟩ := hB
  have hedge' : ∀ i o, i < n → ops[i]? = some o → ∀ e ∈ o.after, Region.binds .any e = true → e.on < i := by
    intro i o hi ho e he hb
    have h1 := List.all_eq_true.1 hedge i (List.mem_range.2 hi)
    simp only [ho] at h1
    have h2 := (Array.all_eq_true_iff_forall_mem.1 h1) e he
    simpa [hb] using h2
  have hready : ∀ (listed : Array Bool) (a : Act) (w : World), GInv ops n S a0 W0 listed a w → 0 < unl n listed → ∀ j ∈ Region.ready .any ops listed, j < n := by
    intro listed a w inv hpos j hj
    rcases htail with he | ⟨hs, hc⟩
    · obtain ⟨_, o, ho, _⟩ := mem_ready.1 hj
      have := (Array.getElem?_eq_some_iff.1 ho).1
      omega
    · rcases Nat.lt_or_ge n ops.size with hlt' | hge
      · unfold unl at hpos
        obtain ⟨i, hi⟩ := List.exists_mem_of_length_pos hpos
        simp only [List.mem_filter, List.mem_range, Bool.not_eq_true'] at hi
        have hun : listed.getD i true = false := getD_in (by rw [inv.head.size]; omega) hi.2
        rcases Nat.lt_or_ge j n with h | h
        · exact h
        · exact absurd hj (tail_waits hs hc hlt' inv.head _ i rfl hi.1 hun j h)
      · obtain ⟨_, o, ho, _⟩ := mem_ready.1 hj
        have := (Array.getElem?_eq_some_iff.1 ho).1
        omega
  have hne : ∀ (listed : Array Bool) (a : Act) (w : World), GInv ops n S a0 W0 listed a w → 0 < unl n listed → Region.ready .any ops listed ≠ [] := by
    intro listed a w inv hpos hnil
    have hex : ∃ i, i < n ∧ listed.getD i false = false := by
      unfold unl at hpos
      obtain ⟨i, hi⟩ := List.exists_mem_of_length_pos hpos
      simp only [List.mem_filter, List.mem_range, Bool.not_eq_true'] at hi
      exact ⟨i, hi.1, hi.2⟩
    have hmin : ∃ i, i < n ∧ listed.getD i false = false ∧ ∀ k, k < i → listed.getD k false = true := by
      obtain ⟨i, hi, hf⟩ := hex
      clear hpos
      induction i using Nat.strongRecOn with
      | _ i ih =>
        by_cases h : ∃ k, k < i ∧ listed.getD k false = false
        · obtain ⟨k, hk, hkf⟩ := h
          exact ih k hk (by omega) hkf
        · refine ⟨i, hi, hf, fun k hk => ?_⟩
          cases hc : listed.getD k false with
          | true => rfl
          | false => exact absurd ⟨k, hk, hc⟩ h
    obtain ⟨i, hi, hf, hall⟩ := hmin
    have ho : ops[i]? = some ops[i] := Array.getElem?_eq_getElem (by omega)
    have hmem : i ∈ Region.ready .any ops listed := mem_ready.2 ⟨getD_in (by rw [inv.head.size]; omega) hf, _, ho, fun e he hb => hall _ (hedge' i _ hi ho e he hb)⟩
    rw [hnil] at hmem
    cases hmem
  intro m
  induction m with
  | zero =>
    intro listed a w inv hm
    have hall : ∀ j, j < n → listed.getD j false = true := by
      intro j hj
      cases hc : listed.getD j false with
      | true => rfl
      | false => have := unl_pos hj hc; omega
    have hlist : listed = headTrue n (ops.size - n) := by
      have hsz := inv.head.size
      apply Array.ext
      · simp [headTrue, hsz]; omega
      · intro j h1 h2
        have hj : j < ops.size := by rw [← hsz]; exact h1
        simp only [headTrue, List.getElem_toArray, List.getElem_append, List.length_replicate, List.getElem_replicate]
        by_cases hjn : j < n
        · have := hall j hjn
          simp [h1] at this
          simp [hjn, this]
        · have := inv.head.tail j (by omega) hj
          simp [h1] at this
          simp [hjn, this]
    have hw := hend a w inv.base inv.below (fun j hj => inv.done j hj (hall j hj))
    have hdl : (ops.toList.drop n).length = ops.size - n := by simp
    have := wpAny_of_seq (md := .any) (Q' := Q) (ops.toList.drop n) n listed a w (fun j => by simp [List.getElem?_drop]) (by rw [hdl, hlist]; exact hseq) hw
    rw [hdl] at this
    rw [Nat.zero_add]
    exact this
  | succ m ih =>
    intro listed a w inv hm
    rw [show m + 1 + (ops.size - n) = (m + (ops.size - n)) + 1 by omega]
    refine ⟨fun h => absurd h (hne listed a w inv (by omega)), fun i hi => ?_⟩
    have hin := hready listed a w inv (by omega) i hi
    obtain ⟨hun, o, ho, hall⟩ := mem_ready.1 hi
    have hlisted : listed.getD i false = false := getD_both hun
    have hg := hstep i o hin ho a w inv.base inv.below (fun e he hb => inv.done e.on (by have := hedge' i o hin ho e he hb; omega) (hall e he hb))
    have hsz : i < listed.size := by rw [inv.head.size]; omega
    have hnext : ∀ a' w', GK S i o a w a' w' → wpAny P .any ops Q (m + (ops.size - n)) (listed.setIfInBounds i true) a' w' := by
      rintro a' w' ⟨v, rfl, hb, hp⟩
      refine ih _ _ _ ⟨inv.head.set hi hin, ⟨by rw [put_defers]; exact inv.base.defers, by rw [put_size]; exact inv.base.size, fun t ht => ?_⟩, inv.below.trans (hb.mono inv.below.size), fun j hj hl d hd => ?_⟩ (by have := unl_set hin hsz hlisted; omega)
      · cases hd : o.dst with
        | none => exact inv.base.other t ht
        | some d =>
          have hmem : d ∈ headDsts ops n := List.mem_filterMap.2 ⟨o, by
            rw [List.mem_iff_getElem?]
            exact ⟨i, by rw [List.getElem?_take]; simp [hin, ho]⟩, hd⟩
          have hne : d ≠ t := by
            rintro rfl
            rw [List.contains_eq_mem] at ht
            simp [hmem] at ht
          rw [put_getD_ne hne]
          exact inv.base.other t ht
      · by_cases hij : i = j
        · subst hij
          rw [ho] at hd
          simp only [Option.bind_some] at hd
          rw [hd]
          have hmem : d ∈ headDsts ops n := List.mem_filterMap.2 ⟨o, by
            rw [List.mem_iff_getElem?]
            exact ⟨i, by rw [List.getElem?_take]; simp [hin, ho]⟩, hd⟩
          have hdl : d < a.tmps.size := by
            have := List.all_eq_true.1 hlt d hmem
            rw [inv.base.size]; simpa using this
          rw [put_getD_same hdl]
          exact hp
        · rw [getD_set_ne false hij] at hl
          have hold := inv.done j hj hl d hd
          have hkeep : (a.put o.dst v).tmps.getD d undef = a.tmps.getD d undef := by
            cases hod : o.dst with
            | none => rfl
            | some e =>
              apply put_getD_ne
              rintro rfl
              cases hoj : ops[j]? with
              | none => rw [hoj] at hd; cases hd
              | some oj =>
                rw [hoj] at hd
                simp only [Option.bind_some] at hd
                exact hij (noDup_spec _ hdup i j o oj e (by rw [List.getElem?_take]; simp [hin, ho]) (by rw [List.getElem?_take]; simp [hj, hoj]) hod hd)
          rw [hkeep]
          exact (S j).st _ _ _ hold hb
    unfold wpOp
    simp only [ho]
    unfold GStep at hg
    split
    · rename_i hw
      rw [if_pos hw] at hg
      exact .inl (Oper.wp_mono hnext hg)
    · rename_i hw
      rw [if_neg hw] at hg
      exact hnext _ _ ⟨undef, rfl, Below.refl _ _, hg⟩

/-- the frame behind the region: the base with each head slot at some value -/
def putAll (a : Act) (ds : List Nat) (u : Nat → Value) : Act := ds.foldl (fun a d => a.put (some d) (u d)) a
theorem putAll_spec (u : Nat → Value) : ∀ (ds : List Nat) (a : Act), (putAll a ds u).defers = a.defers ∧ (putAll a ds u).tmps.size = a.tmps.size ∧
    ∀ t, (putAll a ds u).tmps.getD t undef = if t ∈ ds ∧ t < a.tmps.size then u t else a.tmps.getD t undef
  | [], a => ⟨rfl, rfl, fun t => by simp [putAll]⟩
  | d :: ds, a => by
    obtain ⟨h1, h2, h3⟩ := putAll_spec u ds (a.put (some d) (u d))
    refine ⟨h1.trans put_defers, h2.trans put_size, fun t => ?_⟩
    rw [show putAll a (d :: ds) u = putAll (a.put (some d) (u d)) ds u from rfl, h3 t, put_size]
    by_cases ht : t < a.tmps.size
    · by_cases hm : t ∈ ds
      · simp [hm, ht]
      · by_cases e : d = t
        · subst e
          rw [if_neg (by simp [hm]), put_getD_same ht, if_pos ⟨by simp, ht⟩]
        · have e' : ¬ t = d := fun h => e h.symm
          rw [put_getD_ne e, if_neg (by simp [hm]), if_neg (by simp [hm, e'])]
    · have h0 : ∀ b : Act, b.tmps.size = a.tmps.size → b.tmps.getD t undef = undef := fun b hb => by
        simp [Array.getElem?_eq_none (xs := b.tmps) (i := t) (by omega)]
      rw [if_neg (by simp [ht]), if_neg (by simp [ht]), h0 _ put_size, h0 _ rfl]
theorem getD_lt {l : Array Value} {t : Nat} (h : t < l.size) : l.getD t undef = l[t] := by simp [h]
theorem act_eq {ops : Array Oper} {n : Nat} {a0 a : Act} (h : GBase ops n a0 a) : a = putAll a0 (headDsts ops n) fun d => a.tmps.getD d undef := by
  obtain ⟨h1, h2, h3⟩ := putAll_spec (fun d => a.tmps.getD d undef) (headDsts ops n) a0
  have ht : a.tmps = (putAll a0 (headDsts ops n) fun d => a.tmps.getD d undef).tmps := by
    apply Array.ext
    · rw [h2, h.size]
    · intro t ht1 ht2
      rw [← getD_lt ht1, ← getD_lt ht2, h3 t]
      by_cases hm : t ∈ headDsts ops n
      · rw [if_pos ⟨hm, by rw [← h.size]; exact ht1⟩]
      · rw [if_neg (fun hh => hm hh.1)]
        exact h.other t (by rw [List.contains_eq_mem]; simp [hm])
  cases a
  cases hh : putAll a0 (headDsts ops n) _
  rw [hh] at ht h1
  simp only [Act.mk.injEq]
  exact ⟨ht, h.defers.trans h1.symm⟩

/-- THE LAW. -/
theorem wp_region_grow {P : Program} {id : Nat} {l : List Oper} {Q : Exit → Act → World → Prop} {a : Act} {w : World} (n : Nat) (S : List GSpec) (hm : P.follows .mixedOrders = true) (hB : growB l.toArray n a.tmps.size = true)
    (hstep : ∀ i o, i < n → l[i]? = some o → ∀ a' w', GBase l.toArray n a a' → Below w.heap.size w w' → (∀ e ∈ o.after, Region.binds .any e = true → opOk l.toArray (specAt S) a' w' e.on) → GStep P l.toArray (specAt S) Q i o a' w')
    (hend : ∀ (u : Nat → Value) w', Below w.heap.size w w' → (∀ j d, j < n → (l[j]?).bind (·.dst) = some d → (specAt S j).p (u d) w') → wpList P l.toArray Q (l.drop n) (putAll a (headDsts l.toArray n) u) w') :
    (Code.region id l.toArray true).wp P Q a w := by
  refine wp_region_any hm ?_
  have hdr : ∀ {x : World}, Below w.heap.size w x → Below w.heap.size w.drew x := fun h => ⟨h.os, h.tape, h.output, h.size, h.block⟩
  have hrd : ∀ {x : World}, Below w.heap.size w.drew x → Below w.heap.size w x := fun h => ⟨h.os, h.tape, h.output, h.size, h.block⟩
  have hn : n ≤ l.length := by
    simp only [growB, Bool.and_eq_true, decide_eq_true_eq] at hB
    simpa using hB.1.1.1.1.1
  have key := wpAny_grow (P := P) (ops := l.toArray) (n := n) (S := specAt S) (Q := Q) (a0 := a) (W0 := w.drew) hB
    (fun i o hi ho a' w' hb hw hd => hstep i o hi (by simpa using ho) a' w' hb (hrd hw) hd)
    (fun a' w' hb hw hd => by
      rw [act_eq hb]
      have := hend (fun d => a'.tmps.getD d undef) w' (hrd hw) (fun j d hj hd' => hd j hj d (by simpa using hd'))
      simpa using this)
    n (Array.replicate l.toArray.size false) a w.drew
    ⟨⟨by simp, fun j oj _ hl => (by rw [getD_replicate_false] at hl; cases hl), fun t _ ht => getD_in (by simpa using ht) (getD_replicate_false _ _)⟩, ⟨rfl, rfl, fun _ _ => rfl⟩, Below.refl _ _, fun j _ hl => (by rw [getD_replicate_false] at hl; cases hl)⟩
    (by
      unfold unl
      rw [List.filter_eq_self.2 (fun j _ => by rw [getD_replicate_false]; rfl), List.length_range])
  rw [show n + (l.toArray.size - n) = l.toArray.size by simp; omega] at key
  exact key

/-- the steps, one behind the other -/
def Steps (P : Program) (ops : Array Oper) (S : Nat → GSpec) (Q : Exit → Act → World → Prop) (n : Nat) (a : Act) (w : World) : List Oper → Nat → Prop
  | [], _ => True
  | o :: l, i => (∀ a' w', GBase ops n a a' → Below w.heap.size w w' → (∀ j, (o.after.toList.any fun e => Region.binds .any e && e.on == j) = true → opOk ops S a' w' j) → GStep P ops S Q i o a' w') ∧ Steps P ops S Q n a w l (i + 1)
theorem Steps.nil {P : Program} {ops : Array Oper} {S : Nat → GSpec} {Q : Exit → Act → World → Prop} {n : Nat} {a : Act} {w : World} {i : Nat} : Steps P ops S Q n a w [] i := trivial
theorem Steps.cons {P : Program} {ops : Array Oper} {S : Nat → GSpec} {Q : Exit → Act → World → Prop} {n : Nat} {a : Act} {w : World} {o : Oper} {l : List Oper} {i : Nat}
    (h : ∀ a' w', GBase ops n a a' → Below w.heap.size w w' → (∀ j, (o.after.toList.any fun e => Region.binds .any e && e.on == j) = true → opOk ops S a' w' j) → GStep P ops S Q i o a' w')
    (hl : Steps P ops S Q n a w l (i + 1)) : Steps P ops S Q n a w (o :: l) i := ⟨h, hl⟩
theorem Steps.at_ {P : Program} {ops : Array Oper} {S : Nat → GSpec} {Q : Exit → Act → World → Prop} {n : Nat} {a : Act} {w : World} : ∀ {l : List Oper} {i : Nat}, Steps P ops S Q n a w l i → ∀ (k : Nat) (o : Oper), l[k]? = some o →
    ∀ a' w', GBase ops n a a' → Below w.heap.size w w' → (∀ j, (o.after.toList.any fun e => Region.binds .any e && e.on == j) = true → opOk ops S a' w' j) → GStep P ops S Q (i + k) o a' w'
  | [], _, _, k, o, hk => by simp at hk
  | o' :: l, i, h, k, o, hk => by
    rcases k with _ | k
    · simp only [List.getElem?_cons_zero, Option.some.injEq] at hk
      subst hk
      exact h.1
    · rw [List.getElem?_cons_succ] at hk
      have := Steps.at_ h.2 k o hk
      rw [show i + (k + 1) = i + 1 + k by omega]
      exact this

/-- THE LAW, as it is used: S the answers, ds the head's slots. -/
theorem wp_region_steps {P : Program} {id : Nat} {l : List Oper} {Q : Exit → Act → World → Prop} {a : Act} {w : World} (n : Nat) (S : List GSpec) (ds : List Nat) (hm : P.follows .mixedOrders = true) (hB : growB l.toArray n a.tmps.size = true)
    (hds : headDsts l.toArray n = ds) (hstep : Steps P l.toArray (specAt S) Q n a w (l.take n) 0)
    (hend : ∀ (u : Nat → Value) w', Below w.heap.size w w' → (∀ j d, j < n → (l[j]?).bind (·.dst) = some d → (specAt S j).p (u d) w') → wpList P l.toArray Q (l.drop n) (putAll a ds u) w') :
    (Code.region id l.toArray true).wp P Q a w := by
  subst hds
  refine wp_region_grow n S hm hB (fun i o hi ho a' w' hb hw hd => ?_) hend
  have := hstep.at_ i o (by rw [List.getElem?_take, if_pos hi]; exact ho) a' w' hb hw (fun j hj => by
    obtain ⟨e, he, hh⟩ := List.any_eq_true.1 hj
    simp only [Bool.and_eq_true, beq_iff_eq] at hh
    rw [← hh.2]
    exact hd e (Array.mem_toList_iff.1 he) hh.1)
  rw [Nat.zero_add] at this
  exact this

/-- the same for a region that goes in the text's order -/
theorem wpList_grow {P : Program} {l : List Oper} {n : Nat} {S : Nat → GSpec} {Q : Exit → Act → World → Prop} {a0 : Act} {W0 : World} (hn : n ≤ l.length) (hdup : noDup (headDsts l.toArray n) = true)
    (hlt : (headDsts l.toArray n).all (fun d => decide (d < a0.tmps.size)) = true)
    (hedge : (List.range n).all (fun i => match l.toArray[i]? with | some o => o.after.all fun e => !Region.binds .any e || decide (e.on < i) | none => false) = true)
    (hstep : ∀ i o, i < n → l[i]? = some o → ∀ a w, GBase l.toArray n a0 a → Below W0.heap.size W0 w → (∀ e ∈ o.after, Region.binds .any e = true → opOk l.toArray S a w e.on) → GStep P l.toArray S Q i o a w)
    (hend : ∀ a w, GBase l.toArray n a0 a → Below W0.heap.size W0 w → (∀ j, j < n → opOk l.toArray S a w j) → wpList P l.toArray Q (l.drop n) a w) :
    ∀ (m k : Nat) (a : Act) (w : World), k + m = n → GBase l.toArray n a0 a → Below W0.heap.size W0 w → (∀ j, j < k → opOk l.toArray S a w j) → wpList P l.toArray Q (l.drop k) a w := by
  intro m
  induction m with
  | zero =>
    intro k a w hk hb hw hd
    obtain rfl : k = n := by omega
    exact hend a w hb hw hd
  | succ m ih =>
    intro k a w hk hb hw hd
    have hkl : k < l.length := by omega
    have ho : l[k]? = some l[k] := List.getElem?_eq_getElem hkl
    have hoA : l.toArray[k]? = some l[k] := by simp
    rw [List.drop_eq_getElem_cons hkl]
    have hed : ∀ e ∈ l[k].after, Region.binds .any e = true → e.on < k := by
      intro e he hbd
      have h1 := List.all_eq_true.1 hedge k (List.mem_range.2 (by omega))
      simp only [hoA] at h1
      have h2 := (Array.all_eq_true_iff_forall_mem.1 h1) e he
      simpa [hbd] using h2
    have hg := hstep k l[k] (by omega) ho a w hb hw (fun e he hbd => hd e.on (hed e he hbd))
    have hnext : ∀ a' w', GK S k l[k] a w a' w' → wpList P l.toArray Q (l.drop (k + 1)) a' w' := by
      rintro a' w' ⟨v, rfl, hbw, hp⟩
      have hmem : ∀ d, l[k].dst = some d → d ∈ headDsts l.toArray n := fun d hd' => List.mem_filterMap.2 ⟨l[k], by
        rw [List.mem_iff_getElem?]
        exact ⟨k, by rw [List.getElem?_take, if_pos (by omega)]; exact ho⟩, hd'⟩
      refine ih (k + 1) _ _ (by omega) ⟨by rw [put_defers]; exact hb.defers, by rw [put_size]; exact hb.size, fun t ht => ?_⟩ (hw.trans (hbw.mono hw.size)) (fun j hj d hdj => ?_)
      · cases hdd : l[k].dst with
        | none => exact hb.other t ht
        | some d =>
          have hne : d ≠ t := by
            rintro rfl
            rw [List.contains_eq_mem] at ht
            simp [hmem d hdd] at ht
          rw [put_getD_ne hne]
          exact hb.other t ht
      · by_cases hkj : k = j
        · subst hkj
          rw [hoA] at hdj
          simp only [Option.bind_some] at hdj
          rw [hdj]
          have hdl : d < a.tmps.size := by
            have := List.all_eq_true.1 hlt d (hmem d hdj)
            rw [hb.size]; simpa using this
          rw [put_getD_same hdl]
          exact hp
        · have hold := hd j (by omega) d hdj
          have hkeep : (a.put l[k].dst v).tmps.getD d undef = a.tmps.getD d undef := by
            cases hod : l[k].dst with
            | none => rfl
            | some e =>
              apply put_getD_ne
              rintro rfl
              cases hoj : l.toArray[j]? with
              | none => rw [hoj] at hdj; cases hdj
              | some oj =>
                rw [hoj] at hdj
                simp only [Option.bind_some] at hdj
                exact hkj (noDup_spec _ hdup k j l[k] oj e (by rw [List.getElem?_take, if_pos (by omega)]; exact ho) (by rw [List.getElem?_take, if_pos (by omega)]; simpa using hoj) hod hdj)
          rw [hkeep]
          exact (S j).st _ _ _ hold hbw
    unfold GStep at hg
    unfold wpList
    split
    · rename_i hwn
      rw [if_pos hwn] at hg
      exact .inl (Oper.wp_mono hnext hg)
    · rename_i hwn
      rw [if_neg hwn] at hg
      exact hnext _ _ ⟨undef, rfl, Below.refl _ _, hg⟩

def textB (ops : Array Oper) (n size : Nat) : Bool :=
  decide (n ≤ ops.size) && noDup (headDsts ops n) && (headDsts ops n).all (fun d => decide (d < size)) &&
  (List.range n).all (fun i => match ops[i]? with | some o => o.after.all fun e => !Region.binds .any e || decide (e.on < i) | none => false)

theorem wp_region_text {P : Program} {id : Nat} {l : List Oper} {Q : Exit → Act → World → Prop} {a : Act} {w : World} (n : Nat) (S : List GSpec) (ds : List Nat) (hB : textB l.toArray n a.tmps.size = true)
    (hds : headDsts l.toArray n = ds) (hstep : Steps P l.toArray (specAt S) Q n a w (l.take n) 0)
    (hend : ∀ (u : Nat → Value) w', Below w.heap.size w w' → (∀ j d, j < n → (l[j]?).bind (·.dst) = some d → (specAt S j).p (u d) w') → wpList P l.toArray Q (l.drop n) (putAll a ds u) w') :
    (Code.region id l.toArray false).wp P Q a w := by
  subst hds
  simp only [textB, Bool.and_eq_true, decide_eq_true_eq] at hB
  refine wp_region_list ?_
  have := wpList_grow (P := P) (l := l) (n := n) (S := specAt S) (Q := Q) (a0 := a) (W0 := w) (by simpa using hB.1.1.1) hB.1.1.2 hB.1.2 hB.2
    (fun i o hi ho a' w' hb hw hd => by
      have := hstep.at_ i o (by rw [List.getElem?_take, if_pos hi]; exact ho) a' w' hb hw (fun j hj => by
        obtain ⟨e, he, hh⟩ := List.any_eq_true.1 hj
        simp only [Bool.and_eq_true, beq_iff_eq] at hh
        rw [← hh.2]
        exact hd e (Array.mem_toList_iff.1 he) hh.1)
      rw [Nat.zero_add] at this
      exact this)
    (fun a' w' hb hw hd => by
      rw [act_eq hb]
      exact hend (fun d => a'.tmps.getD d undef) w' hw (fun j d hj hd' => hd j hj d (by simpa using hd')))
    n 0 a w (by omega) ⟨rfl, rfl, fun _ _ => rfl⟩ (Below.refl _ _) (fun j hj => by omega)
  simpa using this

end Go.Proofs.YtjplgcmfifoefaaGreatDoor
namespace Go.Proofs.YtjplgcmfifoefaaGreatDoor
open Go.RowKit Go.Maps Go.WideMaps
set_option linter.unusedVariables false
set_option linter.unusedSimpArgs false

section
variable {P : Program} {ops : Array Oper} {S : Nat → GSpec} {Q : Exit → Act → World → Prop} {i : Nat} {o : Oper} {a : Act} {w : World}

theorem want_none (h : o.guard = none) : Region.wanted o (yielded ops a.tmps) = true := by simp [Region.wanted, h]
theorem want_yes {g : Nat} {b : Bool} {d : Nat} (h : o.guard = some (g, b)) (hd : (ops[g]?).bind (·.dst) = some d) (hv : a.tmps.getD d undef = .bool b) : Region.wanted o (yielded ops a.tmps) = true := by
  have h1 : a.tmps[d]? = some (.bool b) := by
    cases hh : a.tmps[d]? with
    | none => simp [hh] at hv; cases hv
    | some v => simp [hh] at hv; rw [hv]
  simp [Region.wanted, h, yielded, hd, h1]
theorem want_no {g : Nat} {b : Bool} {d : Nat} (h : o.guard = some (g, !b)) (hd : (ops[g]?).bind (·.dst) = some d) (hv : a.tmps.getD d undef = .bool b) : Region.wanted o (yielded ops a.tmps) = false := by
  have h1 : a.tmps[d]? = some (.bool b) := by
    cases hh : a.tmps[d]? with
    | none => simp [hh] at hv; cases hv
    | some v => simp [hh] at hv; rw [hv]
  simp [Region.wanted, h, yielded, hd, h1]
theorem gs_skip (hw : Region.wanted o (yielded ops a.tmps) = false) (hp : (S i).p undef w) : GStep P ops S Q i o a w := by
  unfold GStep; rw [hw]; exact hp
theorem gs_run (hw : Region.wanted o (yielded ops a.tmps) = true) {v : Value} {w' : World} (hr : (execOp a.eval o).run P w = .ok (.value v) w') (hb : Below w.heap.size w w') (hp : (S i).p v w') : GStep P ops S Q i o a w := by
  unfold GStep
  rw [if_pos hw]
  unfold Oper.wp
  rw [hr]
  exact ⟨v, rfl, hb, hp⟩
theorem gs_move (hw : Region.wanted o (yielded ops a.tmps) = true) (x : Operand) (ho : o.op = .move x) (hp : (S i).p (a.eval x) w) : GStep P ops S Q i o a w :=
  gs_run hw (v := a.eval x) (by unfold execOp; rw [ho]; rfl) (Below.refl _ _) hp
theorem gs_pick (hw : Region.wanted o (yielded ops a.tmps) = true) (c x y : Operand) (ho : o.op = .pick c x y) (b : Bool) (hc : a.eval c = .bool b) (hp : (S i).p (if b then a.eval x else a.eval y) w) : GStep P ops S Q i o a w :=
  gs_run hw (v := if b then a.eval x else a.eval y) (by unfold execOp; rw [ho]; simp only [hc]; rfl) (Below.refl _ _) hp
theorem gs_load (hw : Region.wanted o (yielded ops a.tmps) = true) (ty : TypeId) (x : Operand) (ho : o.op = .load ty x) (g : Nat) (hx : a.eval x = .pointer (some ⟨g, 0, none⟩)) (t : TypeId) (cs : Array Value) (hg : Blk w g t cs) (d : TypeDesc)
    (hu : P.underlying ty = some d) (hd : (match d with | .struct _ | .array _ _ => true | _ => false) = true) (hi : (P.info? ty).map (·.size) = some cs.size) (hp : (S i).p (.agg cs) w) : GStep P ops S Q i o a w :=
  gs_run hw (v := .agg cs) (by unfold execOp; simp only [ho, hx, Instr.loadAt, Instr.sureAddr, Sem.run_bind, Sem.run_pure, Result.andThen_ok, run_loadVar_row w g t ty cs (0, 0) d hg hu hd hi]) (Below.refl _ _) hp
theorem gs_call (hw : Region.wanted o (yielded ops a.tmps) = true) (f : FuncId) (xs : Array Operand) (ats : Array TypeId) (ho : o.op = .call { callee := .value (.func f), args := xs, argTypes := ats })
    (hf : ∀ args w, (callFunc f args).run P w = .ok (.enter f args) w) (vs : Array Value) (hv : xs.map a.eval = vs)
    (hc : Calls P f vs w fun e w' => ∃ v, e = .returned v ∧ Below w.heap.size w w' ∧ (S i).p v w') : GStep P ops S Q i o a w := by
  unfold GStep
  rw [if_pos hw]
  unfold Oper.wp
  have hr : (execOp a.eval o).run P w = .ok (.enter f vs) w := by
    have he : execOp a.eval o = callFunc f (#[] ++ xs.map a.eval ++ #[]) := by
      unfold execOp; rw [ho]; rfl
    rw [he, hv]
    simpa using hf vs w
  rw [hr, Oper.upon_enter]
  refine hc.mono ?_
  rintro e w' ⟨v, rfl, hb, hp⟩
  exact ⟨v, rfl, hb, hp⟩
theorem gs_bin (hw : Region.wanted o (yielded ops a.tmps) = true) (op : BinOp) (t t2 : TypeId) (x y : Operand) (ho : o.op = .binOp op t x y t2) (vx vy v : Value) (hx : a.eval x = vx) (hy : a.eval y = vy)
    (hgd : (eqGuard op t x y vx vy).run P w = .ok () w) (hr : (binOp op t vx vy).run P w = .ok v w) (hp : (S i).p v w) : GStep P ops S Q i o a w :=
  gs_run hw (v := v) (by unfold execOp; simp only [ho, hx, hy, Sem.run_bind, hgd, Result.andThen_ok, hr, Sem.run_pure]) (Below.refl _ _) hp
end

section
variable {ops : Array Oper} {S : Nat → GSpec} {Q : Exit → Act → World → Prop} {i : Nat} {o : Oper} {a : Act} {w : World}
end

theorem map1 {a : Act} {x : Operand} {v : Value} (h : a.eval x = v) : #[x].map a.eval = #[v] := by simp [h]
theorem map2 {a : Act} {x y : Operand} {v u : Value} (h : a.eval x = v) (h2 : a.eval y = u) : #[x, y].map a.eval = #[v, u] := by simp [h, h2]
section
variable {P : Program} {ops : Array Oper} {S : Nat → GSpec} {Q : Exit → Act → World → Prop} {i : Nat} {o : Oper} {a : Act} {w : World}
theorem gs_assign (hw : Region.wanted o (yielded ops a.tmps) = true) (x : Operand) (ho : o.op = .assign x) (hp : (S i).p (a.eval x) w) : GStep P ops S Q i o a w :=
  gs_run hw (v := a.eval x) (by unfold execOp; rw [ho]; rfl) (Below.refl _ _) hp
theorem gs_not_bool (hw : Region.wanted o (yielded ops a.tmps) = true) (t : TypeId) (x : Operand) (ho : o.op = .unOp .not t x) (b : Bool) (hx : a.eval x = .bool b) (hp : (S i).p (.bool (!b)) w) : GStep P ops S Q i o a w :=
  gs_run hw (v := .bool (!b)) (by unfold execOp; simp only [ho, hx]; rfl) (Below.refl _ _) hp
theorem gs_eql_int (hw : Region.wanted o (yielded ops a.tmps) = true) (t t2 : TypeId) (x y : Operand) (ho : o.op = .binOp .eql t x y t2) (k : IntKind) (p q : Int) (hx : a.eval x = .int k p) (hy : a.eval y = .int k q)
    (hp : (S i).p (.bool (p == q)) w) : GStep P ops S Q i o a w :=
  gs_bin hw _ _ _ x y ho _ _ _ hx hy (by rw [eqGuard_at_int]; rfl) (by rw [binOp_eql]; rfl) hp
theorem gs_neq_int (hw : Region.wanted o (yielded ops a.tmps) = true) (t t2 : TypeId) (x y : Operand) (ho : o.op = .binOp .neq t x y t2) (k : IntKind) (p q : Int) (hx : a.eval x = .int k p) (hy : a.eval y = .int k q)
    (hp : (S i).p (.bool (p != q)) w) : GStep P ops S Q i o a w :=
  gs_bin hw _ _ _ x y ho _ _ _ hx hy (by rw [eqGuard_at_int]; rfl) (by rw [binOp_neq]; rfl) hp
end
section
variable {P : Program} {ops : Array Oper} {S : Nat → GSpec} {Q : Exit → Act → World → Prop} {i : Nat} {o : Oper} {a : Act} {w : World}
theorem gs_len (hw : Region.wanted o (yielded ops a.tmps) = true) (x : Operand) (t : TypeId) (ho : o.op = .call { callee := .builtin .len, args := #[x], argTypes := #[t] }) (ht : P.underlying t = some (.slice (P.elem t)))
    (A : Option Addr) (n c : Nat) (hx : a.eval x = .slice A n c) (hp : (S i).p (.int .i64 n) w) : GStep P ops S Q i o a w :=
  gs_run hw (v := .int .i64 n) (by
    unfold execOp
    simp only [ho, resolve, invoke, builtin, Sem.run_bind, Sem.run_pure, Result.andThen_ok, List.map_toArray, List.map_cons, List.map_nil, hx, run_len_slice w t o.type A n c ht]
    rfl) (Below.refl _ _) hp
theorem sliced_to (ad : Addr) (m c s : Nat) : sliced (some ad) 0 m c s = .slice (some ad) m c := by
  unfold sliced
  split <;> simp [Addr.add]
theorem gs_slice_to (hw : Region.wanted o (yielded ops a.tmps) = true) (x hi : Operand) (t : TypeId) (ho : o.op = .slice t x none (some hi) none) (ht : P.underlying t = some (.slice (P.elem t))) (size : Nat) (hsz : ∀ w, (sizeOf (P.elem t)).run P w = .ok size w)
    (ad : Addr) (n c m : Nat) (hx : a.eval x = .slice (some ad) n c) (hh : a.eval hi = .int .i64 m) (hm : m ≤ c) (hp : (S i).p (.slice (some ad) m c) w) : GStep P ops S Q i o a w :=
  gs_run hw (v := .slice (some ad) m c) (by
    unfold execOp
    have e := run_slice_h (P := P) w t (some ad) n c ht .i64 (m : Int) (by omega) (by omega)
    simp only [Int.toNat_natCast, hsz, Result.andThen_ok, sliced_to] at e
    simp only [ho, Option.map_none, Option.map_some, hx, hh, Sem.run_bind, run_sliceAt_slice (P := P) w t _ _ _ _ ht, e, Result.andThen_ok, Sem.run_pure]) (Below.refl _ _) hp
theorem gs_index (hw : Region.wanted o (yielded ops a.tmps) = true) (x ix : Operand) (t : TypeId) (ho : o.op = .indexAddr t x ix) (ht : P.underlying t = some (.slice (P.elem t))) (size : Nat) (hsz : ∀ w, (sizeOf (P.elem t)).run P w = .ok size w)
    (b off n c m : Nat) (hx : a.eval x = .slice (some ⟨b, off, none⟩) n c) (hi : a.eval ix = .int .i64 m) (hm : m < n) (hp : (S i).p (.pointer (some ⟨b, off + m * size, none⟩)) w) : GStep P ops S Q i o a w :=
  gs_run hw (v := .pointer (some ⟨b, off + m * size, none⟩)) (by
    unfold execOp
    have e := run_indexAt_slice (P := P) w t ⟨b, off, none⟩ n c .i64 (m : Int) ht
    rw [if_pos ⟨by omega, by omega⟩, hsz] at e
    simp only [Int.toNat_natCast, Result.andThen_ok, addr_add] at e
    simp only [ho, hx, hi, Sem.run_bind, e, Result.andThen_ok, Sem.run_pure]) (Below.refl _ _) hp
end
section
variable {ops : Array Oper} {S : Nat → GSpec} {Q : Exit → Act → World → Prop} {i : Nat} {o : Oper} {a : Act} {w : World}
end

theorem run_load1 {P : Program} (w : World) (a : Addr) (ty : TypeId) (d : TypeDesc) (v : Value) (hc : w.cell? a = some v) (hu : P.underlying ty = some d) (hd : (match d with | .struct _ | .array _ _ => true | _ => false) = false) :
    (loadVar ty a).run P w = .ok v w := by
  have hagg : (isAgg ty).run P w = .ok false w := by
    unfold isAgg
    rw [Sem.run_bind, run_underlying hu w]
    cases d <;> simp_all
  simp [loadVar, Sem.run_bind, hagg, hc]
section
variable {P : Program} {ops : Array Oper} {S : Nat → GSpec} {Q : Exit → Act → World → Prop} {i : Nat} {o : Oper} {a : Act} {w : World}
theorem gs_field (hw : Region.wanted o (yielded ops a.tmps) = true) (t : TypeId) (x : Operand) (f : Nat) (ho : o.op = .fieldAddr t x f) (b off off' : Nat) (hx : a.eval x = .pointer (some ⟨b, off, none⟩))
    (hr : ∀ w, (Instr.fieldAt t (.pointer (some ⟨b, off, none⟩)) f).run P w = .ok (.pointer (some ⟨b, off', none⟩)) w) (hp : (S i).p (.pointer (some ⟨b, off', none⟩)) w) : GStep P ops S Q i o a w :=
  gs_run hw (v := .pointer (some ⟨b, off', none⟩)) (by unfold execOp; simp only [ho, hx, Sem.run_bind, hr, Result.andThen_ok, Sem.run_pure]) (Below.refl _ _) hp
theorem gs_load1 (hw : Region.wanted o (yielded ops a.tmps) = true) (ty : TypeId) (x : Operand) (ho : o.op = .load ty x) (b off : Nat) (hx : a.eval x = .pointer (some ⟨b, off, none⟩)) (v : Value) (hc : w.cell? ⟨b, off, none⟩ = some v)
    (d : TypeDesc) (hu : P.underlying ty = some d) (hd : (match d with | .struct _ | .array _ _ => true | _ => false) = false) (hp : (S i).p v w) : GStep P ops S Q i o a w :=
  gs_run hw (v := v) (by unfold execOp; simp only [ho, hx, Instr.loadAt, Instr.sureAddr, Sem.run_bind, Sem.run_pure, Result.andThen_ok, run_load1 w _ ty d v hc hu hd]) (Below.refl _ _) hp
end
section
variable {ops : Array Oper} {S : Nat → GSpec} {Q : Exit → Act → World → Prop} {i : Nat} {o : Oper} {a : Act} {w : World}
end

section
variable {P : Program} {ops : Array Oper} {S : Nat → GSpec} {Q : Exit → Act → World → Prop} {i : Nat} {o : Oper} {a : Act} {w : World}
theorem gs_nil (hw : Region.wanted o (yielded ops a.tmps) = true) (x : Operand) (ho : o.op = .nilCheck x) (p : Addr) (hx : a.eval x = .pointer (some p)) (hp : (S i).p (.pointer (some p)) w) : GStep P ops S Q i o a w :=
  gs_run hw (v := .pointer (some p)) (by unfold execOp; simp only [ho, hx]; rfl) (Below.refl _ _) hp
end

/-- a value that is there under a condition -/
def vF : Bool → Value → Value
  | true, v => v
  | false, _ => undef
theorem vF_true (v : Value) : vF true v = v := rfl
theorem vF_false (v : Value) : vF false v = undef := rfl
theorem vF_no {c : Bool} (e : c = false) (v : Value) : undef = vF c v := by rw [e]; rfl
theorem vF_yes {c : Bool} (e : c = true) (v : Value) : vF c v = v := by rw [e]; rfl
section
variable {P : Program} {ops : Array Oper} {S : Nat → GSpec} {Q : Exit → Act → World → Prop} {i : Nat} {o : Oper} {a : Act} {w : World}
/-- a guarded operation: both ways -/
theorem gs_guard {g d : Nat} {b c b' : Bool} (ho : o.guard = some (g, b)) (hd : (ops[g]?).bind (·.dst) = some d) (hv : a.tmps.getD d undef = vF c (.bool b'))
    (h1 : c = true → b' = b → Region.wanted o (yielded ops a.tmps) = true → GStep P ops S Q i o a w) (h2 : (c && (b' == b)) = false → (S i).p undef w) : GStep P ops S Q i o a w := by
  cases c
  · refine gs_skip ?_ (h2 rfl)
    rw [vF_false] at hv
    have h1 : a.tmps[d]? ≠ some (.bool b) := by
      intro hh
      simp [hh] at hv
      cases hv
    simp only [Region.wanted, ho, yielded, hd, Option.bind_some]
    rcases hh : a.tmps[d]? with _ | v
    · simp
    · have hv2 : v = undef := by simpa [hh] using hv
      rw [hv2]
      rfl
  · rw [vF_true] at hv
    by_cases e : b' = b
    · exact h1 rfl e (want_yes ho hd (e ▸ hv))
    · have e2 : b = !b' := by cases b <;> cases b' <;> simp_all
      refine gs_skip (want_no (b := b') ?_ hd hv) (h2 (by simp [e]))
      rw [ho, e2]
end

section
variable {P : Program} {ops : Array Oper} {S : Nat → GSpec} {Q : Exit → Act → World → Prop} {i : Nat} {o : Oper} {a : Act} {w : World}
theorem gs_geq_int (hw : Region.wanted o (yielded ops a.tmps) = true) (t t2 : TypeId) (x y : Operand) (ho : o.op = .binOp .geq t x y t2) (k : IntKind) (p q : Int) (hx : a.eval x = .int k p) (hy : a.eval y = .int k q)
    (hp : (S i).p (.bool (decide (q ≤ p))) w) : GStep P ops S Q i o a w :=
  gs_bin hw _ _ _ x y ho _ _ _ hx hy (by rw [eqGuard_at_int]; rfl) (by rw [binOp_geq]; rfl) hp
theorem gs_leq_int (hw : Region.wanted o (yielded ops a.tmps) = true) (t t2 : TypeId) (x y : Operand) (ho : o.op = .binOp .leq t x y t2) (k : IntKind) (p q : Int) (hx : a.eval x = .int k p) (hy : a.eval y = .int k q)
    (hp : (S i).p (.bool (decide (p ≤ q))) w) : GStep P ops S Q i o a w :=
  gs_bin hw _ _ _ x y ho _ _ _ hx hy (by rw [eqGuard_at_int]; rfl) (by rw [binOp_leq]; rfl) hp
end
theorem under_ints : Tryz.prog.underlying 23 = some (.slice (Tryz.prog.elem 23)) := by kernel_rfl
theorem size_intE (w : World) : (sizeOf (Tryz.prog.elem 23)).run Tryz.prog w = .ok 1 w := by kernel_rfl
theorem on_g {c x b : Bool} (h1 : c = true) (h2 : x = b) : (c && (x == b)) = true := by rw [h1, h2]; simp
theorem pick_or2 {c x y : Bool} {v : Value} (hc : c = true) (h : v = vF (c && (x == false)) (.bool y)) : (if x = true then .bool true else v) = .bool (x || y) := by
  subst hc
  cases x
  · exact h
  · rfl
theorem pick_and2 {c x y : Bool} {v : Value} (hc : c = true) (h : v = vF (c && (x == true)) (.bool y)) : (if x = true then v else .bool false) = .bool (x && y) := by
  subst hc
  cases x
  · rfl
  · exact h
section
variable {P : Program} {ops : Array Oper} {S : Nat → GSpec} {Q : Exit → Act → World → Prop} {i : Nat} {o : Oper} {a : Act} {w : World}
theorem gs_lss_int (hw : Region.wanted o (yielded ops a.tmps) = true) (t t2 : TypeId) (x y : Operand) (ho : o.op = .binOp .lss t x y t2) (k : IntKind) (p q : Int) (hx : a.eval x = .int k p) (hy : a.eval y = .int k q)
    (hp : (S i).p (.bool (decide (p < q))) w) : GStep P ops S Q i o a w :=
  gs_bin hw _ _ _ x y ho _ _ _ hx hy (by rw [eqGuard_at_int]; rfl) (by rw [binOp_lss]; rfl) hp
theorem gs_gtr_int (hw : Region.wanted o (yielded ops a.tmps) = true) (t t2 : TypeId) (x y : Operand) (ho : o.op = .binOp .gtr t x y t2) (k : IntKind) (p q : Int) (hx : a.eval x = .int k p) (hy : a.eval y = .int k q)
    (hp : (S i).p (.bool (decide (q < p))) w) : GStep P ops S Q i o a w :=
  gs_bin hw _ _ _ x y ho _ _ _ hx hy (by rw [eqGuard_at_int]; rfl) (by rw [binOp_gtr]; rfl) hp
end
section
variable {ops : Array Oper} {S : Nat → GSpec} {Q : Exit → Act → World → Prop} {i : Nat} {o : Oper} {a : Act} {w : World}
end
theorem info_int3 : (Tryz.prog.info? 3).map (fun i => (i.zero, i.size, i.bytes)) = some (some (.int .i64 0), 1, 8) := by kernel_rfl
end Go.Proofs.YtjplgcmfifoefaaGreatDoor
namespace Go.Proofs.YtjplgcmfifoefaaGreatDoor
open Go.RowKit Go.Maps Go.WideMaps
set_option linter.unusedVariables false
set_option linter.unusedSimpArgs false

section
variable {α : Type} {enc : α → Array Value} {size : Nat}
end

section
variable {ops : Array Oper} {rest : List Oper} {o : Oper} {a : Act} {w : World} {Q : Exit → Act → World → Prop}
end
section
variable {ops : Array Oper} {S : Nat → GSpec} {Q : Exit → Act → World → Prop} {i : Nat} {o : Oper} {a : Act} {w : World}
end
section
variable {ops : Array Oper} {S : Nat → GSpec} {Q : Exit → Act → World → Prop} {i : Nat} {o : Oper} {a : Act} {w : World}
end
theorem Own.kept_ {α : Type} {enc : α → Array Value} {size base : Nat} {e : TypeId} {w w' : World} {v : Value} {ys : List α} {row : Option Nat} (h : Own w base e size enc v ys) (hg : w.grownBy w' row) (hne : ∀ j, v.ownBlock = some j → row = some j → False) : Own w' base e size enc v ys := by
  cases hv : v.ownBlock with
  | none => exact World.ownsRow.kept h hg (by simp [hv])
  | some j =>
    refine World.ownsRow.kept h hg (.inr ?_)
    rw [hv]
    intro e
    exact hne j hv e.symm
end Go.Proofs.YtjplgcmfifoefaaGreatDoor
namespace Go.Proofs.YtjplgcmfifoefaaGreatDoor
open Go.RowKit Go.Maps
set_option linter.unusedVariables false
set_option linter.unusedSimpArgs false
attribute [local go_sem] Oper.semAt_some

set_option maxHeartbeats 1000000 in
set_option maxRecDepth 100000 in
theorem slib_any (s : ByteArray) (c : Int) (w : World) :
    Calls Tryz.prog 77 #[.string s, .int .u8 c] w fun e w' => e = .returned (.int .i64 (Lib.indexByte s.data.toList c.toNat.toUInt8)) ∧ w' = w := by
  go_enter Tryz.func77, Tryz.ntmps77
  go_wp2
  rw [run_callFunc_extern Tryz.func89 (by kernel_rfl) (by kernel_rfl) (by kernel_rfl) (e := Extern.BytealgIndexByte.indexByte) (by kernel_rfl), Lib.run_indexByteString]
  simp only [Result.andThen]
  rw [Oper.upon_value]
  go_wp2
  go_ret
  exact ⟨rfl, rfl⟩
set_option maxHeartbeats 1000000 in
theorem sib_any (s : ByteArray) (c : Int) (w : World) :
    Calls Tryz.prog 53 #[.string s, .int .u8 c] w fun e w' => e = .returned (.int .i64 (Lib.indexByte s.data.toList c.toNat.toUInt8)) ∧ w' = w := by
  go_enter Tryz.func53, Tryz.ntmps53
  go_wp2_with (go_at_call 77; refine (slib_any _ _ _).mono ?_; rintro e w' ⟨rfl, rfl⟩)
  go_ret
  exact ⟨rfl, rfl⟩
end Go.Proofs.YtjplgcmfifoefaaGreatDoor
namespace Go.Proofs.YtjplgcmfifoefaaGreatDoor
open Go.RowKit Go.Maps
set_option linter.unusedVariables false
set_option linter.unusedSimpArgs false
attribute [local go_sem] Oper.semAt_some

theorem take_snocB (q : ByteArray) (i : Nat) (h : i < q.size) : q.data.toList.take (i + 1) = q.data.toList.take i ++ [q[i]] := by
  rw [List.take_add_one, List.getElem?_eq_getElem (by simpa using h)]
  rfl
theorem mem_bytes (q : ByteArray) (i : Nat) (h : i < q.size) : q[i] ∈ q.data.toList := by
  have : q[i] = q.data.toList[i]'(by simpa using h) := rfl
  rw [this]
  exact List.getElem_mem _
set_option maxHeartbeats 1000000 in
theorem plain_any (q : ByteArray) (hq : q.size ≤ 1099511627776) (w : World) : Calls Tryz.prog 54 #[.string q] w fun e w' => e = .returned (.bool (isPl q.data.toList)) ∧ w' = w := by
  go_enter Tryz.func54, Tryz.ntmps54
  go_wp2_with (fail)
  go_loopw [7] (fun iv wr => ∃ i : Nat, i ≤ q.size ∧ iv = .int .i64 i ∧ Hid (wr = w) ∧ Hid (∀ b ∈ q.data.toList.take i, plainB b = true)) (fun iv _ => q.size - (intOf iv).toNat)
  case atStart => exact ⟨0, by omega, rfl, Lib.hid rfl, Lib.hid (by simp)⟩
  case round =>
    obtain ⟨i, hi, rfl, hwr, hp⟩ := hrel
    by_cases hl : i < q.size
    · have hI : (i : Int) < q.size := by omega
      have hI0 : ¬ (i : Int) < 0 := by omega
      by_cases hpl : plainB q[i] = true
      · have h5 := hpl
        unfold plainB at h5
        have h5 := of_decide_eq_true h5
        have f1 : ¬ ((q[i].toNat : Nat) : Int) < 33 := by omega
        have f2 : ¬ (126 : Int) < ((q[i].toNat : Nat) : Int) := by omega
        have f3 : (((q[i].toNat : Nat) : Int) == 34) = false := beq_eq_false_iff_ne.2 (by omega)
        have f4 : (((q[i].toNat : Nat) : Int) == 92) = false := beq_eq_false_iff_ne.2 (by omega)
        have f5 : (((q[i].toNat : Nat) : Int) == 35) = false := beq_eq_false_iff_ne.2 (by omega)
        have hn : Hid (∀ b ∈ q.data.toList.take (i + 1), plainB b = true) := Lib.hid fun b hb => by
          rw [take_snocB q i hl] at hb
          rcases List.mem_append.1 hb with hb | hb
          · exact hp.out b hb
          · obtain rfl : b = q[i] := by simpa using hb
            exact hpl
        clear h5 hpl
        go_wp2_with (fail)
        exact ⟨⟨i + 1, by omega, rfl, hwr, hn⟩, by simp only [intOf]; omega⟩
      · have hf : isPl q.data.toList = false := by
          unfold isPl
          have h9 : q.data.toList.all plainB = false := Bool.eq_false_iff.2 fun h => hpl (List.all_eq_true.1 h _ (mem_bytes q i hl))
          rw [h9, Bool.and_false]
        replace hf := Lib.hid hf
        have h5 : q[i].toNat < 33 ∨ (33 ≤ q[i].toNat ∧ 126 < q[i].toNat) ∨ (33 ≤ q[i].toNat ∧ q[i].toNat ≤ 126 ∧ q[i].toNat = 34) ∨ (33 ≤ q[i].toNat ∧ q[i].toNat ≤ 126 ∧ q[i].toNat ≠ 34 ∧ q[i].toNat = 92) ∨ (33 ≤ q[i].toNat ∧ q[i].toNat ≤ 126 ∧ q[i].toNat ≠ 34 ∧ q[i].toNat ≠ 92 ∧ q[i].toNat = 35) := by
          refine Classical.byContradiction fun h => hpl ?_
          unfold plainB
          exact decide_eq_true (by omega)
        clear hpl hp
        rcases h5 with h5 | h5 | h5 | h5 | h5
        · have f1 : ((q[i].toNat : Nat) : Int) < 33 := by omega
          clear h5
          go_wp2_with (fail)
          go_ret
          exact ⟨congrArg (fun b => Ending.returned (.bool b)) hf.out.symm, hwr.out⟩
        · have f1 : ¬ ((q[i].toNat : Nat) : Int) < 33 := by omega
          have f2 : (126 : Int) < ((q[i].toNat : Nat) : Int) := by omega
          clear h5
          go_wp2_with (fail)
          go_ret
          exact ⟨congrArg (fun b => Ending.returned (.bool b)) hf.out.symm, hwr.out⟩
        · have f1 : ¬ ((q[i].toNat : Nat) : Int) < 33 := by omega
          have f2 : ¬ (126 : Int) < ((q[i].toNat : Nat) : Int) := by omega
          have f3 : (((q[i].toNat : Nat) : Int) == 34) = true := beq_iff_eq.2 (by omega)
          clear h5
          go_wp2_with (fail)
          go_ret
          exact ⟨congrArg (fun b => Ending.returned (.bool b)) hf.out.symm, hwr.out⟩
        · have f1 : ¬ ((q[i].toNat : Nat) : Int) < 33 := by omega
          have f2 : ¬ (126 : Int) < ((q[i].toNat : Nat) : Int) := by omega
          have f3 : (((q[i].toNat : Nat) : Int) == 34) = false := beq_eq_false_iff_ne.2 (by omega)
          have f4 : (((q[i].toNat : Nat) : Int) == 92) = true := beq_iff_eq.2 (by omega)
          clear h5
          go_wp2_with (fail)
          go_ret
          exact ⟨congrArg (fun b => Ending.returned (.bool b)) hf.out.symm, hwr.out⟩
        · have f1 : ¬ ((q[i].toNat : Nat) : Int) < 33 := by omega
          have f2 : ¬ (126 : Int) < ((q[i].toNat : Nat) : Int) := by omega
          have f3 : (((q[i].toNat : Nat) : Int) == 34) = false := beq_eq_false_iff_ne.2 (by omega)
          have f4 : (((q[i].toNat : Nat) : Int) == 92) = false := beq_eq_false_iff_ne.2 (by omega)
          have f5 : (((q[i].toNat : Nat) : Int) == 35) = true := beq_iff_eq.2 (by omega)
          clear h5
          go_wp2_with (fail)
          go_ret
          exact ⟨congrArg (fun b => Ending.returned (.bool b)) hf.out.symm, hwr.out⟩
    · have hI : ¬ (i : Int) < q.size := by omega
      have e : i = q.size := by omega
      have hv : (!q.toList.isEmpty) = isPl q.data.toList := by
        unfold isPl
        have h1 : q.data.toList.all plainB = true := List.all_eq_true.2 fun b hb => hp.out b (by rw [List.take_of_length_le (by simp [e])]; exact hb)
        rw [h1, Bool.and_true, Lib.toList_data]
        cases q.data.toList <;> rfl
      clear hp e
      replace hv := Lib.hid hv
      go_wp2_with (fail)
      go_ret
      refine ⟨?_, hwr.out⟩
      rw [← hv.out]
      first
        | rfl
        | (congr 2; simp [bne])
def nibZ (c : UInt8) : Int := match nib c with
  | some n => n
  | none => -1
theorem nib_idx : ∀ c : Fin 256, Lib.indexByte [48, 49, 50, 51, 52, 53, 54, 55, 56, 57, 97, 98, 99, 100, 101, 102] (UInt8.ofNat c.val) = nibZ (UInt8.ofNat c.val) := by decide +kernel
theorem nibble_any (c : UInt8) (w : World) : Calls Tryz.prog 78 #[.int .u8 (c.toNat : Int)] w fun e w' => e = .returned (.int .i64 (nibZ c)) ∧ w' = w := by
  have hc := sib_any ⟨#[48, 49, 50, 51, 52, 53, 54, 55, 56, 57, 97, 98, 99, 100, 101, 102]⟩ (c.toNat : Int) w
  have e : Lib.indexByte [48, 49, 50, 51, 52, 53, 54, 55, 56, 57, 97, 98, 99, 100, 101, 102] ((c.toNat : Nat) : Int).toNat.toUInt8 = nibZ c := by
    have h := nib_idx ⟨c.toNat, c.toNat_lt⟩
    simpa using h
  rw [show (⟨#[48, 49, 50, 51, 52, 53, 54, 55, 56, 57, 97, 98, 99, 100, 101, 102]⟩ : ByteArray).data.toList = [48, 49, 50, 51, 52, 53, 54, 55, 56, 57, 97, 98, 99, 100, 101, 102] from rfl, e] at hc
  clear e
  go_enter Tryz.func78, Tryz.ntmps78
  go_wp2_with (go_at_call 53; refine hc.mono ?_; rintro e w' ⟨rfl, rfl⟩)
  go_ret
  exact ⟨rfl, rfl⟩
theorem enter_nibble (args : Array Value) (w : World) : (callFunc 78 args).run Tryz.prog w = .ok (.enter 78 args) w := by kernel_rfl
end Go.Proofs.YtjplgcmfifoefaaGreatDoor
namespace Go.Proofs.YtjplgcmfifoefaaGreatDoor
open Go.RowKit Go.Maps
set_option linter.unusedVariables false
set_option linter.unusedSimpArgs false
attribute [local go_sem] Oper.semAt_some

theorem one_extract : ∀ n : Fin 16, (⟨#[48, 49, 50, 51, 52, 53, 54, 55, 56, 57, 97, 98, 99, 100, 101, 102]⟩ : ByteArray).extract n.val (n.val + 1) = ⟨#[hexD n.val]⟩ := by decide
set_option maxHeartbeats 2000000 in
theorem byn_any (c : UInt8) (w : World) : Calls Tryz.prog 70 #[.int .u8 (c.toNat : Int)] w fun e w' => e = .returned (.string ⟨(byN c).toArray⟩) ∧ Below w.heap.size w w' := by
  have hc : c.toNat < 256 := c.toNat_lt
  obtain ⟨n, hn⟩ : ∃ n, c.toNat = n := ⟨_, rfl⟩
  have e1 := one_extract ⟨n / 16, by omega⟩
  have e2 := one_extract ⟨n % 16, by omega⟩
  have hv : (byN c) = [92, 120, hexD (n / 16), hexD (n % 16)] := by unfold byN; rw [hn]
  rw [hv, hn]
  go_enter Tryz.func70, Tryz.ntmps70
  go_wp2_with (fail)
  go_big_region
  go_wp2_with (fail)
  go_ret
  exact ⟨rfl, (Below.refl w.heap.size w).drew⟩
end Go.Proofs.YtjplgcmfifoefaaGreatDoor
namespace Go.Proofs.YtjplgcmfifoefaaGreatDoor
open Go.RowKit Go.Maps
set_option linter.unusedVariables false
set_option linter.unusedSimpArgs false
section
variable {P : Program} {ops : Array Oper} {S : Nat → GSpec} {Q : Exit → Act → World → Prop} {i : Nat} {o : Oper} {a : Act} {w : World}
theorem gs_istr (hw : Region.wanted o (yielded ops a.tmps) = true) (x y : Operand) (ho : o.op = .index 9 x y) (s : ByteArray) (k : Nat) (b : UInt8) (hx : a.eval x = .string s) (hy : a.eval y = .int .i64 (k : Int)) (hb : s.data.toList[k]? = some b)
    (hp : (S i).p (.int .u8 ((b.toNat : Nat) : Int)) w) : GStep Tryz.prog ops S Q i o a w :=
  gs_run hw (v := .int .u8 ((b.toNat : Nat) : Int)) (w' := w) (by
    obtain ⟨hk0, hk⟩ := List.getElem?_eq_some_iff.1 hb
    have hk1 : k < s.size := by simpa using hk0
    have e2 : b.toNat = (s[((k : Int)).toNat]'(by omega)).toNat := by rw [← hk]; rfl
    have e := run_index_string (P := Tryz.prog) w 9 s .i64 (k : Int) Tryz.underlying9
    rw [dif_pos ⟨by omega, by omega⟩] at e
    unfold execOp
    simp only [ho, hx, hy, Sem.run_bind, e, e2, Result.andThen_ok, Sem.run_pure]) (Below.refl _ _) hp
theorem gs_add_nat (hw : Region.wanted o (yielded ops a.tmps) = true) (t t2 : TypeId) (x y : Operand) (ho : o.op = .binOp .add t x y t2) (p q r : Nat) (hx : a.eval x = .int .i64 p) (hy : a.eval y = .int .i64 q) (hr : p + q = r) (hr64 : r < 9223372036854775808)
    (hp : (S i).p (.int .i64 (r : Nat)) w) : GStep P ops S Q i o a w :=
  gs_bin hw _ _ _ x y ho _ _ _ hx hy (by rw [eqGuard_at_int]; rfl) (by
    have e : (p : Int) + q = r := by omega
    have e2 : IntKind.i64.wrap (r : Int) = r := by rw [IntKind.wrap_i64]; omega
    rw [binOp_add]
    simp [Op.intArith, e, e2]) hp
theorem gs_mul_nat (hw : Region.wanted o (yielded ops a.tmps) = true) (t t2 : TypeId) (x y : Operand) (ho : o.op = .binOp .mul t x y t2) (p q r : Nat) (hx : a.eval x = .int .i64 p) (hy : a.eval y = .int .i64 q) (hr : p * q = r) (hr64 : r < 9223372036854775808)
    (hp : (S i).p (.int .i64 (r : Nat)) w) : GStep P ops S Q i o a w :=
  gs_bin hw _ _ _ x y ho _ _ _ hx hy (by rw [eqGuard_at_int]; rfl) (by
    have e : (p : Int) * q = r := by rw [← hr]; simp
    have e2 : IntKind.i64.wrap (r : Int) = r := by rw [IntKind.wrap_i64]; omega
    unfold binOp
    simp [Op.intArith, e, e2, Sem.run]) hp
theorem gs_conv_u8 (hw : Region.wanted o (yielded ops a.tmps) = true) (x : Operand) (ho : o.op = .convert 3 5 x) (n : Nat) (hn : n < 256) (hx : a.eval x = .int .i64 (n : Nat))
    (hp : (S i).p (.int .u8 (n : Nat)) w) : GStep Tryz.prog ops S Q i o a w :=
  gs_run hw (v := .int .u8 (n : Nat)) (w' := w) (by
    have e : (convert 3 5 (.int .i64 (n : Nat))).run Tryz.prog w = .ok (.int .u8 (IntKind.u8.wrap (n : Nat))) w := by kernel_rfl
    have e2 : IntKind.u8.wrap ((n : Nat) : Int) = n := by rw [IntKind.wrap_u8]; omega
    rw [e2] at e
    unfold execOp
    simp only [ho, hx, Sem.run_bind, e, Result.andThen_ok, Sem.run_pure]) (Below.refl _ _) hp
end
end Go.Proofs.YtjplgcmfifoefaaGreatDoor
namespace Go.Proofs.YtjplgcmfifoefaaGreatDoor
open Go.Shelf Go.RowKit
set_option linter.unusedVariables false
set_option linter.unusedSimpArgs false

def bRen : Ren := ⟨fun
  | 166 => 44
  | 167 => 68
  | 168 => 71
  | 169 => 45
  | 240 => 72
  | 242 => 84
  | 276 => 85
  | 278 => 92
  | n => n, fun
  | 0 => 0
  | 3 => 3
  | 4 => 4
  | 5 => 5
  | 9 => 9
  | 20 => 20
  | 21 => 21
  | 37 => 82
  | 46 => 103
  | 51 => 38
  | 70 => 81
  | 72 => 84
  | 75 => 87
  | 80 => 90
  | 127 => 116
  | 164 => 124
  | n => n, fun n => n⟩
theorem bX72 : Builder.X72 Tryz.prog bRen := by constructor <;> kernel_rfl
theorem bExtra : Builder.Extra Tryz.prog bRen := { bX72 with
  t5 := by kernel_rfl
  a5 := fun w => by kernel_rfl
  z5 := fun w => by kernel_rfl
  v5 := fun w => by kernel_rfl
  infoByte := by kernel_rfl
  cellsByte := by kernel_rfl
  sizeByte := by kernel_rfl
  neB5 := by decide }
theorem bLays166 : Lays.n166 Tryz.prog bRen := by constructor <;> first | kernel_rfl | (intro w; kernel_rfl)
theorem bLays167 : Lays.n167 Tryz.prog bRen := by constructor <;> first | kernel_rfl | (intro w; kernel_rfl)
theorem bLays168 : Lays.n168 Tryz.prog bRen := by constructor <;> first | kernel_rfl | (intro w; kernel_rfl)
theorem bLays169 : Lays.n169 Tryz.prog bRen := by constructor <;> first | kernel_rfl | (intro w; kernel_rfl)
/-- a builder of the call's own -/
abbrev IsB (B b : Nat) (bs : Bs) (w : World) : Prop := Lib.IsBuilderF 84 5 B b (Lib.byteCells bs) w
abbrev Kept (b : Nat) (w w' : World) : Prop := Lib.OthersKept 5 (some b) w w'
theorem bWriteByte (B b : Nat) (bs : Bs) (c : UInt8) (w : World) (h : IsB B b bs w) (hlen : bs.length + 1 ≤ 140737488355328) (hB : B ≤ w.heap.size) :
    Calls Tryz.prog 68 #[.pointer (some ⟨b, 0, none⟩), .int .u8 (c.toNat : Int)] w fun e w' => e = .returned .nilIface ∧ IsB B b (bs ++ [c]) w' ∧ Below B w w' ∧ Kept b w w' :=
  (Any.Builder_WriteByte_k bLays167 bExtra B b (Lib.byteCells bs) (c.toNat : Int) w h (by rw [Lib.byteCells_length]; exact hlen) hB).mono fun e w' ⟨h1, h2, h3, h4⟩ => ⟨h1, by unfold IsB; rw [Lib.byteCells_append]; exact .inr h2, h3, h4⟩
theorem bWriteString (B b : Nat) (bs : Bs) (s : ByteArray) (w : World) (h : IsB B b bs w) (hlen : bs.length + s.size ≤ 140737488355328) (hB : B ≤ w.heap.size) :
    Calls Tryz.prog 44 #[.pointer (some ⟨b, 0, none⟩), .string s] w fun e w' => e = .returned (.tuple #[.int .i64 s.size, .nilIface]) ∧ IsB B b (bs ++ s.data.toList) w' ∧ Below B w w' ∧ Kept b w w' :=
  (Any.Builder_WriteString_k bLays166 bExtra B b (Lib.byteCells bs) s w h (by rw [Lib.byteCells_length]; exact hlen) hB).mono fun e w' ⟨h1, h2, h3, h4⟩ => ⟨h1, by unfold IsB; rw [Lib.byteCells_append]; exact .inr h2, h3, h4⟩
theorem bWriteRune (B b : Nat) (bs : Bs) (r : Int) (hr0 : -2147483648 ≤ r) (hr1 : r ≤ 2147483647) (w : World) (h : IsB B b bs w) (hlen : bs.length + 4 ≤ 140737488355328) (hB : B ≤ w.heap.size) :
    Calls Tryz.prog 71 #[.pointer (some ⟨b, 0, none⟩), .int .i32 r] w fun e w' => (∃ v, e = .returned v) ∧ IsB B b (bs ++ Lib.encodeRune r) w' ∧ Below B w w' ∧ Kept b w w' :=
  (Any.Builder_WriteRune_k bLays168 bExtra B b (Lib.byteCells bs) r hr0 hr1 w h (by rw [Lib.byteCells_length]; exact hlen) hB).mono fun e w' ⟨h1, h2, h3, h4⟩ => ⟨⟨_, h1⟩, by unfold IsB; rw [Lib.byteCells_append, Lib.byteCells_encodeRune]; exact .inr h2, h3, h4⟩
theorem bString (B b : Nat) (l : Bs) (w : World) (h : IsB B b l w) (hB : B ≤ w.heap.size) :
    Calls Tryz.prog 45 #[.pointer (some ⟨b, 0, none⟩)] w fun e w' => e = .returned (.string ⟨l.toArray⟩) ∧ Below B w w' :=
  (Any.Builder_String_any_k bLays169 bExtra B b l w h hB).mono fun e w' ⟨h1, _, h3, _⟩ => ⟨h1, h3⟩
end Go.Proofs.YtjplgcmfifoefaaGreatDoor
namespace Go.Proofs.YtjplgcmfifoefaaGreatDoor
open Go.Lib
set_option linter.unusedVariables false
set_option linter.unusedSimpArgs false

structure Ev where
  kind : Int
  name : Bs
  other : Bs
  data : Bs
  n : Int
  yes : Bool
  keep : List Int
deriving DecidableEq

def firsts : List Bs := [[], [99, 114, 101, 97, 116, 101], [97, 112, 112, 101, 110, 100], [99, 117, 116], [114, 101, 110, 97, 109, 101], [114, 101, 109, 111, 118, 101], [115, 121, 110, 99], [112, 111, 108, 108], [115, 101, 110, 100], [97, 110, 115, 119, 101, 114], [116, 105, 99, 107], [99, 104, 101, 99, 107], [99, 114, 97, 115, 104]]
def letters : List Bs := [[], [110], [110, 100], [110], [110, 111], [110], [110], [105], [], [121, 105], [105], [], [107]]
def yesW : Bs := [121, 101, 115]
def noW : Bs := [110, 111]
/-- the texts that a letter tells -/
def tellC (c : UInt8) (e : Ev) : List Bs :=
  if c = 110 then [e.name] else if c = 111 then [e.other] else if c = 100 then [e.data] else if c = 121 then [if e.yes then yesW else noW]
  else if c = 107 then e.keep.map itoa else [itoa e.n]
def textsE (e : Ev) : List Bs := firsts.getD e.kind.toNat [] :: (letters.getD e.kind.toNat []).flatMap (tellC · e)
def kindOk (k : Int) : Prop := 1 ≤ k ∧ k ≤ 12
instance (k : Int) : Decidable (kindOk k) := inferInstanceAs (Decidable (_ ∧ _))
/-- words with a blank between them -/
def joinW (ws : List Bs) : Bs := (lineW ws).drop 1
theorem joinW_cons (w : Bs) (ws : List Bs) : joinW (w :: ws) = w ++ lineW ws := rfl
/-- what a letter does with a part -/
def takeC' (c : UInt8) (w : Bs) (e : Ev) : Option Ev :=
  if c = 110 then some { e with name := (unq w).getD [] } else if c = 111 then some { e with other := (unq w).getD [] } else if c = 100 then some { e with data := (unq w).getD [] }
  else if c = 121 then (if w = yesW then some { e with yes := true } else if w = noW then some { e with yes := false } else none)
  else if c = 107 then (intW w).map fun v => { e with keep := e.keep ++ [v] } else (intW w).map fun v => { e with n := v }
def readG : Bs → List Bs → Ev → Option Ev
  | [], [], e => some e
  | c :: cs, w :: ws, e => (takeC' c w e).bind (readG cs ws)
  | _, _, _ => none
def ev0 (k : Int) : Ev := ⟨k, [], [], [], 0, false, []⟩
def letsOf (k : Nat) (m : Nat) : Bs := if letters.getD k [] = [107] then List.replicate m 107 else letters.getD k []
def readE (k : Nat) (ws : List Bs) : Option Ev := readG (letsOf k ws.length) ws (ev0 k)
def parseE (line : Bs) : Option Ev := match partsG (line.length + 1) line with
  | some (w :: ws) => (List.range 13).findSome? fun k => if k = 0 ∨ firsts.getD k [] ≠ w then none else readE k ws
  | _ => none
def i64z (z : Int) : Prop := -9223372036854775808 ≤ z ∧ z ≤ 9223372036854775807
def intsOk (e : Ev) : Prop := i64z e.n ∧ ∀ z ∈ e.keep, i64z z

theorem firsts_pl : ∀ k, k < 13 → 0 < k → isPl (firsts.getD k []) = true := by decide
theorem quo_yes (b : Bool) : quo (if b then yesW else noW) = if b then yesW else noW := by
  cases b <;> exact quo_pl (by decide)
end Go.Proofs.YtjplgcmfifoefaaGreatDoor
