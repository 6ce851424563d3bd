/- What a call may turn: the blocks from lo to hi. No condition beyond those named in each lemma. -/
import Derived.Test.YtajainmldcnaeaaStore
namespace Go.Proofs.Ytajainmldcnaeaa
open Go.RowKit Go.Maps
set_option linter.unusedVariables false
set_option linter.unusedSimpArgs false

structure Turn (lo hi : Nat) (w w' : World) : Prop where
  os : w'.os = w.os
  tape : w'.tape = w.tape
  output : w'.output = w.output
  size : w.heap.size ≤ w'.heap.size
  block : ∀ k, k < w.heap.size → (k < lo ∨ hi ≤ k) → w'.heap[k]? = w.heap[k]?
section
variable {lo hi N g : Nat} {w w' w2 : World} {t : TypeId} {cs : Array Value}
theorem Turn.refl (lo hi : Nat) (w : World) : Turn lo hi w w := ⟨rfl, rfl, rfl, Nat.le_refl _, fun _ _ _ => rfl⟩
theorem Turn.trans (h : Turn lo hi w w') (k : Turn lo hi w' w2) : Turn lo hi w w2 := ⟨k.os.trans h.os, k.tape.trans h.tape, k.output.trans h.output, Nat.le_trans h.size k.size, fun j hj hh => (k.block j (by have := h.size; omega) hh).trans (h.block j hj hh)⟩
theorem Turn.of_below (h : Below w.heap.size w w') : Turn lo hi w w' := ⟨h.os, h.tape, h.output, h.size, fun k hk _ => h.block k hk⟩
theorem Turn.then_ (h : Turn lo hi w w') (k : Below w'.heap.size w' w2) : Turn lo hi w w2 := h.trans (Turn.of_below k)
theorem Turn.grown {row : Option Nat} (h : Turn lo hi w w') (hg : w'.grownBy w2 row) (hr : ∀ g, row = some g → (lo ≤ g ∧ g < hi) ∨ w.heap.size ≤ g) : Turn lo hi w w2 :=
  ⟨hg.os.trans h.os, hg.tape.trans h.tape, hg.output.trans h.output, Nat.le_trans h.size hg.size, fun k hk hh => (hg.block k (by have := h.size; omega) (fun e => by
    have := hr k e.symm
    omega)).trans (h.block k hk hh)⟩
theorem Turn.below (h : Turn lo hi w w') (h1 : N ≤ lo) (h2 : N ≤ w.heap.size) : Below N w w' := ⟨h.os, h.tape, h.output, h.size, fun k hk => h.block k (by omega) (.inl (by omega))⟩
theorem blk_turn (h : Blk w g t cs) (hm : Turn lo hi w w') (hg : g < lo ∨ hi ≤ g) : Blk w' g t cs := (hm.block g h.lt hg).trans h
end
end Go.Proofs.Ytajainmldcnaeaa
