/- What a call may turn: the blocks from lo to hi; tables that lie beside them stay. No condition beyond those named in each lemma. -/
import Derived.Test.YtgahdookojbbiaaLCop
namespace Go.Proofs.Ytgahdookojbbiaa
open Go.RowKit Go.Maps
set_option linter.unusedVariables false
set_option linter.unusedSimpArgs false

structure Mid (lo hi : Nat) (w w' : World) : Prop where
  os : w'.os = w.os
  tape : w'.tape = w.tape
  output : w'.output = w.output
  size : w.heap.size ≤ w'.heap.size
  block : ∀ k, k < w.heap.size → (k < lo ∨ hi ≤ k) → w'.heap[k]? = w.heap[k]?
/-- a block of a table's lists -/
def OfAll (x : TV) (k : Nat) : Prop := (∃ a, x.A = some a ∧ a.block = k) ∨ (∃ a, x.B = some a ∧ a.block = k) ∨ (∃ a, x.C = some a ∧ a.block = k) ∨ ∃ i, ∃ h : i < x.rs.length, ∃ a, x.rs[i].a = some a ∧ a.block = k
section
variable {lo hi lo' hi' N base : Nat} {w w' w2 : World} {x : TV} {xr : List Int} {xf : List Nat} {xn : List RV}
theorem Mid.refl (lo hi : Nat) (w : World) : Mid lo hi w w := ⟨rfl, rfl, rfl, Nat.le_refl _, fun _ _ _ => rfl⟩
theorem Mid.trans (h : Mid lo hi w w') (k : Mid lo hi w' w2) : Mid lo hi w w2 := ⟨k.os.trans h.os, k.tape.trans h.tape, k.output.trans h.output, Nat.le_trans h.size k.size, fun j hj hh => (k.block j (by have := h.size; omega) hh).trans (h.block j hj hh)⟩
theorem Mid.of_below (h : Below w.heap.size w w') : Mid lo hi w w' := ⟨h.os, h.tape, h.output, h.size, fun k hk _ => h.block k hk⟩
theorem Mid.then_ (h : Mid lo hi w w') (k : Below w'.heap.size w' w2) : Mid lo hi w w2 := h.trans (Mid.of_below k)
theorem Mid.grown {row : Option Nat} (h : Mid lo hi w w') (hg : w'.grownBy w2 row) (hr : ∀ g, row = some g → (lo ≤ g ∧ g < hi) ∨ w.heap.size ≤ g) : Mid lo hi w w2 :=
  ⟨hg.os.trans h.os, hg.tape.trans h.tape, hg.output.trans h.output, Nat.le_trans h.size hg.size, fun k hk hh => (hg.block k (by have := h.size; omega) (fun e => by
    have := hr k e.symm
    omega)).trans (h.block k hk hh)⟩
theorem Mid.below (h : Mid lo hi w w') (h1 : N ≤ lo) (h2 : N ≤ w.heap.size) : Below N w w' := ⟨h.os, h.tape, h.output, h.size, fun k hk => h.block k (by omega) (.inl (by omega))⟩
theorem own_mid {α : Type} {enc : α → Array Value} {size : Nat} {e : TypeId} {v : Value} {ys : List α} (h : Own w base e size enc v ys) (hk : ∀ j, v.ownBlock = some j → w'.heap[j]? = w.heap[j]?) : Own w' base e size enc v ys := by
  obtain ⟨h1, h2⟩ := h
  refine ⟨h1, ?_⟩
  rcases h2 with ⟨h3, h4⟩ | ⟨g, cap, cur, hv, hb, hh, hr⟩
  · exact .inl ⟨h3, h4⟩
  · exact .inr ⟨g, cap, cur, hv, hb, (hk g (by rw [hv]; rfl)).trans hh, hr⟩
theorem block_of {A : Option Addr} {n c j : Nat} (h : (Value.slice A n c).ownBlock = some j) : ∃ a, A = some a ∧ a.block = j := by
  rw [ownBlock_slice] at h
  cases A with
  | none => cases h
  | some a => exact ⟨a, rfl, by simpa using h⟩
theorem TOwn.keep (h : TOwn w base x xr xf xn) (hk : ∀ j, OfAll x j → w'.heap[j]? = w.heap[j]?) : TOwn w' base x xr xf xn :=
  ⟨own_mid h.rows (fun j e => hk j (.inl (block_of e))), own_mid h.fo (fun j e => hk j (.inr (.inl (block_of e)))), own_mid h.en (fun j e => hk j (.inr (.inr (.inl (block_of e))))),
    fun i hi => own_mid (h.row i hi) (fun j e => hk j (.inr (.inr (.inr ⟨i, hi, block_of e⟩)))), h.ap, h.fe⟩
theorem TOwn.all (h : TOwn w base x xr xf xn) {k : Nat} (hk : OfAll x k) : base ≤ k ∧ k < w.heap.size := by
  rcases hk with ⟨a, e, rfl⟩ | ⟨a, e, rfl⟩ | ⟨a, e, rfl⟩ | ⟨i, hi, a, e, rfl⟩
  · exact h.rows.lt _ (by rw [ownBlock_slice, e]; rfl)
  · exact h.fo.lt _ (by rw [ownBlock_slice, e]; rfl)
  · exact h.en.lt _ (by rw [ownBlock_slice, e]; rfl)
  · exact (h.row i hi).lt _ (by rw [ownBlock_slice, e]; rfl)
theorem TOwn.mid (h : TOwn w base x xr xf xn) (hm : Mid lo hi w w') (hk : ∀ j, OfAll x j → j < lo ∨ hi ≤ j) : TOwn w' base x xr xf xn :=
  h.keep fun j hj => hm.block j (h.all hj).2 (hk j hj)
end
theorem park_storeM {ops : Array Oper} {rest : List Oper} {o : Oper} {a : Act} {w : World} {Q : Exit → Act → World → Prop} (t : TypeId) (x y : Operand) (ho : o.op = .store t x y) (h : Parked (wpList Try.prog ops Q (o :: rest) a w)) : wpList Try.prog ops Q (o :: rest) a w := h.h
end Go.Proofs.Ytgahdookojbbiaa
