/- sim.machine.goes: all that is come to without a byte. No condition beyond those named in each lemma. -/
import Derived.Test.YtgahdookojbbiaaDoorSimC
namespace Go.Proofs.YtgahdookojbbiaaDoor
open Go.RowKit Go.Shelf Go.Maps
set_option linter.unusedVariables false
set_option linter.unusedSimpArgs false
attribute [local go_sem] Oper.semAt_some

section
variable {α β : Type} {enc : α → Array Value} {enc2 : β → Array Value} {size size2 base base2 B g r : Nat} {e e2 t : TypeId} {W W' : World} {v v2 : Value} {ys : List α} {zs : List β} {cs : Array Value} {row : Option Nat}
theorem Own.kept_ {row : Option Nat} (h : Own W base e size enc v ys) (hg : W.grownBy W' row) (hne : ∀ j, v.ownBlock = some j → row ≠ some j) : Own W' base e size enc v ys := by
  refine World.ownsRow.kept h hg ?_
  cases hv : v.ownBlock with
  | none => exact .inl rfl
  | some j => exact .inr (fun e => hne j hv e.symm)
theorem own_turn (h : Own W base e size enc v ys) (hg : W.grownBy W' row) (hr : ∀ r, row = some r → B ≤ r ∧ ∃ o : Obj, W.heap[r]? = some o ∧ o.isCells = false) : Own W' base e size enc v ys :=
  h.kept_ hg (fun j e1 e2 => by
    obtain ⟨_, o, h1, h2⟩ := hr j e2
    rcases h.2 with ⟨hv, _⟩ | ⟨g', cap, cur, hv, _, hh, _⟩
    · rw [hv] at e1; cases e1
    · rw [hv] at e1
      have : g' = j := by simpa [Value.ownBlock] using e1
      subst this
      rw [hh] at h1
      injection h1 with h1
      subst h1
      cases h2)
theorem own_low (h : Own W base e size enc v ys) (hg : W.grownBy W' (some r)) (hr : r < base) : Own W' base e size enc v ys :=
  h.kept_ hg (fun j e1 e2 => by
    injection e2 with e2
    have := (h.lt j e1).1
    omega)
theorem own_high (h : Own W base e size enc v ys) (hg : W.grownBy W' (some r)) (hr : W.heap.size ≤ r) : Own W' base e size enc v ys :=
  h.kept_ hg (fun j e1 e2 => by
    injection e2 with e2
    have := (h.lt j e1).2
    omega)
theorem own_box (h : Own W base e size enc v ys) (hb : Blk W r t cs) (hg : W.grownBy W' (some r)) (hne : e ≠ t) : Own W' base e size enc v ys :=
  h.kept_ hg (fun j e1 e2 => by
    injection e2 with e2
    rcases h.2 with ⟨hv, _⟩ | ⟨g', cap, cur, hv, hge, hh, _⟩
    · rw [hv] at e1; cases e1
    · rw [hv] at e1
      have a1 : g' = j := by simpa [Value.ownBlock] using e1
      subst a1; subst e2
      unfold Blk at hb
      rw [hh] at hb
      injection hb with hb
      injection hb with _ hb
      exact hne hb)
theorem blk_own (h : Blk W g t cs) (ho : Own W base e size enc v ys) (hg : W.grownBy W' v.ownBlock) (hr : g < base) : Blk W' g t cs :=
  h.grown hg (fun e => by have := (ho.lt _ e.symm).1; omega)
theorem own_own (h : Own W base2 e2 size2 enc2 v2 zs) (ho : Own W base e size enc v ys) (hg : W.grownBy W' v.ownBlock) (hne : e ≠ e2) : Own W' base2 e2 size2 enc2 v2 zs :=
  h.kept_ hg (fun j e1 e3 => by
    rcases h.2 with ⟨hv, _⟩ | ⟨g', cap, cur, hv, hge, hh, _⟩
    · rw [hv] at e1; cases e1
    · rcases ho.2 with ⟨hv2, _⟩ | ⟨g2, cap2, cur2, hv2, hge2, hh2, _⟩
      · rw [hv2] at e3; cases e3
      · rw [hv] at e1; rw [hv2] at e3
        have a1 : g' = j := by simpa [Value.ownBlock] using e1
        have a2 : g2 = j := by simpa [Value.ownBlock] using e3
        subst a1; subst a2
        rw [hh] at hh2
        injection hh2 with hh2
        injection hh2 with _ hh2
        exact hne hh2.symm)
theorem others_own (h : Own W base e size enc v ys) (hg : W.grownBy W' v.ownBlock) : KeepsOthers W W' :=
  KeepsOthers.of_grownBy hg (fun j o e1 e2 => by
    rcases h.2 with ⟨hv, _⟩ | ⟨g', cap, cur, hv, hge, hh, _⟩
    · rw [hv] at e1; cases e1
    · rw [hv] at e1
      have a1 : g' = j := by simpa [Value.ownBlock] using e1
      subst a1
      rw [hh] at e2
      injection e2 with e2
      subst e2
      rfl)
/-- one element off the end -/
theorem own_pop (hs : ∀ y, (enc y).size = size) {A : Option Addr} {n c : Nat} (h : Own W base e size enc (.slice A n c) ys) (hn : 0 < ys.length) : Own W base e size enc (.slice A (n - 1) c) ys.dropLast := by
  rcases h.2 with ⟨hv, h0⟩ | ⟨g', cap, cur, hv, hge, hh, hc, hm, hcs, ht⟩
  · omega
  · injection hv with hA hn2 hc2
    subst hA hn2 hc2
    have hlen : ys.dropLast.length = ys.length - 1 := List.length_dropLast
    unfold Own
    rw [hlen]
    refine ⟨by rw [flat_length hs, hlen], .inr ⟨g', c, cur, rfl, hge, hh, by omega, hm, hcs, ?_⟩⟩
    have e1 : flat enc ys.dropLast = (flat enc ys).take ((ys.length - 1) * size) := by
      rw [List.dropLast_eq_take]
      have e2 : flat enc ys = flat enc (ys.take (ys.length - 1)) ++ flat enc (ys.drop (ys.length - 1)) := by
        unfold flat
        rw [← List.flatMap_append, List.take_append_drop]
      rw [e2, List.take_left']
      rw [flat_length hs, List.length_take]
      congr 1
      omega
    rw [e1, ← ht, List.take_take, Nat.min_eq_left]
    exact Nat.mul_le_mul_right _ (by omega)
theorem own_same {v : Value} {xs ys : List α} (h : Own W base e size enc v xs) (h' : Own W base e size enc v ys) : flat enc xs = flat enc ys := by
  rcases h.2 with ⟨hv, h0⟩ | ⟨g', cap, cur, hv, hge, hh, hc, hm, hcs, ht⟩
  · rcases h'.2 with ⟨_, h1⟩ | ⟨g2, cap2, cur2, hv2, _⟩
    · rw [List.eq_nil_of_length_eq_zero h0, List.eq_nil_of_length_eq_zero h1]
    · rw [hv] at hv2; cases hv2
  · rcases h'.2 with ⟨hv2, _⟩ | ⟨g2, cap2, cur2, hv2, _, hh2, _, _, _, ht2⟩
    · rw [hv] at hv2; cases hv2
    · rw [hv] at hv2
      injection hv2 with e1 e2 e3
      injection e1 with e1
      injection e1 with e1
      subst e1
      rw [hh] at hh2
      injection hh2 with hh2
      injection hh2 with hh2
      subst hh2
      rw [← ht, ← ht2, e2]
end
def encN (n : Nat) : Array Value := #[.int .i64 (n : Int)]
theorem encN_size (v : Nat) : (encN v).size = 1 := rfl
theorem encN_one (v : Nat) : (encN v).all (·.oneCell') = true := by simp [encN, Value.oneCell']
theorem flat_encU_inj : ∀ {xs ys : List Nat}, flat encU xs = flat encU ys → xs = ys
  | [], [], _ => rfl
  | [], y :: ys, h => by simp [flat, encU] at h
  | x :: xs, [], h => by simp [flat, encU] at h
  | x :: xs, y :: ys, h => by
    have e1 : flat encU (x :: xs) = .int .u64 x :: flat encU xs := rfl
    have e2 : flat encU (y :: ys) = .int .u64 y :: flat encU ys := rfl
    rw [e1, e2] at h
    injection h with h1 h2
    injection h1 with _ h1
    rw [flat_encU_inj h2, Int.ofNat.inj h1]

end Go.Proofs.YtgahdookojbbiaaDoor
