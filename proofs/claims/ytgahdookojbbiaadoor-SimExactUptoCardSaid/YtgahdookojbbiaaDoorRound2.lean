/- The law on regions that draw their order (wp_region_steps), and its twin in the text's order, within a round. No condition beyond those named in each lemma. -/
import Derived.Test.YtgahdookojbbiaaDoorRound
namespace Go.Proofs.YtgahdookojbbiaaDoor
open Go.RowKit
set_option linter.unusedVariables false
set_option linter.unusedSimpArgs false

section
variable {P : Program} {Q : Exit → Act → World → Prop} {a : Act} {w : World} {l : List Oper}
theorem any_steps (n : Nat) (S : List GSpec) (ds : List Nat) (hB : growB l.toArray n a.tmps.size = true)
    (hds : headDsts l.toArray n = ds) (hstep : Steps P l.toArray (specAt S) Q n a w (l.take n) 0)
    (hend : ∀ (u : Nat → Value) w', Below w.heap.size w w' → (∀ j d, j < n → (l[j]?).bind (·.dst) = some d → (specAt S j).p (u d) w') → wpList P l.toArray Q (l.drop n) (putAll a ds u) w') :
    wpAny P .any l.toArray Q l.toArray.size (Array.replicate l.toArray.size false) a w.drew := by
  subst hds
  have hdr : ∀ {x : World}, Below w.heap.size w x → Below w.heap.size w.drew x := fun h => ⟨h.os, h.tape, h.output, h.size, h.block⟩
  have hrd : ∀ {x : World}, Below w.heap.size w.drew x → Below w.heap.size w x := fun h => ⟨h.os, h.tape, h.output, h.size, h.block⟩
  have hn : n ≤ l.length := by
    simp only [growB, Bool.and_eq_true, decide_eq_true_eq] at hB
    simpa using hB.1.1.1.1.1
  have key := wpAny_grow (P := P) (ops := l.toArray) (n := n) (S := specAt S) (Q := Q) (a0 := a) (W0 := w.drew) hB
    (fun i o hi ho a' w' hb hw hd => by
      have := hstep.at_ i o (by rw [List.getElem?_take, if_pos hi]; simpa using ho) a' w' hb (hrd hw) (fun j hj => by
        obtain ⟨e, he, hh⟩ := List.any_eq_true.1 hj
        simp only [Bool.and_eq_true, beq_iff_eq] at hh
        rw [← hh.2]
        exact hd e (Array.mem_toList_iff.1 he) hh.1)
      rw [Nat.zero_add] at this
      exact this)
    (fun a' w' hb hw hd => by
      rw [act_eq hb]
      have := hend (fun d => a'.tmps.getD d undef) w' (hrd hw) (fun j d hj hd' => hd j hj d (by simpa using hd'))
      simpa using this)
    n (Array.replicate l.toArray.size false) a w.drew
    ⟨⟨by simp, fun j oj _ hl => (by rw [getD_replicate_false] at hl; cases hl), fun t _ ht => getD_in (by simpa using ht) (getD_replicate_false _ _)⟩, ⟨rfl, rfl, fun _ _ => rfl⟩, Below.refl _ _, fun j _ hl => (by rw [getD_replicate_false] at hl; cases hl)⟩
    (by
      unfold unl
      rw [List.filter_eq_self.2 (fun j _ => by rw [getD_replicate_false]; rfl), List.length_range])
  rw [show n + (l.toArray.size - n) = l.toArray.size by simp; omega] at key
  exact key
theorem list_steps (n : Nat) (S : List GSpec) (ds : List Nat) (hB : textB l.toArray n a.tmps.size = true)
    (hds : headDsts l.toArray n = ds) (hstep : Steps P l.toArray (specAt S) Q n a w (l.take n) 0)
    (hend : ∀ (u : Nat → Value) w', Below w.heap.size w w' → (∀ j d, j < n → (l[j]?).bind (·.dst) = some d → (specAt S j).p (u d) w') → wpList P l.toArray Q (l.drop n) (putAll a ds u) w') :
    wpList P l.toArray Q l a w := by
  subst hds
  simp only [textB, Bool.and_eq_true, decide_eq_true_eq] at hB
  have := wpList_grow (P := P) (l := l) (n := n) (S := specAt S) (Q := Q) (a0 := a) (W0 := w) (by simpa using hB.1.1.1) hB.1.1.2 hB.1.2 hB.2
    (fun i o hi ho a' w' hb hw hd => by
      have := hstep.at_ i o (by rw [List.getElem?_take, if_pos hi]; exact ho) a' w' hb hw (fun j hj => by
        obtain ⟨e, he, hh⟩ := List.any_eq_true.1 hj
        simp only [Bool.and_eq_true, beq_iff_eq] at hh
        rw [← hh.2]
        exact hd e (Array.mem_toList_iff.1 he) hh.1)
      rw [Nat.zero_add] at this
      exact this)
    (fun a' w' hb hw hd => by
      rw [act_eq hb]
      exact hend (fun d => a'.tmps.getD d undef) w' hw (fun j d hj hd' => hd j hj d (by simpa using hd')))
    n 0 a w (by omega) ⟨rfl, rfl, fun _ _ => rfl⟩ (Below.refl _ _) (fun j hj => by omega)
  simpa using this
end
section
variable {P : Program} {n r : Nat} {Q : Exit → Act → World → Prop} {a : Act} {w : World} {l : List Oper} {id : Nat}
/-- THE LAW, in a round. -/
theorem regionIn_steps (k : Nat) (S : List GSpec) (ds : List Nat) (hm : P.follows .mixedOrders = true) (hB : growB l.toArray k a.tmps.size = true) (hd : l.toArray.all noDefer = true)
    (hds : headDsts l.toArray k = ds) (hstep : Steps P l.toArray (specAt S) (onlyN fun a w => Q .normal a w) k a w (l.take k) 0)
    (hend : ∀ (u : Nat → Value) w', Below w.heap.size w w' → (∀ j d, j < k → (l[j]?).bind (·.dst) = some d → (specAt S j).p (u d) w') → wpList P l.toArray (onlyN fun a w => Q .normal a w) (l.drop k) (putAll a ds u) w') :
    (Code.region id l.toArray true).wpIn (Fence.wide.inRound r) n P Q a w :=
  wpIn_region_any hm (any_in hd _ _ a w.drew (any_steps k S ds hB hds hstep hend))
theorem regionIn_text (k : Nat) (S : List GSpec) (ds : List Nat) (hB : textB l.toArray k a.tmps.size = true) (hd : l.all noDefer = true)
    (hds : headDsts l.toArray k = ds) (hstep : Steps P l.toArray (specAt S) (onlyN fun a w => Q .normal a w) k a w (l.take k) 0)
    (hend : ∀ (u : Nat → Value) w', Below w.heap.size w w' → (∀ j d, j < k → (l[j]?).bind (·.dst) = some d → (specAt S j).p (u d) w') → wpList P l.toArray (onlyN fun a w => Q .normal a w) (l.drop k) (putAll a ds u) w') :
    (Code.region id l.toArray false).wpIn (Fence.wide.inRound r) n P Q a w :=
  region_in hd (list_steps k S ds hB hds hstep hend)
end

end Go.Proofs.YtgahdookojbbiaaDoor
