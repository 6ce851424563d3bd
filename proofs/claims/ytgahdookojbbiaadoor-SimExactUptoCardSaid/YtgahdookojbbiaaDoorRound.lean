/- The bridge from a plain walk to a walk within a round of a range over a function, at the wide fence: a region whose operations are no defer statements is walked in a round as anywhere. No condition beyond those named in each lemma. -/
import Derived.RangeFuncNested
import Derived.RangeFuncBound
import Derived.RangeFuncCalls
import Derived.RangeFuncLeaves
import Derived.OrdersIn
import Derived.Test.YtgahdookojbbiaaDoorGrow
namespace Go.Proofs.YtgahdookojbbiaaDoor
open Go.RowKit
set_option linter.unusedVariables false
set_option linter.unusedSimpArgs false

/-- what is left is left by the end alone -/
def onlyN (K : Act → World → Prop) : Exit → Act → World → Prop
  | .normal, a, w => K a w
  | _, _, _ => False
theorem onlyN_normal {K : Act → World → Prop} {a : Act} {w : World} (h : K a w) : onlyN K .normal a w := h
theorem onlyN_out (K : Act → World → Prop) (h : LetsOut (onlyN K)) : False := by
  obtain ⟨_, _, h⟩ := h
  exact h
def noDefer (o : Oper) : Bool := match o.op with | .defer _ => false | _ => true
theorem noDefer_ne {o : Oper} (h : noDefer o = true) : ∀ c, o.op ≠ .defer c := by
  intro c e
  unfold noDefer at h
  rw [e] at h
  cases h
section
variable {P : Program} {n r : Nat} {Q : Exit → Act → World → Prop} {X : Act → World → Prop} {ops : Array Oper}
theorem oper_in {o : Oper} {a : Act} {w : World} {K : Act → World → Prop} (hd : noDefer o = true) (h : o.wp P a w K (onlyN X)) : o.wpIn (Fence.wide.inRound r) n P a w K Q := by
  unfold Oper.wp at h
  refine ⟨fun _ _ => trivial, ?_⟩
  rw [Fence.inRound_round, Oper.semAt_some r _ o (noDefer_ne hd)]
  generalize (execOp a.eval o).run P w = res at h
  cases res with
  | ok x w' =>
    cases x with
    | value v => exact h
    | skip => exact h
    | defer d => exact h
    | enter f args =>
      refine ⟨fun e => by simp [Fence.wide] at e, ?_⟩
      have h' : Calls P f args w' _ := h
      refine (CallsIn.inRound r ((callsIn_wide (n := n - 1)).2 h')).mono ?_
      intro e w'' he
      cases e with
      | returned v => exact he
      | panicked c => exact he.elim
      | outgrown => exact (onlyN_out X he).elim
    | row row args =>
      refine ⟨fun e => by simp [Fence.wide] at e, ?_⟩
      intro c cs _
      obtain ⟨v, w2, h1, h2⟩ := h c cs
      exact ⟨v, w2, h1, stepsIn_wide.2 h2⟩
    | _ => exact h.elim
  | halt x w' =>
    cases x with
    | panic v => exact h.elim
    | _ => exact h.elim
theorem list_in : ∀ (l : List Oper) (a : Act) (w : World), l.all noDefer = true → wpList P ops (onlyN fun a w => Q .normal a w) l a w → wpListIn (Fence.wide.inRound r) n P ops Q l a w
  | [], a, w, _, h => h
  | o :: l, a, w, hd, h => by
    simp only [List.all_cons, Bool.and_eq_true] at hd
    unfold wpList at h
    unfold wpListIn
    split
    · rename_i hw
      rw [if_pos hw] at h
      rcases h with h | ⟨_, h⟩
      · exact Oper.wpIn_mono (fun a w h => list_in l a w hd.2 h) (oper_in hd.1 h)
      · exact (onlyN_out _ h).elim
    · rename_i hw
      rw [if_neg hw] at h
      exact ⟨fun _ _ => trivial, list_in l _ w hd.2 h⟩
theorem any_in (hd : ops.all noDefer = true) : ∀ (m : Nat) (listed : Array Bool) (a : Act) (w : World), wpAny P .any ops (onlyN fun a w => Q .normal a w) m listed a w → wpAnyIn (Fence.wide.inRound r) n P .any ops Q m listed a w
  | 0, listed, a, w, h => h
  | m + 1, listed, a, w, h => by
    refine ⟨h.1, fun i hi => ?_⟩
    have h2 := h.2 i hi
    unfold wpOp at h2
    unfold wpOpIn
    cases ho : ops[i]? with
    | none =>
      rw [ho] at h2
      exact any_in hd m _ a w h2
    | some o =>
      rw [ho] at h2
      simp only at h2 ⊢
      have hno : noDefer o = true := by
        obtain ⟨hlt, he⟩ := Array.getElem?_eq_some_iff.1 ho
        exact (Array.all_eq_true_iff_forall_mem.1 hd) o (he ▸ Array.getElem_mem hlt)
      split
      · rename_i hw
        rw [if_pos hw] at h2
        rcases h2 with h2 | ⟨_, h2⟩
        · exact Oper.wpIn_mono (fun a w h => any_in hd m _ a w h) (oper_in hno h2)
        · exact (onlyN_out _ h2).elim
      · rename_i hw
        rw [if_neg hw] at h2
        exact ⟨fun _ _ => trivial, any_in hd m _ _ w h2⟩
theorem region_in {id : Nat} {l : List Oper} {a : Act} {w : World} (hd : l.all noDefer = true) (h : wpList P l.toArray (onlyN fun a w => Q .normal a w) l a w) : (Code.region id l.toArray false).wpIn (Fence.wide.inRound r) n P Q a w :=
  wpIn_region_lit (list_in l a w hd h)
end

end Go.Proofs.YtgahdookojbbiaaDoor
