/- A part taken by any letter; a closure's call in a list. No condition beyond those named in each lemma. -/
import Derived.Test.YtjplgcmfifoefaaDoorQtP
namespace Go.Proofs.YtjplgcmfifoefaaDoor
open Go.RowKit Go.Maps
set_option linter.unusedVariables false
set_option linter.unusedSimpArgs false
attribute [local go_sem] Oper.semAt_some

theorem enter_fnOf (c : UInt8) (args : Array Value) (w : World) : (callFunc (fnOf c) args).run Tryd.prog w = .ok (.enter (fnOf c) args) w := by
  unfold fnOf
  repeat' split
  · exact enter_set args w
  · exact enter_yes args w
  · exact enter_keep args w
  · exact enter_n args w
theorem size_unq (q : ByteArray) : (⟨(unqZ (tl q)).toArray⟩ : ByteArray).size ≤ q.size := by
  have h := unq_len (tl q)
  have h2 : (tl q).length = q.size := by simp [tl]
  have h3 : (⟨(unqZ (tl q)).toArray⟩ : ByteArray).size = (unqZ (tl q)).length := by simp [ByteArray.size]
  omega
theorem tl_unq (q : ByteArray) : tl (⟨(unqZ (tl q)).toArray⟩ : ByteArray) = (unq (tl q)).getD [] := by
  unfold unqZ
  simp [tl]
theorem clos_any (c : UInt8) (q : ByteArray) (hq : q.size ≤ 1099511627776) (ge base pb : Nat) (h7 : 7 ≤ ge) (T : TypeId) (hT : T ≠ 3) (x : EvV) (ks : List Int) (hks : ks.length ≤ 1099511627776) (w : World) (hM : EvM w ge base x ks) (hP : Blk w pb T #[.pointer (some ⟨ge, offOf c, none⟩)]) (hS : SOk w) :
    Calls Tryd.prog (fnOf c) #[.string q, .pointer (some ⟨pb, 0, none⟩)] w fun e w' => TkE c ge base q x ks w e w' := by
  by_cases c110 : c = 110
  · subst c110
    refine (set_any 1 (.inl rfl) q hq ge base pb T x ks w hM hP).mono fun e w' ⟨he, h1, h2⟩ => ⟨true, _, ks, he, h1, h2, ?_⟩
    have hs := size_unq q
    have ht := tl_unq q
    refine ⟨fun e' h => ?_, fun h => (by cases h), by simp only [EvV.setF, if_true]; omega, by simp only [EvV.setF, if_true]; omega, by simp only [EvV.setF, if_true]; omega, fun h => h, by omega⟩
    injection h with h
    exact ⟨rfl, by rw [← h]; simp only [EvV.setF, if_true, EvV.ev, ht]⟩
  by_cases c111 : c = 111
  · subst c111
    refine (set_any 2 (.inr (.inl rfl)) q hq ge base pb T x ks w hM hP).mono fun e w' ⟨he, h1, h2⟩ => ⟨true, _, ks, he, h1, h2, ?_⟩
    have hs := size_unq q
    have ht := tl_unq q
    refine ⟨fun e' h => ?_, fun h => (by cases h), by simp [EvV.setF]; omega, by simp [EvV.setF]; omega, by simp [EvV.setF]; omega, fun h => h, by omega⟩
    injection h with h
    exact ⟨rfl, by rw [← h]; simp [EvV.setF, EvV.ev, ht]⟩
  by_cases c100 : c = 100
  · subst c100
    refine (set_any 3 (.inr (.inr rfl)) q hq ge base pb T x ks w hM hP).mono fun e w' ⟨he, h1, h2⟩ => ⟨true, _, ks, he, h1, h2, ?_⟩
    have hs := size_unq q
    have ht := tl_unq q
    refine ⟨fun e' h => ?_, fun h => (by cases h), by simp [EvV.setF]; omega, by simp [EvV.setF]; omega, by simp [EvV.setF]; omega, fun h => h, by omega⟩
    injection h with h
    exact ⟨rfl, by rw [← h]; simp [EvV.setF, EvV.ev, ht]⟩
  have hn3 : ¬ (c = 110 ∨ c = 111 ∨ c = 100) := fun h => h.elim c110 fun h => h.elim c111 c100
  have hob : offOf c = 0 := by unfold offOf; rw [if_neg c110, if_neg c111, if_neg c100]
  rw [hob] at hP
  have hT0 : ∀ w e, takeC' c w e = if c = 121 then (if w = yesW then some { e with yes := true } else if w = noW then some { e with yes := false } else none) else if c = 107 then (intW w).map fun v => { e with keep := e.keep ++ [v] } else (intW w).map fun v => { e with n := v } := fun w e => by
    unfold takeC'
    rw [if_neg c110, if_neg c111, if_neg c100]
  by_cases c121 : c = 121
  · have hf : fnOf c = 49 := by unfold fnOf; rw [if_neg hn3, if_pos c121]
    rw [hf]
    refine (yes_any q ge base pb T x ks w hM hP).mono fun e w' ⟨he, h1, h2⟩ => ⟨_, _, ks, he, h1, h2, ?_⟩
    refine ⟨fun e' h => ?_, fun h => ?_, by simp only; omega, by simp only; omega, by simp only; omega, fun h => h, by omega⟩
    · rw [hT0, if_pos c121] at h
      by_cases y : tl q = yesW
      · rw [if_pos y] at h
        injection h with h
        have e1 : (tl q == yesW) = true := beq_iff_eq.2 y
        rw [e1]
        exact ⟨rfl, h⟩
      · rw [if_neg y] at h
        have e1 : (tl q == yesW) = false := beq_eq_false_iff_ne.2 y
        by_cases n : tl q = noW
        · rw [if_pos n] at h
          injection h with h
          have e2 : (tl q == noW) = true := beq_iff_eq.2 n
          rw [e1, e2]
          exact ⟨rfl, h⟩
        · rw [if_neg n] at h
          cases h
    · rw [hT0, if_pos c121] at h
      by_cases y : tl q = yesW
      · rw [if_pos y] at h; cases h
      · rw [if_neg y] at h
        by_cases n : tl q = noW
        · rw [if_pos n] at h; cases h
        · rw [beq_eq_false_iff_ne.2 y, beq_eq_false_iff_ne.2 n]
          rfl
  by_cases c107 : c = 107
  · have hf : fnOf c = 50 := by unfold fnOf; rw [if_neg hn3, if_neg c121, if_pos c107]
    rw [hf]
    refine (keep_any q hq ge base pb h7 T hT x ks hks w hM hP hS).mono fun e w' ⟨A', c', he, h1, h2⟩ => ⟨_, _, _, he, h1, h2, ?_⟩
    refine ⟨fun e' h => ?_, fun h => ?_, by simp only; omega, by simp only; omega, by simp only; omega, fun h => ⟨h.1, fun z hz => ?_⟩, by simp⟩
    · rw [hT0, if_neg c121, if_pos c107] at h
      cases hI : intW (tl q) with
      | none => rw [hI] at h; cases h
      | some v =>
        rw [hI] at h
        injection h with h
        refine ⟨rfl, ?_⟩
        rw [← h, intZ_some hI]
        rfl
    · rw [hT0, if_neg c121, if_pos c107] at h
      cases hI : intW (tl q) with
      | none => rfl
      | some v => rw [hI] at h; cases h
    · rcases List.mem_append.1 hz with hz | hz
      · exact h.2 z hz
      · obtain rfl : z = intZ (tl q) := by simpa using hz
        exact intZ_ok _
  · have hf : fnOf c = 52 := by unfold fnOf; rw [if_neg hn3, if_neg c121, if_neg c107]
    rw [hf]
    refine (n_any q hq ge base pb h7 T x ks w hM hP hS).mono fun e w' ⟨he, h1, h2⟩ => ⟨_, _, ks, he, h1, h2, ?_⟩
    refine ⟨fun e' h => ?_, fun h => ?_, by simp only; omega, by simp only; omega, by simp only; omega, fun h => ⟨intZ_ok _, h.2⟩, by omega⟩
    · rw [hT0, if_neg c121, if_neg c107] at h
      cases hI : intW (tl q) with
      | none => rw [hI] at h; cases h
      | some v =>
        rw [hI] at h
        injection h with h
        refine ⟨rfl, ?_⟩
        rw [← h, intZ_some hI]
        rfl
    · rw [hT0, if_neg c121, if_neg c107] at h
      cases hI : intW (tl q) with
      | none => rfl
      | some v => rw [hI] at h; cases h
/-- a closure's call, in a list -/
theorem wl_callv {P : Program} {ops : Array Oper} {rest : List Oper} {o : Oper} {a : Act} {w : World} {Q : Exit → Act → World → Prop} (hgd : o.guard = none) (f : FuncId) (c : Operand) (cap : Array Value) (xs : Array Operand) (ats : Array TypeId) (ho : o.op = .call { callee := .value c, args := xs, argTypes := ats })
    (he : a.eval c = .func (.func f) #[] cap) (hf : ∀ args w, (callFunc f args).run P w = .ok (.enter f args) w) (vs : Array Value) (hv : xs.map a.eval ++ cap = vs)
    (hc : Calls P f vs w fun e w' => ∃ v, e = .returned v ∧ wpList P ops Q rest (a.put o.dst v) w') : wpList P ops Q (o :: rest) a w := by
  refine wpList_plain hgd fun K hK => ?_
  unfold Oper.wp
  have hr : (execOp a.eval o).run P w = .ok (.enter f vs) w := by
    have he2 : execOp a.eval o = callFunc f (#[] ++ xs.map a.eval ++ cap) := by
      unfold execOp; rw [ho]; simp only [resolve, he]; rfl
    rw [he2, Array.empty_append, hv]
    exact hf vs w
  rw [hr, Oper.upon_enter]
  refine hc.mono ?_
  rintro e w' ⟨v, rfl, h⟩
  exact hK _ _ h
def fnS (c : UInt8) (ge lo : Nat) : GSpec := ⟨fun v w => ∃ pb T, v = .func (.func (fnOf c)) #[] #[.pointer (some ⟨pb, 0, none⟩)] ∧ lo ≤ pb ∧ Blk w pb T #[.pointer (some ⟨ge, offOf c, none⟩)] ∧ T ≠ 3, fun v w w' ⟨pb, T, h1, h2, h3, h4⟩ hb => ⟨pb, T, h1, h2, blk_then h3 hb, h4⟩⟩
end Go.Proofs.YtjplgcmfifoefaaDoor
