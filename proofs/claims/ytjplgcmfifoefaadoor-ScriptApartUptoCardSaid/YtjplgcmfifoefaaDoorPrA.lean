/- How long lines are; words joined. Plain; no condition beyond those named in each lemma. -/
import Derived.Test.YtjplgcmfifoefaaDoorEvA
import Derived.Lib.Join
import Derived.Lib.ItoaLen
namespace Go.Proofs.YtjplgcmfifoefaaDoor
open Go.Lib
set_option linter.unusedVariables false
set_option linter.unusedSimpArgs false

theorem piece_len {X Y : Bs} (h : Piece X Y) : X.length ≤ 4 * Y.length := by
  cases h with
  | esc b c h => simp
  | hex b => simp [byN]
  | ord _ h => omega
theorem pieces_len {X Y : Bs} (h : Pieces X Y) : X.length ≤ 4 * Y.length := by
  induction h with
  | nil => simp
  | cons h _ ih => have := piece_len h; simp only [List.length_append]; omega
theorem quo_len (l : Bs) : (quo l).length ≤ 4 * l.length + 2 := by
  unfold quo
  split
  · omega
  · have := pieces_len (pieces l.length l (Nat.le_refl _))
    simp only [List.length_cons, List.length_append, List.length_nil]
    omega
theorem lineW_app : ∀ a b : List Bs, lineW (a ++ b) = lineW a ++ lineW b
  | [], b => rfl
  | w :: a, b => by simp [lineW, lineW_app a b]
theorem line_ints : ∀ ks : List Int, (∀ z ∈ ks, i64z z) → (lineW ((ks.map itoa).map quo)).length ≤ 22 * ks.length
  | [], _ => by simp [lineW]
  | z :: ks, h => by
    have h1 := h z (by simp)
    have h2 := itoa_length_le z h1.1 h1.2
    have h3 := line_ints ks fun y hy => h y (by simp [hy])
    simp only [List.map_cons, lineW, quo_itoa, List.length_cons, List.length_append] at h3 ⊢
    omega
theorem firsts_len : ∀ k, k < 13 → (firsts.getD k []).length ≤ 6 := by decide
/-- how long an event's line is -/
theorem print_len (e : Ev) (hk : kindOk e.kind) (hi : intsOk e) : (joinW ((textsE e).map quo)).length ≤ 200 + 4 * (e.name.length + e.other.length + e.data.length) + 22 * e.keep.length := by
  obtain ⟨k, hk1⟩ : ∃ k : Nat, e.kind = k := ⟨e.kind.toNat, by unfold kindOk at hk; omega⟩
  have hk2 : 1 ≤ k ∧ k ≤ 12 := by unfold kindOk at hk; omega
  obtain ⟨kind, name, other, data, n, yes, keep⟩ := e
  simp only at hk1
  subst hk1
  obtain ⟨hn, hkeep⟩ := hi
  simp only at hn hkeep
  have h1 := itoa_length_le n hn.1 hn.2
  have h2 := line_ints keep hkeep
  have h3 := firsts_len k (by omega)
  have q1 := quo_len name
  have q2 := quo_len other
  have q3 := quo_len data
  have q4 : (quo (if yes then yesW else noW)).length ≤ 3 := by rw [quo_yes]; cases yes <;> simp [yesW, noW]
  have q5 : (quo (firsts.getD k [])).length ≤ 6 := by rw [quo_pl (firsts_pl k (by omega) (by omega))]; exact h3
  have q6 : (quo (itoa n)).length ≤ 21 := by rw [quo_itoa]; exact h1
  have hT : (joinW ((textsE ⟨(k : Nat), name, other, data, n, yes, keep⟩).map quo)).length = (quo (firsts.getD k [])).length + (lineW ((((letters.getD k []).flatMap (tellC · ⟨(k : Nat), name, other, data, n, yes, keep⟩))).map quo)).length := by
    unfold textsE
    rw [List.map_cons, joinW_cons, List.length_append]
    rfl
  rw [hT]
  simp only
  have hL : (lineW ((((letters.getD k []).flatMap (tellC · ⟨(k : Nat), name, other, data, n, yes, keep⟩))).map quo)).length ≤ 100 + 4 * (name.length + other.length + data.length) + 22 * keep.length := by
    rcases (by omega : k = 1 ∨ k = 2 ∨ k = 3 ∨ k = 4 ∨ k = 5 ∨ k = 6 ∨ k = 7 ∨ k = 8 ∨ k = 9 ∨ k = 10 ∨ k = 11 ∨ k = 12) with rfl | rfl | rfl | rfl | rfl | rfl | rfl | rfl | rfl | rfl | rfl | rfl
    all_goals
      simp only [letters, tellC, List.getD_eq_getElem?_getD, List.getElem?_cons_succ, List.getElem?_cons_zero, Option.getD_some, List.flatMap_cons, List.flatMap_nil, List.append_nil, if_true, if_false, show (100 : UInt8) = 110 ↔ False by decide, show (100 : UInt8) = 111 ↔ False by decide, show (111 : UInt8) = 110 ↔ False by decide, show (105 : UInt8) = 110 ↔ False by decide, show (105 : UInt8) = 111 ↔ False by decide, show (105 : UInt8) = 100 ↔ False by decide, show (105 : UInt8) = 121 ↔ False by decide, show (105 : UInt8) = 107 ↔ False by decide, show (121 : UInt8) = 110 ↔ False by decide, show (121 : UInt8) = 111 ↔ False by decide, show (121 : UInt8) = 100 ↔ False by decide, show (107 : UInt8) = 110 ↔ False by decide, show (107 : UInt8) = 111 ↔ False by decide, show (107 : UInt8) = 100 ↔ False by decide, show (107 : UInt8) = 121 ↔ False by decide, List.map_cons, List.map_nil, List.cons_append, List.nil_append, lineW, List.length_cons, List.length_append, List.length_nil]
      omega
  omega
theorem join_tail : ∀ ws : List Bs, Lib.joinTail [32] ws = lineW ws
  | [] => rfl
  | w :: ws => by
    have h := join_tail ws
    unfold Lib.joinTail at h ⊢
    rw [List.map_cons, List.flatten_cons, h]
    simp [lineW]
theorem join_eq (ws : List Bs) : Lib.join ws [32] = joinW ws := by
  cases ws with
  | nil => rfl
  | cons w ws => rw [Lib.join_cons, join_tail, joinW_cons]
end Go.Proofs.YtjplgcmfifoefaaDoor
