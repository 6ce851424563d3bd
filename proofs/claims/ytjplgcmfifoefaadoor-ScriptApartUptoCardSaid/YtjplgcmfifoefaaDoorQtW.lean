/- Plain laws for ScriptBack: no newline in a line; lines and events, one for one. No condition beyond those named in each lemma. -/
import Derived.Test.YtjplgcmfifoefaaDoorQtV
namespace Go.Proofs.YtjplgcmfifoefaaDoor
open Go.RowKit Go.Maps
set_option linter.unusedVariables false
set_option linter.unusedSimpArgs false

theorem hexD_ne (n : Nat) (h : n < 16) : hexD n ≠ 10 := by
  have h2 : ∀ m : Fin 16, hexD m.val ≠ 10 := by decide
  exact h2 ⟨n, h⟩
theorem piece_one {X Y : Bs} (h : Piece X Y) : ∀ b ∈ X, b ≠ 10 := by
  have h10 : (10 : UInt8).toNat = 10 := rfl
  cases h with
  | esc b c h =>
    intro x hx
    rcases List.mem_cons.1 hx with rfl | hx
    · decide
    · rcases List.mem_cons.1 hx with rfl | hx
      · intro e
        rw [e] at h
        omega
      · cases hx
  | hex b =>
    intro x hx
    have hb := b.toNat_lt
    unfold byN at hx
    rcases List.mem_cons.1 hx with rfl | hx
    · decide
    · rcases List.mem_cons.1 hx with rfl | hx
      · decide
      · rcases List.mem_cons.1 hx with rfl | hx
        · exact hexD_ne _ (by omega)
        · rcases List.mem_cons.1 hx with rfl | hx
          · exact hexD_ne _ (by omega)
          · cases hx
  | ord _ h =>
    intro x hx e
    have := h x hx
    unfold ordB at this
    rw [e] at this
    omega
theorem pieces_one {X Y : Bs} (h : Pieces X Y) : ∀ b ∈ X, b ≠ 10 := by
  induction h with
  | nil => intro b hb; cases hb
  | cons h _ ih =>
    intro b hb
    rcases List.mem_append.1 hb with hb | hb
    · exact piece_one h b hb
    · exact ih b hb
theorem quo_one (l : Bs) : ∀ b ∈ quo l, b ≠ 10 := by
  intro b hb
  unfold quo at hb
  split at hb
  · rename_i hp
    unfold isPl at hp
    have h2 := List.all_eq_true.1 (Bool.and_eq_true_iff.1 hp).2 b hb
    unfold plainB at h2
    have h3 := of_decide_eq_true h2
    intro e
    rw [e] at h3
    have h10 : (10 : UInt8).toNat = 10 := rfl
    omega
  · rcases List.mem_cons.1 hb with rfl | hb
    · decide
    · rcases List.mem_append.1 hb with hb | hb
      · exact pieces_one (pieces l.length l (Nat.le_refl _)) b hb
      · rcases List.mem_cons.1 hb with rfl | hb
        · decide
        · cases hb
theorem lineW_one : ∀ ts : List Bs, ∀ b ∈ lineW (ts.map quo), b ≠ 10
  | [] => by intro b hb; cases hb
  | t :: ts => by
    intro b hb
    rw [List.map_cons, lineW] at hb
    rcases List.mem_cons.1 hb with rfl | hb
    · decide
    · rcases List.mem_append.1 hb with hb | hb
      · exact quo_one t b hb
      · exact lineW_one ts b hb
theorem oneL_join (ts : List Bs) : oneL (joinW (ts.map quo)) = true := by
  unfold oneL
  rw [List.all_eq_true]
  intro b hb
  rw [bne_iff_ne]
  exact lineW_one ts b (List.mem_of_mem_drop hb)
theorem print_one (e : Ev) : oneL (printL e) = true := by
  unfold printL
  split
  · exact oneL_join _
  · rfl
theorem used_kind (e : Ev) : (usedE e).kind = e.kind := by
  unfold usedE
  repeat' split
  all_goals rfl
theorem used_texts (e : Ev) (hk : kindOk e.kind) : textsE (usedE e) = textsE e := by
  obtain ⟨k, hk1⟩ : ∃ k : Nat, e.kind = k := ⟨e.kind.toNat, by unfold kindOk at hk; omega⟩
  have hk2 : 1 ≤ k ∧ k ≤ 12 := by unfold kindOk at hk; omega
  obtain ⟨kind, name, other, data, n, yes, keep⟩ := e
  simp only at hk1
  subst hk1
  rcases (by omega : k = 1 ∨ k = 2 ∨ k = 3 ∨ k = 4 ∨ k = 5 ∨ k = 6 ∨ k = 7 ∨ k = 8 ∨ k = 9 ∨ k = 10 ∨ k = 11 ∨ k = 12) with rfl | rfl | rfl | rfl | rfl | rfl | rfl | rfl | rfl | rfl | rfl | rfl <;> rfl
theorem print_used (e : Ev) : printL (usedE e) = printL e := by
  unfold printL
  rw [used_kind]
  split
  · rename_i h
    rw [used_texts e h]
  · rfl
theorem parse_printL (e : Ev) (hk : kindOk e.kind) (hi : intsOk e) : parseE (printL e) = some (usedE e) := by
  have h := parse_print e hk hi [] [] (by intro b hb; cases hb) (by intro b hb; cases hb)
  unfold printL
  rw [if_pos hk]
  rw [List.nil_append, List.append_nil] at h
  exact h
theorem parse_blanks (e : Ev) (hk : kindOk e.kind) (hi : intsOk e) : parseE ([32, 32] ++ (printL e ++ [32])) = some (usedE e) := by
  have h := parse_print e hk hi [32, 32] [32] (by intro b hb; simpa using hb) (by intro b hb; simpa using hb)
  unfold printL
  rw [if_pos hk]
  exact h
theorem print_inj (a b : Ev) (ha : kindOk a.kind) (hb : kindOk b.kind) (ia : intsOk a) (ib : intsOk b) : printL a = printL b ↔ usedE a = usedE b := by
  constructor
  · intro h
    have h1 := parse_printL a ha ia
    rw [h, parse_printL b hb ib] at h1
    exact (Option.some.inj h1).symm
  · intro h
    rw [← print_used a, h, print_used b]
theorem printL_len (e : Ev) (hi : intsOk e) (h1 : e.name.length ≤ 1048576) (h2 : e.other.length ≤ 1048576) (h3 : e.data.length ≤ 1048576) (h4 : e.keep.length ≤ 1048576) : (printL e).length ≤ 100000000 := by
  unfold printL
  split
  · rename_i hk
    have := print_len e hk hi
    omega
  · simp
end Go.Proofs.YtjplgcmfifoefaaDoor
