/- conf.escape. No condition beyond those named in each lemma. -/
import Derived.Test.YtjplgcmfifoefaaDoorGsT
namespace Go.Proofs.YtjplgcmfifoefaaDoor
open Go.RowKit Go.Shelf Go.Maps
set_option linter.unusedVariables false
set_option linter.unusedSimpArgs false
attribute [local go_sem] Oper.semAt_some

def escZ (l : Bs) : UInt8 × Nat := (escL l).getD (0, 0)
theorem nibZ_some {c : UInt8} {x : Nat} (h : nib c = some x) : nibZ c = (x : Int) ∧ x < 16 := by
  refine ⟨by unfold nibZ; rw [h], ?_⟩
  unfold nib at h
  split at h
  · injection h with h; omega
  · split at h
    · injection h with h; omega
    · cases h
theorem nibZ_none {c : UInt8} (h : nib c = none) : nibZ c = -1 := by unfold nibZ; rw [h]
set_option maxRecDepth 100000 in
set_option maxHeartbeats 4000000 in
theorem esc_any (s : ByteArray) (hs : s.size ≤ 1099511627776) (w : World) : Calls Tryd.prog 43 #[.string s] w fun e w' => e = .returned (.tuple #[.int .u8 ((escZ s.data.toList).1.toNat : Int), .int .i64 ((escZ s.data.toList).2 : Nat)]) ∧ Below w.heap.size w w' := by
  obtain ⟨l, hl⟩ : ∃ l, s.data.toList = l := ⟨_, rfl⟩
  have hsz : s.size = l.length := by rw [← hl]; simp
  cases l with
  | nil =>
    have he : s.toList.isEmpty = true := by rw [Lib.toList_data, hl]; rfl
    have hv : Hid (escZ s.data.toList = (0, 0)) := Lib.hid (by rw [hl]; rfl)
    clear hl hsz
    go_enter Tryd.func43, Tryd.ntmps43
    go_wp2_with (fail)
    go_ret2
    exact ⟨by rw [hv.out]; rfl, Below.refl _ _⟩
  | cons a u =>
    have he : s.toList.isEmpty = false := by rw [Lib.toList_data, hl]; rfl
    have h0 : 0 < s.size := by rw [hsz]; simp
    have hI0 : (0 : Int) < s.size := by omega
    have ha : s[0] = a := by
      have : s[0] = s.data.toList[0]'(by simpa using h0) := rfl
      rw [this]; simp [hl]
    have hE : ∀ r, escL (a :: u) = r → escZ s.data.toList = r.getD (0, 0) := fun r h => by unfold escZ; rw [hl, h]
    by_cases c1 : a.toNat = 34
    · have f1 : (((s[0].toNat : Nat) : Int) == 34) = true := beq_iff_eq.2 (by rw [ha]; omega)
      have hv : Hid (escZ s.data.toList = (s[0], 1)) := Lib.hid (by rw [hE (some (a, 1)) (by unfold escL; dsimp only; rw [if_pos (.inl c1)]), ha]; rfl)
      clear hl hsz hE ha c1
      go_enter Tryd.func43, Tryd.ntmps43
      go_wp2_with (fail)
      go_ret2
      exact ⟨by rw [hv.out]; rfl, Below.refl _ _⟩
    have f1 : (((s[0].toNat : Nat) : Int) == 34) = false := beq_eq_false_iff_ne.2 (by rw [ha]; omega)
    by_cases c2 : a.toNat = 92
    · have f2 : (((s[0].toNat : Nat) : Int) == 92) = true := beq_iff_eq.2 (by rw [ha]; omega)
      have hv : Hid (escZ s.data.toList = (s[0], 1)) := Lib.hid (by rw [hE (some (a, 1)) (by unfold escL; dsimp only; rw [if_pos (.inr c2)]), ha]; rfl)
      clear hl hsz hE ha c1 c2
      go_enter Tryd.func43, Tryd.ntmps43
      go_wp2_with (fail)
      go_ret2
      exact ⟨by rw [hv.out]; rfl, Below.refl _ _⟩
    have f2 : (((s[0].toNat : Nat) : Int) == 92) = false := beq_eq_false_iff_ne.2 (by rw [ha]; omega)
    have c12 : ¬ (a.toNat = 34 ∨ a.toNat = 92) := by omega
    by_cases c3 : a.toNat = 110
    · have f3 : (((s[0].toNat : Nat) : Int) == 110) = true := beq_iff_eq.2 (by rw [ha]; omega)
      have hv : Hid (escZ s.data.toList = (10, 1)) := Lib.hid (by rw [hE (some (10, 1)) (by unfold escL; dsimp only; rw [if_neg c12, if_pos c3])]; rfl)
      clear hl hsz hE ha c1 c2 c3 c12
      go_enter Tryd.func43, Tryd.ntmps43
      go_wp2_with (fail)
      go_ret2
      exact ⟨by rw [hv.out]; rfl, Below.refl _ _⟩
    have f3 : (((s[0].toNat : Nat) : Int) == 110) = false := beq_eq_false_iff_ne.2 (by rw [ha]; omega)
    by_cases c4 : a.toNat = 116
    · have f4 : (((s[0].toNat : Nat) : Int) == 116) = true := beq_iff_eq.2 (by rw [ha]; omega)
      have hv : Hid (escZ s.data.toList = (9, 1)) := Lib.hid (by rw [hE (some (9, 1)) (by unfold escL; dsimp only; rw [if_neg c12, if_neg c3, if_pos c4])]; rfl)
      clear hl hsz hE ha c1 c2 c3 c4 c12
      go_enter Tryd.func43, Tryd.ntmps43
      go_wp2_with (fail)
      go_ret2
      exact ⟨by rw [hv.out]; rfl, Below.refl _ _⟩
    have f4 : (((s[0].toNat : Nat) : Int) == 116) = false := beq_eq_false_iff_ne.2 (by rw [ha]; omega)
    by_cases c5 : a.toNat = 120
    · have f5 : (((s[0].toNat : Nat) : Int) == 120) = true := beq_iff_eq.2 (by rw [ha]; omega)
      by_cases c6 : 2 < s.size
      · have hI1 : (1 : Int) < s.size := by omega
        have hI2 : (2 : Int) < s.size := by omega
        obtain ⟨p, q, t, rfl⟩ : ∃ p q t, u = p :: q :: t := by
          rw [hsz] at c6
          match u, c6 with
          | [], h => simp at h
          | [_], h => simp at h
          | p :: q :: t, _ => exact ⟨p, q, t, rfl⟩
        have b1 : 1 < s.size := by omega
        clear hsz
        have g1 : s.data.toList[1]? = some p := by rw [hl]; rfl
        have g2 : s.data.toList[2]? = some q := by rw [hl]; rfl
        have hp : s[1] = p := by
          have : s[1] = s.data.toList[1]'(by simp; omega) := rfl
          rw [this]; simp [hl]
        have hq : s[2] = q := by
          have : s[2] = s.data.toList[2]'(by simp; omega) := rfl
          rw [this]; simp [hl]
        have hX : escL (a :: p :: q :: t) = (match nib p, nib q with | some x, some y => some (UInt8.ofNat (16 * x + y), 3) | _, _ => none) := by
          unfold escL; dsimp only; rw [if_neg c12, if_neg c3, if_neg c4, if_pos c5]
          rfl
        cases hnp : nib p with
        | none =>
          have e1 := nibZ_none hnp
          have k1 : ¬ (0 : Int) ≤ nibZ s[1] := by rw [hp, e1]; decide
          have hv : Hid (escZ s.data.toList = (0, 0)) := Lib.hid (by rw [hE _ hX, hnp]; rfl)
          clear hl hE ha c1 c2 c3 c4 c5 c12 hX e1 hnp hp hq g1 g2
          go_enter Tryd.func43, Tryd.ntmps43
          go_wp2_with (go_at_call 61; refine (nibble_any _ _).mono ?_; rintro e w' ⟨rfl, rfl⟩)
          go_ret2
          exact ⟨by rw [hv.out]; rfl, Below.refl _ _⟩
        | some x =>
          obtain ⟨e1, hx⟩ := nibZ_some hnp
          have k1 : (0 : Int) ≤ nibZ s[1] := by rw [hp, e1]; omega
          cases hnq : nib q with
          | none =>
            have e2 := nibZ_none hnq
            have k2 : ¬ (0 : Int) ≤ nibZ s[2] := by rw [hq, e2]; decide
            have hv : Hid (escZ s.data.toList = (0, 0)) := Lib.hid (by rw [hE _ hX, hnp, hnq]; rfl)
            clear hl hE ha c1 c2 c3 c4 c5 c12 hX e1 e2 hnp hnq hp hq g1 g2
            go_enter Tryd.func43, Tryd.ntmps43
            go_wp2_with (go_at_call 61; refine (nibble_any _ _).mono ?_; rintro e w' ⟨rfl, rfl⟩)
            go_ret2
            exact ⟨by rw [hv.out]; rfl, Below.refl _ _⟩
          | some y =>
            obtain ⟨e2, hy⟩ := nibZ_some hnq
            have k2 : (0 : Int) ≤ nibZ s[2] := by rw [hq, e2]; omega
            have hv : Hid (escZ s.data.toList = (UInt8.ofNat (16 * x + y), 3)) := Lib.hid (by rw [hE _ hX, hnp, hnq]; rfl)
            have hb : Hid ((UInt8.ofNat (16 * x + y)).toNat = 16 * x + y) := Lib.hid (by simp; omega)
            have G1 := Lib.hid (And.intro g1 (And.intro g2 (And.intro e1 e2)))
            clear hl hE ha c1 c2 c3 c4 c5 c12 hX e1 e2 hnp hnq hp hq g1 g2
            go_enter Tryd.func43, Tryd.ntmps43
            go_upto_region 10 with (go_at_call 61; refine (nibble_any _ _).mono ?_; rintro e w' ⟨rfl, rfl⟩)
            obtain ⟨g1, g2, e1, e2⟩ := G1.out
            refine wp_region_steps 11 [eqS (.string s), eqS (.int .u8 (((p.toNat : Nat) : Int))), eqS (.int .i64 (((x : Nat) : Int))), eqS (.int .i64 (((16 * x : Nat) : Int))), eqS (.string s), eqS (.int .u8 (((q.toNat : Nat) : Int))), eqS (.int .i64 (((y : Nat) : Int))), eqS (.int .i64 (((16 * x + y : Nat) : Int))), eqS (.int .u8 (((16 * x + y : Nat) : Int))), eqS (.int .u8 (((16 * x + y : Nat) : Int))), eqS (.int .i64 (3))] [47, 48, 49, 50, 51, 52, 53, 54, 55, 2, 3] follows_mixed (by kernel_rfl) (by kernel_rfl) ?_ ?_
            · skip
              refine Steps.cons (fun a' w' hG hB dep => gs_move (want_none rfl) _ rfl (id (hG.other 0 rfl))) ?_
              refine Steps.cons (fun a' w' hG hB dep => gs_istr (want_none rfl) _ _ rfl s 1 p (dep 0 rfl 47 rfl) rfl g1 rfl) ?_
              refine Steps.cons (fun a' w' hG hB dep => gs_call (want_none rfl) _ _ _ rfl enter_nibble _ (map1 (dep 1 rfl 48 rfl)) ((nibble_any p _).mono fun e w2 ⟨hq9, hb9⟩ => ⟨_, hq9, by rw [hb9]; exact Below.refl _ _, (by rw [e1]; rfl)⟩)) ?_
              refine Steps.cons (fun a' w' hG hB dep => gs_mul_nat (want_none rfl) _ _ _ _ rfl 16 x (16 * x) rfl (dep 2 rfl 49 rfl) rfl (by omega) rfl) ?_
              refine Steps.cons (fun a' w' hG hB dep => gs_move (want_none rfl) _ rfl (id (hG.other 0 rfl))) ?_
              refine Steps.cons (fun a' w' hG hB dep => gs_istr (want_none rfl) _ _ rfl s 2 q (dep 4 rfl 51 rfl) rfl g2 rfl) ?_
              refine Steps.cons (fun a' w' hG hB dep => gs_call (want_none rfl) _ _ _ rfl enter_nibble _ (map1 (dep 5 rfl 52 rfl)) ((nibble_any q _).mono fun e w2 ⟨hq9, hb9⟩ => ⟨_, hq9, by rw [hb9]; exact Below.refl _ _, (by rw [e2]; rfl)⟩)) ?_
              refine Steps.cons (fun a' w' hG hB dep => gs_add_nat (want_none rfl) _ _ _ _ rfl (16 * x) y (16 * x + y) (dep 3 rfl 50 rfl) (dep 6 rfl 53 rfl) rfl (by omega) rfl) ?_
              refine Steps.cons (fun a' w' hG hB dep => gs_conv_u8 (want_none rfl) _ rfl (16 * x + y) (by omega) (dep 7 rfl 54 rfl) rfl) ?_
              refine Steps.cons (fun a' w' hG hB dep => gs_assign (want_none rfl) _ rfl (id (dep 8 rfl 55 rfl))) ?_
              refine Steps.cons (fun a' w' hG hB dep => gs_assign (want_none rfl) _ rfl (id rfl)) ?_
              exact Steps.nil
            intro u wz hwz ans
            have hus2 : u 2 = (.int .u8 ((16 * x + y : Nat) : Int)) := ans 9 2 (by decide) rfl
            have hus3 : u 3 = (.int .i64 3) := ans 10 3 (by decide) rfl
            clear ans
            simp only [putAll, List.foldl_cons, List.foldl_nil, Act.put, List.setIfInBounds_toArray, List.set_cons_zero, List.set_cons_succ, hus2, hus3]
            clear hus2 hus3
            simp only [List.drop]
            refine wpList_nil ?_
            clear g1 g2 e1 e2
            go_wp2_with (fail)
            go_ret2
            refine ⟨?_, hwz⟩
            rw [hv.out]
            simp only [hb.out]
            rfl
      · have hI2 : ¬ (2 : Int) < s.size := by omega
        have hv : Hid (escZ s.data.toList = (0, 0)) := Lib.hid (by
          rw [hE none (by
            unfold escL; dsimp only; rw [if_neg c12, if_neg c3, if_neg c4, if_pos c5]
            match u, hsz with
            | [], _ => rfl
            | [_], _ => rfl
            | _ :: _ :: _, h => simp at h; omega)]
          rfl)
        clear hl hsz hE ha c1 c2 c3 c4 c5 c12 c6
        go_enter Tryd.func43, Tryd.ntmps43
        go_wp2_with (fail)
        go_ret2
        exact ⟨by rw [hv.out]; rfl, Below.refl _ _⟩
    have f5 : (((s[0].toNat : Nat) : Int) == 120) = false := beq_eq_false_iff_ne.2 (by rw [ha]; omega)
    have hv : Hid (escZ s.data.toList = (0, 0)) := Lib.hid (by rw [hE none (by unfold escL; dsimp only; rw [if_neg c12, if_neg c3, if_neg c4, if_neg c5])]; rfl)
    clear hl hsz hE ha c1 c2 c3 c4 c5 c12
    go_enter Tryd.func43, Tryd.ntmps43
    go_wp2_with (fail)
    go_ret2
    exact ⟨by rw [hv.out]; rfl, Below.refl _ _⟩
theorem enter_esc (args : Array Value) (w : World) : (callFunc 43 args).run Tryd.prog w = .ok (.enter 43 args) w := by kernel_rfl
end Go.Proofs.YtjplgcmfifoefaaDoor
