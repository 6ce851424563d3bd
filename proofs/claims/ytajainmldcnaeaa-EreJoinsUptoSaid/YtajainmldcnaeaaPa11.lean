/- Part 11 of a proof; packed: the texts that it was made of follow one another. No condition beyond those named in each lemma. -/
import Derived.Test.YtajainmldcnaeaaPa10
import Derived.Test.YtajainmldcnaeaaPa4
namespace Go.Proofs.Ytajainmldcnaeaa
open Go.RowKit Go.Maps
set_option linter.unusedVariables false
set_option linter.unusedSimpArgs false
attribute [local go_sem] Oper.semAt_some

namespace Ere
theorem behL_fuel {p : ByteArray} : ∀ f f' first i, p.size ≤ f + i → p.size ≤ f' + i → behL p f first i = behL p f' first i
  | 0, f', first, i, h, h' => by
    cases f' with
    | zero => rfl
    | succ f' => unfold behL; rw [if_neg (by omega)]
  | f + 1, 0, first, i, h, h' => by unfold behL; rw [if_neg (by omega)]
  | f + 1, f' + 1, first, i, h, h' => by
    unfold behL
    have := nextI_lt (p := p) i
    split
    · exact behL_fuel f f' _ _ (by omega) (by omega)
    · rfl
theorem behL_step {p : ByteArray} {first : Bool} {j : Nat} (h : (decide (j < p.size) && (first || !isAt p j 93)) = true) : behL p (p.size + 1) first j = behL p (p.size + 1) false (nextI p j) := by
  simp only [Bool.and_eq_true, decide_eq_true_eq, Bool.or_eq_true, Bool.not_eq_true'] at h
  conv => lhs; unfold behL
  rw [if_pos]
  · exact behL_fuel _ _ _ _ (by omega) (by omega)
  · refine ⟨h.1, ?_⟩
    rcases h.2 with h2 | h2
    · exact .inl h2
    · right
      intro e
      rw [isAt_of h.1 e] at h2
      cases h2
theorem behL_stop {p : ByteArray} {first : Bool} {j : Nat} (h : (decide (j < p.size) && (first || !isAt p j 93)) = false) : behL p (p.size + 1) first j = j := by
  unfold behL
  rw [if_neg]
  rintro ⟨h1, h2⟩
  rw [decide_eq_true h1, Bool.true_and, Bool.or_eq_false_iff, Bool.not_eq_false'] at h
  rcases h2 with h2 | h2
  · rw [h2] at h; cases h.1
  · exact h2 (isAt_eq h.2)
theorem clsE_fuel {p : ByteArray} : ∀ f f' i, p.size ≤ f + i + 1 → p.size ≤ f' + i + 1 → clsE p f i = clsE p f' i
  | 0, f', i, h, h' => by
    cases f' with
    | zero => rfl
    | succ f' => unfold clsE; rw [if_neg (by omega)]
  | f + 1, 0, i, h, h' => by unfold clsE; rw [if_neg (by omega)]
  | f + 1, f' + 1, i, h, h' => by
    unfold clsE
    split
    · exact clsE_fuel f f' _ (by omega) (by omega)
    · rfl
theorem clsE_step {p : ByteArray} {k : Nat} (h : (decide (k + 1 < p.size) && !(isAt p k 58 && isAt p (k + 1) 93 && !isAt p (k - 1) 91)) = true) : clsE p p.size k = clsE p p.size (k + 1) := by
  simp only [Bool.and_eq_true, decide_eq_true_eq, Bool.not_eq_true', Bool.and_eq_false_iff, Bool.not_eq_false'] at h
  obtain ⟨n, hn⟩ : ∃ n, p.size = n + 1 := ⟨p.size - 1, by omega⟩
  have e : clsE p (n + 1) k = clsE p n (k + 1) := by
    conv => lhs; unfold clsE
    rw [if_pos]
    refine ⟨h.1, ?_⟩
    rintro ⟨a1, a2, a3⟩
    rcases h.2 with (q | q) | q
    · rw [isAt_of (by omega) a1] at q; cases q
    · rw [isAt_of (by omega) a2] at q; cases q
    · exact a3 (isAt_eq q)
  rw [hn, e]
  exact clsE_fuel _ _ _ (by omega) (by omega)
theorem clsE_stop {p : ByteArray} {k : Nat} (hk : 1 ≤ k) (h : (decide (k + 1 < p.size) && !(isAt p k 58 && isAt p (k + 1) 93 && !isAt p (k - 1) 91)) = false) : clsE p p.size k = k := by
  cases hn : p.size with
  | zero => rfl
  | succ n =>
    unfold clsE
    rw [if_neg]
    rintro ⟨h1, h2⟩
    rw [decide_eq_true h1, Bool.true_and, Bool.not_eq_false', Bool.and_eq_true, Bool.and_eq_true, Bool.not_eq_true'] at h
    refine h2 ⟨isAt_eq h.1.1, isAt_eq h.1.2, fun e => ?_⟩
    have := h.2
    rw [isAt_of (by omega) e] at this
    cases this
theorem nextI_le {p : ByteArray} {i : Nat} (hi : i < p.size) : nextI p i ≤ p.size + 2 := by
  unfold nextI
  have key : ∀ n k, k ≤ p.size → clsE p n k ≤ p.size := by
    intro n
    induction n with
    | zero => intro k hk; exact hk
    | succ n ih =>
      intro k hk
      unfold clsE
      split
      · exact ih _ (by omega)
      · exact hk
  have := key p.size (i + 1) (by omega)
  split
  · omega
  · split
    · rename_i h
      simp only [Bool.and_eq_true, decide_eq_true_eq] at h
      omega
    · omega
theorem behL_bound {p : ByteArray} : ∀ n first i, i ≤ p.size + 3 → behL p n first i ≤ p.size + 3
  | 0, _, _, h => h
  | n + 1, first, i, h => by
    unfold behL
    split
    · rename_i h2
      exact behL_bound n _ _ (by have := nextI_le h2.1; omega)
    · exact h
theorem behN_le {p : ByteArray} {i : Nat} (hi : i < p.size) : behN p i ≤ p.size + 3 := by
  unfold behN
  exact behL_bound _ _ _ (by split <;> omega)
end Ere
theorem is_in {p : ByteArray} {j c : Nat} (hj : j < p.size) (ci : Int) (hc : ci = (c : Int)) {b : Bool} (h : Ere.isAt p j c = b) : (((p[j].toNat : Nat) : Int) == ci) = b := by
  rw [← h, hc, isAt_in hj rfl]
theorem is_ne {p : ByteArray} {j c : Nat} (hj : j < p.size) (ci : Int) (hc : ci = (c : Int)) {b : Bool} (h : Ere.isAt p j c = b) : (((p[j].toNat : Nat) : Int) != ci) = !b := by
  rw [bne, is_in hj ci hc h]
set_option maxRecDepth 100000 in
set_option maxHeartbeats 16000000 in
theorem behind_any (p : ByteArray) (i : Nat) (hi : i < p.size) (hp : p.size ≤ 1099511627776) (w : World) :
    Calls Try.prog 47 #[.string p, .int .i64 (i : Int)] w fun e w' => e = .returned (.int .i64 ((Ere.behN p i : Nat) : Int)) ∧ w' = w := by
  obtain ⟨R, hR⟩ : ∃ R, Ere.behN p i = R := ⟨_, rfl⟩
  rw [hR]
  unfold Ere.behN at hR
  obtain ⟨b94, hb94⟩ : ∃ b, Ere.isAt p (i + 1) 94 = b := ⟨_, rfl⟩
  rw [hb94] at hR
  replace hR := Lib.hid hR
  replace hb94 := Lib.hid hb94
  have hpI : (p.size : Int) ≤ 1099511627776 := by omega
  have hiI : (i : Int) < p.size := by omega
  have hi0 : ¬ (i : Int) + 1 < 0 := by omega
  go_enter Try.func47, Try.ntmps47
  go_upto_region 2 with (fail)
  go_cut [17] from 8 to 18 (fun v wx => wx = w ∧ v = .bool b94)
  case first =>
    by_cases h1 : i + 1 < p.size
    · have h1I : (i : Int) + 1 < p.size := by omega
      have q := is_in h1 94 rfl hb94.out
      go_wp2_with (fail)
      go_meet
      exact ⟨by trivial, by trivial⟩
    · have h1I : ¬ (i : Int) + 1 < p.size := by omega
      have e : b94 = false := by rw [← hb94.out]; exact Ere.isAt_out (by omega)
      subst e
      go_wp2_with (fail)
      go_meet
      exact ⟨by trivial, by trivial⟩
  obtain ⟨hwc, rfl⟩ := hcut
  subst hwc
  clear hb94
  go_upto_if 17 with (fail)
  go_cut [1] from 18 to 20 (fun v wx => wx = wc ∧ v = .int .i64 (((if b94 = true then i + 2 else i + 1 : Nat)) : Int))
  case first =>
    cases b94 with
    | true =>
      go_wp2_with (fail)
      go_meet
      exact ⟨by trivial, by congr 1⟩
    | false =>
      go_wp2_with (fail)
      go_meet
      exact ⟨by trivial, by congr 1⟩
  obtain ⟨hwc, rfl⟩ := hcut
  obtain ⟨j0, hj0⟩ : ∃ j, (if b94 = true then i + 2 else i + 1 : Nat) = j := ⟨_, rfl⟩
  have hj0b : j0 ≤ p.size + 3 := by rw [← hj0]; split <;> omega
  have hR2 := hR.out
  rw [hj0] at hR2 ⊢
  subst hwc
  replace hR := Lib.hid hR2
  clear hR2 hj0 hi0
  go_wp2_with (fail)
  go_loopw [1, 5] (fun iv fv wr => ∃ (j : Nat) (first : Bool), iv = .int .i64 j ∧ fv = .bool first ∧ j ≤ p.size + 3 ∧ wr = wc ∧ Hid (Ere.behL p (p.size + 1) first j = R)) (fun iv _ _ => p.size + 4 - (intOf iv).toNat)
  case atStart => exact ⟨j0, true, rfl, rfl, hj0b, rfl, hR⟩
  case round =>
    clear hR hj0b
    obtain ⟨j, first, rfl, rfl, hjb, hwr, hR⟩ := hrel
    subst hwr
    have hj0 : ¬ (j : Int) < 0 := by omega
    have hjI : (j : Int) ≤ p.size + 3 := by omega
    obtain ⟨b93, hb93⟩ : ∃ b, Ere.isAt p j 93 = b := ⟨_, rfl⟩
    replace hb93 := Lib.hid hb93
    go_upto_region 5 with (fail)
    go_cut [32] from 20 to 33 (fun v wx => wx = wr ∧ v = .bool (decide (j < p.size) && (first || !b93)))
    case first =>
      by_cases h1 : j < p.size
      · have h1I : (j : Int) < p.size := by omega
        have q := is_ne h1 93 rfl hb93.out
        replace h1 := Lib.hid h1
        cases first with
        | true =>
          go_wp2_with (fail)
          go_meet
          exact ⟨by trivial, congrArg Value.bool (by rw [decide_eq_true h1.out]; rfl)⟩
        | false =>
          go_wp2_with (fail)
          go_meet
          exact ⟨by trivial, congrArg Value.bool (by rw [decide_eq_true h1.out]; rfl)⟩
      · have h1I : ¬ (j : Int) < p.size := by omega
        go_wp2_with (fail)
        go_meet
        exact ⟨by trivial, congrArg Value.bool (by rw [decide_eq_false h1]; rfl)⟩
    obtain ⟨hwc, rfl⟩ := hcut
    subst hwc
    cases hgo : (decide (j < p.size) && (first || !b93)) with
    | false =>
      have hj := hR.out
      rw [Ere.behL_stop (by rw [hb93.out]; exact hgo)] at hj
      subst hj
      clear hgo hb93
      go_wp2_with (fail)
      go_ret
      exact ⟨rfl, rfl⟩
    | true =>
      have hj := hR.out
      rw [Ere.behL_step (by rw [hb93.out]; exact hgo)] at hj
      have h1 : j < p.size := by
        simp only [Bool.and_eq_true, decide_eq_true_eq] at hgo
        exact hgo.1
      have h1I : (j : Int) < p.size := by omega
      unfold Ere.nextI at hj
      obtain ⟨b91, hb91⟩ : ∃ b, Ere.isAt p j 91 = b := ⟨_, rfl⟩
      obtain ⟨b58, hb58⟩ : ∃ b, Ere.isAt p (j + 1) 58 = b := ⟨_, rfl⟩
      obtain ⟨b45, hb45⟩ : ∃ b, Ere.isAt p (j + 1) 45 = b := ⟨_, rfl⟩
      obtain ⟨c93, hc93⟩ : ∃ b, Ere.isAt p (j + 2) 93 = b := ⟨_, rfl⟩
      rw [hb91, hb58, hb45, hc93] at hj
      have q91 := is_in h1 91 rfl hb91
      clear hR hgo hb93 hb91
      replace hj := Lib.hid hj
      replace hb58 := Lib.hid hb58
      replace hb45 := Lib.hid hb45
      replace hc93 := Lib.hid hc93
      replace h1 := Lib.hid h1
      have hj1 : ¬ (j : Int) + 1 < 0 := by omega
      have hj2 : ¬ (j : Int) + 2 < 0 := by omega
      go_upto_region 8 with (fail)
      go_cut [35] from 36 to 54 (fun v wx => wx = wc ∧ v = .bool (b91 && b58))
      case first =>
        cases b91 with
        | false =>
          go_wp2_with (fail)
          go_meet
          exact ⟨by trivial, by trivial⟩
        | true =>
          by_cases h2 : j + 1 < p.size
          · have h2I : (j : Int) + 1 < p.size := by omega
            have q := is_in h2 58 rfl hb58.out
            go_wp2_with (fail)
            go_meet
            exact ⟨by trivial, by trivial⟩
          · have h2I : ¬ (j : Int) + 1 < p.size := by omega
            have e : b58 = false := by rw [← hb58.out]; exact Ere.isAt_out (by omega)
            subst e
            go_wp2_with (fail)
            go_meet
            exact ⟨by trivial, by trivial⟩
      obtain ⟨hwc, rfl⟩ := hcut
      subst hwc
      cases hcl : (b91 && b58) with
      | true =>
        have hj5 := hj.out
        rw [hcl, if_pos rfl] at hj5
        replace hj := Lib.hid hj5
        clear hj5 hcl hb45 hc93 hb58 q91
        obtain ⟨E, hE⟩ : ∃ E, Ere.clsE p p.size (j + 1) = E := ⟨_, rfl⟩
        have hj5 := hj.out
        rw [hE] at hj5
        replace hj := Lib.hid hj5
        replace hE := Lib.hid hE
        clear hj5
        go_wp2_with (fail)
        go_loopw [1] (fun iv w2 => ∃ k : Nat, iv = .int .i64 k ∧ j + 1 ≤ k ∧ k ≤ p.size ∧ w2 = wc ∧ Hid (Ere.clsE p p.size k = E)) (fun iv _ => p.size + 4 - (intOf iv).toNat)
        case atStart => exact ⟨j + 1, by congr 1, by omega, by have := h1.out; omega, rfl, hE⟩
        case round =>
          clear hE
          obtain ⟨k, rfl, hk1, hk2, hwr2, hE⟩ := hrel
          subst hwr2
          have hk0 : ¬ (k : Int) < 0 := by omega
          have hk01 : ¬ (k : Int) + 1 < 0 := by omega
          have hkm : ¬ (k : Int) - 1 < 0 := by omega
          have hkI : (k : Int) ≤ p.size := by omega
          have hk1I : 1 ≤ (k : Int) := by omega
          obtain ⟨m, hm⟩ : ∃ m, k = m + 1 := ⟨k - 1, by omega⟩
          obtain ⟨d58, hd58⟩ : ∃ b, Ere.isAt p k 58 = b := ⟨_, rfl⟩
          obtain ⟨d93, hd93⟩ : ∃ b, Ere.isAt p (k + 1) 93 = b := ⟨_, rfl⟩
          obtain ⟨d91, hd91⟩ : ∃ b, Ere.isAt p (k - 1) 91 = b := ⟨_, rfl⟩
          have hmI : (k : Int) - 1 = m := by omega
          have hd91' : Ere.isAt p m 91 = d91 := by rw [← hd91]; congr 1; omega
          replace hd58 := Lib.hid hd58
          replace hd93 := Lib.hid hd93
          replace hd91 := Lib.hid hd91
          replace hd91' := Lib.hid hd91'
          replace hmI := Lib.hid hmI
          replace hm := Lib.hid hm
          go_upto_region 10 with (fail)
          go_cut [81] from 56 to 82 (fun v wx => wx = wr ∧ v = .bool (decide (k + 1 < p.size) && !(d58 && d93 && !d91)))
          case first =>
            by_cases h2 : k + 1 < p.size
            · have h2I : (k : Int) + 1 < p.size := by omega
              have hkl : (k : Int) < p.size := by omega
              have q1 := is_in (show k < p.size by omega) 58 rfl hd58.out
              have q2 := is_in h2 93 rfl hd93.out
              replace h2 := Lib.hid h2
              cases d58 with
              | false =>
                go_wp2_with (fail)
                go_meet
                exact ⟨by trivial, congrArg Value.bool (by rw [decide_eq_true h2.out]; first | rfl | (cases d91 <;> rfl))⟩
              | true =>
                cases d93 with
                | false =>
                  go_wp2_with (fail)
                  go_meet
                  exact ⟨by trivial, congrArg Value.bool (by rw [decide_eq_true h2.out]; first | rfl | (cases d91 <;> rfl))⟩
                | true =>
                  have hml : m < p.size := by have := hm.out; omega
                  have q3 := is_ne hml 91 rfl hd91'.out
                  have hmlI : (m : Int) < p.size := by omega
                  have hm0 : ¬ (m : Int) < 0 := by omega
                  have hmI2 := hmI.out
                  clear hkm
                  go_wp2_with (fail)
                  go_meet
                  exact ⟨by trivial, congrArg Value.bool (by rw [decide_eq_true h2.out]; first | rfl | (cases d91 <;> rfl))⟩
            · have h2I : ¬ (k : Int) + 1 < p.size := by omega
              go_wp2_with (fail)
              go_meet
              exact ⟨by trivial, congrArg Value.bool (by rw [decide_eq_false h2]; rfl)⟩
          obtain ⟨hwc, rfl⟩ := hcut
          subst hwc
          cases hg2 : (decide (k + 1 < p.size) && !(d58 && d93 && !d91)) with
          | true =>
            have hE2 := hE.out
            rw [Ere.clsE_step (by rw [hd58.out, hd93.out, hd91.out]; exact hg2)] at hE2
            have hkl : k + 1 < p.size := by
              simp only [Bool.and_eq_true, decide_eq_true_eq] at hg2
              exact hg2.1
            clear hE hg2 hd58 hd93 hd91 hd91' hmI hm hkm
            replace hE2 := Lib.hid hE2
            go_wp2_with (fail)
            exact ⟨⟨k + 1, by congr 1, by omega, by omega, by trivial, hE2⟩, by simp only [intOf]; omega⟩
          | false =>
            have hE2 := hE.out
            rw [Ere.clsE_stop (by omega) (by rw [hd58.out, hd93.out, hd91.out]; exact hg2)] at hE2
            have hj5 := hj.out
            rw [← hE2] at hj5
            clear hE hg2 hd58 hd93 hd91 hd91' hmI hm hkm hE2 hj
            replace hj5 := Lib.hid hj5
            go_wp2_with (fail)
            exact ⟨⟨k + 2, false, by congr 1, rfl, by omega, by trivial, hj5⟩, by simp only [intOf]; have := h1.out; omega⟩
      | false =>
        have hj5 := hj.out
        rw [hcl, if_neg (by decide)] at hj5
        replace hj := Lib.hid hj5
        clear hj5 hcl hb58 q91
        go_upto_region 13 with (fail)
        go_cut [86] from 87 to 106 (fun v wx => wx = wc ∧ v = .bool (b45 && decide (j + 2 < p.size) && !c93))
        case first =>
          by_cases h2 : j + 2 < p.size
          · have h2I : (j : Int) + 2 < p.size := by omega
            have h3I : (j : Int) + 1 < p.size := by omega
            have q1 := is_in (show j + 1 < p.size by omega) 45 rfl hb45.out
            have q2 := is_ne h2 93 rfl hc93.out
            replace h2 := Lib.hid h2
            cases b45 with
            | false =>
              go_wp2_with (fail)
              go_meet
              exact ⟨by trivial, congrArg Value.bool (by rw [decide_eq_true h2.out]; rfl)⟩
            | true =>
              go_wp2_with (fail)
              go_meet
              exact ⟨by trivial, congrArg Value.bool (by rw [decide_eq_true h2.out]; rfl)⟩
          · have h2I : ¬ (j : Int) + 2 < p.size := by omega
            go_wp2_with (fail)
            go_meet
            exact ⟨by trivial, congrArg Value.bool (by rw [decide_eq_false h2, Bool.and_false, Bool.false_and])⟩
        obtain ⟨hwc, rfl⟩ := hcut
        subst hwc
        have hj5 := hj.out
        clear hj hb45 hc93
        cases hc : (b45 && decide (j + 2 < p.size) && !c93) with
        | true =>
          rw [hc, if_pos rfl] at hj5
          clear hc
          replace hj5 := Lib.hid hj5
          go_wp2_with (fail)
          exact ⟨⟨j + 3, false, by congr 1, rfl, by have := h1.out; omega, by trivial, hj5⟩, by simp only [intOf]; have := h1.out; omega⟩
        | false =>
          rw [hc, if_neg (by decide)] at hj5
          clear hc
          replace hj5 := Lib.hid hj5
          go_wp2_with (fail)
          exact ⟨⟨j + 1, false, by congr 1, rfl, by have := h1.out; omega, by trivial, hj5⟩, by simp only [intOf]; have := h1.out; omega⟩
set_option maxRecDepth 100000 in
set_option maxHeartbeats 16000000 in
theorem bars_any (p : ByteArray) (hp : p.size ≤ 1099511627776) (w : World) :
    Calls Try.prog 20 #[.string p] w fun e w' => e = .returned (.tuple #[.int .i64 (Ere.barsP p).1, .int .i64 (Ere.barsP p).2]) ∧ w' = w := by
  obtain ⟨R, hR⟩ : ∃ R, Ere.barsP p = R := ⟨_, rfl⟩
  rw [hR]
  have hR2 : Ere.Bs p 0 0 0 0 = R := hR
  replace hR := Lib.hid hR2
  clear hR2
  have kB : ∀ (i : Nat) (hi : i < p.size) (W : World), _ := fun i hi W => behind_any p i hi hp W
  replace kB := Lib.hid kB
  have hpI : (p.size : Int) ≤ 1099511627776 := by omega
  go_enter Try.func20, Try.ntmps20
  go_wp2_with (fail)
  go_loopw [4, 5, 6, 7] (fun nv dv mv iv wr => ∃ (n d m : Int) (i : Nat), nv = .int .i64 n ∧ dv = .int .i64 d ∧ mv = .int .i64 m ∧ iv = .int .i64 i ∧ 0 ≤ n ∧ n ≤ i ∧ -(i : Int) ≤ d ∧ d ≤ i ∧ 0 ≤ m ∧ m ≤ i ∧ i ≤ p.size + 4 ∧ wr = w ∧ Hid (Ere.Bs p i n d m = R)) (fun _ _ _ iv _ => p.size + 5 - (intOf iv).toNat)
  case atStart => exact ⟨0, 0, 0, 0, rfl, rfl, rfl, rfl, by omega, by omega, by omega, by omega, by omega, by omega, by omega, rfl, hR⟩
  case round =>
    clear hR
    obtain ⟨n, d, m, i, rfl, rfl, rfl, rfl, hn0, hn1, hd0, hd1, hm0, hm1, hib, hwr, hR⟩ := hrel
    subst hwr
    have hi0 : ¬ (i : Int) < 0 := by omega
    have hiI : (i : Int) ≤ p.size + 4 := by omega
    by_cases h1 : i < p.size
    · have h1I : (i : Int) < p.size := by omega
      have hst := hR.out
      rw [Ere.Bs_step h1] at hst
      have hc : Ere.chr p i = p[i].toNat := by unfold Ere.chr; rw [dif_pos h1]
      obtain ⟨c, hcv⟩ : ∃ c : Nat, p[i].toNat = c := ⟨_, rfl⟩
      rw [hc, hcv] at hst
      have kBi := kB.out i h1 wr
      have hbl := Ere.behN_lt (p := p) i
      obtain ⟨x, hx⟩ : ∃ x, Ere.behN p i = x := ⟨_, rfl⟩
      have hxb : x ≤ p.size + 3 := by rw [← hx]; exact Ere.behN_le h1
      rw [hx] at hst kBi hbl
      clear hR hc hx
      replace hcv := Lib.hid hcv
      have hxI : (x : Int) ≤ p.size + 3 := by omega
      have hixI : (i : Int) < x := by omega
      by_cases q92 : c = 92
      · rw [if_pos q92] at hst
        have e92 : ((c : Int) == 92) = true := beq_iff_eq.2 (by omega)
        replace hst := Lib.hid hst
        replace q92 := Lib.hid q92
        go_upto_region 6 with (fail)
        rw [hcv.out]
        clear hcv
        go_wp2_with (fail)
        exact ⟨⟨n, d, m, i + 2, rfl, rfl, rfl, by congr 1, hn0, by omega, by omega, by omega, hm0, by omega, by omega, by trivial, hst⟩, by simp only [intOf]; omega⟩
      have e92 : ((c : Int) == 92) = false := beq_eq_false_iff_ne.2 (by omega)
      rw [if_neg q92] at hst
      by_cases q91 : c = 91
      · rw [if_pos q91] at hst
        have e91 : ((c : Int) == 91) = true := beq_iff_eq.2 (by omega)
        replace hst := Lib.hid hst
        replace q91 := Lib.hid q91
        go_upto_region 6 with (fail)
        rw [hcv.out]
        clear hcv
        go_wp2_with (go_at_call 47; refine kBi.mono ?_; rintro e wy ⟨rfl, hwy⟩; rw [hwy]; clear hwy)
        exact ⟨⟨n, d, m, x + 1, rfl, rfl, rfl, by congr 1, hn0, by omega, by omega, by omega, hm0, by omega, by omega, by trivial, hst⟩, by simp only [intOf]; omega⟩
      have e91 : ((c : Int) == 91) = false := beq_eq_false_iff_ne.2 (by omega)
      rw [if_neg q91] at hst
      by_cases q40 : c = 40
      · rw [if_pos q40] at hst
        have e40 : ((c : Int) == 40) = true := beq_iff_eq.2 (by omega)
        replace hst := Lib.hid hst
        replace q40 := Lib.hid q40
        go_upto_region 6 with (fail)
        rw [hcv.out]
        clear hcv
        go_wp2_with (fail)
        exact ⟨⟨n, d + 1, max m (d + 1), i + 1, rfl, by congr 1, by congr 1, by congr 1, hn0, by omega, by omega, by omega, by omega, by omega, by omega, by trivial, hst⟩, by simp only [intOf]; omega⟩
      have e40 : ((c : Int) == 40) = false := beq_eq_false_iff_ne.2 (by omega)
      rw [if_neg q40] at hst
      by_cases q41 : c = 41
      · rw [if_pos q41] at hst
        have e41 : ((c : Int) == 41) = true := beq_iff_eq.2 (by omega)
        replace hst := Lib.hid hst
        replace q41 := Lib.hid q41
        go_upto_region 6 with (fail)
        rw [hcv.out]
        clear hcv
        go_wp2_with (fail)
        exact ⟨⟨n, d - 1, m, i + 1, rfl, by congr 1, rfl, by congr 1, hn0, by omega, by omega, by omega, by omega, by omega, by omega, by trivial, hst⟩, by simp only [intOf]; omega⟩
      have e41 : ((c : Int) == 41) = false := beq_eq_false_iff_ne.2 (by omega)
      rw [if_neg q41] at hst
      by_cases q124 : c = 124
      · rw [if_pos q124] at hst
        have e124 : ((c : Int) == 124) = true := beq_iff_eq.2 (by omega)
        replace q124 := Lib.hid q124
        by_cases hd : d = 0
        · rw [if_pos hd] at hst
          have ed : (d == 0) = true := beq_iff_eq.2 hd
          replace hst := Lib.hid hst
          replace hd := Lib.hid hd
          go_upto_region 6 with (fail)
          rw [hcv.out]
          clear hcv
          go_wp2_with (fail)
          exact ⟨⟨n + 1, d, m, i + 1, by congr 1, rfl, rfl, by congr 1, by omega, by omega, by omega, by omega, by omega, by omega, by omega, by trivial, hst⟩, by simp only [intOf]; omega⟩
        · rw [if_neg hd] at hst
          have ed : (d == 0) = false := beq_eq_false_iff_ne.2 hd
          replace hst := Lib.hid hst
          replace hd := Lib.hid hd
          go_upto_region 6 with (fail)
          rw [hcv.out]
          clear hcv
          go_wp2_with (fail)
          exact ⟨⟨n, d, m, i + 1, rfl, rfl, rfl, by congr 1, by omega, by omega, by omega, by omega, by omega, by omega, by omega, by trivial, hst⟩, by simp only [intOf]; omega⟩
      have e124 : ((c : Int) == 124) = false := beq_eq_false_iff_ne.2 (by omega)
      rw [if_neg q124] at hst
      replace hst := Lib.hid hst
      clear q92 q91 q40 q41 q124
      go_upto_region 6 with (fail)
      rw [hcv.out]
      clear hcv
      go_wp2_with (fail)
      exact ⟨⟨n, d, m, i + 1, rfl, rfl, rfl, by congr 1, by omega, by omega, by omega, by omega, by omega, by omega, by omega, by trivial, hst⟩, by simp only [intOf]; omega⟩
    · have h1I : ¬ (i : Int) < p.size := by omega
      have hst := hR.out
      rw [Ere.Bs_end (by omega)] at hst
      subst hst
      clear hR
      go_wp2_with (fail)
      go_ret2
      exact ⟨rfl, rfl⟩
end Go.Proofs.Ytajainmldcnaeaa
namespace Go.Proofs.Ytajainmldcnaeaa
open Go.RowKit Go.Maps
set_option linter.unusedVariables false
set_option linter.unusedSimpArgs false
attribute [local go_sem] Oper.semAt_some

set_option maxRecDepth 100000 in
set_option maxHeartbeats 40000000 in
theorem isOk_any (nd : Nd) : nd.isT = true → ∀ (B : Nat) (w : World) (cs : Array Value), NdIn w B nd cs → B ≤ w.heap.size →
    Calls Try.prog 19 #[.agg cs] w fun e w' => e = .returned (.bool true) ∧ Below w.heap.size w w' := by
  induction nd using Nd.ind with
  | h kd st l mi ma ih =>
  intro hT B w cs hin hB
  obtain ⟨A, n, c, cl, rfl, hn, hcl, hmax, hs, hr⟩ := hin.inv
  have hh : headOk kd st n mi ma = true ∧ ∀ x ∈ l, x.isT = true := by
    simp only [Nd.isT, Nd.areT_all, Bool.and_eq_true, List.all_eq_true] at hT
    rw [hn]; exact hT
  have Hsub := Lib.hid hh.2
  have hhd := hh.1
  have Hn := Lib.hid hn
  have Hcl := Lib.hid hcl
  have Hr := Lib.hid hr
  have Ih := Lib.hid ih
  clear hn hcl hr ih hh hin hT
  have hkd : kd = 1 ∨ kd = 6 ∨ kd = 7 ∨ kd = 2 ∨ kd = 3 ∨ kd = 4 ∨ kd = 5 := by
    unfold headOk at hhd
    split at hhd
    · omega
    split at hhd
    · omega
    split at hhd
    · omega
    split at hhd
    · omega
    · cases hhd
  obtain ⟨z, hz⟩ : ∃ z, decide (st = (0 : BSet)) = z := ⟨_, rfl⟩
  have hfact : (kd = 2 ∧ st.getLsbD 10 = false ∧ mi = 0 ∧ ma = 0 ∧ n = 0) ∨ (z = true ∧ ((kd = 1 ∨ kd = 6 ∨ kd = 7) ∧ mi = 0 ∧ ma = 0 ∧ n = 0 ∨ (kd = 3 ∨ kd = 4) ∧ mi = 0 ∧ ma = 0 ∧ 2 ≤ n ∨ kd = 5 ∧ n = 1 ∧ 0 ≤ mi ∧ mi ≤ 255 ∧ (ma = -1 ∨ (mi ≤ ma ∧ ma ≤ 255)))) := by
    by_cases k167 : kd = 1 ∨ kd = 6 ∨ kd = 7
    · rw [headOk_1 k167 hz] at hhd
      simp only [Bool.and_eq_true, decide_eq_true_eq] at hhd
      right
      exact ⟨hhd.1.1.1, .inl ⟨k167, hhd.1.1.2, hhd.1.2, hhd.2⟩⟩
    by_cases k2 : kd = 2
    · subst k2
      rw [headOk_2 rfl] at hhd
      simp only [Bool.and_eq_true, decide_eq_true_eq, Bool.not_eq_true'] at hhd
      exact .inl ⟨rfl, hhd.1.1.1, hhd.1.1.2, hhd.1.2, hhd.2⟩
    by_cases k34 : kd = 3 ∨ kd = 4
    · rw [headOk_3 k34 hz] at hhd
      simp only [Bool.and_eq_true, decide_eq_true_eq] at hhd
      right
      exact ⟨hhd.1.1.1, .inr (.inl ⟨k34, hhd.1.1.2, hhd.1.2, hhd.2⟩)⟩
    · obtain rfl : kd = 5 := by omega
      rw [headOk_5 hz] at hhd
      simp only [Bool.and_eq_true, decide_eq_true_eq, Bool.or_eq_true] at hhd
      right
      exact ⟨hhd.1.1.1.1, .inr (.inr ⟨rfl, hhd.1.1.1.2, hhd.1.1.2, hhd.1.2, hhd.2⟩)⟩
  have Hz := Lib.hid hz
  have Hf := Lib.hid hfact
  clear hz hfact hhd hkd
  go_enter Try.func19, Try.ntmps19
  have h1 := Blk.new w 27 (nodeC kd st A n c mi ma)
  have hB1 : Below w.heap.size w (w.alloc (.cells (nodeC kd st A n c mi ma) 27)) := below_alloc (Below.refl _ _) _
  go_upto_region 1 with (fail)
  obtain ⟨W1, hW1⟩ : ∃ y, y = w.alloc (.cells (nodeC kd st A n c mi ma) 27) := ⟨_, rfl⟩
  rw [← hW1] at h1 hB1 ⊢
  clear hW1
  have hl1 := h1.lt
  have c0 : W1.cell? ⟨w.heap.size, 0, none⟩ = some (.int .i64 kd) := h1.cellv (i := 0) rfl
  have c5 : W1.cell? ⟨w.heap.size, 5, none⟩ = some (.slice A n c) := h1.cellv (i := 5) rfl
  have c6 : W1.cell? ⟨w.heap.size, 6, none⟩ = some (.int .i64 mi) := h1.cellv (i := 6) rfl
  have c7 : W1.cell? ⟨w.heap.size, 7, none⟩ = some (.int .i64 ma) := h1.cellv (i := 7) rfl
  obtain ⟨pl, hpl⟩ : ∃ q, (decide (mi = 0) && decide (ma = 0)) = q := ⟨_, rfl⟩
  go_cut [3] from 5 to 15 (fun v wx => wx = W1 ∧ v = .bool pl)
  case first =>
    by_cases h0 : mi = 0
    · have e0 : (mi == 0) = true := beq_iff_eq.2 h0
      by_cases h2 : ma = 0
      · have e2 : (ma == 0) = true := beq_iff_eq.2 h2
        have hp := Lib.hid (show true = pl by rw [← hpl, decide_eq_true h0, decide_eq_true h2]; rfl)
        replace h0 := Lib.hid h0
        replace h2 := Lib.hid h2
        replace hpl := Lib.hid hpl
        go_wp2_with (fail)
        go_meet
        exact ⟨by trivial, congrArg Value.bool hp.out⟩
      · have e2 : (ma == 0) = false := beq_eq_false_iff_ne.2 h2
        have hp := Lib.hid (show false = pl by rw [← hpl, decide_eq_false h2, Bool.and_false])
        replace h0 := Lib.hid h0
        replace h2 := Lib.hid h2
        replace hpl := Lib.hid hpl
        go_wp2_with (fail)
        go_meet
        exact ⟨by trivial, congrArg Value.bool hp.out⟩
    · have e0 : (mi == 0) = false := beq_eq_false_iff_ne.2 h0
      have hp := Lib.hid (show false = pl by rw [← hpl, decide_eq_false h0, Bool.false_and])
      replace h0 := Lib.hid h0
      replace hpl := Lib.hid hpl
      go_wp2_with (fail)
      go_meet
      exact ⟨by trivial, congrArg Value.bool hp.out⟩
  obtain ⟨hwc, rfl⟩ := hcut
  subst hwc
  replace hpl := Lib.hid hpl
  go_upto_region 2 with (fail)
  refine wp_region_text 5 [eqS (.pointer (some ⟨w.heap.size, 1, none⟩)), eqS (.agg (setC st)), eqS (.agg (setC 0)), eqS (.bool z), eqS (.bool z)] [15, 16, 17, 18, 4] (by kernel_rfl) rfl ?_ ?_
  · skip
    refine Steps.cons (fun a' w' hG hB dep => gs_field (want_none rfl) _ _ _ rfl w.heap.size (0) (1) (hG.other 1 rfl) (fun wz => field_node_1 w.heap.size (0) wz) rfl) ?_
    refine Steps.cons (fun a' w' hG hB dep => gs_load_set_at (want_none rfl) _ rfl w.heap.size (1) (dep 0 rfl 15 rfl) _ (node_st (blk_then h1 hB)) rfl) ?_
    refine Steps.cons (fun a' w' hG hB dep => gs_build_set0 (want_none rfl) rfl rfl) ?_
    refine Steps.cons (fun a' w' hG hB dep => gs_eql_set (want_none rfl) _ _ _ rfl _ _ (dep 1 rfl 16 rfl) (dep 2 rfl 17 rfl) (id (congrArg Value.bool Hz.out))) ?_
    refine Steps.cons (fun a' w' hG hB dep => gs_assign (want_none rfl) _ rfl (id (dep 3 rfl 18 rfl))) ?_
    exact Steps.nil
  intro u w2 hB2 ans
  have u4 : u 4 = .bool z := ans 4 4 (by decide) rfl
  clear ans
  simp only [putAll, List.foldl_cons, List.foldl_nil, Act.put, List.setIfInBounds_toArray, List.set_cons_zero, List.set_cons_succ, u4]
  clear u4
  simp only [List.drop]
  refine wpList_nil ?_
  replace h1 := blk_then h1 hB2
  replace hB1 := below_then hB1 hB2
  clear hB2 c0 c5 c6 c7 hl1
  have hl1 := h1.lt
  have c0 : w2.cell? ⟨w.heap.size, 0, none⟩ = some (.int .i64 kd) := h1.cellv (i := 0) rfl
  have c5 : w2.cell? ⟨w.heap.size, 5, none⟩ = some (.slice A n c) := h1.cellv (i := 5) rfl
  have c6 : w2.cell? ⟨w.heap.size, 6, none⟩ = some (.int .i64 mi) := h1.cellv (i := 6) rfl
  have c7 : w2.cell? ⟨w.heap.size, 7, none⟩ = some (.int .i64 ma) := h1.cellv (i := 7) rfl
  go_upto_block 0 with (fail)
  go_cut [5] from 21 to 109 (fun _ wx => wx = w2)
  case first =>
    rcases Hf.out with ⟨k2, hb, m0, m1, n0⟩ | ⟨hzt, hq⟩
    · obtain rfl : pl = true := by rw [← hpl.out, decide_eq_true m0, decide_eq_true m1]; rfl
      subst k2 n0
      have cw : w2.cell? ⟨w.heap.size, 1, none⟩ = some (.int .u64 (word st 0)) := h1.cellv (i := 1) rfl
      have hbit : (word st 0 : Int) / 1024 % 2 = 0 := by
        have h := hb
        rw [word_bit (by omega), Nat.testBit_eq_decide_div_mod_eq] at h
        simp only [decide_eq_false_iff_not] at h
        have h' : ¬ word st 0 / 1024 % 2 = 1 := h
        omega
      replace hbit := Lib.hid hbit
      clear hb m0 m1
      go_wp2_with (fail)
      all_goals
        go_ret
        refine ⟨congrArg (fun v => Ending.returned (.bool v)) ?_, hB1⟩
        have e : (word st 0 : Int) / 1024 = ((word st 0 / 1024 : Nat) : Int) := by omega
        rw [e, beq_iff_eq]
        have hw := word_lt' st 0
        have hz0 := hbit.out
        have e2 : word st 0 / 1024 &&& 1 = 0 := by rw [Nat.and_one_is_mod]; omega
        have e3 := u64_and_nat (word st 0 / 1024) 1 (by omega) (by omega)
        rw [e2] at e3
        exact e3
    · subst hzt
      rcases hq with ⟨k, m0, m1, n0⟩ | ⟨k, m0, m1, n2⟩ | ⟨k, n1, m0, m1, m2⟩
      · obtain rfl : pl = true := by rw [← hpl.out, decide_eq_true m0, decide_eq_true m1]; rfl
        subst n0
        clear m0 m1
        rcases k with k | k | k <;> subst k
        all_goals
          go_wp2_with (fail)
          go_ret
          exact ⟨by rfl, hB1⟩
      · obtain rfl : pl = true := by rw [← hpl.out, decide_eq_true m0, decide_eq_true m1]; rfl
        clear m0 m1
        have hn2 : ¬ (n : Int) < 2 := by omega
        clear n2
        rcases k with k | k <;> subst k
        all_goals
          go_wp2_with (fail)
          go_meet
          trivial
      · subst k n1
        clear hpl
        have hmi : ¬ mi < 0 := by omega
        have hmi2 : ¬ 255 < mi := by omega
        have hma : ¬ ma < -1 := by omega
        have hma2 : ¬ 255 < ma := by omega
        by_cases h0 : 0 ≤ ma
        · have hm3 : ¬ ma < mi := by omega
          clear m0 m1 m2
          go_wp2_with (fail)
          go_meet
          trivial
        · clear m0 m1 m2
          go_wp2_with (fail)
          go_meet
          trivial
  case rest =>
    subst hcut
    clear Hz Hf hpl c0 c6 c7
    go_wp2_with (fail)
    go_loopw [112] (fun i wr => ∃ k : Nat, k ≤ n ∧ i = .int .i64 k ∧ Below w.heap.size w wr) (fun i _ => n - (intOf i).toNat)
    case atStart => exact ⟨0, by omega, rfl, hB1⟩
    case round =>
      clear hB1 h1
      obtain ⟨k, hk, rfl, hBw⟩ := hrel
      by_cases hkn : k < n
      · have hkI : (k : Int) < n := by omega
        have hkl : k < l.length := by rw [← Hn.out]; exact hkn
        have hkc : k < cl.length := by rw [Hcl.out]; exact hkl
        obtain ⟨ba, off, rfl, hba, hrows⟩ := hs.at_ (by omega)
        have hrow := (hrows k hkc).keep (hBw.block ba (by omega))
        have hsub := Hr.out k hkl hkc
        obtain ⟨⟨kd', st', l', mi', ma'⟩, hx⟩ : ∃ x, x = l[k] := ⟨_, rfl⟩
        have hmem : l[k] ∈ l := List.getElem_mem hkl
        rw [← hx] at hsub hmem
        obtain ⟨A', n', c', cl', hce, -⟩ := hsub.inv
        rw [hce] at hrow hsub
        have hcall := fun W h => Ih.out _ hmem (Hsub.out _ hmem) B W _ (hsub.keep (w' := W) h)
        have Hcall := Lib.hid hcall
        have hkb : k < 1099511628000 := by omega
        clear hcall hx hce hsub hrows
        go_upto_region 21 with (first | (refine wl_load_node_at rfl _ rfl _ _ rfl _ _ _ _ _ _ _ hrow ?_) | (refine wl_store_node rfl _ _ rfl _ kd' st' A' n' c' mi' ma' rfl rfl _ rfl (Blk.new _ _ zeroC) ?_; intro w4 h6 hg6))
        have hB4 := below_grown (below_alloc (Below.refl wr.heap.size wr) (.cells zeroC 27)) hg6 (Nat.le_refl _)
        have hBw4 := below_then hBw hB4
        have hc4 := Hcall.out w4 (fun j hj => hBw4.block j (by omega)) (by have := hBw4.size; omega)
        obtain ⟨g6, hg6e⟩ : ∃ y, y = wr.heap.size := ⟨_, rfl⟩
        rw [← hg6e] at h6 ⊢
        clear hg6 hg6e hB4
        go_wp2_with (first | (refine wl_load_node rfl _ rfl g6 rfl kd' st' A' n' c' mi' ma' h6 ?_) | (go_at_call 19; refine hc4.mono ?_; rintro e w5 ⟨rfl, hB5⟩))
        exact ⟨⟨k + 1, by omega, by congr 1, below_then hBw4 hB5⟩, by simp only [intOf]; omega⟩
      · have hkI : ¬ (k : Int) < n := by omega
        go_wp2_with (fail)
        go_ret
        exact ⟨rfl, hBw⟩
end Go.Proofs.Ytajainmldcnaeaa
namespace Go.Proofs.Ytajainmldcnaeaa
open Go.RowKit Go.Maps
set_option linter.unusedVariables false
set_option linter.unusedSimpArgs false
attribute [local go_sem] Oper.semAt_some

theorem ndIn_zero (w : World) (B : Nat) : NdIn w B Ere.zeroN zeroV.C := .mk 0 0 [] 0 0 none 0 0 [] rfl rfl (by omega) (.inl rfl) (fun i h => absurd h (by simp))
set_option maxRecDepth 100000 in
set_option maxHeartbeats 16000000 in
theorem trees_any (p : ByteArray) (hp : p.size ≤ 1099511627776) (w : World) (hM : Mx w) :
    Calls Try.prog 4 #[.string p] w fun e w' => e = .returned (.bool true) ∧ Below w.heap.size w w' := by
  have kK := known4_any w hM
  have kP : ∀ W, Mx W → _ := fun W hW => parse_any p W hW
  have kQ : ∀ W, Mx W → _ := fun W hW => parse_any (Ere.brk p) W hW
  have kB := bars_any p hp
  obtain ⟨hbad, hgood⟩ := Ere.trees_hold p
  obtain ⟨⟨nd, a, e⟩, hr⟩ : ∃ r, Ere.parseR p = r := ⟨_, rfl⟩
  rw [hr] at kP hbad hgood
  simp only at kP hbad hgood
  clear hr
  replace kP := Lib.hid kP
  replace kQ := Lib.hid kQ
  replace kB := Lib.hid kB
  replace hbad := Lib.hid hbad
  replace hgood := Lib.hid hgood
  have hpI : (p.size : Int) ≤ 1099511627776 := by omega
  go_enter Try.func4, Try.ntmps4
  go_upto_region 3 with (go_at_call 11; refine kK.mono ?_; rintro en w1 ⟨rfl, hB1⟩)
  have hM1 := hM.then_ hB1
  have kP1 := kP.out w1 hM1
  clear kK kP
  go_upto_region 4 with (first
    | (go_at_call 12; refine kP1.mono ?_; rintro en w2 ⟨hB2, x1, bs1, rfl, hO1⟩)
    | (refine wl_store_nv rfl _ _ rfl _ x1 rfl rfl _ rfl (Blk.new _ _ zeroC) ?_; intro w3 k3 hg3))
  have hBa := below_alloc (Below.refl w2.heap.size w2) (.cells zeroC 27)
  have hB3 : Below w.heap.size w w3 := below_grown (below_then (below_then hB1 hB2) hBa) hg3 (by have := hB1.size; have := hB2.size; omega)
  have hO3 := (hO1.then_ hBa).keep (w' := w3) (fun b hb => hg3.block b (by have := (hO1.lt b hb).2; simp; omega) (fun e => by injection e with e; have := (hO1.lt b hb).2; omega))
  obtain ⟨g3, hg3e⟩ : ∃ y, y = w2.heap.size := ⟨_, rfl⟩
  rw [← hg3e] at k3 ⊢
  have hM3 := Lib.hid (hM.then_ hB3)
  clear hg3 hO1 hB1 hB2 kP1 hBa hg3e hM1 hM
  have kN := num4_any (e : Int) w3
  by_cases he : e = 0
  · obtain ⟨ha, hT, hp1, hp2, hsz, c, h, hbars, hq1, hq2, hq3⟩ := hgood.out he
    have heI : ((e : Int) != 0) = false := by rw [bne_eq_false_iff_eq]; omega
    have hpl := placesN_eq nd
    obtain ⟨np, hnp⟩ : ∃ q, Ere.placesN nd = q := ⟨_, rfl⟩
    have kPl := placesE_any nd w3.heap.size w3 x1.C hO3.toIn (Nat.le_refl _)
    rw [hpl] at kPl
    rw [hnp] at hp1 hp2 kPl
    have hp1I : ¬ (np : Int) < 1 := by omega
    have hp2I : ¬ (2048 : Int) < np := by omega
    have hszI : (p.size : Int) ≤ 1024 := by omega
    subst ha
    have hN3 := Lib.hid hO3.toIn
    replace hT := Lib.hid hT
    replace hbars := Lib.hid hbars
    replace hq1 := Lib.hid hq1
    replace hq2 := Lib.hid hq2
    replace hq3 := Lib.hid hq3
    replace he := Lib.hid he
    replace hO3 := Lib.hid hO3
    clear hpl hnp hbad hgood hp1 hp2 hsz
    go_upto_region 7 with (first
      | (go_at_call 18; refine kN.mono ?_; rintro en wn ⟨rfl, hwn⟩; rw [hwn]; clear hwn)
      | (refine wl_load_nv rfl _ rfl g3 rfl x1 k3 ?_)
      | (go_at_call 16; refine kPl.mono ?_; rintro en w4 ⟨rfl, hB4⟩))
    have kI := isOk_any nd hT.out w3.heap.size w4 x1.C (hN3.out.keep (fun j hj => hB4.block j hj)) hB4.size
    replace k3 := blk_then k3 hB4
    clear kPl kN
    go_upto_region 9 with (first
      | (refine wl_load_node_g (want_yes rfl rfl rfl) _ rfl g3 rfl x1.kd x1.st x1.A x1.n x1.c x1.mi x1.ma k3 ?_)
      | (go_at_call 19; refine kI.mono ?_; rintro en w5 ⟨rfl, hB5⟩))
    have hB5' := below_then hB4 hB5
    have kB1 := kB.out w5
    rw [hbars.out] at kB1
    have kQ1 := kQ.out w5 (hM3.out.then_ hB5')
    unfold Ere.brk at kQ1
    replace k3 := blk_then k3 hB5
    clear kI kB kQ hB4 hB5
    go_upto_region 10 with (go_at_call 20; refine kB1.mono ?_; rintro en wn ⟨rfl, hwn⟩; rw [hwn]; clear hwn)
    obtain ⟨R2, hR2⟩ : ∃ R, Ere.parseR (Ere.brk p) = R := ⟨_, rfl⟩
    have hR2u := hR2
    unfold Ere.brk at hR2u
    rw [hR2u] at kQ1
    rw [hR2] at hq1 hq2 hq3
    obtain ⟨nd2, a2, e2⟩ := R2
    simp only at kQ1
    clear hR2u hR2 kB1
    go_upto_region 11 with (first
      | (go_at_call 12; refine kQ1.mono ?_; rintro en w6 ⟨hB6, x2, bs2, rfl, hO6⟩)
      | (refine wl_store_nv rfl _ _ rfl _ x2 rfl rfl _ rfl (Blk.new _ _ zeroC) ?_; intro w7 k7 hg7))
    have hBa := below_alloc (Below.refl w6.heap.size w6) (.cells zeroC 27)
    have hB7 := below_then hB6 (below_grown hBa hg7 (Nat.le_refl _))
    have hO7 := (hO6.then_ hBa).keep (w' := w7) (fun b hb => hg7.block b (by have := (hO6.lt b hb).2; simp; omega) (fun e => by injection e with e; have := (hO6.lt b hb).2; omega))
    have hB8 := below_then hB5' hB7
    have hB9 := below_then hB3 hB8
    obtain ⟨g7, hg7e⟩ : ∃ y, y = w6.heap.size := ⟨_, rfl⟩
    rw [← hg7e] at k7 ⊢
    replace k3 := blk_then k3 hB7
    have kN := num4_any (e2 : Int) w7
    have hN7 := Lib.hid hO7.toIn
    have hN3' := Lib.hid (hN3.out.keep (w' := w7) (fun j hj => hB8.block j hj))
    have hsw := Lib.hid hB8.size
    clear hg7 hg7e hBa hO6 hO7 hB6 hB7 kQ1 hB3 hB5' hB8 hN3
    by_cases h1 : 1022 < p.size
    · have h1I : (1022 : Int) < p.size := by omega
      have hr := hq1.out h1
      injection hr with hr1 hr2
      injection hr2 with hr2 hr3
      have e1 : ((e2 : Int) == 40) = true := by rw [beq_iff_eq]; omega
      have e3 : ((a2 : Int) == 1024) = true := by rw [beq_iff_eq]; omega
      clear hq1 hq2 hq3 hr1 hr2 hr3 h1
      go_wp2_with (first | (go_at_call 18; refine kN.mono ?_; rintro en wn ⟨rfl, hwn⟩; rw [hwn]; clear hwn))
      go_ret
      exact ⟨rfl, hB9⟩
    · have h1I : ¬ (1022 : Int) < p.size := by omega
      by_cases h2 : 64 ≤ h
      · have h2I : (64 : Int) ≤ h := by omega
        have hr := hq2.out (by omega) h2
        have e1 : ((e2 : Int) == 47) = true := by rw [beq_iff_eq]; omega
        clear hq1 hq2 hq3 hr h1 h2
        go_wp2_with (first | (go_at_call 18; refine kN.mono ?_; rintro en wn ⟨rfl, hwn⟩; rw [hwn]; clear hwn))
        go_ret
        exact ⟨rfl, hB9⟩
      · have h2I : ¬ (64 : Int) ≤ h := by omega
        have hr := hq3.out (by omega) (by omega)
        injection hr with hr1 hr2
        injection hr2 with hr2 hr3
        have e1 : ((e2 : Int) == 0) = true := by rw [beq_iff_eq]; omega
        have e3 : ((a2 : Int) == 0) = true := by rw [beq_iff_eq]; omega
        subst hr1
        have kS := same4_any nd2 nd2 w7.heap.size w7 x2.C x1.C hN7.out (NdIn.more hsw.out hN3'.out) (Nat.le_refl _)
        rw [sameB_self] at kS
        clear hq1 hq2 hq3 hr2 hr3 h1 h2
        go_wp2_with (first
          | (go_at_call 18; refine kN.mono ?_; rintro en wn ⟨rfl, hwn⟩; rw [hwn]; clear hwn)
          | (refine wl_load_node_g (want_yes rfl rfl rfl) _ rfl g7 rfl x2.kd x2.st x2.A x2.n x2.c x2.mi x2.ma k7 ?_)
          | (refine wl_load_node_g (want_yes rfl rfl rfl) _ rfl g3 rfl x1.kd x1.st x1.A x1.n x1.c x1.mi x1.ma k3 ?_)
          | (go_at_call 14; refine kS.mono ?_; rintro en w9 ⟨rfl, hBz⟩))
        go_ret
        exact ⟨rfl, below_then hB9 hBz⟩
  · obtain ⟨hz, ha, hE, hL⟩ := hbad.out he
    have heI : ((e : Int) != 0) = true := by rw [bne_iff_ne]; omega
    subst hz
    have haI : (a : Int) ≤ p.size := by omega
    have ha0 : (0 : Int) ≤ a := by omega
    have kS := fun W (hW : Below w3.heap.size w3 W) => same4_any Ere.zeroN Ere.zeroN w3.heap.size W x1.C zeroV.C (hO3.toIn.keep (w' := W) (fun j hj => hW.block j hj)) (ndIn_zero _ _) hW.size
    rw [sameB_self] at kS
    have kS3 := kS w3 (Below.refl _ _)
    have kNn := fun W => num4_any (e : Int) W
    clear kS hO3 hgood hbad
    replace he := Lib.hid he
    have key : ((40 ≤ e ∧ e ≤ 48) ∧ p.size ≤ 1024) ∨ ((40 ≤ e ∧ e ≤ 48) ∧ ¬ p.size ≤ 1024 ∧ e = 40 ∧ a = 1024) ∨ (e = 30 ∧ p.size ≤ 1024) := by omega
    clear hE hL
    rcases key with ⟨⟨h1, h2⟩, h3⟩ | ⟨⟨h1, h2⟩, h3, h4, h5⟩ | ⟨h1, h3⟩
    · have h1I : (40 : Int) ≤ e := by omega
      have h2I : (e : Int) ≤ 48 := by omega
      have h3I : (p.size : Int) ≤ 1024 := by omega
      clear h1 h2 h3
      go_wp2_with (first
        | (go_at_call 18; refine (kNn _).mono ?_; rintro en wn ⟨rfl, hwn⟩; rw [hwn]; clear hwn)
        | (refine wl_load_nv rfl _ rfl g3 rfl x1 k3 ?_)
        | (refine wl_build_node rfl _ rfl zeroV #[] rfl (fun w => build_nzero w) ?_)
        | (go_at_call 14; refine kS3.mono ?_; rintro en w9 ⟨rfl, hBz⟩))
      go_ret
      exact ⟨rfl, below_then hB3 hBz⟩
    · have h1I : (40 : Int) ≤ e := by omega
      have h2I : (e : Int) ≤ 48 := by omega
      have h3I : ¬ (p.size : Int) ≤ 1024 := by omega
      have h4I : ((e : Int) == 40) = true := by rw [beq_iff_eq]; omega
      have h5I : ((a : Int) == 1024) = true := by rw [beq_iff_eq]; omega
      clear h1 h2 h3 h4 h5
      go_wp2_with (first
        | (go_at_call 18; refine (kNn _).mono ?_; rintro en wn ⟨rfl, hwn⟩; rw [hwn]; clear hwn)
        | (refine wl_load_nv rfl _ rfl g3 rfl x1 k3 ?_)
        | (refine wl_build_node rfl _ rfl zeroV #[] rfl (fun w => build_nzero w) ?_)
        | (go_at_call 14; refine kS3.mono ?_; rintro en w9 ⟨rfl, hBz⟩))
      go_ret
      exact ⟨rfl, below_then hB3 hBz⟩
    · have h1I : ¬ (40 : Int) ≤ e := by omega
      have h2I : ((e : Int) == 30) = true := by rw [beq_iff_eq]; omega
      have h3I : (p.size : Int) ≤ 1024 := by omega
      clear h1 h3
      go_wp2_with (first
        | (go_at_call 18; refine (kNn _).mono ?_; rintro en wn ⟨rfl, hwn⟩; rw [hwn]; clear hwn)
        | (refine wl_load_nv rfl _ rfl g3 rfl x1 k3 ?_)
        | (refine wl_build_node rfl _ rfl zeroV #[] rfl (fun w => build_nzero w) ?_)
        | (go_at_call 14; refine kS3.mono ?_; rintro en w9 ⟨rfl, hBz⟩))
      go_ret
      exact ⟨rfl, below_then hB3 hBz⟩
end Go.Proofs.Ytajainmldcnaeaa
namespace Go.Proofs.Ytajainmldcnaeaa
open Go.ChangeShapes Go.WideShapes Go.ChangeAt Go.RowKit
open Go.ChangeMaps (open_string shut_string)
set_option linter.unusedVariables false
set_option linter.unusedSimpArgs false

set_option maxRecDepth 100000 in
theorem ereTrees_contract (H : Type) (enc : TypeId × Value → H) (W : World) (base : Nat) (args : Array Value) (ds gs : List (DataW H)) (before : List MemPlace)
    (hval0 : ∀ (j : Nat) t v, Try.f4.params[j]? = some t → args[j]? = some v → Value.okWide Try.prog W .any base t v)
    (hcond : Rows.uptoSmall H (ds ++ gs) = true) (hM : Mx W)
    (hW : DataW.Whole enc Try.prog Try.f4.params.toList Rows.ereTreesSpec.vars false W args.toList ds gs before) (F : Stop.Interp) :
    Calls Try.prog 4 args W fun e W' => ∃ v, e = .returned v ∧ ((Rows.OpenSpec.upto Rows.ereTreesSpec).at F).post enc Try.prog Try.f4 false true false false W args v W' := by
  have hW' := hW
  obtain ⟨p, q, hA0, hV, rfl, hfz, hnd⟩ := hW
  have hA : DataW.TrodAll enc Try.prog W 0 (fun _ => true) true Try.f4.params.toList args.toList ds p := hA0
  have hval := hval0
  rw [Try.params4] at hA hval
  obtain ⟨v0, vs0, d0, ds0, p0, q0, hargs, rfl, rfl, h0, r0⟩ := trodAll_cons hA
  obtain ⟨rfl, rfl, rfl⟩ := trodAll_nil r0
  obtain rfl : args = #[v0] := by cases args; simp_all
  obtain ⟨rfl, rfl⟩ := trodVars_none hV
  have k0 := h0
  have lt0 : ∀ x ∈ p0, x.block < W.heap.size := by obtain ⟨m, hm⟩ := k0; exact DataW.trod_lt m _ _ _ hm
  have hbulk : Rows.uptoBulkAll ([d0] ++ []) ≤ 1048576 := of_decide_eq_true hcond
  simp only [List.append_nil, Rows.uptoBulkAll] at hbulk
  obtain ⟨s0, rfl, hd0, _⟩ := open_string Try.underlying9 (hval 0 9 v0 rfl rfl) h0
  have b0 : s0.size ≤ 1048576 := by
    rw [hd0] at hbulk
    have := bulk_str (H := H) (l := s0.data.toList) (K := 1048576) (by omega)
    simpa using this
  clear hA0 hval0
  refine (trees_any s0 (by omega) W hM).mono fun e W' ⟨he, bel⟩ => ?_
  subst he
  exact ⟨_, rfl, _, _, _, [], _, [], hW', trodAll_mk1 (shut_bool Try.underlying4 _), (trodAll_cons_mk (Below.trod laidOut (by kernel_rfl) (of_decide_eq_true (by kernel_rfl)) k0 bel lt0) trodAll_mk0), rfl, bel.frame _, fun h => by cases h⟩

set_option maxRecDepth 100000 in
theorem ereTrees_lifted (os : Os) (started : os.Started) (H : Type) (enc : TypeId × Value → H) (F : Stop.Interp) :
    ReturnsInHanded {} Try.checked os 4 .any ((Rows.OpenSpec.upto Rows.ereTreesSpec).pre6 enc Try.prog Try.f4 Rows.ereTreesUptoRow.domain false) (((Rows.OpenSpec.upto Rows.ereTreesSpec).at F).post enc Try.prog Try.f4 false true false false) := by
  refine returnsInHanded_of_cond_shaped (C := Try.checked) (s := Rows.OpenSpec.upto Rows.ereTreesSpec) (k := Rows.uptoSmall) rfl own started (by kernel_rfl) Try.func4
    (OpenSpec.witness (enc := enc) (C := Try.checked) (s := Rows.OpenSpec.upto Rows.ereTreesSpec) (k := Rows.uptoSmall) rfl false ⟨#[], #[.string ⟨#[]⟩], []⟩ 8 (by kernel_rfl) (by kernel_rfl) (by kernel_rfl)
      (x := ([.lit (.string [])], [], [])) (by kernel_rfl) rfl (by kernel_rfl)) ?_
  intro W base args ds gs before hval hW _ hk hsh _
  exact ereTrees_contract H enc W base args ds gs before hval hk (mx_of hsh) hW F

theorem ereTreesUpto_holds : Rows.EreTreesUptoSaid :=
  OpenClaim.holds_of_cond 4 Try.f4 rfl rfl rfl rfl rfl rfl rfl ⟨rfl, rfl, rfl, rfl, rfl⟩ rfl rfl rfl rfl rfl (by kernel_rfl) Try.func4 (by kernel_rfl)
    (of_decide_eq_true (by kernel_rfl)) (by unfold Func.isWrapper; first | (rw [if_pos (by decide +kernel)]; kernel_rfl) | (rw [if_neg (by decide +kernel)]; exact ⟨rfl, rfl⟩))
    (fun os started H enc _ F => ereTrees_lifted os started H enc F)
#print axioms ereTreesUpto_holds
end Go.Proofs.Ytajainmldcnaeaa
