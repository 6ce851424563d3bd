/- heronlaw04.EreFaults: the walk; No condition beyond those named in each lemma. -/
import Derived.Test.YtajainmldcnaeaaLwC
import Derived.Test.YtajainmldcnaeaaEreE2
namespace Go.Proofs.Ytajainmldcnaeaa
open Go.RowKit Go.Maps
set_option linter.unusedVariables false
set_option linter.unusedSimpArgs false
attribute [local go_sem] Oper.semAt_some

namespace Ere
/-- what EreFaults says, in plain words -/
def FaultsHold (p tl : ByteArray) : Prop := ∀ m : Nat, ((parseR p).2.2 = 44 ∨ (parseR p).2.2 = 47) ∧ m = 1 ∨ (parseR p).2.2 = 46 ∧ m = 2 ∨ ((parseR p).2.2 = 42 ∧ (parseR p).2.1 < p.size ∧ chr p (parseR p).2.1 = 41) ∧ m = 1 →
  (∀ k, k < tl.size → chr tl k ≠ 10) → (parseR p).2.1 + m ≤ p.size → (parseR p).2.1 + m + tl.size ≤ 1024 →
  (parseR (p.extract 0 ((parseR p).2.1 + m) ++ tl)).2 = (parseR p).2
end Ere
set_option maxRecDepth 100000 in
set_option maxHeartbeats 8000000 in
theorem faults_any (p tl : ByteArray) (hp : p.size ≤ 1099511627776) (ht : tl.size ≤ 1099511627776) (w : World) (hM : Mx w) :
    Calls Try.prog 6 #[.string p, .string tl] w fun e w' => e = .returned (.bool true) ∧ Below w.heap.size w w' := by
  have hF : Ere.FaultsHold p tl := fun m hm h1 h2 h3 => Ere.faults_hold p tl m hm h1 h2 h3
  have ha9 : (Ere.parseR p).2.1 ≤ 2000000 := by have := (Ere.parse_bad p).1; omega
  have kK := known4_any w hM
  have kP : ∀ W, Mx W → _ := fun W hW => parse_any p W hW
  unfold Ere.FaultsHold at hF
  obtain ⟨⟨nd, a, e⟩, hr⟩ : ∃ r, Ere.parseR p = r := ⟨_, rfl⟩
  rw [hr] at hF kP ha9
  simp only at hF kP ha9
  clear hr
  replace hF := Lib.hid hF
  replace kP := Lib.hid kP
  have haI : (a : Int) ≤ 2000000 := by omega
  have hpI : (p.size : Int) ≤ 1099511627776 := by omega
  have htI : (tl.size : Int) ≤ 1099511627776 := by omega
  go_enter Try.func6, Try.ntmps6
  go_upto_region 3 with (go_at_call 11; refine kK.mono ?_; rintro en w1 ⟨rfl, hB1⟩)
  have kP1 := kP.out w1 (hM.then_ hB1)
  clear kK kP
  go_upto_region 4 with (first
    | (go_at_call 12; refine kP1.mono ?_; rintro en w2 ⟨hB2, x1, bs1, rfl, hO1⟩)
    | (refine wl_store_nv rfl _ _ rfl _ x1 rfl rfl _ rfl (Blk.new _ _ zeroC) ?_; intro w3 k1 hg3))
  have hB3 : Below w.heap.size w w3 := below_grown (below_alloc (below_then hB1 hB2) _) hg3 (by have := hB1.size; have := hB2.size; omega)
  clear k1 hg3 hO1 hB1 hB2 kP1
  go_wp2_with (fail)
  go_loopw [8] (fun iv wr => ∃ i : Nat, i ≤ tl.size ∧ iv = .int .i64 i ∧ wr = w3 ∧ ∀ k, k < i → Ere.chr tl k ≠ 10) (fun iv _ => tl.size - (intOf iv).toNat)
  case atStart => exact ⟨0, by omega, rfl, rfl, fun k hk => by omega⟩
  case round =>
    obtain ⟨i, hi, rfl, hwr, hall⟩ := hrel
    subst hwr
    replace hall := Lib.hid hall
    by_cases hlt : i < tl.size
    · have hltI : (i : Int) < tl.size := by omega
      have hi0 : ¬ (i : Int) < 0 := by omega
      have hch : Ere.chr tl i = tl[i].toNat := by unfold Ere.chr; rw [dif_pos hlt]
      obtain ⟨b, hb⟩ : ∃ v : Nat, tl[i].toNat = v := ⟨_, rfl⟩
      rw [hb] at hch
      replace hch := Lib.hid hch
      by_cases h10 : b = 10
      · have h10I : (((b : Nat) : Int) == 10) = true := beq_iff_eq.2 (by omega)
        replace h10 := Lib.hid h10
        go_wp2_with (fail)
        go_ret
        exact ⟨rfl, hB3⟩
      · have h10I : (((b : Nat) : Int) == 10) = false := beq_eq_false_iff_ne.2 (by omega)
        replace h10 := Lib.hid h10
        go_wp2_with (fail)
        exact ⟨⟨i + 1, by omega, rfl, by trivial, fun k hk => by
          by_cases e : k = i
          · subst e; rw [hch.out]; exact h10.out
          · exact hall.out k (by omega)⟩, by simp only [intOf]; omega⟩
    · have hltI : ¬ (i : Int) < tl.size := by omega
      have hnl := Lib.hid (show ∀ k, k < tl.size → Ere.chr tl k ≠ 10 from fun k hk => hall.out k (by omega))
      have kN := num4_any (e : Int) wr
      have heq : ∀ c : Nat, (((e : Nat) : Int) == (c : Int)) = decide (e = c) := fun c => by
        rw [Bool.eq_iff_iff, beq_iff_eq, decide_eq_true_eq]; omega
      have q44 := heq 44
      have q47 := heq 47
      have q46 := heq 46
      have q42 := heq 42
      clear heq
      have hMr := hM.then_ hB3
      clear hall
      by_cases h44 : e = 44
      · skip
        rw [decide_eq_true h44] at q44
        replace h44 := Lib.hid h44
        go_upto_region 19 with (go_at_call 18; refine kN.mono ?_; rintro en w4 ⟨rfl, hw4⟩; rw [hw4]; clear hw4)
        by_cases hs1 : a + 1 ≤ p.size
        · by_cases hs2 : a + 1 + tl.size ≤ 1024
          · have hF2 := hF.out 1 (.inl ⟨.inl h44.out, rfl⟩) hnl.out hs1 hs2
            have hs1I : ¬ (p.size : Int) < (a : Int) + 1 := by omega
            have hs2I : ¬ (1024 : Int) < (a : Int) + 1 + tl.size := by omega
            have hs3I : (a : Int) + 1 ≤ p.size := by omega
            have kQ := parse_any (p.extract 0 (a + 1) ++ tl) _ hMr
            rw [hF2] at kQ
            simp only at kQ
            replace hs1 := Lib.hid hs1
            replace hs2 := Lib.hid hs2
            replace hF2 := Lib.hid hF2
            clear hMr
            go_wp2_with (first
              | (go_at_call 12; refine kQ.mono ?_; rintro en w7 ⟨hB7, x7, bs7, rfl, hO7⟩)
              | (refine wl_store_nv rfl _ _ rfl _ x7 rfl rfl _ rfl (Blk.new _ _ zeroC) ?_; intro w8 k8 hg8))
            go_ret
            exact ⟨rfl, below_grown (below_alloc (below_then hB3 hB7) _) hg8 (by have := hB3.size; have := hB7.size; omega)⟩
          · have hs1I : ¬ (p.size : Int) < (a : Int) + 1 := by omega
            have hs2I : (1024 : Int) < (a : Int) + 1 + tl.size := by omega
            replace hs1 := Lib.hid hs1
            replace hs2 := Lib.hid hs2
            go_wp2_with (fail)
            go_ret
            exact ⟨rfl, hB3⟩
        · have hs1I : (p.size : Int) < (a : Int) + 1 := by omega
          replace hs1 := Lib.hid hs1
          go_wp2_with (fail)
          go_ret
          exact ⟨rfl, hB3⟩
      by_cases h47 : e = 47
      · skip
        rw [decide_eq_false h44] at q44
        rw [decide_eq_true h47] at q47
        replace h44 := Lib.hid h44
        replace h47 := Lib.hid h47
        go_upto_region 19 with (go_at_call 18; refine kN.mono ?_; rintro en w4 ⟨rfl, hw4⟩; rw [hw4]; clear hw4)
        by_cases hs1 : a + 1 ≤ p.size
        · by_cases hs2 : a + 1 + tl.size ≤ 1024
          · have hF2 := hF.out 1 (.inl ⟨.inr h47.out, rfl⟩) hnl.out hs1 hs2
            have hs1I : ¬ (p.size : Int) < (a : Int) + 1 := by omega
            have hs2I : ¬ (1024 : Int) < (a : Int) + 1 + tl.size := by omega
            have hs3I : (a : Int) + 1 ≤ p.size := by omega
            have kQ := parse_any (p.extract 0 (a + 1) ++ tl) _ hMr
            rw [hF2] at kQ
            simp only at kQ
            replace hs1 := Lib.hid hs1
            replace hs2 := Lib.hid hs2
            replace hF2 := Lib.hid hF2
            clear hMr
            go_wp2_with (first
              | (go_at_call 12; refine kQ.mono ?_; rintro en w7 ⟨hB7, x7, bs7, rfl, hO7⟩)
              | (refine wl_store_nv rfl _ _ rfl _ x7 rfl rfl _ rfl (Blk.new _ _ zeroC) ?_; intro w8 k8 hg8))
            go_ret
            exact ⟨rfl, below_grown (below_alloc (below_then hB3 hB7) _) hg8 (by have := hB3.size; have := hB7.size; omega)⟩
          · have hs1I : ¬ (p.size : Int) < (a : Int) + 1 := by omega
            have hs2I : (1024 : Int) < (a : Int) + 1 + tl.size := by omega
            replace hs1 := Lib.hid hs1
            replace hs2 := Lib.hid hs2
            go_wp2_with (fail)
            go_ret
            exact ⟨rfl, hB3⟩
        · have hs1I : (p.size : Int) < (a : Int) + 1 := by omega
          replace hs1 := Lib.hid hs1
          go_wp2_with (fail)
          go_ret
          exact ⟨rfl, hB3⟩
      by_cases h46 : e = 46
      · skip
        rw [decide_eq_false h44] at q44
        rw [decide_eq_false h47] at q47
        rw [decide_eq_true h46] at q46
        replace h44 := Lib.hid h44
        replace h47 := Lib.hid h47
        replace h46 := Lib.hid h46
        go_upto_region 19 with (go_at_call 18; refine kN.mono ?_; rintro en w4 ⟨rfl, hw4⟩; rw [hw4]; clear hw4)
        by_cases hs1 : a + 2 ≤ p.size
        · by_cases hs2 : a + 2 + tl.size ≤ 1024
          · have hF2 := hF.out 2 (.inr (.inl ⟨h46.out, rfl⟩)) hnl.out hs1 hs2
            have hs1I : ¬ (p.size : Int) < (a : Int) + 2 := by omega
            have hs2I : ¬ (1024 : Int) < (a : Int) + 2 + tl.size := by omega
            have hs3I : (a : Int) + 2 ≤ p.size := by omega
            have kQ := parse_any (p.extract 0 (a + 2) ++ tl) _ hMr
            rw [hF2] at kQ
            simp only at kQ
            replace hs1 := Lib.hid hs1
            replace hs2 := Lib.hid hs2
            replace hF2 := Lib.hid hF2
            clear hMr
            go_wp2_with (first
              | (go_at_call 12; refine kQ.mono ?_; rintro en w7 ⟨hB7, x7, bs7, rfl, hO7⟩)
              | (refine wl_store_nv rfl _ _ rfl _ x7 rfl rfl _ rfl (Blk.new _ _ zeroC) ?_; intro w8 k8 hg8))
            go_ret
            exact ⟨rfl, below_grown (below_alloc (below_then hB3 hB7) _) hg8 (by have := hB3.size; have := hB7.size; omega)⟩
          · have hs1I : ¬ (p.size : Int) < (a : Int) + 2 := by omega
            have hs2I : (1024 : Int) < (a : Int) + 2 + tl.size := by omega
            replace hs1 := Lib.hid hs1
            replace hs2 := Lib.hid hs2
            go_wp2_with (fail)
            go_ret
            exact ⟨rfl, hB3⟩
        · have hs1I : (p.size : Int) < (a : Int) + 2 := by omega
          replace hs1 := Lib.hid hs1
          go_wp2_with (fail)
          go_ret
          exact ⟨rfl, hB3⟩
      by_cases h42 : e = 42
      · skip
        rw [decide_eq_false h44] at q44
        rw [decide_eq_false h47] at q47
        rw [decide_eq_false h46] at q46
        rw [decide_eq_true h42] at q42
        replace h44 := Lib.hid h44
        replace h47 := Lib.hid h47
        replace h46 := Lib.hid h46
        replace h42 := Lib.hid h42
        by_cases hal : a < p.size
        · have halI : ¬ (p.size : Int) ≤ a := by omega
          have halI2 : (a : Int) < p.size := by omega
          have ha0 : ¬ (a : Int) < 0 := by omega
          have hcp : Ere.chr p a = p[a].toNat := by unfold Ere.chr; rw [dif_pos hal]
          obtain ⟨b2, hb2⟩ : ∃ v : Nat, p[a].toNat = v := ⟨_, rfl⟩
          rw [hb2] at hcp
          replace hcp := Lib.hid hcp
          by_cases h41 : b2 = 41
          · have h41I : (((b2 : Nat) : Int) != 41) = false := by rw [bne_eq_false_iff_eq]; omega
            replace h41 := Lib.hid h41
            go_upto_region 19 with (go_at_call 18; refine kN.mono ?_; rintro en w4 ⟨rfl, hw4⟩; rw [hw4]; clear hw4)
            by_cases hs1 : a + 1 ≤ p.size
            · by_cases hs2 : a + 1 + tl.size ≤ 1024
              · have hF2 := hF.out 1 (.inr (.inr ⟨⟨h42.out, hal, by rw [hcp.out]; exact h41.out⟩, rfl⟩)) hnl.out hs1 hs2
                have hs1I : ¬ (p.size : Int) < (a : Int) + 1 := by omega
                have hs2I : ¬ (1024 : Int) < (a : Int) + 1 + tl.size := by omega
                have hs3I : (a : Int) + 1 ≤ p.size := by omega
                have kQ := parse_any (p.extract 0 (a + 1) ++ tl) _ hMr
                rw [hF2] at kQ
                simp only at kQ
                replace hs1 := Lib.hid hs1
                replace hs2 := Lib.hid hs2
                replace hF2 := Lib.hid hF2
                clear hMr
                go_wp2_with (first
                  | (go_at_call 12; refine kQ.mono ?_; rintro en w7 ⟨hB7, x7, bs7, rfl, hO7⟩)
                  | (refine wl_store_nv rfl _ _ rfl _ x7 rfl rfl _ rfl (Blk.new _ _ zeroC) ?_; intro w8 k8 hg8))
                go_ret
                exact ⟨rfl, below_grown (below_alloc (below_then hB3 hB7) _) hg8 (by have := hB3.size; have := hB7.size; omega)⟩
              · have hs1I : ¬ (p.size : Int) < (a : Int) + 1 := by omega
                have hs2I : (1024 : Int) < (a : Int) + 1 + tl.size := by omega
                replace hs1 := Lib.hid hs1
                replace hs2 := Lib.hid hs2
                go_wp2_with (fail)
                go_ret
                exact ⟨rfl, hB3⟩
            · have hs1I : (p.size : Int) < (a : Int) + 1 := by omega
              replace hs1 := Lib.hid hs1
              go_wp2_with (fail)
              go_ret
              exact ⟨rfl, hB3⟩
          · have h41I : (((b2 : Nat) : Int) != 41) = true := by rw [bne_iff_ne]; omega
            replace h41 := Lib.hid h41
            go_wp2_with (go_at_call 18; refine kN.mono ?_; rintro en w4 ⟨rfl, hw4⟩; rw [hw4]; clear hw4)
            go_ret
            exact ⟨rfl, hB3⟩
        · have halI : (p.size : Int) ≤ a := by omega
          replace hal := Lib.hid hal
          go_wp2_with (go_at_call 18; refine kN.mono ?_; rintro en w4 ⟨rfl, hw4⟩; rw [hw4]; clear hw4)
          go_ret
          exact ⟨rfl, hB3⟩
      rw [decide_eq_false h44] at q44
      rw [decide_eq_false h47] at q47
      rw [decide_eq_false h46] at q46
      rw [decide_eq_false h42] at q42
      replace h44 := Lib.hid h44
      replace h47 := Lib.hid h47
      replace h46 := Lib.hid h46
      replace h42 := Lib.hid h42
      go_wp2_with (go_at_call 18; refine kN.mono ?_; rintro en w4 ⟨rfl, hw4⟩; rw [hw4]; clear hw4)
      go_ret
      exact ⟨rfl, hB3⟩
end Go.Proofs.Ytajainmldcnaeaa
