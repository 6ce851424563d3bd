/- The walk of script's integer. No condition beyond those named in each lemma. -/
import Derived.Test.YtjplgcmfifoefaaDoorQtL
import Derived.Lib.SmallJoins
namespace Go.Proofs.YtjplgcmfifoefaaDoor
open Go.RowKit Go.Maps
set_option linter.unusedVariables false
set_option linter.unusedSimpArgs false
attribute [local go_sem] Oper.semAt_some

theorem atoi_bound {l : Bs} {v : Int} (h : Lib.atoiAll l = .ok v) : i64z v := by
  unfold Lib.atoiAll at h
  split at h
  · cases h
  · dsimp only at h
    split at h
    · cases h
    · cases h
    · split at h
      · cases h
      · split at h
        · cases h
        · injection h with h
          unfold i64z
          split at h <;> omega
/-- the number beside -/
def intZ (w : Bs) : Int := match Lib.atoiAll w with
  | .ok v => v
  | Lib.NumEnd.syntax => 0
  | .range => Lib.atoiSat w
theorem intZ_some {w : Bs} {v : Int} (h : intW w = some v) : intZ w = v := by
  unfold intW at h
  unfold intZ
  split at h
  · next u hu =>
    split at h
    · injection h with h
      rw [hu]
      exact h
    · cases h
  · cases h
theorem intZ_ok (w : Bs) : i64z (intZ w) := by
  unfold intZ
  split
  · next v h => exact atoi_bound h
  · unfold i64z; omega
  · unfold Lib.atoiSat i64z
    split <;> omega
theorem atoi_any (q : ByteArray) (hq : q.size ≤ 1099511627776) (w : World) (hS : SOk w) : Calls Tryd.prog 65 #[.string q] w fun e w' => ((∃ v, Lib.atoiAll (tl q) = .ok v ∧ e = .returned (.tuple #[.int .i64 v, .nilIface])) ∨ ((∀ v, Lib.atoiAll (tl q) ≠ .ok v) ∧ ∃ T N, e = .returned (.tuple #[.int .i64 (intZ (tl q)), .iface T (.pointer (some ⟨N, 0, none⟩))]))) ∧ Below w.heap.size w w' := by
  cases h : Lib.atoiAll (tl q) with
  | ok v =>
    refine (Tryd.strconv_Atoi_ok q (by omega) v h w).mono fun e w' ⟨he, hw⟩ => ⟨.inl ⟨v, rfl, he⟩, ?_⟩
    rcases hw with rfl | ⟨t, rfl⟩
    · exact Below.refl _ _
    · refine ⟨rfl, rfl, rfl, ?_, fun j hj => Lib.bytesWorld_at_old _ _ _ j hj⟩
      rw [Lib.bytesWorld_size]
      omega
  | range =>
    have hz : intZ (tl q) = Lib.atoiSat (tl q) := by unfold intZ; rw [h]
    rw [hz]
    obtain ⟨ev, h1, h2⟩ := hS.ran
    exact (Tryd.strconv_Atoi_range q (by omega) h ev w h1 h2).mono fun e w' ⟨N, he, _, _, hb⟩ => ⟨.inr ⟨fun v h => (by cases h), _, N, he⟩, hb⟩
  | _ =>
    have hz : intZ (tl q) = 0 := by unfold intZ; rw [h]
    rw [hz]
    obtain ⟨ev, h1, h2⟩ := hS.syn
    exact (Tryd.strconv_Atoi_syntax q (by omega) h ev w h1 h2).mono fun e w' ⟨N, he, _, _, hb⟩ => ⟨.inr ⟨fun v h => (by cases h), _, N, he⟩, hb⟩
set_option maxHeartbeats 2000000 in
theorem integer_any (q : ByteArray) (hq : q.size ≤ 1099511627776) (w : World) (hS : SOk w) : Calls Tryd.prog 51 #[.string q] w fun e w' => e = .returned (.tuple #[.int .i64 (intZ (tl q)), .bool (intW (tl q)).isSome]) ∧ Below w.heap.size w w' := by
  have kA := atoi_any q hq w hS
  have h7 := hS.size
  by_cases hok : ∃ v, Lib.atoiAll (tl q) = .ok v
  · obtain ⟨v, h⟩ := hok
    have kA2 : Calls Tryd.prog 65 #[.string q] w fun e w' => e = .returned (.tuple #[.int .i64 v, .nilIface]) ∧ Below w.heap.size w w' := kA.mono fun e w' ⟨he, hb⟩ => ⟨by
      rcases he with ⟨v', hv', he⟩ | ⟨hn, _⟩
      · rw [h] at hv'
        injection hv' with hv'
        rw [he, hv']
      · exact absurd h (hn v), hb⟩
    have kI := itoa_any v (atoi_bound h).1 (atoi_bound h).2
    obtain ⟨b, hb⟩ : ∃ b, (intW (tl q)).isSome = b := ⟨_, rfl⟩
    have hz : intZ (tl q) = v := by unfold intZ; rw [h]
    have hbv : b = (Lib.itoa v == q.toList) := by
      rw [← hb, Lib.toList_data]
      unfold intW
      rw [h]
      dsimp only
      by_cases e : Lib.itoa v = tl q
      · rw [if_pos e]
        show true = (Lib.itoa v == tl q)
        rw [e]
        simp
      · rw [if_neg e]
        exact (beq_eq_false_iff_ne.2 e).symm
    rw [hb, hz]
    clear hz
    replace hbv := Lib.hid hbv
    replace hS := Lib.hid hS
    clear h hb kA
    go_enter Tryd.func51, Tryd.ntmps51
    go_wp2_with (first
      | (go_at_call 65; refine kA2.mono ?_; clear kA2; rintro e w3 ⟨rfl, hB3⟩)
      | (go_at_call 30; refine (kI w3 (hS.out.then_ h7 hB3)).mono ?_; clear kI; rintro e w4 ⟨rfl, hB4⟩; unfold strV))
    go_ret2
    exact ⟨by rw [hbv.out]; rfl, below_then hB3 hB4⟩
  · have kA2 : Calls Tryd.prog 65 #[.string q] w fun e w' => (∃ T N, e = .returned (.tuple #[.int .i64 (intZ (tl q)), .iface T (.pointer (some ⟨N, 0, none⟩))])) ∧ Below w.heap.size w w' := kA.mono fun e w' ⟨he, hb⟩ => ⟨by
      rcases he with ⟨v', hv', he⟩ | ⟨hn, he⟩
      · exact absurd ⟨v', hv'⟩ hok
      · exact he, hb⟩
    have hn : intW (tl q) = none := by
      unfold intW
      split
      · next v hv => exact absurd ⟨v, hv⟩ hok
      · rfl
    rw [hn]
    obtain ⟨Z, hZ⟩ : ∃ Z, intZ (tl q) = Z := ⟨_, rfl⟩
    rw [hZ] at kA2 ⊢
    clear hn hok kA hS hZ
    go_enter Tryd.func51, Tryd.ntmps51
    go_wp2_with (go_at_call 65; refine kA2.mono ?_; clear kA2; rintro e w3 ⟨⟨T, N, rfl⟩, hB3⟩)
    go_ret2
    exact ⟨rfl, hB3⟩
theorem enter_integer (args : Array Value) (w : World) : (callFunc 51 args).run Tryd.prog w = .ok (.enter 51 args) w := by kernel_rfl
end Go.Proofs.YtjplgcmfifoefaaDoor
