/- heronlaw07.nodes. No condition beyond those named in each lemma. -/
import Derived.Test.YtgahdookojbbiaaUniR
namespace Go.Proofs.Ytgahdookojbbiaa
open Go.RowKit Go.Maps
set_option linter.unusedVariables false
set_option linter.unusedSimpArgs false
attribute [local go_sem] Oper.semAt_some

set_option maxRecDepth 100000 in
set_option maxHeartbeats 4000000 in
theorem nodes_any (nd : Nd) : ∀ (B : Nat) (w : World) (cs : Array Value), NdIn w B nd cs → B ≤ w.heap.size →
    Calls Try.prog 9 #[.agg cs] w fun e w' => Below w.heap.size w w' ∧ ∃ m : Int, e = .returned (.int .i64 m) := by
  induction nd using Nd.ind with
  | h kd st l mi ma ih =>
  intro B w cs hin hB
  obtain ⟨A, n, c, cl, rfl, hn, hcl, hmax, hs, hr⟩ := hin.inv
  have Hn := Lib.hid hn
  have Hcl := Lib.hid hcl
  have Hr := Lib.hid hr
  have Ih := Lib.hid ih
  clear hn hcl hr ih hin
  go_enter Try.func9, Try.ntmps9
  have h1 := Blk.new w 27 (nodeC kd st A n c mi ma)
  have hB1 : Below w.heap.size w (w.alloc (.cells (nodeC kd st A n c mi ma) 27)) := below_alloc (Below.refl _ _) _
  go_upto_region 1 with (fail)
  obtain ⟨w1, hw1⟩ : ∃ y, y = w.alloc (.cells (nodeC kd st A n c mi ma) 27) := ⟨_, rfl⟩
  rw [← hw1] at h1 hB1 ⊢
  clear hw1
  go_wp2_with (fail)
  go_loopw [3, 4] (fun v i wr => ∃ (k : Nat) (m : Int), k ≤ n ∧ i = .int .i64 k ∧ v = .int .i64 m ∧ Below w.heap.size w wr ∧ Blk wr w.heap.size 27 (nodeC kd st A n c mi ma)) (fun _ i _ => n - (intOf i).toNat)
  case atStart => exact ⟨0, 1, by omega, rfl, rfl, hB1, h1⟩
  case round =>
    clear h1 hB1
    obtain ⟨k, m, hk, rfl, rfl, hBw, h1⟩ := hrel
    have c5 : wr.cell? ⟨w.heap.size, 5, none⟩ = some (.slice A n c) := h1.cellv (i := 5) rfl
    by_cases hkn : k < n
    · have hkI : (k : Int) < n := by omega
      have hkb2 : decide ((k : Int) < n) = true := by simpa using hkI
      by_cases hm : m ≤ 3000
      · have hmb : decide (m ≤ 3000) = true := by simpa using hm
        have hkl : k < l.length := by rw [← Hn.out]; exact hkn
        have hkc : k < cl.length := by rw [Hcl.out]; exact hkl
        obtain ⟨ba, off, rfl, hba, hrows⟩ := hs.at_ (by omega)
        have hrow := (hrows k hkc).keep (hBw.block ba (by omega))
        have hsub := Hr.out k hkl hkc
        have hmem : l[k] ∈ l := List.getElem_mem hkl
        obtain ⟨⟨kd', st', l', mi', ma'⟩, hx⟩ : ∃ x, x = l[k] := ⟨_, rfl⟩
        rw [← hx] at hsub hmem
        obtain ⟨A', n', c', cl', hce, -⟩ := hsub.inv
        rw [hce] at hrow hsub
        have hcall := Ih.out _ hmem B wr _ (hsub.keep (fun j hj => hBw.block j (by omega))) (by have := hBw.size; omega)
        have Hcall := Lib.hid hcall
        have hkb : k < 1099511628000 := by omega
        clear hcall hx hce hsub hrows hmem
        go_wp2_with (first | (refine wl_load_node_at rfl _ rfl _ _ rfl _ _ _ _ _ _ _ hrow ?_) | (go_at_call 9; refine Hcall.out.mono ?_; rintro e w5 ⟨hB5, q, rfl⟩) | (go_at_call 9; refine park ?_))
        exact ⟨⟨k + 1, _, by omega, rfl, rfl, below_then hBw hB5, blk_then h1 hB5⟩, by simp only [intOf]; omega⟩
      · have hmb : decide (m ≤ 3000) = false := by simpa using hm
        go_wp2_with (fail)
        go_ret
        exact ⟨hBw, m, rfl⟩
    · have hkI : ¬ (k : Int) < n := by omega
      have hkb2 : decide ((k : Int) < n) = false := by simpa using hkI
      go_wp2_with (fail)
      go_ret
      exact ⟨hBw, m, rfl⟩
end Go.Proofs.Ytgahdookojbbiaa
