/- ere.places, ere.Places. No condition beyond those named in each lemma. -/
import Derived.Test.YtajainmldcnaeaaNodeA
namespace Go.Proofs.Ytajainmldcnaeaa
open Go.RowKit Go.Maps
set_option linter.unusedVariables false
set_option linter.unusedSimpArgs false
attribute [local go_sem] Oper.semAt_some

set_option maxRecDepth 100000 in
set_option maxHeartbeats 40000000 in
theorem places_any (nd : Nd) : nd.isT = true → ∀ (B : Nat) (w : World) (cs : Array Value), NdIn w B nd cs → B ≤ w.heap.size →
    Calls Try.prog 44 #[.agg cs] w fun e w' => e = .returned (.int .i64 ((min nd.U 2049 : Nat) : Int)) ∧ Below w.heap.size w w' := by
  induction nd using Nd.ind with
  | h kd st l mi ma ih =>
  intro hT B w cs hin hB
  obtain ⟨A, n, c, cl, rfl, hn, hcl, hmax, hs, hr⟩ := hin.inv
  simp only [Nd.isT, Bool.and_eq_true, Nd.areT_all, List.all_eq_true] at hT
  obtain ⟨hh, hl⟩ := hT
  obtain ⟨V, hV⟩ : ∃ V, min (Nd.mk kd st l mi ma).U 2049 = V := ⟨_, rfl⟩
  rw [hV]
  have Hn := Lib.hid hn
  have Hcl := Lib.hid hcl
  have Hr := Lib.hid hr
  have Ih := Lib.hid ih
  have Hl := Lib.hid hl
  have Hh := Lib.hid hh
  clear hn hcl hr ih hh hin hl
  go_enter Try.func44, Try.ntmps44
  have h1 := Blk.new w 27 (nodeC kd st A n c mi ma)
  have hB1 : Below w.heap.size w (w.alloc (.cells (nodeC kd st A n c mi ma) 27)) := below_alloc (Below.refl _ _) _
  go_upto_region 1 with (fail)
  obtain ⟨W1, hW1⟩ : ∃ y, y = w.alloc (.cells (nodeC kd st A n c mi ma) 27) := ⟨_, rfl⟩
  rw [← hW1] at h1 hB1 ⊢
  clear hW1
  have hl1 := h1.lt
  have c0 : W1.cell? ⟨w.heap.size, 0, none⟩ = some (.int .i64 kd) := h1.cellv (i := 0) rfl
  have c5 : W1.cell? ⟨w.heap.size, 5, none⟩ = some (.slice A n c) := h1.cellv (i := 5) rfl
  by_cases k267 : kd = 2 ∨ kd = 6 ∨ kd = 7
  · have hU : (Nd.mk kd st l mi ma).U = 1 := by simp only [Nd.U]; rw [if_pos k267]
    rw [hU] at hV
    have HV := Lib.hid hV
    clear hV hU
    rcases k267 with rfl | rfl | rfl
    · go_wp2_with (fail)
      go_ret
      exact ⟨congrArg (fun v => Ending.returned (.int .i64 v)) (by have := HV.out; omega), hB1⟩
    · go_wp2_with (fail)
      go_ret
      exact ⟨congrArg (fun v => Ending.returned (.int .i64 v)) (by have := HV.out; omega), hB1⟩
    · go_wp2_with (fail)
      go_ret
      exact ⟨congrArg (fun v => Ending.returned (.int .i64 v)) (by have := HV.out; omega), hB1⟩
  by_cases k1 : kd = 1
  · subst k1
    have hU : (Nd.mk 1 st l mi ma).U = 0 := by simp [Nd.U]
    rw [hU] at hV
    have HV := Lib.hid hV
    clear hV hU
    go_wp2_with (fail)
    go_ret
    exact ⟨congrArg (fun v => Ending.returned (.int .i64 v)) (by have := HV.out; omega), hB1⟩
  by_cases k34 : kd = 3 ∨ kd = 4
  · rcases k34 with rfl | rfl
    · skip
      obtain ⟨b0, hb0⟩ : ∃ b0 : Nat, b0 = 0 := ⟨_, rfl⟩
      have hb0m : b0 ≤ n + 1 := by omega
      have hU : (Nd.mk 3 st l mi ma).U = b0 + Nd.Us l := by rw [hb0]; simp [Nd.U]
      rw [hU] at hV
      have HV := Lib.hid hV
      clear hV hU
      have Hb0 := Lib.hid hb0
      clear hb0
      go_wp2_with (fail)
      go_loopw [3, 26] (fun v i wr => ∃ k m : Nat, k ≤ n ∧ i = .int .i64 k ∧ v = .int .i64 m ∧ min m 2049 = min (b0 + Nd.Us (l.take k)) 2049 ∧ m ≤ b0 + 2049 ∧ Below w.heap.size w wr) (fun _ i _ => n - (intOf i).toNat)
      case atStart => exact ⟨0, b0, by omega, rfl, by rw [Hb0.out]; rfl, by simp [Nd.Us], by omega, hB1⟩
      case round =>
        clear h1 hB1 hl1 c0 c5
        obtain ⟨k, m, hk, rfl, rfl, hm, hmb, hBw⟩ := hrel
        by_cases hkn : k < n
        · have hkI : (k : Int) < n := by omega
          have hkl : k < l.length := by rw [← Hn.out]; exact hkn
          have hkc : k < cl.length := by rw [Hcl.out]; exact hkl
          obtain ⟨ba, off, rfl, hba, hrows⟩ := hs.at_ (by omega)
          have hrow := (hrows k hkc).keep (hBw.block ba (by omega))
          have hsub := Hr.out k hkl hkc
          have hmem : l[k] ∈ l := List.getElem_mem hkl
          have hUs := Nd.Us_step l k hkl
          have hT := Hl.out _ hmem
          obtain ⟨⟨kd', st', l', mi', ma'⟩, hx⟩ : ∃ x, x = l[k] := ⟨_, rfl⟩
          rw [← hx] at hsub hUs hmem hT
          obtain ⟨A', n', c', cl', hce, -⟩ := hsub.inv
          rw [hce] at hrow hsub

          obtain ⟨q, hq⟩ : ∃ q, min (Nd.mk kd' st' l' mi' ma').U 2049 = q := ⟨_, rfl⟩
          have hm2 : min (min (m + q) 2049) 2049 = min (b0 + Nd.Us (l.take (k + 1))) 2049 := by rw [hUs]; omega
          have hqb : q ≤ 2049 := by omega
          have hcall := fun W h => Ih.out _ hmem hT B W _ (hsub.keep (w' := W) h)
          rw [hq] at hcall
          have Hcall := Lib.hid hcall
          have Hm2 := Lib.hid hm2
          clear hcall hm2 hq hx hce hsub hUs hm hT hmem
          have hkb : k < 1099511628000 := by omega
          go_upto_region 14 with (first | (refine wl_load_node_at rfl _ rfl _ _ rfl _ _ _ _ _ _ _ hrow ?_) | (refine wl_store_node rfl _ _ rfl _ _ _ _ _ _ _ _ rfl rfl (nodeC 0 0 none 0 0 0 0) rfl (Blk.new _ _ _) ?_; intro w3 h5 hg3))
          have hB3 := below_grown (below_alloc (Below.refl _ wr) (.cells (nodeC 0 0 none 0 0 0 0) 27)) hg3 (Nat.le_refl _)
          replace hBw := below_then hBw hB3
          clear hrow hrows hB3 hg3
          go_wp2_with (first | (refine wl_load_node rfl _ rfl _ rfl _ _ _ _ _ _ _ h5 ?_) | (go_at_call 44; refine (Hcall.out _ (fun j hj => hBw.block j (by omega)) (by have := hBw.size; omega)).mono ?_; rintro e w5 ⟨rfl, hB5⟩) | (go_at_call 44; refine park ?_))
          all_goals exact ⟨⟨k + 1, min (m + q) 2049, by omega, rfl, congrArg (Value.int .i64) (by omega), Hm2.out, by omega, below_then hBw hB5⟩, by simp only [intOf]; omega⟩
        · have hkI : ¬ (k : Int) < n := by omega
          have hke : l.take k = l := List.take_of_length_le (by have := Hn.out; omega)
          rw [hke] at hm
          have Hm := Lib.hid hm
          clear hm hke
          go_wp2_with (fail)
          all_goals
            go_ret
            exact ⟨congrArg (fun v => Ending.returned (.int .i64 v)) (by have := HV.out; have := Hm.out; omega), hBw⟩
    · skip
      obtain ⟨b0, hb0⟩ : ∃ b0 : Nat, b0 = n + 1 := ⟨_, rfl⟩
      have hb0m : b0 ≤ n + 1 := by omega
      have hU : (Nd.mk 4 st l mi ma).U = b0 + Nd.Us l := by rw [hb0]; simp [Nd.U, Hn.out]
      rw [hU] at hV
      have HV := Lib.hid hV
      clear hV hU
      have Hb0 := Lib.hid hb0
      clear hb0
      go_wp2_with (fail)
      go_loopw [3, 26] (fun v i wr => ∃ k m : Nat, k ≤ n ∧ i = .int .i64 k ∧ v = .int .i64 m ∧ min m 2049 = min (b0 + Nd.Us (l.take k)) 2049 ∧ m ≤ b0 + 2049 ∧ Below w.heap.size w wr) (fun _ i _ => n - (intOf i).toNat)
      case atStart => exact ⟨0, b0, by omega, rfl, by rw [Hb0.out]; simp, by simp [Nd.Us], by omega, hB1⟩
      case round =>
        clear h1 hB1 hl1 c0 c5
        obtain ⟨k, m, hk, rfl, rfl, hm, hmb, hBw⟩ := hrel
        by_cases hkn : k < n
        · have hkI : (k : Int) < n := by omega
          have hkl : k < l.length := by rw [← Hn.out]; exact hkn
          have hkc : k < cl.length := by rw [Hcl.out]; exact hkl
          obtain ⟨ba, off, rfl, hba, hrows⟩ := hs.at_ (by omega)
          have hrow := (hrows k hkc).keep (hBw.block ba (by omega))
          have hsub := Hr.out k hkl hkc
          have hmem : l[k] ∈ l := List.getElem_mem hkl
          have hUs := Nd.Us_step l k hkl
          have hT := Hl.out _ hmem
          obtain ⟨⟨kd', st', l', mi', ma'⟩, hx⟩ : ∃ x, x = l[k] := ⟨_, rfl⟩
          rw [← hx] at hsub hUs hmem hT
          obtain ⟨A', n', c', cl', hce, -⟩ := hsub.inv
          rw [hce] at hrow hsub

          obtain ⟨q, hq⟩ : ∃ q, min (Nd.mk kd' st' l' mi' ma').U 2049 = q := ⟨_, rfl⟩
          have hm2 : min (min (m + q) 2049) 2049 = min (b0 + Nd.Us (l.take (k + 1))) 2049 := by rw [hUs]; omega
          have hqb : q ≤ 2049 := by omega
          have hcall := fun W h => Ih.out _ hmem hT B W _ (hsub.keep (w' := W) h)
          rw [hq] at hcall
          have Hcall := Lib.hid hcall
          have Hm2 := Lib.hid hm2
          clear hcall hm2 hq hx hce hsub hUs hm hT hmem
          have hkb : k < 1099511628000 := by omega
          go_upto_region 14 with (first | (refine wl_load_node_at rfl _ rfl _ _ rfl _ _ _ _ _ _ _ hrow ?_) | (refine wl_store_node rfl _ _ rfl _ _ _ _ _ _ _ _ rfl rfl (nodeC 0 0 none 0 0 0 0) rfl (Blk.new _ _ _) ?_; intro w3 h5 hg3))
          have hB3 := below_grown (below_alloc (Below.refl _ wr) (.cells (nodeC 0 0 none 0 0 0 0) 27)) hg3 (Nat.le_refl _)
          replace hBw := below_then hBw hB3
          clear hrow hrows hB3 hg3
          go_wp2_with (first | (refine wl_load_node rfl _ rfl _ rfl _ _ _ _ _ _ _ h5 ?_) | (go_at_call 44; refine (Hcall.out _ (fun j hj => hBw.block j (by omega)) (by have := hBw.size; omega)).mono ?_; rintro e w5 ⟨rfl, hB5⟩) | (go_at_call 44; refine park ?_))
          all_goals exact ⟨⟨k + 1, min (m + q) 2049, by omega, rfl, congrArg (Value.int .i64) (by omega), Hm2.out, by omega, below_then hBw hB5⟩, by simp only [intOf]; omega⟩
        · have hkI : ¬ (k : Int) < n := by omega
          have hke : l.take k = l := List.take_of_length_le (by have := Hn.out; omega)
          rw [hke] at hm
          have Hm := Lib.hid hm
          clear hm hke
          go_wp2_with (fail)
          all_goals
            go_ret
            exact ⟨congrArg (fun v => Ending.returned (.int .i64 v)) (by have := HV.out; have := Hm.out; omega), hBw⟩
  by_cases k5 : kd = 5
  · subst k5
    obtain ⟨_, hn1, hmi0, hmi1, hma⟩ := headOk_times Hh.out
    obtain ⟨x, rfl⟩ := List.length_eq_one_iff.1 hn1
    have hkc : 0 < cl.length := by rw [Hcl.out]; exact Nat.zero_lt_one
    obtain ⟨ba, off, rfl, hba, hrows⟩ := hs.at_ hkc
    have hrow := (hrows 0 hkc).keep (hB1.block ba (by omega))
    have hsub := Hr.out 0 (by simp) hkc
    have hT := Hl.out x (by simp)
    have hih := fun W h1 h2 => Ih.out x (by simp) hT B W _ (NdIn.keep (w' := W) h1 hsub) h2
    obtain ⟨⟨kd', st', l', mi', ma'⟩, hx⟩ : ∃ y, y = x := ⟨_, rfl⟩
    simp only [List.getElem_cons_zero] at hsub
    rw [← hx] at hsub hih hV
    obtain ⟨A', n', c', cl', hce, -⟩ := hsub.inv
    rw [hce] at hrow hih
    have hU : (Nd.mk 5 st [Nd.mk kd' st' l' mi' ma'] mi ma).U = tU (Nd.mk kd' st' l' mi' ma').U mi ma := by simp [Nd.U, Nd.Us]
    rw [hU, ← tU_cap 2049 _ _ _ (by omega)] at hV
    obtain ⟨q, hq⟩ : ∃ q, min (Nd.mk kd' st' l' mi' ma').U 2049 = q := ⟨_, rfl⟩
    rw [hq] at hV hih
    have hqb : q ≤ 2049 := by omega
    have Hih := Lib.hid hih
    have hn1' : 0 < n := by have := Hn.out; simp at this; omega
    clear hih hx hce hq hsub hT
    go_upto_region 17 with (first | (refine wl_load_node_at rfl _ rfl _ _ rfl _ _ _ _ _ _ _ hrow ?_) | (go_at_call 44; refine (Hih.out _ (fun j hj => hB1.block j (by omega)) (by have := hB1.size; omega)).mono ?_; rintro e w5 ⟨rfl, hB5⟩) | (go_at_call 44; refine park ?_))
    replace hB1 := below_then hB1 hB5
    replace h1 := blk_then h1 hB5
    have c6 : w5.cell? ⟨w.heap.size, 6, none⟩ = some (.int .i64 mi) := h1.cellv (i := 6) rfl
    have c7 : w5.cell? ⟨w.heap.size, 7, none⟩ = some (.int .i64 ma) := h1.cellv (i := 7) rfl
    clear hB5 hrow hrows c5 c0 hs Ih Hl Hr
    by_cases hq0 : q = 0
    · subst hq0
      have hV0 : V = 0 := by rw [← hV]; simp [tU]
      have HV := Lib.hid hV0
      clear hV hV0
      go_wp2_with (fail)
      all_goals
        go_ret
        exact ⟨congrArg (fun v => Ending.returned (.int .i64 v)) (by have := HV.out; omega), hB1⟩
    · have hq0I : ((q : Int) == 0) = false := by simpa using hq0
      have hti := tU_int (ma := ma) hmi0 hq0
      obtain ⟨b1, b2⟩ := mul_bound (q := q) hmi0 (by omega) (by omega)
      have HV := Lib.hid hV
      clear hV
      by_cases hm1 : ma = -1
      · subst hm1
        rw [if_pos rfl] at hti
        have Hti := Lib.hid hti
        clear hti
        go_wp2_with (fail)
        all_goals
          go_ret
          exact ⟨congrArg (fun v => Ending.returned (.int .i64 v)) (by have := HV.out; have := Hti.out; omega), hB1⟩
      · have hm1b : (ma == -1) = false := by simpa using hm1
        rw [if_neg hm1] at hti
        by_cases hm2 : mi < ma
        · rw [if_pos hm2] at hti
          have Hti := Lib.hid hti
          clear hti
          have hm2b : decide (mi < ma) = true := by simpa using hm2
          obtain ⟨b3, b4⟩ := mul_bound (q := q) (a := ma - mi) (by omega) (by omega) (by omega)
          go_wp2_with (fail)
          all_goals
            go_ret
            exact ⟨congrArg (fun v => Ending.returned (.int .i64 v)) (by have := HV.out; have := Hti.out; omega), hB1⟩
        · rw [if_neg hm2] at hti
          have Hti := Lib.hid hti
          clear hti
          have hm2b : decide (mi < ma) = false := by simpa using hm2
          go_wp2_with (fail)
          all_goals
            go_ret
            exact ⟨congrArg (fun v => Ending.returned (.int .i64 v)) (by have := HV.out; have := Hti.out; omega), hB1⟩
  exfalso
  have := Hh.out
  unfold headOk at this
  rw [if_neg (by omega), if_neg (by omega), if_neg k34, if_neg k5] at this
  cases this
/-- what both programs tell of a tree's places -/
def placesN (nd : Nd) : Nat := if nd.isT then min (nd.U + 1) 2049 else 0
set_option maxRecDepth 100000 in
set_option maxHeartbeats 4000000 in
theorem placesE_any (nd : Nd) (B : Nat) (w : World) (cs : Array Value) (hin : NdIn w B nd cs) (hB : B ≤ w.heap.size) :
    Calls Try.prog 16 #[.agg cs] w fun e w' => e = .returned (.int .i64 (placesN nd : Int)) ∧ Below w.heap.size w w' := by
  obtain ⟨kd, st, l, mi, ma⟩ := nd
  obtain ⟨A, n, c, cl, rfl, -⟩ := hin.inv
  have hi := fun W h1 h2 => isTree_any (Nd.mk kd st l mi ma) B W _ (NdIn.keep (w' := W) h1 hin) h2
  have hp := fun hT W h1 h2 => places_any (Nd.mk kd st l mi ma) hT B W _ (NdIn.keep (w' := W) h1 hin) h2
  obtain ⟨t, ht⟩ : ∃ t, (Nd.mk kd st l mi ma).isT = t := ⟨_, rfl⟩
  obtain ⟨V, hV⟩ : ∃ V, placesN (Nd.mk kd st l mi ma) = V := ⟨_, rfl⟩
  obtain ⟨q, hq⟩ : ∃ q, min (Nd.mk kd st l mi ma).U 2049 = q := ⟨_, rfl⟩
  have hVq : V = if t = true then min (q + 1) 2049 else 0 := by
    rw [← hV, ← ht, ← hq]
    unfold placesN
    split <;> omega
  have hqb : q ≤ 2049 := by omega
  rw [hV]
  rw [ht] at hi hp
  rw [hq] at hp
  have Hi := Lib.hid hi
  have Hp := Lib.hid hp
  have HV := Lib.hid hVq
  clear hi hp hVq hV hq ht hin
  go_enter Try.func16, Try.ntmps16
  have h1 := Blk.new w 27 (nodeC kd st A n c mi ma)
  have hB1 : Below w.heap.size w (w.alloc (.cells (nodeC kd st A n c mi ma) 27)) := below_alloc (Below.refl _ _) _
  go_upto_region 1 with (fail)
  obtain ⟨W1, hW1⟩ : ∃ y, y = w.alloc (.cells (nodeC kd st A n c mi ma) 27) := ⟨_, rfl⟩
  rw [← hW1] at h1 hB1 ⊢
  clear hW1
  cases t
  · go_wp2_with (first | (refine wl_load_node rfl _ rfl _ rfl _ _ _ _ _ _ _ h1 ?_) | (go_at_call 43; refine (Hi.out _ (fun j hj => hB1.block j (by omega)) (by have := hB1.size; omega)).mono ?_; rintro e w5 ⟨rfl, hB5⟩) | (go_at_call 43; refine park ?_))
    go_ret
    exact ⟨congrArg (fun v => Ending.returned (.int .i64 v)) (by rw [HV.out]; rfl), below_then hB1 hB5⟩
  · go_wp2_with (first | (refine wl_load_node rfl _ rfl _ rfl _ _ _ _ _ _ _ h1 ?_) | (go_at_call 43; refine (Hi.out _ (fun j hj => hB1.block j (by omega)) (by have := hB1.size; omega)).mono ?_; rintro e w5 ⟨rfl, hB5⟩; replace h1 := blk_then h1 hB5; replace hB1 := below_then hB1 hB5) | (go_at_call 44; refine (Hp.out (by first | rfl | trivial) _ (fun j hj => hB1.block j (by omega)) (by have := hB1.size; omega)).mono ?_; rintro e w6 ⟨rfl, hB6⟩) | (go_at_call 43; refine park ?_) | (go_at_call 44; refine park ?_))
    all_goals
      go_ret
      exact ⟨congrArg (fun v => Ending.returned (.int .i64 v)) (by have h := HV.out; simp only [if_true] at h; omega), below_then hB1 hB6⟩
end Go.Proofs.Ytajainmldcnaeaa
