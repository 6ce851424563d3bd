/- ere: what stands behind a '{'. No condition beyond those named in each lemma. -/
import Derived.Test.YtajainmldcnaeaaEreG
namespace Go.Proofs.Ytajainmldcnaeaa
open Go.RowKit Go.Maps
set_option linter.unusedVariables false
set_option linter.unusedSimpArgs false
attribute [local go_sem] Oper.semAt_some

/-- what a call of a reader ends in: a fault, or an answer and the reader at its place -/
def RdAns {α : Type} (g : Nat) (p : ByteArray) (w : World) (val : α → Value) (r : Ere.Res α) (en : Ending) (w' : World) : Prop :=
  Turn g (g + 1) w w' ∧ match r with
    | .fault e i => en = faultE e i
    | .got x j => en = .returned (val x) ∧ Blk w' g 76 (rdC p j)
theorem digits_le (p : ByteArray) : ∀ k i n m, (Ere.digits p k i n m).2.1 ≤ i + k ∧ i ≤ (Ere.digits p k i n m).2.1
  | 0, i, n, m => by unfold Ere.digits; exact ⟨Nat.le_refl _, Nat.le_refl _⟩
  | k + 1, i, n, m => by
    unfold Ere.digits
    split
    · have := digits_le p k (i + 1) (10 * n + (Ere.chr p i - 48)) (m + 1)
      omega
    · exact ⟨by simp, by simp⟩
theorem setRd {g : Nat} {p : ByteArray} {i j : Nat} {w : World} (h : Blk w g 76 (rdC p i)) {v : Value} (hv : v = .int .i64 (j : Int)) : Blk (w.setCell ⟨g, 1, none⟩ v) g 76 (rdC p j) := h.set_eq (by rw [hv]; simp [rdC])
theorem turnRd {g : Nat} {w w' : World} (h : Turn g (g + 1) w w') (i : Nat) (v : Value) : Turn g (g + 1) w (w'.setCell ⟨g, i, none⟩ v) := h.grown (only_setCell (World.grownBy.refl w' (some g)) (.inl rfl) v) (fun q e => by injection e with e; omega)
theorem is_at (g : Nat) (p : ByteArray) (k i c : Nat) (ci : Int) (w : World) (h : Blk w g 76 (rdC p k)) (e : ci = (c : Int)) {b : Bool} (hb : Ere.isAt p i c = b) :
    Calls Try.prog 57 #[.pointer (some ⟨g, 0, none⟩), .int .i64 (i : Int), .int .u8 ci] w fun e w' => e = .returned (.bool b) ∧ Below w.heap.size w w' := by
  subst e; subst hb
  exact is_any g p k i c w h
set_option maxRecDepth 100000 in
set_option maxHeartbeats 4000000 in
theorem counts_any (g : Nat) (p : ByteArray) (i : Nat) (w : World) (h : Blk w g 76 (rdC p i)) (hi : i ≤ 2000) :
    Calls Try.prog 88 #[.pointer (some ⟨g, 0, none⟩)] w fun e w' => RdAns g p w (fun c : Nat × Int => .tuple #[.int .i64 (c.1 : Int), .int .i64 c.2]) (Ere.countsR p i) e w' := by
  have c1 : w.cell? ⟨g, 1, none⟩ = some (.int .i64 (i : Int)) := h.cellv rfl
  have f1 := h.frozen 1
  have hiI : (i : Int) ≤ 2000 := by omega
  have hT := Turn.refl g (g + 1) w
  obtain ⟨r, hr0⟩ : ∃ r, Ere.countsR p i = r := ⟨_, rfl⟩
  rw [hr0]
  replace hr0 := Lib.hid hr0
  go_enter Try.func88, Try.ntmps88
  go_upto_region 3 with (fail)
  have h2 := setRd h (v := .int .i64 ((i : Int) + 1)) (j := i + 1) (by simp)
  have hT2 := turnRd hT 1 (.int .i64 ((i : Int) + 1))
  obtain ⟨w2, hw2⟩ : ∃ y, y = w.setCell ⟨g, 1, none⟩ (.int .i64 ((i : Int) + 1)) := ⟨_, rfl⟩
  rw [← hw2] at h2 hT2 ⊢
  clear hw2 hT c1 f1
  have hc := rcount_any g p (i + 1) w2 h2 (by omega)
  obtain ⟨n1, hn1⟩ : ∃ n, (Ere.digits p 4 (i + 1) 0 0).1 = n := ⟨_, rfl⟩
  obtain ⟨j1, hj1⟩ : ∃ n, (Ere.digits p 4 (i + 1) 0 0).2.1 = n := ⟨_, rfl⟩
  obtain ⟨o1, ho1⟩ : ∃ n, Ere.cntOk (Ere.digits p 4 (i + 1) 0 0) = n := ⟨_, rfl⟩
  have hjb := digits_le p 4 (i + 1) 0 0
  rw [hn1, hj1, ho1] at hc
  rw [hj1] at hjb
  have hR : Ere.countsR p i = if o1 && Ere.isAt p j1 44 then
      if Ere.isAt p (j1 + 1) 125 then .got (n1, -1) (j1 + 1)
      else if !Ere.cntOk (Ere.digits p 4 (j1 + 1) 0 0) || !Ere.isAt p (Ere.digits p 4 (j1 + 1) 0 0).2.1 125 || decide ((Ere.digits p 4 (j1 + 1) 0 0).1 < n1) then .fault 45 i else .got (n1, ((Ere.digits p 4 (j1 + 1) 0 0).1 : Int)) (Ere.digits p 4 (j1 + 1) 0 0).2.1
    else if !o1 || !Ere.isAt p j1 125 then .fault 45 i else .got (n1, (n1 : Int)) j1 := by
    unfold Ere.countsR
    simp only [hn1, hj1, ho1]
  replace hR := Lib.hid hR
  clear hn1 hj1 ho1
  go_upto_region 5 with (go_at_call 100; refine hc.mono ?_; rintro e w3 ⟨rfl, hT3, h3⟩)
  replace hc := Lib.hid hc
  have hT4 : Turn g (g + 1) w w3 := hT2.trans hT3
  clear hT2 hT3 h2 hc
  obtain ⟨a44, h44⟩ : ∃ b, Ere.isAt p j1 44 = b := ⟨_, rfl⟩
  have k44 := is_at g p j1 j1 44 44 w3 h3 rfl h44
  rw [hr0.out] at hR
  rw [h44] at hR
  have hf0 : o1 = false → r = .fault 45 i := by rintro rfl; rw [hR.out]; simp
  have hf1 : o1 = true → a44 = false → Ere.isAt p j1 125 = false → r = .fault 45 i := by rintro rfl h1 h2; rw [hR.out, h1, h2]; simp
  have hf2 : o1 = true → a44 = false → Ere.isAt p j1 125 = true → r = .got (n1, (n1 : Int)) j1 := by rintro rfl h1 h2; rw [hR.out, h1, h2]; simp
  have hf3 : o1 = true → a44 = true → Ere.isAt p (j1 + 1) 125 = true → r = .got (n1, -1) (j1 + 1) := by rintro rfl h1 h2; rw [hR.out, h1, h2]; simp
  have hf4 : o1 = true → a44 = true → Ere.isAt p (j1 + 1) 125 = false → Ere.cntOk (Ere.digits p 4 (j1 + 1) 0 0) = false → r = .fault 45 i := by rintro rfl h1 h2 h5; rw [hR.out, h1, h2, h5]; simp
  have hf5 : o1 = true → a44 = true → Ere.isAt p (j1 + 1) 125 = false → Ere.isAt p (Ere.digits p 4 (j1 + 1) 0 0).2.1 125 = false → r = .fault 45 i := by rintro rfl h1 h2 h5; rw [hR.out, h1, h2, h5]; simp
  have hf6 : o1 = true → a44 = true → Ere.isAt p (j1 + 1) 125 = false → (Ere.digits p 4 (j1 + 1) 0 0).1 < n1 → r = .fault 45 i := by rintro rfl h1 h2 h5; rw [hR.out, h1, h2]; simp [h5]
  have hf7 : o1 = true → a44 = true → Ere.isAt p (j1 + 1) 125 = false → Ere.cntOk (Ere.digits p 4 (j1 + 1) 0 0) = true → Ere.isAt p (Ere.digits p 4 (j1 + 1) 0 0).2.1 125 = true → ¬ (Ere.digits p 4 (j1 + 1) 0 0).1 < n1 → r = .got (n1, ((Ere.digits p 4 (j1 + 1) 0 0).1 : Int)) (Ere.digits p 4 (j1 + 1) 0 0).2.1 := by rintro rfl h1 h2 h3 h4 h5; rw [hR.out, h1, h2, h3, h4]; simp [h5]
  clear hR hr0 h44
  have c0 : w3.cell? ⟨g, 0, none⟩ = some (.string p) := h3.cellv rfl
  have c1 : w3.cell? ⟨g, 1, none⟩ = some (.int .i64 (j1 : Int)) := h3.cellv rfl
  have f1 := h3.frozen 1
  have hj1I : (j1 : Int) ≤ 3000 := by omega
  cases o1 with
  | false =>
    have hr := Lib.hid (hf0 (by trivial))
    clear hf0 hf1 hf2 hf3 hf4 hf5 hf6 hf7 k44
    go_wp2_with (go_at_call 40; refine (give_any 45 i _).mono ?_; rintro e w4 ⟨hfe, hB⟩)
    rw [hr.out]
    exact ⟨rfl, hT4.then_ hB, hfe⟩
  | true =>
    clear hf0
    cases a44 with
    | false =>
      clear hf3 hf4 hf5 hf6 hf7
      have hn : ¬ (n1 : Int) < n1 := by omega
      obtain ⟨b, hb⟩ : ∃ b, Ere.isAt p j1 125 = b := ⟨_, rfl⟩
      go_upto_region 10 with (go_at_call 57; refine k44.mono ?_; rintro e w4 ⟨rfl, hB⟩)
      have h4 := blk_then h3 hB
      have hT5 := hT4.then_ hB
      clear h3 hT4 hB k44 c0 c1 f1
      have k125 := is_at g p j1 j1 125 125 w4 h4 rfl hb
      have c0 : w4.cell? ⟨g, 0, none⟩ = some (.string p) := h4.cellv rfl
      have c1 : w4.cell? ⟨g, 1, none⟩ = some (.int .i64 (j1 : Int)) := h4.cellv rfl
      cases b with
      | false =>
        have hr := Lib.hid (hf1 (by trivial) (by trivial) hb)
        clear hf1 hf2 hb
        go_wp2_with (first | (go_at_call 57; refine k125.mono ?_; rintro e w5 ⟨rfl, hB⟩) | (go_at_call 40; refine (give_any 45 i _).mono ?_; rintro e w6 ⟨hfe, hB2⟩))
        rw [hr.out]
        exact ⟨rfl, (hT5.then_ hB).then_ hB2, hfe⟩
      | true =>
        have hr := Lib.hid (hf2 (by trivial) (by trivial) hb)
        clear hf1 hf2 hb
        go_wp2_with (go_at_call 57; refine k125.mono ?_; rintro e w5 ⟨rfl, hB⟩)
        go_ret2
        rw [hr.out]
        exact ⟨hT5.then_ hB, rfl, blk_then h4 hB⟩
    | true =>
      clear hf1 hf2
      obtain ⟨b, hb⟩ : ∃ b, Ere.isAt p (j1 + 1) 125 = b := ⟨_, rfl⟩
      obtain ⟨j2, hj2⟩ : ∃ j2, j1 + 1 = j2 := ⟨_, rfl⟩
      rw [hj2] at hb hf3 hf4 hf5 hf6 hf7
      have hj2I : (j1 : Int) + 1 = j2 := by omega
      replace hj2I := Lib.hid hj2I
      have hj2b : j2 ≤ 3001 := by omega
      clear hj2
      go_upto_region 6 with (go_at_call 57; refine k44.mono ?_; rintro e w4 ⟨rfl, hB⟩)
      have h4 := blk_then h3 hB
      have hT5 := hT4.then_ hB
      clear h3 hT4 hB k44 c0 c1 f1
      have c1 : w4.cell? ⟨g, 1, none⟩ = some (.int .i64 (j1 : Int)) := h4.cellv rfl
      have f1 := h4.frozen 1
      go_upto_region 8 with (fail)
      rw [hj2I.out]
      have h5 := setRd h4 (v := .int .i64 (j2 : Int)) (j := j2) rfl
      have hT6 := turnRd hT5 1 (.int .i64 (j2 : Int))
      obtain ⟨w5, hw5⟩ : ∃ y, y = w4.setCell ⟨g, 1, none⟩ (.int .i64 (j2 : Int)) := ⟨_, rfl⟩
      rw [← hw5] at h5 hT6 ⊢
      clear hw5 hT5 h4 c1 f1
      have k125 := is_at g p j2 j2 125 125 w5 h5 rfl hb
      have c1 : w5.cell? ⟨g, 1, none⟩ = some (.int .i64 (j2 : Int)) := h5.cellv rfl
      cases b with
      | true =>
        have hr := Lib.hid (hf3 (by trivial) (by trivial) hb)
        clear hf3 hf4 hf5 hf6 hf7
        go_upto_region 10 with (go_at_call 57; refine k125.mono ?_; rintro e w6 ⟨rfl, hB⟩)
        have h6 := blk_then h5 hB
        have hT7 := hT6.then_ hB
        clear h5 hT6 hB k125 c1
        have k125 := is_at g p j2 j2 125 125 w6 h6 rfl hb
        have c1 : w6.cell? ⟨g, 1, none⟩ = some (.int .i64 (j2 : Int)) := h6.cellv rfl
        clear hb
        go_wp2_with (go_at_call 57; refine k125.mono ?_; rintro e w7 ⟨rfl, hB⟩)
        go_ret2
        rw [hr.out]
        exact ⟨hT7.then_ hB, rfl, blk_then h6 hB⟩
      | false =>
        clear hf3
        have hjb2 := digits_le p 4 j2 0 0
        go_upto_region 9 with (go_at_call 57; refine k125.mono ?_; rintro e w6 ⟨rfl, hB⟩)
        have h6 := blk_then h5 hB
        have hT7 := hT6.then_ hB
        clear h5 hT6 hB k125 c1
        have hc := rcount_any g p j2 w6 h6 (by omega)
        obtain ⟨n2, hn2⟩ : ∃ n, (Ere.digits p 4 j2 0 0).1 = n := ⟨_, rfl⟩
        obtain ⟨j3, hj3⟩ : ∃ n, (Ere.digits p 4 j2 0 0).2.1 = n := ⟨_, rfl⟩
        obtain ⟨o2, ho2⟩ : ∃ n, Ere.cntOk (Ere.digits p 4 j2 0 0) = n := ⟨_, rfl⟩
        rw [hn2, hj3, ho2] at hc
        rw [hj3] at hjb2
        rw [hn2] at hf6 hf7
        rw [hj3] at hf5 hf7
        rw [ho2] at hf4 hf7
        clear hn2 hj3 ho2
        go_upto_region 10 with (go_at_call 100; refine hc.mono ?_; rintro e w7 ⟨rfl, hT8, h7⟩)
        clear hc
        have hT9 := hT7.trans hT8
        clear hT7 hT8 h6
        have c1 : w7.cell? ⟨g, 1, none⟩ = some (.int .i64 (j3 : Int)) := h7.cellv rfl
        cases o2 with
        | false =>
          have hr := Lib.hid (hf4 (by trivial) (by trivial) hb (by trivial))
          clear hf4 hf5 hf6 hf7 hb
          go_wp2_with (go_at_call 40; refine (give_any 45 i _).mono ?_; rintro e w8 ⟨hfe, hB⟩)
          rw [hr.out]
          exact ⟨rfl, hT9.then_ hB, hfe⟩
        | true =>
          obtain ⟨b3, hb3⟩ : ∃ b, Ere.isAt p j3 125 = b := ⟨_, rfl⟩
          have k125 := is_at g p j3 j3 125 125 w7 h7 rfl hb3
          cases b3 with
          | false =>
            have hr := Lib.hid (hf5 (by trivial) (by trivial) hb hb3)
            clear hf4 hf5 hf6 hf7 hb hb3
            go_wp2_with (first | (go_at_call 57; refine k125.mono ?_; rintro e w8 ⟨rfl, hB⟩) | (go_at_call 40; refine (give_any 45 i _).mono ?_; rintro e w9 ⟨hfe, hB2⟩))
            rw [hr.out]
            exact ⟨rfl, (hT9.then_ hB).then_ hB2, hfe⟩
          | true =>
            have hn0 : (0 : Int) ≤ n2 := by omega
            by_cases hlt : n2 < n1
            · have hr := Lib.hid (hf6 (by trivial) (by trivial) hb hlt)
              have hltI : (n2 : Int) < n1 := by omega
              clear hf4 hf5 hf6 hf7 hb hb3
              go_wp2_with (first | (go_at_call 57; refine k125.mono ?_; rintro e w8 ⟨rfl, hB⟩) | (go_at_call 40; refine (give_any 45 i _).mono ?_; rintro e w9 ⟨hfe, hB2⟩))
              rw [hr.out]
              exact ⟨rfl, (hT9.then_ hB).then_ hB2, hfe⟩
            · have hr := Lib.hid (hf7 (by trivial) (by trivial) hb (by trivial) hb3 hlt)
              have hltI : ¬ (n2 : Int) < n1 := by omega
              clear hf4 hf5 hf6 hf7 hb hb3
              go_wp2_with (go_at_call 57; refine k125.mono ?_; rintro e w8 ⟨rfl, hB⟩)
              go_ret2
              rw [hr.out]
              exact ⟨hT9.then_ hB, rfl, blk_then h7 hB⟩
theorem counts_le (p : ByteArray) (i : Nat) (hi : i ≤ 2000) (c : Nat × Int) (j : Nat) (h : Ere.countsR p i = .got c j) : j ≤ 3000 := by
  have h1 := digits_le p 4 (i + 1) 0 0
  have h2 := digits_le p 4 ((Ere.digits p 4 (i + 1) 0 0).2.1 + 1) 0 0
  unfold Ere.countsR at h
  simp only at h
  split at h
  · split at h
    · injection h with _ h; omega
    · split at h
      · cases h
      · injection h with _ h; omega
  · split at h
    · cases h
    · injection h with _ h; omega
end Go.Proofs.Ytajainmldcnaeaa
