/- The walk of script's Parse. No condition beyond those named in each lemma. -/
import Derived.Test.YtjplgcmfifoefaaDoorQtR
namespace Go.Proofs.YtjplgcmfifoefaaDoor
open Go.RowKit Go.Maps
set_option linter.unusedVariables false
set_option linter.unusedSimpArgs false
attribute [local go_sem] Oper.semAt_some

theorem parts_small : ∀ (f : Nat) (l : Bs) (ws : List Bs), partsG f l = some ws → ∀ p ∈ ws, p.length ≤ l.length
  | 0, l, ws, h => by cases h
  | f + 1, l, ws, h => by
    intro p hp
    have hd := (List.dropWhile_sublist (l := l) (· == 32)).length_le
    rw [partsG] at h
    split at h
    · injection h with h
      subst h
      cases hp
    · split at h
      · obtain ⟨vs, hv, rfl⟩ := Option.map_eq_some_iff.1 h
        rcases List.mem_cons.1 hp with rfl | hp
        · rw [List.length_take]; omega
        · have := parts_small f _ vs hv p hp
          rw [List.length_drop] at this
          omega
      · cases h
theorem info_row : (Tryd.prog.info? 47).map (·.size) = some 2 := by kernel_rfl
theorem info_rows : (Tryd.prog.info? 48).map (·.size) = some 26 := by kernel_rfl
theorem rowsC_size : rowsC.size = 26 := by kernel_rfl
theorem run_index_row (w : World) (k : Nat) (hk : k < 13) : (Instr.index 48 (.agg rowsC) (.int .i64 (k : Int))).run Tryd.prog w = .ok (.agg #[strV (firsts.getD k []), strV (letters.getD k [])]) w := by
  have h0 : ∀ w, (Instr.index 48 (.agg rowsC) (.int .i64 0)).run Tryd.prog w = .ok (.agg #[strV (firsts.getD 0 []), strV (letters.getD 0 [])]) w := fun _ => by kernel_rfl
  have h1 : ∀ w, (Instr.index 48 (.agg rowsC) (.int .i64 1)).run Tryd.prog w = .ok (.agg #[strV (firsts.getD 1 []), strV (letters.getD 1 [])]) w := fun _ => by kernel_rfl
  have h2 : ∀ w, (Instr.index 48 (.agg rowsC) (.int .i64 2)).run Tryd.prog w = .ok (.agg #[strV (firsts.getD 2 []), strV (letters.getD 2 [])]) w := fun _ => by kernel_rfl
  have h3 : ∀ w, (Instr.index 48 (.agg rowsC) (.int .i64 3)).run Tryd.prog w = .ok (.agg #[strV (firsts.getD 3 []), strV (letters.getD 3 [])]) w := fun _ => by kernel_rfl
  have h4 : ∀ w, (Instr.index 48 (.agg rowsC) (.int .i64 4)).run Tryd.prog w = .ok (.agg #[strV (firsts.getD 4 []), strV (letters.getD 4 [])]) w := fun _ => by kernel_rfl
  have h5 : ∀ w, (Instr.index 48 (.agg rowsC) (.int .i64 5)).run Tryd.prog w = .ok (.agg #[strV (firsts.getD 5 []), strV (letters.getD 5 [])]) w := fun _ => by kernel_rfl
  have h6 : ∀ w, (Instr.index 48 (.agg rowsC) (.int .i64 6)).run Tryd.prog w = .ok (.agg #[strV (firsts.getD 6 []), strV (letters.getD 6 [])]) w := fun _ => by kernel_rfl
  have h7 : ∀ w, (Instr.index 48 (.agg rowsC) (.int .i64 7)).run Tryd.prog w = .ok (.agg #[strV (firsts.getD 7 []), strV (letters.getD 7 [])]) w := fun _ => by kernel_rfl
  have h8 : ∀ w, (Instr.index 48 (.agg rowsC) (.int .i64 8)).run Tryd.prog w = .ok (.agg #[strV (firsts.getD 8 []), strV (letters.getD 8 [])]) w := fun _ => by kernel_rfl
  have h9 : ∀ w, (Instr.index 48 (.agg rowsC) (.int .i64 9)).run Tryd.prog w = .ok (.agg #[strV (firsts.getD 9 []), strV (letters.getD 9 [])]) w := fun _ => by kernel_rfl
  have h10 : ∀ w, (Instr.index 48 (.agg rowsC) (.int .i64 10)).run Tryd.prog w = .ok (.agg #[strV (firsts.getD 10 []), strV (letters.getD 10 [])]) w := fun _ => by kernel_rfl
  have h11 : ∀ w, (Instr.index 48 (.agg rowsC) (.int .i64 11)).run Tryd.prog w = .ok (.agg #[strV (firsts.getD 11 []), strV (letters.getD 11 [])]) w := fun _ => by kernel_rfl
  have h12 : ∀ w, (Instr.index 48 (.agg rowsC) (.int .i64 12)).run Tryd.prog w = .ok (.agg #[strV (firsts.getD 12 []), strV (letters.getD 12 [])]) w := fun _ => by kernel_rfl
  match k, hk with
  | 0, _ => exact h0 w
  | 1, _ => exact h1 w
  | 2, _ => exact h2 w
  | 3, _ => exact h3 w
  | 4, _ => exact h4 w
  | 5, _ => exact h5 w
  | 6, _ => exact h6 w
  | 7, _ => exact h7 w
  | 8, _ => exact h8 w
  | 9, _ => exact h9 w
  | 10, _ => exact h10 w
  | 11, _ => exact h11 w
  | 12, _ => exact h12 w

theorem size_strQ (w : World) : (sizeOf (Tryd.prog.elem 49)).run Tryd.prog w = .ok 1 w := by kernel_rfl
theorem under_strsQ : Tryd.prog.underlying 49 = some (.slice (Tryd.prog.elem 49)) := by kernel_rfl
section
variable {ops : Array Oper} {rest : List Oper} {o : Oper} {a : Act} {w : World} {Q : Exit → Act → World → Prop}
theorem wl_run {P : Program} {v : Value} {w' : World} (hgd : o.guard = none) (hr : (execOp a.eval o).run P w = .ok (.value v) w') (h : wpList P ops Q rest (a.put o.dst v) w') : wpList P ops Q (o :: rest) a w :=
  wpList_plain hgd fun _ hK => by
    unfold Oper.wp
    rw [hr]
    exact hK _ _ h
theorem wl_tailS (hgd : o.guard = none) (s : Operand) (ho : o.op = .slice 49 s (some (.const (.int .i64 1))) none none) (g off n cap : Nat) (hs : a.eval s = .slice (some ⟨g, off, none⟩) n cap) (hn : 1 ≤ n) (hc : n ≤ cap) (o1 : Nat) (ho1 : o1 = if cap = 1 then off else off + 1)
    (h : wpList Tryd.prog ops Q rest (a.put o.dst (.slice (some ⟨g, o1, none⟩) (n - 1) (cap - 1))) w) : wpList Tryd.prog ops Q (o :: rest) a w :=
  wl_run hgd (v := .slice (some ⟨g, o1, none⟩) (n - 1) (cap - 1)) (by
    rw [ho1]
    have e := run_slice_l (P := Tryd.prog) (w := w) 49 (some ⟨g, off, none⟩) n cap under_strsQ .i64 1 (by omega) (by omega)
    rw [size_strQ] at e
    have hcst : ∀ v : Value, a.eval (.const v) = v := fun _ => rfl
    unfold execOp
    simp only [ho, hs, hcst, Option.map_some, Option.map_none, Sem.run_bind, run_sliceAt_slice _ _ _ _ _ _ under_strsQ, e, Result.andThen_ok, Sem.run_pure, sliced]
    have ht1 : (1 : Int).toNat = 1 := by decide
    rw [ht1]
    by_cases h1 : cap = 1
    · simp only [if_pos h1]
    · simp only [if_neg h1, Option.map_some, Addr.add_lit]) h
theorem run_build_ev0 (w : World) : (Instr.build 24 #[]).run Tryd.prog w = .ok (.agg (evK 0).C) w := by kernel_rfl
theorem wl_build_ev0 (hgd : o.guard = none) (ho : o.op = .build 24 #[])
    (h : wpList Tryd.prog ops Q rest (a.put o.dst (.agg (evK 0).C)) w) : wpList Tryd.prog ops Q (o :: rest) a w :=
  wpList_plain hgd fun _ hK => by
    unfold Oper.wp execOp
    simp only [ho, List.map_toArray, List.map_nil, Sem.run_bind, run_build_ev0, Result.andThen_ok, Sem.run_pure]
    exact hK _ _ h
end
theorem slice_tail {α : Type} {enc : α → Array Value} {w : World} {B g off cap : Nat} {p : α} {pt : List α} (h : SliceOf w B 1 enc (some ⟨g, off, none⟩) (p :: pt)) (hc : (p :: pt).length ≤ cap) (o1 : Nat) (ho1 : o1 = if cap = 1 then off else off + 1) :
    SliceOf w B 1 enc (some ⟨g, o1, none⟩) pt := by
  rw [ho1]
  cases pt with
  | nil => exact .inl rfl
  | cons q pt =>
    have hc1 : cap ≠ 1 := by simp only [List.length_cons] at hc; omega
    rw [if_neg hc1]
    rcases h with h | ⟨b, o, e, hlt, hrow⟩
    · cases h
    · injection e with e
      injection e with e1 e2
      subst e1
      subst e2
      refine .inr ⟨g, off + 1, rfl, hlt, fun i hi => ?_⟩
      have h9 := hrow (i + 1) (by simp only [List.length_cons] at hi ⊢; omega)
      rw [List.getElem_cons_succ] at h9
      have e3 : off + 1 + i * 1 = off + (i + 1) * 1 := by omega
      rw [e3]
      exact h9
/-- what Parse answers -/
structure PsR (q : ByteArray) (base : Nat) (er : Int) (x : EvV) (ks : List Int) (w : World) : Prop where
  yes : ∀ e', parseE (tl q) = some e' → er = 0 ∧ x.ev ks = e'
  no : parseE (tl q) = none → er = 260 ∧ x = evK 0 ∧ ks = []
  own : Own w base 3 1 encZ (.slice x.A x.m x.c) ks
  len : x.m = ks.length
  n1 : x.name.size ≤ q.size
  n2 : x.other.size ≤ q.size
  n3 : x.data.size ≤ q.size
  few : ks.length ≤ q.size
  ints : intsOk (x.ev ks)
theorem psr_no (q : ByteArray) (base : Nat) (w : World) (h : parseE (tl q) = none) : PsR q base 260 (evK 0) [] w :=
  ⟨fun e' h9 => (by rw [h] at h9; cases h9), fun _ => ⟨rfl, rfl, rfl⟩, Own.nil_ _ _ _ _ _, rfl, by show (0 : Nat) ≤ _; omega, by show (0 : Nat) ≤ _; omega, by show (0 : Nat) ≤ _; omega, by simp, ⟨by show i64z 0; unfold i64z; omega, fun z hz => by cases hz⟩⟩
def tryK (w : Bs) (ws : List Bs) (k : Nat) : Option Ev := if k = 0 ∨ firsts.getD k [] ≠ w then none else readE k ws
set_option maxRecDepth 100000 in
set_option maxHeartbeats 8000000 in
theorem parse_any (q : ByteArray) (hq : q.size ≤ 1099511627776) (hfew : ∀ ws, partsG (q.size + 1) (tl q) = some ws → ws.length ≤ 1073741824) (w : World) (hS : SOk w) :
    Calls Tryd.prog 8 #[.string q] w fun e w' => (∃ er x ks, e = .returned (.tuple #[.agg x.C, .int .i64 er]) ∧ PsR q w.heap.size er x ks w') ∧ Below w.heap.size w w' := by
  have h7 := hS.size
  replace hS := Lib.hid hS
  replace hfew := Lib.hid hfew
  go_enter Tryd.func8, Tryd.ntmps8
  go_upto_region 1 with (fail)
  obtain ⟨w1, hw1⟩ : ∃ y, y = w.alloc (.cells #[.int .i64 0, .string ⟨#[]⟩, .string ⟨#[]⟩, .string ⟨#[]⟩, .int .i64 0, .bool false, .slice none 0 0] 24) := ⟨_, rfl⟩
  have hb0 : Blk w1 w.heap.size 24 (evK 0).C := by rw [hw1]; exact Blk.new w _ _
  have hB1 : Below w.heap.size w w1 := by rw [hw1]; exact below_alloc (Below.refl w.heap.size w) _
  rw [← hw1]
  clear hw1
  obtain ⟨r0, hr0⟩ : ∃ y, y = w.heap.size := ⟨_, rfl⟩
  rw [← hr0] at hb0 hB1 h7 ⊢
  replace hr0 := Lib.hid hr0
  have kP := parts_any q hq w1
  have hgz := hb0.lt
  cases hX : partsG (q.size + 1) (tl q) with
  | none =>
    have hnone : Hid (parseE (tl q) = none) := Lib.hid (by
      unfold parseE
      have e1 : (tl q).length + 1 = q.size + 1 := by simp [tl]
      rw [e1, hX])
    go_wp2_with (first
      | (go_at_call 16; go_loud (refine kP.mono ?_; clear kP; rintro e w2 ⟨hres, hBp⟩; obtain ⟨ps, A, c, h1, _⟩ | ⟨_, rfl⟩ := hres; · rw [hX] at h1; cases h1))
      | (refine wl_build_ev0 rfl rfl ?_)
      | (refine wl_store_ev rfl _ _ rfl r0 (evK 0) (evK 0) rfl rfl (blk_then hb0 hBp) ?_; intro w5 h5 hg5))
    refine ret_cell2 rfl _ rfl h5 Tryd.underlying24 rfl (info_ev.trans rfl) rfl ?_
    refine ⟨⟨260, evK 0, [], rfl, psr_no q _ _ hnone.out⟩, ?_⟩
    rw [← hr0.out]
    exact (hB1.trans (hBp.mono (Nat.le_of_lt hgz))).grown hg5 (Nat.le_of_lt (blk_then hb0 hBp).lt) (by rintro k ⟨⟩; exact Nat.le_refl _)
  | some ws =>
    cases ws with
    | nil =>
      have hnone : Hid (parseE (tl q) = none) := Lib.hid (by
        unfold parseE
        have e1 : (tl q).length + 1 = q.size + 1 := by simp [tl]
        rw [e1, hX])
      go_wp2_with (first
        | (go_at_call 16; refine kP.mono ?_; clear kP; rintro e w2 ⟨hres, hBp⟩; obtain ⟨ps, A, c, h1, rfl, _⟩ | ⟨h1, _⟩ := hres; rotate_left; (· rw [hX] at h1; cases h1); go_loud (have hps0 : ps = [] := List.map_eq_nil_iff.1 (Option.some.inj (hX.symm.trans h1)).symm; subst hps0; simp only [List.length_nil]))
        | (refine wl_build_ev0 rfl rfl ?_)
        | (refine wl_store_ev rfl _ _ rfl r0 (evK 0) (evK 0) rfl rfl (blk_then hb0 hBp) ?_; intro w5 h5 hg5))
      refine ret_cell2 rfl _ rfl h5 Tryd.underlying24 rfl (info_ev.trans rfl) rfl ?_
      refine ⟨⟨260, evK 0, [], rfl, psr_no q _ _ hnone.out⟩, ?_⟩
      rw [← hr0.out]
      exact (hB1.trans (hBp.mono (Nat.le_of_lt hgz))).grown hg5 (Nat.le_of_lt (blk_then hb0 hBp).lt) (by rintro k ⟨⟩; exact Nat.le_refl _)
    | cons W WS =>
      have hpar : Hid (parseE (tl q) = (List.range' 0 13).findSome? (tryK W WS)) := Lib.hid (by
        unfold parseE
        have e1 : (tl q).length + 1 = q.size + 1 := by simp [tl]
        rw [e1, hX, ← List.range_eq_range']
        rfl)
      have hsm := parts_small _ _ _ hX
      have hfw := hfew.out _ hX
      go_upto_region 2 with (go_at_call 16; refine kP.mono ?_; clear kP; rintro e w2 ⟨hres, hBp⟩; obtain ⟨ps, A, c, h1, rfl, ho, hpl⟩ | ⟨h1, _⟩ := hres; rotate_left; · (rw [hX] at h1; cases h1))
      rw [hX] at h1
      injection h1 with h1
      obtain ⟨P, PT, rfl⟩ : ∃ P PT, ps = P :: PT := by
        cases ps with
        | nil => cases h1
        | cons P PT => exact ⟨P, PT, rfl⟩
      simp only [List.map_cons] at h1
      injection h1 with h1 h2
      subst h1
      subst h2
      have hlim : ∀ p ∈ PT, p.size ≤ q.size := fun p hp => by
        have h9 := hsm (tl p) (List.mem_cons_of_mem _ (List.mem_map_of_mem hp))
        simpa [tl] using h9
      have hft : PT.length ≤ 1073741823 := by
        simp only [List.length_cons, List.length_map] at hfw
        omega
      have hfq : PT.length ≤ q.size := by
        simp only [List.length_cons] at hpl
        omega
      obtain ⟨gA, cap, hv, hbA, hgA, hcl, hcm⟩ := ho.form (by simp)
      injection hv with hA hn9 hc9
      subst hc9
      have hb2 := blk_then hb0 hBp
      have hB2 : Below r0 w w2 := hB1.trans (hBp.mono (Nat.le_of_lt hgz))
      have hS2 := Lib.hid (hS.out.then_ h7 hB2)
      have hsl := ho.slice_all (size := 1) (enc := encQ) (fun y => rfl)
      rw [hA] at hsl ⊢
      have hr2 := hb2.lt
      have hrA : r0 < gA := by omega
      clear hA hn9 hb0 hB1 hBp ho hX hsm hpl hfw hbA
      simp only [List.length_cons] at hcl ⊢
      obtain ⟨n, hn⟩ : ∃ n, PT.length = n := ⟨_, rfl⟩
      rw [hn] at hcl hft hfq ⊢
      have f1 : (((n + 1 : Nat) : Int) == 0) = false := by rw [beq_eq_false_iff_ne]; omega
      have hRC := hS2.out.rows
      obtain ⟨RC, hrc⟩ : ∃ y, y = rowsC := ⟨_, rfl⟩
      have hrz : RC.size = 26 := by rw [hrc]; exact rowsC_size
      rw [← hrc] at hRC
      replace hrc := Lib.hid hrc
      replace hn := Lib.hid hn
      replace hlim := Lib.hid hlim
      go_upto_region 5 with (refine wpList_load_at rfl _ _ rfl 0 0 rfl _ _ hRC Tryd.underlying48 rfl (info_rows.trans (by rw [hrz])) ?_)
      go_loopw [24] (fun iv wr => ∃ k : Nat, iv = .int .i64 k ∧ k ≤ 13 ∧ Blk wr r0 24 (evK 0).C ∧ Below w2.heap.size w2 wr ∧ Hid (parseE (tl q) = (List.range' k (13 - k)).findSome? (tryK (tl P) (PT.map tl)))) (fun iv _ => 13 - (intOf iv).toNat)
      case atStart => exact ⟨0, rfl, by omega, hb2, Below.refl _ _, hpar⟩
      case round =>
        clear hb2
        obtain ⟨k, rfl, hk, hb, hB, hpe⟩ := hrel
        have hr0w := hb.lt
        by_cases hk13 : k < 13
        · have hki : ((k : Nat) : Int) < 13 := by omega
          have hpe2 : Hid (parseE (tl q) = (tryK (tl P) (PT.map tl) k).or ((List.range' (k + 1) (13 - (k + 1))).findSome? (tryK (tl P) (PT.map tl)))) := Lib.hid (by
            rw [hpe.out, show 13 - k = (13 - (k + 1)) + 1 by omega, List.range'_succ, List.findSome?_cons]
            cases tryK (tl P) (PT.map tl) k <;> rfl)
          obtain ⟨FB, hFB⟩ : ∃ FB : ByteArray, ⟨(firsts.getD k []).toArray⟩ = FB := ⟨_, rfl⟩
          obtain ⟨LB, hLB⟩ : ∃ LB : ByteArray, ⟨(letters.getD k []).toArray⟩ = LB := ⟨_, rfl⟩
          have hix : ∀ w, (Instr.index 48 (.agg RC) (.int .i64 (k : Int))).run Tryd.prog w = .ok (.agg #[.string FB, .string LB]) w := fun w => by
            rw [hrc.out, ← hFB, ← hLB]
            exact run_index_row w k hk13
          have hFt : tl FB = firsts.getD k [] := by rw [← hFB]
          replace hFB := Lib.hid hFB
          replace hLB := Lib.hid hLB
          clear hpe hRC
          go_upto_region 7 with (fail)
          have hB4 := below_alloc (Below.refl wr.heap.size wr) (.cells #[.string FB, .string LB] 47)
          have hb47 := Blk.new wr 47 #[.string FB, .string LB]
          obtain ⟨w4, hw4⟩ : ∃ y, y = wr.alloc (.cells #[.string FB, .string LB] 47) := ⟨_, rfl⟩
          rw [← hw4] at hB4 hb47 ⊢
          clear hw4
          obtain ⟨r7, hr7⟩ : ∃ y, y = wr.heap.size := ⟨_, rfl⟩
          have hr07 : r0 < r7 := by omega
          rw [← hr7] at hb47 ⊢
          replace hr7 := Lib.hid hr7
          have hb4 := blk_then hb hB4
          have hBw4 : Below w2.heap.size w2 w4 := hB.trans (hB4.mono hB.size)
          have hsl4 := hsl.then_' hBw4
          clear hb hB hB4
          obtain ⟨b9, o9, hA9, hlt9, hrow9⟩ := hsl.at_ (by simp)
          injection hA9 with hA9
          injection hA9 with e1 e2
          subst e1
          subst e2
          have cP : w4.cell? ⟨gA, 0, none⟩ = some (.string P) := (hBw4.cell (p := ⟨gA, 0, none⟩) hlt9).trans (hrow9 0 (by simp) 0 _ rfl)
          have cP2 : w4.drew.cell? ⟨gA, 0, none⟩ = some (.string P) := cP
          have cF : w4.cell? ⟨r7, 0, none⟩ = some (.string FB) := hb47.cellv (by rfl)
          have cF2 : w4.drew.cell? ⟨r7, 0, none⟩ = some (.string FB) := cF
          clear hrow9 hix
          by_cases hsk : k = 0 ∨ firsts.getD k [] ≠ tl P
          · have hpe3 : Hid (parseE (tl q) = ((List.range' (k + 1) (13 - (k + 1))).findSome? (tryK (tl P) (PT.map tl)))) := Lib.hid (by
              rw [hpe2.out, tryK, if_pos hsk]
              rfl)
            replace hsk := Lib.hid hsk
            clear hpe2
            have hfin : ∀ (z : Int), z = (k : Int) + 1 → ∀ w5, Below w4.heap.size w4 w5 → (∃ k' : Nat, Value.int .i64 z = Value.int .i64 (k' : Int) ∧ k' ≤ 13 ∧ Blk w5 r0 24 (evK 0).C ∧ Below w2.heap.size w2 w5 ∧ Hid (parseE (tl q) = (List.range' k' (13 - k')).findSome? (tryK (tl P) (PT.map tl)))) := fun z hz w5 h5 =>
              ⟨k + 1, congrArg _ (by omega), by omega, blk_then hb4 h5, hBw4.trans (h5.mono hBw4.size), hpe3⟩
            clear hb4 hBw4 hpe3
            by_cases hk0 : k = 0
            · subst hk0
              go_big_region
              go_wp2_with (fail)
              exact ⟨hfin _ (by omega) _ (Below.refl w4.heap.size w4).drew, by simp [intOf]⟩
            · have fk : (((k : Nat) : Int) == 0) = false := by rw [beq_eq_false_iff_ne]; omega
              have fl : (FB.toList == P.toList) = false := by
                rw [beq_eq_false_iff_ne]
                intro h9
                rw [Lib.toList_data, Lib.toList_data] at h9
                rcases hsk.out with h8 | h8
                · exact hk0 h8
                · exact h8 (hFt.symm.trans h9)
              have fn : (!FB.toList == P.toList) = true := by rw [fl]; rfl
              go_big_region
              go_wp2_with (fail)
              exact ⟨hfin _ (by omega) _ (Below.refl w4.heap.size w4).drew, by simp [intOf]; omega⟩
          · have hk0 : ¬ k = 0 := fun h => hsk (.inl h)
            have hfe : firsts.getD k [] = tl P := Classical.byContradiction fun h => hsk (.inr h)
            have fk : (((k : Nat) : Int) == 0) = false := by rw [beq_eq_false_iff_ne]; omega
            obtain rfl : FB = P := by
              have h9 : tl FB = tl P := hFt.trans hfe
              rw [← bytes_of FB, ← bytes_of P]
              show (⟨(tl FB).toArray⟩ : ByteArray) = ⟨(tl P).toArray⟩
              rw [h9]
            have fn : (!FB.toList == FB.toList) = false := by simp
            have hpe3 : Hid (parseE (tl q) = (readE k (PT.map tl)).or ((List.range' (k + 1) (13 - (k + 1))).findSome? (tryK (tl FB) (PT.map tl)))) := Lib.hid (by
              rw [hpe2.out, tryK, if_neg hsk])
            obtain ⟨o1, ho1⟩ : ∃ y : Nat, y = (if c = 1 then 0 else 0 + 1) := ⟨_, rfl⟩
            replace ho1 := Lib.hid ho1
            have kR := read_any k (by omega) (by omega) (some ⟨gA, o1, none⟩) n (c - 1) PT hn.out.symm (by omega) q.size hlim.out hq w4.drew (slice_tail hsl4 (by simp only [List.length_cons]; rw [hn.out]; exact hcl) o1 ho1.out) (hS2.out.then_ (n := w2.heap.size) (by omega) hBw4.drew)
            clear hpe2 hsk
            go_big_region
            go_upto_region 9 with (first
              | (refine wl_tailS rfl _ rfl gA 0 (n + 1) c rfl (by omega) hcl o1 ho1.out ?_)
              | (go_at_call 17; refine kR.mono ?_; clear kR; rintro e w5 ⟨⟨ok, x, ks, rfl, hR⟩, hB5⟩; refine Lib.hid ?_)
              | (refine wl_store_ev rfl _ _ rfl w5.heap.size x (evK 0) rfl rfl (Blk.new _ _ _) ?_; intro w6 h6 hg6))
            have hB56 := below_grown (below_alloc (Below.refl w5.heap.size w5) _) hg6 (Nat.le_refl _)
            have hB46 : Below w4.heap.size w4 w6 := ((Below.refl w4.heap.size w4).drew).trans (hB5.trans (hB56.mono hB5.size))
            have hgx := h6.lt
            have hw45 : w4.heap.size ≤ w5.heap.size := hB5.size
            have hw4z : w2.heap.size ≤ w4.heap.size := hBw4.size
            obtain ⟨gx, hgx0⟩ : ∃ y, y = w5.heap.size := ⟨_, rfl⟩
            have how6 := hR.own.then_ hB56
            have hbs : r0 ≤ w4.drew.heap.size := by show r0 ≤ w4.heap.size; omega
            rw [← hgx0] at h6 hgx hw45 ⊢
            replace hgx0 := Lib.hid hgx0
            have hb6 := blk_then hb4 hB46
            have hBw6 : Below w2.heap.size w2 w6 := hBw4.trans (hB46.mono hw4z)
            have hl1 := hR.len
            have hl2 := hR.n1
            have hl3 := hR.n2
            have hl4 := hR.n3
            have hl5 := hR.few
            have hl6 := hR.ints
            have hyes := hR.yes
            have hno := hR.no
            clear hR hB5 hg6 hB46 hB56 hb4 hBw4 hsl hsl4 cP cP2 cF cF2 hb47 hpar hlim hlt9
            have hnn := hn.out
            replace hl6 := Lib.hid hl6
            cases ok with
            | false =>
              have hrn : readE k (PT.map tl) = none := by
                cases ht : readE k (PT.map tl) with
                | none => rfl
                | some e' => exact absurd (hyes e' ht).1 (by decide)
              have hpe4 : Hid (parseE (tl q) = ((List.range' (k + 1) (13 - (k + 1))).findSome? (tryK (tl FB) (PT.map tl)))) := Lib.hid (by
                rw [hpe3.out, hrn]
                rfl)
              clear hyes hno hrn hpe3
              go_wp2_with (fail)
              exact ⟨⟨k + 1, congrArg _ (by omega), by omega, hb6, hBw6, hpe4⟩, by simp [intOf]; omega⟩
            | true =>
              obtain ⟨e', hse⟩ : ∃ e', readE k (PT.map tl) = some e' := by
                cases ht : readE k (PT.map tl) with
                | none => exact absurd (hno ht) (by decide)
                | some e' => exact ⟨e', rfl⟩
              have hee := (hyes e' hse).2
              have hps : Hid (parseE (tl q) = some (x.ev ks)) := Lib.hid (by
                rw [hpe3.out, hse, hee]
                rfl)
              clear hyes hno hse hpe3 hee
              go_wp2_with (first
                | (refine wpList_load_row rfl _ _ rfl gx rfl _ _ _ _ h6 Tryd.underlying24 rfl (info_ev.trans rfl) ?_)
                | (refine wl_store_ev rfl _ _ rfl r0 x (evK 0) rfl rfl hb6 ?_; intro w7 h7b hg7))
              refine ret_cell2 rfl _ rfl h7b Tryd.underlying24 rfl (info_ev.trans rfl) rfl ?_
              refine ⟨⟨0, x, rfl, ks, ?_⟩, ?_⟩
              · refine ⟨fun e' h => ⟨rfl, by rw [hps.out] at h; injection h⟩, fun h => (by rw [hps.out] at h; cases h), ?_, hl1, hl2, hl3, hl4, by omega, hl6.out⟩
                exact own_base (how6.kept_ hg7 (fun j h1 h2 => by
                  have h3 := (how6.lt j h1).1
                  have h4 : w4.drew.heap.size = w4.heap.size := rfl
                  injection h2 with h2
                  omega)) (by rw [← hr0.out]; exact hbs)
              · rw [← hr0.out]
                exact (hB2.trans (hBw6.mono (Nat.le_of_lt hr2))).grown hg7 (Nat.le_of_lt hb6.lt) (by rintro k ⟨⟩; exact Nat.le_refl _)
        · obtain rfl : k = 13 := by omega
          have hnone : Hid (parseE (tl q) = none) := Lib.hid (by rw [hpe.out]; rfl)
          clear hpe hRC
          go_wp2_with (first
            | (refine wl_build_ev0 rfl rfl ?_)
            | (refine wl_store_ev rfl _ _ rfl r0 (evK 0) (evK 0) rfl rfl hb ?_; intro w5 h5 hg5))
          refine ret_cell2 rfl _ rfl h5 Tryd.underlying24 rfl (info_ev.trans rfl) rfl ?_
          refine ⟨⟨260, evK 0, [], rfl, psr_no q _ _ hnone.out⟩, ?_⟩
          rw [← hr0.out]
          exact (hB2.trans (hB.mono (Nat.le_of_lt hr2))).grown hg5 (Nat.le_of_lt hr0w) (by rintro k ⟨⟩; exact Nat.le_refl _)
theorem enter_parse (args : Array Value) (w : World) : (callFunc 8 args).run Tryd.prog w = .ok (.enter 8 args) w := by kernel_rfl
end Go.Proofs.YtjplgcmfifoefaaDoor
