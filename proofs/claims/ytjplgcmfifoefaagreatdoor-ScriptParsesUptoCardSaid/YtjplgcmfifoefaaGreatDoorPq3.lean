/- Part 3 of a proof; packed: the texts that it was made of follow one another. No condition beyond those named in each lemma. -/
import Derived.Test.YtjplgcmfifoefaaGreatDoorPq2
namespace Go.Proofs.YtjplgcmfifoefaaGreatDoor
open Go.RowKit Go.Shelf Go.Maps
set_option linter.unusedVariables false
set_option linter.unusedSimpArgs false
attribute [local go_sem] Oper.semAt_some

theorem silent_parts : ∀ (f : Nat) (l : Bs) (ws : List Bs), partsG f l = some ws → silentL l = decide (ws = [])
  | 0, _, _, h => by cases h
  | f + 1, l, ws, h => by
    have hsp : l = l.takeWhile (· == 32) ++ l.dropWhile (· == 32) := (List.takeWhile_append_dropWhile).symm
    have hbl : ∀ b ∈ l.takeWhile (· == 32), b.toNat = 32 := fun b hb => by
      have := List.all_eq_true.1 (List.all_takeWhile (p := (· == (32 : UInt8))) (l := l)) b hb
      rw [beq_iff_eq] at this
      rw [this]
      rfl
    have hsl : silentL l = silentL (l.dropWhile (· == 32)) := by
      conv => lhs; rw [hsp]
      exact silent_app _ _ hbl
    rw [hsl]
    rw [partsG] at h
    cases hm : l.dropWhile (· == 32) with
    | nil =>
      rw [if_pos hm] at h
      obtain rfl := Option.some.inj h
      rfl
    | cons c t =>
      have hne : l.dropWhile (· == 32) ≠ [] := by rw [hm]; simp
      rw [if_neg hne] at h
      have hc : c ≠ 32 := dw_head l c t hm
      have hc2 : c.toNat ≠ 32 := fun e => hc (UInt8.toNat_inj.1 e)
      split at h
      · next hcond =>
        obtain ⟨-, hu⟩ := hcond
        rw [hm] at hu h
        cases hr : partsG f ((c :: t).drop (cutN (c :: t))) with
        | none => rw [hr] at h; cases h
        | some r =>
          rw [hr] at h
          obtain rfl := Option.some.inj h
          rw [decide_eq_false (by simp), silentL, if_neg hc2, decide_eq_false]
          intro h35
          obtain ⟨k, hk⟩ : ∃ k, cutN (c :: t) = k + 1 := ⟨cutN (c :: t) - 1, by have := cutN_pos (t := t) hc; omega⟩
          rw [hk, List.take_succ_cons] at hu
          unfold unq at hu
          have hpl : isPl (c :: t.take k) = false := by
            unfold isPl
            rw [List.all_cons, show plainB c = false from decide_eq_false (by omega), Bool.false_and, Bool.and_false]
          rw [hpl, if_neg (by decide), if_pos] at hu
          · cases hu
          · right; left
            intro e
            have : c = 34 := e
            rw [this] at h35
            exact absurd h35 (by decide)
      · cases h
theorem EtR.then_ {k : Nat} {ps : List ByteArray} {lim base : Nat} {er : Int} {x : EvV} {ks : List Int} {w w' : World} (h : EtR k ps lim base er x ks w) (hb : Below w.heap.size w w') : EtR k ps lim base er x ks w' :=
  ⟨h.yes, h.no, h.own.then_ hb, h.len, h.n1, h.n2, h.n3, h.few, h.ints⟩
theorem EtR.base {k : Nat} {ps : List ByteArray} {lim base base' : Nat} {er : Int} {x : EvV} {ks : List Int} {w : World} (h : EtR k ps lim base er x ks w) (hb : base' ≤ base) : EtR k ps lim base' er x ks w :=
  ⟨h.yes, h.no, own_base h.own hb, h.len, h.n1, h.n2, h.n3, h.few, h.ints⟩
theorem EtR.kept {k : Nat} {ps : List ByteArray} {lim base r : Nat} {er : Int} {x : EvV} {ks : List Int} {w w' : World} (h : EtR k ps lim base er x ks w) (hg : w.grownBy w' (some r)) (hr : r < base) : EtR k ps lim base er x ks w' :=
  ⟨h.yes, h.no, h.own.kept_ hg (fun j h1 h2 => by have h3 := (h.own.lt j h1).1; injection h2 with h2; omega), h.len, h.n1, h.n2, h.n3, h.few, h.ints⟩
theorem EtR.psr {k : Nat} {pt : List ByteArray} {q : ByteArray} {base : Nat} {er : Int} {x : EvV} {ks : List Int} {w : World} (h : EtR k pt q.size base er x ks w) (hp : parseE (tl q) = readE k (pt.map tl)) (hl : pt.length ≤ q.size) : PsR q base er x ks w :=
  ⟨fun e' h9 => h.yes e' (by rw [← hp]; exact h9), fun h9 => h.no (by rw [← hp]; exact h9), h.own, h.len, h.n1, h.n2, h.n3, Nat.le_trans h.few hl, h.ints⟩
theorem parse_kd (line : Bs) (w : Bs) (ws : List Bs) (h : partsG (line.length + 1) line = some (w :: ws)) : parseE line = if w = firsts.getD 9 [] then readE 9 ws else (kindsL.find? (fun x => x.word == w)).bind (fun x => readE x.k ws) := by
  rw [parse_eq line w ws h, kd_find]
def PsE (q : ByteArray) (base : Nat) (e : Ending) (w : World) : Prop := ∃ er x ks, e = .returned (.tuple #[.agg x.C, .int .i64 er]) ∧ PsR q base er x ks w
theorem PsE.of {q : ByteArray} {base : Nat} {e : Ending} {w : World} (er : Int) (x : EvV) (ks : List Int) (h : e = .returned (.tuple #[.agg x.C, .int .i64 er])) (h2 : PsR q base er x ks w) : PsE q base e w := ⟨er, x, ks, h, h2⟩
theorem info_kdR : (Tryz.prog.info? 53).map (·.size) = some 4 := by kernel_rfl
section
variable {ops : Array Oper} {S : Nat → GSpec} {Q : Exit → Act → World → Prop} {i : Nat} {o : Oper} {a : Act} {w : World}
theorem gs_tailS (hw : Region.wanted o (yielded ops a.tmps) = true) (s : Operand) (ho : o.op = .slice 46 s (some (.const (.int .i64 1))) none none) (g off n cap : Nat) (hs : a.eval s = .slice (some ⟨g, off, none⟩) n cap) (hn : 1 ≤ n) (hc : n ≤ cap) (o1 : Nat) (ho1 : o1 = if cap = 1 then off else off + 1)
    (hp : (S i).p (.slice (some ⟨g, o1, none⟩) (n - 1) (cap - 1)) w) : GStep Tryz.prog ops S Q i o a w :=
  gs_run hw (v := .slice (some ⟨g, o1, none⟩) (n - 1) (cap - 1)) (by
    rw [ho1]
    have e := run_slice_l (P := Tryz.prog) (w := w) 46 (some ⟨g, off, none⟩) n cap under_strsQ .i64 1 (by omega) (by omega)
    rw [size_strQ] at e
    have hcst : ∀ v : Value, a.eval (.const v) = v := fun _ => rfl
    unfold execOp
    simp only [ho, hs, hcst, Option.map_some, Option.map_none, Sem.run_bind, run_sliceAt_slice _ _ _ _ _ _ under_strsQ, e, Result.andThen_ok, Sem.run_pure, sliced]
    have ht1 : (1 : Int).toNat = 1 := by decide
    rw [ht1]
    by_cases h1 : cap = 1
    · simp only [if_pos h1]
    · simp only [if_neg h1, Option.map_some, Addr.add_lit]) (Below.refl _ _) hp
theorem gs_load_kd_at (hw : Region.wanted o (yielded ops a.tmps) = true) (x : Operand) (ho : o.op = .load 53 x) (b off : Nat) (hx : a.eval x = .pointer (some ⟨b, off, none⟩)) (y : KdV) (hr : RowAt w b off y.C)
    (hp : (S i).p (.agg y.C) w) : GStep Tryz.prog ops S Q i o a w :=
  gs_run hw (v := .agg y.C) (by unfold execOp; simp only [ho, hx, Instr.loadAt, Instr.sureAddr, Sem.run_bind, Sem.run_pure, Result.andThen_ok, run_loadVar_at w b off _ _ _ hr Tryz.underlying53 rfl (info_kdR.trans rfl)]) (Below.refl _ _) hp
theorem gs_eqlS (hw : Region.wanted o (yielded ops a.tmps) = true) (t t2 : TypeId) (x y : Operand) (ho : o.op = .binOp .eql t x y t2) (p q : ByteArray) (hx : a.eval x = .string p) (hy : a.eval y = .string q)
    (hp : (S i).p (.bool (p.toList == q.toList)) w) : GStep Tryz.prog ops S Q i o a w :=
  gs_bin hw _ _ _ x y ho _ _ _ hx hy (by rw [eqGuard_at_string]; rfl) (by rw [binOp_string_eql]; rfl) hp
end
theorem under_kds : Tryz.prog.underlying 50 = some (.slice (Tryz.prog.elem 50)) := by kernel_rfl
theorem size_kds (w : World) : (sizeOf (Tryz.prog.elem 50)).run Tryz.prog w = .ok 4 w := by kernel_rfl
theorem size_strE1 (w : World) : (sizeOf (Tryz.prog.elem 46)).run Tryz.prog w = .ok 1 w := by kernel_rfl
theorem enter_event (args : Array Value) (w : World) : (callFunc 18 args).run Tryz.prog w = .ok (.enter 18 args) w := by kernel_rfl
theorem field_kdo_0 (b off : Nat) (w : World) : (Instr.fieldAt 53 (.pointer (some ⟨b, off, none⟩)) 0).run Tryz.prog w = .ok (.pointer (some ⟨b, off, none⟩)) w := by kernel_rfl
/-- what event's answer is in a drawn region -/
def evS (k : Nat) (pt : List ByteArray) (lim base : Nat) (g : Int × EvV × List Int) : GSpec := ⟨fun v w => v = .tuple #[.agg g.2.1.C, .int .i64 g.1] ∧ EtR k pt lim base g.1 g.2.1 g.2.2 w, fun v w w' ⟨h1, h2⟩ hb => ⟨h1, h2.then_ hb⟩⟩
set_option maxRecDepth 100000 in
set_option maxHeartbeats 16000000 in
theorem rparse_any (q : ByteArray) (hq : q.size ≤ 1073741824) (w : World) :
    Calls Tryz.prog 7 #[.string q] w fun e w' => PsE q w.heap.size e w' ∧ Below w.heap.size w w' := by
  have e1 : (tl q).length + 1 = q.size + 1 := by simp [tl]
  go_enter Tryz.func7, Tryz.ntmps7
  go_upto_region 1 with (fail)
  obtain ⟨w1, hw1⟩ : ∃ y, y = w.alloc (.cells #[.int .i64 0, .string ⟨#[]⟩, .string ⟨#[]⟩, .string ⟨#[]⟩, .int .i64 0, .bool false, .slice none 0 0] 25) := ⟨_, rfl⟩
  have hb0 : Blk w1 w.heap.size 25 (evK 0).C := by rw [hw1]; exact Blk.new w _ _
  have hB1 : Below w.heap.size w w1 := by rw [hw1]; exact below_alloc (Below.refl w.heap.size w) _
  rw [← hw1]
  clear hw1
  obtain ⟨r0, hr0⟩ : ∃ y, y = w.heap.size := ⟨_, rfl⟩
  rw [← hr0] at hb0 hB1 ⊢
  replace hr0 := Lib.hid hr0
  have kP := rparts_any q (by omega) w1
  have hgz := hb0.lt
  have kS := fun W => silent_any q (by omega) W
  obtain ⟨sl, hsl⟩ : ∃ sl, silentL (tl q) = sl := ⟨_, rfl⟩
  rw [hsl] at kS
  cases hX : partsG (q.size + 1) (tl q) with
  | none =>
    have hnone : Hid (parseE (tl q) = none) := Lib.hid (by
      unfold parseE
      rw [e1, hX])
    clear e1 hsl
    go_upto_region 2 with (go_at_call 14; refine kP.mono ?_; clear kP; rintro e w2 ⟨hres, hBp⟩; obtain ⟨ps, A, c, h1, rfl, ho, hpl⟩ | ⟨_, rfl⟩ := hres; · (rw [hX] at h1; cases h1))
    have hb2 := blk_then hb0 hBp
    have hB2 : Below r0 w w2 := hB1.trans (hBp.mono (Nat.le_of_lt hgz))
    clear hX
    go_wp2_with (first
      | (go_at_call 15; refine (kS _).mono ?_; clear kS; rintro e w3 ⟨rfl, hB3⟩)
      | (refine wl_build_ev0 rfl rfl ?_)
      | (refine wl_store_ev rfl _ _ rfl r0 (evK 0) (evK 0) rfl rfl (blk_then hb2 hB3) ?_; intro w5 h5 hg5))
    refine ret_cell2 rfl _ rfl h5 Tryz.underlying25 rfl (info_ev.trans rfl) rfl ?_
    refine ⟨PsE.of 260 (evK 0) [] rfl (psr_no q _ _ hnone.out), ?_⟩
    rw [← hr0.out]
    exact (hB2.trans (hB3.mono (Nat.le_of_lt hb2.lt))).grown hg5 (Nat.le_of_lt (blk_then hb2 hB3).lt) (by rintro k ⟨⟩; exact Nat.le_refl _)
  | some ws =>
    have hsl2 : sl = decide (ws = []) := by rw [← hsl]; exact silent_parts _ _ _ hX
    cases ws with
    | nil =>
      have hnone : Hid (parseE (tl q) = none) := Lib.hid (by
        unfold parseE
        rw [e1, hX])
      rw [show sl = true from hsl2] at kS
      clear e1 hsl hsl2
      go_upto_region 2 with (go_at_call 14; refine kP.mono ?_; clear kP; rintro e w2 ⟨hres, hBp⟩; obtain ⟨ps, A, c, h1, rfl, ho, hpl⟩ | ⟨h1, _⟩ := hres; rotate_left; · (rw [hX] at h1; cases h1))
      have hb2 := blk_then hb0 hBp
      have hB2 : Below r0 w w2 := hB1.trans (hBp.mono (Nat.le_of_lt hgz))
      clear hX h1 ho hpl
      go_wp2_with (first
        | (go_at_call 15; refine (kS _).mono ?_; clear kS; rintro e w3 ⟨rfl, hB3⟩)
        | (refine wl_build_ev0 rfl rfl ?_)
        | (refine wl_store_ev rfl _ _ rfl r0 (evK 0) (evK 0) rfl rfl (blk_then hb2 hB3) ?_; intro w5 h5 hg5))
      refine ret_cell2 rfl _ rfl h5 Tryz.underlying25 rfl (info_ev.trans rfl) rfl ?_
      refine ⟨PsE.of 260 (evK 0) [] rfl (psr_no q _ _ hnone.out), ?_⟩
      rw [← hr0.out]
      exact (hB2.trans (hB3.mono (Nat.le_of_lt hb2.lt))).grown hg5 (Nat.le_of_lt (blk_then hb2 hB3).lt) (by rintro k ⟨⟩; exact Nat.le_refl _)
    | cons W WS =>
      have hpar := parse_kd (tl q) W WS (by rw [e1, hX])
      have hsm := parts_small _ _ _ hX
      rw [show sl = false from hsl2] at kS
      clear e1 hsl hsl2
      go_upto_region 2 with (go_at_call 14; refine kP.mono ?_; clear kP; rintro e w2 ⟨hres, hBp⟩; obtain ⟨ps, A, c, h1, rfl, ho, hpl⟩ | ⟨h1, _⟩ := hres; rotate_left; · (rw [hX] at h1; cases h1))
      rw [hX] at h1
      injection h1 with h1
      obtain ⟨P, PT, rfl⟩ : ∃ P PT, ps = P :: PT := by
        cases ps with
        | nil => cases h1
        | cons P PT => exact ⟨P, PT, rfl⟩
      simp only [List.map_cons] at h1
      injection h1 with h1 h2
      subst h1
      subst h2
      have hlim : ∀ p ∈ PT, p.size ≤ q.size := fun p hp => by
        have h9 := hsm (tl p) (List.mem_cons_of_mem _ (List.mem_map_of_mem hp))
        simpa [tl] using h9
      have hfq : PT.length + 1 ≤ q.size := by
        simp only [List.length_cons] at hpl
        omega
      obtain ⟨gA, cap, hv, hbA, hgA, hcl, hcm⟩ := ho.form (by simp)
      injection hv with hA hn9 hc9
      subst hc9
      subst hA
      have hb2 := blk_then hb0 hBp
      have hB2 : Below r0 w w2 := hB1.trans (hBp.mono (Nat.le_of_lt hgz))
      have hsl := ho.slice_all (size := 1) (enc := encQ) (fun y => rfl)
      have hrA : r0 < gA := by omega
      clear hn9 hb0 hB1 hBp ho hX hsm hpl hbA hcm
      simp only [List.length_cons] at hcl ⊢
      obtain ⟨n, hn⟩ : ∃ n, PT.length = n := ⟨_, rfl⟩
      rw [hn] at hcl hfq ⊢
      replace hn := Lib.hid hn
      replace hlim := Lib.hid hlim
      have hpar2 := Lib.hid hpar
      go_upto_region 5 with (go_at_call 15; refine (kS _).mono ?_; clear kS; rintro e w3 ⟨rfl, hB3⟩)
      have hb3 := blk_then hb2 hB3
      have hBw3 := hB2.trans (hB3.mono (Nat.le_of_lt hb2.lt))
      have hsl3 := SliceOf.then_' hsl hB3
      have hAl3 : gA < w3.heap.size := Nat.lt_of_lt_of_le hgA hB3.size
      have cP : w3.cell? ⟨gA, 0, none⟩ = some (.string P) := by
        rcases hsl3 with h | ⟨b9, o9, hA9, hlt9, hrow9⟩
        · cases h
        · injection hA9 with hA9
          injection hA9 with e1 e2
          subst e1
          subst e2
          exact hrow9 0 (by simp) 0 _ rfl
      clear hb2 hB2 hsl hgA hgz hB3 hpar
      by_cases hans : tl P = firsts.getD 9 []
      · have fa : (P.toList == [97, 110, 115, 119, 101, 114]) = true := by rw [Lib.toList_data, beq_iff_eq]; exact hans
        have hp9 : Hid (parseE (tl q) = readE 9 (PT.map tl)) := Lib.hid (by rw [hpar2.out, if_pos hans])
        have kA := ranswer_any (some ⟨gA, 0, none⟩) (n + 1) c P PT (by rw [hn.out]) (by omega) q.size hlim.out (by omega) w3 hsl3
        clear hans hpar2
        go_wp2_with (first
          | (go_at_call 16; refine kA.mono ?_; clear kA; rintro e w4 ⟨⟨er, x, ks, rfl, hET⟩, hB4⟩)
          | (refine wl_store_ev rfl _ _ rfl r0 x (evK 0) rfl rfl (blk_then hb3 hB4) ?_; intro w5 h5 hg5))
        refine ret_cell2 rfl _ rfl h5 Tryz.underlying25 rfl (info_ev.trans rfl) rfl ?_
        refine ⟨PsE.of er x ks rfl (((hET.kept hg5 hb3.lt).base (by rw [← hr0.out]; exact Nat.le_of_lt hb3.lt)).psr hp9.out (by rw [hn.out]; omega)), ?_⟩
        rw [← hr0.out]
        exact (hBw3.trans (hB4.mono (Nat.le_of_lt hb3.lt))).grown hg5 (Nat.le_of_lt (blk_then hb3 hB4).lt) (by rintro k ⟨⟩; exact Nat.le_refl _)
      · have fa : (P.toList == [97, 110, 115, 119, 101, 114]) = false := by
          rw [beq_eq_false_iff_ne]
          intro h
          rw [Lib.toList_data] at h
          exact hans h
        have hp8 : Hid (parseE (tl q) = (kindsL.find? (fun x => x.word == tl P)).bind (fun x => readE x.k (PT.map tl))) := Lib.hid (by rw [hpar2.out, if_neg hans])
        have kK := kinds_any w3
        clear hans hpar2
        go_upto_region 8 with (go_at_call 17; refine kK.mono ?_; clear kK; rintro e w4 ⟨⟨rfl, hKb⟩, hB4⟩)
        obtain ⟨gK, hgK⟩ : ∃ y, y = w3.heap.size := ⟨_, rfl⟩
        rw [← hgK] at hKb ⊢
        have hb4 := blk_then hb3 hB4
        have hBw4 := hBw3.trans (hB4.mono (Nat.le_of_lt hb3.lt))
        have hsl4 := SliceOf.then_' hsl3 hB4
        have hAl4 : gA < w4.heap.size := Nat.lt_of_lt_of_le hAl3 hB4.size
        have cP4 : w4.cell? ⟨gA, 0 + 0 * 1, none⟩ = some (.string P) := (hB4.cell (p := ⟨gA, 0, none⟩) hAl3).trans cP
        have hr3 : r0 < gK := by rw [hgK]; exact hb3.lt
        replace hgK := Lib.hid hgK
        replace cP4 := Lib.hid cP4
        clear hb3 hBw3 hsl3 hAl3 cP hB4 fa
        go_wp2_with (fail)
        go_loopw [8] (fun iv wr => ∃ i : Nat, i ≤ 11 ∧ iv = .int .i64 i ∧ Below w4.heap.size w4 wr ∧ Hid (∀ r ∈ kindsL.take i, r.word ≠ tl P)) (fun iv _ => 11 - (intOf iv).toNat)
        case atStart => exact ⟨0, by omega, rfl, Below.refl _ _, Lib.hid (by simp)⟩
        case round =>
          obtain ⟨i, hi, rfl, hBr, hno⟩ := hrel
          have hb := blk_then hb4 hBr
          have hK := blk_then hKb hBr
          have hBwr := hBw4.trans (hBr.mono (Nat.le_of_lt hb4.lt))
          have hslr := SliceOf.then_' hsl4 hBr
          by_cases hl : i < 11
          case neg =>
            have hI : ¬ (i : Int) < 11 := by omega
            have hnone : Hid (parseE (tl q) = none) := Lib.hid (by
              have h := hno.out
              rw [List.take_of_length_le (by show (11 : Nat) ≤ i; omega)] at h
              rw [hp8.out, List.find?_eq_none.2 (fun r hr => by simpa using h r hr)]
              rfl)
            clear hno
            go_wp2_with (first
              | (refine wl_build_ev0 rfl rfl ?_)
              | (refine wl_store_ev rfl _ _ rfl r0 (evK 0) (evK 0) rfl rfl hb ?_; intro w5 h5 hg5))
            refine ret_cell2 rfl _ rfl h5 Tryz.underlying25 rfl (info_ev.trans rfl) rfl ?_
            refine ⟨PsE.of 260 (evK 0) [] rfl (psr_no q _ _ hnone.out), ?_⟩
            rw [← hr0.out]
            exact hBwr.grown hg5 (Nat.le_of_lt hb.lt) (by rintro k ⟨⟩; exact Nat.le_refl _)
          have hI : (i : Int) < 11 := by omega
          have hI0 : ¬ (i : Int) < 0 := by omega
          have hll : i < kindsL.length := hl
          have hrow := kinds_row hK i hll
          obtain ⟨r, hr⟩ : ∃ r, kindsL[i] = r := ⟨_, rfl⟩
          have hmem : r ∈ kindsL := by rw [← hr]; exact List.getElem_mem _
          rw [hr] at hrow
          obtain ⟨RW, hRW⟩ : ∃ RW : ByteArray, RW = ⟨r.word.toArray⟩ := ⟨_, rfl⟩
          have hRWt : tl RW = r.word := by rw [hRW]
          have cRW : wr.cell? ⟨gK, 0 + i * 4, none⟩ = some (.string RW) := by
            rw [Nat.zero_add, hRW]
            exact hrow 0 _ rfl
          have hKl : gK < wr.heap.size := hK.lt
          have hAl : gA < wr.heap.size := Nat.lt_of_lt_of_le hAl4 hBr.size
          have cP0 : wr.cell? ⟨gA, 0 + 0 * 1, none⟩ = some (.string P) := (hBr.cell (p := ⟨gA, 0 + 0 * 1, none⟩) hAl4).trans cP4.out
          obtain ⟨bb, hbb⟩ : ∃ bb, (RW.toList == P.toList) = bb := ⟨_, rfl⟩
          have hbb2 : bb = decide (r.word = tl P) := by
            rw [← hbb, Lib.toList_data, Lib.toList_data, ← hRWt]
            exact Bool.eq_iff_iff.2 (by rw [beq_iff_eq, decide_eq_true_iff])
          replace hbb := Lib.hid hbb
          replace hRW := Lib.hid hRW
          have cRWH := Lib.hid cRW
          have cP0H := Lib.hid cP0
          replace hrow := Lib.hid hrow
          have hrH := Lib.hid hr
          clear cRW cP0 hRWt hr
          go_upto_region 11 with (fail)
          have cRW := cRWH.out
          have cP0 := cP0H.out
          refine wp_region_steps 9 [eqS (.slice (some ⟨gK, 0, none⟩) 11 11), eqS (.int .i64 (((i : Nat) : Int))), eqS (.pointer (some ⟨gK, 0 + i * 4, none⟩)), eqS (.pointer (some ⟨gK, 0 + i * 4, none⟩)), eqS (.string RW), eqS (.slice (some ⟨gA, 0, none⟩) (n + 1) c), eqS (.pointer (some ⟨gA, 0 + 0 * 1, none⟩)), eqS (.string P), eqS (.bool bb)] [37, 38, 39, 40, 41, 42, 43, 44, 45] (by kernel_rfl) (by kernel_rfl) (by kernel_rfl) ?_ ?_
          · skip
            refine Steps.cons (fun a' w' hG hB dep => gs_move (want_none rfl) _ rfl (id (hG.other 7 rfl))) ?_
            refine Steps.cons (fun a' w' hG hB dep => gs_move (want_none rfl) _ rfl (id (hG.other 8 rfl))) ?_
            refine Steps.cons (fun a' w' hG hB dep => gs_index (want_none rfl) _ _ _ rfl under_kds 4 size_kds gK 0 11 11 i (dep 0 rfl 37 rfl) (dep 1 rfl 38 rfl) hl rfl) ?_
            refine Steps.cons (fun a' w' hG hB dep => gs_field (want_none rfl) _ _ _ rfl gK (0 + i * 4) (0 + i * 4) (dep 2 rfl 39 rfl) (fun wz => field_kdo_0 gK (0 + i * 4) wz) rfl) ?_
            refine Steps.cons (fun a' w' hG hB dep => gs_load1 (want_none rfl) _ _ rfl gK (0 + i * 4) (dep 3 rfl 40 rfl) (.string RW) ((hB.cell hKl).trans cRW) _ Tryz.underlying9 rfl rfl) ?_
            refine Steps.cons (fun a' w' hG hB dep => gs_move (want_none rfl) _ rfl (id (hG.other 4 rfl))) ?_
            refine Steps.cons (fun a' w' hG hB dep => gs_index (want_none rfl) _ _ _ rfl under_strsQ 1 size_strE1 gA 0 (n + 1) c 0 (dep 5 rfl 42 rfl) rfl (by omega) rfl) ?_
            refine Steps.cons (fun a' w' hG hB dep => gs_load1 (want_none rfl) _ _ rfl gA (0 + 0 * 1) (dep 6 rfl 43 rfl) (.string P) ((hB.cell hAl).trans cP0) _ Tryz.underlying9 rfl rfl) ?_
            refine Steps.cons (fun a' w' hG hB dep => gs_eqlS (want_none rfl) _ _ _ _ rfl RW P (dep 4 rfl 41 rfl) (dep 7 rfl 44 rfl) (id (congrArg Value.bool hbb.out))) ?_
            exact Steps.nil
          intro u w9 hw9 ans
          have hus45 : u 45 = (.bool bb) := ans 8 45 (by decide) rfl
          clear ans
          simp only [putAll, List.foldl_cons, List.foldl_nil, Act.put, List.setIfInBounds_toArray, List.set_cons_zero, List.set_cons_succ, hus45]
          clear hus45
          simp only [List.drop]
          refine wpList_nil ?_
          clear cRW cP0
          have hb9 := blk_then hb hw9
          have hBw9 := hBwr.trans (hw9.mono (Nat.le_of_lt hb.lt))
          have hB49 := hBr.trans (hw9.mono hBr.size)
          have hsl9 := SliceOf.then_' hslr hw9
          have hKl9 : gK < w9.heap.size := Nat.lt_of_lt_of_le hKl hw9.size
          have hrow9 : RowAt w9 gK (0 + i * 4) r.C := by rw [Nat.zero_add]; exact hrow.out.keep (hw9.block gK hKl)
          have hrow9H := Lib.hid hrow9
          have hr09 := hb9.lt
          clear hrow9 hb hBwr hslr hK hw9 hrow
          cases bb with
          | false =>
            have hne : r.word ≠ tl P := of_decide_eq_false hbb2.symm
            have hno2 : Hid (∀ r ∈ kindsL.take (i + 1), r.word ≠ tl P) := Lib.hid (fun r' hr' => by
              rw [List.take_add_one, List.getElem?_eq_getElem hll, hrH.out] at hr'
              rcases List.mem_append.1 hr' with h1 | h1
              · exact hno.out r' h1
              · obtain rfl : r' = r := by simpa using h1
                exact hne)
            clear hno hbb2 hne
            go_wp2_with (fail)
            exact ⟨⟨i + 1, by omega, rfl, hB49, hno2⟩, by simp only [intOf]; omega⟩
          | true =>
            have heq : r.word = tl P := of_decide_eq_true hbb2.symm
            have hpr : Hid (parseE (tl q) = readE r.k (PT.map tl)) := Lib.hid (by
              rw [hp8.out, List.find?_eq_some_iff_append.2 ⟨by rw [heq]; simp, kindsL.take i, kindsL.drop (i + 1), by
                rw [← hrH.out]
                simp, fun a ha => by simpa using hno.out a ha⟩]
              rfl)
            obtain ⟨o1, ho1⟩ : ∃ y : Nat, y = (if c = 1 then 0 else 0 + 1) := ⟨_, rfl⟩
            replace ho1 := Lib.hid ho1
            obtain ⟨wr2, hwr2⟩ : ∃ y, y = w9 := ⟨_, rfl⟩
            have kE : ∀ W, Below w9.heap.size w9 W → Calls Tryz.prog 18 #[.agg r.C, .slice (some ⟨gA, o1, none⟩) (n + 1 - 1) (c - 1)] W fun e w' => EtE r.k PT q.size W.heap.size e w' ∧ Below W.heap.size W w' := fun W hW => by
              have h := revent_any ⟨r.word.toArray⟩ r.k r.wd r.wh (decide (r.wh < 0)) (kd_ok r hmem) (some ⟨gA, o1, none⟩) (n + 1 - 1) (c - 1) PT (by rw [hn.out]; omega) (by omega) q.size hlim.out (by omega) W (slice_tail (SliceOf.then_' hsl9 hW) (by simp only [List.length_cons]; rw [hn.out]; exact hcl) o1 ho1.out)
              exact h
            clear hno hbb2 heq hwr2 wr2
            replace hsl9 := Lib.hid hsl9
            go_upto_region 12 with (fail)
            have hrow := hrow9H.out
            have hKl := hKl9
            refine wp_region_stepsE 9 6 [6, 7, 8] (fun g : Int × EvV × List Int => [eqS (.slice (some ⟨gK, 0, none⟩) 11 11), eqS (.int .i64 (((i : Nat) : Int))), eqS (.pointer (some ⟨gK, 0 + i * 4, none⟩)), eqS (.agg r.C), eqS (.slice (some ⟨gA, 0, none⟩) (n + 1) c), eqS (.slice (some ⟨gA, o1, none⟩) (n + 1 - 1) (c - 1)), evS r.k PT q.size w9.heap.size g, eqS (.agg g.2.1.C), eqS (.int .i64 (g.1))]) (0, evK 0, []) [46, 47, 48, 49, 50, 51, 52, 53, 54] follows_mixed (by kernel_rfl) (by kernel_rfl) (fun g g' j hj => by rcases j with _ | _ | _ | _ | _ | _ | _ | _ | _ | j <;> first | rfl | (exact absurd hj (by decide))) (by kernel_rfl) ?_ ?_
            · skip
              refine StepsE.cons (fun g a' w' hG hB dep => gs_move (want_none rfl) _ rfl (id (hG.other 7 rfl))) ?_
              refine StepsE.cons (fun g a' w' hG hB dep => gs_move (want_none rfl) _ rfl (id (hG.other 8 rfl))) ?_
              refine StepsE.cons (fun g a' w' hG hB dep => gs_index (want_none rfl) _ _ _ rfl under_kds 4 size_kds gK 0 11 11 i (dep 0 rfl 46 rfl) (dep 1 rfl 47 rfl) hl rfl) ?_
              refine StepsE.cons (fun g a' w' hG hB dep => gs_load_kd_at (want_none rfl) _ rfl gK (0 + i * 4) (dep 2 rfl 48 rfl) _ (hrow.keep (hB.block gK hKl)) rfl) ?_
              refine StepsE.cons (fun g a' w' hG hB dep => gs_move (want_none rfl) _ rfl (id (hG.other 4 rfl))) ?_
              refine StepsE.cons (fun g a' w' hG hB dep => gs_tailS (want_none rfl) _ rfl gA 0 (n + 1) c (dep 4 rfl 50 rfl) (by omega) hcl o1 ho1.out rfl) ?_
              refine StepsE.cons (fun g a' w' hG hB dep => gs_call (want_none rfl) _ _ _ rfl enter_event #[(.agg r.C), (.slice (some ⟨gA, o1, none⟩) (n + 1 - 1) (c - 1))] (map2 (dep 3 rfl 49 rfl) (dep 5 rfl 51 rfl)) ((kE _ hB).mono fun e w2 ⟨⟨er, x, ks, h1, h2⟩, hb9⟩ => ⟨_, h1, hb9, ⟨(er, x, ks), rfl, h2.base hB.size⟩⟩)) ?_
              refine StepsE.cons (fun g a' w' hG hB dep => gs_extract (want_none rfl) _ 0 rfl _ (dep 6 rfl 52 rfl).1 _ rfl rfl) ?_
              refine StepsE.cons (fun g a' w' hG hB dep => gs_extract (want_none rfl) _ 1 rfl _ (dep 6 rfl 52 rfl).1 _ rfl rfl) ?_
              exact StepsE.nil
            intro gh u w5 hw5 ans
            have hus53 : u 53 = .agg gh.2.1.C := ans 7 53 (by decide) rfl
            have hus54 : u 54 = .int .i64 gh.1 := ans 8 54 (by decide) rfl
            have hET : EtR r.k PT q.size w9.heap.size gh.1 gh.2.1 gh.2.2 w5 := (show (evS r.k PT q.size w9.heap.size gh).p (u 52) w5 from ans 6 52 (by decide) rfl).2
            clear ans
            simp only [putAll, List.foldl_cons, List.foldl_nil, Act.put, List.setIfInBounds_toArray, List.set_cons_zero, List.set_cons_succ, hus53, hus54]
            clear hus53 hus54
            simp only [List.drop]
            clear hrow hKl
            go_wp2_with (refine wl_store_ev rfl _ _ rfl r0 gh.2.1 (evK 0) rfl rfl (blk_then hb9 hw5) ?_; intro w6 h6 hg6)
            refine ret_cell2 rfl _ rfl h6 Tryz.underlying25 rfl (info_ev.trans rfl) rfl ?_
            refine ⟨PsE.of gh.1 gh.2.1 gh.2.2 rfl (((hET.kept hg6 hr09).base (by rw [← hr0.out]; exact Nat.le_of_lt hr09)).psr hpr.out (by rw [hn.out]; omega)), ?_⟩
            rw [← hr0.out]
            exact (hBw9.trans (hw5.mono (Nat.le_of_lt hr09))).grown hg6 (Nat.le_of_lt (blk_then hb9 hw5).lt) (by rintro k ⟨⟩; exact Nat.le_refl _)
end Go.Proofs.YtjplgcmfifoefaaGreatDoor
namespace Go.Proofs.YtjplgcmfifoefaaGreatDoor
open Go.RowKit Go.Shelf Go.Maps
set_option linter.unusedVariables false
set_option linter.unusedSimpArgs false
attribute [local go_sem] Oper.semAt_some

theorem wl_pushZk {ops : Array Oper} {rest : List Oper} {o : Oper} {a : Act} {w : World} {Q : Exit → Act → World → Prop} (hgd : o.guard = none) (s x : Operand) (ho : o.op = .call { callee := .builtin .append, args := #[s, x], argTypes := #[23, 23] })
    (base : Nat) (l : List Int) (z : Int) {A : Option Addr} {n c g : Nat} (hs : a.eval s = .slice A n c) (hx : a.eval x = .slice (some ⟨g, 0, none⟩) 1 1) (hb1 : Blk w g 3 (encZ z)) (hown : Own w base 3 1 encZ (.slice A n c) l) (hn : n = l.length) (hl : l.length + 1 ≤ 1099511627776) (hbase : base ≤ w.heap.size)
    (h : ∀ A' c' w', Own w' base 3 1 encZ (.slice A' (n + 1) c') (l ++ [z]) → Own w' base 3 1 encZ (.slice A n c) l → w.grownBy w' (Value.slice A n c).ownBlock → ((Value.slice A' (n + 1) c').ownBlock = (Value.slice A n c).ownBlock ∨ (Value.slice A' (n + 1) c').ownBlock = some w.heap.size) → wpList Tryz.prog ops Q rest (a.put o.dst (.slice A' (n + 1) c')) w') : wpList Tryz.prog ops Q (o :: rest) a w := by
  obtain ⟨ii, hii, hz0, hz1, hz2⟩ := info_parts info_int3
  subst hn
  refine wl_append_keep hgd _ _ 23 ho base 3 ii _ 1 8 Tryz.underlying23 hii hz0 hz1 hz2 rfl (by decide) encZ_size encZ_one (.slice A l.length c) l hs hown w.heap.size _ 1 1 [z] hx rfl (slice_one (enc := encZ) hb1) (by unfold maxLen; omega) (by omega) hbase ?_
  intro v' w' ho' hk hg hv
  obtain ⟨A', c', rfl, _, _⟩ := ho'.shape
  have hl8 : (l ++ [z]).length = l.length + 1 := by simp
  rw [hl8] at ho' hv ⊢
  exact h _ _ _ ho' hk hg hv
theorem psr_eq {q : ByteArray} {b0 b1 : Nat} {e0 e1 : Int} {x0 x1 : EvV} {k0 k1 : List Int} {w0 w1 : World} (h0 : PsR q b0 e0 x0 k0 w0) (h1 : PsR q b1 e1 x1 k1 w1) : e1 = e0 ∧ x1.ev k1 = x0.ev k0 := by
  cases hp : parseE (tl q) with
  | none =>
    obtain ⟨a1, a2, a3⟩ := h0.no hp
    obtain ⟨b1, b2, b3⟩ := h1.no hp
    rw [a1, a2, a3, b1, b2, b3]
    exact ⟨rfl, rfl⟩
  | some e' =>
    obtain ⟨a1, a2⟩ := h0.yes e' hp
    obtain ⟨b1, b2⟩ := h1.yes e' hp
    exact ⟨b1.trans a1.symm, b2.trans a2.symm⟩
/-- what stands: three events read, each with numbers of its own -/
structure PX (B1 B2 gW gA gB : Nat) (x0 x1 x2 : EvV) (w : World) (k0 l1 l2 : List Int) (W : World) : Prop where
  q1 : w.heap.size ≤ B1
  qW : gW < B1
  q2 : B1 ≤ gA
  q3 : gA < B2
  q4 : B2 ≤ gB
  bW : Blk W gW 25 x0.C
  bA : Blk W gA 25 x1.C
  bB : Blk W gB 25 x2.C
  o0 : Own W 0 3 1 encZ (.slice x0.A x0.m x0.c) k0
  o1 : Own W B1 3 1 encZ (.slice x1.A x1.m x1.c) l1
  o2 : Own W B2 3 1 encZ (.slice x2.A x2.m x2.c) l2
  w0 : ∀ j, (Value.slice x0.A x0.m x0.c).ownBlock = some j → j < gW
  w1 : ∀ j, (Value.slice x1.A x1.m x1.c).ownBlock = some j → j < gA
  w2 : ∀ j, (Value.slice x2.A x2.m x2.c).ownBlock = some j → j < gB
  below : Below w.heap.size w W
section
variable {B1 B2 gW gA gB : Nat} {x0 x1 x2 : EvV} {w : World} {k0 l1 l2 l' : List Int} {W W' : World} {row : Option Nat}
theorem PX.then_ (h : PX B1 B2 gW gA gB x0 x1 x2 w k0 l1 l2 W) (hb : Below W.heap.size W W') : PX B1 B2 gW gA gB x0 x1 x2 w k0 l1 l2 W' :=
  ⟨h.q1, h.qW, h.q2, h.q3, h.q4, blk_then h.bW hb, blk_then h.bA hb, blk_then h.bB hb, h.o0.then_ hb, h.o1.then_ hb, h.o2.then_ hb, h.w0, h.w1, h.w2, h.below.trans (hb.mono h.below.size)⟩
theorem PX.turnA (h : PX B1 B2 gW gA gB x0 x1 x2 w k0 l1 l2 W) (hg : W.grownBy W' row) (hr : ∀ j, row = some j → B1 ≤ j ∧ j < gA) (ho : Own W' B1 3 1 encZ (.slice x1.A x1.m x1.c) l') : PX B1 B2 gW gA gB x0 x1 x2 w k0 l' l2 W' := by
  obtain ⟨q1, qW, q2, q3, q4, bW, bA, bB, o0, o1, o2, w0, w1, w2, bl⟩ := h
  refine ⟨q1, qW, q2, q3, q4, bW.grown hg ?_, bA.grown hg ?_, bB.grown hg ?_, o0.kept_ hg ?_, ho, o2.kept_ hg ?_, w0, w1, w2, bl.grown hg bl.size (fun k e => Nat.le_trans q1 (hr k e).1)⟩
  · intro e; have := hr _ e.symm; omega
  · intro e; have := hr _ e.symm; omega
  · intro e; have := hr _ e.symm; omega
  · intro j h1 h2; have a1 := hr j h2; have a2 := w0 j h1; omega
  · intro j h1 h2; have a1 := hr j h2; have a2 := (o2.lt j h1).1; omega
theorem PX.turnB (h : PX B1 B2 gW gA gB x0 x1 x2 w k0 l1 l2 W) (hg : W.grownBy W' row) (hr : ∀ j, row = some j → B2 ≤ j ∧ j < gB) (ho : Own W' B2 3 1 encZ (.slice x2.A x2.m x2.c) l') : PX B1 B2 gW gA gB x0 x1 x2 w k0 l1 l' W' := by
  obtain ⟨q1, qW, q2, q3, q4, bW, bA, bB, o0, o1, o2, w0, w1, w2, bl⟩ := h
  refine ⟨q1, qW, q2, q3, q4, bW.grown hg ?_, bA.grown hg ?_, bB.grown hg ?_, o0.kept_ hg ?_, o1.kept_ hg ?_, ho, w0, w1, w2, bl.grown hg bl.size (fun k e => by have := (hr k e).1; omega)⟩
  · intro e; have := hr _ e.symm; omega
  · intro e; have := hr _ e.symm; omega
  · intro e; have := hr _ e.symm; omega
  · intro j h1 h2; have a1 := hr j h2; have a2 := w0 j h1; omega
  · intro j h1 h2; have a1 := hr j h2; have a2 := w1 j h1; omega
end
/-- a list filled so far -/
def fillL (z : Int) (i : Nat) (l : List Int) : List Int := List.replicate i z ++ l.drop i
theorem fill_len (z : Int) (i : Nat) (l : List Int) (hi : i ≤ l.length) : (fillL z i l).length = l.length := by
  unfold fillL
  rw [List.length_append, List.length_replicate, List.length_drop]
  omega
theorem fill_set (z : Int) (i : Nat) (l : List Int) (hi : i < l.length) : (fillL z i l).set i z = fillL z (i + 1) l := by
  unfold fillL
  rw [List.set_append_right _ _ (by simp), List.length_replicate, Nat.sub_self, List.drop_eq_getElem_cons hi, List.set_cons_zero, List.replicate_succ', List.append_assoc]
  rfl
theorem fill_all (z : Int) (l : List Int) : fillL z l.length l = List.replicate l.length z := by
  unfold fillL
  rw [List.drop_of_length_le (Nat.le_refl _), List.append_nil]
theorem own_cell {w : World} {base n c i : Nat} {A : Option Addr} {l : List Int} {z : Int} (h : Own w base 3 1 encZ (.slice A n c) l) (hi : l[i]? = some z) : ∃ g, A = some ⟨g, 0, none⟩ ∧ g < w.heap.size ∧ w.cell? ⟨g, 0 + i * 1, none⟩ = some (.int .i64 z) := by
  obtain ⟨hl, he⟩ := List.getElem?_eq_some_iff.1 hi
  obtain ⟨g, cap, hv, hb, hlt, hc, hm⟩ := h.form (by omega)
  injection hv with hA hn hc2
  subst hA
  refine ⟨g, rfl, hlt, ?_⟩
  have h1 := h.row encZ_size i hl 0 (.int .i64 z) (by rw [he]; rfl)
  rw [Nat.zero_add]
  exact h1
set_option maxRecDepth 100000 in
set_option maxHeartbeats 16000000 in
theorem scriptParses_any (q : ByteArray) (hq : q.size ≤ 1048576) (w : World) (hS : SOk w) :
    Calls Tryz.prog 3 #[.string q] w fun e w' => e = .returned (.bool true) ∧ Below w.heap.size w w' := by
  have h7 := hS.size
  replace hS := Lib.hid hS
  have kF := fixed_any w hS.out
  go_enter Tryz.func3, Tryz.ntmps3
  go_upto_region 3 with (go_at_call 6; refine kF.mono ?_; clear kF; rintro e w2 ⟨rfl, hB2⟩; refine Lib.hid ?_)
  have kQ := rparse_any q (by omega) w2
  go_upto_region 4 with (first
    | (go_at_call 7; refine kQ.mono ?_; clear kQ; rintro e w3 ⟨⟨er, x0, k0, rfl, hR0⟩, hB3⟩; refine Lib.hid ?_)
    | (refine wl_store_ev rfl _ _ rfl w3.heap.size x0 (evK 0) rfl rfl (Blk.new _ _ _) ?_; intro w4 hW4 hg4))
  have hB34 := below_grown (below_alloc (Below.refl w3.heap.size w3) _) hg4 (Nat.le_refl _)
  have hBw4 : Below w.heap.size w w4 := (hB2.trans (hB3.mono hB2.size)).trans (hB34.mono (Nat.le_trans hB2.size hB3.size))
  obtain ⟨gW, hgW⟩ : ∃ v, v = w3.heap.size := ⟨_, rfl⟩
  have how0 : ∀ j, (Value.slice x0.A x0.m x0.c).ownBlock = some j → j < gW := fun j h => by rw [hgW]; exact (hR0.own.lt j h).2
  rw [← hgW] at hW4 ⊢
  have ho0 := hR0.own.then_ hB34
  have kQ := parse_small q (by omega) w4 (hS.out.then_ h7 hBw4)
  have hgWl := hW4.lt
  replace hgW := Lib.hid hgW
  clear hg4 hB34
  go_upto_region 5 with (first
    | (go_at_call 8; refine kQ.mono ?_; clear kQ; rintro e w5 ⟨⟨er1, x1, k1, rfl, hR1⟩, hB5⟩; refine Lib.hid ?_)
    | (refine wl_store_ev rfl _ _ rfl w5.heap.size x1 (evK 0) rfl rfl (Blk.new _ _ _) ?_; intro w6 hA6 hg6))
  have hB56 := below_grown (below_alloc (Below.refl w5.heap.size w5) _) hg6 (Nat.le_refl _)
  have hB46 : Below w4.heap.size w4 w6 := hB5.trans (hB56.mono hB5.size)
  have hBw6 := hBw4.trans (hB46.mono hBw4.size)
  obtain ⟨gA, hgA⟩ : ∃ v, v = w5.heap.size := ⟨_, rfl⟩
  have how1 : ∀ j, (Value.slice x1.A x1.m x1.c).ownBlock = some j → j < gA := fun j h => by rw [hgA]; exact (hR1.own.lt j h).2
  have hgA4 : w4.heap.size ≤ gA := by rw [hgA]; exact hB5.size
  rw [← hgA] at hA6 ⊢
  have ho1 := hR1.own.then_ hB56
  have hW6 := blk_then hW4 hB46
  have ho06 := ho0.then_ hB46
  have hgAl := hA6.lt
  have kQ := parse_small q (by omega) w6 (hS.out.then_ h7 hBw6)
  obtain ⟨he1, hv1⟩ := psr_eq hR0 hR1
  replace hgA := Lib.hid hgA
  subst he1
  clear hg6 hB56 hW4 ho0
  go_upto_region 6 with (first
    | (go_at_call 8; refine kQ.mono ?_; clear kQ; rintro e w7 ⟨⟨er2, x2, k2, rfl, hR2⟩, hB7⟩; refine Lib.hid ?_)
    | (refine wl_store_ev rfl _ _ rfl w7.heap.size x2 (evK 0) rfl rfl (Blk.new _ _ _) ?_; intro w8 hB8 hg8))
  have hB78 := below_grown (below_alloc (Below.refl w7.heap.size w7) _) hg8 (Nat.le_refl _)
  have hB68 : Below w6.heap.size w6 w8 := hB7.trans (hB78.mono hB7.size)
  obtain ⟨gB, hgB⟩ : ∃ v, v = w7.heap.size := ⟨_, rfl⟩
  have how2 : ∀ j, (Value.slice x2.A x2.m x2.c).ownBlock = some j → j < gB := fun j h => by rw [hgB]; exact (hR2.own.lt j h).2
  have hgB6 : w6.heap.size ≤ gB := by rw [hgB]; exact hB7.size
  rw [← hgB] at hB8 ⊢
  obtain ⟨he2, hv2⟩ := psr_eq hR0 hR2
  subst he2
  replace hgB := Lib.hid hgB
  have hk1 : k1 = k0 := congrArg Ev.keep hv1
  have hk2 : k2 = k0 := congrArg Ev.keep hv2
  subst hk1
  subst hk2
  have hX : PX w4.heap.size w6.heap.size gW gA gB x0 x1 x2 w k2 k2 k2 w8 :=
    ⟨hBw4.size, hgWl, hgA4, hgAl, hgB6, blk_then hW6 hB68, blk_then hA6 hB68, hB8, own_base (ho06.then_ hB68) (Nat.zero_le _), ho1.then_ hB68, hR2.own.then_ hB78, how0, how1, how2, hBw6.trans (hB68.mono hBw6.size)⟩
  have hm0 := hR0.len
  have hm1 := hR1.len
  have hm2 := hR2.len
  have hkf : k2.length ≤ 1048576 := Nat.le_trans hR0.few hq
  have hEv0 : ∀ W, Own W 0 3 1 encZ (.slice x0.A x0.m x0.c) k2 → EvW W x0 k2 := fun W h => ⟨hm0, by omega, h.slice_all encZ_size⟩
  have hEv2 : ∀ W, Own W w6.heap.size 3 1 encZ (.slice x2.A x2.m x2.c) k2 → EvW W x2 k2 := fun W h => ⟨hm2, by omega, h.slice_all encZ_size⟩
  have kS1 : ∀ w', Below w8.heap.size w8 w' → Calls Tryz.prog 9 #[.agg x1.C, .agg x0.C] w' fun e w2 => e = .returned (.bool true) ∧ Below w'.heap.size w' w2 := fun w' hB => by
    have h := same_any x1 x0 k2 k2 w' ⟨hm1, by omega, (hX.then_ hB).o1.slice_all encZ_size⟩ (hEv0 _ (hX.then_ hB).o0)
    rw [hv1, decide_eq_true rfl] at h
    exact h
  have kS : ∀ W, PX w4.heap.size w6.heap.size gW gA gB x0 x1 x2 w k2 (fillL 901 x1.m k2) k2 W → Calls Tryz.prog 9 #[.agg x2.C, .agg x0.C] W fun e w2 => e = .returned (.bool true) ∧ Below W.heap.size W w2 := fun W h9 => by
    have h := same_any x2 x0 k2 k2 W (hEv2 _ h9.o2) (hEv0 _ h9.o0)
    rw [hv2, decide_eq_true rfl] at h
    exact h
  have kS2 : ∀ w', Below w8.heap.size w8 w' → Calls Tryz.prog 9 #[.agg x2.C, .agg x0.C] w' fun e w2 => e = .returned (.bool true) ∧ Below w'.heap.size w' w2 := fun w' hB => by
    have h := same_any x2 x0 k2 k2 w' (hEv2 _ (hX.then_ hB).o2) (hEv0 _ (hX.then_ hB).o0)
    rw [hv2, decide_eq_true rfl] at h
    exact h
  have hm1H := Lib.hid hm1
  have hm2H := Lib.hid hm2
  clear hR0 hR1 hR2 hv1 hv2 hW6 hA6 hB8 ho06 ho1 how0 how1 how2 hgWl hgA4 hgAl hgB6 hB46 hB68 hB78 hBw6 hBw4 hB2 hB3 hB5 hB7 hg8 hm0 hm1 hm2 hEv0 hEv2
  refine wp_region_text 20 [eqS (.int .i64 (er2)), eqS (.int .i64 (er2)), eqS (.bool (((er2 : Int) != (er2 : Int)))), eqS (.bool (((er2 : Int) != (er2 : Int)))), eqS (vF (true && ((((er2 : Int) != (er2 : Int))) == false)) (.int .i64 (er2))), eqS (vF (true && ((((er2 : Int) != (er2 : Int))) == false)) (.int .i64 (er2))), eqS (vF (true && ((((er2 : Int) != (er2 : Int))) == false)) (.bool (((er2 : Int) != (er2 : Int))))), eqS (.bool ((((er2 : Int) != (er2 : Int))) || (((er2 : Int) != (er2 : Int))))), eqS (.bool ((((er2 : Int) != (er2 : Int))) || (((er2 : Int) != (er2 : Int))))), eqS (vF (true && (((((er2 : Int) != (er2 : Int))) || (((er2 : Int) != (er2 : Int)))) == false)) (.agg x1.C)), eqS (vF (true && (((((er2 : Int) != (er2 : Int))) || (((er2 : Int) != (er2 : Int)))) == false)) (.agg x0.C)), eqS (vF (true && (((((er2 : Int) != (er2 : Int))) || (((er2 : Int) != (er2 : Int)))) == false)) (.bool true)), eqS (vF (true && (((((er2 : Int) != (er2 : Int))) || (((er2 : Int) != (er2 : Int)))) == false)) (.bool (!true))), eqS (.bool (((((er2 : Int) != (er2 : Int))) || (((er2 : Int) != (er2 : Int)))) || (!true))), eqS (.bool (((((er2 : Int) != (er2 : Int))) || (((er2 : Int) != (er2 : Int)))) || (!true))), eqS (vF (true && ((((((er2 : Int) != (er2 : Int))) || (((er2 : Int) != (er2 : Int)))) || (!true)) == false)) (.agg x2.C)), eqS (vF (true && ((((((er2 : Int) != (er2 : Int))) || (((er2 : Int) != (er2 : Int)))) || (!true)) == false)) (.agg x0.C)), eqS (vF (true && ((((((er2 : Int) != (er2 : Int))) || (((er2 : Int) != (er2 : Int)))) || (!true)) == false)) (.bool true)), eqS (vF (true && ((((((er2 : Int) != (er2 : Int))) || (((er2 : Int) != (er2 : Int)))) || (!true)) == false)) (.bool (!true))), eqS (.bool ((((((er2 : Int) != (er2 : Int))) || (((er2 : Int) != (er2 : Int)))) || (!true)) || (!true)))] [31, 32, 33, 34, 35, 36, 37, 38, 39, 40, 41, 42, 43, 44, 45, 46, 47, 48, 49, 50] (by kernel_rfl) (by kernel_rfl) ?_ ?_
  · skip
    refine Steps.cons (fun a' w' hG hB dep => gs_move (want_none rfl) _ rfl (id (hG.other 6 rfl))) ?_
    refine Steps.cons (fun a' w' hG hB dep => gs_move (want_none rfl) _ rfl (id (hG.other 4 rfl))) ?_
    refine Steps.cons (fun a' w' hG hB dep => gs_neq_int (want_none rfl) _ _ _ _ rfl _ _ _ (dep 0 rfl 31 rfl) (dep 1 rfl 32 rfl) (id (congrArg Value.bool rfl))) ?_
    refine Steps.cons (fun a' w' hG hB dep => gs_move (want_none rfl) _ rfl (id (dep 2 rfl 33 rfl))) ?_
    refine Steps.cons (fun a' w' hG hB dep => gs_guard (c := true) (b' := (((er2 : Int) != (er2 : Int)))) rfl rfl (dep 3 rfl 34 rfl) (fun hc he hw => gs_move hw _ rfl (Eq.trans (hG.other 8 rfl) (vF_yes (on_g hc he) _).symm)) (fun hn => vF_no hn _)) ?_
    refine Steps.cons (fun a' w' hG hB dep => gs_guard (c := true) (b' := (((er2 : Int) != (er2 : Int)))) rfl rfl (dep 3 rfl 34 rfl) (fun hc he hw => gs_move hw _ rfl (Eq.trans (hG.other 4 rfl) (vF_yes (on_g hc he) _).symm)) (fun hn => vF_no hn _)) ?_
    refine Steps.cons (fun a' w' hG hB dep => gs_guard (c := true) (b' := (((er2 : Int) != (er2 : Int)))) rfl rfl (dep 3 rfl 34 rfl) (fun hc he hw => gs_neq_int hw _ _ _ _ rfl _ _ _ (Eq.trans (dep 4 rfl 35 rfl) (vF_yes (on_g hc he) _)) (Eq.trans (dep 5 rfl 36 rfl) (vF_yes (on_g hc he) _)) (Eq.trans (congrArg Value.bool rfl) (vF_yes (on_g hc he) _).symm)) (fun hn => vF_no hn _)) ?_
    refine Steps.cons (fun a' w' hG hB dep => gs_pick (want_none rfl) _ _ _ rfl (((er2 : Int) != (er2 : Int))) (dep 3 rfl 34 rfl) (id (pick_or2 (c := true) rfl (dep 6 rfl 37 rfl)))) ?_
    refine Steps.cons (fun a' w' hG hB dep => gs_move (want_none rfl) _ rfl (id (dep 7 rfl 38 rfl))) ?_
    refine Steps.cons (fun a' w' hG hB dep => gs_guard (c := true) (b' := ((((er2 : Int) != (er2 : Int))) || (((er2 : Int) != (er2 : Int))))) rfl rfl (dep 8 rfl 39 rfl) (fun hc he hw => gs_load hw _ _ rfl gA (hG.other 5 rfl) _ _ (blk_then hX.bA hB) _ Tryz.underlying25 rfl (info_ev.trans rfl) (vF_yes (on_g hc he) _).symm) (fun hn => vF_no hn _)) ?_
    refine Steps.cons (fun a' w' hG hB dep => gs_guard (c := true) (b' := ((((er2 : Int) != (er2 : Int))) || (((er2 : Int) != (er2 : Int))))) rfl rfl (dep 8 rfl 39 rfl) (fun hc he hw => gs_load hw _ _ rfl gW (hG.other 3 rfl) _ _ (blk_then hX.bW hB) _ Tryz.underlying25 rfl (info_ev.trans rfl) (vF_yes (on_g hc he) _).symm) (fun hn => vF_no hn _)) ?_
    refine Steps.cons (fun a' w' hG hB dep => gs_guard (c := true) (b' := ((((er2 : Int) != (er2 : Int))) || (((er2 : Int) != (er2 : Int))))) rfl rfl (dep 8 rfl 39 rfl) (fun hc he hw => gs_call hw _ _ _ rfl enter_same _ (map2 (Eq.trans (dep 9 rfl 40 rfl) (vF_yes (on_g hc he) _)) (Eq.trans (dep 10 rfl 41 rfl) (vF_yes (on_g hc he) _))) ((kS1 _ hB).mono fun e w2 ⟨hq9, hb9⟩ => ⟨_, hq9, hb9, (vF_yes (on_g hc he) _).symm⟩)) (fun hn => vF_no hn _)) ?_
    refine Steps.cons (fun a' w' hG hB dep => gs_guard (c := true) (b' := ((((er2 : Int) != (er2 : Int))) || (((er2 : Int) != (er2 : Int))))) rfl rfl (dep 8 rfl 39 rfl) (fun hc he hw => gs_not_bool hw _ _ rfl _ (Eq.trans (dep 11 rfl 42 rfl) (vF_yes (on_g hc he) _)) (vF_yes (on_g hc he) _).symm) (fun hn => vF_no hn _)) ?_
    refine Steps.cons (fun a' w' hG hB dep => gs_pick (want_none rfl) _ _ _ rfl ((((er2 : Int) != (er2 : Int))) || (((er2 : Int) != (er2 : Int)))) (dep 8 rfl 39 rfl) (id (pick_or2 (c := true) rfl (dep 12 rfl 43 rfl)))) ?_
    refine Steps.cons (fun a' w' hG hB dep => gs_move (want_none rfl) _ rfl (id (dep 13 rfl 44 rfl))) ?_
    refine Steps.cons (fun a' w' hG hB dep => gs_guard (c := true) (b' := (((((er2 : Int) != (er2 : Int))) || (((er2 : Int) != (er2 : Int)))) || (!true))) rfl rfl (dep 14 rfl 45 rfl) (fun hc he hw => gs_load hw _ _ rfl gB (hG.other 7 rfl) _ _ (blk_then hX.bB hB) _ Tryz.underlying25 rfl (info_ev.trans rfl) (vF_yes (on_g hc he) _).symm) (fun hn => vF_no hn _)) ?_
    refine Steps.cons (fun a' w' hG hB dep => gs_guard (c := true) (b' := (((((er2 : Int) != (er2 : Int))) || (((er2 : Int) != (er2 : Int)))) || (!true))) rfl rfl (dep 14 rfl 45 rfl) (fun hc he hw => gs_load hw _ _ rfl gW (hG.other 3 rfl) _ _ (blk_then hX.bW hB) _ Tryz.underlying25 rfl (info_ev.trans rfl) (vF_yes (on_g hc he) _).symm) (fun hn => vF_no hn _)) ?_
    refine Steps.cons (fun a' w' hG hB dep => gs_guard (c := true) (b' := (((((er2 : Int) != (er2 : Int))) || (((er2 : Int) != (er2 : Int)))) || (!true))) rfl rfl (dep 14 rfl 45 rfl) (fun hc he hw => gs_call hw _ _ _ rfl enter_same _ (map2 (Eq.trans (dep 15 rfl 46 rfl) (vF_yes (on_g hc he) _)) (Eq.trans (dep 16 rfl 47 rfl) (vF_yes (on_g hc he) _))) ((kS2 _ hB).mono fun e w2 ⟨hq9, hb9⟩ => ⟨_, hq9, hb9, (vF_yes (on_g hc he) _).symm⟩)) (fun hn => vF_no hn _)) ?_
    refine Steps.cons (fun a' w' hG hB dep => gs_guard (c := true) (b' := (((((er2 : Int) != (er2 : Int))) || (((er2 : Int) != (er2 : Int)))) || (!true))) rfl rfl (dep 14 rfl 45 rfl) (fun hc he hw => gs_not_bool hw _ _ rfl _ (Eq.trans (dep 17 rfl 48 rfl) (vF_yes (on_g hc he) _)) (vF_yes (on_g hc he) _).symm) (fun hn => vF_no hn _)) ?_
    refine Steps.cons (fun a' w' hG hB dep => gs_pick (want_none rfl) _ _ _ rfl (((((er2 : Int) != (er2 : Int))) || (((er2 : Int) != (er2 : Int)))) || (!true)) (dep 14 rfl 45 rfl) (id (pick_or2 (c := true) rfl (dep 18 rfl 49 rfl)))) ?_
    exact Steps.nil
  intro u w9 hw9 ans
  have hus50 : u 50 = (.bool ((((((er2 : Int) != (er2 : Int))) || (((er2 : Int) != (er2 : Int)))) || (!true)) || (!true))) := ans 19 50 (by decide) rfl
  clear ans
  simp only [putAll, List.foldl_cons, List.foldl_nil, Act.put, List.setIfInBounds_toArray, List.set_cons_zero, List.set_cons_succ, hus50]
  clear hus50
  simp only [List.drop]
  refine wpList_nil ?_
  have fE : ((er2 : Int) != er2) = false := by simp
  simp only [fE, Bool.or_false, Bool.not_true, Bool.false_or]
  replace hX := Lib.hid (hX.then_ hw9)
  replace kS := Lib.hid kS
  clear kS1 kS2 hw9 fE
  go_wp2_with (fail)
  go_loopw [9] (fun iv wr => ∃ i : Nat, i ≤ x1.m ∧ iv = .int .i64 i ∧ PX w4.heap.size w6.heap.size gW gA gB x0 x1 x2 w k2 (fillL 901 i k2) k2 wr) (fun iv _ => x1.m - (intOf iv).toNat)
  case atStart => exact ⟨0, by omega, rfl, by simpa [fillL] using hX.out⟩
  case round =>
    clear hX
    obtain ⟨i, hi, rfl, hX⟩ := hrel
    have cS : wr.cell? ⟨gA, 6, none⟩ = some (.slice x1.A x1.m x1.c) := hX.bA.cellv rfl
    by_cases hl : i < x1.m
    · have hI : (i : Int) < x1.m := by omega
      have hik : i < k2.length := by rw [← hm1H.out]; exact hl
      have hik2 : i < (fillL 901 i k2).length := by rw [fill_len _ _ _ (by omega)]; exact hik
      obtain ⟨ga, hA, hgl, -⟩ := own_cell hX.o1 (List.getElem?_eq_getElem hik2)
      have ho := hX.o1
      have hlt := hX.w1 ga (by rw [hA]; rfl)
      have hge : w4.heap.size ≤ ga := (hX.o1.lt ga (by rw [hA]; rfl)).1
      rw [hA] at cS ho
      have hAH := Lib.hid hA
      clear hA
      replace hX := Lib.hid hX
      go_wp2_with (refine wl_store_one encZ_size rfl _ isz_int _ _ rfl ga i x1.m x1.c rfl 901 rfl rfl rfl ho hik2 ?_; intro w11 ho11 hg11)
      rw [fill_set _ _ _ hik, ← hAH.out] at ho11
      exact ⟨⟨i + 1, by omega, rfl, hX.out.turnA hg11 (by rintro j ⟨⟩; exact ⟨hge, hlt⟩) ho11⟩, by simp only [intOf]; omega⟩
    have hI : ¬ (i : Int) < x1.m := by omega
    obtain rfl : i = x1.m := by omega
    have kS2 := kS.out wr hX
    have bA := hX.bA
    have bB := hX.bB
    have bW := hX.bW
    replace hX := Lib.hid hX
    clear hi hl
    go_upto_region 14 with (first
      | (refine wpList_load_row rfl _ _ rfl gB rfl _ _ _ _ bB Tryz.underlying25 rfl (info_ev.trans rfl) ?_)
      | (refine wpList_load_row rfl _ _ rfl gW rfl _ _ _ _ bW Tryz.underlying25 rfl (info_ev.trans rfl) ?_)
      | (go_at_call 9; refine kS2.mono ?_; clear kS2; rintro e w10 ⟨rfl, hB10⟩; refine Lib.hid ?_))
    have hX10 := Lib.hid (hX.out.then_ hB10)
    clear bA bB bW hX hB10 kS
    go_wp2_with (fail)
    go_loopw [10] (fun iv wr2 => ∃ i : Nat, i ≤ x2.m ∧ iv = .int .i64 i ∧ PX w4.heap.size w6.heap.size gW gA gB x0 x1 x2 w k2 (fillL 901 x1.m k2) (fillL 902 i k2) wr2) (fun iv _ => x2.m - (intOf iv).toNat)
    case atStart => exact ⟨0, by omega, rfl, by simpa [fillL] using hX10.out⟩
    case round =>
      clear hX10
      obtain ⟨i, hi, rfl, hX⟩ := hrel
      have cS : wr.cell? ⟨gB, 6, none⟩ = some (.slice x2.A x2.m x2.c) := hX.bB.cellv rfl
      by_cases hl : i < x2.m
      · have hI : (i : Int) < x2.m := by omega
        have hik : i < k2.length := by rw [← hm2H.out]; exact hl
        have hik2 : i < (fillL 902 i k2).length := by rw [fill_len _ _ _ (by omega)]; exact hik
        obtain ⟨gb, hA, hgl, -⟩ := own_cell hX.o2 (List.getElem?_eq_getElem hik2)
        have ho := hX.o2
        have hlt := hX.w2 gb (by rw [hA]; rfl)
        have hge : w6.heap.size ≤ gb := (hX.o2.lt gb (by rw [hA]; rfl)).1
        rw [hA] at cS ho
        have hAH := Lib.hid hA
        clear hA
        replace hX := Lib.hid hX
        go_wp2_with (refine wl_store_one encZ_size rfl _ isz_int _ _ rfl gb i x2.m x2.c rfl 902 rfl rfl rfl ho hik2 ?_; intro w11 ho11 hg11)
        rw [fill_set _ _ _ hik, ← hAH.out] at ho11
        exact ⟨⟨i + 1, by omega, rfl, hX.out.turnB hg11 (by rintro j ⟨⟩; exact ⟨hge, hlt⟩) ho11⟩, by simp only [intOf]; omega⟩
      have hI : ¬ (i : Int) < x2.m := by omega
      obtain rfl : i = x2.m := by omega
      have f1 : fillL 901 x1.m k2 = List.replicate x1.m 901 := by rw [hm1H.out]; exact fill_all _ _
      have f2 : fillL 902 x2.m k2 = List.replicate x2.m 902 := by rw [hm2H.out]; exact fill_all _ _
      rw [f1, f2] at hX
      clear f1 f2 hi hl
      have cA : wr.cell? ⟨gA, 6, none⟩ = some (.slice x1.A x1.m x1.c) := hX.bA.cellv rfl
      have hm1l : x1.m ≤ 1048576 := by rw [hm1H.out]; exact hkf
      have hm2l : x2.m ≤ 1048576 := by rw [hm2H.out]; exact hkf
      have ho1 := hX.o1
      have hbs1 : w4.heap.size ≤ wr.heap.size := by have := hX.bA.lt; have := hX.q2; omega
      have hbs2 : w6.heap.size ≤ wr.heap.size := by have := hX.bB.lt; have := hX.q4; omega
      replace hX := Lib.hid hX
      go_upto_region 19 with (first
        | (refine wl_bsZ1 rfl _ rfl 901 rfl ?_)
        | (refine wl_pushZk rfl _ _ rfl w4.heap.size (List.replicate x1.m 901) 901 rfl rfl (Blk.new _ _ _) (ho1.alloc _) (by simp) (by simp; omega) (by rw [World.size_alloc]; omega) ?_; intro Ap cp w12 hop hoa hgp hpv))
      have hX12 := Lib.hid ((hX.out.then_ (below_alloc (Below.refl wr.heap.size wr) (.cells (encZ 901) 3))).turnA hgp (fun j e => ⟨(hX.out.o1.lt j e).1, hX.out.w1 j e⟩) hoa)
      have hz12 : wr.heap.size ≤ w12.heap.size := by have := hgp.size; rw [World.size_alloc] at this; omega
      have hpB : ∀ j, (Value.slice Ap (x1.m + 1) cp).ownBlock = some j → j < gA ∨ gB < j := fun j e => by
        rcases hpv with h | h
        · rw [h] at e; exact .inl (hX.out.w1 j e)
        · rw [h, World.size_alloc] at e
          have := hX.out.bB.lt
          injection e with e
          right
          omega
      replace hpB := Lib.hid hpB
      have cB : w12.cell? ⟨gB, 6, none⟩ = some (.slice x2.A x2.m x2.c) := hX12.out.bB.cellv rfl
      have ho2 := hX12.out.o2
      clear hX ho1 hoa hgp cA hpv
      go_upto_region 20 with (first
        | (refine wl_bsZ1 rfl _ rfl 902 rfl ?_)
        | (refine wl_pushZk rfl _ _ rfl w6.heap.size (List.replicate x2.m 902) 902 rfl rfl (Blk.new _ _ _) (ho2.alloc _) (by simp) (by simp; omega) (by rw [World.size_alloc]; omega) ?_; intro Aq cq w13 hoq hob hgq hqv))
      have hop12 := hop.then_ (below_alloc (Below.refl w12.heap.size w12) (.cells (encZ 902) 3))
      have hop13 := hop12.kept_ hgq (fun j h1 h2 => by
        have a1 := hX12.out.o2.lt j h2
        have a2 := hX12.out.w2 j h2
        have a3 := hX12.out.q3
        rcases hpB.out j h1 with a4 | a4 <;> omega)
      have hX13 := Lib.hid ((hX12.out.then_ (below_alloc (Below.refl w12.heap.size w12) (.cells (encZ 902) 3))).turnB hgq (fun j e => ⟨(hX12.out.o2.lt j e).1, hX12.out.w2 j e⟩) hob)
      clear hX12 hop hop12 ho2 hob hgq cB hqv hpB hz12 hbs1 hbs2
      replace hop13 := Lib.hid hop13
      replace hoq := Lib.hid hoq
      go_wp2_with (fail)
      go_loopw [13] (fun iv wr3 => ∃ i : Nat, i ≤ x1.m + 1 ∧ iv = .int .i64 i ∧ Below w13.heap.size w13 wr3) (fun iv _ => x1.m + 1 - (intOf iv).toNat)
      case atStart => exact ⟨0, by omega, rfl, Below.refl _ _⟩
      case round =>
        obtain ⟨i, hi, rfl, hBr⟩ := hrel
        have hX := hX13.out.then_ hBr
        by_cases hl : i < x1.m + 1
        case neg =>
          have hI : ¬ (i : Int) < (x1.m : Int) + 1 := by omega
          have hbl := Lib.hid hX.below
          clear hX
          go_wp2_with (fail)
          go_ret
          exact ⟨rfl, hbl.out⟩
        have hI : (i : Int) < (x1.m : Int) + 1 := by omega
        have hm12 : x1.m = x2.m := by rw [hm1H.out, hm2H.out]
        have hpo := hop13.out.then_ hBr
        have hqo := hoq.out.then_ hBr
        obtain ⟨gp, hAp, hpl, cp0⟩ := own_cell (i := i) (z := 901) hpo (by rw [← List.replicate_succ', List.getElem?_replicate, if_pos (by omega)])
        obtain ⟨gq, hAq, hql, cq0⟩ := own_cell (i := i) (z := 902) hqo (by rw [← List.replicate_succ', List.getElem?_replicate, if_pos (by omega)])
        rw [hAp, hAq]
        have cp0H := Lib.hid cp0
        have cq0H := Lib.hid cq0
        by_cases hlt : i < x1.m
        · have hlt2 : i < x2.m := by omega
          obtain ⟨ga, hAa, hal, ca0⟩ := own_cell (i := i) (z := 901) hX.o1 (by rw [List.getElem?_replicate, if_pos hlt])
          obtain ⟨gb, hAb, hbl, cb0⟩ := own_cell (i := i) (z := 902) hX.o2 (by rw [List.getElem?_replicate, if_pos hlt2])
          have hcA : x1.C[6]? = some (.slice (some ⟨ga, 0, none⟩) x1.m x1.c) := by rw [← hAa]; rfl
          have hcB : x2.C[6]? = some (.slice (some ⟨gb, 0, none⟩) x2.m x2.c) := by rw [← hAb]; rfl
          have ca0H := Lib.hid ca0
          have cb0H := Lib.hid cb0
          have hcAH := Lib.hid hcA
          have hcBH := Lib.hid hcB
          have hXH := Lib.hid hX
          have hm12H := Lib.hid hm12
          clear hAp hAq hAa hAb ca0 cb0 hcA hcB cp0 cq0 hX hpo hqo hm12
          go_upto_region 23 with (fail)
          have hX := hXH.out
          have cp0 := cp0H.out
          have cq0 := cq0H.out
          have ca0 := ca0H.out
          have cb0 := cb0H.out
          have hcA := hcAH.out
          have hcB := hcBH.out
          have hm12 := hm12H.out
          refine wp_region_text 35 [eqS (.slice (some ⟨gp, 0, none⟩) (x1.m + 1) cp), eqS (.int .i64 (((i : Nat) : Int))), eqS (.pointer (some ⟨gp, 0 + i * 1, none⟩)), eqS (.int .i64 (901)), eqS (.bool (((901 : Int) != (901 : Int)))), eqS (.bool (((901 : Int) != (901 : Int)))), eqS (vF (true && ((((901 : Int) != (901 : Int))) == false)) (.slice (some ⟨gq, 0, none⟩) (x2.m + 1) cq)), eqS (vF (true && ((((901 : Int) != (901 : Int))) == false)) (.int .i64 (((i : Nat) : Int)))), eqS (vF (true && ((((901 : Int) != (901 : Int))) == false)) (.pointer (some ⟨gq, 0 + i * 1, none⟩))), eqS (vF (true && ((((901 : Int) != (901 : Int))) == false)) (.int .i64 (902))), eqS (vF (true && ((((901 : Int) != (901 : Int))) == false)) (.bool (((902 : Int) != (902 : Int))))), eqS (.bool ((((901 : Int) != (901 : Int))) || (((902 : Int) != (902 : Int))))), eqS (.bool ((((901 : Int) != (901 : Int))) || (((902 : Int) != (902 : Int))))), eqS (vF (true && (((((901 : Int) != (901 : Int))) || (((902 : Int) != (902 : Int)))) == false)) (.int .i64 (((i : Nat) : Int)))), eqS (vF (true && (((((901 : Int) != (901 : Int))) || (((902 : Int) != (902 : Int)))) == false)) (.pointer (some ⟨gA, 6, none⟩))), eqS (vF (true && (((((901 : Int) != (901 : Int))) || (((902 : Int) != (902 : Int)))) == false)) (.slice (some ⟨ga, 0, none⟩) x1.m x1.c)), eqS (vF (true && (((((901 : Int) != (901 : Int))) || (((902 : Int) != (902 : Int)))) == false)) (.int .i64 (((x1.m : Nat) : Int)))), eqS (vF (true && (((((901 : Int) != (901 : Int))) || (((902 : Int) != (902 : Int)))) == false)) (.bool true)), eqS (vF (true && (((((901 : Int) != (901 : Int))) || (((902 : Int) != (902 : Int)))) == false)) (.bool true)), eqS (vF ((true && (((((901 : Int) != (901 : Int))) || (((902 : Int) != (902 : Int)))) == false)) && (true == true)) (.pointer (some ⟨gA, 6, none⟩))), eqS (vF ((true && (((((901 : Int) != (901 : Int))) || (((902 : Int) != (902 : Int)))) == false)) && (true == true)) (.slice (some ⟨ga, 0, none⟩) x1.m x1.c)), eqS (vF ((true && (((((901 : Int) != (901 : Int))) || (((902 : Int) != (902 : Int)))) == false)) && (true == true)) (.int .i64 (((i : Nat) : Int)))), eqS (vF ((true && (((((901 : Int) != (901 : Int))) || (((902 : Int) != (902 : Int)))) == false)) && (true == true)) (.pointer (some ⟨ga, 0 + i * 1, none⟩))), eqS (vF ((true && (((((901 : Int) != (901 : Int))) || (((902 : Int) != (902 : Int)))) == false)) && (true == true)) (.int .i64 (901))), eqS (vF ((true && (((((901 : Int) != (901 : Int))) || (((902 : Int) != (902 : Int)))) == false)) && (true == true)) (.bool (((901 : Int) != (901 : Int))))), eqS (vF ((true && (((((901 : Int) != (901 : Int))) || (((902 : Int) != (902 : Int)))) == false)) && (true == true)) (.bool (((901 : Int) != (901 : Int))))), eqS (vF (((true && (((((901 : Int) != (901 : Int))) || (((902 : Int) != (902 : Int)))) == false)) && (true == true)) && ((((901 : Int) != (901 : Int))) == false)) (.pointer (some ⟨gB, 6, none⟩))), eqS (vF (((true && (((((901 : Int) != (901 : Int))) || (((902 : Int) != (902 : Int)))) == false)) && (true == true)) && ((((901 : Int) != (901 : Int))) == false)) (.slice (some ⟨gb, 0, none⟩) x2.m x2.c)), eqS (vF (((true && (((((901 : Int) != (901 : Int))) || (((902 : Int) != (902 : Int)))) == false)) && (true == true)) && ((((901 : Int) != (901 : Int))) == false)) (.int .i64 (((i : Nat) : Int)))), eqS (vF (((true && (((((901 : Int) != (901 : Int))) || (((902 : Int) != (902 : Int)))) == false)) && (true == true)) && ((((901 : Int) != (901 : Int))) == false)) (.pointer (some ⟨gb, 0 + i * 1, none⟩))), eqS (vF (((true && (((((901 : Int) != (901 : Int))) || (((902 : Int) != (902 : Int)))) == false)) && (true == true)) && ((((901 : Int) != (901 : Int))) == false)) (.int .i64 (902))), eqS (vF (((true && (((((901 : Int) != (901 : Int))) || (((902 : Int) != (902 : Int)))) == false)) && (true == true)) && ((((901 : Int) != (901 : Int))) == false)) (.bool (((902 : Int) != (902 : Int))))), eqS (vF ((true && (((((901 : Int) != (901 : Int))) || (((902 : Int) != (902 : Int)))) == false)) && (true == true)) (.bool ((((901 : Int) != (901 : Int))) || (((902 : Int) != (902 : Int)))))), eqS (vF (true && (((((901 : Int) != (901 : Int))) || (((902 : Int) != (902 : Int)))) == false)) (.bool (true && ((((901 : Int) != (901 : Int))) || (((902 : Int) != (902 : Int))))))), eqS (.bool (((((901 : Int) != (901 : Int))) || (((902 : Int) != (902 : Int)))) || (true && ((((901 : Int) != (901 : Int))) || (((902 : Int) != (902 : Int)))))))] [91, 92, 93, 94, 95, 96, 97, 98, 99, 100, 101, 102, 103, 104, 105, 106, 107, 108, 109, 110, 111, 112, 113, 114, 115, 116, 117, 118, 119, 120, 121, 122, 123, 124, 125] (by kernel_rfl) (by kernel_rfl) ?_ ?_
          · skip
            refine Steps.cons (fun a' w' hG hB dep => gs_move (want_none rfl) _ rfl (id (hG.other 11 rfl))) ?_
            refine Steps.cons (fun a' w' hG hB dep => gs_move (want_none rfl) _ rfl (id (hG.other 13 rfl))) ?_
            refine Steps.cons (fun a' w' hG hB dep => gs_index (want_none rfl) _ _ _ rfl under_ints 1 size_intE gp 0 (x1.m + 1) cp i (dep 0 rfl 91 rfl) (dep 1 rfl 92 rfl) (by omega) rfl) ?_
            refine Steps.cons (fun a' w' hG hB dep => gs_load1 (want_none rfl) _ _ rfl gp (0 + i * 1) (dep 2 rfl 93 rfl) (.int .i64 (901)) ((hB.cell hpl).trans cp0) _ Tryz.underlying3 rfl rfl) ?_
            refine Steps.cons (fun a' w' hG hB dep => gs_neq_int (want_none rfl) _ _ _ _ rfl _ _ _ (dep 3 rfl 94 rfl) rfl (id (congrArg Value.bool rfl))) ?_
            refine Steps.cons (fun a' w' hG hB dep => gs_move (want_none rfl) _ rfl (id (dep 4 rfl 95 rfl))) ?_
            refine Steps.cons (fun a' w' hG hB dep => gs_guard (c := true) (b' := (((901 : Int) != (901 : Int)))) rfl rfl (dep 5 rfl 96 rfl) (fun hc he hw => gs_move hw _ rfl (Eq.trans (hG.other 12 rfl) (vF_yes (on_g hc he) _).symm)) (fun hn => vF_no hn _)) ?_
            refine Steps.cons (fun a' w' hG hB dep => gs_guard (c := true) (b' := (((901 : Int) != (901 : Int)))) rfl rfl (dep 5 rfl 96 rfl) (fun hc he hw => gs_move hw _ rfl (Eq.trans (hG.other 13 rfl) (vF_yes (on_g hc he) _).symm)) (fun hn => vF_no hn _)) ?_
            refine Steps.cons (fun a' w' hG hB dep => gs_guard (c := true) (b' := (((901 : Int) != (901 : Int)))) rfl rfl (dep 5 rfl 96 rfl) (fun hc he hw => gs_index hw _ _ _ rfl under_ints 1 size_intE gq 0 (x2.m + 1) cq i (Eq.trans (dep 6 rfl 97 rfl) (vF_yes (on_g hc he) _)) (Eq.trans (dep 7 rfl 98 rfl) (vF_yes (on_g hc he) _)) (by omega) (vF_yes (on_g hc he) _).symm) (fun hn => vF_no hn _)) ?_
            refine Steps.cons (fun a' w' hG hB dep => gs_guard (c := true) (b' := (((901 : Int) != (901 : Int)))) rfl rfl (dep 5 rfl 96 rfl) (fun hc he hw => gs_load1 hw _ _ rfl gq (0 + i * 1) (Eq.trans (dep 8 rfl 99 rfl) (vF_yes (on_g hc he) _)) (.int .i64 (902)) ((hB.cell hql).trans cq0) _ Tryz.underlying3 rfl (vF_yes (on_g hc he) _).symm) (fun hn => vF_no hn _)) ?_
            refine Steps.cons (fun a' w' hG hB dep => gs_guard (c := true) (b' := (((901 : Int) != (901 : Int)))) rfl rfl (dep 5 rfl 96 rfl) (fun hc he hw => gs_neq_int hw _ _ _ _ rfl _ _ _ (Eq.trans (dep 9 rfl 100 rfl) (vF_yes (on_g hc he) _)) rfl (Eq.trans (congrArg Value.bool rfl) (vF_yes (on_g hc he) _).symm)) (fun hn => vF_no hn _)) ?_
            refine Steps.cons (fun a' w' hG hB dep => gs_pick (want_none rfl) _ _ _ rfl (((901 : Int) != (901 : Int))) (dep 5 rfl 96 rfl) (id (pick_or2 (c := true) rfl (dep 10 rfl 101 rfl)))) ?_
            refine Steps.cons (fun a' w' hG hB dep => gs_move (want_none rfl) _ rfl (id (dep 11 rfl 102 rfl))) ?_
            refine Steps.cons (fun a' w' hG hB dep => gs_guard (c := true) (b' := ((((901 : Int) != (901 : Int))) || (((902 : Int) != (902 : Int))))) rfl rfl (dep 12 rfl 103 rfl) (fun hc he hw => gs_move hw _ rfl (Eq.trans (hG.other 13 rfl) (vF_yes (on_g hc he) _).symm)) (fun hn => vF_no hn _)) ?_
            refine Steps.cons (fun a' w' hG hB dep => gs_guard (c := true) (b' := ((((901 : Int) != (901 : Int))) || (((902 : Int) != (902 : Int))))) rfl rfl (dep 12 rfl 103 rfl) (fun hc he hw => gs_field hw _ _ _ rfl gA (0) (6) (hG.other 5 rfl) (fun wz => field_evx_6 gA wz) (vF_yes (on_g hc he) _).symm) (fun hn => vF_no hn _)) ?_
            refine Steps.cons (fun a' w' hG hB dep => gs_guard (c := true) (b' := ((((901 : Int) != (901 : Int))) || (((902 : Int) != (902 : Int))))) rfl rfl (dep 12 rfl 103 rfl) (fun hc he hw => gs_load1 hw _ _ rfl gA (6) (Eq.trans (dep 14 rfl 105 rfl) (vF_yes (on_g hc he) _)) (.slice (some ⟨ga, 0, none⟩) x1.m x1.c) ((blk_then hX.bA hB).cellv (i := 6) hcA) _ Tryz.underlying23 rfl (vF_yes (on_g hc he) _).symm) (fun hn => vF_no hn _)) ?_
            refine Steps.cons (fun a' w' hG hB dep => gs_guard (c := true) (b' := ((((901 : Int) != (901 : Int))) || (((902 : Int) != (902 : Int))))) rfl rfl (dep 12 rfl 103 rfl) (fun hc he hw => gs_len hw _ _ rfl under_ints (some ⟨ga, 0, none⟩) x1.m x1.c (Eq.trans (dep 15 rfl 106 rfl) (vF_yes (on_g hc he) _)) (vF_yes (on_g hc he) _).symm) (fun hn => vF_no hn _)) ?_
            refine Steps.cons (fun a' w' hG hB dep => gs_guard (c := true) (b' := ((((901 : Int) != (901 : Int))) || (((902 : Int) != (902 : Int))))) rfl rfl (dep 12 rfl 103 rfl) (fun hc he hw => gs_lss_int hw _ _ _ _ rfl _ _ _ (Eq.trans (dep 13 rfl 104 rfl) (vF_yes (on_g hc he) _)) (Eq.trans (dep 16 rfl 107 rfl) (vF_yes (on_g hc he) _)) (Eq.trans (congrArg Value.bool (decide_eq_true (by omega))) (vF_yes (on_g hc he) _).symm)) (fun hn => vF_no hn _)) ?_
            refine Steps.cons (fun a' w' hG hB dep => gs_guard (c := true) (b' := ((((901 : Int) != (901 : Int))) || (((902 : Int) != (902 : Int))))) rfl rfl (dep 12 rfl 103 rfl) (fun hc he hw => gs_move hw _ rfl (Eq.trans (Eq.trans (dep 17 rfl 108 rfl) (vF_yes (on_g hc he) _)) (vF_yes (on_g hc he) _).symm)) (fun hn => vF_no hn _)) ?_
            refine Steps.cons (fun a' w' hG hB dep => gs_guard (c := (true && (((((901 : Int) != (901 : Int))) || (((902 : Int) != (902 : Int)))) == false))) (b' := true) rfl rfl (dep 18 rfl 109 rfl) (fun hc he hw => gs_field hw _ _ _ rfl gA (0) (6) (hG.other 5 rfl) (fun wz => field_evx_6 gA wz) (vF_yes (on_g hc he) _).symm) (fun hn => vF_no hn _)) ?_
            refine Steps.cons (fun a' w' hG hB dep => gs_guard (c := (true && (((((901 : Int) != (901 : Int))) || (((902 : Int) != (902 : Int)))) == false))) (b' := true) rfl rfl (dep 18 rfl 109 rfl) (fun hc he hw => gs_load1 hw _ _ rfl gA (6) (Eq.trans (dep 19 rfl 110 rfl) (vF_yes (on_g hc he) _)) (.slice (some ⟨ga, 0, none⟩) x1.m x1.c) ((blk_then hX.bA hB).cellv (i := 6) hcA) _ Tryz.underlying23 rfl (vF_yes (on_g hc he) _).symm) (fun hn => vF_no hn _)) ?_
            refine Steps.cons (fun a' w' hG hB dep => gs_guard (c := (true && (((((901 : Int) != (901 : Int))) || (((902 : Int) != (902 : Int)))) == false))) (b' := true) rfl rfl (dep 18 rfl 109 rfl) (fun hc he hw => gs_move hw _ rfl (Eq.trans (hG.other 13 rfl) (vF_yes (on_g hc he) _).symm)) (fun hn => vF_no hn _)) ?_
            refine Steps.cons (fun a' w' hG hB dep => gs_guard (c := (true && (((((901 : Int) != (901 : Int))) || (((902 : Int) != (902 : Int)))) == false))) (b' := true) rfl rfl (dep 18 rfl 109 rfl) (fun hc he hw => gs_index hw _ _ _ rfl under_ints 1 size_intE ga 0 x1.m x1.c i (Eq.trans (dep 20 rfl 111 rfl) (vF_yes (on_g hc he) _)) (Eq.trans (dep 21 rfl 112 rfl) (vF_yes (on_g hc he) _)) hlt (vF_yes (on_g hc he) _).symm) (fun hn => vF_no hn _)) ?_
            refine Steps.cons (fun a' w' hG hB dep => gs_guard (c := (true && (((((901 : Int) != (901 : Int))) || (((902 : Int) != (902 : Int)))) == false))) (b' := true) rfl rfl (dep 18 rfl 109 rfl) (fun hc he hw => gs_load1 hw _ _ rfl ga (0 + i * 1) (Eq.trans (dep 22 rfl 113 rfl) (vF_yes (on_g hc he) _)) (.int .i64 (901)) ((hB.cell hal).trans ca0) _ Tryz.underlying3 rfl (vF_yes (on_g hc he) _).symm) (fun hn => vF_no hn _)) ?_
            refine Steps.cons (fun a' w' hG hB dep => gs_guard (c := (true && (((((901 : Int) != (901 : Int))) || (((902 : Int) != (902 : Int)))) == false))) (b' := true) rfl rfl (dep 18 rfl 109 rfl) (fun hc he hw => gs_neq_int hw _ _ _ _ rfl _ _ _ (Eq.trans (dep 23 rfl 114 rfl) (vF_yes (on_g hc he) _)) rfl (Eq.trans (congrArg Value.bool rfl) (vF_yes (on_g hc he) _).symm)) (fun hn => vF_no hn _)) ?_
            refine Steps.cons (fun a' w' hG hB dep => gs_guard (c := (true && (((((901 : Int) != (901 : Int))) || (((902 : Int) != (902 : Int)))) == false))) (b' := true) rfl rfl (dep 18 rfl 109 rfl) (fun hc he hw => gs_move hw _ rfl (Eq.trans (Eq.trans (dep 24 rfl 115 rfl) (vF_yes (on_g hc he) _)) (vF_yes (on_g hc he) _).symm)) (fun hn => vF_no hn _)) ?_
            refine Steps.cons (fun a' w' hG hB dep => gs_guard (c := ((true && (((((901 : Int) != (901 : Int))) || (((902 : Int) != (902 : Int)))) == false)) && (true == true))) (b' := (((901 : Int) != (901 : Int)))) rfl rfl (dep 25 rfl 116 rfl) (fun hc he hw => gs_field hw _ _ _ rfl gB (0) (6) (hG.other 7 rfl) (fun wz => field_evx_6 gB wz) (vF_yes (on_g hc he) _).symm) (fun hn => vF_no hn _)) ?_
            refine Steps.cons (fun a' w' hG hB dep => gs_guard (c := ((true && (((((901 : Int) != (901 : Int))) || (((902 : Int) != (902 : Int)))) == false)) && (true == true))) (b' := (((901 : Int) != (901 : Int)))) rfl rfl (dep 25 rfl 116 rfl) (fun hc he hw => gs_load1 hw _ _ rfl gB (6) (Eq.trans (dep 26 rfl 117 rfl) (vF_yes (on_g hc he) _)) (.slice (some ⟨gb, 0, none⟩) x2.m x2.c) ((blk_then hX.bB hB).cellv (i := 6) hcB) _ Tryz.underlying23 rfl (vF_yes (on_g hc he) _).symm) (fun hn => vF_no hn _)) ?_
            refine Steps.cons (fun a' w' hG hB dep => gs_guard (c := ((true && (((((901 : Int) != (901 : Int))) || (((902 : Int) != (902 : Int)))) == false)) && (true == true))) (b' := (((901 : Int) != (901 : Int)))) rfl rfl (dep 25 rfl 116 rfl) (fun hc he hw => gs_move hw _ rfl (Eq.trans (hG.other 13 rfl) (vF_yes (on_g hc he) _).symm)) (fun hn => vF_no hn _)) ?_
            refine Steps.cons (fun a' w' hG hB dep => gs_guard (c := ((true && (((((901 : Int) != (901 : Int))) || (((902 : Int) != (902 : Int)))) == false)) && (true == true))) (b' := (((901 : Int) != (901 : Int)))) rfl rfl (dep 25 rfl 116 rfl) (fun hc he hw => gs_index hw _ _ _ rfl under_ints 1 size_intE gb 0 x2.m x2.c i (Eq.trans (dep 27 rfl 118 rfl) (vF_yes (on_g hc he) _)) (Eq.trans (dep 28 rfl 119 rfl) (vF_yes (on_g hc he) _)) hlt2 (vF_yes (on_g hc he) _).symm) (fun hn => vF_no hn _)) ?_
            refine Steps.cons (fun a' w' hG hB dep => gs_guard (c := ((true && (((((901 : Int) != (901 : Int))) || (((902 : Int) != (902 : Int)))) == false)) && (true == true))) (b' := (((901 : Int) != (901 : Int)))) rfl rfl (dep 25 rfl 116 rfl) (fun hc he hw => gs_load1 hw _ _ rfl gb (0 + i * 1) (Eq.trans (dep 29 rfl 120 rfl) (vF_yes (on_g hc he) _)) (.int .i64 (902)) ((hB.cell hbl).trans cb0) _ Tryz.underlying3 rfl (vF_yes (on_g hc he) _).symm) (fun hn => vF_no hn _)) ?_
            refine Steps.cons (fun a' w' hG hB dep => gs_guard (c := ((true && (((((901 : Int) != (901 : Int))) || (((902 : Int) != (902 : Int)))) == false)) && (true == true))) (b' := (((901 : Int) != (901 : Int)))) rfl rfl (dep 25 rfl 116 rfl) (fun hc he hw => gs_neq_int hw _ _ _ _ rfl _ _ _ (Eq.trans (dep 30 rfl 121 rfl) (vF_yes (on_g hc he) _)) rfl (Eq.trans (congrArg Value.bool rfl) (vF_yes (on_g hc he) _).symm)) (fun hn => vF_no hn _)) ?_
            refine Steps.cons (fun a' w' hG hB dep => gs_guard (c := (true && (((((901 : Int) != (901 : Int))) || (((902 : Int) != (902 : Int)))) == false))) (b' := true) rfl rfl (dep 18 rfl 109 rfl) (fun hc he hw => gs_pick hw _ _ _ rfl (((901 : Int) != (901 : Int))) (Eq.trans (dep 25 rfl 116 rfl) (vF_yes (on_g hc he) _)) (Eq.trans (pick_or2 (c := ((true && (((((901 : Int) != (901 : Int))) || (((902 : Int) != (902 : Int)))) == false)) && (true == true))) (on_g hc he) (dep 31 rfl 122 rfl)) (vF_yes (on_g hc he) _).symm)) (fun hn => vF_no hn _)) ?_
            refine Steps.cons (fun a' w' hG hB dep => gs_guard (c := true) (b' := ((((901 : Int) != (901 : Int))) || (((902 : Int) != (902 : Int))))) rfl rfl (dep 12 rfl 103 rfl) (fun hc he hw => gs_pick hw _ _ _ rfl true (Eq.trans (dep 18 rfl 109 rfl) (vF_yes (on_g hc he) _)) (Eq.trans (pick_and2 (c := (true && (((((901 : Int) != (901 : Int))) || (((902 : Int) != (902 : Int)))) == false))) (on_g hc he) (dep 32 rfl 123 rfl)) (vF_yes (on_g hc he) _).symm)) (fun hn => vF_no hn _)) ?_
            refine Steps.cons (fun a' w' hG hB dep => gs_pick (want_none rfl) _ _ _ rfl ((((901 : Int) != (901 : Int))) || (((902 : Int) != (902 : Int)))) (dep 12 rfl 103 rfl) (id (pick_or2 (c := true) rfl (dep 33 rfl 124 rfl)))) ?_
            exact Steps.nil
          intro u w14 hw14 ans
          have hus125 : u 125 = (.bool (((((901 : Int) != (901 : Int))) || (((902 : Int) != (902 : Int)))) || (true && ((((901 : Int) != (901 : Int))) || (((902 : Int) != (902 : Int))))))) := ans 34 125 (by decide) rfl
          clear ans
          simp only [putAll, List.foldl_cons, List.foldl_nil, Act.put, List.setIfInBounds_toArray, List.set_cons_zero, List.set_cons_succ, hus125]
          clear hus125
          simp only [List.drop]
          refine wpList_nil ?_
          clear hX cp0 cq0 ca0 cb0 hcA hcB hm12
          have fz : (((((901 : Int) != (901 : Int))) || (((902 : Int) != (902 : Int)))) || (true && ((((901 : Int) != (901 : Int))) || (((902 : Int) != (902 : Int)))))) = false := by decide
          rw [fz]
          go_wp2_with (fail)
          exact ⟨⟨i + 1, by omega, rfl, hBr.trans (hw14.mono hBr.size)⟩, by simp only [intOf]; omega⟩
        · have hXH := Lib.hid hX
          have hm12H := Lib.hid hm12
          clear hAp hAq cp0 cq0 hX hpo hqo hm12
          go_upto_region 23 with (fail)
          have hX := hXH.out
          have cp0 := cp0H.out
          have cq0 := cq0H.out
          have hm12 := hm12H.out
          refine wp_region_text 35 [eqS (.slice (some ⟨gp, 0, none⟩) (x1.m + 1) cp), eqS (.int .i64 (((i : Nat) : Int))), eqS (.pointer (some ⟨gp, 0 + i * 1, none⟩)), eqS (.int .i64 (901)), eqS (.bool (((901 : Int) != (901 : Int)))), eqS (.bool (((901 : Int) != (901 : Int)))), eqS (vF (true && ((((901 : Int) != (901 : Int))) == false)) (.slice (some ⟨gq, 0, none⟩) (x2.m + 1) cq)), eqS (vF (true && ((((901 : Int) != (901 : Int))) == false)) (.int .i64 (((i : Nat) : Int)))), eqS (vF (true && ((((901 : Int) != (901 : Int))) == false)) (.pointer (some ⟨gq, 0 + i * 1, none⟩))), eqS (vF (true && ((((901 : Int) != (901 : Int))) == false)) (.int .i64 (902))), eqS (vF (true && ((((901 : Int) != (901 : Int))) == false)) (.bool (((902 : Int) != (902 : Int))))), eqS (.bool ((((901 : Int) != (901 : Int))) || (((902 : Int) != (902 : Int))))), eqS (.bool ((((901 : Int) != (901 : Int))) || (((902 : Int) != (902 : Int))))), eqS (vF (true && (((((901 : Int) != (901 : Int))) || (((902 : Int) != (902 : Int)))) == false)) (.int .i64 (((i : Nat) : Int)))), eqS (vF (true && (((((901 : Int) != (901 : Int))) || (((902 : Int) != (902 : Int)))) == false)) (.pointer (some ⟨gA, 6, none⟩))), eqS (vF (true && (((((901 : Int) != (901 : Int))) || (((902 : Int) != (902 : Int)))) == false)) (.slice x1.A x1.m x1.c)), eqS (vF (true && (((((901 : Int) != (901 : Int))) || (((902 : Int) != (902 : Int)))) == false)) (.int .i64 (((x1.m : Nat) : Int)))), eqS (vF (true && (((((901 : Int) != (901 : Int))) || (((902 : Int) != (902 : Int)))) == false)) (.bool false)), eqS (vF (true && (((((901 : Int) != (901 : Int))) || (((902 : Int) != (902 : Int)))) == false)) (.bool false)), eqS (vF ((true && (((((901 : Int) != (901 : Int))) || (((902 : Int) != (902 : Int)))) == false)) && (false == true)) undef), eqS (vF ((true && (((((901 : Int) != (901 : Int))) || (((902 : Int) != (902 : Int)))) == false)) && (false == true)) undef), eqS (vF ((true && (((((901 : Int) != (901 : Int))) || (((902 : Int) != (902 : Int)))) == false)) && (false == true)) undef), eqS (vF ((true && (((((901 : Int) != (901 : Int))) || (((902 : Int) != (902 : Int)))) == false)) && (false == true)) undef), eqS (vF ((true && (((((901 : Int) != (901 : Int))) || (((902 : Int) != (902 : Int)))) == false)) && (false == true)) undef), eqS (vF ((true && (((((901 : Int) != (901 : Int))) || (((902 : Int) != (902 : Int)))) == false)) && (false == true)) undef), eqS (vF ((true && (((((901 : Int) != (901 : Int))) || (((902 : Int) != (902 : Int)))) == false)) && (false == true)) (.bool true)), eqS (vF (((true && (((((901 : Int) != (901 : Int))) || (((902 : Int) != (902 : Int)))) == false)) && (false == true)) && (true == false)) undef), eqS (vF (((true && (((((901 : Int) != (901 : Int))) || (((902 : Int) != (902 : Int)))) == false)) && (false == true)) && (true == false)) undef), eqS (vF (((true && (((((901 : Int) != (901 : Int))) || (((902 : Int) != (902 : Int)))) == false)) && (false == true)) && (true == false)) undef), eqS (vF (((true && (((((901 : Int) != (901 : Int))) || (((902 : Int) != (902 : Int)))) == false)) && (false == true)) && (true == false)) undef), eqS (vF (((true && (((((901 : Int) != (901 : Int))) || (((902 : Int) != (902 : Int)))) == false)) && (false == true)) && (true == false)) undef), eqS (vF (((true && (((((901 : Int) != (901 : Int))) || (((902 : Int) != (902 : Int)))) == false)) && (false == true)) && (true == false)) undef), eqS (vF ((true && (((((901 : Int) != (901 : Int))) || (((902 : Int) != (902 : Int)))) == false)) && (false == true)) (.bool false)), eqS (vF (true && (((((901 : Int) != (901 : Int))) || (((902 : Int) != (902 : Int)))) == false)) (.bool (false && false))), eqS (.bool (((((901 : Int) != (901 : Int))) || (((902 : Int) != (902 : Int)))) || (false && false)))] [91, 92, 93, 94, 95, 96, 97, 98, 99, 100, 101, 102, 103, 104, 105, 106, 107, 108, 109, 110, 111, 112, 113, 114, 115, 116, 117, 118, 119, 120, 121, 122, 123, 124, 125] (by kernel_rfl) (by kernel_rfl) ?_ ?_
          · skip
            refine Steps.cons (fun a' w' hG hB dep => gs_move (want_none rfl) _ rfl (id (hG.other 11 rfl))) ?_
            refine Steps.cons (fun a' w' hG hB dep => gs_move (want_none rfl) _ rfl (id (hG.other 13 rfl))) ?_
            refine Steps.cons (fun a' w' hG hB dep => gs_index (want_none rfl) _ _ _ rfl under_ints 1 size_intE gp 0 (x1.m + 1) cp i (dep 0 rfl 91 rfl) (dep 1 rfl 92 rfl) (by omega) rfl) ?_
            refine Steps.cons (fun a' w' hG hB dep => gs_load1 (want_none rfl) _ _ rfl gp (0 + i * 1) (dep 2 rfl 93 rfl) (.int .i64 (901)) ((hB.cell hpl).trans cp0) _ Tryz.underlying3 rfl rfl) ?_
            refine Steps.cons (fun a' w' hG hB dep => gs_neq_int (want_none rfl) _ _ _ _ rfl _ _ _ (dep 3 rfl 94 rfl) rfl (id (congrArg Value.bool rfl))) ?_
            refine Steps.cons (fun a' w' hG hB dep => gs_move (want_none rfl) _ rfl (id (dep 4 rfl 95 rfl))) ?_
            refine Steps.cons (fun a' w' hG hB dep => gs_guard (c := true) (b' := (((901 : Int) != (901 : Int)))) rfl rfl (dep 5 rfl 96 rfl) (fun hc he hw => gs_move hw _ rfl (Eq.trans (hG.other 12 rfl) (vF_yes (on_g hc he) _).symm)) (fun hn => vF_no hn _)) ?_
            refine Steps.cons (fun a' w' hG hB dep => gs_guard (c := true) (b' := (((901 : Int) != (901 : Int)))) rfl rfl (dep 5 rfl 96 rfl) (fun hc he hw => gs_move hw _ rfl (Eq.trans (hG.other 13 rfl) (vF_yes (on_g hc he) _).symm)) (fun hn => vF_no hn _)) ?_
            refine Steps.cons (fun a' w' hG hB dep => gs_guard (c := true) (b' := (((901 : Int) != (901 : Int)))) rfl rfl (dep 5 rfl 96 rfl) (fun hc he hw => gs_index hw _ _ _ rfl under_ints 1 size_intE gq 0 (x2.m + 1) cq i (Eq.trans (dep 6 rfl 97 rfl) (vF_yes (on_g hc he) _)) (Eq.trans (dep 7 rfl 98 rfl) (vF_yes (on_g hc he) _)) (by omega) (vF_yes (on_g hc he) _).symm) (fun hn => vF_no hn _)) ?_
            refine Steps.cons (fun a' w' hG hB dep => gs_guard (c := true) (b' := (((901 : Int) != (901 : Int)))) rfl rfl (dep 5 rfl 96 rfl) (fun hc he hw => gs_load1 hw _ _ rfl gq (0 + i * 1) (Eq.trans (dep 8 rfl 99 rfl) (vF_yes (on_g hc he) _)) (.int .i64 (902)) ((hB.cell hql).trans cq0) _ Tryz.underlying3 rfl (vF_yes (on_g hc he) _).symm) (fun hn => vF_no hn _)) ?_
            refine Steps.cons (fun a' w' hG hB dep => gs_guard (c := true) (b' := (((901 : Int) != (901 : Int)))) rfl rfl (dep 5 rfl 96 rfl) (fun hc he hw => gs_neq_int hw _ _ _ _ rfl _ _ _ (Eq.trans (dep 9 rfl 100 rfl) (vF_yes (on_g hc he) _)) rfl (Eq.trans (congrArg Value.bool rfl) (vF_yes (on_g hc he) _).symm)) (fun hn => vF_no hn _)) ?_
            refine Steps.cons (fun a' w' hG hB dep => gs_pick (want_none rfl) _ _ _ rfl (((901 : Int) != (901 : Int))) (dep 5 rfl 96 rfl) (id (pick_or2 (c := true) rfl (dep 10 rfl 101 rfl)))) ?_
            refine Steps.cons (fun a' w' hG hB dep => gs_move (want_none rfl) _ rfl (id (dep 11 rfl 102 rfl))) ?_
            refine Steps.cons (fun a' w' hG hB dep => gs_guard (c := true) (b' := ((((901 : Int) != (901 : Int))) || (((902 : Int) != (902 : Int))))) rfl rfl (dep 12 rfl 103 rfl) (fun hc he hw => gs_move hw _ rfl (Eq.trans (hG.other 13 rfl) (vF_yes (on_g hc he) _).symm)) (fun hn => vF_no hn _)) ?_
            refine Steps.cons (fun a' w' hG hB dep => gs_guard (c := true) (b' := ((((901 : Int) != (901 : Int))) || (((902 : Int) != (902 : Int))))) rfl rfl (dep 12 rfl 103 rfl) (fun hc he hw => gs_field hw _ _ _ rfl gA (0) (6) (hG.other 5 rfl) (fun wz => field_evx_6 gA wz) (vF_yes (on_g hc he) _).symm) (fun hn => vF_no hn _)) ?_
            refine Steps.cons (fun a' w' hG hB dep => gs_guard (c := true) (b' := ((((901 : Int) != (901 : Int))) || (((902 : Int) != (902 : Int))))) rfl rfl (dep 12 rfl 103 rfl) (fun hc he hw => gs_load1 hw _ _ rfl gA (6) (Eq.trans (dep 14 rfl 105 rfl) (vF_yes (on_g hc he) _)) (.slice x1.A x1.m x1.c) ((blk_then hX.bA hB).cellv (i := 6) rfl) _ Tryz.underlying23 rfl (vF_yes (on_g hc he) _).symm) (fun hn => vF_no hn _)) ?_
            refine Steps.cons (fun a' w' hG hB dep => gs_guard (c := true) (b' := ((((901 : Int) != (901 : Int))) || (((902 : Int) != (902 : Int))))) rfl rfl (dep 12 rfl 103 rfl) (fun hc he hw => gs_len hw _ _ rfl under_ints x1.A x1.m x1.c (Eq.trans (dep 15 rfl 106 rfl) (vF_yes (on_g hc he) _)) (vF_yes (on_g hc he) _).symm) (fun hn => vF_no hn _)) ?_
            refine Steps.cons (fun a' w' hG hB dep => gs_guard (c := true) (b' := ((((901 : Int) != (901 : Int))) || (((902 : Int) != (902 : Int))))) rfl rfl (dep 12 rfl 103 rfl) (fun hc he hw => gs_lss_int hw _ _ _ _ rfl _ _ _ (Eq.trans (dep 13 rfl 104 rfl) (vF_yes (on_g hc he) _)) (Eq.trans (dep 16 rfl 107 rfl) (vF_yes (on_g hc he) _)) (Eq.trans (congrArg Value.bool (decide_eq_false (by omega))) (vF_yes (on_g hc he) _).symm)) (fun hn => vF_no hn _)) ?_
            refine Steps.cons (fun a' w' hG hB dep => gs_guard (c := true) (b' := ((((901 : Int) != (901 : Int))) || (((902 : Int) != (902 : Int))))) rfl rfl (dep 12 rfl 103 rfl) (fun hc he hw => gs_move hw _ rfl (Eq.trans (Eq.trans (dep 17 rfl 108 rfl) (vF_yes (on_g hc he) _)) (vF_yes (on_g hc he) _).symm)) (fun hn => vF_no hn _)) ?_
            refine Steps.cons (fun a' w' hG hB dep => gs_guard (c := (true && (((((901 : Int) != (901 : Int))) || (((902 : Int) != (902 : Int)))) == false))) (b' := false) rfl rfl (dep 18 rfl 109 rfl) (fun hc he hw => absurd he (by decide)) (fun hn => vF_no hn _)) ?_
            refine Steps.cons (fun a' w' hG hB dep => gs_guard (c := (true && (((((901 : Int) != (901 : Int))) || (((902 : Int) != (902 : Int)))) == false))) (b' := false) rfl rfl (dep 18 rfl 109 rfl) (fun hc he hw => absurd he (by decide)) (fun hn => vF_no hn _)) ?_
            refine Steps.cons (fun a' w' hG hB dep => gs_guard (c := (true && (((((901 : Int) != (901 : Int))) || (((902 : Int) != (902 : Int)))) == false))) (b' := false) rfl rfl (dep 18 rfl 109 rfl) (fun hc he hw => absurd he (by decide)) (fun hn => vF_no hn _)) ?_
            refine Steps.cons (fun a' w' hG hB dep => gs_guard (c := (true && (((((901 : Int) != (901 : Int))) || (((902 : Int) != (902 : Int)))) == false))) (b' := false) rfl rfl (dep 18 rfl 109 rfl) (fun hc he hw => absurd he (by decide)) (fun hn => vF_no hn _)) ?_
            refine Steps.cons (fun a' w' hG hB dep => gs_guard (c := (true && (((((901 : Int) != (901 : Int))) || (((902 : Int) != (902 : Int)))) == false))) (b' := false) rfl rfl (dep 18 rfl 109 rfl) (fun hc he hw => absurd he (by decide)) (fun hn => vF_no hn _)) ?_
            refine Steps.cons (fun a' w' hG hB dep => gs_guard (c := (true && (((((901 : Int) != (901 : Int))) || (((902 : Int) != (902 : Int)))) == false))) (b' := false) rfl rfl (dep 18 rfl 109 rfl) (fun hc he hw => absurd he (by decide)) (fun hn => vF_no hn _)) ?_
            refine Steps.cons (fun a' w' hG hB dep => gs_guard (c := (true && (((((901 : Int) != (901 : Int))) || (((902 : Int) != (902 : Int)))) == false))) (b' := false) rfl rfl (dep 18 rfl 109 rfl) (fun hc he hw => absurd he (by decide)) (fun hn => vF_no hn _)) ?_
            refine Steps.cons (fun a' w' hG hB dep => gs_guard (c := ((true && (((((901 : Int) != (901 : Int))) || (((902 : Int) != (902 : Int)))) == false)) && (false == true))) (b' := true) rfl rfl (dep 25 rfl 116 rfl) (fun hc he hw => absurd he (by decide)) (fun hn => vF_no hn _)) ?_
            refine Steps.cons (fun a' w' hG hB dep => gs_guard (c := ((true && (((((901 : Int) != (901 : Int))) || (((902 : Int) != (902 : Int)))) == false)) && (false == true))) (b' := true) rfl rfl (dep 25 rfl 116 rfl) (fun hc he hw => absurd he (by decide)) (fun hn => vF_no hn _)) ?_
            refine Steps.cons (fun a' w' hG hB dep => gs_guard (c := ((true && (((((901 : Int) != (901 : Int))) || (((902 : Int) != (902 : Int)))) == false)) && (false == true))) (b' := true) rfl rfl (dep 25 rfl 116 rfl) (fun hc he hw => absurd he (by decide)) (fun hn => vF_no hn _)) ?_
            refine Steps.cons (fun a' w' hG hB dep => gs_guard (c := ((true && (((((901 : Int) != (901 : Int))) || (((902 : Int) != (902 : Int)))) == false)) && (false == true))) (b' := true) rfl rfl (dep 25 rfl 116 rfl) (fun hc he hw => absurd he (by decide)) (fun hn => vF_no hn _)) ?_
            refine Steps.cons (fun a' w' hG hB dep => gs_guard (c := ((true && (((((901 : Int) != (901 : Int))) || (((902 : Int) != (902 : Int)))) == false)) && (false == true))) (b' := true) rfl rfl (dep 25 rfl 116 rfl) (fun hc he hw => absurd he (by decide)) (fun hn => vF_no hn _)) ?_
            refine Steps.cons (fun a' w' hG hB dep => gs_guard (c := ((true && (((((901 : Int) != (901 : Int))) || (((902 : Int) != (902 : Int)))) == false)) && (false == true))) (b' := true) rfl rfl (dep 25 rfl 116 rfl) (fun hc he hw => absurd he (by decide)) (fun hn => vF_no hn _)) ?_
            refine Steps.cons (fun a' w' hG hB dep => gs_guard (c := (true && (((((901 : Int) != (901 : Int))) || (((902 : Int) != (902 : Int)))) == false))) (b' := false) rfl rfl (dep 18 rfl 109 rfl) (fun hc he hw => absurd he (by decide)) (fun hn => vF_no hn _)) ?_
            refine Steps.cons (fun a' w' hG hB dep => gs_guard (c := true) (b' := ((((901 : Int) != (901 : Int))) || (((902 : Int) != (902 : Int))))) rfl rfl (dep 12 rfl 103 rfl) (fun hc he hw => gs_pick hw _ _ _ rfl false (Eq.trans (dep 18 rfl 109 rfl) (vF_yes (on_g hc he) _)) (Eq.trans (pick_and2 (c := (true && (((((901 : Int) != (901 : Int))) || (((902 : Int) != (902 : Int)))) == false))) (on_g hc he) (dep 32 rfl 123 rfl)) (vF_yes (on_g hc he) _).symm)) (fun hn => vF_no hn _)) ?_
            refine Steps.cons (fun a' w' hG hB dep => gs_pick (want_none rfl) _ _ _ rfl ((((901 : Int) != (901 : Int))) || (((902 : Int) != (902 : Int)))) (dep 12 rfl 103 rfl) (id (pick_or2 (c := true) rfl (dep 33 rfl 124 rfl)))) ?_
            exact Steps.nil
          intro u w14 hw14 ans
          have hus125 : u 125 = (.bool (((((901 : Int) != (901 : Int))) || (((902 : Int) != (902 : Int)))) || (false && false))) := ans 34 125 (by decide) rfl
          clear ans
          simp only [putAll, List.foldl_cons, List.foldl_nil, Act.put, List.setIfInBounds_toArray, List.set_cons_zero, List.set_cons_succ, hus125]
          clear hus125
          simp only [List.drop]
          refine wpList_nil ?_
          clear hX cp0 cq0 hm12
          have fz : (((((901 : Int) != (901 : Int))) || (((902 : Int) != (902 : Int)))) || (false && false)) = false := by decide
          rw [fz]
          go_wp2_with (fail)
          exact ⟨⟨i + 1, by omega, rfl, hBr.trans (hw14.mono hBr.size)⟩, by simp only [intOf]; omega⟩
end Go.Proofs.YtjplgcmfifoefaaGreatDoor
