/- The other functions that script's take answers. No condition beyond those named in each lemma. -/
import Derived.Test.YtjplgcmfifoefaaDoorQtO
namespace Go.Proofs.YtjplgcmfifoefaaDoor
open Go.RowKit Go.Maps
set_option linter.unusedVariables false
set_option linter.unusedSimpArgs false
attribute [local go_sem] Oper.semAt_some

theorem SOk.grown {W W' : World} {r : Nat} (h : SOk W) (hg : W.grownBy W' (some r)) (hr : 7 ≤ r) : SOk W' :=
  h.then_ (Nat.le_refl 7) ⟨hg.os, hg.tape, hg.output, hg.size, fun k hk => hg.block k (Nat.lt_of_lt_of_le hk h.size) (fun e => by injection e with e; omega)⟩
theorem ptr_ne {w : World} {pb ge base k : Nat} {T : TypeId} {x : EvV} {ks : List Int} (hP : Blk w pb T #[.pointer (some ⟨ge, k, none⟩)]) (hM : EvM w ge base x ks) : some pb ≠ some ge := by
  intro h
  injection h with h
  subst h
  have := hP.symm.trans hM.blk
  injection this with this
  injection this with this h2
  have h3 : (#[.pointer (some ⟨pb, k, none⟩)] : Array Value).size = x.C.size := by rw [this]
  exact absurd h3 (by show ¬ (1 = 7); decide)
theorem row_ne {w : World} {ge base : Nat} {x : EvV} {ks : List Int} (hM : EvM w ge base x ks) : ∀ j, (Value.slice x.A x.m x.c).ownBlock = some j → some ge = some j → False := fun j h1 h2 => by
  have h3 := (hM.own.lt j h1).1
  have h4 := hM.lt
  injection h2 with h2
  omega
set_option maxRecDepth 100000 in
set_option maxHeartbeats 4000000 in
theorem yes_any (q : ByteArray) (ge base pb : Nat) (T : TypeId) (x : EvV) (ks : List Int) (w : World) (hM : EvM w ge base x ks) (hP : Blk w pb T #[.pointer (some ⟨ge, 0, none⟩)]) :
    Calls Tryd.prog 49 #[.string q, .pointer (some ⟨pb, 0, none⟩)] w fun e w' => e = .returned (.bool ((tl q == yesW) || (tl q == noW))) ∧ EvM w' ge base { x with yes := tl q == yesW } ks ∧ TK ge base w w' := by
  have cP : w.cell? ⟨pb, 0, none⟩ = some (.pointer (some ⟨ge, 0, none⟩)) := hP.cellv rfl
  have hpg := ptr_ne hP hM
  have hrn := row_ne hM
  have hpl := hP.lt
  obtain ⟨y, hy⟩ : ∃ y, (tl q == yesW) = y := ⟨_, rfl⟩
  obtain ⟨n, hn⟩ : ∃ n, (tl q == noW) = n := ⟨_, rfl⟩
  have hy1 : (q.toList == [121, 101, 115]) = y := by rw [Lib.toList_data]; exact hy
  have hn1 : (q.toList == [110, 111]) = n := by rw [Lib.toList_data]; exact hn
  rw [hy, hn]
  clear hy hn
  obtain ⟨X, hX⟩ : ∃ X : EvV, { x with yes := y } = X := ⟨_, rfl⟩
  have hset : x.C.setIfInBounds 5 (.bool y) = X.C := by rw [← hX]; rfl
  have hXA : X.A = x.A ∧ X.m = x.m ∧ X.c = x.c ∧ X.yes = y := by rw [← hX]; exact ⟨rfl, rfl, rfl, rfl⟩
  rw [hX]
  replace hX := Lib.hid hX
  have HXA := Lib.hid hXA
  have hM2 := Lib.hid hM
  have hb := hM.blk
  have hrn2 := Lib.hid hrn
  clear hXA hM hrn
  go_enter Tryd.func49, Tryd.ntmps49
  go_upto_region 2 with (refine wl_store_cell rfl _ _ _ rfl ge 5 rfl _ _ X.C hb (by show 5 < 7; decide) (by kernel_rfl) rfl rfl hset ?_; intro w9 h9 hg9)
  have cP9 := cell_grown cP hg9 hpl hpg
  have cY : w9.cell? ⟨ge, 5, none⟩ = some (.bool y) := by
    have h8 : w9.cell? ⟨ge, 5, none⟩ = some (.bool X.yes) := h9.cellv rfl
    rw [HXA.out.2.2.2] at h8
    exact h8
  have hfin : EvM w9 ge base X ks ∧ TK ge base w w9 := by
    refine ⟨⟨h9, ?_, ?_, hM2.out.lt, Nat.le_trans hM2.out.bs hg9.size⟩, TK.of_grown hg9 hM2.out.bs⟩
    · rw [HXA.out.1, HXA.out.2.1, HXA.out.2.2.1]
      exact hM2.out.own.kept_ hg9 hrn2.out
    · rw [HXA.out.2.1]
      exact hM2.out.len
  replace hfin := Lib.hid hfin
  clear cP hb hg9 h9
  cases y with
  | true =>
    go_wp2_with (fail)
    go_ret
    exact ⟨rfl, hfin.out⟩
  | false =>
    go_wp2_with (fail)
    go_ret
    exact ⟨by cases n <;> rfl, hfin.out⟩
theorem enter_yes (args : Array Value) (w : World) : (callFunc 49 args).run Tryd.prog w = .ok (.enter 49 args) w := by kernel_rfl
theorem field_ev_4 (b : Nat) (w : World) : (Instr.fieldAt 24 (.pointer (some ⟨b, 0, none⟩)) 4).run Tryd.prog w = .ok (.pointer (some ⟨b, 4, none⟩)) w := by kernel_rfl
theorem field_ev_6 (b : Nat) (w : World) : (Instr.fieldAt 24 (.pointer (some ⟨b, 0, none⟩)) 6).run Tryd.prog w = .ok (.pointer (some ⟨b, 6, none⟩)) w := by kernel_rfl
set_option maxRecDepth 100000 in
set_option maxHeartbeats 4000000 in
theorem n_any (q : ByteArray) (hq : q.size ≤ 1099511627776) (ge base pb : Nat) (h7 : 7 ≤ ge) (T : TypeId) (x : EvV) (ks : List Int) (w : World) (hM : EvM w ge base x ks) (hP : Blk w pb T #[.pointer (some ⟨ge, 0, none⟩)]) (hS : SOk w) :
    Calls Tryd.prog 52 #[.string q, .pointer (some ⟨pb, 0, none⟩)] w fun e w' => e = .returned (.bool (intW (tl q)).isSome) ∧ EvM w' ge base { x with n := intZ (tl q) } ks ∧ TK ge base w w' := by
  have cP : w.cell? ⟨pb, 0, none⟩ = some (.pointer (some ⟨ge, 0, none⟩)) := hP.cellv rfl
  have hpg := ptr_ne hP hM
  have hrn := row_ne hM
  have hpl := hP.lt
  have kI := fun W hW => integer_any q hq W hW
  obtain ⟨Z, hZ⟩ : ∃ Z, intZ (tl q) = Z := ⟨_, rfl⟩
  obtain ⟨B, hB0⟩ : ∃ B, (intW (tl q)).isSome = B := ⟨_, rfl⟩
  rw [hZ, hB0]
  rw [hZ, hB0] at kI
  clear hZ hB0
  obtain ⟨X, hX⟩ : ∃ X : EvV, { x with n := Z } = X := ⟨_, rfl⟩
  have hset : x.C.setIfInBounds 4 (.int .i64 Z) = X.C := by rw [← hX]; rfl
  have hXA : X.A = x.A ∧ X.m = x.m ∧ X.c = x.c := by rw [← hX]; exact ⟨rfl, rfl, rfl⟩
  rw [hX]
  replace hX := Lib.hid hX
  go_enter Tryd.func52, Tryd.ntmps52
  go_upto_region 1 with (fail)
  refine wp_region_stepsW (rw := some ge) (i0 := 8) 10 [eqS (.pointer (some ⟨ge, 0, none⟩)), eqS (.string q), eqS (.tuple #[.int .i64 Z, .bool B]), eqS (.tuple #[.int .i64 Z, .bool B]), eqS (.int .i64 Z), eqS (.bool B), eqS (.pointer (some ⟨ge, 0, none⟩)), eqS (.pointer (some ⟨ge, 4, none⟩)), ⟨fun _ W => Blk W ge 24 X.C, fun _ _ _ h hb => blk_then h hb⟩, eqS (.bool B)] [5, 6, 7, 4, 8, 9, 10, 11, 3] follows_mixed ?_ (by kernel_rfl) (by kernel_rfl) ?_ (by omega) ?_
  · intro j hj v wa wb hp hg
    rcases j with _ | _ | _ | _ | _ | _ | _ | _ | _ | _ | j <;> first | exact hp | exact absurd rfl hj
  · skip
    refine StepsR.cons (fun a' w' hG hW hP2 dep => GStepR.of (gs_load1 (want_none rfl) _ _ rfl pb 0 (hG.other 1 rfl) (.pointer (some ⟨ge, 0, none⟩)) (cell_grown cP hW hpl hpg) _ Tryd.underlying76 rfl rfl)) ?_
    refine StepsR.cons (fun a' w' hG hW hP2 dep => GStepR.of (gs_move (want_none rfl) _ rfl (hG.other 0 rfl))) ?_
    refine StepsR.cons (fun a' w' hG hW hP2 dep => GStepR.of (gs_call (want_none rfl) _ _ _ rfl enter_integer _ (map1 (dep 1 rfl 6 rfl)) ((kI _ (hS.grown hW h7)).mono fun e w2 ⟨h1, h2⟩ => ⟨_, h1, h2, rfl⟩))) ?_
    refine StepsR.cons (fun a' w' hG hW hP2 dep => GStepR.of (gs_move (want_none rfl) _ rfl (dep 2 rfl 7 rfl))) ?_
    refine StepsR.cons (fun a' w' hG hW hP2 dep => GStepR.of (gs_extract (want_none rfl) _ 0 rfl _ (dep 3 rfl 4 rfl) _ rfl rfl)) ?_
    refine StepsR.cons (fun a' w' hG hW hP2 dep => GStepR.of (gs_extract (want_none rfl) _ 1 rfl _ (dep 3 rfl 4 rfl) _ rfl rfl)) ?_
    refine StepsR.cons (fun a' w' hG hW hP2 dep => GStepR.of (gs_nil (want_none rfl) _ rfl _ (dep 0 rfl 5 rfl) rfl)) ?_
    refine StepsR.cons (fun a' w' hG hW hP2 dep => GStepR.of (gs_field (want_none rfl) _ _ _ rfl ge 0 4 (dep 6 rfl 10 rfl) (fun wz => field_ev_4 ge wz) rfl)) ?_
    refine StepsR.cons (fun a' w' hG hW hP2 dep => gsr_store_cell (want_none rfl) _ _ _ rfl (dep 7 rfl 11 rfl) (dep 4 rfl 8 rfl) (blk_then hM.blk (hP2 rfl)) (by show 4 < 7; decide) (by kernel_rfl) rfl rfl hset (fun w9 h9 => h9)) ?_
    refine StepsR.cons (fun a' w' hG hW hP2 dep => GStepR.of (gs_assign (want_none rfl) _ rfl (dep 5 rfl 9 rfl))) ?_
    exact StepsR.nil
  intro u w9 hg9 ans hturn
  obtain ⟨_, h9⟩ := hturn
  have u3 : u 3 = .bool B := ans 9 3 (by decide) rfl
  clear ans
  simp only [putAll, List.foldl_cons, List.foldl_nil, Act.put, List.setIfInBounds_toArray, List.set_cons_zero, List.set_cons_succ, u3]
  clear u3
  simp only [List.drop]
  refine wpList_nil ?_
  go_wp2_with (fail)
  go_ret
  refine ⟨rfl, ⟨h9, ?_, ?_, hM.lt, Nat.le_trans hM.bs hg9.size⟩, TK.of_grown hg9 hM.bs⟩
  · rw [hXA.1, hXA.2.1, hXA.2.2]
    exact hM.own.kept_ hg9 hrn
  · rw [hXA.2.1]
    exact hM.len
theorem enter_n (args : Array Value) (w : World) : (callFunc 52 args).run Tryd.prog w = .ok (.enter 52 args) w := by kernel_rfl
def oneZ (lo : Nat) (z : Int) : GSpec := ⟨fun v w => ∃ g, v = .slice (some ⟨g, 0, none⟩) 1 1 ∧ lo ≤ g ∧ Blk w g 3 (encZ z), fun v w w' ⟨g, h1, h2, h3⟩ hb => ⟨g, h1, h2, blk_then h3 hb⟩⟩
def moreZ (lo : Nat) (es : List Int) : GSpec := ⟨fun v w => Own w lo 3 1 encZ v es, fun v w w' h hb => h.then_ hb⟩
theorem gs_moreZ {rw : Option Nat} {i0 : Nat} {ops : Array Oper} {S : Nat → GSpec} {Q : Exit → Act → World → Prop} {o : Oper} {a : Act} {w : World} (hw : Region.wanted o (yielded ops a.tmps) = true) (x y : Operand) (ho : o.op = .call { callee := .builtin .append, args := #[x, y], argTypes := #[22, 22] })
    {lo : Nat} (hlo : lo ≤ w.heap.size) (v : Value) (es : List Int) (d : Int) (hv : a.eval x = v) (hrw : v.ownBlock = rw) (hown : Own w lo 3 1 encZ v es) (hl : es.length ≤ 1099511627776) (lo2 : Nat) (hy : (oneZ lo2 d).p (a.eval y) w)
    (hp : ∀ v w', (moreZ lo (es ++ [d])).p v w' → (S i0).p v w') : GStepR rw i0 Tryd.prog ops S Q i0 o a w := by
  obtain ⟨g, hy, _, hb⟩ := hy
  obtain ⟨i1, hi1, hz0, hz1, hz2⟩ := info_parts info_int3
  obtain ⟨v', w', hrun, h2, h3, h4⟩ := run_append_slice (P := Tryd.prog) w lo 22 o.type 3 i1 _ 1 8 Tryd.underlying22 hi1 hz0 hz1 hz2 rfl (by decide) encZ_size encZ_one v es hown w.heap.size (some ⟨g, 0, none⟩) 1 1 [d] rfl (slice_one (enc := encZ) (size := 1) hb) (by unfold maxLen; omega) (by omega) hlo
  refine GStepR.run hw (v := v') (w' := w') ?_ (hrw ▸ h3) (hp _ _ h2)
  unfold execOp
  simp only [ho, resolve, invoke, builtin, Sem.run_bind, Sem.run_pure, Result.andThen_ok, List.map_toArray, List.map_cons, List.map_nil, hv, hy, hrun]
set_option maxRecDepth 100000 in
set_option maxHeartbeats 8000000 in
theorem keep_any (q : ByteArray) (hq : q.size ≤ 1099511627776) (ge base pb : Nat) (h7 : 7 ≤ ge) (T : TypeId) (hT : T ≠ 3) (x : EvV) (ks : List Int) (hks : ks.length ≤ 1099511627776) (w : World) (hM : EvM w ge base x ks) (hP : Blk w pb T #[.pointer (some ⟨ge, 0, none⟩)]) (hS : SOk w) :
    Calls Tryd.prog 50 #[.string q, .pointer (some ⟨pb, 0, none⟩)] w fun e w' => ∃ A' c', e = .returned (.bool (intW (tl q)).isSome) ∧ EvM w' ge base { x with A := A', m := x.m + 1, c := c' } (ks ++ [intZ (tl q)]) ∧ TK ge base w w' := by
  have kI := integer_any q hq w hS
  obtain ⟨Z, hZ⟩ : ∃ Z, intZ (tl q) = Z := ⟨_, rfl⟩
  obtain ⟨B, hB0⟩ : ∃ B, (intW (tl q)).isSome = B := ⟨_, rfl⟩
  rw [hZ, hB0]
  rw [hZ, hB0] at kI
  clear hZ hB0
  go_enter Tryd.func50, Tryd.ntmps50
  go_upto_region 2 with (go_at_call 51; refine kI.mono ?_; clear kI; rintro e w3 ⟨rfl, hB3⟩)
  have hM3 := hM.then_ hB3
  have hP3 := blk_then hP hB3
  have cP : w3.cell? ⟨pb, 0, none⟩ = some (.pointer (some ⟨ge, 0, none⟩)) := hP3.cellv rfl
  have cK : w3.cell? ⟨ge, 6, none⟩ = some (.slice x.A x.m x.c) := hM3.blk.cellv rfl
  have hpl := hP3.lt
  have hgl := hM3.blk.lt
  obtain ⟨rw0, hrw⟩ : ∃ r, (Value.slice x.A x.m x.c).ownBlock = r := ⟨_, rfl⟩
  have hown_ne : ∀ {g : Nat} {t : TypeId} {cs : Array Value}, Blk w3 g t cs → t ≠ 3 → some g ≠ rw0 := by
    intro g t cs hb hne h
    rw [← hrw] at h
    rcases hM3.own.2 with ⟨hv, _⟩ | ⟨g', cap, cur, hv, _, hg', _⟩
    · rw [hv] at h; cases h
    · rw [hv] at h
      have h2 : g = g' := by
        have : some g = some g' := h
        injection this
      subst h2
      have h3 := hb.symm.trans hg'
      injection h3 with h3
      injection h3 with _ h4
      exact hne h4
  have hn1 := hown_ne hP3 hT
  have hn2 := hown_ne hM3.blk (by decide)
  have hlt0 : ∀ k, some k = rw0 → k < w3.heap.size := fun k h => (hM3.own.lt k (by rw [hrw]; exact h.symm)).2
  have hml := hM.len
  refine wp_region_stepsR (rw := rw0) (i0 := 7) 10 [eqS (.pointer (some ⟨ge, 0, none⟩)), eqS (.pointer (some ⟨ge, 0, none⟩)), eqS (.pointer (some ⟨ge, 0, none⟩)), eqS (.pointer (some ⟨ge, 6, none⟩)), eqS (.slice x.A x.m x.c), eqS (.int .i64 Z), oneZ w3.heap.size Z, moreZ base (ks ++ [Z]), eqS (.pointer (some ⟨ge, 0, none⟩)), eqS (.pointer (some ⟨ge, 6, none⟩))] [11, 12, 13, 14, 15, 16, 17, 18, 19, 20] follows_mixed ?_ (by kernel_rfl) (by kernel_rfl) ?_ ?_
  · intro j hj v wa wb hp hg
    match j, hj, hp with
    | 0, _, hp => exact hp
    | 1, _, hp => exact hp
    | 2, _, hp => exact hp
    | 3, _, hp => exact hp
    | 4, _, hp => exact hp
    | 5, _, hp => exact hp
    | 6, _, hp =>
      obtain ⟨g, q1, q2, q3⟩ := hp
      exact ⟨g, q1, q2, q3.grown hg (fun e => by have := hlt0 g e; omega)⟩
    | 7, hj, _ => exact absurd rfl hj
    | 8, _, hp => exact hp
    | 9, _, hp => exact hp
    | j + 10, _, hp => exact hp
  · skip
    refine StepsR.cons (fun a' w' hG hW hP2 dep => GStepR.of (gs_load1 (want_none rfl) _ _ rfl pb 0 (hG.other 1 rfl) (.pointer (some ⟨ge, 0, none⟩)) (cell_grown cP hW hpl hn1) _ Tryd.underlying76 rfl rfl)) ?_
    refine StepsR.cons (fun a' w' hG hW hP2 dep => GStepR.of (gs_load1 (want_none rfl) _ _ rfl pb 0 (hG.other 1 rfl) (.pointer (some ⟨ge, 0, none⟩)) (cell_grown cP hW hpl hn1) _ Tryd.underlying76 rfl rfl)) ?_
    refine StepsR.cons (fun a' w' hG hW hP2 dep => GStepR.of (gs_nil (want_none rfl) _ rfl _ (dep 1 rfl 12 rfl) rfl)) ?_
    refine StepsR.cons (fun a' w' hG hW hP2 dep => GStepR.of (gs_field (want_none rfl) _ _ _ rfl ge 0 6 (dep 2 rfl 13 rfl) (fun wz => field_ev_6 ge wz) rfl)) ?_
    refine StepsR.cons (fun a' w' hG hW hP2 dep => GStepR.of (gs_load1 (want_none rfl) _ _ rfl ge 6 (dep 3 rfl 14 rfl) (.slice x.A x.m x.c) (cell_grown cK hW hgl hn2) _ Tryd.underlying22 rfl rfl)) ?_
    refine StepsR.cons (fun a' w' hG hW hP2 dep => GStepR.of (gs_move (want_none rfl) _ rfl (hG.other 4 rfl))) ?_
    refine StepsR.cons (fun a' w' hG hW hP2 dep => GStepR.of (gs_bsZ1 (want_none rfl) _ rfl Z (dep 5 rfl 16 rfl) ⟨_, rfl, hW.size, Blk.new _ _ _⟩)) ?_
    refine StepsR.cons (fun a' w' hG hW hP2 dep => gs_moreZ (want_none rfl) _ _ rfl (lo := base) (Nat.le_trans hM3.bs hW.size) (.slice x.A x.m x.c) ks Z (dep 4 rfl 15 rfl) hrw (hM3.own.then_ (hP2 rfl)) hks w3.heap.size (dep 6 rfl 17 rfl) (fun _ _ h => h)) ?_
    refine StepsR.cons (fun a' w' hG hW hP2 dep => GStepR.of (gs_nil (want_none rfl) _ rfl _ (dep 0 rfl 11 rfl) rfl)) ?_
    refine StepsR.cons (fun a' w' hG hW hP2 dep => GStepR.of (gs_field (want_none rfl) _ _ _ rfl ge 0 6 (dep 8 rfl 19 rfl) (fun wz => field_ev_6 ge wz) rfl)) ?_
    exact trivial
  intro u w7 hW7 ans
  have u20 : u 20 = .pointer (some ⟨ge, 6, none⟩) := ans 9 20 (by decide) rfl
  have hv7 : Own w7 base 3 1 encZ (u 18) (ks ++ [Z]) := ans 7 18 (by decide) rfl
  clear ans
  obtain ⟨A', c', u18, _, _⟩ := hv7.shape
  have hl8 : (ks ++ [Z]).length = x.m + 1 := by rw [List.length_append, hml]; rfl
  rw [hl8] at u18
  rw [u18] at hv7
  simp only [putAll, List.foldl_cons, List.foldl_nil, Act.put, List.setIfInBounds_toArray, List.set_cons_zero, List.set_cons_succ, u20, u18]
  clear u20 u18
  simp only [List.drop]
  have hb7 := hM3.blk.grown hW7 hn2
  obtain ⟨X, hX⟩ : ∃ X : EvV, { x with A := A', m := x.m + 1, c := c' } = X := ⟨_, rfl⟩
  have hset : x.C.setIfInBounds 6 (.slice A' (x.m + 1) c') = X.C := by rw [← hX]; rfl
  have hXA : X.A = A' ∧ X.m = x.m + 1 ∧ X.c = c' := by rw [← hX]; exact ⟨rfl, rfl, rfl⟩
  replace hX := Lib.hid hX
  clear hml
  go_wp2_with (refine wl_store_cell rfl _ _ _ rfl ge 6 rfl _ _ X.C hb7 (by show 6 < 7; decide) (by kernel_rfl) rfl rfl hset ?_; intro w9 h9 hg9)
  go_ret
  have hbz := Nat.le_trans hM3.bs hW7.size
  refine ⟨A', c', rfl, ?_, ?_⟩
  · rw [hX.out]
    refine ⟨h9, ?_, ?_, hM.lt, Nat.le_trans hbz hg9.size⟩
    · rw [hXA.1, hXA.2.1, hXA.2.2]
      exact hv7.kept_ hg9 (fun j h1 h2 => by
        have h3 := (hv7.lt j h1).1
        have h4 := hM.lt
        injection h2 with h2
        omega)
    · rw [hXA.2.1, hl8]
  · refine ((TK.of_below (hB3.mono hM.bs)).trans (TK.of_row hW7 hM3.bs (fun k h => (hM3.own.lt k (by rw [hrw]; exact h)).1))).trans (TK.of_grown hg9 hbz)
theorem enter_keep (args : Array Value) (w : World) : (callFunc 50 args).run Tryd.prog w = .ok (.enter 50 args) w := by kernel_rfl
end Go.Proofs.YtjplgcmfifoefaaDoor
