/- What the functions that script's take answers do to an event in memory. No condition beyond those named in each lemma. -/
import Derived.Test.YtjplgcmfifoefaaDoorQtN
import Derived.Test.YtjplgcmfifoefaaDoorGrowW
namespace Go.Proofs.YtjplgcmfifoefaaDoor
open Go.RowKit Go.Maps
set_option linter.unusedVariables false
set_option linter.unusedSimpArgs false
attribute [local go_sem] Oper.semAt_some

theorem gs_extract {ops : Array Oper} {S : Nat → GSpec} {Q : Exit → Act → World → Prop} {i : Nat} {o : Oper} {a : Act} {w : World} (hw : Region.wanted o (yielded ops a.tmps) = true) (x : Operand) (k : Nat) (ho : o.op = .extract x k) (vs : Array Value) (hx : a.eval x = .tuple vs) (u : Value) (hk : vs[k]? = some u)
    (hp : (S i).p u w) : GStep Tryd.prog ops S Q i o a w :=
  gs_run hw (v := u) (by unfold execOp; simp only [ho, hx, Instr.extract, hk, Sem.run_bind, Sem.run_pure, Result.andThen_ok]) (Below.refl _ _) hp
theorem gsr_store_cell {g i : Nat} {i0 : Nat} {ops : Array Oper} {S : Nat → GSpec} {Q : Exit → Act → World → Prop} {o : Oper} {a : Act} {w : World} (hw : Region.wanted o (yielded ops a.tmps) = true) (ty : TypeId) (x y : Operand) (ho : o.op = .store ty x y) (hx : a.eval x = .pointer (some ⟨g, i, none⟩)) {cs cs' : Array Value} {t : TypeId} {v : Value} (hy : a.eval y = v)
    (hb : Blk w g t cs) (hi : i < cs.size) (hsz : (Tryd.prog.info? ty).map (·.size) = some 1) (hv : v.cells = #[v]) (h1 : v.oneCell' = true) (he : cs.setIfInBounds i v = cs') (hp : ∀ w', Blk w' g t cs' → (S i0).p undef w') : GStepR (some g) i0 Tryd.prog ops S Q i0 o a w := by
  unfold GStepR
  rw [if_pos hw]
  exact wp_store_cell ty x y ho g i v hx hy t cs hb hv h1 hi hsz fun w' h1 h2 => ⟨undef, rfl, ⟨h2, fun h => (h rfl).elim⟩, hp _ (he ▸ h1)⟩
theorem cell_grown {w w' : World} {rw : Option Nat} {p : Addr} {v : Value} (h : w.cell? p = some v) (hg : w.grownBy w' rw) (hl : p.block < w.heap.size) (hne : some p.block ≠ rw) : w'.cell? p = some v := (World.cell?_of_block (hg.block p.block hl hne)).trans h
/-- an event of the call's own: its cells in block ge, its list in a row from block base on -/
structure EvM (w : World) (ge base : Nat) (x : EvV) (ks : List Int) : Prop where
  blk : Blk w ge 24 x.C
  own : Own w base 3 1 encZ (.slice x.A x.m x.c) ks
  len : x.m = ks.length
  lt : ge < base
  bs : base ≤ w.heap.size
/-- nothing below base is turned but ge -/
structure TK (ge base : Nat) (w w' : World) : Prop where
  os : w'.os = w.os
  tape : w'.tape = w.tape
  output : w'.output = w.output
  size : w.heap.size ≤ w'.heap.size
  block : ∀ k, k < base → k ≠ ge → w'.heap[k]? = w.heap[k]?
theorem TK.refl (ge base : Nat) (w : World) : TK ge base w w := ⟨rfl, rfl, rfl, Nat.le_refl _, fun _ _ _ => rfl⟩
theorem TK.trans {ge base : Nat} {a b c : World} (h : TK ge base a b) (k : TK ge base b c) : TK ge base a c :=
  ⟨k.os.trans h.os, k.tape.trans h.tape, k.output.trans h.output, Nat.le_trans h.size k.size, fun i h1 h2 => (k.block i h1 h2).trans (h.block i h1 h2)⟩
theorem TK.of_below {ge base : Nat} {w w' : World} (h : Below base w w') : TK ge base w w' := ⟨h.os, h.tape, h.output, h.size, fun k hk _ => h.block k hk⟩
theorem TK.of_grown {ge base : Nat} {w w' : World} (h : w.grownBy w' (some ge)) (hb : base ≤ w.heap.size) : TK ge base w w' := ⟨h.os, h.tape, h.output, h.size, fun k hk hne => h.block k (by omega) (fun e => hne (Option.some.inj e))⟩
theorem TK.of_row {ge base : Nat} {w w' : World} {row : Option Nat} (h : w.grownBy w' row) (hb : base ≤ w.heap.size) (hr : ∀ k, row = some k → base ≤ k) : TK ge base w w' := ⟨h.os, h.tape, h.output, h.size, fun k hk _ => h.block k (by omega) (fun e => by have := hr k e.symm; omega)⟩
theorem EvM.then_ {w w' : World} {ge base : Nat} {x : EvV} {ks : List Int} (h : EvM w ge base x ks) (hb : Below w.heap.size w w') : EvM w' ge base x ks := ⟨blk_then h.blk hb, h.own.then_ hb, h.len, h.lt, Nat.le_trans h.bs hb.size⟩
/-- the answer of a part's taking -/
structure TkR (c : UInt8) (q : ByteArray) (x : EvV) (ks : List Int) (b : Bool) (x' : EvV) (ks' : List Int) : Prop where
  yes : ∀ e', takeC' c (tl q) (x.ev ks) = some e' → b = true ∧ x'.ev ks' = e'
  no : takeC' c (tl q) (x.ev ks) = none → b = false
  n1 : x'.name.size ≤ max x.name.size q.size
  n2 : x'.other.size ≤ max x.other.size q.size
  n3 : x'.data.size ≤ max x.data.size q.size
  ints : intsOk (x.ev ks) → intsOk (x'.ev ks')
  few : ks'.length ≤ ks.length + 1
def TkE (c : UInt8) (ge base : Nat) (q : ByteArray) (x : EvV) (ks : List Int) (w : World) (e : Ending) (w' : World) : Prop :=
  ∃ b x' ks', e = .returned (.bool b) ∧ EvM w' ge base x' ks' ∧ TK ge base w w' ∧ TkR c q x ks b x' ks'
theorem unq_len (w : Bs) : (unqZ w).length ≤ w.length := by
  unfold unqZ unq
  have key : ∀ f l, ∀ r, unqG f l = some r → r.length ≤ l.length := by
    intro f
    induction f with
    | zero =>
      intro l r h
      cases l with
      | nil => injection h with h; rw [← h]; simp
      | cons => cases h
    | succ f ih =>
      intro l r h
      cases l with
      | nil => injection h with h; rw [← h]; simp
      | cons c t =>
        unfold unqG at h
        split at h
        · split at h
          · cases h
          · next b n hb =>
            cases hr : unqG f (t.drop n) with
            | none => rw [hr] at h; cases h
            | some r2 =>
              rw [hr] at h
              injection h with h
              have := ih _ _ hr
              rw [List.length_drop] at this
              rw [← h]
              simp only [List.length_cons]
              omega
        · split at h
          · cases h
          · cases hr : unqG f t with
            | none => rw [hr] at h; cases h
            | some r2 =>
              rw [hr] at h
              injection h with h
              have := ih _ _ hr
              rw [← h]
              simp only [List.length_cons]
              omega
  split
  · simp
  · split
    · simp
    · cases h : unqG w.length ((w.drop 1).take (w.length - 2)) with
      | none => simp
      | some r =>
        have := key _ _ _ h
        rw [List.length_take, List.length_drop] at this
        simp only [Option.getD_some]
        omega
def EvV.setF (x : EvV) (k : Nat) (s : ByteArray) : EvV := if k = 1 then { x with name := s } else if k = 2 then { x with other := s } else { x with data := s }
set_option maxRecDepth 100000 in
set_option maxHeartbeats 4000000 in
theorem set_any (k : Nat) (hk : k = 1 ∨ k = 2 ∨ k = 3) (q : ByteArray) (hq : q.size ≤ 1099511627776) (ge base pb : Nat) (T : TypeId) (x : EvV) (ks : List Int) (w : World) (hM : EvM w ge base x ks) (hP : Blk w pb T #[.pointer (some ⟨ge, k, none⟩)]) :
    Calls Tryd.prog 48 #[.string q, .pointer (some ⟨pb, 0, none⟩)] w fun e w' => e = .returned (.bool true) ∧ EvM w' ge base (x.setF k ⟨(unqZ (tl q)).toArray⟩) ks ∧ TK ge base w w' := by
  obtain ⟨X, hX⟩ : ∃ X, x.setF k ⟨(unqZ (tl q)).toArray⟩ = X := ⟨_, rfl⟩
  obtain ⟨U, hU⟩ : ∃ U : ByteArray, ⟨(unqZ (tl q)).toArray⟩ = U := ⟨_, rfl⟩
  obtain ⟨E, hE⟩ : ∃ E, unqE (tl q) = E := ⟨_, rfl⟩
  rw [hX]
  rw [hU] at hX
  have kU : ∀ W, Calls Tryd.prog 27 #[.string q] W fun e w' => e = .returned (.tuple #[.string U, .int .i64 E]) ∧ Below W.heap.size W w' := fun W => by
    have h := unquote_any q hq W
    rw [show unqZ q.data.toList = unqZ (tl q) from rfl, show unqE q.data.toList = unqE (tl q) from rfl, hE] at h
    unfold strV at h
    rw [hU] at h
    exact h
  have hset : x.C.setIfInBounds k (.string U) = X.C := by
    rw [← hX]
    unfold EvV.setF
    rcases hk with rfl | rfl | rfl <;> rfl
  have hXA : X.A = x.A ∧ X.m = x.m ∧ X.c = x.c := by
    rw [← hX]
    unfold EvV.setF
    rcases hk with rfl | rfl | rfl <;> exact ⟨rfl, rfl, rfl⟩
  have hkc : k < x.C.size := by
    have : x.C.size = 7 := rfl
    omega
  have cP : w.cell? ⟨pb, 0, none⟩ = some (.pointer (some ⟨ge, k, none⟩)) := hP.cellv rfl
  have hpl := hP.lt
  replace hX := Lib.hid hX
  clear hU hE hk
  go_enter Tryd.func48, Tryd.ntmps48
  go_upto_region 1 with (fail)
  have hpg : some pb ≠ some ge := by
    intro h
    injection h with h
    subst h
    have := hP.symm.trans hM.blk
    injection this with this
    injection this with this h2
    have h3 : (#[.pointer (some ⟨pb, k, none⟩)] : Array Value).size = x.C.size := by rw [this]
    exact absurd h3 (by show ¬ (1 = 7); decide)
  refine wp_region_stepsW (rw := some ge) (i0 := 7) 8 [eqS (.pointer (some ⟨ge, k, none⟩)), eqS (.string q), eqS (.tuple #[.string U, .int .i64 E]), eqS (.tuple #[.string U, .int .i64 E]), eqS (.string U), eqS (.int .i64 E), eqS (.pointer (some ⟨ge, k, none⟩)), ⟨fun _ W => Blk W ge 24 X.C, fun _ _ _ h hb => blk_then h hb⟩] [5, 6, 7, 4, 8, 9, 10] follows_mixed ?_ (by kernel_rfl) (by kernel_rfl) ?_ (by omega) ?_
  · intro j hj v wa wb hp hg
    rcases j with _ | _ | _ | _ | _ | _ | _ | _ | j <;> first | exact hp | exact absurd rfl hj
  · skip
    refine StepsR.cons (fun a' w' hG hW hP2 dep => GStepR.of (gs_load1 (want_none rfl) _ _ rfl pb 0 (hG.other 1 rfl) (.pointer (some ⟨ge, k, none⟩)) (cell_grown cP hW hpl hpg) _ Tryd.underlying99 rfl rfl)) ?_
    refine StepsR.cons (fun a' w' hG hW hP2 dep => GStepR.of (gs_move (want_none rfl) _ rfl (hG.other 0 rfl))) ?_
    refine StepsR.cons (fun a' w' hG hW hP2 dep => GStepR.of (gs_call (want_none rfl) _ _ _ rfl enter_unquote _ (map1 (dep 1 rfl 6 rfl)) ((kU _).mono fun e w2 ⟨h1, h2⟩ => ⟨_, h1, h2, rfl⟩))) ?_
    refine StepsR.cons (fun a' w' hG hW hP2 dep => GStepR.of (gs_move (want_none rfl) _ rfl (dep 2 rfl 7 rfl))) ?_
    refine StepsR.cons (fun a' w' hG hW hP2 dep => GStepR.of (gs_extract (want_none rfl) _ 0 rfl _ (dep 3 rfl 4 rfl) _ rfl rfl)) ?_
    refine StepsR.cons (fun a' w' hG hW hP2 dep => GStepR.of (gs_extract (want_none rfl) _ 1 rfl _ (dep 3 rfl 4 rfl) _ rfl rfl)) ?_
    refine StepsR.cons (fun a' w' hG hW hP2 dep => GStepR.of (gs_nil (want_none rfl) _ rfl _ (dep 0 rfl 5 rfl) rfl)) ?_
    refine StepsR.cons (fun a' w' hG hW hP2 dep => gsr_store_cell (want_none rfl) _ _ _ rfl (dep 6 rfl 10 rfl) (dep 4 rfl 8 rfl) (blk_then hM.blk (hP2 rfl)) hkc (by kernel_rfl) rfl rfl hset (fun w9 h9 => h9)) ?_
    exact StepsR.nil
  intro u w9 hg9 ans hturn
  obtain ⟨_, h9⟩ := hturn
  clear ans
  simp only [putAll, List.foldl_cons, List.foldl_nil, Act.put, List.setIfInBounds_toArray, List.set_cons_zero, List.set_cons_succ]
  simp only [List.drop]
  refine wpList_nil ?_
  go_wp2_with (fail)
  go_ret
  have hne : ∀ j, (Value.slice x.A x.m x.c).ownBlock = some j → some ge = some j → False := fun j h1 h2 => by
    have h3 := (hM.own.lt j h1).1
    have h4 := hM.lt
    injection h2 with h2
    omega
  refine ⟨rfl, ⟨h9, ?_, ?_, hM.lt, Nat.le_trans hM.bs hg9.size⟩, TK.of_grown hg9 hM.bs⟩
  · rw [hXA.1, hXA.2.1, hXA.2.2]
    exact hM.own.kept_ hg9 hne
  · rw [hXA.2.1]
    exact hM.len
theorem enter_set (args : Array Value) (w : World) : (callFunc 48 args).run Tryd.prog w = .ok (.enter 48 args) w := by kernel_rfl
end Go.Proofs.YtjplgcmfifoefaaDoor
