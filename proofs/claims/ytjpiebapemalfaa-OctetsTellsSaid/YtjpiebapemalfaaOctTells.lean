/- The walk of OctetsTells. No condition beyond those named in each lemma. -/
import Derived.Test.YtjpiebapemalfaaGoes
import Derived.Test.YtjpiebapemalfaaGs6
namespace Go.Proofs.Ytjpiebapemalfaa
open Go.RowKit Go.Shelf
set_option linter.unusedVariables false
set_option linter.unusedSimpArgs false
attribute [local go_sem] Oper.semAt_some eql_nil

/-- a store into a box of another type leaves an owned slice as it was -/
theorem own_box {α : Type} {enc : α → Array Value} {size base r : Nat} {e t : TypeId} {W W' : World} {v : Value} {ys : List α} {cs : Array Value} (h : Own W base e size enc v ys) (hb : Blk W r t cs) (hg : W.grownBy W' (some r)) (hne : e ≠ t) : Own W' base e size enc v ys :=
  h.kept_ hg (fun j e1 e2 => by
    injection e2 with e2
    rcases h.2 with ⟨hv, _⟩ | ⟨g', cap, cur, hv, hge, hh, _⟩
    · rw [hv] at e1; cases e1
    · rw [hv] at e1
      have a1 : g' = j := by simpa [Value.ownBlock] using e1
      subst a1; subst e2
      unfold Blk at hb
      rw [hh] at hb
      injection hb with hb
      injection hb with _ hb
      exact hne hb)
/-- what the boxes of OctetsTells hold when i rows have come -/
def tlI (a : BSet) (leave : Int) (A : Option Addr) (n c : Nat) (w : World) (base g6 g8 gx i : Nat) (W : World) : Prop :=
  Blk W (w.heap.size + 1) 3 #[.int .i64 leave] ∧ Blk W (w.heap.size + 1 + 1) 4 #[.bool false] ∧ Blk W g6 51 #[.slice A n c] ∧ Blk W (gx + 1) 54 #[.func (.func 44) #[] #[.pointer (some ⟨gx, 0, none⟩)]] ∧ Blk W g8 3 #[.int .i64 (i : Int)] ∧
  Own W base 57 2 rowC (.slice A n c) (rowsOf a) ∧ Blk W gx 31 (setC a) ∧ Below w.heap.size w W
theorem tlI_turn {a : BSet} {leave : Int} {A : Option Addr} {n c : Nat} {w : World} {base g6 g8 gx i B : Nat} {W W' : World} {row : Option Nat} (h : tlI a leave A n c w base g6 g8 gx i W) (hg : W.grownBy W' row) (hr : ∀ r, row = some r → B ≤ r ∧ ∃ o : Obj, W.heap[r]? = some o ∧ o.isCells = false) (hB : w.heap.size ≤ B) : tlI a leave A n c w base g6 g8 gx i W' := by
  obtain ⟨h1, h2, h3, h4, h5, h6, h7, h8⟩ := h
  exact ⟨blk_turn h1 hg hr, blk_turn h2 hg hr, blk_turn h3 hg hr, blk_turn h4 hg hr, blk_turn h5 hg hr, own_turn h6 hg hr, blk_turn h7 hg hr, h8.grown hg h8.size (fun k e => by have := (hr k e).1; omega)⟩
theorem tlI_then {a : BSet} {leave : Int} {A : Option Addr} {n c : Nat} {w : World} {base g6 g8 gx i : Nat} {W W' : World} (h : tlI a leave A n c w base g6 g8 gx i W) (hb : Below W.heap.size W W') : tlI a leave A n c w base g6 g8 gx i W' := by
  obtain ⟨h1, h2, h3, h4, h5, h6, h7, h8⟩ := h
  exact ⟨blk_then h1 hb, blk_then h2 hb, blk_then h3 hb, blk_then h4 hb, blk_then h5 hb, h6.then_ hb, blk_then h7 hb, below_then h8 hb⟩
theorem tlI_box {a : BSet} {leave : Int} {A : Option Addr} {n c : Nat} {w : World} {base g6 g8 gx i r : Nat} {W W' : World} {cs : Array Value} (h : tlI a leave A n c w base g6 g8 gx i W) (hb : Blk W r 3 cs) (hg : W.grownBy W' (some r)) (h1 : w.heap.size + 1 + 1 < gx) (h2 : g6 < gx) (h3 : gx + 1 < g8) (hr : g8 < r) : tlI a leave A n c w base g6 g8 gx i W' := by
  obtain ⟨e1, e2, e3, e4, e5, e6, e7, e8⟩ := h
  exact ⟨blk_other e1 hg (by omega), blk_other e2 hg (by omega), blk_other e3 hg (by omega), blk_other e4 hg (by omega), blk_other e5 hg (by omega), own_box e6 hb hg (by decide), blk_other e7 hg (by omega), e8.grown hg e8.size (fun k e => by injection e with e; omega)⟩
theorem tlI_next {a : BSet} {leave : Int} {A : Option Addr} {n c : Nat} {w : World} {base g6 g8 gx i j : Nat} {W W' : World} (h : tlI a leave A n c w base g6 g8 gx i W) (hb : Blk W' g8 3 #[.int .i64 (j : Int)]) (hg : W.grownBy W' (some g8)) (h1 : w.heap.size + 1 + 1 < gx) (h2 : g6 < gx) (h3 : gx + 1 < g8) : tlI a leave A n c w base g6 g8 gx j W' := by
  obtain ⟨e1, e2, e3, e4, e5, e6, e7, e8⟩ := h
  exact ⟨blk_other e1 hg (by omega), blk_other e2 hg (by omega), blk_other e3 hg (by omega), blk_other e4 hg (by omega), hb, own_box e6 e5 hg (by decide), blk_other e7 hg (by omega), e8.grown hg e8.size (fun k e => by injection e with e; omega)⟩
/-- the same block in two worlds -/
theorem blk_same {W W' : World} {g : Nat} {t : TypeId} {cs : Array Value} (h : Blk W g t cs) (h' : Blk W' g t cs) : W'.heap[g]? = W.heap[g]? := Eq.trans h' (Eq.symm h)
theorem enter_known3 (args : Array Value) (w : World) : (callFunc 25 args).run Try.prog w = .ok (.enter 25 args) w := by kernel_rfl
theorem enter_rcount3 (args : Array Value) (w : World) : (callFunc 27 args).run Try.prog w = .ok (.enter 27 args) w := by kernel_rfl
theorem enter_rhas3 (args : Array Value) (w : World) : (callFunc 28 args).run Try.prog w = .ok (.enter 28 args) w := by kernel_rfl
section
variable {ops : Array Oper} {S : Nat → GSpec} {Q : Exit → Act → World → Prop} {i : Nat} {o : Oper} {a : Act} {w : World}
theorem gs_known3 (hw : Region.wanted o (yielded ops a.tmps) = true) (ats : Array TypeId) (ho : o.op = .call { callee := .value (.func 25), args := #[], argTypes := ats })
    (hp : ∀ w', (S i).p (.bool true) w') : GStep Try.prog ops S Q i o a w :=
  gs_call hw _ _ _ ho enter_known3 #[] (by simp) ((known3_any w).mono fun e w' ⟨he, hb⟩ => ⟨_, he, hb, hp _⟩)
theorem gs_rcount (hw : Region.wanted o (yielded ops a.tmps) = true) (x : Operand) (ats : Array TypeId) (ho : o.op = .call { callee := .value (.func 27), args := #[x], argTypes := ats }) (p : BSet)
    (hx : a.eval x = .agg (setC p)) (hp : ∀ w', (S i).p (.int .i64 (cnt p)) w') : GStep Try.prog ops S Q i o a w :=
  gs_call hw _ _ _ ho enter_rcount3 _ (map1 hx) ((rcount_any p w).mono fun e w' ⟨he, hb⟩ => ⟨_, he, hb, hp _⟩)
theorem gs_rhas (hw : Region.wanted o (yielded ops a.tmps) = true) (x y : Operand) (ats : Array TypeId) (ho : o.op = .call { callee := .value (.func 28), args := #[x, y], argTypes := ats }) (p : BSet) (b : Nat) (hb : b < 256)
    (hx : a.eval x = .agg (setC p)) (hy : a.eval y = .int .i64 b) (hp : ∀ w', (S i).p (.bool (p.getLsbD b)) w') : GStep Try.prog ops S Q i o a w :=
  gs_call hw _ _ _ ho enter_rhas3 _ (map2 hx hy) ((rhas_nat p b hb w).mono fun e w' ⟨he, hb⟩ => ⟨_, he, hb, hp _⟩)
end
theorem info_rows1 : (Try.prog.info? 51).map (·.size) = some 1 := by kernel_rfl
theorem info_seq1 : (Try.prog.info? 54).map (·.size) = some 1 := by kernel_rfl
theorem wpList_w {P : Program} {ops : Array Oper} {rest : List Oper} {o : Oper} {a : Act} {w : World} {Q : Exit → Act → World → Prop} (hw : Region.wanted o (yielded ops a.tmps) = true) (h : wpList P ops Q ({ o with guard := none } :: rest) a w) : wpList P ops Q (o :: rest) a w := by
  unfold wpList at h ⊢
  rw [if_pos hw]
  rw [if_pos (show Region.wanted { o with guard := none } (yielded ops a.tmps) = true from rfl)] at h
  exact h
theorem wl_load_set_g {ops : Array Oper} {rest : List Oper} {o : Oper} {a : Act} {w : World} {Q : Exit → Act → World → Prop} (hw : Region.wanted o (yielded ops a.tmps) = true) (x : Operand) (ho : o.op = .load 31 x)
    (g : Nat) (hx : a.eval x = .pointer (some ⟨g, 0, none⟩)) (y : BSet) (hb : Blk w g 31 (setC y))
    (h : wpList Try.prog ops Q rest (a.put o.dst (.agg (setC y))) w) : wpList Try.prog ops Q (o :: rest) a w :=
  wpList_w hw (wl_load_set (o := { o with guard := none }) rfl x ho g hx y hb h)
/-- a goal at which a walk stands still -/
structure Parked (p : Prop) : Prop where
  h : p
theorem park_store {P : Program} {ops : Array Oper} {rest : List Oper} {o : Oper} {a : Act} {w : World} {Q : Exit → Act → World → Prop} (ty : TypeId) (x y : Operand) (ho : o.op = .store ty x y) (h : Parked (wpList P ops Q (o :: rest) a w)) : wpList P ops Q (o :: rest) a w := h.h
set_option maxRecDepth 100000 in
set_option maxHeartbeats 4000000 in
theorem octetsTells_any (a : BSet) (leave : Int) (w : World) : Calls Try.prog 6 #[.agg (setC a), .int .i64 leave] w fun e w' => e = .returned (.bool true) ∧ Below w.heap.size w w' := by
  refine (callsIn_wide (n := 8)).1 ?_
  refine callsIn_of_wp_marks Try.func6 rfl trivial ?_ rfl
  simp only [Try.ntmps6, List.size_toArray, List.length_cons, List.length_nil, Nat.reduceAdd, Nat.reduceSub, Array.replicate_succ, Array.replicate_zero, List.push_toArray, List.append_toArray, List.nil_append, List.cons_append]
  have e2 := ((Blk.new w 31 (setC a)).alloc (.cells #[.int .i64 leave] 3)).alloc (.cells #[.bool false] 4)
  have e3 := (Blk.new' (n := w.heap.size + 1) (w.alloc (.cells (setC a) 31)) 3 #[.int .i64 leave] (by simp)).alloc (.cells #[.bool false] 4)
  have e4 := Blk.new' (n := w.heap.size + 1 + 1) ((w.alloc (.cells (setC a) 31)).alloc (.cells #[.int .i64 leave] 3)) 4 #[.bool false] (by simp)
  have hB := below_alloc (below_alloc (below_alloc (Below.refl w.heap.size w) (.cells (setC a) 31)) (.cells #[.int .i64 leave] 3)) (.cells #[.bool false] 4)
  gi_upto_region 1 with (fail)
  refine wpIn_wide.2 ?_
  refine wp_region_steps 9 [eqS (.bool true), eqS (.bool false), eqS (.bool false), eqS (.agg (setC a)), eqS (.int .i64 ((cnt a : Int))), eqS (.agg (setC a)), eqS (.int .i64 ((cnt a : Int))), eqS (.bool false), eqS (.bool false)] [14, 15, 16, 17, 18, 19, 20, 21, 22] follows_mixed (by kernel_rfl) rfl ?_ ?_
  · refine Steps.cons (fun a' w' hG hB dep => gs_known3 (want_none rfl) _ rfl (fun _ => rfl)) ?_
    refine Steps.cons (fun a' w' hG hB dep => gs_not_bool (want_none rfl) _ _ rfl true (dep 0 rfl 14 rfl) rfl) ?_
    refine Steps.cons (fun a' w' hG hB dep => gs_move (want_none rfl) _ rfl (dep 1 rfl 15 rfl)) ?_
    refine Steps.cons (fun a' w' hG hB dep => gs_load_set (want_yes rfl rfl (dep 2 rfl 16 rfl)) _ rfl _ (hG.other 2 rfl) _ (blk_then e2 hB) rfl) ?_
    refine Steps.cons (fun a' w' hG hB dep => gs_count (want_yes rfl rfl (dep 2 rfl 16 rfl)) _ _ rfl _ (dep 3 rfl 17 rfl) (fun _ => rfl)) ?_
    refine Steps.cons (fun a' w' hG hB dep => gs_load_set (want_yes rfl rfl (dep 2 rfl 16 rfl)) _ rfl _ (hG.other 2 rfl) _ (blk_then e2 hB) rfl) ?_
    refine Steps.cons (fun a' w' hG hB dep => gs_rcount (want_yes rfl rfl (dep 2 rfl 16 rfl)) _ _ rfl _ (dep 5 rfl 19 rfl) (fun _ => rfl)) ?_
    refine Steps.cons (fun a' w' hG hB dep => gs_neq_int (want_yes rfl rfl (dep 2 rfl 16 rfl)) _ _ _ _ rfl _ _ _ (dep 4 rfl 18 rfl) (dep 6 rfl 20 rfl) (eqFI rfl)) ?_
    refine Steps.cons (fun a' w' hG hB dep => gs_pick (want_none rfl) _ _ _ rfl false (dep 2 rfl 16 rfl) (dep 7 rfl 21 rfl)) ?_
    exact Steps.nil
  intro u w1 hB1 ans
  have ux : u 22 = .bool false := ans 8 22 (by decide) rfl
  clear ans
  refine wpList_nil ?_
  simp only [putAll, List.foldl_cons, List.foldl_nil, Act.put, List.setIfInBounds_toArray, List.set_cons_zero, List.set_cons_succ, ux]
  clear ux

  replace e2 := blk_then e2 hB1
  replace e3 := blk_then e3 hB1
  replace e4 := blk_then e4 hB1
  replace hB := below_then hB hB1
  clear hB1
  gi_wp2
  gi_loopw [5] (fun i wr => ∃ b : Nat, b ≤ 256 ∧ i = .int .i64 b ∧ Blk wr w.heap.size 31 (setC a) ∧ Blk wr (w.heap.size + 1) 3 #[.int .i64 leave] ∧ Blk wr (w.heap.size + 1 + 1) 4 #[.bool false] ∧ Below w.heap.size w wr) (fun i _ => 256 - (intOf i).toNat)
  case atStart => exact ⟨0, by omega, rfl, e2, e3, e4, hB⟩
  case round =>
    clear e2 e3 e4 hB
    obtain ⟨b, hb, rfl, e2, e3, e4, hB⟩ := hrel
    by_cases hlt : b < 256
    · have hbI : (b : Int) < 256 := by omega
      cases hbit : a.getLsbD b
      · have Hbit := Lib.hid hbit
        clear hbit
        gi_upto_region 6 with (fail)
        refine wpIn_wide.2 ?_
        refine wp_region_steps 8 [eqS (.agg (setC a)), eqS (.int .i64 ((b : Int))), eqS (.int .u8 ((b : Int))), eqS (.bool false), eqS (.agg (setC a)), eqS (.int .i64 ((b : Int))), eqS (.bool false), eqS (.bool false)] [27, 28, 29, 30, 31, 32, 33, 34] follows_mixed (by kernel_rfl) rfl ?_ ?_
        · refine Steps.cons (fun a' w' hG hB dep => gs_load_set (want_none rfl) _ rfl _ (hG.other 2 rfl) _ (blk_then e2 hB) rfl) ?_
          refine Steps.cons (fun a' w' hG hB dep => gs_move (want_none rfl) _ rfl (hG.other 5 rfl)) ?_
          refine Steps.cons (fun a' w' hG hB dep => gs_byte (want_none rfl) _ rfl _ (by omega) (by omega) (dep 1 rfl 28 rfl) rfl) ?_
          refine Steps.cons (fun a' w' hG hB dep => gs_has (want_none rfl) _ _ _ rfl _ b hlt (dep 0 rfl 27 rfl) (dep 2 rfl 29 rfl) (fun _ => congrArg Value.bool Hbit.out)) ?_
          refine Steps.cons (fun a' w' hG hB dep => gs_load_set (want_none rfl) _ rfl _ (hG.other 2 rfl) _ (blk_then e2 hB) rfl) ?_
          refine Steps.cons (fun a' w' hG hB dep => gs_move (want_none rfl) _ rfl (hG.other 5 rfl)) ?_
          refine Steps.cons (fun a' w' hG hB dep => gs_rhas (want_none rfl) _ _ _ rfl _ b hlt (dep 4 rfl 31 rfl) (dep 5 rfl 32 rfl) (fun _ => congrArg Value.bool Hbit.out)) ?_
          refine Steps.cons (fun a' w' hG hB dep => gs_neq_bool (want_none rfl) _ _ _ rfl _ _ (dep 3 rfl 30 rfl) (dep 6 rfl 33 rfl) rfl) ?_
          exact Steps.nil
        intro u w3 hB3 ans
        have ux : u 34 = .bool false := ans 7 34 (by decide) rfl
        clear ans
        refine wpList_nil ?_
        simp only [putAll, List.foldl_cons, List.foldl_nil, Act.put, List.setIfInBounds_toArray, List.set_cons_zero, List.set_cons_succ, ux]
        clear ux

        replace e2 := blk_then e2 hB3
        replace e3 := blk_then e3 hB3
        replace e4 := blk_then e4 hB3
        replace hB := below_then hB hB3
        gi_wp2
        go_roundw
        case rel => exact ⟨b + 1, by omega, by go_num, e2, e3, e4, hB⟩
        case measure => simp [intOf]; omega
      · have Hbit := Lib.hid hbit
        clear hbit
        gi_upto_region 6 with (fail)
        refine wpIn_wide.2 ?_
        refine wp_region_steps 8 [eqS (.agg (setC a)), eqS (.int .i64 ((b : Int))), eqS (.int .u8 ((b : Int))), eqS (.bool true), eqS (.agg (setC a)), eqS (.int .i64 ((b : Int))), eqS (.bool true), eqS (.bool false)] [27, 28, 29, 30, 31, 32, 33, 34] follows_mixed (by kernel_rfl) rfl ?_ ?_
        · refine Steps.cons (fun a' w' hG hB dep => gs_load_set (want_none rfl) _ rfl _ (hG.other 2 rfl) _ (blk_then e2 hB) rfl) ?_
          refine Steps.cons (fun a' w' hG hB dep => gs_move (want_none rfl) _ rfl (hG.other 5 rfl)) ?_
          refine Steps.cons (fun a' w' hG hB dep => gs_byte (want_none rfl) _ rfl _ (by omega) (by omega) (dep 1 rfl 28 rfl) rfl) ?_
          refine Steps.cons (fun a' w' hG hB dep => gs_has (want_none rfl) _ _ _ rfl _ b hlt (dep 0 rfl 27 rfl) (dep 2 rfl 29 rfl) (fun _ => congrArg Value.bool Hbit.out)) ?_
          refine Steps.cons (fun a' w' hG hB dep => gs_load_set (want_none rfl) _ rfl _ (hG.other 2 rfl) _ (blk_then e2 hB) rfl) ?_
          refine Steps.cons (fun a' w' hG hB dep => gs_move (want_none rfl) _ rfl (hG.other 5 rfl)) ?_
          refine Steps.cons (fun a' w' hG hB dep => gs_rhas (want_none rfl) _ _ _ rfl _ b hlt (dep 4 rfl 31 rfl) (dep 5 rfl 32 rfl) (fun _ => congrArg Value.bool Hbit.out)) ?_
          refine Steps.cons (fun a' w' hG hB dep => gs_neq_bool (want_none rfl) _ _ _ rfl _ _ (dep 3 rfl 30 rfl) (dep 6 rfl 33 rfl) rfl) ?_
          exact Steps.nil
        intro u w3 hB3 ans
        have ux : u 34 = .bool false := ans 7 34 (by decide) rfl
        clear ans
        refine wpList_nil ?_
        simp only [putAll, List.foldl_cons, List.foldl_nil, Act.put, List.setIfInBounds_toArray, List.set_cons_zero, List.set_cons_succ, ux]
        clear ux

        replace e2 := blk_then e2 hB3
        replace e3 := blk_then e3 hB3
        replace e4 := blk_then e4 hB3
        replace hB := below_then hB hB3
        gi_wp2
        go_roundw
        case rel => exact ⟨b + 1, by omega, by go_num, e2, e3, e4, hB⟩
        case measure => simp [intOf]; omega
    · have hb256 : b = 256 := by omega
      subst hb256
      have hl4 := e4.lt
      gi_upto_region 8 with (fail)
      refine wpIn_wide.2 ?_
      go_wp2_with (first | (refine wl_load_set rfl _ rfl _ rfl _ e2 ?_) | (go_at_call 29; refine (rspans_any a _).mono ?_; rintro e w5 ⟨A, c, rfl, hown, hB5⟩; replace e2 := blk_then e2 hB5; replace e3 := blk_then e3 hB5; replace e4 := blk_then e4 hB5; replace hB := below_then hB hB5))
      obtain ⟨n, hn⟩ : ∃ n, n = (rowsOf a).length := ⟨_, rfl⟩
      rw [← hn] at hown ⊢
      have Hn := Lib.hid hn
      clear hn hB5
      have hbase : w.heap.size + 1 + 1 < wr.heap.size + 1 := by omega
      have e6 := Blk.new w5 51 #[.slice A n c]
      replace e2 := e2.alloc (.cells #[.slice A n c] 51)
      replace e3 := e3.alloc (.cells #[.slice A n c] 51)
      replace e4 := e4.alloc (.cells #[.slice A n c] 51)
      replace hown := hown.alloc (.cells #[.slice A n c] 51)
      replace hB := below_alloc hB (.cells #[.slice A n c] 51)
      obtain ⟨W1, hW1⟩ : ∃ x, x = w5.alloc (.cells #[.slice A n c] 51) := ⟨_, rfl⟩
      rw [← hW1] at e2 e3 e4 e6 hown hB ⊢
      clear hW1
      obtain ⟨base, hbs⟩ : ∃ x, x = wr.heap.size + 1 := ⟨_, rfl⟩
      rw [← hbs] at hown hbase
      obtain ⟨g6, hg6⟩ : ∃ x, x = w5.heap.size := ⟨_, rfl⟩
      rw [← hg6] at e6 ⊢
      clear hg6 hbs
      gi_upto_region 9 with (fail)
      refine wpIn_wide.2 ?_
      go_wp2_with (first | (refine wl_load_set rfl _ rfl _ rfl _ e2 ?_) | (go_at_call 30; refine (spans_any a _).mono ?_; rintro e w7 ⟨rfl, rfl⟩) | (refine park_store 54 _ _ rfl ?_))
      have hs1 : W1.heap.size + 1 = (W1.alloc (.cells (setC a) 31)).heap.size := by simp
      have e70 := Blk.new' (n := W1.heap.size + 1) (W1.alloc (.cells (setC a) 31)) 54 #[.nilFunc] hs1
      refine Parked.mk ?_
      refine wl_store_cell rfl _ _ _ rfl _ _ rfl _ _ #[.func (.func 44) #[] #[.pointer (some ⟨W1.heap.size, 0, none⟩)]] e70 (by simp) info_seq1 (by rfl) (by rfl) (by rfl) ?_
      intro W2 e7 hg7
      refine wpList_nil ?_
      have hx := (Blk.new W1 31 (setC a)).alloc (.cells #[.nilFunc] 54)
      have hg61 := e6.lt
      have hWb := hB.size
      have hl3 := e4.lt
      replace e2 := blk_other ((e2.alloc (.cells (setC a) 31)).alloc (.cells #[.nilFunc] 54)) hg7 (by omega)
      replace e3 := blk_other ((e3.alloc (.cells (setC a) 31)).alloc (.cells #[.nilFunc] 54)) hg7 (by omega)
      replace e4 := blk_other ((e4.alloc (.cells (setC a) 31)).alloc (.cells #[.nilFunc] 54)) hg7 (by omega)
      replace e6 := blk_other ((e6.alloc (.cells (setC a) 31)).alloc (.cells #[.nilFunc] 54)) hg7 (by omega)
      replace hx := blk_other hx hg7 (by omega)
      replace hown := own_box ((hown.alloc (.cells (setC a) 31)).alloc (.cells #[.nilFunc] 54)) e70 hg7 (by decide)
      replace hB := below_alloc (below_alloc hB (.cells (setC a) 31)) (.cells #[.nilFunc] 54)
      replace hB := hB.grown hg7 hB.size (fun k e => by injection e with e; omega)
      obtain ⟨gx, hgx⟩ : ∃ x, x = W1.heap.size := ⟨_, rfl⟩
      rw [← hgx] at e7 hx hg61 hWb ⊢
      have hb4 : w.heap.size + 1 + 1 < gx := by omega
      clear hg7 e70 hs1 hgx hl3
      gi_upto_region 10 with (fail)
      refine wpIn_wide.2 ?_
      have c3 : W2.cell? ⟨w.heap.size + 1, 0, none⟩ = some (.int .i64 leave) := e3.cellv rfl
      have c6 : W2.cell? ⟨g6, 0, none⟩ = some (.slice A n c) := e6.cellv rfl
      have c7 : W2.cell? ⟨gx + 1, 0, none⟩ = some (.func (.func 44) #[] #[.pointer (some ⟨gx, 0, none⟩)]) := e7.cellv rfl
      go_wp2_with (first | (refine wl_load_set_g (want_yes rfl rfl rfl) _ rfl _ rfl _ e2 ?_) | (go_at_call 31; refine (goes_any a A n c _ _ Hn.out (hown.slice_all rowC_size)).mono ?_; rintro e w8 ⟨rfl, hB8⟩; replace e2 := blk_then e2 hB8; replace e3 := blk_then e3 hB8; replace e4 := blk_then e4 hB8; replace e6 := blk_then e6 hB8; replace e7 := blk_then e7 hB8; replace hx := blk_then hx hB8; replace hown := hown.then_ hB8; replace hB := below_then hB hB8; clear hB8; have c3 : w8.cell? ⟨w.heap.size + 1, 0, none⟩ = some (.int .i64 leave) := e3.cellv rfl; have c6 : w8.cell? ⟨g6, 0, none⟩ = some (.slice A n c) := e6.cellv rfl))
      clear c3 c6 c7 e2
      gi_upto_region 12 with (fail)
      refine wpIn_wide.2 ?_
      go_wp2
      have e8 := Blk.new w8 3 #[.int .i64 0]
      have hg8 := e7.lt
      replace e3 := e3.alloc (.cells #[.int .i64 0] 3)
      replace e4 := e4.alloc (.cells #[.int .i64 0] 3)
      replace e6 := e6.alloc (.cells #[.int .i64 0] 3)
      replace e7 := e7.alloc (.cells #[.int .i64 0] 3)
      replace hx := hx.alloc (.cells #[.int .i64 0] 3)
      replace hown := hown.alloc (.cells #[.int .i64 0] 3)
      replace hB := below_alloc hB (.cells #[.int .i64 0] 3)
      obtain ⟨W0, hW0⟩ : ∃ x, x = w8.alloc (.cells #[.int .i64 0] 3) := ⟨_, rfl⟩
      rw [← hW0] at e3 e4 e6 e7 e8 hx hown hB ⊢
      have hW0s : W0.heap.size = w8.heap.size + 1 := by rw [hW0]; simp
      obtain ⟨g8, hg8e⟩ : ∃ x, x = w8.heap.size := ⟨_, rfl⟩
      rw [← hg8e] at e8 hg8 hW0s ⊢
      clear hW0 hg8e
      have c7 : W0.cell? ⟨gx + 1, 0, none⟩ = some (.func (.func 44) #[] #[.pointer (some ⟨gx, 0, none⟩)]) := e7.cellv rfl
      gi_wp2
      clear c7
      refine wpIn_rangeFunc_ownH (n := 8) rfl (by decide) (gf := 44) (lb := #[.pointer (some ⟨gx, 0, none⟩)]) rfl trivial (enters_of Try.func44 (by kernel_rfl) rfl)
        (spans_stops a 7 gx W0 hx) (fun h k => k.trans h) (fun W l o o' hl _ _ _ => World.putObj_heap_other (by have := hx.lt; omega)) (Below.refl _ _) (fun _ => rfl)
        (fun pre W => tlI a leave A n c w base g6 g8 gx pre.length W ∧ rowsL pre <+: rowsOf a) (fun c pre W => c = .ret ∧ ¬ rowsL pre <+: rowsOf a)
        (fun s X Y row hs hg hr => ⟨tlI_turn hs.1 hg hr (by omega), hs.2⟩) (fun _ => fun _ _ _ _ hs _ _ => hs)
        ⟨⟨e3, e4, e6, e7, e8, hown, hx, hB⟩, ⟨_, rfl⟩⟩
        (fun x a' W => a' = { tmps := #[.agg (setC a), .int .i64 leave, .pointer (some ⟨w.heap.size, 0, none⟩), .pointer (some ⟨w.heap.size + 1, 0, none⟩), .pointer (some ⟨w.heap.size + 1 + 1, 0, none⟩), .int .i64 256, .pointer (some ⟨g6, 0, none⟩), .pointer (some ⟨gx + 1, 0, none⟩), .pointer (some ⟨g8, 0, none⟩), .int .u8 (x.1.1 : Int), .int .u8 (x.1.2 : Int), undef, undef, undef, u 14, u 15, u 16, u 17, u 18, u 19, u 20, u 21, .bool false, .int .i64 256, .bool false, u25, u26, u27, u28, u29, u30, u31, u32, u33, u34, .agg (setC a), .slice A n c, .agg (setC a), .func (.func 44) #[] #[.pointer (some ⟨gx, 0, none⟩)], .func (.func 44) #[] #[.pointer (some ⟨gx, 0, none⟩)], .bool false, .bool false, .agg (setC a), .slice A n c, .slice A n c, .int .i64 (n : Int), .int .i64 (wrap64 ((n : Int) + 1)), .bool true, .bool false, .bool false, .bool false, .agg (setC a), .slice A n c, .int .i64 leave, .bool true, .bool false, .bool false, .bool false, .agg (setC a), .slice A n c, .slice A n c, .int .i64 (n : Int), .int .i64 (wrap64 ((n : Int) + 1)), .bool true, .bool false, .bool false, .func (.func 44) #[] #[.pointer (some ⟨gx, 0, none⟩)], .int .u8 (x.1.1 : Int), .int .u8 (x.1.2 : Int), undef, undef, undef, undef, undef, undef, undef, undef, undef, undef, undef, undef, undef, undef, undef, undef, undef, undef, undef, undef, undef, undef, undef, undef, undef, undef, undef, undef, undef, undef, undef, undef, undef, undef, undef, undef, undef, undef, undef, undef, undef, undef, undef, undef, undef, undef, undef, undef, undef, undef, undef, undef, undef, undef, undef, undef, undef, undef, undef, undef, undef, undef, undef, undef, undef, undef, undef, undef, undef, undef, undef, undef, undef], defers := [] }) (fun _ _ _ _ _ _ hs _ _ => hs) ?assign ?body ?done ?stop
      case assign =>
        intro l pre x W K hI hK
        unfold encR
        gi_wp2
        exact hK _ _ (KeepsFrom.refl _ _) rfl hI rfl
      case body =>
        rintro l pre ⟨⟨p, q⟩, hpq1, hpq2⟩ a' W hl ⟨r, hr⟩ ⟨hT, hpre⟩ rfl hlen
        simp only at hpq1 hpq2
        obtain ⟨i, hi⟩ : ∃ i, i = pre.length := ⟨_, rfl⟩
        rw [← hi] at hT hlen
        have Hi := Lib.hid hi
        clear hi
        have e4 := hT.2.1
        have c8 : W.cell? ⟨g8, 0, none⟩ = some (.int .i64 (i : Int)) := hT.2.2.2.2.1.cellv rfl
        have c6 : W.cell? ⟨g6, 0, none⟩ = some (.slice A n c) := hT.2.2.1.cellv rfl
        by_cases hin : i < n
        · have hil : i < (rowsOf a).length := by rw [← Hn.out]; exact hin
          have hinI : (i : Int) < n := by omega
          have hown := hT.2.2.2.2.2.1
          obtain ⟨b, off, rfl, hb, hrow⟩ := (hown.slice_all rowC_size).at_ (by omega)
          have hr1 := hrow i hil
          obtain ⟨⟨s, t⟩, hst⟩ : ∃ r, r = (rowsOf a)[i] := ⟨_, rfl⟩
          rw [← hst] at hr1
          have Hst := Lib.hid hst
          clear hst
          have r1 : W.cell? ⟨b, off + i * 2, none⟩ = some (.int .i64 (s : Int)) := hr1 0 _ rfl
          have r2 : W.cell? ⟨b, off + i * 2 + 1, none⟩ = some (.int .i64 (t : Int)) := hr1 1 _ rfl
          clear hr1 hrow hown
          by_cases hps : p = s
          · subst hps
            by_cases hqt : q = t
            · subst hqt
              have Hpre : Hid (rowsL (pre ++ [(⟨(p, q), ⟨hpq1, hpq2⟩⟩ : Row)]) <+: rowsOf a) := Lib.hid (by
                have hl : (rowsL pre).length < (rowsOf a).length := by rw [rowsL_length, ← Hi.out]; exact hil
                have h := prefix_snoc hpre hl
                have e : (rowsOf a)[(rowsL pre).length] = (p, q) := by
                  rw [Hst.out]
                  congr 1
                  rw [rowsL_length, Hi.out]
                rw [e] at h
                rw [rowsL_snoc]
                exact h)
              by_cases hi3 : i < 3
              · have hi3I : (i : Int) < 3 := by omega
                gi_upto_region 20 with (fail)
                have ek := Blk.new W 3 #[.int .i64 0]
                have hBk := below_alloc (Below.refl W.heap.size W) (.cells #[.int .i64 0] 3)
                have hT1 := tlI_then hT hBk
                have hr1 := (hBk.block l (Array.getElem?_eq_some_iff.1 hr).1).trans hr
                have hk1 := KeepsOthers.of_grownBy (only_of_below hBk none) (fun j o e _ => by cases e)
                have hg8k := hT.2.2.2.2.1.lt
                obtain ⟨V, hV⟩ : ∃ x, x = W.alloc (.cells #[.int .i64 0] 3) := ⟨_, rfl⟩
                have hVs : V.heap.size = W.heap.size + 1 := by rw [hV]; simp
                rw [← hV] at ek hT1 hr1 hk1 ⊢
                obtain ⟨gk, hgk⟩ : ∃ x, x = W.heap.size := ⟨_, rfl⟩
                rw [← hgk] at ek hVs hg8k ⊢
                have hVW : W.heap.size ≤ V.heap.size := by omega
                clear hV hBk c8 c6 r1 r2 hgk
                have c7 : V.cell? ⟨gx + 1, 0, none⟩ = some (.func (.func 44) #[] #[.pointer (some ⟨gx, 0, none⟩)]) := hT1.2.2.2.1.cellv rfl
                gi_wp2
                clear c7
                have hDf : decide (n ≤ i) = false := decide_eq_false (by omega)
                rw [hDf]
                clear hDf
                have hxV := hT1.2.2.2.2.2.2.1
                have hBV := hT1.2.2.2.2.2.2.2
                refine wpIn_rangeFunc_ownN (F := Fence.wide.inRound l) (n := 8 - 1 - 1) (l₀ := l) (r₀ := r) rfl hr1 (by decide) (gf := 44) (lb := #[.pointer (some ⟨gx, 0, none⟩)]) rfl trivial (enters_of Try.func44 (by kernel_rfl) rfl)
                  ((spans_stops a 5 gx V hxV).inRound l) (fun h k => k.trans h) (fun W l o o' hl _ _ _ => World.putObj_heap_other (by have := hxV.lt; omega)) (Below.refl _ _) (fun _ => rfl)
                  (fun pre' W' => tlI a leave (some ⟨b, off, none⟩) n c w base g6 g8 gx i W' ∧ Blk W' gk 3 #[.int .i64 (pre'.length : Int)] ∧ rowsL pre' <+: rowsOf a ∧ KeepsFrom W0.heap.size W W')
                  (fun cc pre' W' => (cc = .ret ∧ ¬ rowsL pre' <+: rowsOf a) ∨ (cc = .exit 4 ∧ leave < pre'.length ∧ tlI a leave (some ⟨b, off, none⟩) n c w base g6 g8 gx i W' ∧ Blk W' gk 3 #[.int .i64 (pre'.length : Int)] ∧ KeepsFrom W0.heap.size W W'))
                  (fun s X Y row hs hg hr => ⟨tlI_turn hs.1 hg hr (by have := hBV.size; omega), blk_turn hs.2.1 hg hr, hs.2.2.1, ownFrom_keepsFrom (β := Unit) (by omega) () X Y row hs.2.2.2 hg hr⟩)
                  (fun cc s X Y row hs hg hr => hs.imp id fun hs => ⟨hs.1, hs.2.1, tlI_turn hs.2.2.1 hg hr (by have := hBV.size; omega), blk_turn hs.2.2.2.1 hg hr, ownFrom_keepsFrom (β := Unit) (by omega) () X Y row hs.2.2.2.2 hg hr⟩)
                  ⟨hT1, ek, ⟨_, rfl⟩, hk1.from _⟩
                  (fun x a' W => a' = { tmps := #[.agg (setC a), .int .i64 leave, .pointer (some ⟨w.heap.size, 0, none⟩), .pointer (some ⟨w.heap.size + 1, 0, none⟩), .pointer (some ⟨w.heap.size + 1 + 1, 0, none⟩), .int .i64 256, .pointer (some ⟨g6, 0, none⟩), .pointer (some ⟨gx + 1, 0, none⟩), .pointer (some ⟨g8, 0, none⟩), .int .u8 (p : Int), .int .u8 (q : Int), .pointer (some ⟨gk, 0, none⟩), .int .u8 (x.1.1 : Int), .int .u8 (x.1.2 : Int), u 14, u 15, u 16, u 17, u 18, u 19, u 20, u 21, .bool false, .int .i64 256, .bool false, u25, u26, u27, u28, u29, u30, u31, u32, u33, u34, .agg (setC a), .slice (some ⟨b, off, none⟩) n c, .agg (setC a), .func (.func 44) #[] #[.pointer (some ⟨gx, 0, none⟩)], .func (.func 44) #[] #[.pointer (some ⟨gx, 0, none⟩)], .bool false, .bool false, .agg (setC a), .slice (some ⟨b, off, none⟩) n c, .slice (some ⟨b, off, none⟩) n c, .int .i64 (n : Int), .int .i64 (wrap64 ((n : Int) + 1)), .bool true, .bool false, .bool false, .bool false, .agg (setC a), .slice (some ⟨b, off, none⟩) n c, .int .i64 leave, .bool true, .bool false, .bool false, .bool false, .agg (setC a), .slice (some ⟨b, off, none⟩) n c, .slice (some ⟨b, off, none⟩) n c, .int .i64 (n : Int), .int .i64 (wrap64 ((n : Int) + 1)), .bool true, .bool false, .bool false, .func (.func 44) #[] #[.pointer (some ⟨gx, 0, none⟩)], .int .u8 (p : Int), .int .u8 (q : Int), .int .i64 (i : Int), .slice (some ⟨b, off, none⟩) n c, .int .i64 (n : Int), .bool false, .bool false, .int .u8 (p : Int), .int .i64 (p : Int), .slice (some ⟨b, off, none⟩) n c, .int .i64 (i : Int), .pointer (some ⟨b, off + i * 2, none⟩), .pointer (some ⟨b, off + i * 2, none⟩), .int .i64 (p : Int), .bool false, .bool false, .bool false, .int .u8 (q : Int), .int .i64 (q : Int), .slice (some ⟨b, off, none⟩) n c, .int .i64 (i : Int), .pointer (some ⟨b, off + i * 2, none⟩), .pointer (some ⟨b, off + i * 2 + 1, none⟩), .int .i64 (q : Int), .bool false, .bool false, .int .i64 (i : Int), .bool true, .func (.func 44) #[] #[.pointer (some ⟨gx, 0, none⟩)], .int .u8 (x.1.1 : Int), .int .u8 (x.1.2 : Int), undef, undef, undef, undef, undef, undef, undef, undef, undef, undef, undef, undef, undef, undef, undef, undef, undef, undef, undef, undef, undef, undef, undef, undef, undef, undef, undef, undef, undef, undef, undef, undef, undef, undef, undef, undef, undef, undef, undef, undef, undef, undef, undef, undef], defers := [] }) (fun _ _ _ _ _ _ hs _ _ => hs) ?assign2 ?body2 ?done2 ?stop2
                case assign2 =>
                  intro l2 pre' x W' K hI hK
                  unfold encR
                  gi_wp2
                  exact hK _ _ (KeepsFrom.refl _ _) rfl hI rfl
                case body2 =>
                  rintro l2 pre' ⟨⟨x, y⟩, hxy1, hxy2⟩ a' W' hl2 hrr ⟨hT2, ek2, hpre2, hKF⟩ rfl hlen2
                  simp only at hxy1 hxy2
                  obtain ⟨k, hk⟩ : ∃ k, k = pre'.length := ⟨_, rfl⟩
                  rw [← hk] at ek2 hlen2
                  have Hk := Lib.hid hk
                  clear hk
                  have e4 := hT2.2.1
                  have ck : W'.cell? ⟨gk, 0, none⟩ = some (.int .i64 (k : Int)) := ek2.cellv rfl
                  have c6 : W'.cell? ⟨g6, 0, none⟩ = some (.slice (some ⟨b, off, none⟩) n c) := hT2.2.2.1.cellv rfl
                  by_cases hkn : k < n
                  · have hkl : k < (rowsOf a).length := by rw [← Hn.out]; exact hkn
                    have hknI : (k : Int) < n := by omega
                    obtain ⟨b', off', hbe, hb', hrow⟩ := (hT2.2.2.2.2.2.1.slice_all rowC_size).at_ (by omega)
                    have hr2 := hrow k hkl
                    injection hbe with hbe
                    injection hbe with hb1 hb2 _
                    subst hb1 hb2
                    obtain ⟨⟨s, t⟩, hst⟩ : ∃ r, r = (rowsOf a)[k] := ⟨_, rfl⟩
                    rw [← hst] at hr2
                    have Hst2 := Lib.hid hst
                    clear hst
                    have r1 : W'.cell? ⟨b, off + k * 2, none⟩ = some (.int .i64 (s : Int)) := hr2 0 _ rfl
                    have r2 : W'.cell? ⟨b, off + k * 2 + 1, none⟩ = some (.int .i64 (t : Int)) := hr2 1 _ rfl
                    clear hr2 hrow
                    by_cases hps : x = s
                    · subst hps
                      by_cases hqt : y = t
                      · subst hqt
                        have Hpre2 : Hid (rowsL (pre' ++ [(⟨(x, y), ⟨hxy1, hxy2⟩⟩ : Row)]) <+: rowsOf a) := Lib.hid (by
                          have hl : (rowsL pre').length < (rowsOf a).length := by rw [rowsL_length, ← Hk.out]; exact hkl
                          have h := prefix_snoc hpre2 hl
                          have e : (rowsOf a)[(rowsL pre').length] = (x, y) := by
                            rw [Hst2.out]
                            congr 1
                            rw [rowsL_length, Hk.out]
                          rw [e] at h
                          rw [rowsL_snoc]
                          exact h)
                        gi_upto_region 25 with (fail)
                        refine region_in (by kernel_rfl) ?_
                        go_wp2_with (refine wl_store_cell rfl _ _ _ rfl _ _ rfl _ _ #[.int .i64 ((k : Int) + 1)] ek2 (by simp) info_int rfl rfl rfl ?_; intro W9 ek9 hg9)
                        refine onlyN_normal ?_
                        have hT9 := tlI_box hT2 ek2 hg9 hb4 hg61 hg8 hg8k
                        have hk9 := (KeepsOthers.of_grownBy hg9 (fun j o e1 e2 => by injection e1 with e1; subst e1; exact cells_of_blk ek2 e2))
                        have ck9 : W9.cell? ⟨gk, 0, none⟩ = some (.int .i64 ((k : Int) + 1)) := ek9.cellv rfl
                        have c39 : W9.cell? ⟨w.heap.size + 1, 0, none⟩ = some (.int .i64 leave) := hT9.1.cellv rfl
                        have hx9 := blk_same hT2.2.2.2.2.2.2.1 hT9.2.2.2.2.2.2.1
                        have ek10 : Blk W9 gk 3 #[.int .i64 (((pre' ++ [(⟨(x, y), ⟨hxy1, hxy2⟩⟩ : Row)]).length : Nat) : Int)] := by
                          rw [show (((pre' ++ [(⟨(x, y), ⟨hxy1, hxy2⟩⟩ : Row)]).length : Nat) : Int) = (k : Int) + 1 by rw [List.length_append, ← Hk.out]; simp]
                          exact ek9
                        have hlen9 : (((pre' ++ [(⟨(x, y), ⟨hxy1, hxy2⟩⟩ : Row)]).length : Nat) : Int) = (k : Int) + 1 := by rw [List.length_append, ← Hk.out]; simp
                        have Hlen9 := Lib.hid hlen9
                        clear hlen9 ck c6 r1 r2 hg9 ek9
                        by_cases hlv : leave < (k : Int) + 1
                        · gi_wp2
                          exact ⟨hk9.from _, .inr ⟨rfl, by rw [Hlen9.out]; exact hlv, hT9, ek10, hKF.trans (hk9.from _)⟩⟩
                        · have hlvI : (k : Int) + 1 ≤ leave := by omega
                          gi_wp2
                          refine ⟨hk9.from _, hx9, hT9, ek10, Hpre2.out, ?_⟩
                          rw [← hW0s]
                          exact hKF.trans (hk9.from _)
                      · have hne : ((y : Int) != (t : Int)) = true := by rw [bne_iff_ne]; omega
                        gi_upto_region 24 with (fail)
                        refine region_in (by kernel_rfl) ?_
                        refine wl_store_cell rfl _ _ _ rfl _ _ rfl _ _ #[.bool false] e4 (by simp) info_bool1 rfl rfl rfl ?_
                        intro w7 h7 hg7
                        refine wpList_nil ?_
                        refine onlyN_normal ?_
                        gi_wp2
                        refine ⟨(KeepsOthers.of_grownBy hg7 (fun j o e1 e2 => by injection e1 with e1; subst e1; exact cells_of_blk e4 e2)).from _, .inl ⟨rfl, fun h => ?_⟩⟩
                        rw [rowsL_snoc] at h
                        obtain ⟨h1, h2⟩ := prefix_not h
                        simp only [rowsL_length, ← Hk.out] at h2
                        rw [← Hst2.out] at h2
                        injection h2 with _ h2
                        exact hqt h2.symm
                    · have hne : ((x : Int) != (s : Int)) = true := by rw [bne_iff_ne]; omega
                      gi_upto_region 24 with (fail)
                      refine region_in (by kernel_rfl) ?_
                      refine wl_store_cell rfl _ _ _ rfl _ _ rfl _ _ #[.bool false] e4 (by simp) info_bool1 rfl rfl rfl ?_
                      intro w7 h7 hg7
                      refine wpList_nil ?_
                      refine onlyN_normal ?_
                      gi_wp2
                      refine ⟨(KeepsOthers.of_grownBy hg7 (fun j o e1 e2 => by injection e1 with e1; subst e1; exact cells_of_blk e4 e2)).from _, .inl ⟨rfl, fun h => ?_⟩⟩
                      rw [rowsL_snoc] at h
                      obtain ⟨h1, h2⟩ := prefix_not h
                      simp only [rowsL_length, ← Hk.out] at h2
                      rw [← Hst2.out] at h2
                      injection h2 with h2 _
                      exact hps h2.symm
                  · have hknI : (n : Int) ≤ k := by omega
                    gi_upto_region 24 with (fail)
                    refine region_in (by kernel_rfl) ?_
                    refine wl_store_cell rfl _ _ _ rfl _ _ rfl _ _ #[.bool false] e4 (by simp) info_bool1 rfl rfl rfl ?_
                    intro w7 h7 hg7
                    refine wpList_nil ?_
                    refine onlyN_normal ?_
                    gi_wp2
                    refine ⟨(KeepsOthers.of_grownBy hg7 (fun j o e1 e2 => by injection e1 with e1; subst e1; exact cells_of_blk e4 e2)).from _, .inl ⟨rfl, fun h => ?_⟩⟩
                    rw [rowsL_snoc] at h
                    obtain ⟨h1, h2⟩ := prefix_not h
                    rw [rowsL_length, ← Hk.out, ← Hn.out] at h1
                    exact hkn h1
                case done2 =>
                  rintro ys W' hrows ⟨hT2, ek2, _, hKF⟩
                  have hys : ys.length = n := by rw [Hn.out, ← hrows, rowsL_length]
                  rw [hys] at ek2
                  clear hys hrows
                  have ck : W'.cell? ⟨gk, 0, none⟩ = some (.int .i64 (n : Int)) := ek2.cellv rfl
                  have c3 : W'.cell? ⟨w.heap.size + 1, 0, none⟩ = some (.int .i64 leave) := hT2.1.cellv rfl
                  have c6 : W'.cell? ⟨g6, 0, none⟩ = some (.slice (some ⟨b, off, none⟩) n c) := hT2.2.2.1.cellv rfl
                  have c8 : W'.cell? ⟨g8, 0, none⟩ = some (.int .i64 (i : Int)) := hT2.2.2.2.2.1.cellv rfl
                  gi_upto_region 29 with (fail)
                  refine region_in (by kernel_rfl) ?_
                  go_wp2_with (refine wl_store_cell rfl _ _ _ rfl _ _ rfl _ _ #[.int .i64 ((i : Int) + 1)] hT2.2.2.2.2.1 (by simp) info_int rfl rfl rfl ?_; intro W9 e89 hg9)
                  refine onlyN_normal ?_
                  have hT9 := tlI_next (j := i + 1) hT2 (by rw [show ((i + 1 : Nat) : Int) = (i : Int) + 1 by omega]; exact e89) hg9 hb4 hg61 hg8
                  refine ⟨hKF.trans ((KeepsOthers.of_grownBy hg9 (fun j o e1 e2 => by injection e1 with e1; subst e1; exact cells_of_blk hT2.2.2.2.2.1 e2)).from _), blk_same hT.2.2.2.2.2.2.1 hT9.2.2.2.2.2.2.1, ?_, Hpre.out⟩
                  rw [show (pre ++ [(⟨(p, q), ⟨hpq1, hpq2⟩⟩ : Row)]).length = i + 1 by rw [List.length_append, ← Hi.out]; simp]
                  exact hT9
                case stop2 =>
                  rintro cc pre' W' hp (⟨rfl, h⟩ | ⟨rfl, hlv, hT2, ek2, hKF⟩)
                  · exact (h hp).elim
                  · obtain ⟨k, hk⟩ : ∃ k, k = pre'.length := ⟨_, rfl⟩
                    rw [← hk] at hlv ek2
                    clear hk hp
                    have ck : W'.cell? ⟨gk, 0, none⟩ = some (.int .i64 (k : Int)) := ek2.cellv rfl
                    have c3 : W'.cell? ⟨w.heap.size + 1, 0, none⟩ = some (.int .i64 leave) := hT2.1.cellv rfl
                    have c6 : W'.cell? ⟨g6, 0, none⟩ = some (.slice (some ⟨b, off, none⟩) n c) := hT2.2.2.1.cellv rfl
                    have c8 : W'.cell? ⟨g8, 0, none⟩ = some (.int .i64 (i : Int)) := hT2.2.2.2.2.1.cellv rfl
                    by_cases hkn : k = n
                    · subst hkn
                      gi_upto_region 29 with (fail)
                      refine region_in (by kernel_rfl) ?_
                      go_wp2_with (refine wl_store_cell rfl _ _ _ rfl _ _ rfl _ _ #[.int .i64 ((i : Int) + 1)] hT2.2.2.2.2.1 (by simp) info_int rfl rfl rfl ?_; intro W9 e89 hg9)
                      refine onlyN_normal ?_
                      have hT9 := tlI_next (j := i + 1) hT2 (by rw [show ((i + 1 : Nat) : Int) = (i : Int) + 1 by omega]; exact e89) hg9 hb4 hg61 hg8
                      refine ⟨hKF.trans ((KeepsOthers.of_grownBy hg9 (fun j o e1 e2 => by injection e1 with e1; subst e1; exact cells_of_blk hT2.2.2.2.2.1 e2)).from _), blk_same hT.2.2.2.2.2.2.1 hT9.2.2.2.2.2.2.1, ?_, Hpre.out⟩
                      rw [show (pre ++ [(⟨(p, q), ⟨hpq1, hpq2⟩⟩ : Row)]).length = i + 1 by rw [List.length_append, ← Hi.out]; simp]
                      exact hT9
                    · have hknI : ((k : Int) != (n : Int)) = true := by rw [bne_iff_ne]; omega
                      gi_upto_region 29 with (fail)
                      refine region_in (by kernel_rfl) ?_
                      go_wp2_with (refine wl_store_cell rfl _ _ _ rfl _ _ rfl _ _ #[.int .i64 ((i : Int) + 1)] hT2.2.2.2.2.1 (by simp) info_int rfl rfl rfl ?_; intro W9 e89 hg9)
                      refine onlyN_normal ?_
                      have hT9 := tlI_next (j := i + 1) hT2 (by rw [show ((i + 1 : Nat) : Int) = (i : Int) + 1 by omega]; exact e89) hg9 hb4 hg61 hg8
                      refine ⟨hKF.trans ((KeepsOthers.of_grownBy hg9 (fun j o e1 e2 => by injection e1 with e1; subst e1; exact cells_of_blk hT2.2.2.2.2.1 e2)).from _), blk_same hT.2.2.2.2.2.2.1 hT9.2.2.2.2.2.2.1, ?_, Hpre.out⟩
                      rw [show (pre ++ [(⟨(p, q), ⟨hpq1, hpq2⟩⟩ : Row)]).length = i + 1 by rw [List.length_append, ← Hi.out]; simp]
                      exact hT9
              · have hi3I : (3 : Int) ≤ i := by omega
                have hT2 := hT
                have hKF := KeepsFrom.refl W0.heap.size W
                gi_upto_region 29 with (fail)
                refine region_in (by kernel_rfl) ?_
                go_wp2_with (refine wl_store_cell rfl _ _ _ rfl _ _ rfl _ _ #[.int .i64 ((i : Int) + 1)] hT2.2.2.2.2.1 (by simp) info_int rfl rfl rfl ?_; intro W9 e89 hg9)
                refine onlyN_normal ?_
                have hT9 := tlI_next (j := i + 1) hT2 (by rw [show ((i + 1 : Nat) : Int) = (i : Int) + 1 by omega]; exact e89) hg9 hb4 hg61 hg8
                refine ⟨hKF.trans ((KeepsOthers.of_grownBy hg9 (fun j o e1 e2 => by injection e1 with e1; subst e1; exact cells_of_blk hT2.2.2.2.2.1 e2)).from _), blk_same hT.2.2.2.2.2.2.1 hT9.2.2.2.2.2.2.1, ?_, Hpre.out⟩
                rw [show (pre ++ [(⟨(p, q), ⟨hpq1, hpq2⟩⟩ : Row)]).length = i + 1 by rw [List.length_append, ← Hi.out]; simp]
                exact hT9
            · have hne : ((q : Int) != (t : Int)) = true := by rw [bne_iff_ne]; omega
              gi_upto_region 17 with (fail)
              refine region_in (by kernel_rfl) ?_
              refine wl_store_cell rfl _ _ _ rfl _ _ rfl _ _ #[.bool false] e4 (by simp) info_bool1 rfl rfl rfl ?_
              intro w7 h7 hg7
              refine wpList_nil ?_
              refine onlyN_normal ?_
              gi_wp2
              refine ⟨(KeepsOthers.of_grownBy hg7 (fun j o e1 e2 => by injection e1 with e1; subst e1; exact cells_of_blk e4 e2)).from _, rfl, fun h => ?_⟩
              rw [rowsL_snoc] at h
              obtain ⟨h1, h2⟩ := prefix_not h
              simp only [rowsL_length, ← Hi.out] at h2
              rw [← Hst.out] at h2
              injection h2 with _ h2
              exact hqt h2.symm
          · have hne : ((p : Int) != (s : Int)) = true := by rw [bne_iff_ne]; omega
            gi_upto_region 17 with (fail)
            refine region_in (by kernel_rfl) ?_
            refine wl_store_cell rfl _ _ _ rfl _ _ rfl _ _ #[.bool false] e4 (by simp) info_bool1 rfl rfl rfl ?_
            intro w7 h7 hg7
            refine wpList_nil ?_
            refine onlyN_normal ?_
            gi_wp2
            refine ⟨(KeepsOthers.of_grownBy hg7 (fun j o e1 e2 => by injection e1 with e1; subst e1; exact cells_of_blk e4 e2)).from _, rfl, fun h => ?_⟩
            rw [rowsL_snoc] at h
            obtain ⟨h1, h2⟩ := prefix_not h
            simp only [rowsL_length, ← Hi.out] at h2
            rw [← Hst.out] at h2
            injection h2 with h2 _
            exact hps h2.symm
        · have hinI : (n : Int) ≤ i := by omega
          gi_upto_region 17 with (fail)
          refine region_in (by kernel_rfl) ?_
          refine wl_store_cell rfl _ _ _ rfl _ _ rfl _ _ #[.bool false] e4 (by simp) info_bool1 rfl rfl rfl ?_
          intro w7 h7 hg7
          refine wpList_nil ?_
          refine onlyN_normal ?_
          gi_wp2
          refine ⟨(KeepsOthers.of_grownBy hg7 (fun j o e1 e2 => by injection e1 with e1; subst e1; exact cells_of_blk e4 e2)).from _, rfl, fun h => ?_⟩
          rw [rowsL_snoc] at h
          obtain ⟨h1, h2⟩ := prefix_not h
          rw [rowsL_length, ← Hi.out, ← Hn.out] at h1
          exact hin h1
      case done =>
        rintro D xs W hD hrows ⟨hT, hpre⟩ hK
        have hxs : xs.length = n := by rw [Hn.out, ← hrows, rowsL_length]
        rw [hxs] at hT
        have e4 := hT.2.1
        have hB := hT.2.2.2.2.2.2.2
        have c8 : W.cell? ⟨g8, 0, none⟩ = some (.int .i64 (n : Int)) := hT.2.2.2.2.1.cellv rfl
        have c6 : W.cell? ⟨g6, 0, none⟩ = some (.slice A n c) := hT.2.2.1.cellv rfl
        clear hxs hrows hpre
        gi_upto_region 30 with (fail)
        refine wpIn_wide.2 ?_
        go_wp2_with (refine wl_store_cell rfl _ _ _ rfl _ _ rfl _ _ #[.bool true] e4 (by simp) info_bool1 rfl rfl rfl ?_; intro W4 h4 hg4)
        have hDl := (Array.getElem?_eq_some_iff.1 hK).1
        have hDne : D ≠ w.heap.size + 1 + 1 := fun e => by subst e; have := cells_of_blk e4 hK; cases this
        have hK4 := (hg4.block D hDl (fun e => hDne (by injection e))).trans hK
        replace hB := hB.grown hg4 hB.size (fun k e => by injection e with e; omega)
        clear hK hg4
        gi_wp2
        refine ⟨by simp, .inl ⟨_, _, rfl, run_takeDeferred hK4, ?_⟩⟩
        have hc5 := (blk_other h4 (grownBy_putObj' W4 D (.deferred none)) (fun e => hDne e.symm)).cellv (i := 0) rfl
        refine ⟨.bool true, ?_, rfl, hB.trans (belowK_b (w := w) (Nat.le_refl _) W4 D _ _ (by omega) hK4 rfl rfl)⟩
        simp [results, Try.f6, go_sem, hc5]
      case stop =>
        rintro D cc pre W hD hp ⟨rfl, h⟩ hK
        exact (h hp).elim

end Go.Proofs.Ytjpiebapemalfaa
