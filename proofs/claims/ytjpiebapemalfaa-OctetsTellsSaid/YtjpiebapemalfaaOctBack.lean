/- The walk of OctetsBack. -/
import Derived.Test.YtjpiebapemalfaaIter
import Derived.Test.YtjpiebapemalfaaBack
import Derived.Test.YtjpiebapemalfaaGs9
import Derived.Test.YtjpiebapemalfaaStore
import Derived.Test.YtjpiebapemalfaaOctLaws
import Derived.RangeFuncFrom
namespace Go.Proofs.Ytjpiebapemalfaa
open Go.RowKit Go.Shelf
set_option linter.unusedVariables false
set_option linter.unusedSimpArgs false
attribute [local go_sem] Oper.semAt_some

theorem spans_stops (x : BSet) (n gx : Nat) (w : World) (hx : Blk w gx 31 (setC x)) : SeqStopsK Fence.wide n Try.prog 44 #[.pointer (some ⟨gx, 0, none⟩)] encR (fun A B => B.heap[gx]? = A.heap[gx]?) (fun xs => rowsL xs = rowsOf x) (fun pre => rowsL pre <+: rowsOf x) 257 w :=
  fun l J Jx W hW hJ hJx hY h0 => iter_any x n l gx J Jx W (blk_then hx hW) hJ hY h0
def lastL (l : List (Nat × Nat)) : Int := match l.getLast? with | some p => (p.2 : Int) | none => -2
theorem lastL_bounds {a : BSet} {l : List (Nat × Nat)} (h : goodL a l) : -2 ≤ lastL l ∧ lastL l < 256 := by
  unfold lastL
  cases hl : l.getLast? with
  | none => simp
  | some p =>
    have := h.2 p (List.mem_of_getLast? hl)
    simp only
    omega
theorem sizeL_le {a : BSet} : ∀ {l : List (Nat × Nat)}, goodL a l → sizeL l ≤ 256 * l.length
  | [], _ => by simp [sizeL]
  | p :: l, h => by
    have h1 := sizeL_le (l := l) ⟨(List.pairwise_cons.1 h.1).2, fun q hq => h.2 q (by simp [hq])⟩
    have h2 := h.2 p (by simp)
    have h3 : sizeL (p :: l) = (p.2 + 1 - p.1) + sizeL l := by simp [sizeL]
    rw [h3, List.length_cons]
    omega
theorem rowsL_length (pre : List Row) : (rowsL pre).length = pre.length := by simp [rowsL]
theorem byL_length : ∀ l : List (Nat × Nat), (byL l).length = sizeL l
  | [] => by simp [byL, sizeL]
  | p :: l => by
    have h := byL_length l
    simp only [byL, sizeL, List.flatMap_cons, List.length_append, List.length_map, List.length_range', List.map_cons, List.sum_cons] at h ⊢
    omega
theorem enc8_ofNat {b : Nat} (hb : b < 256) : enc8 (UInt8.ofNat b) = #[.int .u8 (b : Int)] := by
  simp [enc8]
  omega
theorem rowsL_snoc (pre : List Row) (x : Row) : rowsL (pre ++ [x]) = rowsL pre ++ [x.1] := by simp [rowsL]
theorem lastL_snoc (l : List (Nat × Nat)) (p : Nat × Nat) : lastL (l ++ [p]) = (p.2 : Int) := by simp [lastL]
theorem good_le {a : BSet} {l : List (Nat × Nat)} (h : goodL a l) : ∀ r ∈ l, (r.2 : Int) ≤ lastL l := by
  intro r hr
  unfold lastL
  cases hl : l.getLast? with
  | none => rw [List.getLast?_eq_none_iff.1 hl] at hr; cases hr
  | some p =>
    obtain ⟨l', rfl⟩ := List.getLast?_eq_some_iff.1 hl
    simp only
    rw [List.mem_append, List.mem_singleton] at hr
    rcases hr with hr | rfl
    · have h1 := (List.pairwise_append.1 h.1).2.2 r hr p (by simp)
      have h2 := h.2 p (by simp)
      omega
    · exact Int.le_refl _
theorem good_snoc {a : BSet} {l : List (Nat × Nat)} {p q : Nat} (h : goodL a l) (hs : lastL l + 1 < (p : Int)) (h1 : p ≤ q) (h2 : q < 256) (hb : ∀ j, p ≤ j → j < q + 1 → a.getLsbD j = true) : goodL a (l ++ [(p, q)]) := by
  refine ⟨List.pairwise_append.2 ⟨h.1, by simp, fun r hr x hx => ?_⟩, fun x hx => ?_⟩
  · rw [List.mem_singleton] at hx
    subst hx
    have := good_le h r hr
    simp only
    omega
  · rw [List.mem_append, List.mem_singleton] at hx
    rcases hx with hx | rfl
    · exact h.2 x hx
    · exact ⟨h1, h2, fun i hi1 hi2 => hb i hi1 (Nat.lt_succ_of_le hi2)⟩
theorem good_last {a : BSet} {l : List (Nat × Nat)} {p : Nat × Nat} (h : goodL a (l ++ [p])) : lastL l + 1 < (p.1 : Int) := by
  unfold lastL
  cases hl : l.getLast? with
  | none => simp only; omega
  | some r =>
    have := (List.pairwise_append.1 h.1).2.2 r (List.mem_of_getLast? hl) p (by simp)
    simp only
    omega
/-- what the loop's own boxes hold when the rows pre have come -/
def backI (a : BSet) (w : World) (b3 gx : Nat) (pre : List Row) (W : World) : Prop := ∃ vr vb : Value,
  Blk W w.heap.size 31 (setC a) ∧ Blk W (w.heap.size + 1) 4 #[.bool false] ∧ Blk W b3 27 #[vr] ∧ Own W (gx + 1) 31 4 setC vr ((rowsL pre).map fun p => spanB p.1 p.2) ∧
  Blk W (b3 + 1) 58 #[vb] ∧ Own W (gx + 1) 5 1 enc8 vb (byL (rowsL pre)) ∧ Blk W (b3 + 1 + 1) 3 #[.int .i64 (lastL (rowsL pre))] ∧ Blk W (b3 + 1 + 1 + 1) 3 #[.int .i64 (sizeL (rowsL pre) : Nat)] ∧
  goodL a (rowsL pre) ∧ Below w.heap.size w W ∧ gx < W.heap.size
theorem blk_turn {W W' : World} {g B : Nat} {t : TypeId} {cs : Array Value} {row : Option Nat} (h : Blk W g t cs) (hg : W.grownBy W' row) (hr : ∀ r, row = some r → B ≤ r ∧ ∃ o : Obj, W.heap[r]? = some o ∧ o.isCells = false) : Blk W' g t cs :=
  h.grown hg (fun e => by
    obtain ⟨_, o, h1, h2⟩ := hr g e.symm
    unfold Blk at h
    rw [h] at h1
    injection h1 with h1
    subst h1
    cases h2)
theorem own_turn {α : Type} {enc : α → Array Value} {size base B : Nat} {e : TypeId} {W W' : World} {v : Value} {ys : List α} {row : Option Nat} (h : Own W base e size enc v ys) (hg : W.grownBy W' row) (hr : ∀ r, row = some r → B ≤ r ∧ ∃ o : Obj, W.heap[r]? = some o ∧ o.isCells = false) : Own W' base e size enc v ys :=
  h.kept_ hg (fun j e1 e2 => by
    obtain ⟨_, o, h1, h2⟩ := hr j e2
    rcases h.2 with ⟨hv, _⟩ | ⟨g', cap, cur, hv, _, hh, _⟩
    · rw [hv] at e1; cases e1
    · rw [hv] at e1
      have : g' = j := by simpa [Value.ownBlock] using e1
      subst this
      rw [hh] at h1
      injection h1 with h1
      subst h1
      cases h2)
theorem backI_from (a : BSet) (w : World) (b3 gx : Nat) (W5 : World) (hw : w.heap.size ≤ W5.heap.size) : OwnFrom W5.heap.size (backI a w b3 gx) := by
  rintro pre W W' row ⟨vr, vb, h1, h2, h3, h4, h5, h6, h7, h8, h9, h10, h11⟩ hg hr
  exact ⟨vr, vb, blk_turn h1 hg hr, blk_turn h2 hg hr, blk_turn h3 hg hr, own_turn h4 hg hr, blk_turn h5 hg hr, own_turn h6 hg hr, blk_turn h7 hg hr, blk_turn h8 hg hr, h9, h10.grown hg h10.size (fun k e => by have := (hr k e).1; omega), Nat.lt_of_lt_of_le h11 hg.size⟩
theorem own_low {α : Type} {enc : α → Array Value} {size base r : Nat} {e : TypeId} {W W' : World} {v : Value} {ys : List α} (h : Own W base e size enc v ys) (hg : W.grownBy W' (some r)) (hr : r < base) : Own W' base e size enc v ys :=
  h.kept_ hg (fun j e1 e2 => by
    injection e2 with e2
    rcases h.2 with ⟨hv, _⟩ | ⟨g', cap, cur, hv, hge, hh, _⟩
    · rw [hv] at e1; cases e1
    · rw [hv] at e1
      have : g' = j := by simpa [Value.ownBlock] using e1
      omega)
theorem blk_other {W W' : World} {g r : Nat} {t : TypeId} {cs : Array Value} (h : Blk W g t cs) (hg : W.grownBy W' (some r)) (hr : g ≠ r) : Blk W' g t cs :=
  h.grown hg (fun e => by injection e with e; exact hr e)
theorem info_sets1 : (Try.prog.info? 27).map (·.size) = some 1 := by kernel_rfl
theorem info_bytes1 : (Try.prog.info? 58).map (·.size) = some 1 := by kernel_rfl
theorem info_bool1 : (Try.prog.info? 4).map (·.size) = some 1 := by kernel_rfl
theorem blk_own {α : Type} {enc : α → Array Value} {size base g : Nat} {e t : TypeId} {cs : Array Value} {W W' : World} {v : Value} {ys : List α} (h : Blk W g t cs) (ho : Own W base e size enc v ys) (hg : W.grownBy W' v.ownBlock) (hr : g < base) : Blk W' g t cs :=
  h.grown hg (fun e => by have := (ho.lt _ e.symm).1; omega)
theorem own_own {α β : Type} {enc : α → Array Value} {enc2 : β → Array Value} {size size2 base base2 : Nat} {e e2 : TypeId} {W W' : World} {v v2 : Value} {ys : List α} {zs : List β} (h : Own W base2 e2 size2 enc2 v2 zs) (ho : Own W base e size enc v ys) (hg : W.grownBy W' v.ownBlock) (hne : e ≠ e2) : Own W' base2 e2 size2 enc2 v2 zs :=
  h.kept_ hg (fun j e1 e3 => by
    rcases h.2 with ⟨hv, _⟩ | ⟨g', cap, cur, hv, hge, hh, _⟩
    · rw [hv] at e1; cases e1
    · rcases ho.2 with ⟨hv2, _⟩ | ⟨g2, cap2, cur2, hv2, hge2, hh2, _⟩
      · rw [hv2] at e3; cases e3
      · rw [hv] at e1; rw [hv2] at e3
        have a1 : g' = j := by simpa [Value.ownBlock] using e1
        have a2 : g2 = j := by simpa [Value.ownBlock] using e3
        subst a1; subst a2
        rw [hh] at hh2
        injection hh2 with hh2
        injection hh2 with _ hh2
        exact hne hh2.symm)
theorem others_own {α : Type} {enc : α → Array Value} {size base : Nat} {e : TypeId} {W W' : World} {v : Value} {ys : List α} (h : Own W base e size enc v ys) (hg : W.grownBy W' v.ownBlock) : KeepsOthers W W' :=
  KeepsOthers.of_grownBy hg (fun j o e1 e2 => by
    rcases h.2 with ⟨hv, _⟩ | ⟨g', cap, cur, hv, hge, hh, _⟩
    · rw [hv] at e1; cases e1
    · rw [hv] at e1
      have a1 : g' = j := by simpa [Value.ownBlock] using e1
      subst a1
      rw [hh] at e2
      injection e2 with e2
      subst e2
      rfl)
theorem cells_of_blk {W : World} {g : Nat} {t : TypeId} {cs : Array Value} {o : Obj} (h : Blk W g t cs) (e : W.heap[g]? = some o) : o.isCells = true := by
  unfold Blk at h
  rw [h] at e
  injection e with e
  subst e
  rfl
section
variable {ops : Array Oper} {S : Nat → GSpec} {Q : Exit → Act → World → Prop} {i : Nat} {o : Oper} {a : Act} {w : World}
theorem gs_set1 (hw : Region.wanted o (yielded ops a.tmps) = true) (x : Operand) (ho : o.op = .buildSlice 27 1 #[(0, x)]) (y : BSet) (hx : a.eval x = .agg (setC y))
    (hp : ∀ v w', (setsS [y]).p v w' → (S i).p v w') : GStep Try.prog ops S Q i o a w :=
  gs_run hw (v := .slice (some ⟨w.heap.size, 0, none⟩) 1 1) (w' := w.alloc (.cells (setC y) 31))
    (by
      have e : (#[(0, x)] : Array (Nat × Operand)).map (fun (i, x) => (i, a.eval x)) = #[(0, .agg (setC y))] := by simp [hx]
      unfold execOp; simp only [ho, e, Sem.run_bind, build_sets1, Result.andThen_ok, Sem.run_pure])
    (below_alloc (Below.refl _ _) _) (hp _ _ ⟨_, _, _, rfl, rfl, slice_one (Blk.new w 31 (setC y))⟩)
end
theorem park {p : Prop} (h : Hid p) : p := h.out
set_option maxRecDepth 100000 in
set_option maxHeartbeats 4000000 in
theorem octetsBack_any (a : BSet) (w : World) : Calls Try.prog 7 #[.agg (setC a)] w fun e w' => e = .returned (.bool true) ∧ Below w.heap.size w w' := by
  refine (callsIn_wide (n := 6)).1 ?_
  refine callsIn_of_wp_marks Try.func7 rfl trivial ?_ rfl
  simp only [Try.ntmps7, List.size_toArray, List.length_cons, List.length_nil, Nat.reduceAdd, Nat.reduceSub, Array.replicate_succ, Array.replicate_zero, List.push_toArray, List.append_toArray, List.nil_append, List.cons_append]
  have ha := (Blk.new w 31 (setC a)).alloc (.cells #[.bool false] 4)
  have h2 := Blk.new' (w.alloc (.cells (setC a) 31)) 4 #[.bool false] (World.size_alloc _ _).symm
  have hB := below_alloc (below_alloc (Below.refl w.heap.size w) (.cells (setC a) 31)) (.cells #[.bool false] 4)
  gi_upto_region 3 with (refine ⟨trivial, ?_⟩; gi_at_call 25; refine (callsIn_wide.2 (known3_any _)).mono ?_; rintro e w1 ⟨rfl, hB1⟩)
  replace ha := blk_then ha hB1
  replace h2 := blk_then h2 hB1
  replace hB := below_then hB hB1
  clear hB1
  gi_upto_region 7 with (fail)
  have e3 := (((Blk.new w1 27 #[.slice none 0 0]).alloc (.cells #[.slice none 0 0] 58)).alloc (.cells #[.int .i64 (-2)] 3)).alloc (.cells #[.int .i64 0] 3)
  have e4 := ((Blk.new' (n := w1.heap.size + 1) (w1.alloc (.cells #[.slice none 0 0] 27)) 58 #[.slice none 0 0] (by simp)).alloc (.cells #[.int .i64 (-2)] 3)).alloc (.cells #[.int .i64 0] 3)
  have e5 := (Blk.new' (n := w1.heap.size + 1 + 1) ((w1.alloc (.cells #[.slice none 0 0] 27)).alloc (.cells #[.slice none 0 0] 58)) 3 #[.int .i64 (-2)] (by simp)).alloc (.cells #[.int .i64 0] 3)
  have e6 := Blk.new' (n := w1.heap.size + 1 + 1 + 1) (((w1.alloc (.cells #[.slice none 0 0] 27)).alloc (.cells #[.slice none 0 0] 58)).alloc (.cells #[.int .i64 (-2)] 3)) 3 #[.int .i64 0] (by simp)
  have hb3w : w.heap.size + 1 < w1.heap.size := h2.lt
  replace ha := (((ha.alloc (.cells #[.slice none 0 0] 27)).alloc (.cells #[.slice none 0 0] 58)).alloc (.cells #[.int .i64 (-2)] 3)).alloc (.cells #[.int .i64 0] 3)
  replace h2 := (((h2.alloc (.cells #[.slice none 0 0] 27)).alloc (.cells #[.slice none 0 0] 58)).alloc (.cells #[.int .i64 (-2)] 3)).alloc (.cells #[.int .i64 0] 3)
  replace hB := below_alloc (below_alloc (below_alloc (below_alloc hB (.cells #[.slice none 0 0] 27)) (.cells #[.slice none 0 0] 58)) (.cells #[.int .i64 (-2)] 3)) (.cells #[.int .i64 0] 3)
  obtain ⟨W4, hW4⟩ : ∃ x, x = (((w1.alloc (.cells #[.slice none 0 0] 27)).alloc (.cells #[.slice none 0 0] 58)).alloc (.cells #[.int .i64 (-2)] 3)).alloc (.cells #[.int .i64 0] 3) := ⟨_, rfl⟩
  rw [← hW4] at e3 e4 e5 e6 ha h2 hB ⊢
  obtain ⟨b3, hb3⟩ : ∃ b, b = w1.heap.size := ⟨_, rfl⟩
  rw [← hb3] at e3 e4 e5 e6 hb3w ⊢
  clear hW4 hb3
  refine wpIn_wide.2 ?_
  go_wp2_with (first | (refine wl_load_set rfl _ rfl _ rfl _ ha ?_) | (go_at_call 30; refine (spans_any a _).mono ?_; rintro e w5 ⟨rfl, rfl⟩))
  have hx := Blk.new W4 31 (setC a)
  replace ha := ha.alloc (.cells (setC a) 31)
  replace h2 := h2.alloc (.cells (setC a) 31)
  replace e3 := e3.alloc (.cells (setC a) 31)
  replace e4 := e4.alloc (.cells (setC a) 31)
  replace e5 := e5.alloc (.cells (setC a) 31)
  have hb6 := e6.lt
  replace e6 := e6.alloc (.cells (setC a) 31)
  replace hB := below_alloc hB (.cells (setC a) 31)
  obtain ⟨W5, hW5⟩ : ∃ x, x = W4.alloc (.cells (setC a) 31) := ⟨_, rfl⟩
  rw [← hW5] at e3 e4 e5 e6 ha h2 hB hx ⊢
  obtain ⟨gx, hgx⟩ : ∃ b, b = W4.heap.size := ⟨_, rfl⟩
  rw [← hgx] at hx hb6 ⊢
  clear hW5 hgx
  have hbw : w.heap.size ≤ gx + 1 := by omega
  refine wpIn_block ?_
  refine wpIn_rangeFunc_ownF (n := 6) rfl (by decide) (gf := 44) (lb := #[.pointer (some ⟨gx, 0, none⟩)]) rfl trivial (enters_of Try.func44 (by kernel_rfl) rfl)
    (spans_stops a 5 gx W5 hx) (fun h k => k.trans h) (fun W l o o' hl _ _ _ => World.putObj_heap_other (by have := hx.lt; omega)) (Below.refl _ _) (fun _ => rfl)
    (backI a w b3 gx) (fun c pre W => c = .ret ∧ ¬ goodL a (rowsL pre)) (backI_from a w b3 gx W5 hB.size) (fun _ => fun _ _ _ _ hs _ _ => hs)
    ⟨_, _, ha, h2, e3, Own.nil_ _ _ _ _ _, e4, Own.nil_ _ _ _ _ _, e5, e6, ⟨List.Pairwise.nil, by simp [rowsL]⟩, hB, hx.lt⟩
    (fun x => { tmps := #[.agg (setC a), .pointer (some ⟨w.heap.size, 0, none⟩), .pointer (some ⟨w.heap.size + 1, 0, none⟩), .pointer (some ⟨b3, 0, none⟩), .pointer (some ⟨b3 + 1, 0, none⟩), .pointer (some ⟨b3 + 1 + 1, 0, none⟩), .pointer (some ⟨b3 + 1 + 1 + 1, 0, none⟩), .int .u8 (x.1.1 : Int), .int .u8 (x.1.2 : Int), undef, .bool true, .bool false, .agg (setC a), .func (.func 44) #[] #[.pointer (some ⟨gx, 0, none⟩)], .int .u8 (x.1.1 : Int), .int .u8 (x.1.2 : Int), undef, undef, undef, undef, undef, undef, undef, undef, undef, undef, undef, undef, undef, undef, undef, undef, undef, undef, undef, undef, undef, undef, undef, undef, undef, undef, undef, undef, undef, undef, undef, undef, undef, undef, undef, undef, undef, undef, undef, undef, undef, undef, undef, undef, undef, undef, undef, undef, undef, undef, undef, undef, undef, undef, undef, undef, undef, undef, undef, undef], defers := [] }) ?assign ?body ?done ?stop
  case assign =>
    intro l x W K hK
    unfold encR
    gi_wp2
    exact hK
  case body =>
    rintro l pre ⟨⟨p, q⟩, hpq1, hpq2⟩ W ⟨vr, vb, ha, h2, e3, hr, e4, hby, e5, e6, hgood, hB, hgx⟩ hlen
    simp only at hpq1 hpq2
    have hz := lastL_bounds hgood
    have hs := sizeL_le hgood
    rw [rowsL_length] at hs
    obtain ⟨z, hzz⟩ : ∃ z, z = lastL (rowsL pre) := ⟨_, rfl⟩
    obtain ⟨sz, hszz⟩ : ∃ z, z = sizeL (rowsL pre) := ⟨_, rfl⟩
    rw [← hzz] at e5 hz
    rw [← hszz] at e6 hs
    have hs2 : sz ≤ 65792 := by omega
    have Hz := Lib.hid hzz
    have Hsz := Lib.hid hszz
    have c5 : W.cell? ⟨b3 + 1 + 1, 0, none⟩ = some (.int .i64 z) := e5.cellv rfl
    clear hzz hszz hs
    by_cases hsep : z + 1 < (p : Int)
    · gi_upto_region 12 with (fail)
      refine region_in (by kernel_rfl) ?_
      go_wp2_with (refine wl_store_cell rfl _ _ _ rfl _ _ rfl _ _ #[.int .i64 (q : Int)] e5 (by simp) info_int rfl rfl rfl ?_; intro W1 e5' hg1)
      refine onlyN_normal ?_
      replace ha := blk_other ha hg1 (by omega)
      replace h2 := blk_other h2 hg1 (by omega)
      replace e3 := blk_other e3 hg1 (by omega)
      replace hr := own_low hr hg1 (by omega)
      replace e4 := blk_other e4 hg1 (by omega)
      replace hby := own_low hby hg1 (by omega)
      replace e6 := blk_other e6 hg1 (by omega)
      have hx1 : W1.heap[gx]? = W.heap[gx]? := hg1.block gx hgx (by simp; omega)
      replace hB := hB.grown hg1 hB.size (fun k e => by injection e with e; omega)
      have hgx1 : gx < W1.heap.size := Nat.lt_of_lt_of_le hgx hg1.size
      have c6 : W1.cell? ⟨b3 + 1 + 1 + 1, 0, none⟩ = some (.int .i64 (sz : Int)) := e6.cellv rfl
      clear c5
      gi_upto_region 13 with (fail)
      refine region_in (by kernel_rfl) ?_
      go_wp2_with (refine wl_store_cell rfl _ _ _ rfl _ _ rfl _ _ #[.int .i64 ((sz : Int) + q - p + 1)] e6 (by simp) info_int rfl rfl rfl ?_; intro W2 e6' hg2)
      replace ha := blk_other ha hg2 (by omega)
      replace h2 := blk_other h2 hg2 (by omega)
      replace e3 := blk_other e3 hg2 (by omega)
      replace hr := own_low hr hg2 (by omega)
      replace e4 := blk_other e4 hg2 (by omega)
      replace hby := own_low hby hg2 (by omega)
      replace e5' := blk_other e5' hg2 (by omega)
      have hx2 := (hg2.block gx hgx1 (by simp; omega)).trans hx1
      replace hB := hB.grown hg2 hB.size (fun k e => by injection e with e; omega)
      have hgx2 : gx < W2.heap.size := Nat.lt_of_lt_of_le hgx1 hg2.size
      have e6_ := e6
      clear c6 e6 hx1
      have hk2 := (KeepsOthers.of_grownBy hg1 (fun j o e1 e2 => by injection e1 with e1; subst e1; exact cells_of_blk e5 e2)).trans (KeepsOthers.of_grownBy hg2 (fun j o e1 e2 => by injection e1 with e1; subst e1; exact cells_of_blk e6_ e2))
      clear e5 e6_ hg1 hg2
      obtain ⟨i0, hi0, hz0, hz1, hz2⟩ := info_parts info_set3
      obtain ⟨R, hR⟩ : ∃ z, z = (rowsL pre).map fun p => spanB p.1 p.2 := ⟨_, rfl⟩
      have hRl : R.length ≤ 257 := by rw [hR, List.length_map, rowsL_length]; omega
      rw [← hR] at hr
      have HR := Lib.hid hR
      clear hR
      have hp256 : p < 256 := by omega
      have c3 : W2.cell? ⟨b3, 0, none⟩ = some vr := e3.cellv rfl
      refine onlyN_normal ?_
      gi_upto_region 14 with (fail)
      refine regionIn_steps 5 [eqS vr, eqS (.int .u8 (p : Int)), eqS (.int .u8 (q : Int)), eqS (.agg (setC (spanB p q))), setsS [spanB p q]] [36, 37, 38, 39, 40] rfl (by kernel_rfl) (by kernel_rfl) rfl ?_ ?_
      · refine Steps.cons (fun a' w' hG hB dep => gs_load1 (want_none rfl) _ _ rfl b3 0 (hG.other 3 rfl) vr ((blk_then e3 hB).cellv rfl) _ Try.underlying27 rfl rfl) ?_
        refine Steps.cons (fun a' w' hG hB dep => gs_move (want_none rfl) _ rfl (hG.other 7 rfl)) ?_
        refine Steps.cons (fun a' w' hG hB dep => gs_move (want_none rfl) _ rfl (hG.other 8 rfl)) ?_
        refine Steps.cons (fun a' w' hG hB dep => gs_span (want_none rfl) _ _ _ rfl p q (dep 1 rfl 37 rfl) (dep 2 rfl 38 rfl) hp256 hpq2 (fun _ => rfl)) ?_
        refine Steps.cons (fun a' w' hG hB dep => gs_set1 (want_none rfl) _ rfl _ (dep 3 rfl 39 rfl) (fun _ _ h => h)) ?_
        exact Steps.nil
      intro u W3 hB3 ans
      have u0 : u 36 = vr := ans 0 36 (by decide) rfl
      obtain ⟨A4, n4, k4, u4, hn4, hs4⟩ := ans 4 40 (by decide) rfl
      clear ans
      simp only [putAll, List.foldl_cons, List.foldl_nil, Act.put, List.setIfInBounds_toArray, List.set_cons_zero, List.set_cons_succ, u0, u4]
      clear u0 u4
      replace ha := blk_then ha hB3
      replace h2 := blk_then h2 hB3
      replace e3 := blk_then e3 hB3
      replace hr := hr.then_ hB3
      replace e4 := blk_then e4 hB3
      replace hby := hby.then_ hB3
      replace e5' := blk_then e5' hB3
      replace e6' := blk_then e6' hB3
      have hx3 : W3.heap[gx]? = W.heap[gx]? := (hB3.block gx hgx2).trans hx2
      replace hB := below_then hB hB3
      have hgx3 : gx < W3.heap.size := Nat.lt_of_lt_of_le hgx2 hB3.size
      have hk3 := hk2.trans (KeepsOthers.of_grownBy (only_of_below hB3 none) (fun j o e _ => by cases e))
      clear hx2 hk2 c3 hB3 hgx2
      simp only [List.drop]
      refine wl_append _ rfl _ _ 27 rfl (gx + 1) 31 i0 _ 4 32 Try.underlying27 hi0 hz0 hz1 hz2 rfl (by decide) setC_size setC_one vr R rfl hr _ A4 n4 k4 [spanB p q] rfl hn4 hs4 (by rw [hn4]; simp; unfold maxLen; omega) (by rw [hn4]; simp; omega) (by omega) ?_
      intro v4 W4' hr' hg4 hat4
      obtain ⟨A5, k5, rfl, _, _⟩ := hr'.shape
      simp only [Act.put, List.setIfInBounds_toArray, List.set_cons_zero, List.set_cons_succ]
      refine wl_store_cell rfl _ _ _ rfl _ _ rfl _ _ #[.slice A5 (R ++ [spanB p q]).length k5] (blk_own e3 hr hg4 (by omega)) (by simp) info_sets1 rfl rfl rfl ?_
      intro W5' e3' hg5
      refine wpList_nil ?_
      have hr4 := hr
      replace ha := blk_other (blk_own ha hr4 hg4 (by omega)) hg5 (by omega)
      replace h2 := blk_other (blk_own h2 hr4 hg4 (by omega)) hg5 (by omega)
      replace hr := own_low hr' hg5 (by omega)
      replace e4 := blk_other (blk_own e4 hr4 hg4 (by omega)) hg5 (by omega)
      replace hby := own_low (own_own hby hr4 hg4 (by decide)) hg5 (by omega)
      replace e5' := blk_other (blk_own e5' hr4 hg4 (by omega)) hg5 (by omega)
      replace e6' := blk_other (blk_own e6' hr4 hg4 (by omega)) hg5 (by omega)
      have hk5 := hk3.trans ((others_own hr4 hg4).trans (KeepsOthers.of_grownBy hg5 (fun j o e1 e2 => by injection e1 with e1; subst e1; exact cells_of_blk (blk_own e3 hr4 hg4 (by omega)) e2)))
      have hgx4 : gx < W4'.heap.size := Nat.lt_of_lt_of_le hgx3 hg4.size
      have hx5 : W5'.heap[gx]? = W.heap[gx]? := (hg5.block gx hgx4 (by simp; omega)).trans ((hg4.block gx hgx3 (fun e => by have := (hr4.lt _ e.symm).1; omega)).trans hx3)
      have hB4 := hB.grown hg4 hB.size (fun k e => by have := (hr4.lt _ e).1; omega)
      replace hB := hB4.grown hg5 hB4.size (fun k e => by injection e with e; omega)
      have hgx5 : gx < W5'.heap.size := Nat.lt_of_lt_of_le hgx4 hg5.size
      clear hr4 hr' hg4 hg5 hk3 hx3 hB4 hgx3 hgx4 e3 hs4 hn4 hat4
      refine onlyN_normal ?_
      gi_upto_region 15 with (fail)
      refine region_in (by kernel_rfl) ?_
      go_wp2
      refine onlyN_normal ?_
      have hby0 : Own W5' (gx + 1) 5 1 enc8 vb (byL (rowsL pre) ++ (List.range' p (p - p)).map UInt8.ofNat) := by simpa using hby
      go_wp2
      refine wpIn_block ?_
      gi_loopw [9] (fun i wr => ∃ (b : Nat) (vb : Value), p ≤ b ∧ b ≤ q + 1 ∧ i = .int .i64 b ∧ Hid (∀ j, p ≤ j → j < b → a.getLsbD j = true) ∧ Blk wr w.heap.size 31 (setC a) ∧ Blk wr (w.heap.size + 1) 4 #[.bool false] ∧
        Blk wr b3 27 #[.slice A5 (R ++ [spanB p q]).length k5] ∧ Own wr (gx + 1) 31 4 setC (.slice A5 (R ++ [spanB p q]).length k5) (R ++ [spanB p q]) ∧ Blk wr (b3 + 1) 58 #[vb] ∧ Own wr (gx + 1) 5 1 enc8 vb (byL (rowsL pre) ++ (List.range' p (b - p)).map UInt8.ofNat) ∧
        Blk wr (b3 + 1 + 1) 3 #[.int .i64 (q : Int)] ∧ Blk wr (b3 + 1 + 1 + 1) 3 #[.int .i64 ((sz : Int) + q - p + 1)] ∧ KeepsOthers W wr ∧ wr.heap[gx]? = W.heap[gx]? ∧ Below w.heap.size w wr ∧ gx < wr.heap.size) (fun i _ => q + 1 - (intOf i).toNat)
      case atStart => exact ⟨p, vb, Nat.le_refl _, by omega, rfl, Lib.hid (fun j h1 h2 => by omega), ha, h2, e3', hr, e4, hby0, e5', e6', hk5, hx5, hB, hgx5⟩
      case round =>
        obtain ⟨b, vb, hb1, hb2, rfl, Hb, ha, h2, e3, hr, e4, hby, e5, e6, hk, hx, hB, hgx⟩ := hrel
        by_cases hlt : b < q + 1
        · have hltI : (b : Int) ≤ q := by omega
          have hb256 : b < 256 := by omega
          cases hbit : a.getLsbD b
          · have Hbit := Lib.hid hbit
            clear hbit
            gi_upto_region 18 with (fail)
            refine region_in (by kernel_rfl) ?_
            go_wp2_with (first | (refine wl_load_set rfl _ rfl _ rfl _ ha ?_) | (go_at_call 22; refine (has_any a b hb256 _).mono ?_; rw [Hbit.out]; rintro e w6 ⟨rfl, hB6⟩))
            refine onlyN_normal ?_
            have hk6 := hk.trans (KeepsOthers.of_grownBy (only_of_below hB6 none) (fun j o e _ => by cases e))
            replace h2 := blk_then h2 hB6
            gi_upto_region 19 with (fail)
            refine region_in (by kernel_rfl) ?_
            refine wl_store_cell rfl _ _ _ rfl _ _ rfl _ _ #[.bool false] h2 (by simp) info_bool1 rfl rfl rfl ?_
            intro w7 h7 hg7
            refine wpList_nil ?_
            refine onlyN_normal ?_
            go_wp2
            gi_wp2
            refine ⟨hk6.trans (KeepsOthers.of_grownBy hg7 (fun j o e1 e2 => by injection e1 with e1; subst e1; exact cells_of_blk h2 e2)), rfl, fun hg => ?_⟩
            have hq := (hg.2 (p, q) (by simp [rowsL])).2.2 b hb1 (by omega)
            rw [Hbit.out] at hq
            cases hq
          · have Hbit := Lib.hid hbit
            clear hbit
            gi_upto_region 18 with (fail)
            refine region_in (by kernel_rfl) ?_
            go_wp2_with (first | (refine wl_load_set rfl _ rfl _ rfl _ ha ?_) | (go_at_call 22; refine (has_any a b hb256 _).mono ?_; rw [Hbit.out]; rintro e w6 ⟨rfl, hB6⟩))
            refine onlyN_normal ?_
            have hk6 := hk.trans (KeepsOthers.of_grownBy (only_of_below hB6 none) (fun j o e _ => by cases e))
            replace ha := blk_then ha hB6
            replace h2 := blk_then h2 hB6
            replace e3 := blk_then e3 hB6
            replace hr := hr.then_ hB6
            replace e4 := blk_then e4 hB6
            replace hby := hby.then_ hB6
            replace e5 := blk_then e5 hB6
            replace e6 := blk_then e6 hB6
            have hx6 := (hB6.block gx hgx).trans hx
            replace hB := below_then hB hB6
            have hgx6 : gx < w6.heap.size := Nat.lt_of_lt_of_le hgx hB6.size
            obtain ⟨L, hL⟩ : ∃ L, L = byL (rowsL pre) ++ (List.range' p (b - p)).map UInt8.ofNat := ⟨_, rfl⟩
            rw [← hL] at hby
            have HL := Lib.hid hL
            clear hL
            obtain ⟨A7, k7, rfl, _, _⟩ := hby.shape
            have c4 := e4.cellv (i := 0) rfl
            gi_upto_region 20 with (fail)
            refine region_in (by kernel_rfl) ?_
            go_wp2_with (at_builtin; refine park ?_)
            refine Lib.hid ?_
            obtain ⟨i1, hi1, hy0, hy1, hy2⟩ := info_parts info_u83
            have hbl : L.length ≤ 66100 := by
              rw [HL.out, List.length_append, List.length_map, List.length_range', byL_length]
              have := Hsz.out
              omega
            have hone := slice_one (enc := enc8) (size := 1) (y := UInt8.ofNat b) (w := w6.alloc (.cells #[.int .u8 (b : Int)] 5)) (g := w6.heap.size) (t := 5) (by rw [enc8_ofNat hb256]; exact Blk.new _ _ _)
            have hB7 : Below w6.heap.size w6 (w6.alloc (.cells #[.int .u8 (b : Int)] 5)) := below_alloc (Below.refl _ _) _
            replace ha := blk_then ha hB7
            replace h2 := blk_then h2 hB7
            replace e3 := blk_then e3 hB7
            replace hr := hr.then_ hB7
            replace e4 := blk_then e4 hB7
            replace hby := hby.then_ hB7
            replace e5 := blk_then e5 hB7
            replace e6 := blk_then e6 hB7
            have hx7 := (hB7.block gx hgx6).trans hx6
            replace hB := below_then hB hB7
            have hgx7 : gx < (w6.alloc (.cells #[.int .u8 (b : Int)] 5)).heap.size := Nat.lt_of_lt_of_le hgx6 hB7.size
            have hk7 := hk6.trans (KeepsOthers.of_grownBy (only_of_below hB7 none) (fun j o e _ => by cases e))
            refine wl_append _ rfl _ _ 58 rfl (gx + 1) 5 i1 _ 1 1 Try.underlying58 hi1 hy0 hy1 hy2 rfl (by decide) enc8_size enc8_one (.slice A7 _ k7) _ rfl hby _ _ 1 1 [UInt8.ofNat b] rfl rfl hone (by unfold maxLen; omega) (by omega) (by omega) ?_
            intro v8 w8 hby8 hg8 hat8
            obtain ⟨A8, k8, rfl, _, _⟩ := hby8.shape
            simp only [Act.put, List.setIfInBounds_toArray, List.set_cons_zero, List.set_cons_succ]
            refine wl_store_cell rfl _ _ _ rfl _ _ rfl _ _ #[.slice A8 _ k8] (blk_own e4 hby hg8 (by omega)) (by simp) info_bytes1 rfl rfl rfl ?_
            intro w9 e49 hg9
            refine wpList_nil ?_
            refine onlyN_normal ?_
            have hby7 := hby
            replace ha := blk_other (blk_own ha hby7 hg8 (by omega)) hg9 (by omega)
            replace h2 := blk_other (blk_own h2 hby7 hg8 (by omega)) hg9 (by omega)
            replace e3 := blk_other (blk_own e3 hby7 hg8 (by omega)) hg9 (by omega)
            replace hr := own_low (own_own hr hby7 hg8 (by decide)) hg9 (by omega)
            replace hby := own_low hby8 hg9 (by omega)
            replace e5 := blk_other (blk_own e5 hby7 hg8 (by omega)) hg9 (by omega)
            replace e6 := blk_other (blk_own e6 hby7 hg8 (by omega)) hg9 (by omega)
            have hk9 := hk7.trans ((others_own hby7 hg8).trans (KeepsOthers.of_grownBy hg9 (fun j o e1 e2 => by injection e1 with e1; subst e1; exact cells_of_blk (blk_own e4 hby7 hg8 (by omega)) e2)))
            have hgx8 : gx < w8.heap.size := Nat.lt_of_lt_of_le hgx7 hg8.size
            have hx9 : w9.heap[gx]? = W.heap[gx]? := (hg9.block gx hgx8 (by simp; omega)).trans ((hg8.block gx hgx7 (fun e => by have := (hby7.lt _ e.symm).1; omega)).trans hx7)
            have hB8 := hB.grown hg8 hB.size (fun k e => by have := (hby7.lt _ e).1; omega)
            replace hB := hB8.grown hg9 hB8.size (fun k e => by injection e with e; omega)
            have hgx9 : gx < w9.heap.size := Nat.lt_of_lt_of_le hgx8 hg9.size
            have Hb2 : Hid (∀ j, p ≤ j → j < b + 1 → a.getLsbD j = true) := Lib.hid (fun j h1 h2 => by
              by_cases hj : j = b
              · rw [hj]; exact Hbit.out
              · exact Hb.out j h1 (by omega))
            have hlist : L ++ [UInt8.ofNat b] = byL (rowsL pre) ++ (List.range' p (b + 1 - p)).map UInt8.ofNat := by
              rw [HL.out, show b + 1 - p = (b - p) + 1 by omega, List.range'_concat, List.map_append, List.append_assoc, show p + 1 * (b - p) = b by omega]
              rfl
            rw [hlist] at hby e49
            clear hlist hby7 hby8 hg8 hg9 hB8 hone hbl hk6 hk7 hx6 hx7 hgx6 hgx7 hgx8 hat8 e4 c4 hk hx
            gi_upto_region 17 with (fail)
            refine region_in (by kernel_rfl) ?_
            go_wp2
            refine onlyN_normal ?_
            gi_wp2
            go_roundw
            case rel => exact ⟨b + 1, _, by omega, by omega, by go_num, Hb2, ha, h2, e3, hr, e49, hby, e5, e6, hk9, hx9, hB, hgx9⟩
            case measure => simp [intOf]; omega
        · have hbq : b = q + 1 := by omega
          subst hbq
          have hltI : ¬ ((q : Int) + 1 ≤ q) := by omega
          gi_wp2
          refine ⟨hk, hx, _, vb, ha, h2, e3, ?_, e4, ?_, ?_, ?_, ?_, hB, hgx⟩
          · rw [rowsL_snoc, List.map_append, ← HR.out]
            exact hr
          · rw [rowsL_snoc, byL_snoc]
            exact hby
          · rw [rowsL_snoc, lastL_snoc]
            exact e5
          · rw [rowsL_snoc, sizeL_snoc, ← Hsz.out, show ((sz + (q + 1 - p) : Nat) : Int) = (sz : Int) + q - p + 1 by omega]
            exact e6
          · rw [rowsL_snoc]
            exact good_snoc hgood (by rw [← Hz.out]; exact hsep) hpq1 hpq2 Hb.out
    · have hsepI : (p : Int) ≤ z + 1 := by omega
      gi_upto_region 11 with (fail)
      refine region_in (by kernel_rfl) ?_
      refine wl_store_cell rfl _ _ _ rfl _ _ rfl _ _ #[.bool false] h2 (by simp) info_bool1 rfl rfl rfl ?_
      intro w7 h7 hg7
      refine wpList_nil ?_
      refine onlyN_normal ?_
      go_wp2
      gi_wp2
      refine ⟨KeepsOthers.of_grownBy hg7 (fun j o e1 e2 => by injection e1 with e1; subst e1; exact cells_of_blk h2 e2), rfl, fun hg => ?_⟩
      rw [rowsL_snoc] at hg
      have := good_last hg
      have := Hz.out
      simp only at *
      omega
  case done =>
    rintro D xs W hD hrows ⟨vr, vb, ha, h2, e3, hr, e4, hby, e5, e6, hgood, hB, hgx⟩ hK
    obtain ⟨R, hR⟩ : ∃ z, z = (rowsL xs).map fun p => spanB p.1 p.2 := ⟨_, rfl⟩
    obtain ⟨L, hL⟩ : ∃ z, z = byL (rowsL xs) := ⟨_, rfl⟩
    obtain ⟨sz, hsz⟩ : ∃ z, z = sizeL (rowsL xs) := ⟨_, rfl⟩
    rw [← hR] at hr
    rw [← hL] at hby
    rw [← hsz] at e6
    have hc := cnt_le a
    have hRl : R.length ≤ maxLen := by
      rw [hR, List.length_map, hrows]
      have := itR_length a 257
      unfold maxLen
      unfold rowsOf
      omega
    have hLl : L.length ≤ maxLen := by
      rw [hL, byL_length, hrows, ← cnt_all]
      unfold maxLen
      omega
    have HR : Hid (joinL R = a) := Lib.hid (by rw [hR, hrows]; exact rows_join a)
    have HL : Hid (ofB L = a) := Lib.hid (by rw [hL, hrows]; exact rows_of a)
    have HS : Hid ((cnt a : Int) = (sz : Int)) := Lib.hid (by rw [cnt_all, hsz, hrows])
    clear hR hL hsz hgood hrows
    obtain ⟨Ar, kr, rfl, _, _⟩ := hr.shape
    obtain ⟨Ab, kb, rfl, _, _⟩ := hby.shape
    obtain ⟨nr, hnr⟩ : ∃ n, n = R.length := ⟨_, rfl⟩
    obtain ⟨nb, hnb⟩ : ∃ n, n = L.length := ⟨_, rfl⟩
    rw [← hnr] at hr e3 hRl
    rw [← hnb] at hby e4 hLl
    have Hnr := Lib.hid hnr
    have Hnb := Lib.hid hnb
    clear hnr hnb e5
    gi_upto_region 21 with (fail)
    refine wpIn_wide.2 ?_
    refine wp_region_steps 16 [eqS (.slice Ar nr kr), eqS (.agg (setC (joinL R))), eqS (.agg (setC a)), eqS (.bool true), eqS (.bool true), eqS (.slice Ab nb kb), eqS (.agg (setC (ofB L))), eqS (.agg (setC a)), eqS (.bool true), eqS (.bool true), eqS (.bool true), eqS (.agg (setC a)), eqS (.int .i64 ((cnt a : Int))), eqS (.int .i64 ((sz : Int))), eqS (.bool true), eqS (.bool true)] [60, 61, 62, 63, 64, 65, 66, 67, 68, 69, 70, 71, 72, 73, 74, 75] follows_mixed (by kernel_rfl) rfl ?_ ?_
    · refine Steps.cons (fun a' w' hG hB dep => gs_load1 (want_none rfl) _ _ rfl _ _ (hG.other 3 rfl) _ ((blk_then e3 hB).cellv rfl) _ Try.underlying27 rfl rfl) ?_
      refine Steps.cons (fun a' w' hG hB dep => gs_join_at (want_none rfl) _ _ rfl _ _ _ _ (dep 0 rfl 60 rfl) Hnr.out hRl (by rw [Hnr.out] at hr; exact (hr.then_ hB).slice_all setC_size) (fun _ => rfl)) ?_
      refine Steps.cons (fun a' w' hG hB dep => gs_load_set (want_none rfl) _ rfl _ (hG.other 1 rfl) _ (blk_then ha hB) rfl) ?_
      refine Steps.cons (fun a' w' hG hB dep => gs_eql_set (want_none rfl) _ _ _ rfl _ _ (dep 1 rfl 61 rfl) (dep 2 rfl 62 rfl) (eqT HR.out)) ?_
      refine Steps.cons (fun a' w' hG hB dep => gs_move (want_none rfl) _ rfl (dep 3 rfl 63 rfl)) ?_
      refine Steps.cons (fun a' w' hG hB dep => gs_load1 (want_yes rfl rfl (dep 4 rfl 64 rfl)) _ _ rfl _ _ (hG.other 4 rfl) _ ((blk_then e4 hB).cellv rfl) _ Try.underlying58 rfl rfl) ?_
      refine Steps.cons (fun a' w' hG hB dep => gs_of_at (want_yes rfl rfl (dep 4 rfl 64 rfl)) _ _ rfl _ _ _ _ (dep 5 rfl 65 rfl) Hnb.out hLl (by rw [Hnb.out] at hby; exact (hby.then_ hB).slice_all enc8_size) (fun _ => rfl)) ?_
      refine Steps.cons (fun a' w' hG hB dep => gs_load_set (want_yes rfl rfl (dep 4 rfl 64 rfl)) _ rfl _ (hG.other 1 rfl) _ (blk_then ha hB) rfl) ?_
      refine Steps.cons (fun a' w' hG hB dep => gs_eql_set (want_yes rfl rfl (dep 4 rfl 64 rfl)) _ _ _ rfl _ _ (dep 6 rfl 66 rfl) (dep 7 rfl 67 rfl) (eqT HL.out)) ?_
      refine Steps.cons (fun a' w' hG hB dep => gs_pick (want_none rfl) _ _ _ rfl true (dep 4 rfl 64 rfl) (dep 8 rfl 68 rfl)) ?_
      refine Steps.cons (fun a' w' hG hB dep => gs_move (want_none rfl) _ rfl (dep 9 rfl 69 rfl)) ?_
      refine Steps.cons (fun a' w' hG hB dep => gs_load_set (want_yes rfl rfl (dep 10 rfl 70 rfl)) _ rfl _ (hG.other 1 rfl) _ (blk_then ha hB) rfl) ?_
      refine Steps.cons (fun a' w' hG hB dep => gs_count (want_yes rfl rfl (dep 10 rfl 70 rfl)) _ _ rfl _ (dep 11 rfl 71 rfl) (fun _ => rfl)) ?_
      refine Steps.cons (fun a' w' hG hB dep => gs_load1 (want_yes rfl rfl (dep 10 rfl 70 rfl)) _ _ rfl _ _ (hG.other 6 rfl) _ ((blk_then e6 hB).cellv rfl) _ Try.underlying3 rfl rfl) ?_
      refine Steps.cons (fun a' w' hG hB dep => gs_eql_int (want_yes rfl rfl (dep 10 rfl 70 rfl)) _ _ _ _ rfl _ _ _ (dep 12 rfl 72 rfl) (dep 13 rfl 73 rfl) (eqTI HS.out)) ?_
      refine Steps.cons (fun a' w' hG hB dep => gs_pick (want_none rfl) _ _ _ rfl true (dep 10 rfl 70 rfl) (dep 14 rfl 74 rfl)) ?_
      exact Steps.nil
    intro u W3 hB3 ans
    have ux : u 75 = .bool true := ans 15 75 (by decide) rfl
    clear ans
    simp only [putAll, List.foldl_cons, List.foldl_nil, Act.put, List.setIfInBounds_toArray, List.set_cons_zero, List.set_cons_succ, ux]
    clear ux
    simp only [List.drop]
    have hDl := (Array.getElem?_eq_some_iff.1 hK).1
    have hK3 := (hB3.block D hDl).trans hK
    replace h2 := blk_then h2 hB3
    refine wl_store_cell rfl _ _ _ rfl _ _ rfl _ _ #[.bool true] h2 (by simp) info_bool1 rfl rfl rfl ?_
    intro W4 h4 hg4
    refine wpList_nil ?_
    have hDne : D ≠ w.heap.size + 1 := fun e => by
      subst e
      have := cells_of_blk h2 hK3
      cases this
    have hK4 := (hg4.block D (Nat.lt_of_lt_of_le hDl hB3.size) (fun e => hDne (by injection e))).trans hK3
    replace hB := below_then hB hB3
    replace hB := hB.grown hg4 hB.size (fun k e => by injection e with e; omega)
    clear hB3 hg4 hK hK3
    gi_wp2
    refine ⟨by simp, .inl ⟨_, _, rfl, run_takeDeferred hK4, ?_⟩⟩
    have hc5 := (blk_other h4 (grownBy_putObj' W4 D (.deferred none)) (fun e => hDne e.symm)).cellv (i := 0) rfl
    refine ⟨.bool true, ?_, rfl, hB.trans (belowK_b (w := w) (Nat.le_refl _) W4 D _ _ (by have := hx.lt; omega) hK4 rfl rfl)⟩
    simp [results, Try.f7, go_sem, hc5]
  case stop =>
    rintro D c pre W _ hp ⟨_, hn⟩ _
    exact (hn (good_prefix (rows_good a) hp)).elim

end Go.Proofs.Ytjpiebapemalfaa
