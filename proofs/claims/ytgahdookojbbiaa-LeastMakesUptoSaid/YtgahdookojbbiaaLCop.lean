/- heronlaw11.copied: a table in memory of its own, with one more behind each list. No condition beyond those named in each lemma. -/
import Derived.Test.YtgahdookojbbiaaLFix0
import Derived.Test.YtgahdookojbbiaaLLeast
import Derived.Test.YtgahdookojbbiaaLAlike
namespace Go.Proofs.Ytgahdookojbbiaa
open Go.RowKit Go.Maps
set_option linter.unusedVariables false
set_option linter.unusedSimpArgs false
attribute [local go_sem] Oper.semAt_some

section
variable {w : World} {ops : Array Oper} {rest : List Oper} {o : Oper} {a : Act} {Q : Exit → Act → World → Prop}
/-- ints behind a row of the call's own -/
theorem wl_catZ (hgd : o.guard = none) (s x : Operand) (ho : o.op = .call { callee := .builtin .append, args := #[s, x], argTypes := #[57, 57] })
    (base : Nat) (k l : List Int) {B : Nat} {A A0 : Option Addr} {n c n0 c0 : Nat} (hs : a.eval s = .slice A0 n0 c0) (hown : Own w base 3 1 encZ (.slice A0 n0 c0) k) (hn0 : n0 = k.length) (hx : a.eval x = .slice A n c) (hn : n = l.length) (hr : SliceOf w B 1 encZ A l) (hk : k.length ≤ 1099511627776) (hl : l.length ≤ 1099511627776) (hbase : base ≤ w.heap.size)
    (h : ∀ A' c' w', Own w' base 3 1 encZ (.slice A' (k ++ l).length c') (k ++ l) → w.grownBy w' (Value.slice A0 n0 c0).ownBlock → ((Value.slice A' (k ++ l).length c').ownBlock = (Value.slice A0 n0 c0).ownBlock ∨ (Value.slice A' (k ++ l).length c').ownBlock = some w.heap.size) → wpList Try.prog ops Q rest (a.put o.dst (.slice A' (k ++ l).length c')) w') : wpList Try.prog ops Q (o :: rest) a w := by
  obtain ⟨ii, hii, hz0, hz1, hz2⟩ := info_parts info_int3
  subst hn0
  refine wl_append _ hgd _ _ 57 ho base 3 ii _ 1 8 Try.underlying57 hii hz0 hz1 hz2 rfl (by decide) encZ_size encZ_one (.slice A0 k.length c0) k hs hown _ _ n c l hx hn hr (by unfold maxLen; omega) (by omega) hbase ?_
  intro v' w' ho' hg hv
  obtain ⟨A', c', rfl, _, _⟩ := ho'.shape
  exact h _ _ _ ho' hg hv
/-- words behind a row of the call's own -/
theorem wl_catR (hgd : o.guard = none) (s x : Operand) (ho : o.op = .call { callee := .builtin .append, args := #[s, x], argTypes := #[32, 32] })
    (base : Nat) (k l : List Nat) {B : Nat} {A A0 : Option Addr} {n c n0 c0 : Nat} (hs : a.eval s = .slice A0 n0 c0) (hown : Own w base 55 1 encR (.slice A0 n0 c0) k) (hn0 : n0 = k.length) (hx : a.eval x = .slice A n c) (hn : n = l.length) (hr : SliceOf w B 1 encR A l) (hk : k.length ≤ 1099511627776) (hl : l.length ≤ 1099511627776) (hbase : base ≤ w.heap.size)
    (h : ∀ A' c' w', Own w' base 55 1 encR (.slice A' (k ++ l).length c') (k ++ l) → w.grownBy w' (Value.slice A0 n0 c0).ownBlock → ((Value.slice A' (k ++ l).length c').ownBlock = (Value.slice A0 n0 c0).ownBlock ∨ (Value.slice A' (k ++ l).length c').ownBlock = some w.heap.size) → wpList Try.prog ops Q rest (a.put o.dst (.slice A' (k ++ l).length c')) w') : wpList Try.prog ops Q (o :: rest) a w := by
  obtain ⟨ii, hii, hz0, hz1, hz2⟩ := info_parts info_u3
  subst hn0
  refine wl_append _ hgd _ _ 32 ho base 55 ii _ 1 4 Try.underlying32 hii hz0 hz1 hz2 rfl (by decide) encR_size encR_one (.slice A0 k.length c0) k hs hown _ _ n c l hx hn hr (by unfold maxLen; omega) (by omega) hbase ?_
  intro v' w' ho' hg hv
  obtain ⟨A', c', rfl, _, _⟩ := ho'.shape
  exact h _ _ _ ho' hg hv
/-- a row behind rows of the call's own -/
theorem wl_catV (hgd : o.guard = none) (s x : Operand) (ho : o.op = .call { callee := .builtin .append, args := #[s, x], argTypes := #[45, 45] })
    (base : Nat) (k l : List RV) {B : Nat} {A A0 : Option Addr} {n c n0 c0 : Nat} (hs : a.eval s = .slice A0 n0 c0) (hown : Own w base 57 1 rowC (.slice A0 n0 c0) k) (hn0 : n0 = k.length) (hx : a.eval x = .slice A n c) (hn : n = l.length) (hr : SliceOf w B 1 rowC A l) (hk : k.length ≤ 1099511627776) (hl : l.length ≤ 1099511627776) (hbase : base ≤ w.heap.size)
    (h : ∀ A' c' w', Own w' base 57 1 rowC (.slice A' (k ++ l).length c') (k ++ l) → w.grownBy w' (Value.slice A0 n0 c0).ownBlock → ((Value.slice A' (k ++ l).length c').ownBlock = (Value.slice A0 n0 c0).ownBlock ∨ (Value.slice A' (k ++ l).length c').ownBlock = some w.heap.size) → wpList Try.prog ops Q rest (a.put o.dst (.slice A' (k ++ l).length c')) w') : wpList Try.prog ops Q (o :: rest) a w := by
  obtain ⟨ii, hii, hz0, hz1, hz2⟩ := info_parts info_rows3
  subst hn0
  refine wl_append _ hgd _ _ 45 ho base 57 ii _ 1 24 Try.underlying45 hii hz0 hz1 hz2 rfl (by decide) rowC_size rowC_one (.slice A0 k.length c0) k hs hown _ _ n c l hx hn hr (by unfold maxLen; omega) (by omega) hbase ?_
  intro v' w' ho' hg hv
  obtain ⟨A', c', rfl, _, _⟩ := ho'.shape
  exact h _ _ _ ho' hg hv
theorem run_u77 (w : World) (z : Int) : (Instr.buildSlice 32 1 #[(0, .int .u32 z)]).run Try.prog w = .ok (.slice (some ⟨w.heap.size, 0, none⟩) 1 1) (w.alloc (.cells #[.int .u32 z] 55)) := by kernel_rfl
theorem wl_u1 (hgd : o.guard = none) (x : Operand) (ho : o.op = .buildSlice 32 1 #[(0, x)]) (z : Nat) (hx : a.eval x = .int .u32 (z : Int))
    (h : wpList Try.prog ops Q rest (a.put o.dst (.slice (some ⟨w.heap.size, 0, none⟩) 1 1)) (w.alloc (.cells (encR z) 55))) : wpList Try.prog ops Q (o :: rest) a w :=
  wpList_plain hgd fun _ hK => by
    unfold Oper.wp execOp
    simp only [ho, List.map_toArray, List.map_cons, List.map_nil, hx, Sem.run_bind, run_u77, Result.andThen_ok, Sem.run_pure]
    exact hK _ _ h
end
theorem gs_row1 {ops : Array Oper} {S : Nat → GSpec} {Q : Exit → Act → World → Prop} {i : Nat} {o : Oper} {a : Act} {w : World} (hw : Region.wanted o (yielded ops a.tmps) = true) (x : Operand) (ho : o.op = .buildSlice 45 1 #[(0, x)]) (r : RV) (hx : a.eval x = .slice r.a r.l.length r.c)
    (hp : ∀ v w', (oneG 57 (rowC r)).p v w' → (S i).p v w') : GStep Try.prog ops S Q i o a w :=
  gs_run hw (v := .slice (some ⟨w.heap.size, 0, none⟩) 1 1) (by unfold execOp; simp only [ho, List.map_toArray, List.map_cons, List.map_nil, hx, Sem.run_bind, run_row1, Result.andThen_ok, Sem.run_pure]; rfl) (below_alloc (Below.refl _ _) _) (hp _ _ ⟨_, rfl, Blk.new _ _ _⟩)
/-- its lists are short -/
structure Sml (x : TV) : Prop where
  n : x.rs.length ≤ 1048576
  r : ∀ r ∈ x.rs, r.l.length ≤ 1048576
  f : x.fo.length ≤ 1048576
  e : x.en.length ≤ 1048576
/-- a table of which the rows alone are there -/
def rowsT (f : Nat → Int) (rs : List RV) (A : Option Addr) (c : Nat) : TV := ⟨f, rs, A, c, [], none, 0, [], none, 0⟩
theorem own_ge {A A' : Option Addr} {n n' c c' N M : Nat} (hv : (Value.slice A' n' c').ownBlock = (Value.slice A n c).ownBlock ∨ (Value.slice A' n' c').ownBlock = some M) (h : ∀ b, A = some b → N ≤ b.block) (hM : N ≤ M) : ∀ b, A' = some b → N ≤ b.block := by
  rintro b rfl
  rw [ownBlock_slice, ownBlock_slice] at hv
  rcases hv with hv | hv
  · cases A with
    | none => cases hv
    | some a =>
      have := h a rfl
      have e : b.block = a.block := by simpa using hv
      omega
  · have e : b.block = M := by simpa using hv
    omega
section
variable {w w' : World} {base : Nat} {x : TV} {xr : List Int} {xf : List Nat} {xn : List RV} {f : Nat → Int} {rs : List RV} {A : Option Addr} {c : Nat}
/-- a row behind the rows -/
theorem TOwn.addZ {A : Option Addr} {c : Nat} {r : RV} (h : TOwn w base x xr xf []) (hg : w.grownBy w' (Value.slice x.A x.rs.length x.c).ownBlock)
    (ho : Own w' base 57 1 rowC (.slice A (x.rs.length + 1) c) (x.rs ++ [r])) : TOwn w' base { x with A := A, c := c } xr xf [r] := by
  have h0 := h.rows
  simp only [List.length_nil, Nat.add_zero, List.append_nil] at h0
  exact ⟨ho, own_own h.fo h0 hg (by decide), own_own h.en h0 hg (by decide), fun i hi => own_own (h.row i hi) h0 hg (by decide), h.ap, h.fe⟩
theorem rows_words {α : Type} {enc : α → Array Value} {size b2 : Nat} {v : Value} {ys : List α} (h : TOwn w base (rowsT f rs A c) xr [] xn) (ho : Own w b2 55 size enc v ys) (hg : w.grownBy w' v.ownBlock) : TOwn w' base (rowsT f rs A c) xr [] xn :=
  ⟨own_own h.rows ho hg (by decide), Own.nil_ _ _ _ _ _, Own.nil_ _ _ _ _ _, fun i hi => own_own (h.row i hi) ho hg (by decide), h.ap, h.fe⟩
theorem rows_full {fo en : List Nat} {B C : Option Addr} {d e : Nat} (h : TOwn w base (rowsT f rs A c) xr [] xn) (hf : Own w base 55 1 encR (.slice B (fo.length + xf.length) d) (fo ++ xf)) (he : Own w base 55 1 encR (.slice C (en.length + xf.length) e) (en ++ xf))
    (hne : ∀ a b, B = some a → C = some b → a.block ≠ b.block) : TOwn w base ⟨f, rs, A, c, fo, B, d, en, C, e⟩ xr xf xn :=
  ⟨h.rows, hf, he, h.row, h.ap, hne⟩
end
set_option maxRecDepth 100000 in
set_option maxHeartbeats 4000000 in
theorem cop_any (x : TV) (hS : Sml x) (w : World) (hT : TabIn w w.heap.size x) :
    Calls Try.prog 21 #[.agg x.C'] w fun e w' => Below w.heap.size w w' ∧ ∃ (y : TV) (rz : RV), e = .returned (.agg y.C') ∧ TOwn w' w.heap.size y [77] [77] [rz] ∧ rz.l.length = 1 ∧ y.T = x.T := by
  have hz0 := zero_dfa
  have hn20 := hS.n
  unfold TV.C'
  go_enter Try.func21, Try.ntmps21
  have h1 := (Blk.new w 47 (dfaC x.f x.A x.rs.length x.c x.B x.fo.length x.d x.C x.en.length x.e)).alloc (.cells (dfaC (fun _ => 0) none 0 0 none 0 0 none 0 0) 47)
  have hr : Blk ((w.alloc (.cells (dfaC x.f x.A x.rs.length x.c x.B x.fo.length x.d x.C x.en.length x.e) 47)).alloc (.cells (dfaC (fun _ => 0) none 0 0 none 0 0 none 0 0) 47)) (w.heap.size + 1) 47 (dfaC (fun _ => 0) none 0 0 none 0 0 none 0 0) := Blk.new' _ _ _ (World.size_alloc _ _).symm
  have hB1 := below_alloc (below_alloc (Below.refl w.heap.size w) (.cells (dfaC x.f x.A x.rs.length x.c x.B x.fo.length x.d x.C x.en.length x.e) 47)) (.cells (dfaC (fun _ => 0) none 0 0 none 0 0 none 0 0) 47)
  go_upto_region 1 with (fail)
  obtain ⟨w1, hw1⟩ : ∃ ww, ww = ((w.alloc (.cells (dfaC x.f x.A x.rs.length x.c x.B x.fo.length x.d x.C x.en.length x.e) 47)).alloc (.cells (dfaC (fun _ => 0) none 0 0 none 0 0 none 0 0) 47)) := ⟨_, rfl⟩
  first | rw [← hw1] at h1 hr hB1 ⊢ | (simp only [World.size_alloc]; rw [← hw1] at h1 hr hB1 ⊢)
  clear hw1
  obtain ⟨g1, hg1⟩ : ∃ g, g = w.heap.size := ⟨_, rfl⟩
  obtain ⟨gr, hgr⟩ : ∃ g, g = w.heap.size + 1 := ⟨_, rfl⟩
  try rw [← hgr] at hr ⊢
  try rw [← hg1] at h1 ⊢
  have hg1w : w.heap.size ≤ g1 := by omega
  have hgrw : w.heap.size ≤ gr := by omega
  clear hg1 hgr
  have hcl : RowAt w1 g1 0 (clsC x.f) := dfaC_cls _ _ _ _ _ _ _ _ _ _ (RowAt.of_blk h1)
  go_upto_region 2 with (first
    | (refine wl_load_cls rfl _ rfl g1 rfl x.f hcl ?_)
    | (refine wl_build_dfa1 rfl _ rfl x.f rfl ?_)
    | (refine wl_store_dfa rfl _ _ rfl _ rfl rfl (Blk.new _ _ _) ?_; intro w5 hx hG5))
  clear hcl
  have hB5 : Below w1.heap.size w1 w5 := below_grown (below_alloc (Below.refl _ _) _) hG5 (Nat.le_refl _)
  obtain ⟨gx, hgx⟩ : ∃ g, g = w1.heap.size := ⟨_, rfl⟩
  rw [← hgx] at hx ⊢
  have n1x : g1 ≠ gx := by have := h1.lt; omega
  have nrx : gr ≠ gx := by have := hr.lt; omega
  have hgxw : w.heap.size ≤ gx := by have := h1.lt; omega
  replace h1 := blk_then h1 hB5
  replace hr := blk_then hr hB5
  replace hB1 := below_then hB1 hB5
  clear hG5 hgx hB5
  obtain ⟨bv, hbv⟩ : ∃ bv, bv = w5.heap.size := ⟨_, rfl⟩
  have hbvr : bv ≤ w5.heap.size := by omega
  have l1 : g1 < bv := by have := h1.lt; omega
  have lr : gr < bv := by have := hr.lt; omega
  have lx : gx < bv := by have := hx.lt; omega
  have hbvw : w.heap.size ≤ bv := by omega
  have hO : TOwn w5 bv (rowsT x.f [] none 0) [77] [] [] := ⟨Own.nil_ _ _ _ _ _, Own.nil_ _ _ _ _ _, Own.nil_ _ _ _ _ _, fun i hi => absurd hi (by simp [rowsT]), fun i j hi => absurd hi (by simp [rowsT]), fun a b h => by cases h⟩
  clear hbv
  go_wp2_with (fail)
  go_loopw [4] (fun iv wr => ∃ (i : Nat) (rs : List RV) (A : Option Addr) (c : Nat), i ≤ x.rs.length ∧ iv = .int .i64 i ∧ Below w.heap.size w wr ∧ Blk wr g1 47 (dfaC x.f x.A x.rs.length x.c x.B x.fo.length x.d x.C x.en.length x.e) ∧ Blk wr gr 47 (dfaC (fun _ => 0) none 0 0 none 0 0 none 0 0) ∧ Blk wr gx 47 (dfaC x.f A rs.length c none 0 0 none 0 0) ∧ TOwn wr bv (rowsT x.f rs A c) [77] [] [] ∧ bv ≤ wr.heap.size ∧ rs.map (·.l) = (x.rs.take i).map (·.l)) (fun iv _ => x.rs.length - (intOf iv).toNat)
  case atStart => exact ⟨0, [], none, 0, by omega, rfl, hB1, h1, hr, hx, hO, hbvr, rfl⟩
  case round =>
    clear hB1 h1 hr hx hO hbvr
    obtain ⟨i, rs, A, c, hi, rfl, hB1, h1, hr, hx, hO, hbvr, hrs⟩ := hrel
    have hrl : rs.length = i := by
      have := congrArg List.length hrs
      simp only [List.length_map, List.length_take] at this
      omega
    replace hrs := Lib.hid hrs
    replace hrl := Lib.hid hrl
    by_cases hil : i < x.rs.length
    · have hiI : (i : Int) < x.rs.length := by omega
      obtain ⟨bX, oX, hXA, hbX, cR⟩ := (hT.then_ hB1).rowAt hil
      have cX : wr.cell? ⟨g1, 256, none⟩ = some (.slice (some ⟨bX, oX, none⟩) x.rs.length x.c) := by rw [← hXA]; exact blk_d1 h1
      obtain ⟨r, hre⟩ : ∃ r, x.rs[i] = r := ⟨_, rfl⟩
      rw [hre] at cR
      have hmem : r ∈ x.rs := by rw [← hre]; exact List.getElem_mem hil
      have hrb := hS.r r hmem
      have hsr := (hT.then_ hB1).row r hmem
      have hcr0 : ∀ (X : World), Below wr.heap.size wr X → X.cell? ⟨bX, oX + i * 1, none⟩ = some (.slice r.a r.l.length r.c) := fun X hB => cell_keep cR hbX hB
      replace hXA := Lib.hid hXA
      replace hre := Lib.hid hre
      have hBe : Below wr.heap.size wr (wr.alloc (.cells #[] 3)) := below_alloc (Below.refl _ _) _
      have cX2 := (cell_keep cX (by have := h1.lt; omega) hBe)
      have cR2 := hcr0 _ hBe
      rw [Nat.mul_one] at cR2
      have ho0 := own_empty (α := Int) (enc := encZ) (size := 1) (e := 3) (base := bv) (W := wr) hbvr
      have hsr2 := hsr.below hBe
      have hrow : ∀ j (hj : j < rs.length) a, rs[j].a = some a → a.block < wr.heap.size := fun j hj a ha => (hO.rowLt (i := j) hj ha).2
      go_upto_region 6 with (first
        | (refine wl_b0i rfl rfl ?_)
        | (at_builtin; refine park ?_))
      refine Parked.mk ?_
      refine wl_catZ rfl _ _ rfl bv [] r.l rfl ho0 rfl rfl rfl hsr2 (by simp) (by omega) (by have := hBe.size; omega) ?_
      intro A7 c7 w7 ho7 hG7 hv7
      simp only [List.nil_append] at ho7 hv7 ⊢
      have hB7 : Below wr.heap.size wr w7 := hBe.grown hG7 hBe.size (fun q e => Nat.le_of_eq (by simpa [Value.ownBlock] using e))
      replace h1 := blk_then h1 hB7
      replace hr := blk_then hr hB7
      replace hx := blk_then hx hB7
      replace hO := hO.then_ hB7
      replace hbvr : bv ≤ w7.heap.size := by have := hB7.size; omega
      replace hB1 := below_then hB1 hB7
      have hA7 : ∀ b, A7 = some b → wr.heap.size ≤ b.block := own_ge hv7 (fun b hb => by injection hb with hb; subst hb; exact Nat.le_refl _) (by rw [World.size_alloc]; omega)
      replace hA7 := Lib.hid hA7
      replace hrow := Lib.hid hrow
      clear cX cR cX2 cR2 hsr hsr2 ho0 hBe hG7
      simp only [Act.put, List.setIfInBounds_toArray, List.set_cons_zero, List.set_cons_succ]
      go_upto_region 6 with (first
        | (refine wl_int1 rfl _ rfl 77 rfl ?_)
        | (at_builtin; refine park ?_))
      refine Parked.mk ?_
      refine wl_pushZ rfl _ _ rfl bv r.l 77 rfl rfl (Blk.new _ _ _) (ho7.alloc _) rfl (by omega) (by rw [World.size_alloc]; omega) ?_
      intro A8 c8 w8 ho8 hG8 hv8
      have hB8a : Below w7.heap.size w7 (w7.alloc (.cells (encZ 77) 3)) := below_alloc (Below.refl _ _) _
      have ho7a := ho7.then_ hB8a
      have hA8 : ∀ b, A8 = some b → wr.heap.size ≤ b.block := own_ge hv8 hA7.out (by have := hB7.size; have := hB8a.size; omega)
      have hap8 : ∀ j (hj : j < (rowsT x.f rs A c).rs.length) a b, (rowsT x.f rs A c).rs[j].a = some a → A8 = some b → a.block ≠ b.block := fun j hj a b ha hb => by
        have := hrow.out j hj a ha
        have := hA8 b hb
        omega
      have hap7 : ∀ j (hj : j < (rowsT x.f rs A c).rs.length) a b, (rowsT x.f rs A c).rs[j].a = some a → A7 = some b → a.block ≠ b.block := fun j hj a b ha hb => by
        have := hrow.out j hj a ha
        have := hA7.out b hb
        omega
      replace h1 := blk_own (blk_then h1 hB8a) ho7a hG8 l1
      replace hr := blk_own (blk_then hr hB8a) ho7a hG8 lr
      replace hx := blk_own (blk_then hx hB8a) ho7a hG8 lx
      replace hO := (hO.then_ hB8a).ownI ho7a hG8 hap7
      have hB8 : Below wr.heap.size wr w8 := (hB7.trans (hB8a.mono hB7.size)).grown hG8 (by have := hB7.size; have := hB8a.size; omega) (fun q e => by
        rw [ownBlock_slice] at e
        rcases hA : A7 with _ | a
        · rw [hA] at e; cases e
        · rw [hA] at e
          have e2 : a.block = q := by simpa using e
          have := hA7.out a hA
          omega)
      replace hbvr : bv ≤ w8.heap.size := by have := hB8a.size; have := hG8.size; omega
      replace hB1 := below_own (below_then hB1 hB8a) hG8 (fun k e => by have := (ho7a.lt k e).1; omega)
      obtain ⟨g8, c8', hvf, hg8b, hg8l, hc8, _⟩ := ho8.form (by simp)
      injection hvf with e1 _ e3
      subst e1 e3
      have hl8 : (r.l ++ [77]).length = r.l.length + 1 := by simp
      rw [hl8] at hc8
      have hcr : ∀ (X : World), Below w8.heap.size w8 X → X.cell? ⟨bX, oX + i * 1, none⟩ = some (.slice r.a r.l.length r.c) := fun X hB => by
        have hb9 : bX < wr.heap.size := hbX
        exact hcr0 _ (hB8.trans (hB.mono hB8.size))
      replace hap8 := Lib.hid hap8
      clear hG8 hv8 ho7 ho7a hap7 hB7 hB8a hA8 hA7 hv7 hl8 hB8 hrow
      simp only [Act.put, List.setIfInBounds_toArray, List.set_cons_zero, List.set_cons_succ]
      go_upto_region 6 with (fail)
      refine wp_region_steps 11 [eqS (.pointer (some ⟨gx, 256, none⟩)), eqS (.slice A rs.length c), eqS (.slice (some ⟨g8, 0, none⟩) (r.l.length + 1) c8), eqS (.pointer (some ⟨g1, 256, none⟩)), eqS (.slice (some ⟨bX, oX, none⟩) x.rs.length x.c), eqS (.int .i64 (((i : Nat) : Int))), eqS (.pointer (some ⟨bX, oX + i * 1, none⟩)), eqS (.slice r.a r.l.length r.c), eqS (.int .i64 (((r.l.length : Nat) : Int))), eqS (.slice (some ⟨g8, 0, none⟩) r.l.length c8), oneG 57 (rowC ⟨some ⟨g8, 0, none⟩, c8, r.l⟩)] [25, 26, 27, 28, 29, 30, 31, 32, 33, 34, 35] rfl (by kernel_rfl) rfl ?_ ?_
      · skip
        refine Steps.cons (fun a' w' hG hB dep => gs_field (want_none rfl) _ _ _ rfl gx (0) (256) (hG.other 3 rfl) (fun wz => field_dfa_1 gx (0) wz) rfl) ?_
        refine Steps.cons (fun a' w' hG hB dep => gs_load1 (want_none rfl) _ _ rfl gx (256) (dep 0 rfl 25 rfl) (.slice A rs.length c) (blk_d1 (blk_then hx hB)) _ Try.underlying45 rfl rfl) ?_
        refine Steps.cons (fun a' w' hG hB dep => gs_move (want_none rfl) _ rfl (id (hG.other 5 rfl))) ?_
        refine Steps.cons (fun a' w' hG hB dep => gs_field (want_none rfl) _ _ _ rfl g1 (0) (256) (hG.other 1 rfl) (fun wz => field_dfa_1 g1 (0) wz) rfl) ?_
        refine Steps.cons (fun a' w' hG hB dep => gs_load1 (want_none rfl) _ _ rfl g1 (256) (dep 3 rfl 28 rfl) (.slice (some ⟨bX, oX, none⟩) x.rs.length x.c) (by have h9 := blk_d1 (blk_then h1 hB); rw [hXA.out] at h9; exact h9) _ Try.underlying45 rfl rfl) ?_
        refine Steps.cons (fun a' w' hG hB dep => gs_move (want_none rfl) _ rfl (id (hG.other 4 rfl))) ?_
        refine Steps.cons (fun a' w' hG hB dep => gs_index (want_none rfl) _ _ _ rfl under_rows 1 size_rowE bX oX x.rs.length x.c (i) (dep 4 rfl 29 rfl) (dep 5 rfl 30 rfl) hil rfl) ?_
        refine Steps.cons (fun a' w' hG hB dep => gs_load1 (want_none rfl) _ _ rfl bX (oX + i * 1) (dep 6 rfl 31 rfl) (.slice r.a r.l.length r.c) (hcr _ hB) _ Try.underlying57 rfl rfl) ?_
        refine Steps.cons (fun a' w' hG hB dep => gs_len (want_none rfl) _ _ rfl under_ints _ r.l.length r.c (dep 7 rfl 32 rfl) rfl) ?_
        refine Steps.cons (fun a' w' hG hB dep => gs_slice_to (want_none rfl) _ _ _ rfl under_ints 1 size_intE ⟨g8, 0, none⟩ (r.l.length + 1) c8 r.l.length (dep 2 rfl 27 rfl) (dep 8 rfl 33 rfl) (by omega) rfl) ?_
        refine Steps.cons (fun a' w' hG hB dep => gs_row1 (want_none rfl) _ rfl ⟨some ⟨g8, 0, none⟩, c8, r.l⟩ (dep 9 rfl 34 rfl) (fun _ _ h => h)) ?_
        exact Steps.nil
      intro u wq hBa ans
      obtain ⟨g9, hu9, hb9⟩ := ans 10 35 (by decide) rfl
      have hu1 : u 26 = .slice A rs.length c := ans 1 26 (by decide) rfl
      clear ans
      simp only [putAll, List.foldl_cons, List.foldl_nil, Act.put, List.setIfInBounds_toArray, List.set_cons_zero, List.set_cons_succ, hu1, hu9]
      clear hu1 hu9
      simp only [List.drop]
      have hor := hO.rows
      simp only [List.length_nil, Nat.add_zero, List.append_nil] at hor
      have hbl : bv ≤ wq.heap.size := by have := hBa.size; omega
      refine wl_catV rfl _ _ rfl bv rs [⟨some ⟨g8, 0, none⟩, c8, r.l⟩] rfl (hor.then_ hBa) rfl rfl rfl (slice_one (enc := rowC) hb9) (by rw [hrl.out]; have := hS.n; omega) (by simp) hbl ?_
      intro A9 c9 w9 ho9 hG9 hv9
      have hl9 : (rs ++ [(⟨some ⟨g8, 0, none⟩, c8, r.l⟩ : RV)]).length = rs.length + 1 := by simp
      rw [hl9] at ho9 hv9 ⊢
      have hout := blk_own2 (blk_then hx hBa) (hor.then_ hBa) hG9 (by decide)
      simp only [Act.put, List.setIfInBounds_toArray, List.set_cons_zero, List.set_cons_succ]
      go_upto_region 4 with (refine wl_store_d1 rfl _ _ rfl gx rfl rfl hout ?_; intro wa hxa hGa)
      try simp only [Act.put]
      have ho8b := own_own (ho8.then_ hBa) (hor.then_ hBa) hG9 (by decide)
      have hO2 : TOwn wa bv (rowsT x.f (rs ++ [⟨some ⟨g8, 0, none⟩, c8, r.l⟩]) A9 c9) [77] [] [] := (((hO.then_ hBa).addRow hG9 ho9 (r := ⟨some ⟨g8, 0, none⟩, c8, r.l⟩) ho8b (fun j hj a b ha hb => hap8.out j hj a b ha hb)).box hout hGa (by decide) (by decide) (by decide))
      replace h1 := (blk_own2 (blk_then h1 hBa) (hor.then_ hBa) hG9 (by decide)).grown hGa (by simpa using n1x)
      replace hr := (blk_own2 (blk_then hr hBa) (hor.then_ hBa) hG9 (by decide)).grown hGa (by simpa using nrx)
      replace hB1 := below_grown (below_own (below_then hB1 hBa) hG9 (fun k e => by have := ((hor.then_ hBa).lt k e).1; omega)) hGa hgxw
      replace hbvr : bv ≤ wa.heap.size := by have := hBa.size; have := hG9.size; have := hGa.size; omega
      have hrs2 : (rs ++ [(⟨some ⟨g8, 0, none⟩, c8, r.l⟩ : RV)]).map (·.l) = (x.rs.take (i + 1)).map (·.l) := by
        rw [List.take_succ_eq_append_getElem hil, hre.out]
        simp only [List.map_append, List.map_cons, List.map_nil]
        rw [hrs.out]
      replace hrs2 := Lib.hid hrs2
      replace hl9 := Lib.hid hl9
      clear hG9 hv9 ho9 hout hGa ho8b hor hbl hBa hO hx ho8 hb9 hcr hcr0 hap8 hrs hrb hmem hre hXA hc8 hg8b hg8l
      go_wp2_with (fail)
      exact ⟨⟨i + 1, _, A9, c9, by omega, rfl, hB1, h1, hr, by rw [hl9.out]; exact hxa, hO2, hbvr, hrs2.out⟩, by simp only [intOf]; omega⟩
    · have hiI : ¬ (i : Int) < x.rs.length := by omega
      have hie : i = x.rs.length := by omega
      have hrs3 : rs.map (·.l) = x.rs.map (·.l) := by
        rw [hrs.out, hie, List.take_length]
      have hrn : rs.length = x.rs.length := by rw [hrl.out, hie]
      replace hrs3 := Lib.hid hrs3
      replace hrn := Lib.hid hrn
      clear hrs hrl hie
      have cX : wr.cell? ⟨g1, 256, none⟩ = some (.slice x.A x.rs.length x.c) := blk_d1 h1
      have cY : wr.cell? ⟨gx, 256, none⟩ = some (.slice A rs.length c) := blk_d1 hx
      go_upto_region 8 with (first
        | (refine wl_int1 rfl _ rfl 77 rfl ?_)
        | (refine wl_row1 rfl _ rfl ⟨some ⟨wr.heap.size, 0, none⟩, 1, [77]⟩ rfl ?_)
        | (at_builtin; refine park ?_))
      refine Parked.mk ?_
      have hBa : Below wr.heap.size wr ((wr.alloc (.cells (encZ 77) 3)).alloc (.cells (rowC ⟨some ⟨wr.heap.size, 0, none⟩, 1, [77]⟩) 57)) := below_alloc (below_alloc (Below.refl _ _) _) _
      have hor := hO.rows
      simp only [List.length_nil, Nat.add_zero, List.append_nil] at hor
      refine wl_catV rfl _ _ rfl bv rs [⟨some ⟨wr.heap.size, 0, none⟩, 1, [77]⟩] rfl (hor.then_ hBa) rfl rfl rfl (slice_one (enc := rowC) (Blk.new' _ _ _ (World.size_alloc _ _).symm)) (by rw [hrn.out]; have := hS.n; omega) (by simp) (by have := hBa.size; omega) ?_
      intro A9 c9 w9 ho9 hG9 hv9
      have hout := blk_own2 (blk_then hx hBa) (hor.then_ hBa) hG9 (by decide)
      have hl9 : (rs ++ [(⟨some ⟨wr.heap.size, 0, none⟩, 1, [77]⟩ : RV)]).length = rs.length + 1 := by simp
      rw [hl9] at ho9 hv9 ⊢
      simp only [Act.put, List.setIfInBounds_toArray, List.set_cons_zero, List.set_cons_succ]
      go_upto_region 8 with (refine wl_store_d1 rfl _ _ rfl gx rfl rfl hout ?_; intro wa hxa hGa)
      try simp only [Act.put]
      obtain ⟨rz, hrz⟩ : ∃ rz : RV, rz = ⟨some ⟨wr.heap.size, 0, none⟩, 1, [77]⟩ := ⟨_, rfl⟩
      have hrzl : rz.l.length = 1 := by rw [hrz]; rfl
      rw [← hrz] at ho9
      have hO2 : TOwn wa bv (rowsT x.f rs A9 c9) [77] [] [rz] := ((hO.then_ hBa).addZ hG9 ho9).box hout hGa (by decide) (by decide) (by decide)
      replace h1 := (blk_own2 (blk_then h1 hBa) (hor.then_ hBa) hG9 (by decide)).grown hGa (by simpa using n1x)
      replace hr := (blk_own2 (blk_then hr hBa) (hor.then_ hBa) hG9 (by decide)).grown hGa (by simpa using nrx)
      replace hB1 := below_grown (below_own (below_then hB1 hBa) hG9 (fun k e => by have := ((hor.then_ hBa).lt k e).1; omega)) hGa hgxw
      replace hbvr : bv ≤ wa.heap.size := by have := hBa.size; have := hG9.size; have := hGa.size; omega
      obtain ⟨gN, cN, hvN, hgN, hgNl, hcN, _⟩ := ho9.form (by simp)
      injection hvN with eN1 _ eN3
      subst eN1 eN3
      have hlN : (rs ++ [rz]).length = rs.length + 1 := by simp
      rw [hlN] at hcN
      clear hG9 hv9 ho9 hl9 hout hGa hor hBa hO hx hrz cX cY hlN
      have hx := hxa
      clear hxa
      go_upto_region 8 with (fail)
      have cW1 : wa.cell? ⟨gx, 257, none⟩ = some (.slice none 0 0) := blk_d2 hx
      have cW2 : wa.cell? ⟨g1, 257, none⟩ = some (.slice x.B x.fo.length x.d) := blk_d2 h1
      have hs0 := (hT.then_ hB1).fo
      go_upto_region 9 with (at_builtin; refine park ?_)
      refine Parked.mk ?_
      refine wl_catR rfl _ _ rfl bv [] x.fo rfl (Own.nil_ _ _ _ _ _) rfl rfl rfl hs0 (by simp) (by have := hS.f; omega) (by omega) ?_
      intro A7 c7 w7 ho7 hG7 hv7
      simp only [List.nil_append] at ho7 hv7 ⊢
      have hA7 : ∀ b, A7 = some b → wa.heap.size ≤ b.block := own_ge hv7 (fun b hb => by cases hb) (Nat.le_refl _)
      have hB7 : Below wa.heap.size wa w7 := (Below.refl _ _).grown hG7 (Nat.le_refl _) (fun q e => by simp [Value.ownBlock] at e)
      replace h1 := blk_then h1 hB7
      replace hr := blk_then hr hB7
      replace hx := blk_then hx hB7
      replace hO2 := hO2.then_ hB7
      replace hbvr : bv ≤ w7.heap.size := by have := hB7.size; omega
      replace hB1 := below_then hB1 hB7
      replace hA7 := Lib.hid hA7
      replace hB7 := Lib.hid hB7.size
      clear cW1 cW2 hG7 hv7 hs0
      simp only [Act.put, List.setIfInBounds_toArray, List.set_cons_zero, List.set_cons_succ]
      go_upto_region 9 with (first | (refine wl_u1 rfl _ rfl 77 rfl ?_) | (at_builtin; refine park ?_))
      refine Parked.mk ?_
      have hBa : Below w7.heap.size w7 (w7.alloc (.cells (encR 77) 55)) := below_alloc (Below.refl _ _) _
      have ho7a := ho7.then_ hBa
      refine wl_catR rfl _ _ rfl bv x.fo [77] rfl ho7a rfl rfl rfl (slice_one (enc := encR) (Blk.new w7 _ _)) (by have := hS.f; omega) (by simp) (by have := hBa.size; omega) ?_
      intro A8 c8 w8 ho8 hG8 hv8
      have hl8 : (x.fo ++ [77]).length = x.fo.length + 1 := by simp
      rw [hl8] at ho8 hv8 ⊢
      have hA8 : ∀ b, A8 = some b → wa.heap.size ≤ b.block := own_ge hv8 hA7.out (by have := hB7.out; have := hBa.size; omega)
      replace h1 := blk_own (blk_then h1 hBa) ho7a hG8 l1
      replace hr := blk_own (blk_then hr hBa) ho7a hG8 lr
      have hout := blk_own (blk_then hx hBa) ho7a hG8 lx
      replace hO2 := rows_words (hO2.then_ hBa) ho7a hG8
      replace hB1 := below_own (below_then hB1 hBa) hG8 (fun k e => by have := (ho7a.lt k e).1; omega)
      replace hbvr : bv ≤ w8.heap.size := by have := hBa.size; have := hG8.size; omega
      replace hl8 := Lib.hid hl8
      replace hA8 := Lib.hid hA8
      clear hx hA7 hB7 hBa ho7 ho7a hG8 hv8
      simp only [Act.put, List.setIfInBounds_toArray, List.set_cons_zero, List.set_cons_succ]
      go_upto_region 9 with (refine wl_store_d2 rfl _ _ rfl gx rfl rfl hout ?_; intro wc hx hGa)
      try simp only [Act.put]
      replace h1 := blk_grown h1 hGa n1x
      replace hr := blk_grown hr hGa nrx
      replace hO2 := hO2.box hout hGa (by decide) (by decide) (by decide)
      have hoF := own_box ho8 hout hGa (by decide)
      replace hB1 := below_grown hB1 hGa hgxw
      replace hbvr : bv ≤ wc.heap.size := by have := hGa.size; omega
      obtain ⟨gF, cF0, hvF, hgF, hgFl, hcF, _⟩ := ho8.form (by simp)
      injection hvF with eN1 _ eN3
      subst eN1 eN3
      rw [hl8.out] at hcF
      have hgFw : gF < wc.heap.size := by have := hGa.size; omega
      clear ho8 hout hGa hl8 hA8 hgFl
      obtain ⟨cF, hcFe⟩ : ∃ cF, cF = c8 := ⟨_, rfl⟩
      rw [← hcFe] at hoF hx hcF ⊢
      clear hcFe
      have cW1 : wc.cell? ⟨gx, 258, none⟩ = some (.slice none 0 0) := blk_d3 hx
      have cW2 : wc.cell? ⟨g1, 258, none⟩ = some (.slice x.C x.en.length x.e) := blk_d3 h1
      have hs0 := (hT.then_ hB1).en
      go_upto_region 10 with (at_builtin; refine park ?_)
      refine Parked.mk ?_
      refine wl_catR rfl _ _ rfl bv [] x.en rfl (Own.nil_ _ _ _ _ _) rfl rfl rfl hs0 (by simp) (by have := hS.e; omega) (by omega) ?_
      intro A7 c7 w7 ho7 hG7 hv7
      simp only [List.nil_append] at ho7 hv7 ⊢
      have hA7 : ∀ b, A7 = some b → wc.heap.size ≤ b.block := own_ge hv7 (fun b hb => by cases hb) (Nat.le_refl _)
      have hB7 : Below wc.heap.size wc w7 := (Below.refl _ _).grown hG7 (Nat.le_refl _) (fun q e => by simp [Value.ownBlock] at e)
      replace h1 := blk_then h1 hB7
      replace hr := blk_then hr hB7
      replace hx := blk_then hx hB7
      replace hO2 := hO2.then_ hB7
      replace hoF := hoF.then_ hB7
      replace hbvr : bv ≤ w7.heap.size := by have := hB7.size; omega
      replace hB1 := below_then hB1 hB7
      replace hA7 := Lib.hid hA7
      replace hB7 := Lib.hid hB7.size
      clear cW1 cW2 hG7 hv7 hs0
      simp only [Act.put, List.setIfInBounds_toArray, List.set_cons_zero, List.set_cons_succ]
      go_upto_region 10 with (first | (refine wl_u1 rfl _ rfl 77 rfl ?_) | (at_builtin; refine park ?_))
      refine Parked.mk ?_
      have hBa : Below w7.heap.size w7 (w7.alloc (.cells (encR 77) 55)) := below_alloc (Below.refl _ _) _
      have ho7a := ho7.then_ hBa
      refine wl_catR rfl _ _ rfl bv x.en [77] rfl ho7a rfl rfl rfl (slice_one (enc := encR) (Blk.new w7 _ _)) (by have := hS.e; omega) (by simp) (by have := hBa.size; omega) ?_
      intro A8 c8 w8 ho8 hG8 hv8
      have hl8 : (x.en ++ [77]).length = x.en.length + 1 := by simp
      rw [hl8] at ho8 hv8 ⊢
      have hA8 : ∀ b, A8 = some b → wc.heap.size ≤ b.block := own_ge hv8 hA7.out (by have := hB7.out; have := hBa.size; omega)
      replace h1 := blk_own (blk_then h1 hBa) ho7a hG8 l1
      replace hr := blk_own (blk_then hr hBa) ho7a hG8 lr
      have hout := blk_own (blk_then hx hBa) ho7a hG8 lx
      replace hO2 := rows_words (hO2.then_ hBa) ho7a hG8
      replace hoF := (hoF.then_ hBa).kept_ hG8 (fun q e1 e2 => by
        rw [ownBlock_slice] at e1 e2
        rcases hA : A7 with _ | a
        · rw [hA] at e2; cases e2
        · rw [hA] at e2
          have e3 : a.block = q := by simpa using e2
          have e4 : gF = q := by simpa using e1
          have := hA7.out a hA
          omega)
      replace hB1 := below_own (below_then hB1 hBa) hG8 (fun k e => by have := (ho7a.lt k e).1; omega)
      replace hbvr : bv ≤ w8.heap.size := by have := hBa.size; have := hG8.size; omega
      replace hl8 := Lib.hid hl8
      replace hA8 := Lib.hid hA8
      clear hx hA7 hB7 hBa ho7 ho7a hG8 hv8
      simp only [Act.put, List.setIfInBounds_toArray, List.set_cons_zero, List.set_cons_succ]
      go_upto_region 10 with (refine wl_store_d3 rfl _ _ rfl gx rfl rfl hout ?_; intro w9 hx hGa)
      try simp only [Act.put]
      replace h1 := blk_grown h1 hGa n1x
      replace hr := blk_grown hr hGa nrx
      replace hO2 := hO2.box hout hGa (by decide) (by decide) (by decide)
      replace hoF := own_box hoF hout hGa (by decide)
      have hoE := own_box ho8 hout hGa (by decide)
      replace hB1 := below_grown hB1 hGa hgxw
      obtain ⟨gE, cE, hvE, hgE, hgEl, hcE, _⟩ := ho8.form (by simp)
      injection hvE with eN1 _ eN3
      subst eN1 eN3
      rw [hl8.out] at hcE
      have hne : gF ≠ gE := by have := hA8.out _ rfl; simp only at this; omega
      clear ho8 hout hGa hl8 hA8 hgEl
      rw [hrn.out] at hx hcN
      have hfo20 := hS.f
      have hen20 := hS.e
      refine wp_region_text 7 [eqS (.pointer (some ⟨gx, 256, none⟩)), eqS (.slice (some ⟨gN, 0, none⟩) (x.rs.length + 1) c9), eqS (.pointer (some ⟨g1, 256, none⟩)), eqS (.slice x.A x.rs.length x.c), eqS (.int .i64 (((x.rs.length : Nat) : Int))), eqS (.slice (some ⟨gN, 0, none⟩) x.rs.length c9), eqS (.pointer (some ⟨gx, 256, none⟩))] [60, 61, 62, 63, 64, 65, 66] (by kernel_rfl) rfl ?_ ?_
      · skip
        refine Steps.cons (fun a' w' hG hB dep => gs_field (want_none rfl) _ _ _ rfl gx (0) (256) (hG.other 3 rfl) (fun wz => field_dfa_1 gx (0) wz) rfl) ?_
        refine Steps.cons (fun a' w' hG hB dep => gs_load1 (want_none rfl) _ _ rfl gx (256) (dep 0 rfl 60 rfl) (.slice (some ⟨gN, 0, none⟩) (x.rs.length + 1) c9) (blk_d1 (blk_then hx hB)) _ Try.underlying45 rfl rfl) ?_
        refine Steps.cons (fun a' w' hG hB dep => gs_field (want_none rfl) _ _ _ rfl g1 (0) (256) (hG.other 1 rfl) (fun wz => field_dfa_1 g1 (0) wz) rfl) ?_
        refine Steps.cons (fun a' w' hG hB dep => gs_load1 (want_none rfl) _ _ rfl g1 (256) (dep 2 rfl 62 rfl) (.slice x.A x.rs.length x.c) (blk_d1 (blk_then h1 hB)) _ Try.underlying45 rfl rfl) ?_
        refine Steps.cons (fun a' w' hG hB dep => gs_len (want_none rfl) _ _ rfl under_rows _ x.rs.length x.c (dep 3 rfl 63 rfl) rfl) ?_
        refine Steps.cons (fun a' w' hG hB dep => gs_slice_to (want_none rfl) _ _ _ rfl under_rows 1 size_rowE ⟨gN, 0, none⟩ (x.rs.length + 1) c9 x.rs.length (dep 1 rfl 61 rfl) (dep 4 rfl 64 rfl) (by omega) rfl) ?_
        refine Steps.cons (fun a' w' hG hB dep => gs_field (want_none rfl) _ _ _ rfl gx (0) (256) (hG.other 3 rfl) (fun wz => field_dfa_1 gx (0) wz) rfl) ?_
        exact Steps.nil
      intro u wu hwu ans
      have hus65 : u 65 = (.slice (some ⟨gN, 0, none⟩) x.rs.length c9) := ans 5 65 (by decide) rfl
      have hus66 : u 66 = (.pointer (some ⟨gx, 256, none⟩)) := ans 6 66 (by decide) rfl
      clear ans
      simp only [putAll, List.foldl_cons, List.foldl_nil, Act.put, List.setIfInBounds_toArray, List.set_cons_zero, List.set_cons_succ, hus65, hus66]
      clear hus65 hus66
      simp only [List.drop]
      replace h1 := blk_then h1 hwu
      replace hr := blk_then hr hwu
      replace hx := blk_then hx hwu
      replace hO2 := hO2.then_ hwu
      replace hoF := hoF.then_ hwu
      replace hoE := hoE.then_ hwu
      replace hB1 := below_then hB1 hwu
      clear hwu
      refine wl_store_d1 rfl _ _ rfl gx rfl rfl hx ?_
      intro wd hxwd hGa
      refine wpList_nil ?_
      simp only [Act.put, List.setIfInBounds_toArray, List.set_cons_zero, List.set_cons_succ]
      go_upto_region 11 with (fail)
      replace h1 := blk_grown h1 hGa n1x
      replace hr := blk_grown hr hGa nrx
      replace hO2 := hO2.box hx hGa (by decide) (by decide) (by decide)
      replace hoF := own_box hoF hx hGa (by decide)
      replace hoE := own_box hoE hx hGa (by decide)
      replace hB1 := below_grown hB1 hGa hgxw
      clear hx hGa
      have hx := hxwd
      clear hxwd
      refine wp_region_text 7 [eqS (.pointer (some ⟨gx, 257, none⟩)), eqS (.slice (some ⟨gF, 0, none⟩) (x.fo.length + 1) cF), eqS (.pointer (some ⟨g1, 257, none⟩)), eqS (.slice x.B x.fo.length x.d), eqS (.int .i64 (((x.fo.length : Nat) : Int))), eqS (.slice (some ⟨gF, 0, none⟩) x.fo.length cF), eqS (.pointer (some ⟨gx, 257, none⟩))] [67, 68, 69, 70, 71, 72, 73] (by kernel_rfl) rfl ?_ ?_
      · skip
        refine Steps.cons (fun a' w' hG hB dep => gs_field (want_none rfl) _ _ _ rfl gx (0) (257) (hG.other 3 rfl) (fun wz => field_dfa_2 gx (0) wz) rfl) ?_
        refine Steps.cons (fun a' w' hG hB dep => gs_load1 (want_none rfl) _ _ rfl gx (257) (dep 0 rfl 67 rfl) (.slice (some ⟨gF, 0, none⟩) (x.fo.length + 1) cF) (blk_d2 (blk_then hx hB)) _ Try.underlying32 rfl rfl) ?_
        refine Steps.cons (fun a' w' hG hB dep => gs_field (want_none rfl) _ _ _ rfl g1 (0) (257) (hG.other 1 rfl) (fun wz => field_dfa_2 g1 (0) wz) rfl) ?_
        refine Steps.cons (fun a' w' hG hB dep => gs_load1 (want_none rfl) _ _ rfl g1 (257) (dep 2 rfl 69 rfl) (.slice x.B x.fo.length x.d) (blk_d2 (blk_then h1 hB)) _ Try.underlying32 rfl rfl) ?_
        refine Steps.cons (fun a' w' hG hB dep => gs_len (want_none rfl) _ _ rfl under_rules _ x.fo.length x.d (dep 3 rfl 70 rfl) rfl) ?_
        refine Steps.cons (fun a' w' hG hB dep => gs_slice_to (want_none rfl) _ _ _ rfl under_rules 1 size_ruleE ⟨gF, 0, none⟩ (x.fo.length + 1) cF x.fo.length (dep 1 rfl 68 rfl) (dep 4 rfl 71 rfl) (by omega) rfl) ?_
        refine Steps.cons (fun a' w' hG hB dep => gs_field (want_none rfl) _ _ _ rfl gx (0) (257) (hG.other 3 rfl) (fun wz => field_dfa_2 gx (0) wz) rfl) ?_
        exact Steps.nil
      intro u wu hwu ans
      have hus72 : u 72 = (.slice (some ⟨gF, 0, none⟩) x.fo.length cF) := ans 5 72 (by decide) rfl
      have hus73 : u 73 = (.pointer (some ⟨gx, 257, none⟩)) := ans 6 73 (by decide) rfl
      clear ans
      simp only [putAll, List.foldl_cons, List.foldl_nil, Act.put, List.setIfInBounds_toArray, List.set_cons_zero, List.set_cons_succ, hus72, hus73]
      clear hus72 hus73
      simp only [List.drop]
      replace h1 := blk_then h1 hwu
      replace hr := blk_then hr hwu
      replace hx := blk_then hx hwu
      replace hO2 := hO2.then_ hwu
      replace hoF := hoF.then_ hwu
      replace hoE := hoE.then_ hwu
      replace hB1 := below_then hB1 hwu
      clear hwu
      refine wl_store_d2 rfl _ _ rfl gx rfl rfl hx ?_
      intro we hxwe hGa
      refine wpList_nil ?_
      simp only [Act.put, List.setIfInBounds_toArray, List.set_cons_zero, List.set_cons_succ]
      go_upto_region 12 with (fail)
      replace h1 := blk_grown h1 hGa n1x
      replace hr := blk_grown hr hGa nrx
      replace hO2 := hO2.box hx hGa (by decide) (by decide) (by decide)
      replace hoF := own_box hoF hx hGa (by decide)
      replace hoE := own_box hoE hx hGa (by decide)
      replace hB1 := below_grown hB1 hGa hgxw
      clear hx hGa
      have hx := hxwe
      clear hxwe
      refine wp_region_text 7 [eqS (.pointer (some ⟨gx, 258, none⟩)), eqS (.slice (some ⟨gE, 0, none⟩) (x.en.length + 1) c8), eqS (.pointer (some ⟨g1, 258, none⟩)), eqS (.slice x.C x.en.length x.e), eqS (.int .i64 (((x.en.length : Nat) : Int))), eqS (.slice (some ⟨gE, 0, none⟩) x.en.length c8), eqS (.pointer (some ⟨gx, 258, none⟩))] [74, 75, 76, 77, 78, 79, 80] (by kernel_rfl) rfl ?_ ?_
      · skip
        refine Steps.cons (fun a' w' hG hB dep => gs_field (want_none rfl) _ _ _ rfl gx (0) (258) (hG.other 3 rfl) (fun wz => field_dfa_3 gx (0) wz) rfl) ?_
        refine Steps.cons (fun a' w' hG hB dep => gs_load1 (want_none rfl) _ _ rfl gx (258) (dep 0 rfl 74 rfl) (.slice (some ⟨gE, 0, none⟩) (x.en.length + 1) c8) (blk_d3 (blk_then hx hB)) _ Try.underlying32 rfl rfl) ?_
        refine Steps.cons (fun a' w' hG hB dep => gs_field (want_none rfl) _ _ _ rfl g1 (0) (258) (hG.other 1 rfl) (fun wz => field_dfa_3 g1 (0) wz) rfl) ?_
        refine Steps.cons (fun a' w' hG hB dep => gs_load1 (want_none rfl) _ _ rfl g1 (258) (dep 2 rfl 76 rfl) (.slice x.C x.en.length x.e) (blk_d3 (blk_then h1 hB)) _ Try.underlying32 rfl rfl) ?_
        refine Steps.cons (fun a' w' hG hB dep => gs_len (want_none rfl) _ _ rfl under_rules _ x.en.length x.e (dep 3 rfl 77 rfl) rfl) ?_
        refine Steps.cons (fun a' w' hG hB dep => gs_slice_to (want_none rfl) _ _ _ rfl under_rules 1 size_ruleE ⟨gE, 0, none⟩ (x.en.length + 1) c8 x.en.length (dep 1 rfl 75 rfl) (dep 4 rfl 78 rfl) (by omega) rfl) ?_
        refine Steps.cons (fun a' w' hG hB dep => gs_field (want_none rfl) _ _ _ rfl gx (0) (258) (hG.other 3 rfl) (fun wz => field_dfa_3 gx (0) wz) rfl) ?_
        exact Steps.nil
      intro u wu hwu ans
      have hus79 : u 79 = (.slice (some ⟨gE, 0, none⟩) x.en.length c8) := ans 5 79 (by decide) rfl
      have hus80 : u 80 = (.pointer (some ⟨gx, 258, none⟩)) := ans 6 80 (by decide) rfl
      clear ans
      simp only [putAll, List.foldl_cons, List.foldl_nil, Act.put, List.setIfInBounds_toArray, List.set_cons_zero, List.set_cons_succ, hus79, hus80]
      clear hus79 hus80
      simp only [List.drop]
      replace h1 := blk_then h1 hwu
      replace hr := blk_then hr hwu
      replace hx := blk_then hx hwu
      replace hO2 := hO2.then_ hwu
      replace hoF := hoF.then_ hwu
      replace hoE := hoE.then_ hwu
      replace hB1 := below_then hB1 hwu
      clear hwu
      refine wl_store_d3 rfl _ _ rfl gx rfl rfl hx ?_
      intro wf hxwf hGa
      refine wpList_nil ?_
      simp only [Act.put, List.setIfInBounds_toArray, List.set_cons_zero, List.set_cons_succ]
      go_upto_region 13 with (fail)
      replace h1 := blk_grown h1 hGa n1x
      replace hr := blk_grown hr hGa nrx
      replace hO2 := hO2.box hx hGa (by decide) (by decide) (by decide)
      replace hoF := own_box hoF hx hGa (by decide)
      replace hoE := own_box hoE hx hGa (by decide)
      replace hB1 := below_grown hB1 hGa hgxw
      clear hx hGa
      have hx := hxwf
      clear hxwf
      go_wp2_with (first | (refine wl_load_dfa rfl _ rfl gx rfl hx ?_) | (refine wl_store_dfa rfl _ _ rfl gr rfl rfl hr ?_; intro wg hrg hGg))
      refine ret_cell rfl _ rfl hrg Try.underlying47 rfl (info_dfa.trans (by rw [dfaC_size])) rfl ?_
      refine ⟨below_grown hB1 hGg hgrw, ⟨x.f, rs, some ⟨gN, 0, none⟩, c9, x.fo, some ⟨gF, 0, none⟩, cF, x.en, some ⟨gE, 0, none⟩, c8⟩, rz, by simp only [hrn.out], ?_, hrzl, ?_⟩
      · exact ((rows_full hO2 hoF hoE (fun a b ha hb => by injection ha with ha; injection hb with hb; subst ha hb; exact hne)).box hr hGg (by decide) (by decide) (by decide)).mono hbvw
      · exact Tb.same_ rfl hrs3.out rfl rfl
theorem enter_cop (args : Array Value) (w : World) : (callFunc 21 args).run Try.prog w = .ok (.enter 21 args) w := by kernel_rfl
end Go.Proofs.Ytgahdookojbbiaa
