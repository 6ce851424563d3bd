/- Part 8 of a proof; packed: the texts that it was made of follow one another. No condition beyond those named in each lemma. -/
import Derived.Test.YtjplgcmfifoefaaGreatDoorPr1
import Derived.Test.YtjplgcmfifoefaaGreatDoorPr2
import Derived.Test.YtjplgcmfifoefaaGreatDoorPr3
import Derived.Test.YtjplgcmfifoefaaGreatDoorPr7
import Derived.Test.YtjplgcmfifoefaaGreatDoorRows
import Derived.Below
import Derived.ChangeOld
import Derived.Deep.Cut
import Derived.Deep.Slices
import Derived.JoinedCond
import Derived.LaidMore
import Derived.Lib.LaidU8T
import Derived.Lib.SmallJoins
import Derived.OpenShut
import Derived.ProofKit
import Derived.ShutString
import Derived.SizedLaws
import Derived.Stop.LaidErr
namespace Go.Proofs.YtjplgcmfifoefaaGreatDoor
open Go.RowKit Go.Shelf Go.Maps
set_option linter.unusedVariables false
set_option linter.unusedSimpArgs false
attribute [local go_sem] Oper.semAt_some

theorem wl_store_one {α : Type} {enc : α → Array Value} {base : Nat} {e : TypeId} {w : World} {ys : List α} {ops : Array Oper} {rest : List Oper} {o : Oper} {a : Act} {Q : Exit → Act → World → Prop} (hsE : ∀ y, (enc y).size = 1) (hgd : o.guard = none) (t : TypeId) (hsz : (Tryz.prog.info? t).map (·.size) = some 1) (x y : Operand) (ho : o.op = .store t x y)
    (g k n cap : Nat) (hx : a.eval x = .pointer (some ⟨g, k, none⟩)) (z : α) (hy : (enc z).toList = [a.eval y]) (hyc : (a.eval y).cells = #[a.eval y]) (hy1 : (a.eval y).oneCell' = true) (hown : Own w base e 1 enc (.slice (some ⟨g, 0, none⟩) n cap) ys) (hk : k < ys.length)
    (h : ∀ w', Own w' base e 1 enc (.slice (some ⟨g, 0, none⟩) n cap) (ys.set k z) → w.grownBy w' (some g) → wpList Tryz.prog ops Q rest (a.put o.dst undef) w') : wpList Tryz.prog ops Q (o :: rest) a w := by
  have hcell : ∃ u, w.cell? ⟨g, k, none⟩ = some u ∧ (enc ys[k]).toList = [u] := by
    have h0 : 0 < (enc ys[k]).size := by rw [hsE]; decide
    have := hown.row hsE k hk 0 _ (Array.getElem?_eq_getElem h0)
    rw [Nat.mul_one] at this
    refine ⟨_, this, ?_⟩
    apply List.ext_getElem
    · simp [hsE]
    · intro i h1 h2
      have : i = 0 := by simpa using h2
      subst this
      simp
  obtain ⟨u, hcell, hu⟩ := hcell
  have hfr := hown.frozen k
  obtain ⟨v, hv⟩ : ∃ v, a.eval y = v := ⟨_, rfl⟩
  rw [hv] at hy hyc hy1
  have hrun : (storeVar t ⟨g, k, none⟩ v).run Tryz.prog w = .ok () (w.setCell ⟨g, k, none⟩ v) := by
    cases hq : Tryz.prog.info? t with
    | none => rw [hq] at hsz; cases hsz
    | some j =>
      have hs : j.size = 1 := by rw [hq] at hsz; simpa using hsz
      have e := run_store Tryz.prog w ⟨g, k, none⟩ v .plain hy1
      simp only [hcell, hfr, Bool.false_eq_true, if_false] at e
      have e0 : (⟨g, k, none⟩ : Addr).add 0 = ⟨g, k, none⟩ := rfl
      simp [storeVar, sizeOf, typeInfo, hq, hs, hyc, storeCells, e0, e]
  refine wpList_plain hgd fun _ hK => ?_
  unfold Oper.wp execOp
  simp only [ho, hx, hv, Instr.storeAt, Instr.sureAddr, Sem.run_bind, Sem.run_pure, Result.andThen_ok, hrun]
  have o1 := hown.setCell (i := k) (q := 0) (y' := z) (u := v) hsE hk (by decide) (by rw [hu, hy]; rfl)
  rw [Nat.mul_one, Nat.add_zero] at o1
  exact hK _ _ (h _ o1 (only_setCell (only_refl _ _) (.inl rfl) _))
def xorZ (p q : Int) : Int := IntKind.i64.wrap (((BitVec.ofInt 64 p) ^^^ (BitVec.ofInt 64 q)).toNat : Int)
theorem xorZ_ok (p q : Int) : i64z (xorZ p q) := by
  unfold xorZ i64z
  rw [IntKind.wrap_i64]
  omega
theorem gs_xor_i {P : Program} {ops : Array Oper} {S : Nat → GSpec} {Q : Exit → Act → World → Prop} {i : Nat} {o : Oper} {a : Act} {w : World} (hw : Region.wanted o (yielded ops a.tmps) = true) (t t2 : TypeId) (x y : Operand) (ho : o.op = .binOp .xor t x y t2) (p q : Int) (hx : a.eval x = .int .i64 p) (hy : a.eval y = .int .i64 q)
    (hp : (S i).p (.int .i64 (xorZ p q)) w) : GStep P ops S Q i o a w :=
  gs_bin hw _ _ _ x y ho _ _ _ hx hy (by rw [eqGuard_at_int]; rfl) (by
    unfold binOp
    simp [Op.intArith, Op.intBits, Sem.run]
    rfl) hp
theorem gs_neq_same {ops : Array Oper} {S : Nat → GSpec} {Q : Exit → Act → World → Prop} {i : Nat} {o : Oper} {a : Act} {w : World} (hw : Region.wanted o (yielded ops a.tmps) = true) (t t2 : TypeId) (x y : Operand) (ho : o.op = .binOp .neq t x y t2) (p : ByteArray) (hx : a.eval x = .string p) (hy : a.eval y = .string p)
    (hp : (S i).p (.bool false) w) : GStep Tryz.prog ops S Q i o a w :=
  gs_bin hw _ _ _ x y ho _ _ _ hx hy (by rw [eqGuard_at_string]; rfl) (by rw [binOp_string_neq, beq_self_eq_true]; rfl) hp
theorem gs_eql_same {ops : Array Oper} {S : Nat → GSpec} {Q : Exit → Act → World → Prop} {i : Nat} {o : Oper} {a : Act} {w : World} (hw : Region.wanted o (yielded ops a.tmps) = true) (t t2 : TypeId) (x y : Operand) (ho : o.op = .binOp .eql t x y t2) (p : ByteArray) (hx : a.eval x = .string p) (hy : a.eval y = .string p)
    (hp : (S i).p (.bool true) w) : GStep Tryz.prog ops S Q i o a w :=
  gs_bin hw _ _ _ x y ho _ _ _ hx hy (by rw [eqGuard_at_string]; rfl) (by rw [binOp_string_eql, beq_self_eq_true]; rfl) hp
theorem enter_same (args : Array Value) (w : World) : (callFunc 9 args).run Tryz.prog w = .ok (.enter 9 args) w := by kernel_rfl
theorem run_b0i (w : World) : (Instr.buildSlice 23 0 #[]).run Tryz.prog w = .ok (.slice (some ⟨w.heap.size, 0, none⟩) 0 0) (w.alloc (.cells #[] 3)) := by kernel_rfl
theorem wl_b0i {ops : Array Oper} {rest : List Oper} {o : Oper} {a : Act} {w : World} {Q : Exit → Act → World → Prop} (hgd : o.guard = none) (ho : o.op = .buildSlice 23 0 #[]) (h : wpList Tryz.prog ops Q rest (a.put o.dst (.slice (some ⟨w.heap.size, 0, none⟩) 0 0)) (w.alloc (.cells #[] 3))) : wpList Tryz.prog ops Q (o :: rest) a w :=
  wpList_plain hgd fun _ hK => by
    unfold Oper.wp execOp
    simp only [ho, List.map_toArray, List.map_nil, Sem.run_bind, run_b0i, Result.andThen_ok, Sem.run_pure]
    exact hK _ _ h
/-- numbers appended to a row of the call's own -/
theorem wl_appZ {ops : Array Oper} {rest : List Oper} {o : Oper} {a : Act} {w : World} {Q : Exit → Act → World → Prop} (hgd : o.guard = none) (s x : Operand) (ho : o.op = .call { callee := .builtin .append, args := #[s, x], argTypes := #[23, 23] })
    (base : Nat) (l ys : List Int) {A B : Option Addr} {n c m d lo : Nat} (hs : a.eval s = .slice A n c) (hx : a.eval x = .slice B m d) (hm : m = ys.length) (hy : SliceOf w lo 1 encZ B ys) (hown : Own w base 3 1 encZ (.slice A n c) l) (hn : n = l.length) (hl : l.length + ys.length ≤ 1099511627776) (hbase : base ≤ w.heap.size)
    (h : ∀ A' c' w', Own w' base 3 1 encZ (.slice A' (n + m) c') (l ++ ys) → w.grownBy w' (Value.slice A n c).ownBlock → wpList Tryz.prog ops Q rest (a.put o.dst (.slice A' (n + m) c')) w') : wpList Tryz.prog ops Q (o :: rest) a w := by
  obtain ⟨ii, hii, hz0, hz1, hz2⟩ := info_parts info_int3
  subst hn
  subst hm
  refine wl_append _ hgd _ _ 23 ho base 3 ii _ 1 8 Tryz.underlying23 hii hz0 hz1 hz2 rfl (by decide) encZ_size encZ_one (.slice A l.length c) l hs hown lo _ ys.length d ys hx rfl hy (by unfold maxLen; omega) (by omega) hbase ?_
  intro v' w' ho' hg hv
  obtain ⟨A', c', rfl, _, _⟩ := ho'.shape
  have hl8 : (l ++ ys).length = l.length + ys.length := by simp
  rw [hl8] at ho' hv ⊢
  exact h _ _ _ ho' hg
theorem SliceOf.pre {α : Type} {enc : α → Array Value} {w : World} {B size : Nat} {A : Option Addr} {l r : List α} (h : SliceOf w B size enc A (l ++ r)) : SliceOf w B size enc A l := by
  rcases h with h | ⟨b, off, e, hlt, hrow⟩
  · exact .inl (List.append_eq_nil_iff.1 h).1
  · refine .inr ⟨b, off, e, hlt, fun i hi => ?_⟩
    have h1 := hrow i (by rw [List.length_append]; omega)
    rw [List.getElem_append_left hi] at h1
    exact h1
set_option maxRecDepth 100000 in
set_option maxHeartbeats 16000000 in
theorem scriptPrints_any (x : EvV) (ks : List Int) (w : World) (hx : EvOk w x ks) (hS : SOk w) :
    Calls Tryz.prog 4 #[.agg x.C] w fun e w' => e = .returned (.bool true) ∧ Below w.heap.size w w' := by
  have h7 := hS.size
  replace hS := Lib.hid hS
  go_enter Tryz.func4, Tryz.ntmps4
  go_upto_region 1 with (fail)
  have hE : Blk (w.alloc (.cells x.C 25)) w.heap.size 25 x.C := Blk.new w _ _
  have hBw := below_alloc (Below.refl w.heap.size w) (.cells x.C 25)
  obtain ⟨w1, hw1⟩ : ∃ y, y = w.alloc (.cells x.C 25) := ⟨_, rfl⟩
  rw [← hw1] at hE hBw ⊢
  clear hw1
  have kF := fixed_any w1 (hS.out.then_ h7 hBw)
  obtain ⟨gE, hgE⟩ : ∃ y, y = w.heap.size := ⟨_, rfl⟩
  rw [← hgE] at hE ⊢
  go_upto_region 3 with (go_at_call 6; refine kF.mono ?_; clear kF; rintro e w2 ⟨rfl, hB2⟩; refine Lib.hid ?_)
  have hE2 := blk_then hE hB2
  have hBw2 : Below w.heap.size w w2 := hBw.trans (hB2.mono hBw.size)
  have hx2 := hx.then_ hBw2
  have hml := Lib.hid hx.len
  have hfew := hx.few
  replace hgE := Lib.hid hgE
  have cS : w2.cell? ⟨gE, 6, none⟩ = some (.slice x.A x.m x.c) := hE2.cellv rfl
  have hsl2 := hx2.sl
  have hgl := hE2.lt
  replace hx := Lib.hid hx
  replace hx2 := Lib.hid hx2
  clear hE hBw hB2
  go_upto_region 4 with (first
    | (refine wl_b0i rfl rfl ?_)
    | (refine wl_appZ rfl _ _ rfl w2.heap.size [] ks rfl rfl hml.out (SliceOf.then_' hsl2 (below_alloc (Below.refl w2.heap.size w2) (.cells #[] 3))) (own_made (ys := []) encZ_size (Blk.new w2 3 #[]) rfl rfl (Nat.le_refl _) (by unfold maxLen; decide)) rfl (by have := hml.out; simp; omega) (by rw [World.size_alloc]; omega) ?_; intro A3 c3 w3 ho3 hg3; rw [List.nil_append, Nat.zero_add] at ho3; rw [Nat.zero_add])
    | (refine wl_bsZ1 rfl _ rfl 77 rfl ?_)
    | (refine wl_pushZ rfl _ _ rfl w2.heap.size ks 77 rfl rfl (Blk.new _ _ _) (ho3.alloc _) hml.out (by have := hml.out; omega) (by have := hg3.size; rw [World.size_alloc] at this; rw [World.size_alloc]; omega) ?_; intro A c w4 ho4 hg4))
  have hB23 : Below w2.heap.size w2 w3 := (below_alloc (Below.refl w2.heap.size w2) (.cells #[] 3)).grown hg3 (by rw [World.size_alloc]; omega) (by rintro k ⟨⟩; exact Nat.le_refl _)
  have hB24 : Below w2.heap.size w2 w4 := (hB23.alloc hB23.size (.cells (encZ 77) 3)).grown hg4 (by rw [World.size_alloc]; have := hB23.size; omega) (fun k e => (ho3.lt k e).1)
  have hE4 := blk_then hE2 hB24
  have hBw4 := hBw2.trans (hB24.mono hBw2.size)
  obtain ⟨gA, cap, hvA, hAb, hAl, hAc, hAm⟩ := ho4.form (by simp)
  injection hvA with hA hq1 hq2
  subst hA
  subst hq2
  have hmc : x.m + 1 ≤ c := by rw [List.length_append, ← hml.out] at hAc; exact hAc
  have hz24 := hB24.size
  clear hg3 hg4 ho3 hB23 hsl2 cS hq1 hAm hAc
  go_upto_region 5 with (first
    | (refine wpList_load_row rfl _ _ rfl gE rfl _ _ _ _ hE4 Tryz.underlying25 rfl (info_ev.trans rfl) ?_)
    | (refine wl_store_ev rfl _ _ rfl w4.heap.size x (evK 0) rfl rfl (Blk.new _ _ _) ?_; intro w5 hX hg5))
  have hB45 := below_grown (below_alloc (Below.refl w4.heap.size w4) _) hg5 (Nat.le_refl _)
  obtain ⟨gX, hgX⟩ : ∃ y, y = w4.heap.size := ⟨_, rfl⟩
  rw [← hgX] at hX ⊢
  have hE := blk_then hE4 hB45
  have ho5 := ho4.then_ hB45
  have hBw5 := hBw4.trans (hB45.mono hBw4.size)
  have hXl := hX.lt
  have hz45 := hB45.size
  have hgAX : gA < gX := by omega
  have hgEX : gE < gX := by omega
  replace hgX := Lib.hid hgX
  clear hg5 hB45 hE4 hE2 ho4 hBw4
  refine wp_region_text 6 [eqS (.slice (some ⟨gA, 0, none⟩) (x.m + 1) c), eqS (.pointer (some ⟨gE, 6, none⟩)), eqS (.slice x.A x.m x.c), eqS (.int .i64 (((x.m : Nat) : Int))), eqS (.slice (some ⟨gA, 0, none⟩) x.m c), eqS (.pointer (some ⟨gX, 6, none⟩))] [22, 23, 24, 25, 26, 27] (by kernel_rfl) (by kernel_rfl) ?_ ?_
  · skip
    refine Steps.cons (fun a' w' hG hB dep => gs_move (want_none rfl) _ rfl (id (hG.other 3 rfl))) ?_
    refine Steps.cons (fun a' w' hG hB dep => gs_field (want_none rfl) _ _ _ rfl gE (0) (6) (hG.other 1 rfl) (fun wz => field_evx_6 gE wz) rfl) ?_
    refine Steps.cons (fun a' w' hG hB dep => gs_load1 (want_none rfl) _ _ rfl gE (6) (dep 1 rfl 23 rfl) (.slice x.A x.m x.c) ((blk_then hE hB).cellv (i := 6) rfl) _ Tryz.underlying23 rfl rfl) ?_
    refine Steps.cons (fun a' w' hG hB dep => gs_len (want_none rfl) _ _ rfl under_ints x.A x.m x.c (dep 2 rfl 24 rfl) rfl) ?_
    refine Steps.cons (fun a' w' hG hB dep => gs_slice_to (want_none rfl) _ _ _ rfl under_ints 1 size_intE ⟨gA, 0, none⟩ (x.m + 1) c x.m (dep 0 rfl 22 rfl) (dep 3 rfl 25 rfl) (by omega) rfl) ?_
    refine Steps.cons (fun a' w' hG hB dep => gs_field (want_none rfl) _ _ _ rfl gX (0) (6) (hG.other 4 rfl) (fun wz => field_evx_6 gX wz) rfl) ?_
    exact Steps.nil
  intro u w6 hw6 ans
  have hus26 : u 26 = (.slice (some ⟨gA, 0, none⟩) x.m c) := ans 4 26 (by decide) rfl
  have hus27 : u 27 = (.pointer (some ⟨gX, 6, none⟩)) := ans 5 27 (by decide) rfl
  clear ans
  simp only [putAll, List.foldl_cons, List.foldl_nil, Act.put, List.setIfInBounds_toArray, List.set_cons_zero, List.set_cons_succ, hus26, hus27]
  clear hus26 hus27
  simp only [List.drop]
  have hX6 := blk_then hX hw6
  go_upto_region 6 with (refine wl_store_cell rfl _ _ _ rfl gX 6 rfl _ _ ({ x with A := some ⟨gA, 0, none⟩, c := c } : EvV).C hX6 (by show 6 < 7; decide) isz_ints rfl rfl rfl ?_; intro w7 hX7 hg7)
  have hE6 := blk_then hE hw6
  have ho6 := ho5.then_ hw6
  have hz56 := hw6.size
  have hE7 := blk_grown hE6 hg7 (by omega)
  have ho7 := ho6.kept_ hg7 (fun j h1 h2 => by
    have h3 : j = gA := by
      have : some gA = some j := h1
      injection this with this
      exact this.symm
    injection h2 with h2
    omega)
  have hBw7 : Below w.heap.size w w7 := (hBw5.trans (hw6.mono hBw5.size)).grown hg7 (by have := hBw5.size; omega) (by rintro k ⟨⟩; have := hBw2.size; omega)
  have hAl7 : gA < w7.heap.size := by have := hg7.size; omega
  have hB27 : w2.heap.size ≤ w7.heap.size := by have := hg7.size; omega
  obtain ⟨y, hy⟩ : ∃ y : EvV, y = { x with A := some ⟨gA, 0, none⟩, c := c } := ⟨_, rfl⟩
  rw [← hy] at hX7
  have hyk : y.ev ks = x.ev ks := by rw [hy]; rfl
  have hyA : y.A = some ⟨gA, 0, none⟩ ∧ y.m = x.m ∧ y.c = c := by rw [hy]; exact ⟨rfl, rfl, rfl⟩
  have hy6 : y.C[6]? = some (.slice (some ⟨gA, 0, none⟩) x.m c) := by rw [hy]; rfl
  have hyok : ∀ (W : World) (ks' : List Int), ks'.length = ks.length → (∀ z ∈ ks', i64z z) → SliceOf W W.heap.size 1 encZ (some ⟨gA, 0, none⟩) ks' → EvOk W y ks' := fun W ks' h1 h2 h3 => by
    have h := hx.out
    refine ⟨?_, ?_, ?_, ?_, ?_, ⟨?_, h2⟩, ?_⟩
    · rw [hy]; exact h.n1
    · rw [hy]; exact h.n2
    · rw [hy]; exact h.n3
    · rw [hyA.2.1, h.len, h1]
    · rw [hyA.2.1]; exact h.few
    · rw [hy]; exact h.ints.1
    · rw [hyA.1]; exact h3
  replace hy := Lib.hid hy
  have hyokH := Lib.hid hyok
  have hykH := Lib.hid hyk
  have hsK7 : SliceOf w7 w7.heap.size 1 encZ (some ⟨gA, 0, none⟩) ks := (ho7.slice_all encZ_size).pre
  have hx7 := Lib.hid (hx.out.then_ hBw7)
  have hy7 := Lib.hid (hyok w7 ks rfl hx.out.ints.2 hsK7)
  have hS7 := Lib.hid (hS.out.then_ h7 hBw7)
  have kR := rprint_any x ks w7 hx7.out
  obtain ⟨U, hU⟩ : ∃ U : ByteArray, ⟨(printL (x.ev ks)).toArray⟩ = U := ⟨_, rfl⟩
  obtain ⟨E, hEr⟩ : ∃ E, printE (x.ev ks) = E := ⟨_, rfl⟩
  unfold strV at kR
  rw [hU, hEr] at kR
  clear hyok hyk hsK7 hX hX6 hE hE6 ho5 ho6 hBw5 hw6 hg7 hz56 hXl hz24 hB24 hz45 hAl
  go_upto_region 7 with (first
    | (refine wpList_load_row rfl _ _ rfl gE rfl _ _ _ _ hE7 Tryz.underlying25 rfl (info_ev.trans rfl) ?_)
    | (go_at_call 10; refine kR.mono ?_; clear kR; rintro e w8 ⟨rfl, hB8⟩; refine Lib.hid ?_))
  have hE8 := blk_then hE7 hB8
  have hX8 := blk_then hX7 hB8
  have ho8 := ho7.then_ hB8
  have hBw8 := hBw7.trans (hB8.mono hBw7.size)
  have kP := print_any y ks w8 (hy7.out.then_ hB8) (hS7.out.then_ (Nat.le_trans h7 hBw7.size) hB8)
  unfold strV at kP
  rw [hykH.out, hU, hEr] at kP
  have hx8 := Lib.hid (hx7.out.then_ hB8)
  have hy8 := Lib.hid (hy7.out.then_ hB8)
  clear hE7 hX7 ho7 hBw7
  go_upto_region 8 with (first
    | (refine wpList_load_row rfl _ _ rfl gX rfl _ _ _ _ hX8 Tryz.underlying25 rfl (info_ev.trans rfl) ?_)
    | (go_at_call 11; refine kP.mono ?_; clear kP; rintro e w9 ⟨rfl, hB9⟩; refine Lib.hid ?_))
  have hE := blk_then hE8 hB9
  have hX := blk_then hX8 hB9
  have ho9 := ho8.then_ hB9
  have hBw9 := hBw8.trans (hB9.mono hBw8.size)
  have hx9 := hx8.out.then_ hB9
  have hy9 := hy8.out.then_ hB9
  have kS : ∀ w', Below w9.heap.size w9 w' → Calls Tryz.prog 9 #[.agg y.C, .agg x.C] w' fun e w2 => e = .returned (.bool true) ∧ Below w'.heap.size w' w2 := fun w' hB => by
    have h := same_any y x ks ks w' ((hy9.toW).then_ hB) ((hx9.toW).then_ hB)
    rw [hykH.out, decide_eq_true rfl] at h
    exact h
  have hAl : gA < w9.heap.size := by have := hB8.size; have := hB9.size; omega
  have c77 : w9.cell? ⟨gA, 0 + x.m * 1, none⟩ = some (.int .i64 77) := by
    have h := ho9.row encZ_size x.m (by rw [List.length_append, ← hml.out]; simp) 0 (.int .i64 77) (by
      have : (ks ++ [77])[x.m]'(by rw [List.length_append, ← hml.out]; simp) = 77 := by simp [hml.out]
      rw [this]
      rfl)
    rw [Nat.zero_add]
    exact h
  replace hx9 := Lib.hid hx9
  replace hy9 := Lib.hid hy9
  have c77H := Lib.hid c77
  clear hE8 hX8 ho8 hBw8 c77
  have c77 := c77H.out
  refine wp_region_text 23 [eqS (.string U), eqS (.string U), eqS (.bool false), eqS (.bool false), eqS (vF (true && (false == false)) (.int .i64 (E))), eqS (vF (true && (false == false)) (.int .i64 (E))), eqS (vF (true && (false == false)) (.bool (((E : Int) != (E : Int))))), eqS (.bool (false || (((E : Int) != (E : Int))))), eqS (.bool (false || (((E : Int) != (E : Int))))), eqS (vF (true && ((false || (((E : Int) != (E : Int)))) == false)) (.agg y.C)), eqS (vF (true && ((false || (((E : Int) != (E : Int)))) == false)) (.agg x.C)), eqS (vF (true && ((false || (((E : Int) != (E : Int)))) == false)) (.bool true)), eqS (vF (true && ((false || (((E : Int) != (E : Int)))) == false)) (.bool (!true))), eqS (.bool ((false || (((E : Int) != (E : Int)))) || (!true))), eqS (.bool ((false || (((E : Int) != (E : Int)))) || (!true))), eqS (vF (true && (((false || (((E : Int) != (E : Int)))) || (!true)) == false)) (.slice (some ⟨gA, 0, none⟩) (x.m + 1) c)), eqS (vF (true && (((false || (((E : Int) != (E : Int)))) || (!true)) == false)) (.pointer (some ⟨gE, 6, none⟩))), eqS (vF (true && (((false || (((E : Int) != (E : Int)))) || (!true)) == false)) (.slice x.A x.m x.c)), eqS (vF (true && (((false || (((E : Int) != (E : Int)))) || (!true)) == false)) (.int .i64 (((x.m : Nat) : Int)))), eqS (vF (true && (((false || (((E : Int) != (E : Int)))) || (!true)) == false)) (.pointer (some ⟨gA, 0 + x.m * 1, none⟩))), eqS (vF (true && (((false || (((E : Int) != (E : Int)))) || (!true)) == false)) (.int .i64 (77))), eqS (vF (true && (((false || (((E : Int) != (E : Int)))) || (!true)) == false)) (.bool (((77 : Int) != (77 : Int))))), eqS (.bool (((false || (((E : Int) != (E : Int)))) || (!true)) || (((77 : Int) != (77 : Int)))))] [38, 39, 40, 41, 42, 43, 44, 45, 46, 47, 48, 49, 50, 51, 52, 53, 54, 55, 56, 57, 58, 59, 60] (by kernel_rfl) (by kernel_rfl) ?_ ?_
  · skip
    refine Steps.cons (fun a' w' hG hB dep => gs_move (want_none rfl) _ rfl (id (hG.other 7 rfl))) ?_
    refine Steps.cons (fun a' w' hG hB dep => gs_move (want_none rfl) _ rfl (id (hG.other 5 rfl))) ?_
    refine Steps.cons (fun a' w' hG hB dep => gs_neq_same (want_none rfl) _ _ _ _ rfl U (dep 0 rfl 38 rfl) (dep 1 rfl 39 rfl) rfl) ?_
    refine Steps.cons (fun a' w' hG hB dep => gs_move (want_none rfl) _ rfl (id (dep 2 rfl 40 rfl))) ?_
    refine Steps.cons (fun a' w' hG hB dep => gs_guard (c := true) (b' := false) rfl rfl (dep 3 rfl 41 rfl) (fun hc he hw => gs_move hw _ rfl (Eq.trans (hG.other 8 rfl) (vF_yes (on_g hc he) _).symm)) (fun hn => vF_no hn _)) ?_
    refine Steps.cons (fun a' w' hG hB dep => gs_guard (c := true) (b' := false) rfl rfl (dep 3 rfl 41 rfl) (fun hc he hw => gs_move hw _ rfl (Eq.trans (hG.other 6 rfl) (vF_yes (on_g hc he) _).symm)) (fun hn => vF_no hn _)) ?_
    refine Steps.cons (fun a' w' hG hB dep => gs_guard (c := true) (b' := false) rfl rfl (dep 3 rfl 41 rfl) (fun hc he hw => gs_neq_int hw _ _ _ _ rfl _ _ _ (Eq.trans (dep 4 rfl 42 rfl) (vF_yes (on_g hc he) _)) (Eq.trans (dep 5 rfl 43 rfl) (vF_yes (on_g hc he) _)) (Eq.trans (congrArg Value.bool rfl) (vF_yes (on_g hc he) _).symm)) (fun hn => vF_no hn _)) ?_
    refine Steps.cons (fun a' w' hG hB dep => gs_pick (want_none rfl) _ _ _ rfl false (dep 3 rfl 41 rfl) (id (pick_or2 (c := true) rfl (dep 6 rfl 44 rfl)))) ?_
    refine Steps.cons (fun a' w' hG hB dep => gs_move (want_none rfl) _ rfl (id (dep 7 rfl 45 rfl))) ?_
    refine Steps.cons (fun a' w' hG hB dep => gs_guard (c := true) (b' := (false || (((E : Int) != (E : Int))))) rfl rfl (dep 8 rfl 46 rfl) (fun hc he hw => gs_load hw _ _ rfl gX (hG.other 4 rfl) _ _ (blk_then hX hB) _ Tryz.underlying25 rfl (info_ev.trans rfl) (vF_yes (on_g hc he) _).symm) (fun hn => vF_no hn _)) ?_
    refine Steps.cons (fun a' w' hG hB dep => gs_guard (c := true) (b' := (false || (((E : Int) != (E : Int))))) rfl rfl (dep 8 rfl 46 rfl) (fun hc he hw => gs_load hw _ _ rfl gE (hG.other 1 rfl) _ _ (blk_then hE hB) _ Tryz.underlying25 rfl (info_ev.trans rfl) (vF_yes (on_g hc he) _).symm) (fun hn => vF_no hn _)) ?_
    refine Steps.cons (fun a' w' hG hB dep => gs_guard (c := true) (b' := (false || (((E : Int) != (E : Int))))) rfl rfl (dep 8 rfl 46 rfl) (fun hc he hw => gs_call hw _ _ _ rfl enter_same _ (map2 (Eq.trans (dep 9 rfl 47 rfl) (vF_yes (on_g hc he) _)) (Eq.trans (dep 10 rfl 48 rfl) (vF_yes (on_g hc he) _))) ((kS _ hB).mono fun e w2 ⟨hq9, hb9⟩ => ⟨_, hq9, hb9, (vF_yes (on_g hc he) _).symm⟩)) (fun hn => vF_no hn _)) ?_
    refine Steps.cons (fun a' w' hG hB dep => gs_guard (c := true) (b' := (false || (((E : Int) != (E : Int))))) rfl rfl (dep 8 rfl 46 rfl) (fun hc he hw => gs_not_bool hw _ _ rfl _ (Eq.trans (dep 11 rfl 49 rfl) (vF_yes (on_g hc he) _)) (vF_yes (on_g hc he) _).symm) (fun hn => vF_no hn _)) ?_
    refine Steps.cons (fun a' w' hG hB dep => gs_pick (want_none rfl) _ _ _ rfl (false || (((E : Int) != (E : Int)))) (dep 8 rfl 46 rfl) (id (pick_or2 (c := true) rfl (dep 12 rfl 50 rfl)))) ?_
    refine Steps.cons (fun a' w' hG hB dep => gs_move (want_none rfl) _ rfl (id (dep 13 rfl 51 rfl))) ?_
    refine Steps.cons (fun a' w' hG hB dep => gs_guard (c := true) (b' := ((false || (((E : Int) != (E : Int)))) || (!true))) rfl rfl (dep 14 rfl 52 rfl) (fun hc he hw => gs_move hw _ rfl (Eq.trans (hG.other 3 rfl) (vF_yes (on_g hc he) _).symm)) (fun hn => vF_no hn _)) ?_
    refine Steps.cons (fun a' w' hG hB dep => gs_guard (c := true) (b' := ((false || (((E : Int) != (E : Int)))) || (!true))) rfl rfl (dep 14 rfl 52 rfl) (fun hc he hw => gs_field hw _ _ _ rfl gE (0) (6) (hG.other 1 rfl) (fun wz => field_evx_6 gE wz) (vF_yes (on_g hc he) _).symm) (fun hn => vF_no hn _)) ?_
    refine Steps.cons (fun a' w' hG hB dep => gs_guard (c := true) (b' := ((false || (((E : Int) != (E : Int)))) || (!true))) rfl rfl (dep 14 rfl 52 rfl) (fun hc he hw => gs_load1 hw _ _ rfl gE (6) (Eq.trans (dep 16 rfl 54 rfl) (vF_yes (on_g hc he) _)) (.slice x.A x.m x.c) ((blk_then hE hB).cellv (i := 6) rfl) _ Tryz.underlying23 rfl (vF_yes (on_g hc he) _).symm) (fun hn => vF_no hn _)) ?_
    refine Steps.cons (fun a' w' hG hB dep => gs_guard (c := true) (b' := ((false || (((E : Int) != (E : Int)))) || (!true))) rfl rfl (dep 14 rfl 52 rfl) (fun hc he hw => gs_len hw _ _ rfl under_ints x.A x.m x.c (Eq.trans (dep 17 rfl 55 rfl) (vF_yes (on_g hc he) _)) (vF_yes (on_g hc he) _).symm) (fun hn => vF_no hn _)) ?_
    refine Steps.cons (fun a' w' hG hB dep => gs_guard (c := true) (b' := ((false || (((E : Int) != (E : Int)))) || (!true))) rfl rfl (dep 14 rfl 52 rfl) (fun hc he hw => gs_index hw _ _ _ rfl under_ints 1 size_intE gA 0 (x.m + 1) c x.m (Eq.trans (dep 15 rfl 53 rfl) (vF_yes (on_g hc he) _)) (Eq.trans (dep 18 rfl 56 rfl) (vF_yes (on_g hc he) _)) (by omega) (vF_yes (on_g hc he) _).symm) (fun hn => vF_no hn _)) ?_
    refine Steps.cons (fun a' w' hG hB dep => gs_guard (c := true) (b' := ((false || (((E : Int) != (E : Int)))) || (!true))) rfl rfl (dep 14 rfl 52 rfl) (fun hc he hw => gs_load1 hw _ _ rfl gA (0 + x.m * 1) (Eq.trans (dep 19 rfl 57 rfl) (vF_yes (on_g hc he) _)) (.int .i64 (77)) ((hB.cell hAl).trans c77) _ Tryz.underlying3 rfl (vF_yes (on_g hc he) _).symm) (fun hn => vF_no hn _)) ?_
    refine Steps.cons (fun a' w' hG hB dep => gs_guard (c := true) (b' := ((false || (((E : Int) != (E : Int)))) || (!true))) rfl rfl (dep 14 rfl 52 rfl) (fun hc he hw => gs_neq_int hw _ _ _ _ rfl _ _ _ (Eq.trans (dep 20 rfl 58 rfl) (vF_yes (on_g hc he) _)) rfl (Eq.trans (congrArg Value.bool rfl) (vF_yes (on_g hc he) _).symm)) (fun hn => vF_no hn _)) ?_
    refine Steps.cons (fun a' w' hG hB dep => gs_pick (want_none rfl) _ _ _ rfl ((false || (((E : Int) != (E : Int)))) || (!true)) (dep 14 rfl 52 rfl) (id (pick_or2 (c := true) rfl (dep 21 rfl 59 rfl)))) ?_
    exact Steps.nil
  intro u w10 hw10 ans
  have hus60 : u 60 = (.bool (((false || (((E : Int) != (E : Int)))) || (!true)) || (((77 : Int) != (77 : Int))))) := ans 22 60 (by decide) rfl
  clear ans
  simp only [putAll, List.foldl_cons, List.foldl_nil, Act.put, List.setIfInBounds_toArray, List.set_cons_zero, List.set_cons_succ, hus60]
  clear hus60
  simp only [List.drop]
  refine wpList_nil ?_
  clear c77 kS
  have hE10 := blk_then hE hw10
  have hX10 := blk_then hX hw10
  have ho10 := ho9.then_ hw10
  have hBw10 := hBw9.trans (hw10.mono hBw9.size)
  have cL : w10.cell? ⟨gE, 6, none⟩ = some (.slice x.A x.m x.c) := hE10.cellv rfl
  have fE : ((E : Int) != E) = false := by simp
  simp only [fE, bne_self_eq_false, Bool.or_false, Bool.not_true, Bool.false_or]
  by_cases hm0 : x.m = 0
  · have f0 : ((x.m : Int) == 0) = true := beq_iff_eq.2 (by omega)
    have hm0H := Lib.hid hm0
    clear hm0
    go_wp2_with (fail)
    go_ret
    exact ⟨rfl, hBw10⟩
  have f0 : ((x.m : Int) == 0) = false := beq_eq_false_iff_ne.2 (by omega)
  go_upto_region 12 with (fail)
  clear cL f0 fE
  obtain ⟨k0, kt, hks⟩ : ∃ k0 kt, ks = k0 :: kt := by
    cases ks with
    | nil => exact absurd hml.out hm0
    | cons a t => exact ⟨a, t, rfl⟩
  have hAl10 : gA < w10.heap.size := Nat.lt_of_lt_of_le hAl hw10.size
  have cK0 : w10.cell? ⟨gA, 0 + 0 * 1, none⟩ = some (.int .i64 k0) := by
    have h := ho10.row encZ_size 0 (by rw [hks]; simp) 0 (.int .i64 k0) (by simp only [hks]; rfl)
    exact h
  have cK0H := Lib.hid cK0
  have hksH := Lib.hid hks
  replace hm0 : 0 < x.m := by omega
  clear hE hX ho9 hBw9 hAl hw10 cK0 hks
  have cK0 := cK0H.out
  have hAl := hAl10
  have hX := hX10
  refine wp_region_steps 8 [eqS (.pointer (some ⟨gX, 6, none⟩)), eqS (.slice (some ⟨gA, 0, none⟩) x.m c), eqS (.pointer (some ⟨gX, 6, none⟩)), eqS (.slice (some ⟨gA, 0, none⟩) x.m c), eqS (.pointer (some ⟨gA, 0 + 0 * 1, none⟩)), eqS (.int .i64 (k0)), eqS (.int .i64 (xorZ k0 1)), eqS (.pointer (some ⟨gA, 0 + 0 * 1, none⟩))] [65, 66, 67, 68, 69, 70, 71, 72] (by kernel_rfl) (by kernel_rfl) (by kernel_rfl) ?_ ?_
  · skip
    refine Steps.cons (fun a' w' hG hB dep => gs_field (want_none rfl) _ _ _ rfl gX (0) (6) (hG.other 4 rfl) (fun wz => field_evx_6 gX wz) rfl) ?_
    refine Steps.cons (fun a' w' hG hB dep => gs_load1 (want_none rfl) _ _ rfl gX (6) (dep 0 rfl 65 rfl) (.slice (some ⟨gA, 0, none⟩) x.m c) ((blk_then hX hB).cellv (i := 6) hy6) _ Tryz.underlying23 rfl rfl) ?_
    refine Steps.cons (fun a' w' hG hB dep => gs_field (want_none rfl) _ _ _ rfl gX (0) (6) (hG.other 4 rfl) (fun wz => field_evx_6 gX wz) rfl) ?_
    refine Steps.cons (fun a' w' hG hB dep => gs_load1 (want_none rfl) _ _ rfl gX (6) (dep 2 rfl 67 rfl) (.slice (some ⟨gA, 0, none⟩) x.m c) ((blk_then hX hB).cellv (i := 6) hy6) _ Tryz.underlying23 rfl rfl) ?_
    refine Steps.cons (fun a' w' hG hB dep => gs_index (want_none rfl) _ _ _ rfl under_ints 1 size_intE gA 0 x.m c 0 (dep 3 rfl 68 rfl) rfl (by omega) rfl) ?_
    refine Steps.cons (fun a' w' hG hB dep => gs_load1 (want_none rfl) _ _ rfl gA (0 + 0 * 1) (dep 4 rfl 69 rfl) (.int .i64 (k0)) ((hB.cell hAl).trans cK0) _ Tryz.underlying3 rfl rfl) ?_
    refine Steps.cons (fun a' w' hG hB dep => gs_xor_i (want_none rfl) _ _ _ _ rfl k0 1 (dep 5 rfl 70 rfl) rfl rfl) ?_
    refine Steps.cons (fun a' w' hG hB dep => gs_index (want_none rfl) _ _ _ rfl under_ints 1 size_intE gA 0 x.m c 0 (dep 1 rfl 66 rfl) rfl (by omega) rfl) ?_
    exact Steps.nil
  intro u w11 hw11 ans
  have hus71 : u 71 = (.int .i64 (xorZ k0 1)) := ans 6 71 (by decide) rfl
  have hus72 : u 72 = (.pointer (some ⟨gA, 0 + 0 * 1, none⟩)) := ans 7 72 (by decide) rfl
  clear ans
  simp only [putAll, List.foldl_cons, List.foldl_nil, Act.put, List.setIfInBounds_toArray, List.set_cons_zero, List.set_cons_succ, hus71, hus72]
  clear hus71 hus72
  simp only [List.drop]
  clear cK0
  have hX11 := blk_then hX10 hw11
  have ho11 := ho10.then_ hw11
  have hE11 := blk_then hE10 hw11
  have hBw11 := hBw10.trans (hw11.mono hBw10.size)
  go_upto_region 13 with (refine wl_store_one encZ_size rfl _ isz_int _ _ rfl gA 0 (x.m + 1) c rfl (xorZ k0 1) rfl rfl rfl ho11 (by simp) ?_; intro w12 ho12 hg12)
  have hgX12 : gX ≠ gA := by omega
  have hX12 := blk_grown hX11 hg12 hgX12
  have hBw12 : Below w.heap.size w w12 := hBw11.grown hg12 hBw11.size (by rintro k ⟨⟩; have := hBw2.size; omega)
  have hset : (ks ++ [77]).set 0 (xorZ k0 1) = (xorZ k0 1 :: kt) ++ [77] := by rw [hksH.out]; rfl
  rw [hset] at ho12
  have hy12 := Lib.hid (hyokH.out w12 (xorZ k0 1 :: kt) (by rw [hksH.out]; rfl) (by
    intro z hz
    rcases List.mem_cons.1 hz with rfl | hz
    · exact xorZ_ok _ _
    · exact hx.out.ints.2 z (by rw [hksH.out]; exact List.mem_cons_of_mem _ hz)) ((ho12.slice_all encZ_size).pre))
  have hS12 := Lib.hid (hS.out.then_ h7 hBw12)
  have kR := rprint_any y (xorZ k0 1 :: kt) w12 hy12.out
  obtain ⟨U2, hU2⟩ : ∃ U2 : ByteArray, ⟨(printL (y.ev (xorZ k0 1 :: kt))).toArray⟩ = U2 := ⟨_, rfl⟩
  obtain ⟨E2, hE2r⟩ : ∃ E2, printE (y.ev (xorZ k0 1 :: kt)) = E2 := ⟨_, rfl⟩
  unfold strV at kR
  rw [hU2, hE2r] at kR
  clear hX10 hX hX11 ho11 hE11 hE10 ho10 hBw11 hBw10 hw11 hg12 ho12 hset
  go_upto_region 14 with (first
    | (refine wpList_load_row rfl _ _ rfl gX rfl _ _ _ _ hX12 Tryz.underlying25 rfl (info_ev.trans rfl) ?_)
    | (go_at_call 10; refine kR.mono ?_; clear kR; rintro e w13 ⟨rfl, hB13⟩; refine Lib.hid ?_))
  have hX13 := blk_then hX12 hB13
  have hBw13 := hBw12.trans (hB13.mono hBw12.size)
  have kP := print_any y (xorZ k0 1 :: kt) w13 (hy12.out.then_ hB13) (hS12.out.then_ (Nat.le_trans h7 hBw12.size) hB13)
  unfold strV at kP
  rw [hU2, hE2r] at kP
  clear hX12 hBw12
  go_upto_region 15 with (first
    | (refine wpList_load_row rfl _ _ rfl gX rfl _ _ _ _ hX13 Tryz.underlying25 rfl (info_ev.trans rfl) ?_)
    | (go_at_call 11; refine kP.mono ?_; clear kP; rintro e w14 ⟨rfl, hB14⟩; refine Lib.hid ?_))
  have hBw14 := hBw13.trans (hB14.mono hBw13.size)
  refine wp_region_text 9 [eqS (.string U2), eqS (.string U2), eqS (.bool true), eqS (.bool true), eqS (vF (true && (true == true)) (.int .i64 (E2))), eqS (vF (true && (true == true)) (.int .i64 (E2))), eqS (vF (true && (true == true)) (.bool (((E2 : Int) == (E2 : Int))))), eqS (.bool (true && (((E2 : Int) == (E2 : Int))))), eqS (.bool (true && (((E2 : Int) == (E2 : Int)))))] [83, 84, 85, 86, 87, 88, 89, 90, 2] (by kernel_rfl) (by kernel_rfl) ?_ ?_
  · skip
    refine Steps.cons (fun a' w' hG hB dep => gs_move (want_none rfl) _ rfl (id (hG.other 11 rfl))) ?_
    refine Steps.cons (fun a' w' hG hB dep => gs_move (want_none rfl) _ rfl (id (hG.other 9 rfl))) ?_
    refine Steps.cons (fun a' w' hG hB dep => gs_eql_same (want_none rfl) _ _ _ _ rfl U2 (dep 0 rfl 83 rfl) (dep 1 rfl 84 rfl) rfl) ?_
    refine Steps.cons (fun a' w' hG hB dep => gs_move (want_none rfl) _ rfl (id (dep 2 rfl 85 rfl))) ?_
    refine Steps.cons (fun a' w' hG hB dep => gs_guard (c := true) (b' := true) rfl rfl (dep 3 rfl 86 rfl) (fun hc he hw => gs_move hw _ rfl (Eq.trans (hG.other 12 rfl) (vF_yes (on_g hc he) _).symm)) (fun hn => vF_no hn _)) ?_
    refine Steps.cons (fun a' w' hG hB dep => gs_guard (c := true) (b' := true) rfl rfl (dep 3 rfl 86 rfl) (fun hc he hw => gs_move hw _ rfl (Eq.trans (hG.other 10 rfl) (vF_yes (on_g hc he) _).symm)) (fun hn => vF_no hn _)) ?_
    refine Steps.cons (fun a' w' hG hB dep => gs_guard (c := true) (b' := true) rfl rfl (dep 3 rfl 86 rfl) (fun hc he hw => gs_eql_int hw _ _ _ _ rfl _ _ _ (Eq.trans (dep 4 rfl 87 rfl) (vF_yes (on_g hc he) _)) (Eq.trans (dep 5 rfl 88 rfl) (vF_yes (on_g hc he) _)) (Eq.trans (congrArg Value.bool rfl) (vF_yes (on_g hc he) _).symm)) (fun hn => vF_no hn _)) ?_
    refine Steps.cons (fun a' w' hG hB dep => gs_pick (want_none rfl) _ _ _ rfl true (dep 3 rfl 86 rfl) (id (pick_and2 (c := true) rfl (dep 6 rfl 89 rfl)))) ?_
    refine Steps.cons (fun a' w' hG hB dep => gs_assign (want_none rfl) _ rfl (id (dep 7 rfl 90 rfl))) ?_
    exact Steps.nil
  intro u w15 hw15 ans
  have hus2 : u 2 = (.bool (true && (((E2 : Int) == (E2 : Int))))) := ans 8 2 (by decide) rfl
  clear ans
  simp only [putAll, List.foldl_cons, List.foldl_nil, Act.put, List.setIfInBounds_toArray, List.set_cons_zero, List.set_cons_succ, hus2]
  clear hus2
  simp only [List.drop]
  refine wpList_nil ?_
  go_wp2_with (fail)
  go_ret
  exact ⟨by simp, hBw14.trans (hw15.mono hBw14.size)⟩
end Go.Proofs.YtjplgcmfifoefaaGreatDoor
namespace Go.Proofs.YtjplgcmfifoefaaGreatDoor
open Go.ChangeShapes Go.WideShapes Go.ChangeAt Go.RowKit
open Go.ChangeMaps (open_string shut_string)
set_option linter.unusedVariables false
set_option linter.unusedSimpArgs false

theorem own : ownKnob Tryz.prog.godebug = none := by kernel_rfl
theorem laidOut : laidOutB Tryz.prog = true := by kernel_rfl
section
variable {H : Type} {enc : TypeId × Value → H} {w : World} {base : Nat} {spare : Nat → Bool} {held : Bool} {fuel : Nat}
end

theorem choose_list {α : Type} {p : Nat → α → Prop} : ∀ (n : Nat), (∀ i, i < n → ∃ y, p i y) → ∃ l : List α, l.length = n ∧ ∀ i (h : i < l.length), p i l[i]
  | 0, _ => ⟨[], rfl, fun i h => absurd h (by simp)⟩
  | n + 1, h => by
    obtain ⟨l, hl, hp⟩ := choose_list n (fun i hi => h i (by omega))
    obtain ⟨y, hy⟩ := h n (by omega)
    refine ⟨l ++ [y], by simp [hl], fun i hi => ?_⟩
    by_cases e : i < l.length
    · rw [List.getElem_append_left e]; exact hp i e
    · have : i = n := by simp at hi; omega
      subst this
      rw [List.getElem_append_right (by omega)]
      simpa using hy
theorem spot_none {w : World} {a : Addr} {v : Value} (h : w.cell? a = some v) : a.spot = none := World.cell?_spot h
end Go.Proofs.YtjplgcmfifoefaaGreatDoor
namespace Go.Proofs.YtjplgcmfifoefaaGreatDoor
open Go.ChangeShapes Go.WideShapes Go.ChangeAt Go.RowKit Go.Joins Go.Lib
set_option linter.unusedVariables false
set_option linter.unusedSimpArgs false

section
variable {H : Type} {enc : TypeId × Value → H} {P : Program} {w : World} {base : Nat} {sp : Nat → Bool} {held : Bool}
/-- a struct whose fields are strings holds the strings that it reads as -/
theorem strs_of_struct {fuel : Nat} {t : TypeId} {fs : Array Field} {cs : List Value} {zs : List Bs} {p : List MemPlace} (ht : P.underlying t = some (.struct fs))
    (hf : ∀ (i : Nat) (f : Field), fs[i]? = some f → P.underlying f.type = some .string ∧ f.offset = i ∧ P.cellsOf f.type = 1) (hct : P.cellsOf t = fs.size)
    (h : DataW.trod enc P w base sp held fuel t cs = some (.agg (zs.map fun z => .lit (.string z)), p)) : cs = zs.map strV := by
  obtain ⟨xs, n, rfl, hx, hl, hxl, hall⟩ := DataW.trod_struct ht h
  have hxs : xs.map (·.1) = zs.map fun z => (DataW.lit (.string z) : DataW H) := by
    have := congrArg Prod.fst hx
    simpa using this.symm
  have hzl : zs.length = fs.size := by
    have := congrArg List.length hxs
    simp at this
    omega
  apply List.ext_getElem?
  intro i
  by_cases hi : i < fs.size
  · obtain ⟨hu, ho, hc⟩ := hf i fs[i] (by simp [hi])
    have h1 := hall i fs[i] (by simp [hi])
    obtain ⟨b, hb⟩ : ∃ b, xs[i]? = some b := ⟨xs[i]'(by omega), List.getElem?_eq_getElem (by omega)⟩
    rw [hb, ho, hc] at h1
    obtain ⟨s, hcz, rfl, _⟩ := DataW.trod_string hu h1
    have h2 : cs[i]? = some (.string s) := by
      have := congrArg (·[0]?) hcz
      simpa [List.getElem?_take, List.getElem?_drop] using this
    have h3 : (xs.map (·.1))[i]? = some (DataW.lit (.string s.data.toList) : DataW H) := by simp [hb]
    rw [hxs] at h3
    simp only [List.getElem?_map, Option.map_eq_some_iff, DataW.lit.injEq, Lit.string.injEq] at h3
    obtain ⟨z', hz', rfl⟩ := h3
    rw [h2, List.getElem?_map, hz']
    show some (Value.string s) = some (strV s.data.toList)
    unfold strV
    rw [bytes_of]
  · rw [List.getElem?_eq_none (by omega), List.getElem?_eq_none (by simp; omega)]
end
def rowsData : DataW Unit := .agg ((List.range 13).map fun k => .agg ([firsts.getD k [], letters.getD k []].map fun z => .lit (.string z)))
theorem rows_of_reads {w : World} (h : VarReads Tryz.prog w "heron/script.rows" rowsData) : RowAt w 0 0 rowsC := by
  obtain ⟨g, t, cs, fuel, p, hg, hty, hvar, hd⟩ := h
  obtain rfl : 0 = g := Option.some.inj ((show Tryz.prog.globalNamed "heron/script.rows" = some 0 by kernel_rfl).symm.trans hg)
  obtain rfl := Option.some.inj ((show (Tryz.prog.globals[0]?).map (·.type) = some 57 by kernel_rfl).symm.trans hty)
  have key : ∀ i, i < 13 → w.cell? ⟨0, 2 * i, none⟩ = some (strV (firsts.getD i [])) ∧ w.cell? ⟨0, 2 * i + 1, none⟩ = some (strV (letters.getD i [])) := by
    intro i hi
    obtain ⟨fuel', d, q, hdi, he⟩ := array_elem Tryz.underlying57 hd i hi
    simp only [List.getElem?_map, List.getElem?_range hi, Option.map_some, Option.some.injEq] at hdi
    subst hdi
    rw [show Tryz.prog.cellsOf 56 = 2 by kernel_rfl] at he
    have hcs := strs_of_struct Tryz.underlying56 (fun j f hj => by
      match j, hj with
      | 0, hj => simp at hj; subst hj; exact ⟨Tryz.underlying9, rfl, by kernel_rfl⟩
      | 1, hj => simp at hj; subst hj; exact ⟨Tryz.underlying9, rfl, by kernel_rfl⟩
      | j + 2, hj => simp at hj) (by kernel_rfl) he
    have e0 := congrArg (·[0]?) hcs
    have e1 := congrArg (·[1]?) hcs
    simp only [List.getElem?_take, List.getElem?_drop] at e0 e1
    constructor
    · rw [World.var?_cell hg hvar (2 * i), ← Array.getElem?_toList]
      simpa [Nat.mul_comm] using e0
    · rw [World.var?_cell hg hvar (2 * i + 1), ← Array.getElem?_toList]
      simpa [Nat.mul_comm] using e1
  intro j v hv
  have hj : j < 26 := by
    refine Classical.byContradiction fun hn => ?_
    rw [Array.getElem?_eq_none (by show rowsC.size ≤ j; rw [show rowsC.size = 26 by kernel_rfl]; omega)] at hv
    cases hv
  have hr : ∀ k, k < 13 → rowsC[2 * k]? = some (strV (firsts.getD k [])) ∧ rowsC[2 * k + 1]? = some (strV (letters.getD k [])) := by
    intro k hk
    rcases (by omega : k = 0 ∨ k = 1 ∨ k = 2 ∨ k = 3 ∨ k = 4 ∨ k = 5 ∨ k = 6 ∨ k = 7 ∨ k = 8 ∨ k = 9 ∨ k = 10 ∨ k = 11 ∨ k = 12) with rfl | rfl | rfl | rfl | rfl | rfl | rfl | rfl | rfl | rfl | rfl | rfl | rfl <;> exact ⟨rfl, rfl⟩
  rw [Nat.zero_add]
  rcases Nat.mod_two_eq_zero_or_one j with h | h
  · obtain ⟨i, rfl⟩ : ∃ i, j = 2 * i := ⟨j / 2, by omega⟩
    rw [(hr i (by omega)).1] at hv
    injection hv with hv
    subst hv
    exact (key i (by omega)).1
  · obtain ⟨i, rfl⟩ : ∃ i, j = 2 * i + 1 := ⟨j / 2, by omega⟩
    rw [(hr i (by omega)).2] at hv
    injection hv with hv
    subst hv
    exact (key i (by omega)).2
def uRen : Go.Shelf.Ren := ⟨id, fun | 5 => 5 | 119 => 130 | 138 => 132 | 139 => 133 | n => n, fun | 3 => 1 | 4 => 2 | n => n⟩
theorem uTypes : U8Types Tryz.prog uRen := by constructor <;> kernel_rfl
theorem uExtra : U8Extra Tryz.prog uRen := by constructor <;> kernel_rfl
theorem starE : "*" ++ "errors.errorString" = "*errors.errorString" := by decide
set_option maxRecDepth 100000 in
theorem row_err (u : TypeId) (h : Tryz.prog.typeName? 3 u = some "*errors.errorString") : u = 160 :=
  typeName_ptr_named (nm := "errors.errorString") (by rw [starE]; kernel_rfl) (by kernel_rfl) (by decide) u (by rw [starE]; exact h)
abbrev laidL : List (String × DataW Unit) := [("math/bits.deBruijn32tab", Rows.laid_math_bits_deBruijn32tab), ("math/bits.deBruijn64tab", Rows.laid_math_bits_deBruijn64tab), ("internal/strconv.uint64pow10", Rows.laid_internal_strconv_uint64pow10), ("unicode/utf8.acceptRanges", Rows.laid_unicode_utf8_acceptRanges), ("strconv.ErrRange", Rows.laid_strconv_ErrRange), ("strconv.ErrSyntax", Rows.laid_strconv_ErrSyntax), ("heron/script.rows", Rows.laid_heron_script_rows), ("unicode/utf8.first", Rows.laid_unicode_utf8_first)]
set_option maxRecDepth 100000 in
theorem sok_of_laid {W : World} (h : laidMet Tryz.prog laidL W) : SOk W := by
  have t1 := laidMet.tail h
  have t2 := laidMet.tail t1
  have t3 := laidMet.tail t2
  have t4 := laidMet.tail t3
  have t5 := laidMet.tail t4
  have hrows : VarReads Tryz.prog W "heron/script.rows" rowsData := laidMet.reads h (.tail _ (.tail _ (.tail _ (.tail _ (.tail _ (.tail _ (.head _)))))))
  have hfirst : VarReads Tryz.prog W "unicode/utf8.first" firstData := by
    have h9 := laidMet.reads h (.tail _ (.tail _ (.tail _ (.tail _ (.tail _ (.tail _ (.tail _ (.head _))))))))
    exact h9
  have hacc : VarReads Tryz.prog W "unicode/utf8.acceptRanges" acceptData := by
    have h9 := laidMet.reads h (.tail _ (.tail _ (.tail _ (.head _))))
    exact h9
  refine ⟨rows_of_reads hrows, utf8Tabs_of_readsT uTypes uExtra hfirst hacc, ?_, ?_, ?_⟩
  · have t2' : laidMet Tryz.prog (("internal/strconv.uint64pow10", tabData .u64 Lib.pow10Tab) :: _) W := t2
    exact tabIs_of_head gPow (t := (Tryz.prog.globals[4]?).elim 0 (·.type)) (n := 20) (by kernel_rfl) (by kernel_rfl) Tryz.underlying120 (by kernel_rfl) (by kernel_rfl) t2'
  · obtain ⟨a, s, hv, _, _, _⟩ := laid_sentinel (P := Tryz.prog) t5 (g := 5) (ti := 87) (tp := 160) (te := 162) (ts := 9) (by kernel_rfl) (by kernel_rfl) Tryz.underlying87 row_err Tryz.underlying160 Tryz.underlying162 rfl rfl Tryz.underlying9 (by kernel_rfl) (by kernel_rfl)
    exact ⟨_, by simpa using World.var?_cell (show Tryz.prog.globalNamed "strconv.ErrSyntax" = some 5 by kernel_rfl) hv 0, .inr ⟨_, _, rfl⟩⟩
  · obtain ⟨a, s, hv, _, _, _⟩ := laid_sentinel (P := Tryz.prog) t4 (g := 6) (ti := 87) (tp := 160) (te := 162) (ts := 9) (by kernel_rfl) (by kernel_rfl) Tryz.underlying87 row_err Tryz.underlying160 Tryz.underlying162 rfl rfl Tryz.underlying9 (by kernel_rfl) (by kernel_rfl)
    exact ⟨_, by simpa using World.var?_cell (show Tryz.prog.globalNamed "strconv.ErrRange" = some 6 by kernel_rfl) hv 0, .inr ⟨_, _, rfl⟩⟩
end Go.Proofs.YtjplgcmfifoefaaGreatDoor
namespace Go.Proofs.YtjplgcmfifoefaaGreatDoor
open Go.ChangeShapes Go.WideShapes Go.ChangeAt Go.RowKit Go.Joins
set_option linter.unusedVariables false
set_option linter.unusedSimpArgs false

/-- a row whose specification has a condition of its own, that wants a word on the world besides; the world's shape kept -/
theorem returnsInHanded_of_cond_and_shaped {H : Type} {enc : TypeId × Value → H} {a : Assume} {C : Checked} {os : Os} {f : FuncId} {fn : Func} {s : OpenSpec} {k : (H : Type) → List (DataW H) → Bool} (hk : s.cond = some k) {F : Stop.Interp} {conds : List PathCond} {apart fresh handsOn again : Bool} {X : World → Prop}
    (hX : ∀ (w w' : World), w.heap = w'.heap → X w → X w')
    (own : ownKnob C.prog.godebug = none) (started : os.Started) (noInit : C.prog.inits.idxOf? f = none) (hfn : C.prog.funcs[f]? = some fn)
    (witness : ∃ (w : World) (tape : Tape) (i : Input), w.os = os ∧ (w.forCall tape i).Shaped C.prog ∧ i.vars = [] ∧ Input.okWide C.prog (w.forCall tape i) .any w.heap.size f i ∧
      ((s.pre enc C.prog fn conds apart (w.forCall tape i).memory i.args ∧ X (w.forCall tape i).memory) ∧ sizedMet enc C.prog fn s apart (w.forCall tape i).memory i.args) ∧ a.holds C.prog (lone (Frame.enter C.prog f i.args .normal) [] (w.forCall tape i)))
    (contract : ∀ (W : World) (base : Nat) (args : Array Value) (ds gs : List (DataW H)) (before : List MemPlace),
      (∀ (j : Nat) t v, fn.params[j]? = some t → args[j]? = some v → Value.okWide C.prog W .any base t v) →
      DataW.Whole enc C.prog fn.params.toList s.vars apart W args.toList ds gs before →
      conds.all (PathCond.test C.prog ⟨fn.params.toList, ds, s.bare.plain.varTypes C.prog, gs⟩) = true → k H (ds ++ gs) = true → X W → W.ShapedOpen C.prog →
      a.holds C.prog (lone (Frame.enter C.prog f args .normal) [] W) →
      Calls C.prog f args W fun e W' => ∃ v, e = .returned v ∧ (s.at F).post enc C.prog fn apart fresh handsOn again W args v W') :
    ReturnsInHanded a C os f .any (fun w args => (s.pre enc C.prog fn conds apart w args ∧ X w) ∧ sizedMet enc C.prog fn s apart w args) ((s.at F).post enc C.prog fn apart fresh handsOn again) := by
  refine returnsInHanded_of_calls own started noInit witness ?_
  intro w tape i _ hsh _ hok hpre hholds
  obtain ⟨_, _, _, fn', hfn', _, _, _, _, hval⟩ := hok
  have e : fn' = fn := Option.some.inj (hfn'.symm.trans hfn)
  subst e
  obtain ⟨ds, gs, before, hw, hc, hkk⟩ := (OpenSpec.pre_some hk conds apart _ _).1 hpre.1.1
  have hw' := DataW.Whole.of_heap (w' := w.forCall tape i) (by rfl) hw
  refine (contract (w.forCall tape i) w.heap.size i.args ds gs before hval hw' hc hkk (hX _ _ (by rfl) hpre.1.2) hsh hholds).mono fun e W' ⟨v, he, hp⟩ => ?_
  subst he
  exact ChangeSpec.post_blind hp
theorem witness_and {H : Type} {enc : TypeId × Value → H} {C : Checked} {os : Os} {f : FuncId} {fn : Func} {s : OpenSpec} {k : (H : Type) → List (DataW H) → Bool} (hk : s.cond = some k) {conds : List PathCond} {apart : Bool} {X : World → Prop} (modest : Bool) (w0 : World) (args : Array Value) (fuel : Nat) (hos : w0.os = os)
    (hsh : (w0.forCall (fun _ _ => 0) ⟨#[], args, []⟩).Shaped C.prog)
    (hok : Input.okWideB C.prog (w0.forCall (fun _ _ => 0) ⟨#[], args, []⟩) f ⟨#[], args, []⟩ = true)
    {x : List (DataW H) × List (DataW H) × List MemPlace} (hx : DataW.whole enc C.prog (w0.forCall (fun _ _ => 0) ⟨#[], args, []⟩).memory fn.params.toList s.vars apart args.toList fuel = some x)
    (hconds : conds.all (PathCond.test C.prog ⟨fn.params.toList, x.1, s.bare.plain.varTypes C.prog, x.2.1⟩) = true) (hkk : k H (x.1 ++ x.2.1) = true)
    (hsz : s.bare.sizedB enc C.prog fn apart (w0.forCall (fun _ _ => 0) ⟨#[], args, []⟩).memory args fuel = true)
    (hX : X (w0.forCall (fun _ _ => 0) ⟨#[], args, []⟩).memory) :
    ∃ (w : World) (tape : Tape) (i : Input), w.os = os ∧ (w.forCall tape i).Shaped C.prog ∧ i.vars = [] ∧ Input.okWide C.prog (w.forCall tape i) .any w.heap.size f i ∧
      ((s.pre enc C.prog fn conds apart (w.forCall tape i).memory i.args ∧ X (w.forCall tape i).memory) ∧ sizedMet enc C.prog fn s apart (w.forCall tape i).memory i.args) ∧ ({ modest := modest } : Assume).holds C.prog (lone (Frame.enter C.prog f i.args .normal) [] (w.forCall tape i)) :=
  ⟨w0, fun _ _ => 0, ⟨#[], args, []⟩, hos, hsh, (Input.okWide_of_okWideB (base := 0) hok).1, (Input.okWide_of_okWideB hok).2,
    ⟨⟨(OpenSpec.pre_some hk conds apart _ _).2 ⟨x.1, x.2.1, x.2.2, DataW.Whole_of_whole hx, hconds, hkk⟩, hX⟩, sizedMet_of_sizedB hsz⟩, by
    simp only [Assume.holds]
    exact ⟨by simp, by simp, fun _ => Modest.zero, by simp, by simp⟩⟩
section
variable {H : Type}
theorem bulk_pos (d : DataW H) : 1 ≤ Rows.uptoBulk d := by
  cases d with
  | lit l => cases l <;> simp [Rows.uptoBulk]
  | _ => simp [Rows.uptoBulk]
theorem bulk_len : ∀ l : List (DataW H), l.length ≤ Rows.uptoBulkAll l
  | [] => by simp [Rows.uptoBulkAll]
  | d :: l => by
    have := bulk_pos d
    have := bulk_len l
    simp only [List.length_cons, Rows.uptoBulkAll]
    omega
theorem bulk_mem : ∀ (l : List (DataW H)) (d : DataW H), d ∈ l → Rows.uptoBulk d ≤ Rows.uptoBulkAll l
  | [], d, h => by simp at h
  | e :: l, d, h => by
    simp only [Rows.uptoBulkAll]
    rcases List.mem_cons.1 h with rfl | h
    · omega
    · have := bulk_mem l d h
      omega
end
section
variable {H : Type} {enc : TypeId × Value → H} {W : World} {held : Bool}
set_option maxRecDepth 100000 in
/-- a slice, opened from its reading, where what is read is of bulk at most K -/
theorem trod_slice_q {α : Type} {ea : α → Array Value} {t e : TypeId} {size K fuel : Nat} {v : Value} {x : DataW H × List MemPlace}
    (ht : Tryz.prog.underlying t = some (.slice e)) (hc : Tryz.prog.cellsOf e = size) (hpos : 0 < size) (hsz : ∀ y, (ea y).size = size)
    (hel : ∀ (fuel : Nat) (cs : List Value) (x : DataW H × List MemPlace), DataW.trod enc Tryz.prog W 0 (fun _ => true) held fuel e cs = some x → Rows.uptoBulk x.1 + 1 ≤ K → ∃ y, cs = (ea y).toList)
    (hf : DataW.trod enc Tryz.prog W 0 (fun _ => true) held fuel t [v] = some x) (hK : Rows.uptoBulk x.1 ≤ K) :
    ∃ (A : Option Addr) (n c : Nat) (l : List α), v = .slice A n c ∧ n = l.length ∧ n ≤ K ∧ SliceOf W W.heap.size size ea A l := by
  rcases Deep.open_slice ht hf with ⟨hcs, hx⟩ | ⟨a, len, cap, m, n', D, Pl, hcs, _, hl, hm, hmm, hx, hi⟩
  · injection hcs with hcs _
    subst hcs
    exact ⟨none, 0, 0, [], rfl, rfl, by omega, .inl rfl⟩
  · injection hcs with hcs _
    subst hcs
    have hmc : m = cap := by simpa using hmm
    subst hmc
    rw [hx] at hK
    simp only [Rows.uptoBulk] at hK
    have hlen := bulk_len ((List.range len).map D)
    rw [List.length_map, List.length_range] at hlen
    have key : ∀ i, i < len → ∃ y : α, W.cells? 0 (a.add (i * size)) size = some (ea y).toList := by
      intro i hlt
      obtain ⟨cs', h1, h2⟩ := hi i (by omega)
      have hb := bulk_mem ((List.range len).map D) (D i) (List.mem_map_of_mem (List.mem_range.2 hlt))
      obtain ⟨y, hy⟩ := hel _ _ _ h2 (by simp only; omega)
      rw [hc] at h1
      exact ⟨y, by rw [h1, hy]⟩
    obtain ⟨l, hll, hp⟩ := choose_list len key
    refine ⟨some a, len, m, l, rfl, hll.symm, by omega, ?_⟩
    rcases Nat.eq_zero_or_pos l.length with h0 | h0
    · exact .inl (List.eq_nil_of_length_eq_zero h0)
    · have hcell : ∀ i (h : i < l.length) (j : Nat) (u : Value), (ea l[i])[j]? = some u → W.cell? ((a.add (i * size)).add j) = some u := by
        intro i h j u hu
        obtain ⟨_, hlen, hget⟩ := World.cells?_some (hp i h)
        have hj : j < size := by
          rw [← hsz l[i]]
          rcases Nat.lt_or_ge j (ea l[i]).size with h1 | h1
          · exact h1
          · rw [Array.getElem?_eq_none h1] at hu; cases hu
        rw [hget j hj]
        simpa using hu
      have hz : ∃ u, (ea l[0])[0]? = some u := ⟨_, Array.getElem?_eq_getElem (by rw [hsz]; exact hpos)⟩
      obtain ⟨u, hu⟩ := hz
      have h00 := hcell 0 h0 0 u hu
      have hsp : a.spot = none := by
        have := spot_none h00
        simpa [Addr.add] using this
      obtain ⟨b, off, spot⟩ := a
      simp only at hsp
      subst hsp
      have hb : b < W.heap.size := by
        have := block_lt_of_cell h00
        simpa [Addr.add] using this
      refine .inr ⟨b, off, rfl, hb, fun i h j u hu => ?_⟩
      have := hcell i h j u hu
      rw [addr_add, addr_add] at this
      exact this
theorem bulk_nth {xs : List (DataW H × List MemPlace)} (i : Nat) (h : i < xs.length) : Rows.uptoBulk (xs[i]).1 ≤ Rows.uptoBulkAll (xs.map (·.1)) :=
  bulk_mem _ _ (List.mem_map_of_mem (List.getElem_mem h))
section
variable {H : Type} {enc : TypeId × Value → H} {W : World} {held : Bool} {n : Nat}
theorem open_i64 {cs : List Value} {x : DataW H × List MemPlace} (h : DataW.trod enc Tryz.prog W 0 (fun _ => true) held n 3 cs = some x) : ∃ z : Int, cs = [.int .i64 z] ∧ True ∧ i64z z := by
  obtain ⟨z, hz, _, hw⟩ := DataW.trod_int Tryz.underlying3 h
  have h2 : IntKind.i64.min = -9223372036854775808 := by decide
  have h3 : IntKind.i64.max = 9223372036854775807 := by decide
  simp only [Lit.wf, Bool.and_eq_true, decide_eq_true_eq] at hw
  exact ⟨z, hz, trivial, by unfold i64z; omega⟩
theorem open_stre {cs : List Value} {x : DataW H × List MemPlace} (h : DataW.trod enc Tryz.prog W 0 (fun _ => true) held n 9 cs = some x) (hb : Rows.uptoBulk x.1 ≤ 1048576) : ∃ s : ByteArray, cs = [.string s] ∧ s.size ≤ 1048576 := by
  obtain ⟨s, hc, hd, _⟩ := DataW.trod_string Tryz.underlying9 h
  refine ⟨s, hc, ?_⟩
  rw [hd] at hb
  simp only [Rows.uptoBulk] at hb
  have : s.data.toList.length = s.size := by simp
  omega
theorem open_intse {v : Value} {x : DataW H × List MemPlace} (h : DataW.trod enc Tryz.prog W 0 (fun _ => true) held n 23 [v] = some x) (hb : Rows.uptoBulk x.1 ≤ 1048576) :
    ∃ (A : Option Addr) (m c : Nat) (l : List Int), v = .slice A m c ∧ m = l.length ∧ m ≤ 1048576 ∧ SliceOf W W.heap.size 1 encZ A l ∧ ∀ z ∈ l, i64z z := by
  obtain ⟨B, m, e, rs, rfl, hm, hmK, hsr⟩ := trod_slice_q (K := 1048576) (size := 1) (ea := fun z : {z : Int // i64z z} => encZ z.1) Tryz.underlying23 (by kernel_rfl) (by omega) (fun z => rfl) (fun _ _ _ h _ => by
    obtain ⟨z, hz, _, hw⟩ := open_i64 h
    exact ⟨⟨z, hw⟩, by rw [hz]; rfl⟩) h hb
  refine ⟨B, m, e, rs.map (·.1), rfl, by rw [List.length_map]; exact hm, hmK, ?_, fun y hy => ?_⟩
  · rcases hsr with h | ⟨b, off, q1, q2, q3⟩
    · exact .inl (by rw [h]; rfl)
    · refine .inr ⟨b, off, q1, q2, fun i hi => ?_⟩
      simp only [List.getElem_map]
      exact q3 i (by simpa using hi)
  · obtain ⟨z, _, rfl⟩ := List.mem_map.1 hy
    exact z.2
set_option maxRecDepth 100000 in
theorem trod_event {fuel : Nat} {cs : List Value} {x : DataW H × List MemPlace} (h : DataW.trod enc Tryz.prog W 0 (fun _ => true) held fuel 25 cs = some x) (hb : Rows.uptoBulk x.1 ≤ 1048576) :
    ∃ (y : EvV) (ks : List Int), cs = y.C.toList ∧ EvOk W y ks := by
  obtain ⟨xs, n, _, hx, hl, hlen, hf⟩ := DataW.trod_struct Tryz.underlying25 h
  rw [show Tryz.prog.cellsOf 25 = 7 by kernel_rfl] at hl
  obtain ⟨c0, c1, c2, c3, c4, c5, c6, rfl⟩ : ∃ c0 c1 c2 c3 c4 c5 c6 : Value, cs = [c0, c1, c2, c3, c4, c5, c6] := by
    clear h hf hx
    match cs, hl with
    | [c0, c1, c2, c3, c4, c5, c6], _ => exact ⟨_, _, _, _, _, _, _, rfl⟩
  have xsl : xs.length = 7 := hlen
  have h0 : DataW.trod enc Tryz.prog W 0 (fun _ => true) held n 3 ((([c0, c1, c2, c3, c4, c5, c6] : List Value).drop 0).take (Tryz.prog.cellsOf 3)) = xs[0]? := hf 0 _ rfl
  rw [show Tryz.prog.cellsOf 3 = 1 by kernel_rfl, List.getElem?_eq_getElem (by omega)] at h0
  have hb0 := bulk_nth 0 (show 0 < xs.length by omega)
  have h1 : DataW.trod enc Tryz.prog W 0 (fun _ => true) held n 9 ((([c0, c1, c2, c3, c4, c5, c6] : List Value).drop 1).take (Tryz.prog.cellsOf 9)) = xs[1]? := hf 1 _ rfl
  rw [show Tryz.prog.cellsOf 9 = 1 by kernel_rfl, List.getElem?_eq_getElem (by omega)] at h1
  have hb1 := bulk_nth 1 (show 1 < xs.length by omega)
  have h2 : DataW.trod enc Tryz.prog W 0 (fun _ => true) held n 9 ((([c0, c1, c2, c3, c4, c5, c6] : List Value).drop 2).take (Tryz.prog.cellsOf 9)) = xs[2]? := hf 2 _ rfl
  rw [show Tryz.prog.cellsOf 9 = 1 by kernel_rfl, List.getElem?_eq_getElem (by omega)] at h2
  have hb2 := bulk_nth 2 (show 2 < xs.length by omega)
  have h3 : DataW.trod enc Tryz.prog W 0 (fun _ => true) held n 9 ((([c0, c1, c2, c3, c4, c5, c6] : List Value).drop 3).take (Tryz.prog.cellsOf 9)) = xs[3]? := hf 3 _ rfl
  rw [show Tryz.prog.cellsOf 9 = 1 by kernel_rfl, List.getElem?_eq_getElem (by omega)] at h3
  have hb3 := bulk_nth 3 (show 3 < xs.length by omega)
  have h4 : DataW.trod enc Tryz.prog W 0 (fun _ => true) held n 3 ((([c0, c1, c2, c3, c4, c5, c6] : List Value).drop 4).take (Tryz.prog.cellsOf 3)) = xs[4]? := hf 4 _ rfl
  rw [show Tryz.prog.cellsOf 3 = 1 by kernel_rfl, List.getElem?_eq_getElem (by omega)] at h4
  have hb4 := bulk_nth 4 (show 4 < xs.length by omega)
  have h5 : DataW.trod enc Tryz.prog W 0 (fun _ => true) held n 4 ((([c0, c1, c2, c3, c4, c5, c6] : List Value).drop 5).take (Tryz.prog.cellsOf 4)) = xs[5]? := hf 5 _ rfl
  rw [show Tryz.prog.cellsOf 4 = 1 by kernel_rfl, List.getElem?_eq_getElem (by omega)] at h5
  have hb5 := bulk_nth 5 (show 5 < xs.length by omega)
  have h6 : DataW.trod enc Tryz.prog W 0 (fun _ => true) held n 23 ((([c0, c1, c2, c3, c4, c5, c6] : List Value).drop 6).take (Tryz.prog.cellsOf 23)) = xs[6]? := hf 6 _ rfl
  rw [show Tryz.prog.cellsOf 23 = 1 by kernel_rfl, List.getElem?_eq_getElem (by omega)] at h6
  have hb6 := bulk_nth 6 (show 6 < xs.length by omega)
  rw [hx] at hb
  simp only [Rows.uptoBulk] at hb
  have g0 : DataW.trod enc Tryz.prog W 0 (fun _ => true) held n 3 [c0] = some xs[0] := h0
  obtain ⟨kind, e0, _, w0⟩ := open_i64 g0
  injection e0 with e0 _
  subst e0
  have g1 : DataW.trod enc Tryz.prog W 0 (fun _ => true) held n 9 [c1] = some xs[1] := h1
  obtain ⟨name, e1, w1⟩ := open_stre g1 (by omega)
  injection e1 with e1 _
  subst e1
  have g2 : DataW.trod enc Tryz.prog W 0 (fun _ => true) held n 9 [c2] = some xs[2] := h2
  obtain ⟨other, e2, w2⟩ := open_stre g2 (by omega)
  injection e2 with e2 _
  subst e2
  have g3 : DataW.trod enc Tryz.prog W 0 (fun _ => true) held n 9 [c3] = some xs[3] := h3
  obtain ⟨data, e3, w3⟩ := open_stre g3 (by omega)
  injection e3 with e3 _
  subst e3
  have g4 : DataW.trod enc Tryz.prog W 0 (fun _ => true) held n 3 [c4] = some xs[4] := h4
  obtain ⟨nn, e4, _, w4⟩ := open_i64 g4
  injection e4 with e4 _
  subst e4
  have g5 : DataW.trod enc Tryz.prog W 0 (fun _ => true) held n 4 [c5] = some xs[5] := h5
  obtain ⟨yes, e5, _⟩ := DataW.trod_bool Tryz.underlying4 g5
  injection e5 with e5 _
  subst e5
  have g6 : DataW.trod enc Tryz.prog W 0 (fun _ => true) held n 23 [c6] = some xs[6] := h6
  obtain ⟨A, m, c, l, e6, hm, hmK, hs, hz⟩ := open_intse g6 (by omega)
  subst e6
  exact ⟨⟨kind, name, other, data, nn, yes, A, m, c⟩, l, rfl, ⟨w1, w2, w3, hm, hmK, ⟨w4, hz⟩, hs⟩⟩
set_option maxRecDepth 100000 in
theorem open_event {r : Go.Reach} {b0 : Nat} {v : Value} {d : DataW H} {ps : List MemPlace} (hval : Value.okWide Tryz.prog W r b0 25 v) (hd : DataW.Trod enc Tryz.prog W 0 (fun _ => true) held 25 v d ps) (hb : Rows.uptoBulk d ≤ 1048576) :
    ∃ (y : EvV) (l : List Int), v = .agg y.C ∧ EvOk W y l := by
  have hv : ∃ cs, v = .agg cs := by
    unfold Value.okWide at hval
    rw [Tryz.underlying25] at hval
    obtain ⟨cs, h, _⟩ := hval
    exact ⟨cs, h⟩
  obtain ⟨cs, rfl⟩ := hv
  obtain ⟨fuel, hf⟩ := hd
  obtain ⟨y, l, h1, h3⟩ := trod_event hf hb
  have : cs.toList = y.C.toList := by simpa [Value.cells] using h1
  exact ⟨y, l, by rw [Array.toList_inj.1 this], h3⟩
end
end
end Go.Proofs.YtjplgcmfifoefaaGreatDoor
