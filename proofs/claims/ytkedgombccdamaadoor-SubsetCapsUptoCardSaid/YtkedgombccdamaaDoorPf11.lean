/- Part 11 of a proof; packed: the texts that it was made of follow one another. No condition beyond those named in each lemma. -/
import Derived.Test.YtkedgombccdamaaDoorPf1
import Derived.Test.YtkedgombccdamaaDoorPf10
namespace Go.Proofs.YtkedgombccdamaaDoor
open Go.RowKit Go.Shelf Go.Maps
set_option linter.unusedVariables false
set_option linter.unusedSimpArgs false
attribute [local go_sem] Oper.semAt_some
theorem run_bsM (A : Option Addr) (k c r e : Nat) (w : World) : (Instr.buildSlice 88 1 #[(0, .agg (momC A k c r e))]).run Tryd.prog w = .ok (.slice (some ⟨w.heap.size, 0, none⟩) 1 1) (w.alloc (.cells (momC A k c r e) 92)) := by kernel_rfl
theorem run_bs32 (y : Int) (w : World) : (Instr.buildSlice 23 1 #[(0, .int .u32 y)]).run Tryd.prog w = .ok (.slice (some ⟨w.heap.size, 0, none⟩) 1 1) (w.alloc (.cells #[.int .u32 y] 43)) := by kernel_rfl
theorem info_mom3 : (Tryd.prog.info? 92).map (fun i => (i.zero, i.size, i.bytes)) = some (some (.agg #[.slice none 0 0, .int .u32 0, .int .u32 0]), 3, 32) := by kernel_rfl
theorem info_u32z3 : (Tryd.prog.info? 43).map (fun i => (i.zero, i.size, i.bytes)) = some (some (.int .u32 0), 1, 4) := by kernel_rfl
theorem info_moms1 : (Tryd.prog.info? 88).map (·.size) = some 1 := by kernel_rfl
theorem info_u32s1 : (Tryd.prog.info? 23).map (·.size) = some 1 := by kernel_rfl
theorem encR_one1 (y : Nat) : (encR y).all (·.oneCell') = true := by simp [encR, Value.oneCell']
theorem enter_key (args : Array Value) (w : World) : (callFunc 37 args).run Tryd.prog w = .ok (.enter 37 args) w := by kernel_rfl
section
variable {ops : Array Oper} {rest : List Oper} {o : Oper} {a : Act} {w : World} {Q : Exit → Act → World → Prop}
theorem wl_bsM (hgd : o.guard = none) (x : Operand) (ho : o.op = .buildSlice 88 1 #[(0, x)]) (A : Option Addr) (k c r e : Nat) (hx : a.eval x = .agg (momC A k c r e))
    (h : wpList Tryd.prog ops Q rest (a.put o.dst (.slice (some ⟨w.heap.size, 0, none⟩) 1 1)) (w.alloc (.cells (momC A k c r e) 92))) : wpList Tryd.prog ops Q (o :: rest) a w :=
  wpList_plain hgd fun _ hK => by
    unfold Oper.wp execOp
    simp only [ho, List.map_toArray, List.map_cons, List.map_nil, hx, Sem.run_bind, run_bsM, Result.andThen_ok, Sem.run_pure]
    exact hK _ _ h
theorem wl_bs32 (hgd : o.guard = none) (x : Operand) (ho : o.op = .buildSlice 23 1 #[(0, x)]) (y : Int) (hx : a.eval x = .int .u32 y)
    (h : wpList Tryd.prog ops Q rest (a.put o.dst (.slice (some ⟨w.heap.size, 0, none⟩) 1 1)) (w.alloc (.cells #[.int .u32 y] 43))) : wpList Tryd.prog ops Q (o :: rest) a w :=
  wpList_plain hgd fun _ hK => by
    unfold Oper.wp execOp
    simp only [ho, List.map_toArray, List.map_cons, List.map_nil, hx, Sem.run_bind, run_bs32, Result.andThen_ok, Sem.run_pure]
    exact hK _ _ h
theorem wl_pushM (hgd : o.guard = none) (s x : Operand) (ho : o.op = .call { callee := .builtin .append, args := #[s, x], argTypes := #[88, 88] })
    (base K : Nat) (l : List MQ) (z : MQ) {A : Option Addr} {n c g : Nat} (hs : a.eval s = .slice A n c) (hx : a.eval x = .slice (some ⟨g, 0, none⟩) 1 1) (hb1 : Blk w g 92 (encM K z)) (hown : Own w base 92 3 (encM K) (.slice A n c) l) (hn : n = l.length) (hl : l.length ≤ 1099511627) (hbase : base ≤ w.heap.size)
    (h : ∀ A' c' w', Own w' base 92 3 (encM K) (.slice A' (n + 1) c') (l ++ [z]) → w.grownBy w' (Value.slice A n c).ownBlock → wpList Tryd.prog ops Q rest (a.put o.dst (.slice A' (n + 1) c')) w') : wpList Tryd.prog ops Q (o :: rest) a w := by
  obtain ⟨ii, hii, hz0, hz1, hz2⟩ := info_parts info_mom3
  subst hn
  refine wl_append _ hgd _ _ 88 ho base 92 ii _ 3 32 Tryd.underlying88 hii hz0 hz1 hz2 rfl (by decide) (encM_size K) (encM_one K) (.slice A l.length c) l hs hown _ _ 1 1 [z] hx rfl (slice_one (enc := encM K) hb1) (by unfold maxLen; omega) (by omega) hbase ?_
  intro v' w' ho' hg hv
  obtain ⟨A', c', rfl, _, _⟩ := ho'.shape
  have hl8 : (l ++ [z]).length = l.length + 1 := by simp
  rw [hl8] at ho' hv ⊢
  exact h _ _ _ ho' hg
theorem wl_push32 (hgd : o.guard = none) (s x : Operand) (ho : o.op = .call { callee := .builtin .append, args := #[s, x], argTypes := #[23, 23] })
    (base : Nat) (l : List Nat) (z : Nat) {A : Option Addr} {n c g : Nat} (hs : a.eval s = .slice A n c) (hx : a.eval x = .slice (some ⟨g, 0, none⟩) 1 1) (hb1 : Blk w g 43 (encR z)) (hown : Own w base 43 1 encR (.slice A n c) l) (hn : n = l.length) (hl : l.length ≤ 1099511627) (hbase : base ≤ w.heap.size)
    (h : ∀ A' c' w', Own w' base 43 1 encR (.slice A' (n + 1) c') (l ++ [z]) → w.grownBy w' (Value.slice A n c).ownBlock → (∀ b, A' = some b → A.map (·.block) = some b.block ∨ b.block = w.heap.size) → wpList Tryd.prog ops Q rest (a.put o.dst (.slice A' (n + 1) c')) w') : wpList Tryd.prog ops Q (o :: rest) a w := by
  obtain ⟨ii, hii, hz0, hz1, hz2⟩ := info_parts info_u32z3
  subst hn
  refine wl_append _ hgd _ _ 23 ho base 43 ii _ 1 4 Tryd.underlying23 hii hz0 hz1 hz2 rfl (by decide) encR_size encR_one1 (.slice A l.length c) l hs hown _ _ 1 1 [z] hx rfl (slice_one (enc := encR) hb1) (by unfold maxLen; omega) (by omega) hbase ?_
  intro v' w' ho' hg hv
  obtain ⟨A', c', rfl, _, _⟩ := ho'.shape
  have hl8 : (l ++ [z]).length = l.length + 1 := by simp
  rw [hl8] at ho' hv ⊢
  refine h _ _ _ ho' hg fun b hb => ?_
  subst hb
  rcases hv with hv | hv
  · cases A with
    | none => simp [Value.ownBlock] at hv
    | some a => simp [Value.ownBlock] at hv; simp [hv]
  · simp [Value.ownBlock] at hv
    exact .inr hv
end
section
variable {ops : Array Oper} {S : Nat → GSpec} {Q : Exit → Act → World → Prop} {i : Nat} {o : Oper} {a : Act} {w : World}
theorem gs_load_mom (hw : Region.wanted o (yielded ops a.tmps) = true) (x : Operand) (ho : o.op = .load 92 x) (g : Nat) (hx : a.eval x = .pointer (some ⟨g, 0, none⟩)) {A : Option Addr} {k c r e : Nat} (hg : Blk w g 92 (momC A k c r e))
    (hp : (S i).p (.agg (momC A k c r e)) w) : GStep Tryd.prog ops S Q i o a w :=
  gs_load hw _ x ho g hx _ _ hg _ Tryd.underlying92 rfl (info_mom.trans rfl) hp
theorem gs_lookup_str (hw : Region.wanted o (yielded ops a.tmps) = true) (m x : Operand) (ho : o.op = .lookup 87 m x true) (b n cnt : Nat) (mf : List UInt8 → Option Int) (h : IntMap Tryd.prog 9 3 okS litK w b n mf cnt) (hm : a.eval m = .map (some b)) (y : List UInt8) (hy : okS y) (hx : a.eval x = .string (bs y))
    (hp : (S i).p (.tuple #[.int .i64 ((mf y).getD 0), .bool (mf y).isSome]) w) : GStep Tryd.prog ops S Q i o a w := by
  obtain ⟨D, h1, h2, h3, h4⟩ := h
  obtain ⟨v, ps, hrun, hv⟩ := h1.look_ok keyStr.law Tryd.underlying87 (zero_int w) (plainElem_int Tryd.underlying3 (a := 0) (by decide)) (keyStr.key y hy)
  obtain ⟨c, rfl, hc, hwc⟩ := plainElem_int_inv Tryd.underlying3 hv
  have hat := congrArg Prod.fst hc
  simp only at hat
  rw [h3 y hy] at hat
  injection hat with hat
  injection hat with _ hat
  rw [h2 y hy] at hrun
  rw [hat] at hp
  exact gs_run hw (v := .tuple #[.int .i64 c, .bool (mf y).isSome]) (by unfold execOp; simp only [ho, hm, hx, Sem.run_bind, hrun, Result.andThen_ok, Sem.run_pure]) (Below.refl _ _) hp
end
theorem own_aside {α : Type} {enc : α → Array Value} {base size n c n2 c2 : Nat} {e : TypeId} {W W' : World} {A B : Option Addr} {ys : List α} (h : Own W base e size enc (.slice A n c) ys) (hab : ∀ a b, A = some a → B = some b → a.block ≠ b.block) (hg : W.grownBy W' (Value.slice B n2 c2).ownBlock) : Own W' base e size enc (.slice A n c) ys :=
  h.kept_ hg (fun j e1 e3 => by
    rcases A with _ | a
    · simp [Value.ownBlock] at e1
    · rcases B with _ | b
      · simp [Value.ownBlock] at e3
      · have h1 := hab a b rfl rfl
        simp [Value.ownBlock] at e1 e3
        omega)
theorem blk_aside {α : Type} {enc : α → Array Value} {base size g : Nat} {e t : TypeId} {W W' : World} {v : Value} {ys : List α} {cs : Array Value} (h : Blk W g t cs) (ho : Own W base e size enc v ys) (hg : W.grownBy W' v.ownBlock) (hne : e ≠ t) : Blk W' g t cs :=
  h.grown hg (fun e1 => own_blk_ne ho h hne e1.symm)
theorem apart_new {A A' B : Option Addr} {M : Nat} (hv : ∀ b, A' = some b → A.map (·.block) = some b.block ∨ b.block = M) (h : ∀ a b, A = some a → B = some b → a.block ≠ b.block) (hB : ∀ b, B = some b → b.block < M) : ∀ a b, A' = some a → B = some b → a.block ≠ b.block := by
  intro a b ha hb
  rcases hv a ha with h1 | h1
  · cases hA : A with
    | none => rw [hA] at h1; simp at h1
    | some a0 =>
      rw [hA] at h1
      have e : a0.block = a.block := by simpa using h1
      rw [← e]
      exact h a0 b hA hb
  · have := hB b hb
    omega
theorem own_blk_lt {α : Type} {enc : α → Array Value} {base size n c : Nat} {e : TypeId} {W : World} {B : Option Addr} {ys : List α} (h : Own W base e size enc (.slice B n c) ys) : ∀ b, B = some b → b.block < W.heap.size := fun b hb => by
  subst hb
  rcases h.2 with ⟨hv, _⟩ | ⟨g', cap, cur, hv, hge, hh, _⟩
  · cases hv
  · injection hv with hv
    injection hv with hv
    rw [hv]
    exact (Array.getElem?_eq_some_iff.1 hh).1
set_option maxRecDepth 100000 in
set_option maxHeartbeats 8000000 in
theorem state_any (nb gk N K b0 gd bm gm gq : Nat) (f : Nat → Int) (AN : Option Addr) (nN cN : Nat) (L : List MQ) (x : MQ) (hK : K ≤ 1048576) (hL : L.length ≤ 10000) (w : World) (h : QSt N K b0 gd bm gm gq f AN nN cN L w) (hx : MoOk N K x.mo) (hI : Own w b0 50 1 encU (.slice (some ⟨x.g, 0, none⟩) K x.c) (wordsN x.mo.at_ K)) :
    Calls Tryd.prog 36 #[.agg (momC (some ⟨x.g, 0, none⟩) K x.c x.mo.met x.mo.end_), .pointer (some ⟨gm, 0, none⟩), .pointer (some ⟨gq, 0, none⟩), .pointer (some ⟨gd, 0, none⟩)] w fun e w' => e = .returned (.int .i64 (((addM L x).map MQ.mo).idxOf x.mo : Nat)) ∧ QSt N K b0 gd bm gm gq f AN nN cN (addM L x) w' ∧ FQ b0 gd bm gq w w' := by
  obtain ⟨⟨o1, o2, o3, o4, o5⟩, hm, him, ⟨A, c, hq1, hq2⟩, hins, ⟨AF, cF, AE, cE, hd1, hd2, hd3, hd4⟩, hok⟩ := h
  have hkey := keyMo_ok (m := x.mo) hK
  have hmem := keys_mem (Q := L.map MQ.mo) (fun y hy => by obtain ⟨z, hz, rfl⟩ := List.mem_map.1 hy; exact hok z hz) hx
  have hidx := keys_idx (Q := L.map MQ.mo) hx (fun y hy => by obtain ⟨z, hz, rfl⟩ := List.mem_map.1 hy; exact hok z hz)
  rw [List.map_map] at hmem hidx
  have kK : ∀ W, Below w.heap.size w W → Calls Tryd.prog 37 #[.agg (momC (some ⟨x.g, 0, none⟩) K x.c x.mo.met x.mo.end_)] W fun en w' => en = .returned (.string (bs (keyMo K x.mo))) ∧ Below W.heap.size W w' := fun W hW =>
    key_any _ K x.c x.mo.met x.mo.end_ (wordsN x.mo.at_ K) (wordsN_length _ _).symm hK hx.met hx.en (wordsN_lt _ _) W ((hI.then_ hW).slice_all encU_size)
  obtain ⟨key, hkk⟩ : ∃ k, k = keyMo K x.mo := ⟨_, rfl⟩
  rw [← hkk] at kK hkey hmem hidx
  have hkeys : (L.map fun x => keyMo K x.mo) = List.map (keyMo K ∘ MQ.mo) L := rfl
  rw [← hkeys] at hmem hidx
  obtain ⟨ks, hks⟩ : ∃ ks, ks = L.map fun x => keyMo K x.mo := ⟨_, rfl⟩
  have hkl : ks.length = L.length := by rw [hks, List.length_map]
  rw [← hks] at him hmem hidx
  have Hks := Lib.hid hks
  have Hkk := Lib.hid hkk
  have Hok := Lib.hid hok
  have Hins := Lib.hid hins
  have Hx := Lib.hid hx
  have Hd4 := Lib.hid hd4
  have Hkey := Lib.hid hkey
  have Hmem := Lib.hid hmem
  have Hidx := Lib.hid hidx
  obtain ⟨lq, hlq⟩ : ∃ q, q = L.length := ⟨_, rfl⟩
  rw [← hlq] at hL him hq1 hq2 hd1 hd2 hd3 hkl
  have Hlq := Lib.hid hlq
  have Hkl := Lib.hid hkl
  clear hkeys hks hkk hok hins hx hd4 hkey hmem hidx hlq hkl
  go_enter Tryd.func36, Tryd.ntmps36
  go_upto_region 1 with (fail)
  have h4 : Blk (w.alloc (.cells (momC (some ⟨x.g, 0, none⟩) K x.c x.mo.met x.mo.end_) 92)) w.heap.size 92 (momC (some ⟨x.g, 0, none⟩) K x.c x.mo.met x.mo.end_) := Blk.new w _ _
  have hB1 : Below w.heap.size w (w.alloc (.cells (momC (some ⟨x.g, 0, none⟩) K x.c x.mo.met x.mo.end_) 92)) := below_alloc (Below.refl _ _) _
  obtain ⟨w1, hw1⟩ : ∃ y, y = w.alloc (.cells (momC (some ⟨x.g, 0, none⟩) K x.c x.mo.met x.mo.end_) 92) := ⟨_, rfl⟩
  have hs1 : w1.heap.size = w.heap.size + 1 := by rw [hw1]; exact Array.size_push ..
  rw [← hw1] at h4 hB1 ⊢
  obtain ⟨gx, hgx⟩ : ∃ y, y = w.heap.size := ⟨_, rfl⟩
  rw [← hgx] at h4 ⊢
  have Hgx := Lib.hid hgx
  have hAlt : ∀ r, (Value.slice A lq c).ownBlock = some r → r < gx := fun r e => by have := (hq2.lt r e).2; omega
  replace hm := blk_then hm hB1
  replace hq1 := blk_then hq1 hB1
  replace hd1 := blk_then hd1 hB1
  replace him := him.then_ hB1
  clear hw1 hgx
  obtain ⟨V, hV⟩ : ∃ V, V = (idxM ks key).getD 0 := ⟨_, rfl⟩
  obtain ⟨b, hb⟩ : ∃ b, b = (idxM ks key).isSome := ⟨_, rfl⟩
  refine wp_region_steps 9 [eqS (.map (some bm)), eqS (.agg (momC (some ⟨x.g, 0, none⟩) K x.c x.mo.met x.mo.end_)), eqS (.string (bs key)), eqS (.tuple #[.int .i64 V, .bool b]), eqS (.tuple #[.int .i64 V, .bool b]), eqS (.int .i64 V), eqS (.bool b), eqS (.int .i64 V), eqS (.bool b)] [9, 10, 11, 12, 8, 13, 14, 6, 7] follows_mixed (by kernel_rfl) (by kernel_rfl) ?_ ?_
  · skip
    refine Steps.cons (fun a' w' hG hB dep => gs_load1 (want_none rfl) _ _ rfl gm 0 (hG.other 1 rfl) (.map (some bm)) ((blk_then hm hB).cellv rfl) _ Tryd.underlying87 rfl rfl) ?_
    refine Steps.cons (fun a' w' hG hB dep => gs_load_mom (want_none rfl) _ rfl gx (hG.other 4 rfl) (blk_then h4 hB) rfl) ?_
    refine Steps.cons (fun a' w' hG hB dep => gs_call (want_none rfl) _ _ _ rfl enter_key #[.agg (momC (some ⟨x.g, 0, none⟩) K x.c x.mo.met x.mo.end_)] (map1 (dep 1 rfl 10 rfl)) (ret_step (kK _ (below_then hB1 hB)) (fun _ => rfl))) ?_
    refine Steps.cons (fun a' w' hG hB dep => gs_lookup_str (want_none rfl) _ _ rfl bm lq lq (idxM ks) (him.then_ hB) (dep 0 rfl 9 rfl) key Hkey.out (dep 2 rfl 11 rfl) (by rw [← hV, ← hb]; rfl)) ?_
    refine Steps.cons (fun a' w' hG hB dep => gs_move (want_none rfl) _ rfl (id (dep 3 rfl 12 rfl))) ?_
    refine Steps.cons (fun a' w' hG hB dep => gs_extract (want_none rfl) _ _ rfl #[.int .i64 V, .bool b] (dep 4 rfl 8 rfl) (.int .i64 V) rfl rfl) ?_
    refine Steps.cons (fun a' w' hG hB dep => gs_extract (want_none rfl) _ _ rfl #[.int .i64 V, .bool b] (dep 4 rfl 8 rfl) (.bool b) rfl rfl) ?_
    refine Steps.cons (fun a' w' hG hB dep => gs_assign (want_none rfl) _ rfl (id (dep 5 rfl 13 rfl))) ?_
    refine Steps.cons (fun a' w' hG hB dep => gs_assign (want_none rfl) _ rfl (id (dep 6 rfl 14 rfl))) ?_
    exact Steps.nil
  intro uu w2 hB2 ans
  have u9 : uu 9 = .map (some bm) := ans 0 9 (by decide) rfl
  have u6 : uu 6 = .int .i64 V := ans 7 6 (by decide) rfl
  have u7 : uu 7 = .bool b := ans 8 7 (by decide) rfl
  clear ans
  simp only [putAll, List.foldl_cons, List.foldl_nil, Act.put, List.setIfInBounds_toArray, List.set_cons_zero, List.set_cons_succ, u6, u7, u9]
  clear u6 u7 u9
  simp only [List.drop]
  refine wpList_nil ?_
  replace hm := blk_then hm hB2
  replace hq1 := blk_then hq1 hB2
  replace hd1 := blk_then hd1 hB2
  replace him := him.then_ hB2
  replace h4 := blk_then h4 hB2
  have hB := below_then hB1 hB2
  have hs2 : w.heap.size + 1 ≤ w2.heap.size := by have := hB2.size; omega
  clear hB1 hB2 hs1
  have hQ0 : Hid (QSt N K b0 gd bm gm gq f AN nN cN L w2) := Lib.hid ⟨⟨o1, o2, o3, o4, Nat.le_trans o5 hB.size⟩, hm, by rw [← Hlq.out, ← Hks.out]; exact him, ⟨A, c, by rw [← Hlq.out]; exact hq1, by rw [← Hlq.out]; exact hq2.then_ hB⟩, fun x hx => (Hins.out x hx).then_ hB, ⟨AF, cF, AE, cE, by rw [← Hlq.out]; exact hd1, by rw [← Hlq.out]; exact hd2.then_ hB, by rw [← Hlq.out]; exact hd3.then_ hB, Hd4.out⟩, Hok.out⟩
  by_cases hin : key ∈ ks
  · have hb1 : b = true := by rw [hb, idxM_old hin]; rfl
    have hV1 : V = (ks.idxOf key : Int) := by rw [hV, idxM_old hin]; rfl
    subst hb1
    have hm2 := Hmem.out.1 hin
    have HV := Lib.hid (And.intro hV1 hm2)
    clear hV hb hV1 hm2 hin
    go_wp2_with (fail)
    go_ret
    rw [addM_old HV.out.2]
    exact ⟨by rw [HV.out.1, Hidx.out]; rfl, hQ0.out, .of_below hB⟩
  · have hb1 : b = false := by rw [hb, idxM_new hin]; rfl
    subst hb1
    have Hin := Lib.hid hin
    clear hV hb hin
    have cq : w2.cell? ⟨gq, 0, none⟩ = some (.slice A lq c) := hq1.cellv rfl
    have hno : x.mo ∉ L.map MQ.mo := fun h => Hin.out (Hmem.out.2 h)
    have Hno := Lib.hid hno
    clear hQ0 hno
    go_upto_region 4 with (fail)
    clear cq
    refine wp_region_steps 4 [eqS (.map (some bm)), eqS (.agg (momC (some ⟨x.g, 0, none⟩) K x.c x.mo.met x.mo.end_)), eqS (.string (bs key)), eqS (.int .i64 (lq : Int))] [19, 20, 21, 22] follows_mixed (by kernel_rfl) (by kernel_rfl) ?_ ?_
    · skip
      refine Steps.cons (fun a' w' hG hB dep => gs_load1 (want_none rfl) _ _ rfl gm 0 (hG.other 1 rfl) (.map (some bm)) ((blk_then hm hB).cellv rfl) _ Tryd.underlying87 rfl rfl) ?_
      refine Steps.cons (fun a' w' hG hB dep => gs_load_mom (want_none rfl) _ rfl gx (hG.other 4 rfl) (blk_then h4 hB) rfl) ?_
      refine Steps.cons (fun a' w' hG hB3 dep => gs_call (want_none rfl) _ _ _ rfl enter_key #[.agg (momC (some ⟨x.g, 0, none⟩) K x.c x.mo.met x.mo.end_)] (map1 (dep 1 rfl 20 rfl)) (ret_step (kK _ (below_then hB hB3)) (fun _ => rfl))) ?_
      refine Steps.cons (fun a' w' hG hB dep => gs_move (want_none rfl) _ rfl (id (hG.other 6 rfl))) ?_
      exact Steps.nil
    intro uu2 w3 hB3 ans
    have u19 : uu2 19 = .map (some bm) := ans 0 19 (by decide) rfl
    have u21 : uu2 21 = .string (bs key) := ans 2 21 (by decide) rfl
    have u22 : uu2 22 = .int .i64 (lq : Int) := ans 3 22 (by decide) rfl
    clear ans
    simp only [putAll, List.foldl_cons, List.foldl_nil, Act.put, List.setIfInBounds_toArray, List.set_cons_zero, List.set_cons_succ, u19, u21, u22]
    clear u19 u21 u22
    simp only [List.drop]
    replace hm := blk_then hm hB3
    replace hq1 := blk_then hq1 hB3
    replace hd1 := blk_then hd1 hB3
    replace him := him.then_ hB3
    replace h4 := blk_then h4 hB3
    replace hB := below_then hB hB3
    replace hs2 : w.heap.size + 1 ≤ w3.heap.size := by have := hB3.size; omega
    clear hB3 kK
    refine wl_map_put keyStr Tryd.underlying87 Tryd.underlying3 him (by unfold maxLen; omega) rfl _ _ _ rfl rfl key Hkey.out rfl lq rfl (by rw [show ((lq : Int)) = (lq : Nat) from rfl]; exact wf_small (by omega) (by omega)) ?_
    intro w4 him4 hg4
    refine wpList_nil ?_
    have him5 : IntMap Tryd.prog 9 3 okS litK w4 bm (lq + 1) (idxM (ks ++ [key])) (lq + 1) := by
      have e := him4
      rw [idxM_new Hin.out, ← Hkl.out, idxM_put Hin.out, Hkl.out] at e
      exact e
    have hgt : ∀ {α : Type} {enc : α → Array Value} {size : Nat} {e : TypeId} {v : Value} {ys : List α}, Own w b0 e size enc v ys → Own w4 b0 e size enc v ys := fun h => (h.then_ hB).grown hg4 (fun e => by have := (h.lt _ e).1; omega)
    replace hq2 := hgt hq2
    replace hd2 := hgt hd2
    replace hd3 := hgt hd3
    have Hins4 := Lib.hid (fun y hy => hgt (Hins.out y hy))
    have HI4 := Lib.hid (hgt hI)
    have hF4 : FQ b0 gd bm gq w w4 := (FQ.of_below hB).trans (.one hg4 (.inr (.inl rfl)))
    replace hm := blk_grown hm hg4 (by omega)
    replace hq1 := blk_grown hq1 hg4 (by omega)
    replace hd1 := blk_grown hd1 hg4 (by omega)
    replace h4 := blk_grown h4 hg4 (by have := Hgx.out; omega)
    replace hs2 : w.heap.size + 1 ≤ w4.heap.size := by have := hg4.size; omega
    clear him4 him hgt hg4 hB hI Hins
    have cq : w4.cell? ⟨gq, 0, none⟩ = some (.slice A lq c) := hq1.cellv rfl
    go_upto_region 6 with (first
      | (refine wl_load_mom rfl _ rfl gx rfl (some ⟨x.g, 0, none⟩) K x.c x.mo.met x.mo.end_ h4 ?_)
      | (refine wl_bsM rfl _ rfl (some ⟨x.g, 0, none⟩) K x.c x.mo.met x.mo.end_ rfl ?_)
      | (at_builtin; refine wl_pushM rfl _ _ rfl b0 K L x rfl rfl (Blk.new _ _ _) (hq2.then_ (below_alloc (Below.refl _ _) _)) Hlq.out (by have := Hlq.out; omega) (by have := Hgx.out; simp; omega) ?_; intro A' c' w6 hq6 hg6; have hq16 := blk_own (blk_then hq1 (below_alloc (Below.refl _ _) _)) (hq2.then_ (below_alloc (Below.refl _ _) _)) hg6 o4)
      | (refine wl_store_cell rfl _ _ _ rfl gq 0 rfl 88 _ #[.slice A' (lq + 1) c'] hq16 (Nat.lt_succ_self 0) info_moms1 rfl rfl rfl ?_; intro w7 hq17 hg7))
    have Ba : Below w4.heap.size w4 (w4.alloc (.cells (momC (some ⟨x.g, 0, none⟩) K x.c x.mo.met x.mo.end_) 92)) := below_alloc (Below.refl _ _) _
    have hqa := hq2.then_ Ba
    have gt7 : ∀ {α : Type} {enc : α → Array Value} {size : Nat} {e : TypeId} {v : Value} {ys : List α}, 92 ≠ e → Own w4 b0 e size enc v ys → Own w7 b0 e size enc v ys := fun hne h => own_low (own_own (h.then_ Ba) hqa hg6 hne) hg7 o4
    replace hd2 := gt7 (by decide) hd2
    replace hd3 := gt7 (by decide) hd3
    have HI7 := Lib.hid (gt7 (by decide) HI4.out)
    have Hins7 := Lib.hid (fun y hy => gt7 (by decide) (Hins4.out y hy))
    have hq7 := own_low hq6 hg7 o4
    replace hm := blk_grown (blk_own (blk_then hm Ba) hqa hg6 (by omega)) hg7 (by omega)
    replace hd1 := blk_grown (blk_own (blk_then hd1 Ba) hqa hg6 (by omega)) hg7 (by omega)
    have h47 := blk_grown ((blk_then h4 Ba).grown hg6 (fun e => by have := hAlt _ e.symm; omega)) hg7 (by have := Hgx.out; omega)
    have him7 := ((him5.then_ Ba).grown' hg6 (fun e => by have := (hqa.lt _ e.symm).1; omega)).grown hg7 (by omega)
    have hF7 := ((hF4.then_ Ba).trans (.own hqa (.inl rfl) hg6)).trans (.one hg7 (.inr (.inr rfl)))
    have hs7 : w.heap.size + 1 ≤ w7.heap.size := by have h1 := Ba.size; have h2 := hg6.size; have h3 := hg7.size; omega
    clear gt7 hqa Ba hq2 hq6 hq16 hq1 h4 him5 hg6 hg7 hF4 hs2 cq HI4 Hins4 hAlt
    have cF7 : w7.cell? ⟨gd, 257, none⟩ = some (.slice AF lq cF) := blk_d2 hd1
    have cm7 : w7.cell? ⟨gx, 1, none⟩ = some (.int .u32 (x.mo.met : Int)) := h47.cellv (i := 1) rfl
    go_upto_region 7 with (first
      | (refine wl_bs32 rfl _ rfl (x.mo.met : Int) rfl ?_)
      | (at_builtin; refine wl_push32 rfl _ _ rfl b0 (L.map (·.mo.met)) x.mo.met rfl rfl (Blk.new _ _ _) (hd2.then_ (below_alloc (Below.refl _ _) _)) (by rw [List.length_map]; exact Hlq.out) (by rw [List.length_map]; have := Hlq.out; omega) (by have := Hgx.out; simp; omega) ?_; intro AF' cF' w8 hd8 hg8 hv8; have hd18 := blk_own (blk_then hd1 (below_alloc (Below.refl _ _) _)) (hd2.then_ (below_alloc (Below.refl _ _) _)) hg8 (show gd < b0 by omega))
      | (refine wl_store_cell rfl _ _ _ rfl gd 257 rfl 33 _ (dfaC f AN nN cN AF' (lq + 1) cF' AE lq cE) hd18 (by rw [dfaC_size]; omega) info_u32s1 rfl rfl (dfaC_set2 _ _ _ _ _ _ _ _ _ _ _ _ _) ?_; intro w9 hd19 hg9))
    have Bb : Below w7.heap.size w7 (w7.alloc (.cells (encR x.mo.met) 43)) := below_alloc (Below.refl _ _) _
    have hfa := hd2.then_ Bb
    have gt9 : ∀ {α : Type} {enc : α → Array Value} {size : Nat} {e : TypeId} {v : Value} {ys : List α}, 43 ≠ e → Own w7 b0 e size enc v ys → Own w9 b0 e size enc v ys := fun hne h => own_low (own_own (h.then_ Bb) hfa hg8 hne) hg9 (by omega)
    have HI9 := Lib.hid (gt9 (by decide) HI7.out)
    have Hins9 := Lib.hid (fun y hy => gt9 (by decide) (Hins7.out y hy))
    have hq9 := gt9 (by decide) hq7
    have hd4b := apart_new hv8 Hd4.out (fun b hb => Nat.lt_of_lt_of_le (own_blk_lt hd3 b hb) Bb.size)
    have Hd4b := Lib.hid hd4b
    have hd39 := own_low (own_aside (hd3.then_ Bb) (fun a b ha hb => (Hd4.out b a hb ha).symm) hg8) hg9 (show gd < b0 by omega)
    have hd29 := own_low hd8 hg9 (show gd < b0 by omega)
    replace hm := blk_grown (blk_own (blk_then hm Bb) hfa hg8 (by omega)) hg9 (by omega)
    have hq19 := blk_grown (blk_own (blk_then hq17 Bb) hfa hg8 o4) hg9 (by omega)
    have h49 := blk_grown (blk_aside (blk_then h47 Bb) hfa hg8 (by decide)) hg9 (by have := Hgx.out; omega)
    have him9 := ((him7.then_ Bb).grown' hg8 (fun e => by have := (hfa.lt _ e.symm).1; omega)).grown hg9 (by omega)
    have hF9 := ((hF7.then_ Bb).trans (.own hfa (.inr rfl) hg8)).trans (.one hg9 (.inl rfl))
    have hs9 : w.heap.size + 1 ≤ w9.heap.size := Nat.le_trans hs7 (Nat.le_trans Bb.size (Nat.le_trans hg8.size hg9.size))
    clear gt9 hfa Bb hd2 hd3 hd8 hv8 hd18 hd1 h47 him7 hg8 hg9 hF7 hs7 cF7 cm7 HI7 Hins7 hq7 hq17 hd4b Hd4
    have cE9 : w9.cell? ⟨gd, 258, none⟩ = some (.slice AE lq cE) := blk_d3 hd19
    have cm9 : w9.cell? ⟨gx, 2, none⟩ = some (.int .u32 (x.mo.end_ : Int)) := h49.cellv (i := 2) rfl
    go_wp2_with (first
      | (refine wl_bs32 rfl _ rfl (x.mo.end_ : Int) rfl ?_)
      | (at_builtin; refine wl_push32 rfl _ _ rfl b0 (L.map (·.mo.end_)) x.mo.end_ rfl rfl (Blk.new _ _ _) (hd39.then_ (below_alloc (Below.refl _ _) _)) (by rw [List.length_map]; exact Hlq.out) (by rw [List.length_map]; have := Hlq.out; omega) (by have := Hgx.out; simp; omega) ?_; intro AE' cE' wa hda hga hva; have hd1a := blk_own (blk_then hd19 (below_alloc (Below.refl _ _) _)) (hd39.then_ (below_alloc (Below.refl _ _) _)) hga (show gd < b0 by omega))
      | (refine wl_store_cell rfl _ _ _ rfl gd 258 rfl 33 _ (dfaC f AN nN cN AF' (lq + 1) cF' AE' (lq + 1) cE') hd1a (by rw [dfaC_size]; omega) info_u32s1 rfl rfl (dfaC_set3 _ _ _ _ _ _ _ _ _ _ _ _ _) ?_; intro wb hd1b hgb))
    have Bc : Below w9.heap.size w9 (w9.alloc (.cells (encR x.mo.end_) 43)) := below_alloc (Below.refl _ _) _
    have hfa := hd39.then_ Bc
    have gtb : ∀ {α : Type} {enc : α → Array Value} {size : Nat} {e : TypeId} {v : Value} {ys : List α}, 43 ≠ e → Own w9 b0 e size enc v ys → Own wb b0 e size enc v ys := fun hne h => own_low (own_own (h.then_ Bc) hfa hga hne) hgb (by omega)
    have HIb := gtb (by decide) HI9.out
    have Hinsb := fun y hy => gtb (by decide) (Hins9.out y hy)
    have hqb := gtb (by decide) hq9
    have hd2b := own_low (own_aside (hd29.then_ Bc) Hd4b.out hga) hgb (show gd < b0 by omega)
    have hd3b := own_low hda hgb (show gd < b0 by omega)
    have hd5 : ∀ a b, AF' = some a → AE' = some b → a.block ≠ b.block := fun a b ha hb => (apart_new hva (fun a b ha hb => (Hd4b.out b a hb ha).symm) (fun b hb => Nat.lt_of_lt_of_le (own_blk_lt hd29 b hb) Bc.size) b a hb ha).symm
    replace hm := blk_grown (blk_own (blk_then hm Bc) hfa hga (by omega)) hgb (by omega)
    have hq1b := blk_grown (blk_own (blk_then hq19 Bc) hfa hga o4) hgb (by omega)
    have himb := ((him9.then_ Bc).grown' hga (fun e => by have := (hfa.lt _ e.symm).1; omega)).grown hgb (by omega)
    have hFb := ((hF9.then_ Bc).trans (.own hfa (.inr rfl) hga)).trans (.one hgb (.inl rfl))
    have hl1 : (L ++ [x]).length = lq + 1 := by rw [List.length_append, ← Hlq.out]; rfl
    go_ret
    rw [addM_new Hno.out]
    refine ⟨?_, ⟨⟨o1, o2, o3, o4, Nat.le_trans o5 hFb.size⟩, hm, ?_, ⟨A', c', by rw [hl1]; exact hq1b, by rw [hl1]; exact hqb⟩, ?_, ⟨AF', cF', AE', cE', by rw [hl1]; exact hd1b, ?_, ?_, hd5⟩, ?_⟩, hFb⟩
    · rw [List.map_append, List.idxOf_append, if_neg Hno.out]
      simp [← Hlq.out]
    · rw [hl1, List.map_append, ← Hks.out, List.map_cons, List.map_nil, ← Hkk.out]
      exact himb
    · intro y hy
      rcases List.mem_append.1 hy with hy | hy
      · exact Hinsb y hy
      · rw [List.mem_singleton] at hy
        subst hy
        exact HIb
    · rw [hl1, List.map_append]
      exact hd2b
    · rw [hl1, List.map_append]
      exact hd3b
    · intro y hy
      rcases List.mem_append.1 hy with hy | hy
      · exact Hok.out y hy
      · rw [List.mem_singleton] at hy
        subst hy
        exact Hx.out
end Go.Proofs.YtkedgombccdamaaDoor
namespace Go.Proofs.YtkedgombccdamaaDoor
set_option linter.unusedVariables false
set_option linter.unusedSimpArgs false
section
variable {α : Type} [DecidableEq α] (step : α → Nat → α) (bs : List Nat)
def addQ (Q : List α) (x : α) : List α := if x ∈ Q then Q else Q ++ [x]
def rowQ (q : α) (bs : List Nat) (Q : List α) : List α := bs.foldl (fun Q b => addQ Q (step q b)) Q
def bfsN (a0 : α) : Nat → List α
  | 0 => [a0]
  | i + 1 => match (bfsN a0 i)[i]? with
    | some q => rowQ step q bs (bfsN a0 i)
    | none => bfsN a0 i
variable {step bs}
theorem addQ_prefix (Q : List α) (x : α) : ∃ r, addQ Q x = Q ++ r := by
  unfold addQ
  split
  · exact ⟨[], by simp⟩
  · exact ⟨[x], rfl⟩
theorem addQ_mem (Q : List α) (x : α) : x ∈ addQ Q x := by
  unfold addQ
  split
  · assumption
  · simp
theorem rowQ_prefix (q : α) : ∀ (bs : List Nat) (Q : List α), ∃ r, rowQ step q bs Q = Q ++ r
  | [], Q => ⟨[], by simp [rowQ]⟩
  | b :: bs, Q => by
    obtain ⟨r, hr⟩ := addQ_prefix Q (step q b)
    obtain ⟨s, hs⟩ := rowQ_prefix q bs (addQ Q (step q b))
    exact ⟨r ++ s, by rw [show rowQ step q (b :: bs) Q = rowQ step q bs (addQ Q (step q b)) from rfl, hs, hr, List.append_assoc]⟩
theorem rowQ_snoc (q : α) (bs : List Nat) (b : Nat) (Q : List α) : rowQ step q (bs ++ [b]) Q = addQ (rowQ step q bs Q) (step q b) := by
  unfold rowQ
  rw [List.foldl_append]
  rfl
theorem rowQ_mem (q : α) : ∀ (bs : List Nat) (Q : List α) (b : Nat), b ∈ bs → step q b ∈ rowQ step q bs Q
  | c :: bs, Q, b, h => by
    rw [show rowQ step q (c :: bs) Q = rowQ step q bs (addQ Q (step q c)) from rfl]
    rcases List.mem_cons.1 h with rfl | h
    · obtain ⟨r, hr⟩ := rowQ_prefix (step := step) q bs (addQ Q (step q b))
      rw [hr]
      exact List.mem_append_left _ (addQ_mem _ _)
    · exact rowQ_mem q bs _ b h
theorem rowQ_all {p : α → Prop} (q : α) : ∀ (bs : List Nat) (Q : List α), (∀ x ∈ Q, p x) → (∀ b ∈ bs, p (step q b)) → ∀ x ∈ rowQ step q bs Q, p x
  | [], Q, h, _ => h
  | b :: bs, Q, h, h2 => rowQ_all q bs (addQ Q (step q b)) (by
      intro x hx
      unfold addQ at hx
      split at hx
      · exact h x hx
      · rcases List.mem_append.1 hx with hx | hx
        · exact h x hx
        · rw [List.mem_singleton.1 hx]
          exact h2 b (List.mem_cons_self ..)) (fun b hb => h2 b (List.mem_cons_of_mem _ hb))
theorem bfs_succ {a0 : α} {i : Nat} (h : i < (bfsN step bs a0 i).length) : bfsN step bs a0 (i + 1) = rowQ step (bfsN step bs a0 i)[i] bs (bfsN step bs a0 i) := by
  rw [bfsN, List.getElem?_eq_getElem h]
theorem bfs_stay {a0 : α} {i : Nat} (h : (bfsN step bs a0 i).length ≤ i) : bfsN step bs a0 (i + 1) = bfsN step bs a0 i := by
  rw [bfsN, List.getElem?_eq_none h]
theorem bfs_prefix1 (a0 : α) (i : Nat) : ∃ r, bfsN step bs a0 (i + 1) = bfsN step bs a0 i ++ r := by
  by_cases h : i < (bfsN step bs a0 i).length
  · rw [bfs_succ h]
    exact rowQ_prefix _ _ _
  · rw [bfs_stay (by omega)]
    exact ⟨[], by simp⟩
theorem bfs_prefix (a0 : α) {i j : Nat} (h : i ≤ j) : ∃ r, bfsN step bs a0 j = bfsN step bs a0 i ++ r := by
  induction j with
  | zero => rw [show i = 0 by omega]; exact ⟨[], by simp⟩
  | succ j ih =>
    by_cases e : i = j + 1
    · rw [e]; exact ⟨[], by simp⟩
    · obtain ⟨r, hr⟩ := ih (by omega)
      obtain ⟨s, hs⟩ := bfs_prefix1 (step := step) (bs := bs) a0 j
      exact ⟨r ++ s, by rw [hs, hr, List.append_assoc]⟩
theorem bfs_len (a0 : α) {i j : Nat} (h : i ≤ j) : (bfsN step bs a0 i).length ≤ (bfsN step bs a0 j).length := by
  obtain ⟨r, hr⟩ := bfs_prefix (step := step) (bs := bs) a0 h
  rw [hr]; simp
def Done (step : α → Nat → α) (bs : List Nat) (a0 : α) (i : Nat) : Prop := (bfsN step bs a0 i).length = i
theorem Done.stay {a0 : α} {i : Nat} (h : Done step bs a0 i) : ∀ j, i ≤ j → bfsN step bs a0 j = bfsN step bs a0 i := by
  intro j
  induction j with
  | zero => intro hj; rw [show i = 0 by omega]
  | succ j ih =>
    intro hj
    by_cases e : i = j + 1
    · rw [e]
    · have := ih (by omega)
      rw [bfs_stay (by rw [this, h]; omega), this]
theorem Done.one {a0 : α} {i j : Nat} (h : Done step bs a0 i) (k : Done step bs a0 j) : i = j := by
  rcases Nat.le_total i j with e | e
  · have := h.stay j e
    have h2 : (bfsN step bs a0 j).length = j := k
    rw [this] at h2
    exact h.symm.trans h2
  · have := k.stay i e
    have h2 : (bfsN step bs a0 i).length = i := h
    rw [this] at h2
    exact h2.symm.trans k
theorem Done.gt {a0 : α} {i k m : Nat} (hk : Done step bs a0 k) (hi : i < (bfsN step bs a0 i).length) (hm : m ≤ (bfsN step bs a0 (i + 1)).length) : m ≤ k := by
  have h1 : (bfsN step bs a0 k).length = k := hk
  rcases Nat.lt_or_ge i k with e | e
  · have := bfs_len (step := step) (bs := bs) a0 (show i + 1 ≤ k from e)
    omega
  · have := hk.stay i e
    rw [this, h1] at hi
    omega
theorem bfs_all {p : α → Prop} {a0 : α} (h0 : p a0) (hs : ∀ q b, p q → b ∈ bs → p (step q b)) : ∀ i, ∀ x ∈ bfsN step bs a0 i, p x
  | 0, x, hx => by rw [show x = a0 by simpa [bfsN] using hx]; exact h0
  | i + 1, x, hx => by
    have ih := bfs_all h0 hs i
    by_cases h : i < (bfsN step bs a0 i).length
    · rw [bfs_succ h] at hx
      exact rowQ_all _ _ _ ih (fun b hb => hs _ b (ih _ (List.getElem_mem h)) hb) x hx
    · rw [bfs_stay (by omega)] at hx
      exact ih x hx
def entsQ (step : α → Nat → α) (bs : List Nat) (Q : List α) (q : α) : List Nat := bs.map fun b => Q.idxOf (step q b)
theorem ents_grow {Q r : List α} {q : α} (h : ∀ b ∈ bs, step q b ∈ Q) : entsQ step bs (Q ++ r) q = entsQ step bs Q q := by
  unfold entsQ
  apply List.map_congr_left
  intro b hb
  rw [List.idxOf_append, if_pos (h b hb)]
def rowsQ (step : α → Nat → α) (bs : List Nat) (a0 : α) (i : Nat) : List (List Nat) := ((bfsN step bs a0 i).take i).map (entsQ step bs (bfsN step bs a0 i))
theorem bfs_closed (a0 : α) : ∀ i, ∀ x ∈ (bfsN step bs a0 i).take i, ∀ b ∈ bs, step x b ∈ bfsN step bs a0 i
  | 0, x, hx, b, hb => by simp at hx
  | i + 1, x, hx, b, hb => by
    by_cases h : i < (bfsN step bs a0 i).length
    · obtain ⟨r, hr⟩ := rowQ_prefix (step := step) (bfsN step bs a0 i)[i] bs (bfsN step bs a0 i)
      rw [bfs_succ h] at hx ⊢
      have ht : (rowQ step (bfsN step bs a0 i)[i] bs (bfsN step bs a0 i)).take (i + 1) = (bfsN step bs a0 i).take i ++ [(bfsN step bs a0 i)[i]] := by
        rw [hr, List.take_append_of_le_length (by omega), List.take_succ_eq_append_getElem h]
      rw [ht] at hx
      rcases List.mem_append.1 hx with hx | hx
      · have := bfs_closed a0 i x hx b hb
        rw [hr]
        exact List.mem_append_left _ this
      · rw [List.mem_singleton.1 hx]
        exact rowQ_mem _ _ _ b hb
    · have hs := bfs_stay (step := step) (bs := bs) (a0 := a0) (i := i) (by omega)
      rw [hs] at hx ⊢
      rw [List.take_of_length_le (by omega)] at hx
      exact bfs_closed a0 i x (by rw [List.take_of_length_le (by omega)]; exact hx) b hb
theorem rows_succ {a0 : α} {i : Nat} (h : i < (bfsN step bs a0 i).length) : rowsQ step bs a0 (i + 1) = rowsQ step bs a0 i ++ [entsQ step bs (bfsN step bs a0 (i + 1)) (bfsN step bs a0 i)[i]] := by
  obtain ⟨r, hr⟩ := bfs_prefix1 (step := step) (bs := bs) a0 i
  unfold rowsQ
  rw [hr, List.take_append_of_le_length (by omega), List.take_succ_eq_append_getElem h, List.map_append]
  congr 1
  apply List.map_congr_left
  intro x hx
  exact ents_grow fun b hb => bfs_closed a0 i x hx b hb
theorem rows_done {a0 : α} {i : Nat} (h : Done step bs a0 i) : rowsQ step bs a0 i = (bfsN step bs a0 i).map (entsQ step bs (bfsN step bs a0 i)) := by
  have h1 : (bfsN step bs a0 i).length = i := h
  unfold rowsQ
  rw [List.take_of_length_le (by omega)]
theorem rows_len {a0 : α} {i : Nat} (h : i ≤ (bfsN step bs a0 i).length) : (rowsQ step bs a0 i).length = i := by
  unfold rowsQ
  rw [List.length_map, List.length_take]
  omega
theorem ents_snoc {Q : List α} {q : α} {bs : List Nat} {b : Nat} (h : ∀ c ∈ bs, step q c ∈ Q) : entsQ step (bs ++ [b]) (addQ Q (step q b)) q = entsQ step bs Q q ++ [(addQ Q (step q b)).idxOf (step q b)] := by
  obtain ⟨r, hr⟩ := addQ_prefix Q (step q b)
  unfold entsQ
  rw [List.map_append]
  congr 1
  apply List.map_congr_left
  intro c hc
  rw [hr, List.idxOf_append, if_pos (h c hc)]
end
end Go.Proofs.YtkedgombccdamaaDoor
namespace Go.Proofs.YtkedgombccdamaaDoor
open Go.RowKit Go.Maps
set_option linter.unusedVariables false
set_option linter.unusedSimpArgs false
attribute [local go_sem] Oper.semAt_some
theorem getD_at {α : Type} (l : List α) (d : α) {i : Nat} (h : i < l.length) : l.getD i d = l[i] := by simp [h]
theorem nxt_at {x : TV} {s : Nat} {c : Nat} (hs : s < x.rs.length) (hc : c < x.rs[s].l.length) : x.T.nxt s (c : Nat) = x.rs[s].l[c] := by
  have hs2 : s < (x.rs.map (·.l)).length := by simpa using hs
  show (((x.rs.map (·.l)).getD s []).getD ((c : Nat) : Int).toNat 0) = _
  rw [getD_at _ _ hs2]
  simp only [List.getElem_map, Int.toNat_natCast]
  rw [getD_at _ _ hc]
theorem fits_row {x : TV} (hF : s_Fits x.T) {s : Nat} (hs : s < x.rs.length) : x.rs[s].l.length = x.T.many := by
  have := hF.row s (by show s < (x.rs.map (·.l)).length; simpa using hs)
  have hs2 : s < (x.rs.map (·.l)).length := by simpa using hs
  have e : (x.T.nx.getD s []) = x.rs[s].l := by
    show (x.rs.map (·.l)).getD s [] = _
    rw [getD_at _ _ hs2, List.getElem_map]
  rw [e] at this
  exact this
theorem fits_n {x : TV} : x.T.nx.length = x.rs.length := List.length_map _
theorem fits_au {x : TV} : x.T.au.n = x.rs.length := List.length_map _
theorem fits_go {x : TV} (hF : s_Fits x.T) {s b : Nat} (hs : s < x.rs.length) (hb : b < 256) : ∃ c : Nat, x.f b = (c : Int) ∧ c < x.T.many ∧ ∃ hc : c < x.rs[s].l.length, x.rs[s].l[c] = ((x.T.au.go s b : Nat) : Int) := by
  obtain ⟨h0, h1⟩ := hF.cl b hb
  obtain ⟨c, hc⟩ := Int.eq_ofNat_of_zero_le h0
  have hcf : x.f b = (c : Int) := hc
  have hcm : c < x.T.many := by omega
  have hcr : c < x.rs[s].l.length := by rw [fits_row hF hs]; exact hcm
  refine ⟨c, hcf, hcm, hcr, ?_⟩
  have h3 := (hF.tr s c (by rw [fits_n]; exact hs) hcm).1
  rw [nxt_at hs hcr] at h3
  show _ = (((x.T.nxt s (x.T.cls b)).toNat : Nat) : Int)
  rw [show x.T.cls b = ((c : Nat) : Int) from hc, nxt_at hs hcr, Int.toNat_of_nonneg h3]
end Go.Proofs.YtkedgombccdamaaDoor
namespace Go.Proofs.YtkedgombccdamaaDoor
open Go.RowKit Go.Maps
set_option linter.unusedVariables false
set_option linter.unusedSimpArgs false
attribute [local go_sem] Oper.semAt_some
noncomputable def fitsB (T : Tb) : Bool := @decide (s_Fits T) (Classical.propDecidable _)
theorem fitsB_yes {T : Tb} (h : s_Fits T) : fitsB T = true := @decide_eq_true _ (Classical.propDecidable _) h
theorem fitsB_no {T : Tb} (h : ¬ s_Fits T) : fitsB T = false := @decide_eq_false _ (Classical.propDecidable _) h
def ToOk (T : Tb) (s : Nat) (z : Int) : Prop := 0 ≤ z ∧ z < T.nx.length ∧ T.fo.getD s 0 &&& T.fo.getD z.toNat 0 = T.fo.getD s 0
def RowOk (T : Tb) (s : Nat) : Prop := (T.nx.getD s []).length = T.many ∧ T.fo.getD s 0 &&& T.en.getD s 0 = T.fo.getD s 0
theorem fits_of {T : Tb} (h1 : 1 ≤ T.nx.length) (h2 : T.nx.length ≤ 4096) (h3 : T.fo.length = T.nx.length) (h4 : T.en.length = T.nx.length) (h5 : 1 ≤ T.many) (h6 : T.many ≤ 256) (h7 : ∀ b, b < 256 → 0 ≤ T.cls b ∧ T.cls b < T.many)
    (h8 : ∀ s, s < T.nx.length → RowOk T s ∧ ∀ c, c < T.many → ToOk T s (T.nxt s (c : Nat))) : s_Fits T :=
  ⟨h1, h2, h3, h4, h5, h6, h7, fun s hs => (h8 s hs).1.1, fun s hs => (h8 s hs).1.2, fun s c hs hc => (h8 s hs).2 c hc⟩
theorem s_row_at {x : TV} {s : Nat} (hs : s < x.rs.length) : x.T.nx.getD s [] = x.rs[s].l := by
  have hs2 : s < (x.rs.map (·.l)).length := by simpa using hs
  show (x.rs.map (·.l)).getD s [] = _
  rw [getD_at _ _ hs2, List.getElem_map]
theorem many_at {x : TV} (hs : 0 < x.rs.length) : x.T.many = x.rs[0].l.length := by
  unfold Tb.many
  rw [s_row_at hs]
theorem bne_nat (a b : Nat) : ((a : Int) != (b : Int)) = decide (a ≠ b) := by
  by_cases e : a = b
  · subst e; simp
  · simp [e]; omega
end Go.Proofs.YtkedgombccdamaaDoor
namespace Go.Proofs.YtkedgombccdamaaDoor
open Go.RowKit Go.Maps
set_option linter.unusedVariables false
set_option linter.unusedSimpArgs false
attribute [local go_sem] Oper.semAt_some
set_option maxRecDepth 100000 in
set_option maxHeartbeats 4000000 in
theorem within_any (x : TV) (y : Nat) (z : Int) (hy32 : y < 4294967296) (hfo : x.fo.length = x.rs.length) (w : World) (hT : TabIn w w.heap.size x) :
    Calls Tryd.prog 47 #[.agg x.C', .int .u32 (y : Nat), .int .i64 z] w fun e w' => ∃ b : Bool, (b = true ↔ 0 ≤ z ∧ z < x.rs.length ∧ y &&& x.fo.getD z.toNat 0 = y) ∧ e = .returned (.bool b) ∧ Below w.heap.size w w' := by
  unfold TV.C'
  replace hfo := Lib.hid hfo
  go_enter Tryd.func47, Tryd.ntmps47
  obtain ⟨A, hA⟩ : ∃ A, A = x.A := ⟨_, rfl⟩
  have h1 := Blk.new w 33 (dfaC x.f x.A x.rs.length x.c x.B x.fo.length x.d x.C x.en.length x.e)
  have hB1 := below_alloc (Below.refl w.heap.size w) (.cells (dfaC x.f x.A x.rs.length x.c x.B x.fo.length x.d x.C x.en.length x.e) 33)
  go_upto_region 1 with (fail)
  obtain ⟨w1, hw1⟩ : ∃ y, y = w.alloc (.cells (dfaC x.f x.A x.rs.length x.c x.B x.fo.length x.d x.C x.en.length x.e) 33) := ⟨_, rfl⟩
  rw [← hw1] at h1 hB1 ⊢
  clear hw1 hA A
  by_cases hzr : 0 ≤ z ∧ z < x.rs.length
  · obtain ⟨t, rfl⟩ := Int.eq_ofNat_of_zero_le hzr.1
    have htl : t < x.rs.length := by omega
    have htF : t < x.fo.length := by rw [hfo.out]; exact htl
    obtain ⟨bF, oF, hFo, hbF, hrF⟩ := hT.fo.at_ (by omega)
    replace hFo := Lib.hid hFo
    obtain ⟨v, hv⟩ : ∃ v, v = x.fo[t] := ⟨_, rfl⟩
    have hv32 : v < 4294967296 := by rw [hv]; exact hT.f32 _ (List.getElem_mem _)
    have cF : ∀ {X : World}, Below w1.heap.size w1 X → X.cell? ⟨w.heap.size, 257, none⟩ = some (.slice (some ⟨bF, oF, none⟩) x.fo.length x.d) := fun hB => by rw [← hFo.out]; exact blk_d2 (blk_then h1 hB)
    have cv : ∀ {X : World}, Below w1.heap.size w1 X → X.cell? ⟨bF, oF + t * 1, none⟩ = some (.int .u32 ((v : Nat) : Int)) := fun hB => by rw [hv]; exact cell_keep (hrF t htF 0 _ rfl) hbF (below_then hB1 hB)
    have vT : x.fo.getD ((t : Nat) : Int).toNat 0 = v := by rw [hv, Int.toNat_natCast]; exact getD_at x.fo 0 htF
    replace vT := Lib.hid vT
    clear hv
    obtain ⟨q, hq⟩ : ∃ q, (((y &&& (4294967295 - v) : Nat) : Int) == 0) = q := ⟨_, rfl⟩
    have hp1 : decide ((0 : Int) ≤ ((t : Nat) : Int)) = true := decide_eq_true (by omega)
    have hp2 : decide (((t : Nat) : Int) < ((x.rs.length : Nat) : Int)) = true := decide_eq_true (by omega)
    refine wp_region_text 20 [eqS (.int .i64 (((t : Nat) : Int))), eqS (.bool true), eqS (.bool true), eqS (vF (true && (true == true)) (.int .i64 (((t : Nat) : Int)))), eqS (vF (true && (true == true)) (.pointer (some ⟨w.heap.size, 256, none⟩))), eqS (vF (true && (true == true)) (.slice x.A x.rs.length x.c)), eqS (vF (true && (true == true)) (.int .i64 (((x.rs.length : Nat) : Int)))), eqS (vF (true && (true == true)) (.bool true)), eqS (.bool (true && true)), eqS (.bool (true && true)), eqS (vF (true && ((true && true) == true)) (.int .u32 (((y : Nat) : Int)))), eqS (vF (true && ((true && true) == true)) (.pointer (some ⟨w.heap.size, 257, none⟩))), eqS (vF (true && ((true && true) == true)) (.slice (some ⟨bF, oF, none⟩) x.fo.length x.d)), eqS (vF (true && ((true && true) == true)) (.int .i64 (((t : Nat) : Int)))), eqS (vF (true && ((true && true) == true)) (.pointer (some ⟨bF, oF + t * 1, none⟩))), eqS (vF (true && ((true && true) == true)) (.int .u32 (((v : Nat) : Int)))), eqS (vF (true && ((true && true) == true)) (.int .u32 ((((y) &&& (4294967295 - (v)) : Nat) : Int)))), eqS (vF (true && ((true && true) == true)) (.bool q)), eqS (.bool ((true && true) && q)), eqS (.bool ((true && true) && q))] [7, 8, 9, 10, 11, 12, 13, 14, 15, 16, 17, 18, 19, 20, 21, 22, 23, 24, 25, 6] (by kernel_rfl) rfl ?_ ?_
    · skip
      refine Steps.cons (fun a' w' hG hB dep => gs_move (want_none rfl) _ rfl (id (hG.other 2 rfl))) ?_
      refine Steps.cons (fun a' w' hG hB dep => gs_geq_int (want_none rfl) _ _ _ _ rfl _ _ _ (dep 0 rfl 7 rfl) rfl (id (congrArg Value.bool hp1))) ?_
      refine Steps.cons (fun a' w' hG hB dep => gs_move (want_none rfl) _ rfl (id (dep 1 rfl 8 rfl))) ?_
      refine Steps.cons (fun a' w' hG hB dep => gs_guard (c := true) (b' := true) rfl rfl (dep 2 rfl 9 rfl) (fun hc he hw => gs_move hw _ rfl (Eq.trans (hG.other 2 rfl) (vF_yes (on_g hc he) _).symm)) (fun hn => vF_no hn _)) ?_
      refine Steps.cons (fun a' w' hG hB dep => gs_guard (c := true) (b' := true) rfl rfl (dep 2 rfl 9 rfl) (fun hc he hw => gs_field hw _ _ _ rfl w.heap.size (0) (256) (hG.other 3 rfl) (fun wz => field_dfa_1 w.heap.size (0) wz) (vF_yes (on_g hc he) _).symm) (fun hn => vF_no hn _)) ?_
      refine Steps.cons (fun a' w' hG hB dep => gs_guard (c := true) (b' := true) rfl rfl (dep 2 rfl 9 rfl) (fun hc he hw => gs_load1 hw _ _ rfl w.heap.size (256) (Eq.trans (dep 4 rfl 11 rfl) (vF_yes (on_g hc he) _)) (.slice x.A x.rs.length x.c) (blk_d1 (blk_then h1 hB)) _ Tryd.underlying31 rfl (vF_yes (on_g hc he) _).symm) (fun hn => vF_no hn _)) ?_
      refine Steps.cons (fun a' w' hG hB dep => gs_guard (c := true) (b' := true) rfl rfl (dep 2 rfl 9 rfl) (fun hc he hw => gs_len hw _ _ rfl under_rows _ x.rs.length x.c (Eq.trans (dep 5 rfl 12 rfl) (vF_yes (on_g hc he) _)) (vF_yes (on_g hc he) _).symm) (fun hn => vF_no hn _)) ?_
      refine Steps.cons (fun a' w' hG hB dep => gs_guard (c := true) (b' := true) rfl rfl (dep 2 rfl 9 rfl) (fun hc he hw => gs_lss_int hw _ _ _ _ rfl _ _ _ (Eq.trans (dep 3 rfl 10 rfl) (vF_yes (on_g hc he) _)) (Eq.trans (dep 6 rfl 13 rfl) (vF_yes (on_g hc he) _)) (Eq.trans (congrArg Value.bool hp2) (vF_yes (on_g hc he) _).symm)) (fun hn => vF_no hn _)) ?_
      refine Steps.cons (fun a' w' hG hB dep => gs_pick (want_none rfl) _ _ _ rfl true (dep 2 rfl 9 rfl) (id (pick_and2 (c := true) rfl (dep 7 rfl 14 rfl)))) ?_
      refine Steps.cons (fun a' w' hG hB dep => gs_move (want_none rfl) _ rfl (id (dep 8 rfl 15 rfl))) ?_
      refine Steps.cons (fun a' w' hG hB dep => gs_guard (c := true) (b' := (true && true)) rfl rfl (dep 9 rfl 16 rfl) (fun hc he hw => gs_move hw _ rfl (Eq.trans (hG.other 1 rfl) (vF_yes (on_g hc he) _).symm)) (fun hn => vF_no hn _)) ?_
      refine Steps.cons (fun a' w' hG hB dep => gs_guard (c := true) (b' := (true && true)) rfl rfl (dep 9 rfl 16 rfl) (fun hc he hw => gs_field hw _ _ _ rfl w.heap.size (0) (257) (hG.other 3 rfl) (fun wz => field_dfa_2 w.heap.size (0) wz) (vF_yes (on_g hc he) _).symm) (fun hn => vF_no hn _)) ?_
      refine Steps.cons (fun a' w' hG hB dep => gs_guard (c := true) (b' := (true && true)) rfl rfl (dep 9 rfl 16 rfl) (fun hc he hw => gs_load1 hw _ _ rfl w.heap.size (257) (Eq.trans (dep 11 rfl 18 rfl) (vF_yes (on_g hc he) _)) (.slice (some ⟨bF, oF, none⟩) x.fo.length x.d) (cF hB) _ Tryd.underlying23 rfl (vF_yes (on_g hc he) _).symm) (fun hn => vF_no hn _)) ?_
      refine Steps.cons (fun a' w' hG hB dep => gs_guard (c := true) (b' := (true && true)) rfl rfl (dep 9 rfl 16 rfl) (fun hc he hw => gs_move hw _ rfl (Eq.trans (hG.other 2 rfl) (vF_yes (on_g hc he) _).symm)) (fun hn => vF_no hn _)) ?_
      refine Steps.cons (fun a' w' hG hB dep => gs_guard (c := true) (b' := (true && true)) rfl rfl (dep 9 rfl 16 rfl) (fun hc he hw => gs_index hw _ _ _ rfl under_rules 1 size_ruleE bF oF x.fo.length x.d (t) (Eq.trans (dep 12 rfl 19 rfl) (vF_yes (on_g hc he) _)) (Eq.trans (dep 13 rfl 20 rfl) (vF_yes (on_g hc he) _)) htF (vF_yes (on_g hc he) _).symm) (fun hn => vF_no hn _)) ?_
      refine Steps.cons (fun a' w' hG hB dep => gs_guard (c := true) (b' := (true && true)) rfl rfl (dep 9 rfl 16 rfl) (fun hc he hw => gs_load1 hw _ _ rfl bF (oF + t * 1) (Eq.trans (dep 14 rfl 21 rfl) (vF_yes (on_g hc he) _)) (.int .u32 (((v : Nat) : Int))) (cv hB) _ Tryd.underlying43 rfl (vF_yes (on_g hc he) _).symm) (fun hn => vF_no hn _)) ?_
      refine Steps.cons (fun a' w' hG hB dep => gs_guard (c := true) (b' := (true && true)) rfl rfl (dep 9 rfl 16 rfl) (fun hc he hw => gs_andnot_u32 hw _ _ _ _ rfl (y) (v) (Eq.trans (dep 10 rfl 17 rfl) (vF_yes (on_g hc he) _)) (Eq.trans (dep 15 rfl 22 rfl) (vF_yes (on_g hc he) _)) hy32 hv32 (vF_yes (on_g hc he) _).symm) (fun hn => vF_no hn _)) ?_
      refine Steps.cons (fun a' w' hG hB dep => gs_guard (c := true) (b' := (true && true)) rfl rfl (dep 9 rfl 16 rfl) (fun hc he hw => gs_eql_int hw _ _ _ _ rfl _ _ _ (Eq.trans (dep 16 rfl 23 rfl) (vF_yes (on_g hc he) _)) rfl (Eq.trans (congrArg Value.bool hq) (vF_yes (on_g hc he) _).symm)) (fun hn => vF_no hn _)) ?_
      refine Steps.cons (fun a' w' hG hB dep => gs_pick (want_none rfl) _ _ _ rfl (true && true) (dep 9 rfl 16 rfl) (id (pick_and2 (c := true) rfl (dep 17 rfl 24 rfl)))) ?_
      refine Steps.cons (fun a' w' hG hB dep => gs_assign (want_none rfl) _ rfl (id (dep 18 rfl 25 rfl))) ?_
      exact Steps.nil
    intro u w2 hw2 ans
    have hus6 : u 6 = (.bool ((true && true) && q)) := ans 19 6 (by decide) rfl
    clear ans
    simp only [putAll, List.foldl_cons, List.foldl_nil, Act.put, List.setIfInBounds_toArray, List.set_cons_zero, List.set_cons_succ, hus6]
    clear hus6
    simp only [List.drop]
    refine wpList_nil ?_
    have hB2 := below_then hB1 hw2
    have hres : (q = true ↔ 0 ≤ ((t : Nat) : Int) ∧ ((t : Nat) : Int) < x.rs.length ∧ y &&& x.fo.getD ((t : Nat) : Int).toNat 0 = y) := by
      rw [vT.out, ← andnot_zero y v hy32 hv32, ← hq, beq_iff_eq]
      constructor
      · intro h; exact ⟨by omega, by omega, by omega⟩
      · intro h; have := h.2.2; omega
    replace hres := Lib.hid hres
    clear hp1 hp2 hq hw2 cF cv hzr
    go_wp2_with (fail)
    go_ret
    exact ⟨q, hres.out, by cases q <;> rfl, hB2⟩
  · obtain ⟨p, hp⟩ : ∃ p, decide ((0 : Int) ≤ z) = p := ⟨_, rfl⟩
    obtain ⟨q, hq⟩ : ∃ q, decide (z < ((x.rs.length : Nat) : Int)) = q := ⟨_, rfl⟩
    have hpq : (p && q) = false := by
      by_cases hz0 : 0 ≤ z
      · rw [← hq, decide_eq_false (by omega), Bool.and_false]
      · rw [← hp, decide_eq_false hz0, Bool.false_and]
    have hne : ¬ ((p && q) = true) := by rw [hpq]; decide
    replace hpq := Lib.hid hpq
    refine wp_region_text 20 [eqS (.int .i64 (z)), eqS (.bool p), eqS (.bool p), eqS (vF (true && (p == true)) (.int .i64 (z))), eqS (vF (true && (p == true)) (.pointer (some ⟨w.heap.size, 256, none⟩))), eqS (vF (true && (p == true)) (.slice x.A x.rs.length x.c)), eqS (vF (true && (p == true)) (.int .i64 (((x.rs.length : Nat) : Int)))), eqS (vF (true && (p == true)) (.bool q)), eqS (.bool (p && q)), eqS (.bool (p && q)), eqS (vF (true && ((p && q) == true)) undef), eqS (vF (true && ((p && q) == true)) undef), eqS (vF (true && ((p && q) == true)) undef), eqS (vF (true && ((p && q) == true)) undef), eqS (vF (true && ((p && q) == true)) undef), eqS (vF (true && ((p && q) == true)) undef), eqS (vF (true && ((p && q) == true)) undef), eqS (vF (true && ((p && q) == true)) (.bool false)), eqS (.bool ((p && q) && false)), eqS (.bool ((p && q) && false))] [7, 8, 9, 10, 11, 12, 13, 14, 15, 16, 17, 18, 19, 20, 21, 22, 23, 24, 25, 6] (by kernel_rfl) rfl ?_ ?_
    · skip
      refine Steps.cons (fun a' w' hG hB dep => gs_move (want_none rfl) _ rfl (id (hG.other 2 rfl))) ?_
      refine Steps.cons (fun a' w' hG hB dep => gs_geq_int (want_none rfl) _ _ _ _ rfl _ _ _ (dep 0 rfl 7 rfl) rfl (id (congrArg Value.bool hp))) ?_
      refine Steps.cons (fun a' w' hG hB dep => gs_move (want_none rfl) _ rfl (id (dep 1 rfl 8 rfl))) ?_
      refine Steps.cons (fun a' w' hG hB dep => gs_guard (c := true) (b' := p) rfl rfl (dep 2 rfl 9 rfl) (fun hc he hw => gs_move hw _ rfl (Eq.trans (hG.other 2 rfl) (vF_yes (on_g hc he) _).symm)) (fun hn => vF_no hn _)) ?_
      refine Steps.cons (fun a' w' hG hB dep => gs_guard (c := true) (b' := p) rfl rfl (dep 2 rfl 9 rfl) (fun hc he hw => gs_field hw _ _ _ rfl w.heap.size (0) (256) (hG.other 3 rfl) (fun wz => field_dfa_1 w.heap.size (0) wz) (vF_yes (on_g hc he) _).symm) (fun hn => vF_no hn _)) ?_
      refine Steps.cons (fun a' w' hG hB dep => gs_guard (c := true) (b' := p) rfl rfl (dep 2 rfl 9 rfl) (fun hc he hw => gs_load1 hw _ _ rfl w.heap.size (256) (Eq.trans (dep 4 rfl 11 rfl) (vF_yes (on_g hc he) _)) (.slice x.A x.rs.length x.c) (blk_d1 (blk_then h1 hB)) _ Tryd.underlying31 rfl (vF_yes (on_g hc he) _).symm) (fun hn => vF_no hn _)) ?_
      refine Steps.cons (fun a' w' hG hB dep => gs_guard (c := true) (b' := p) rfl rfl (dep 2 rfl 9 rfl) (fun hc he hw => gs_len hw _ _ rfl under_rows _ x.rs.length x.c (Eq.trans (dep 5 rfl 12 rfl) (vF_yes (on_g hc he) _)) (vF_yes (on_g hc he) _).symm) (fun hn => vF_no hn _)) ?_
      refine Steps.cons (fun a' w' hG hB dep => gs_guard (c := true) (b' := p) rfl rfl (dep 2 rfl 9 rfl) (fun hc he hw => gs_lss_int hw _ _ _ _ rfl _ _ _ (Eq.trans (dep 3 rfl 10 rfl) (vF_yes (on_g hc he) _)) (Eq.trans (dep 6 rfl 13 rfl) (vF_yes (on_g hc he) _)) (Eq.trans (congrArg Value.bool hq) (vF_yes (on_g hc he) _).symm)) (fun hn => vF_no hn _)) ?_
      refine Steps.cons (fun a' w' hG hB dep => gs_pick (want_none rfl) _ _ _ rfl p (dep 2 rfl 9 rfl) (id (pick_and2 (c := true) rfl (dep 7 rfl 14 rfl)))) ?_
      refine Steps.cons (fun a' w' hG hB dep => gs_move (want_none rfl) _ rfl (id (dep 8 rfl 15 rfl))) ?_
      refine Steps.cons (fun a' w' hG hB dep => gs_guard (c := true) (b' := (p && q)) rfl rfl (dep 9 rfl 16 rfl) (fun hc he hw => absurd he hne) (fun hn => vF_no hn _)) ?_
      refine Steps.cons (fun a' w' hG hB dep => gs_guard (c := true) (b' := (p && q)) rfl rfl (dep 9 rfl 16 rfl) (fun hc he hw => absurd he hne) (fun hn => vF_no hn _)) ?_
      refine Steps.cons (fun a' w' hG hB dep => gs_guard (c := true) (b' := (p && q)) rfl rfl (dep 9 rfl 16 rfl) (fun hc he hw => absurd he hne) (fun hn => vF_no hn _)) ?_
      refine Steps.cons (fun a' w' hG hB dep => gs_guard (c := true) (b' := (p && q)) rfl rfl (dep 9 rfl 16 rfl) (fun hc he hw => absurd he hne) (fun hn => vF_no hn _)) ?_
      refine Steps.cons (fun a' w' hG hB dep => gs_guard (c := true) (b' := (p && q)) rfl rfl (dep 9 rfl 16 rfl) (fun hc he hw => absurd he hne) (fun hn => vF_no hn _)) ?_
      refine Steps.cons (fun a' w' hG hB dep => gs_guard (c := true) (b' := (p && q)) rfl rfl (dep 9 rfl 16 rfl) (fun hc he hw => absurd he hne) (fun hn => vF_no hn _)) ?_
      refine Steps.cons (fun a' w' hG hB dep => gs_guard (c := true) (b' := (p && q)) rfl rfl (dep 9 rfl 16 rfl) (fun hc he hw => absurd he hne) (fun hn => vF_no hn _)) ?_
      refine Steps.cons (fun a' w' hG hB dep => gs_guard (c := true) (b' := (p && q)) rfl rfl (dep 9 rfl 16 rfl) (fun hc he hw => absurd he hne) (fun hn => vF_no hn _)) ?_
      refine Steps.cons (fun a' w' hG hB dep => gs_pick (want_none rfl) _ _ _ rfl (p && q) (dep 9 rfl 16 rfl) (id (pick_and2 (c := true) rfl (dep 17 rfl 24 rfl)))) ?_
      refine Steps.cons (fun a' w' hG hB dep => gs_assign (want_none rfl) _ rfl (id (dep 18 rfl 25 rfl))) ?_
      exact Steps.nil
    intro u w2 hw2 ans
    have hus6 : u 6 = (.bool ((p && q) && false)) := ans 19 6 (by decide) rfl
    clear ans
    simp only [putAll, List.foldl_cons, List.foldl_nil, Act.put, List.setIfInBounds_toArray, List.set_cons_zero, List.set_cons_succ, hus6]
    clear hus6
    simp only [List.drop]
    refine wpList_nil ?_
    have hB2 := below_then hB1 hw2
    rw [hpq.out]
    clear hp hq hpq hne hw2
    replace hzr := Lib.hid hzr
    go_wp2_with (fail)
    go_ret
    exact ⟨false, ⟨fun h => (by cases h), fun h => absurd ⟨h.1, h.2.1⟩ hzr.out⟩, rfl, hB2⟩
theorem enter_within (args : Array Value) (w : World) : (callFunc 47 args).run Tryd.prog w = .ok (.enter 47 args) w := by kernel_rfl
def withinB (x : TV) (y : Nat) (z : Int) : Bool := decide (0 ≤ z ∧ z < x.rs.length ∧ y &&& x.fo.getD z.toNat 0 = y)
theorem within_any2 (x : TV) (y : Nat) (z : Int) (hy32 : y < 4294967296) (hfo : x.fo.length = x.rs.length) (w : World) (hT : TabIn w w.heap.size x) :
    Calls Tryd.prog 47 #[.agg x.C', .int .u32 (y : Nat), .int .i64 z] w fun e w' => e = .returned (.bool (withinB x y z)) ∧ Below w.heap.size w w' :=
  (within_any x y z hy32 hfo w hT).mono fun e w' ⟨b, hb, he, hB⟩ => ⟨by rw [he, show b = withinB x y z by rw [Bool.eq_iff_iff, hb]; unfold withinB; rw [decide_eq_true_iff]], hB⟩
set_option maxRecDepth 100000 in
set_option maxHeartbeats 4000000 in
theorem s_right_any (x : TV) (w : World) (hT : TabIn w w.heap.size x) :
    Calls Tryd.prog 15 #[.agg x.C'] w fun e w' => e = .returned (.bool (fitsB x.T)) ∧ Below w.heap.size w w' := by
  unfold TV.C'
  go_enter Tryd.func15, Tryd.ntmps15
  obtain ⟨A, hA⟩ : ∃ A, A = x.A := ⟨_, rfl⟩
  have h1 := Blk.new w 33 (dfaC x.f x.A x.rs.length x.c x.B x.fo.length x.d x.C x.en.length x.e)
  have hB1 := below_alloc (Below.refl w.heap.size w) (.cells (dfaC x.f x.A x.rs.length x.c x.B x.fo.length x.d x.C x.en.length x.e) 33)
  go_upto_region 1 with (fail)
  obtain ⟨w1, hw1⟩ : ∃ y, y = w.alloc (.cells (dfaC x.f x.A x.rs.length x.c x.B x.fo.length x.d x.C x.en.length x.e) 33) := ⟨_, rfl⟩
  rw [← hw1] at h1 hB1 ⊢
  clear hw1 hA A
  have c1 : w1.cell? ⟨w.heap.size, 256, none⟩ = some (.slice x.A x.rs.length x.c) := blk_d1 h1
  go_upto_region 2 with (fail)
  clear c1
  obtain ⟨p1, hp1⟩ : ∃ p, decide (((x.rs.length : Nat) : Int) < 1) = p := ⟨_, rfl⟩
  obtain ⟨p2, hp2⟩ : ∃ p, decide (((x.rs.length : Nat) : Int) > 4096) = p := ⟨_, rfl⟩
  obtain ⟨p3, hp3⟩ : ∃ p, (((x.fo.length : Nat) : Int) != ((x.rs.length : Nat) : Int)) = p := ⟨_, rfl⟩
  obtain ⟨p4, hp4⟩ : ∃ p, (((x.en.length : Nat) : Int) != ((x.rs.length : Nat) : Int)) = p := ⟨_, rfl⟩
  refine wp_region_text 20 [eqS (.int .i64 (((x.rs.length : Nat) : Int))), eqS (.bool p1), eqS (.bool p1), eqS (vF (true && (p1 == false)) (.int .i64 (((x.rs.length : Nat) : Int)))), eqS (vF (true && (p1 == false)) (.bool p2)), eqS (.bool (p1 || p2)), eqS (.bool (p1 || p2)), eqS (vF (true && ((p1 || p2) == false)) (.pointer (some ⟨w.heap.size, 257, none⟩))), eqS (vF (true && ((p1 || p2) == false)) (.slice x.B x.fo.length x.d)), eqS (vF (true && ((p1 || p2) == false)) (.int .i64 (((x.fo.length : Nat) : Int)))), eqS (vF (true && ((p1 || p2) == false)) (.int .i64 (((x.rs.length : Nat) : Int)))), eqS (vF (true && ((p1 || p2) == false)) (.bool p3)), eqS (.bool ((p1 || p2) || p3)), eqS (.bool ((p1 || p2) || p3)), eqS (vF (true && (((p1 || p2) || p3) == false)) (.pointer (some ⟨w.heap.size, 258, none⟩))), eqS (vF (true && (((p1 || p2) || p3) == false)) (.slice x.C x.en.length x.e)), eqS (vF (true && (((p1 || p2) || p3) == false)) (.int .i64 (((x.en.length : Nat) : Int)))), eqS (vF (true && (((p1 || p2) || p3) == false)) (.int .i64 (((x.rs.length : Nat) : Int)))), eqS (vF (true && (((p1 || p2) || p3) == false)) (.bool p4)), eqS (.bool (((p1 || p2) || p3) || p4))] [14, 15, 16, 17, 18, 19, 20, 21, 22, 23, 24, 25, 26, 27, 28, 29, 30, 31, 32, 33] (by kernel_rfl) rfl ?_ ?_
  · skip
    refine Steps.cons (fun a' w' hG hB dep => gs_move (want_none rfl) _ rfl (id (hG.other 3 rfl))) ?_
    refine Steps.cons (fun a' w' hG hB dep => gs_lss_int (want_none rfl) _ _ _ _ rfl _ _ _ (dep 0 rfl 14 rfl) rfl (id (congrArg Value.bool hp1))) ?_
    refine Steps.cons (fun a' w' hG hB dep => gs_move (want_none rfl) _ rfl (id (dep 1 rfl 15 rfl))) ?_
    refine Steps.cons (fun a' w' hG hB dep => gs_guard (c := true) (b' := p1) rfl rfl (dep 2 rfl 16 rfl) (fun hc he hw => gs_move hw _ rfl (Eq.trans (hG.other 3 rfl) (vF_yes (on_g hc he) _).symm)) (fun hn => vF_no hn _)) ?_
    refine Steps.cons (fun a' w' hG hB dep => gs_guard (c := true) (b' := p1) rfl rfl (dep 2 rfl 16 rfl) (fun hc he hw => gs_gtr_int hw _ _ _ _ rfl _ _ _ (Eq.trans (dep 3 rfl 17 rfl) (vF_yes (on_g hc he) _)) rfl (Eq.trans (congrArg Value.bool hp2) (vF_yes (on_g hc he) _).symm)) (fun hn => vF_no hn _)) ?_
    refine Steps.cons (fun a' w' hG hB dep => gs_pick (want_none rfl) _ _ _ rfl p1 (dep 2 rfl 16 rfl) (id (pick_or2 (c := true) rfl (dep 4 rfl 18 rfl)))) ?_
    refine Steps.cons (fun a' w' hG hB dep => gs_move (want_none rfl) _ rfl (id (dep 5 rfl 19 rfl))) ?_
    refine Steps.cons (fun a' w' hG hB dep => gs_guard (c := true) (b' := (p1 || p2)) rfl rfl (dep 6 rfl 20 rfl) (fun hc he hw => gs_field hw _ _ _ rfl w.heap.size (0) (257) (hG.other 1 rfl) (fun wz => field_dfa_2 w.heap.size (0) wz) (vF_yes (on_g hc he) _).symm) (fun hn => vF_no hn _)) ?_
    refine Steps.cons (fun a' w' hG hB dep => gs_guard (c := true) (b' := (p1 || p2)) rfl rfl (dep 6 rfl 20 rfl) (fun hc he hw => gs_load1 hw _ _ rfl w.heap.size (257) (Eq.trans (dep 7 rfl 21 rfl) (vF_yes (on_g hc he) _)) (.slice x.B x.fo.length x.d) (blk_d2 (blk_then h1 hB)) _ Tryd.underlying23 rfl (vF_yes (on_g hc he) _).symm) (fun hn => vF_no hn _)) ?_
    refine Steps.cons (fun a' w' hG hB dep => gs_guard (c := true) (b' := (p1 || p2)) rfl rfl (dep 6 rfl 20 rfl) (fun hc he hw => gs_len hw _ _ rfl under_rules _ x.fo.length x.d (Eq.trans (dep 8 rfl 22 rfl) (vF_yes (on_g hc he) _)) (vF_yes (on_g hc he) _).symm) (fun hn => vF_no hn _)) ?_
    refine Steps.cons (fun a' w' hG hB dep => gs_guard (c := true) (b' := (p1 || p2)) rfl rfl (dep 6 rfl 20 rfl) (fun hc he hw => gs_move hw _ rfl (Eq.trans (hG.other 3 rfl) (vF_yes (on_g hc he) _).symm)) (fun hn => vF_no hn _)) ?_
    refine Steps.cons (fun a' w' hG hB dep => gs_guard (c := true) (b' := (p1 || p2)) rfl rfl (dep 6 rfl 20 rfl) (fun hc he hw => gs_neq_int hw _ _ _ _ rfl _ _ _ (Eq.trans (dep 9 rfl 23 rfl) (vF_yes (on_g hc he) _)) (Eq.trans (dep 10 rfl 24 rfl) (vF_yes (on_g hc he) _)) (Eq.trans (congrArg Value.bool hp3) (vF_yes (on_g hc he) _).symm)) (fun hn => vF_no hn _)) ?_
    refine Steps.cons (fun a' w' hG hB dep => gs_pick (want_none rfl) _ _ _ rfl (p1 || p2) (dep 6 rfl 20 rfl) (id (pick_or2 (c := true) rfl (dep 11 rfl 25 rfl)))) ?_
    refine Steps.cons (fun a' w' hG hB dep => gs_move (want_none rfl) _ rfl (id (dep 12 rfl 26 rfl))) ?_
    refine Steps.cons (fun a' w' hG hB dep => gs_guard (c := true) (b' := ((p1 || p2) || p3)) rfl rfl (dep 13 rfl 27 rfl) (fun hc he hw => gs_field hw _ _ _ rfl w.heap.size (0) (258) (hG.other 1 rfl) (fun wz => field_dfa_3 w.heap.size (0) wz) (vF_yes (on_g hc he) _).symm) (fun hn => vF_no hn _)) ?_
    refine Steps.cons (fun a' w' hG hB dep => gs_guard (c := true) (b' := ((p1 || p2) || p3)) rfl rfl (dep 13 rfl 27 rfl) (fun hc he hw => gs_load1 hw _ _ rfl w.heap.size (258) (Eq.trans (dep 14 rfl 28 rfl) (vF_yes (on_g hc he) _)) (.slice x.C x.en.length x.e) (blk_d3 (blk_then h1 hB)) _ Tryd.underlying23 rfl (vF_yes (on_g hc he) _).symm) (fun hn => vF_no hn _)) ?_
    refine Steps.cons (fun a' w' hG hB dep => gs_guard (c := true) (b' := ((p1 || p2) || p3)) rfl rfl (dep 13 rfl 27 rfl) (fun hc he hw => gs_len hw _ _ rfl under_rules _ x.en.length x.e (Eq.trans (dep 15 rfl 29 rfl) (vF_yes (on_g hc he) _)) (vF_yes (on_g hc he) _).symm) (fun hn => vF_no hn _)) ?_
    refine Steps.cons (fun a' w' hG hB dep => gs_guard (c := true) (b' := ((p1 || p2) || p3)) rfl rfl (dep 13 rfl 27 rfl) (fun hc he hw => gs_move hw _ rfl (Eq.trans (hG.other 3 rfl) (vF_yes (on_g hc he) _).symm)) (fun hn => vF_no hn _)) ?_
    refine Steps.cons (fun a' w' hG hB dep => gs_guard (c := true) (b' := ((p1 || p2) || p3)) rfl rfl (dep 13 rfl 27 rfl) (fun hc he hw => gs_neq_int hw _ _ _ _ rfl _ _ _ (Eq.trans (dep 16 rfl 30 rfl) (vF_yes (on_g hc he) _)) (Eq.trans (dep 17 rfl 31 rfl) (vF_yes (on_g hc he) _)) (Eq.trans (congrArg Value.bool hp4) (vF_yes (on_g hc he) _).symm)) (fun hn => vF_no hn _)) ?_
    refine Steps.cons (fun a' w' hG hB dep => gs_pick (want_none rfl) _ _ _ rfl ((p1 || p2) || p3) (dep 13 rfl 27 rfl) (id (pick_or2 (c := true) rfl (dep 18 rfl 32 rfl)))) ?_
    exact Steps.nil
  intro u w2 hw2 ans
  have hus33 : u 33 = (.bool (((p1 || p2) || p3) || p4)) := ans 19 33 (by decide) rfl
  clear ans
  simp only [putAll, List.foldl_cons, List.foldl_nil, Act.put, List.setIfInBounds_toArray, List.set_cons_zero, List.set_cons_succ, hus33]
  clear hus33
  simp only [List.drop]
  refine wpList_nil ?_
  have hB2 := below_then hB1 hw2
  replace h1 := blk_then h1 hw2
  clear hw2 hB1
  obtain ⟨r, hr⟩ : ∃ r, (((p1 || p2) || p3) || p4) = r := ⟨_, rfl⟩
  rw [hr]
  cases r with
  | true =>
    have hno : ¬ s_Fits x.T := fun hF => by
      have e1 := hF.n1
      have e2 := hF.n2
      have e3 := hF.nf
      have e4 := hF.ne
      rw [fits_n] at e1 e2 e3 e4
      replace e3 : x.fo.length = x.rs.length := e3
      replace e4 : x.en.length = x.rs.length := e4
      have q1 : p1 = false := by rw [← hp1]; exact decide_eq_false (by omega)
      have q2 : p2 = false := by rw [← hp2]; exact decide_eq_false (by omega)
      have q3 : p3 = false := by rw [← hp3, e3]; exact bne_self_eq_false _
      have q4 : p4 = false := by rw [← hp4, e4]; exact bne_self_eq_false _
      rw [q1, q2, q3, q4] at hr
      cases hr
    have hv := Lib.hid (fitsB_no hno)
    clear hr hp1 hp2 hp3 hp4
    go_wp2_with (fail)
    go_ret
    exact ⟨by rw [hv.out]; rfl, hB2⟩
  | false =>
    simp only [Bool.or_eq_false_iff] at hr
    obtain ⟨⟨⟨rfl, rfl⟩, rfl⟩, rfl⟩ := hr
    have n1 : 1 ≤ x.rs.length := by have := of_decide_eq_false hp1; omega
    have n2 : x.rs.length ≤ 4096 := by have := of_decide_eq_false hp2; omega
    have n3 : x.fo.length = x.rs.length := by rw [bne_nat] at hp3; exact Decidable.not_not.1 (of_decide_eq_false hp3)
    have n4 : x.en.length = x.rs.length := by rw [bne_nat] at hp4; exact Decidable.not_not.1 (of_decide_eq_false hp4)
    clear hp1 hp2 hp3 hp4
    replace n3 := Lib.hid n3
    replace n4 := Lib.hid n4
    obtain ⟨bN, oN, hA, hbN, hrows⟩ := hT.rows.at_ (by omega)
    have c1 : w2.cell? ⟨w.heap.size, 256, none⟩ = some (.slice (some ⟨bN, oN, none⟩) x.rs.length x.c) := by rw [← hA]; exact blk_d1 h1
    have c2 : w2.cell? ⟨bN, oN, none⟩ = some (.slice x.rs[0].a x.rs[0].l.length x.rs[0].c) := by
      have c2' : w2.cell? ⟨bN, oN + 0 * 1 + 0, none⟩ = some (.slice x.rs[0].a x.rs[0].l.length x.rs[0].c) := cell_keep (hrows 0 (by omega) 0 _ rfl) hbN hB2
      simpa using c2'
    have hmany := many_at (x := x) (by omega)
    obtain ⟨m, hm⟩ : ∃ m, m = x.rs[0].l.length := ⟨_, rfl⟩
    rw [← hm] at hmany c2
    have Hm := Lib.hid hm
    have Hmany := Lib.hid hmany
    clear hm hmany
    have hn1 : (0 : Int) < x.rs.length := by omega
    replace hA := Lib.hid hA
    go_upto_region 5 with (fail)
    clear c1 c2
    obtain ⟨p5, hp5⟩ : ∃ p, decide (((m : Nat) : Int) < 1) = p := ⟨_, rfl⟩
    obtain ⟨p6, hp6⟩ : ∃ p, decide (((m : Nat) : Int) > 256) = p := ⟨_, rfl⟩
    refine wp_region_text 6 [eqS (.int .i64 (((m : Nat) : Int))), eqS (.bool p5), eqS (.bool p5), eqS (vF (true && (p5 == false)) (.int .i64 (((m : Nat) : Int)))), eqS (vF (true && (p5 == false)) (.bool p6)), eqS (.bool (p5 || p6))] [39, 40, 41, 42, 43, 44] (by kernel_rfl) rfl ?_ ?_
    · skip
      refine Steps.cons (fun a' w' hG hB dep => gs_move (want_none rfl) _ rfl (id (hG.other 4 rfl))) ?_
      refine Steps.cons (fun a' w' hG hB dep => gs_lss_int (want_none rfl) _ _ _ _ rfl _ _ _ (dep 0 rfl 39 rfl) rfl (id (congrArg Value.bool hp5))) ?_
      refine Steps.cons (fun a' w' hG hB dep => gs_move (want_none rfl) _ rfl (id (dep 1 rfl 40 rfl))) ?_
      refine Steps.cons (fun a' w' hG hB dep => gs_guard (c := true) (b' := p5) rfl rfl (dep 2 rfl 41 rfl) (fun hc he hw => gs_move hw _ rfl (Eq.trans (hG.other 4 rfl) (vF_yes (on_g hc he) _).symm)) (fun hn => vF_no hn _)) ?_
      refine Steps.cons (fun a' w' hG hB dep => gs_guard (c := true) (b' := p5) rfl rfl (dep 2 rfl 41 rfl) (fun hc he hw => gs_gtr_int hw _ _ _ _ rfl _ _ _ (Eq.trans (dep 3 rfl 42 rfl) (vF_yes (on_g hc he) _)) rfl (Eq.trans (congrArg Value.bool hp6) (vF_yes (on_g hc he) _).symm)) (fun hn => vF_no hn _)) ?_
      refine Steps.cons (fun a' w' hG hB dep => gs_pick (want_none rfl) _ _ _ rfl p5 (dep 2 rfl 41 rfl) (id (pick_or2 (c := true) rfl (dep 4 rfl 43 rfl)))) ?_
      exact Steps.nil
    intro u w3 hw3 ans
    have hus44 : u 44 = (.bool (p5 || p6)) := ans 5 44 (by decide) rfl
    clear ans
    simp only [putAll, List.foldl_cons, List.foldl_nil, Act.put, List.setIfInBounds_toArray, List.set_cons_zero, List.set_cons_succ, hus44]
    clear hus44
    simp only [List.drop]
    refine wpList_nil ?_
    have hB3 := below_then hB2 hw3
    replace h1 := blk_then h1 hw3
    clear hw3 hB2
    obtain ⟨r, hr⟩ : ∃ r, (p5 || p6) = r := ⟨_, rfl⟩
    rw [hr]
    cases r with
    | true =>
      have hno : ¬ s_Fits x.T := fun hF => by
        have e1 := hF.m1
        have e2 := hF.m2
        rw [Hmany.out] at e1 e2
        have q1 : p5 = false := by rw [← hp5]; exact decide_eq_false (by omega)
        have q2 : p6 = false := by rw [← hp6]; exact decide_eq_false (by omega)
        rw [q1, q2] at hr
        cases hr
      have hv := Lib.hid (fitsB_no hno)
      clear hr hp5 hp6
      go_wp2_with (fail)
      go_ret
      exact ⟨by rw [hv.out]; rfl, hB3⟩
    | false =>
      simp only [Bool.or_eq_false_iff] at hr
      obtain ⟨rfl, rfl⟩ := hr
      have m1 : 1 ≤ m := by have := of_decide_eq_false hp5; omega
      have m2 : m ≤ 256 := by have := of_decide_eq_false hp6; omega
      clear hp5 hp6
      have hrc := dfaC_cls _ _ _ _ _ _ _ _ _ _ (RowAt.of_blk h1)
      go_upto_region 8 with (refine s_wl_load_cls rfl _ rfl _ rfl _ hrc ?_)
      clear hrc
      go_loopw [47, 6] (fun iv _ wr => ∃ b : Nat, b ≤ 256 ∧ iv = .int .i64 b ∧ Below w.heap.size w wr ∧ Blk wr w.heap.size 33 (dfaC x.f x.A x.rs.length x.c x.B x.fo.length x.d x.C x.en.length x.e) ∧ (∀ j, j < b → 0 ≤ x.f j ∧ x.f j < m)) (fun iv _ _ => 256 - (intOf iv).toNat)
      case atStart => exact ⟨0, by omega, rfl, hB3, h1, fun j hj => by omega⟩
      case round =>
        clear h1 hB3
        obtain ⟨b, hb, rfl, hB3, h1, hall⟩ := hrel
        replace hall := Lib.hid hall
        by_cases hbl : b < 256
        · have hbI : (b : Int) < 256 := by omega
          obtain ⟨z, hz⟩ : ∃ z, z = x.f b := ⟨_, rfl⟩
          have ci : ∀ w, (Instr.index 30 (.agg (clsC x.f)) (.int .i64 (b : Int))).run Tryd.prog w = .ok (.int .i64 z) w := fun w => by rw [hz]; exact run_index_cls w x.f b hbl
          replace hz := Lib.hid hz
          go_upto_region 10 with (fail)
          obtain ⟨p7, hp7⟩ : ∃ p, decide (z < 0) = p := ⟨_, rfl⟩
          obtain ⟨p8, hp8⟩ : ∃ p, decide (((m : Nat) : Int) ≤ z) = p := ⟨_, rfl⟩
          clear ci
          refine wp_region_text 7 [eqS (.int .i64 (z)), eqS (.bool p7), eqS (.bool p7), eqS (vF (true && (p7 == false)) (.int .i64 (z))), eqS (vF (true && (p7 == false)) (.int .i64 (((m : Nat) : Int)))), eqS (vF (true && (p7 == false)) (.bool p8)), eqS (.bool (p7 || p8))] [50, 51, 52, 53, 54, 55, 56] (by kernel_rfl) rfl ?_ ?_
          · skip
            refine Steps.cons (fun a' w' hG hB dep => gs_move (want_none rfl) _ rfl (id (hG.other 6 rfl))) ?_
            refine Steps.cons (fun a' w' hG hB dep => gs_lss_int (want_none rfl) _ _ _ _ rfl _ _ _ (dep 0 rfl 50 rfl) rfl (id (congrArg Value.bool hp7))) ?_
            refine Steps.cons (fun a' w' hG hB dep => gs_move (want_none rfl) _ rfl (id (dep 1 rfl 51 rfl))) ?_
            refine Steps.cons (fun a' w' hG hB dep => gs_guard (c := true) (b' := p7) rfl rfl (dep 2 rfl 52 rfl) (fun hc he hw => gs_move hw _ rfl (Eq.trans (hG.other 6 rfl) (vF_yes (on_g hc he) _).symm)) (fun hn => vF_no hn _)) ?_
            refine Steps.cons (fun a' w' hG hB dep => gs_guard (c := true) (b' := p7) rfl rfl (dep 2 rfl 52 rfl) (fun hc he hw => gs_move hw _ rfl (Eq.trans (hG.other 4 rfl) (vF_yes (on_g hc he) _).symm)) (fun hn => vF_no hn _)) ?_
            refine Steps.cons (fun a' w' hG hB dep => gs_guard (c := true) (b' := p7) rfl rfl (dep 2 rfl 52 rfl) (fun hc he hw => gs_geq_int hw _ _ _ _ rfl _ _ _ (Eq.trans (dep 3 rfl 53 rfl) (vF_yes (on_g hc he) _)) (Eq.trans (dep 4 rfl 54 rfl) (vF_yes (on_g hc he) _)) (Eq.trans (congrArg Value.bool hp8) (vF_yes (on_g hc he) _).symm)) (fun hn => vF_no hn _)) ?_
            refine Steps.cons (fun a' w' hG hB dep => gs_pick (want_none rfl) _ _ _ rfl p7 (dep 2 rfl 52 rfl) (id (pick_or2 (c := true) rfl (dep 5 rfl 55 rfl)))) ?_
            exact Steps.nil
          intro u w4 hw4 ans
          have hus56 : u 56 = (.bool (p7 || p8)) := ans 6 56 (by decide) rfl
          clear ans
          simp only [putAll, List.foldl_cons, List.foldl_nil, Act.put, List.setIfInBounds_toArray, List.set_cons_zero, List.set_cons_succ, hus56]
          clear hus56
          simp only [List.drop]
          refine wpList_nil ?_
          have hB4 := below_then hB3 hw4
          replace h1 := blk_then h1 hw4
          clear hw4
          obtain ⟨r, hr⟩ : ∃ r, (p7 || p8) = r := ⟨_, rfl⟩
          rw [hr]
          cases r with
          | true =>
            have hno : ¬ s_Fits x.T := fun hF => by
              have e1 := hF.cl b hbl
              rw [Hmany.out, show x.T.cls b = z from hz.out.symm] at e1
              have q1 : p7 = false := by rw [← hp7]; exact decide_eq_false (by omega)
              have q2 : p8 = false := by rw [← hp8]; exact decide_eq_false (by omega)
              rw [q1, q2] at hr
              cases hr
            have hv := Lib.hid (fitsB_no hno)
            clear hr hp7 hp8
            go_wp2_with (fail)
            go_ret
            exact ⟨by rw [hv.out]; rfl, hB4⟩
          | false =>
            simp only [Bool.or_eq_false_iff] at hr
            obtain ⟨rfl, rfl⟩ := hr
            have z1 : 0 ≤ z ∧ z < m := by have := of_decide_eq_false hp7; have := of_decide_eq_false hp8; omega
            have hZ := Lib.hid z1
            clear hp7 hp8 z1
            go_wp2_with (fail)
            exact ⟨⟨b + 1, by omega, rfl, hB4, h1, fun j hj => by
              rcases Nat.lt_or_ge j b with h | h
              · exact hall.out j h
              · have : j = b := by omega
                subst this
                rw [← hz.out]
                exact hZ.out⟩, by simp only [intOf]; omega⟩
        · have hbI : ¬ (b : Int) < 256 := by omega
          have hcls : ∀ j, j < 256 → 0 ≤ x.f j ∧ x.f j < m := fun j hj => hall.out j (by omega)
          replace hcls := Lib.hid hcls
          clear hall
          have c1 : wr.cell? ⟨w.heap.size, 256, none⟩ = some (.slice (some ⟨bN, oN, none⟩) x.rs.length x.c) := by rw [← hA.out]; exact blk_d1 h1
          go_upto_region 14 with (fail)
          clear c1
          obtain ⟨bF, oF, hFo, hbF, hrF⟩ := hT.fo.at_ (by have := n3.out; omega)
          obtain ⟨bE, oE, hEn, hbE, hrE⟩ := hT.en.at_ (by have := n4.out; omega)
          replace hFo := Lib.hid hFo
          replace hEn := Lib.hid hEn
          clear hbI hbl hb
          go_loopw [61] (fun iv wr => ∃ s : Nat, s ≤ x.rs.length ∧ iv = .int .i64 s ∧ Below w.heap.size w wr ∧ Blk wr w.heap.size 33 (dfaC x.f x.A x.rs.length x.c x.B x.fo.length x.d x.C x.en.length x.e) ∧ (∀ j, j < s → RowOk x.T j ∧ ∀ c, c < m → ToOk x.T j (x.T.nxt j (c : Nat)))) (fun iv _ => x.rs.length - (intOf iv).toNat)
          case atStart => exact ⟨0, by omega, rfl, hB3, h1, fun j hj => by omega⟩
          case round =>
            clear h1 hB3
            obtain ⟨s, hs, rfl, hB3, h1, hall⟩ := hrel
            replace hall := Lib.hid hall
            by_cases hsl : s < x.rs.length
            · have hsI : (s : Int) < x.rs.length := by omega
              have hsF : s < x.fo.length := by rw [n3.out]; exact hsl
              have hsE : s < x.en.length := by rw [n4.out]; exact hsl
              obtain ⟨r, hr⟩ : ∃ r, r = x.rs[s] := ⟨_, rfl⟩
              obtain ⟨y, hy⟩ : ∃ y, y = x.fo[s] := ⟨_, rfl⟩
              obtain ⟨e, he⟩ : ∃ e, e = x.en[s] := ⟨_, rfl⟩
              have hy32 : y < 4294967296 := by rw [hy]; exact hT.f32 _ (List.getElem_mem _)
              have he32 : e < 4294967296 := by rw [he]; exact hT.e32 _ (List.getElem_mem _)
              have hrow := hT.row _ (List.getElem_mem hsl)
              rw [← hr] at hrow
              have c2 : wr.cell? ⟨bN, oN + s, none⟩ = some (.slice r.a r.l.length r.c) := by
                rw [hr]
                have := cell_keep (hrows s hsl 0 _ rfl) hbN hB3
                rw [show oN + s * 1 + 0 = oN + s by omega] at this
                exact this
              have cF : ∀ {X : World}, Below wr.heap.size wr X → X.cell? ⟨w.heap.size, 257, none⟩ = some (.slice (some ⟨bF, oF, none⟩) x.fo.length x.d) := fun hB => by rw [← hFo.out]; exact blk_d2 (blk_then h1 hB)
              have cE : ∀ {X : World}, Below wr.heap.size wr X → X.cell? ⟨w.heap.size, 258, none⟩ = some (.slice (some ⟨bE, oE, none⟩) x.en.length x.e) := fun hB => by rw [← hEn.out]; exact blk_d3 (blk_then h1 hB)
              have cy : ∀ {X : World}, Below wr.heap.size wr X → X.cell? ⟨bF, oF + s * 1, none⟩ = some (.int .u32 ((y : Nat) : Int)) := fun hB => by rw [hy]; exact cell_keep (hrF s hsF 0 _ rfl) hbF (below_then hB3 hB)
              have ce : ∀ {X : World}, Below wr.heap.size wr X → X.cell? ⟨bE, oE + s * 1, none⟩ = some (.int .u32 ((e : Nat) : Int)) := fun hB => by rw [he]; exact cell_keep (hrE s hsE 0 _ rfl) hbE (below_then hB3 hB)
              have yT : x.T.fo.getD s 0 = y := by rw [hy]; exact getD_at x.fo 0 hsF
              have eT : x.T.en.getD s 0 = e := by rw [he]; exact getD_at x.en 0 hsE
              have rT : x.T.nx.getD s [] = r.l := by rw [s_row_at hsl, hr]
              replace hr := Lib.hid hr
              replace yT := Lib.hid yT
              replace eT := Lib.hid eT
              replace rT := Lib.hid rT
              clear hy he
              go_upto_region 16 with (fail)
              clear c2
              obtain ⟨p, hp⟩ : ∃ p, (((r.l.length : Nat) : Int) != ((m : Nat) : Int)) = p := ⟨_, rfl⟩
              obtain ⟨q, hq⟩ : ∃ q, (((y &&& (4294967295 - e) : Nat) : Int) != 0) = q := ⟨_, rfl⟩
              refine wp_region_steps 18 [eqS (.slice r.a r.l.length r.c), eqS (.int .i64 (((r.l.length : Nat) : Int))), eqS (.int .i64 (((m : Nat) : Int))), eqS (.bool p), eqS (.bool p), eqS (vF (true && (p == false)) (.pointer (some ⟨w.heap.size, 257, none⟩))), eqS (vF (true && (p == false)) (.slice (some ⟨bF, oF, none⟩) x.fo.length x.d)), eqS (vF (true && (p == false)) (.int .i64 (((s : Nat) : Int)))), eqS (vF (true && (p == false)) (.pointer (some ⟨bF, oF + s * 1, none⟩))), eqS (vF (true && (p == false)) (.int .u32 (((y : Nat) : Int)))), eqS (vF (true && (p == false)) (.pointer (some ⟨w.heap.size, 258, none⟩))), eqS (vF (true && (p == false)) (.slice (some ⟨bE, oE, none⟩) x.en.length x.e)), eqS (vF (true && (p == false)) (.int .i64 (((s : Nat) : Int)))), eqS (vF (true && (p == false)) (.pointer (some ⟨bE, oE + s * 1, none⟩))), eqS (vF (true && (p == false)) (.int .u32 (((e : Nat) : Int)))), eqS (vF (true && (p == false)) (.int .u32 ((((y) &&& (4294967295 - (e)) : Nat) : Int)))), eqS (vF (true && (p == false)) (.bool q)), eqS (.bool (p || q))] [66, 67, 68, 69, 70, 71, 72, 73, 74, 75, 76, 77, 78, 79, 80, 81, 82, 83] rfl (by kernel_rfl) rfl ?_ ?_
              · skip
                refine Steps.cons (fun a' w' hG hB dep => gs_move (want_none rfl) _ rfl (id (hG.other 8 rfl))) ?_
                refine Steps.cons (fun a' w' hG hB dep => gs_len (want_none rfl) _ _ rfl under_ints _ r.l.length r.c (dep 0 rfl 66 rfl) rfl) ?_
                refine Steps.cons (fun a' w' hG hB dep => gs_move (want_none rfl) _ rfl (id (hG.other 4 rfl))) ?_
                refine Steps.cons (fun a' w' hG hB dep => gs_neq_int (want_none rfl) _ _ _ _ rfl _ _ _ (dep 1 rfl 67 rfl) (dep 2 rfl 68 rfl) (id (congrArg Value.bool hp))) ?_
                refine Steps.cons (fun a' w' hG hB dep => gs_move (want_none rfl) _ rfl (id (dep 3 rfl 69 rfl))) ?_
                refine Steps.cons (fun a' w' hG hB dep => gs_guard (c := true) (b' := p) rfl rfl (dep 4 rfl 70 rfl) (fun hc he hw => gs_field hw _ _ _ rfl w.heap.size (0) (257) (hG.other 1 rfl) (fun wz => field_dfa_2 w.heap.size (0) wz) (vF_yes (on_g hc he) _).symm) (fun hn => vF_no hn _)) ?_
                refine Steps.cons (fun a' w' hG hB dep => gs_guard (c := true) (b' := p) rfl rfl (dep 4 rfl 70 rfl) (fun hc he hw => gs_load1 hw _ _ rfl w.heap.size (257) (Eq.trans (dep 5 rfl 71 rfl) (vF_yes (on_g hc he) _)) (.slice (some ⟨bF, oF, none⟩) x.fo.length x.d) (cF hB) _ Tryd.underlying23 rfl (vF_yes (on_g hc he) _).symm) (fun hn => vF_no hn _)) ?_
                refine Steps.cons (fun a' w' hG hB dep => gs_guard (c := true) (b' := p) rfl rfl (dep 4 rfl 70 rfl) (fun hc he hw => gs_move hw _ rfl (Eq.trans (hG.other 7 rfl) (vF_yes (on_g hc he) _).symm)) (fun hn => vF_no hn _)) ?_
                refine Steps.cons (fun a' w' hG hB dep => gs_guard (c := true) (b' := p) rfl rfl (dep 4 rfl 70 rfl) (fun hc he hw => gs_index hw _ _ _ rfl under_rules 1 size_ruleE bF oF x.fo.length x.d (s) (Eq.trans (dep 6 rfl 72 rfl) (vF_yes (on_g hc he) _)) (Eq.trans (dep 7 rfl 73 rfl) (vF_yes (on_g hc he) _)) hsF (vF_yes (on_g hc he) _).symm) (fun hn => vF_no hn _)) ?_
                refine Steps.cons (fun a' w' hG hB dep => gs_guard (c := true) (b' := p) rfl rfl (dep 4 rfl 70 rfl) (fun hc he hw => gs_load1 hw _ _ rfl bF (oF + s * 1) (Eq.trans (dep 8 rfl 74 rfl) (vF_yes (on_g hc he) _)) (.int .u32 (((y : Nat) : Int))) (cy hB) _ Tryd.underlying43 rfl (vF_yes (on_g hc he) _).symm) (fun hn => vF_no hn _)) ?_
                refine Steps.cons (fun a' w' hG hB dep => gs_guard (c := true) (b' := p) rfl rfl (dep 4 rfl 70 rfl) (fun hc he hw => gs_field hw _ _ _ rfl w.heap.size (0) (258) (hG.other 1 rfl) (fun wz => field_dfa_3 w.heap.size (0) wz) (vF_yes (on_g hc he) _).symm) (fun hn => vF_no hn _)) ?_
                refine Steps.cons (fun a' w' hG hB dep => gs_guard (c := true) (b' := p) rfl rfl (dep 4 rfl 70 rfl) (fun hc he hw => gs_load1 hw _ _ rfl w.heap.size (258) (Eq.trans (dep 10 rfl 76 rfl) (vF_yes (on_g hc he) _)) (.slice (some ⟨bE, oE, none⟩) x.en.length x.e) (cE hB) _ Tryd.underlying23 rfl (vF_yes (on_g hc he) _).symm) (fun hn => vF_no hn _)) ?_
                refine Steps.cons (fun a' w' hG hB dep => gs_guard (c := true) (b' := p) rfl rfl (dep 4 rfl 70 rfl) (fun hc he hw => gs_move hw _ rfl (Eq.trans (hG.other 7 rfl) (vF_yes (on_g hc he) _).symm)) (fun hn => vF_no hn _)) ?_
                refine Steps.cons (fun a' w' hG hB dep => gs_guard (c := true) (b' := p) rfl rfl (dep 4 rfl 70 rfl) (fun hc he hw => gs_index hw _ _ _ rfl under_rules 1 size_ruleE bE oE x.en.length x.e (s) (Eq.trans (dep 11 rfl 77 rfl) (vF_yes (on_g hc he) _)) (Eq.trans (dep 12 rfl 78 rfl) (vF_yes (on_g hc he) _)) hsE (vF_yes (on_g hc he) _).symm) (fun hn => vF_no hn _)) ?_
                refine Steps.cons (fun a' w' hG hB dep => gs_guard (c := true) (b' := p) rfl rfl (dep 4 rfl 70 rfl) (fun hc he hw => gs_load1 hw _ _ rfl bE (oE + s * 1) (Eq.trans (dep 13 rfl 79 rfl) (vF_yes (on_g hc he) _)) (.int .u32 (((e : Nat) : Int))) (ce hB) _ Tryd.underlying43 rfl (vF_yes (on_g hc he) _).symm) (fun hn => vF_no hn _)) ?_
                refine Steps.cons (fun a' w' hG hB dep => gs_guard (c := true) (b' := p) rfl rfl (dep 4 rfl 70 rfl) (fun hc he hw => gs_andnot_u32 hw _ _ _ _ rfl (y) (e) (Eq.trans (dep 9 rfl 75 rfl) (vF_yes (on_g hc he) _)) (Eq.trans (dep 14 rfl 80 rfl) (vF_yes (on_g hc he) _)) hy32 he32 (vF_yes (on_g hc he) _).symm) (fun hn => vF_no hn _)) ?_
                refine Steps.cons (fun a' w' hG hB dep => gs_guard (c := true) (b' := p) rfl rfl (dep 4 rfl 70 rfl) (fun hc he hw => gs_neq_int hw _ _ _ _ rfl _ _ _ (Eq.trans (dep 15 rfl 81 rfl) (vF_yes (on_g hc he) _)) rfl (Eq.trans (congrArg Value.bool hq) (vF_yes (on_g hc he) _).symm)) (fun hn => vF_no hn _)) ?_
                refine Steps.cons (fun a' w' hG hB dep => gs_pick (want_none rfl) _ _ _ rfl p (dep 4 rfl 70 rfl) (id (pick_or2 (c := true) rfl (dep 16 rfl 82 rfl)))) ?_
                exact Steps.nil
              intro u w6 hw6 ans
              have hus83 : u 83 = (.bool (p || q)) := ans 17 83 (by decide) rfl
              clear ans
              simp only [putAll, List.foldl_cons, List.foldl_nil, Act.put, List.setIfInBounds_toArray, List.set_cons_zero, List.set_cons_succ, hus83]
              clear hus83
              simp only [List.drop]
              refine wpList_nil ?_
              have hB6 := below_then hB3 hw6
              replace h1 := blk_then h1 hw6
              obtain ⟨rr, hrr⟩ : ∃ r, (p || q) = r := ⟨_, rfl⟩
              rw [hrr]
              cases rr with
              | true =>
                have hno : ¬ s_Fits x.T := fun hF => by
                  have e1 := hF.row s (by rw [fits_n]; exact hsl)
                  have e2 := hF.fe s (by rw [fits_n]; exact hsl)
                  rw [rT.out, Hmany.out] at e1
                  rw [yT.out, eT.out] at e2
                  have q1 : p = false := by rw [← hp, e1]; exact bne_self_eq_false _
                  have q2 : q = false := by rw [← hq, (andnot_zero y e hy32 he32).2 e2]; rfl
                  rw [q1, q2] at hrr
                  cases hrr
                have hv := Lib.hid (fitsB_no hno)
                clear hrr hp hq cF cE cy ce
                go_wp2_with (fail)
                go_ret
                exact ⟨by rw [hv.out]; rfl, hB6⟩
              | false =>
                simp only [Bool.or_eq_false_iff] at hrr
                obtain ⟨rfl, rfl⟩ := hrr
                have hrm : r.l.length = m := by rw [bne_nat] at hp; exact Decidable.not_not.1 (of_decide_eq_false hp)
                have hye : y &&& e = y := (andnot_zero y e hy32 he32).1 (by have := bne_eq_false_iff_eq.1 hq; omega)
                have hRow : RowOk x.T s := ⟨by rw [rT.out, Hmany.out]; exact hrm, by rw [yT.out, eT.out]; exact hye⟩
                replace hrm := Lib.hid hrm
                replace hRow := Lib.hid hRow
                clear hp hq hye cF cE cy ce
                obtain ⟨bR, oR, hRa, hbR, hrR⟩ := hrow.at_ (by have := hrm.out; omega)
                rw [hRa]
                replace hRa := Lib.hid hRa
                clear hw6 hB3
                obtain ⟨wo, hwo⟩ : ∃ y, y = w6 := ⟨_, rfl⟩
                rw [← hwo] at h1 hB6 ⊢
                clear hwo
                go_upto_region 19 with (fail)
                go_loopw [86] (fun iv wr => ∃ c : Nat, c ≤ m ∧ iv = .int .i64 c ∧ Below w.heap.size w wr ∧ Blk wr w.heap.size 33 (dfaC x.f x.A x.rs.length x.c x.B x.fo.length x.d x.C x.en.length x.e) ∧ (∀ j, j < c → ToOk x.T s (x.T.nxt s (j : Nat)))) (fun iv _ => m - (intOf iv).toNat)
                case atStart => exact ⟨0, by omega, rfl, hB6, h1, fun j hj => by omega⟩
                case round =>
                  clear h1 hB6
                  obtain ⟨c, hc, rfl, hBw, h1, hall2⟩ := hrel
                  replace hall2 := Lib.hid hall2
                  by_cases hcl : c < r.l.length
                  · have hcI : (c : Int) < r.l.length := by omega
                    have hcm : c < m := by rw [← hrm.out]; exact hcl
                    obtain ⟨z, hz⟩ : ∃ z, z = r.l[c] := ⟨_, rfl⟩
                    have hzT : x.T.nxt s (c : Nat) = z := by
                      have hcr2 : c < x.rs[s].l.length := by rw [← hr.out]; exact hcl
                      rw [nxt_at hsl hcr2, hz]
                      simp only [hr.out]
                    replace hzT := Lib.hid hzT
                    have c3 : wr.cell? ⟨bR, oR + c, none⟩ = some (.int .i64 z) := by
                      rw [hz]
                      have := cell_keep (hrR c hcl 0 _ rfl) hbR hBw
                      rw [show oR + c * 1 + 0 = oR + c by omega] at this
                      exact this
                    clear hz
                    go_upto_region 21 with (fail)
                    clear c3
                    have cF : ∀ {X : World}, Below wr.heap.size wr X → X.cell? ⟨w.heap.size, 257, none⟩ = some (.slice (some ⟨bF, oF, none⟩) x.fo.length x.d) := fun hB => by rw [← hFo.out]; exact blk_d2 (blk_then h1 hB)
                    have cy : ∀ {X : World}, Below wr.heap.size wr X → X.cell? ⟨bF, oF + s * 1, none⟩ = some (.int .u32 ((y : Nat) : Int)) := fun hB => by
                      have e1 : y = x.fo[s] := by rw [← yT.out]; exact getD_at x.fo 0 hsF
                      rw [e1]
                      exact cell_keep (hrF s hsF 0 _ rfl) hbF (below_then hBw hB)
                    have hTX : ∀ {X : World}, Below wr.heap.size wr X → TabIn X X.heap.size x := fun hB => hT.then_ (below_then hBw hB)
                    obtain ⟨bq, hbq⟩ : ∃ b, withinB x y z = b := ⟨_, rfl⟩
                    refine wp_region_steps 9 [eqS (.agg (dfaC x.f x.A x.rs.length x.c x.B x.fo.length x.d x.C x.en.length x.e)), eqS (.pointer (some ⟨w.heap.size, 257, none⟩)), eqS (.slice (some ⟨bF, oF, none⟩) x.fo.length x.d), eqS (.int .i64 (((s : Nat) : Int))), eqS (.pointer (some ⟨bF, oF + s * 1, none⟩)), eqS (.int .u32 (((y : Nat) : Int))), eqS (.int .i64 (z)), eqS (.bool bq), eqS (.bool (!bq))] [90, 91, 92, 93, 94, 95, 96, 97, 98] rfl (by kernel_rfl) rfl ?_ ?_
                    · skip
                      refine Steps.cons (fun a' w' hG hB dep => gs_load_dfa (want_none rfl) _ rfl w.heap.size (hG.other 1 rfl) (blk_then h1 hB) rfl) ?_
                      refine Steps.cons (fun a' w' hG hB dep => gs_field (want_none rfl) _ _ _ rfl w.heap.size (0) (257) (hG.other 1 rfl) (fun wz => field_dfa_2 w.heap.size (0) wz) rfl) ?_
                      refine Steps.cons (fun a' w' hG hB dep => gs_load1 (want_none rfl) _ _ rfl w.heap.size (257) (dep 1 rfl 91 rfl) (.slice (some ⟨bF, oF, none⟩) x.fo.length x.d) (cF hB) _ Tryd.underlying23 rfl rfl) ?_
                      refine Steps.cons (fun a' w' hG hB dep => gs_move (want_none rfl) _ rfl (id (hG.other 7 rfl))) ?_
                      refine Steps.cons (fun a' w' hG hB dep => gs_index (want_none rfl) _ _ _ rfl under_rules 1 size_ruleE bF oF x.fo.length x.d (s) (dep 2 rfl 92 rfl) (dep 3 rfl 93 rfl) hsF rfl) ?_
                      refine Steps.cons (fun a' w' hG hB dep => gs_load1 (want_none rfl) _ _ rfl bF (oF + s * 1) (dep 4 rfl 94 rfl) (.int .u32 (((y : Nat) : Int))) (cy hB) _ Tryd.underlying43 rfl rfl) ?_
                      refine Steps.cons (fun a' w' hG hB dep => gs_move (want_none rfl) _ rfl (id (hG.other 10 rfl))) ?_
                      refine Steps.cons (fun a' w' hG hB dep => gs_call (want_none rfl) _ _ _ rfl enter_within _ (map3 (dep 0 rfl 90 rfl) (dep 5 rfl 95 rfl) (dep 6 rfl 96 rfl)) ((within_any2 x y z hy32 n3.out w' (hTX hB)).mono fun e w2 ⟨he, hb⟩ => ⟨_, he, hb, by rw [hbq]; rfl⟩)) ?_
                      refine Steps.cons (fun a' w' hG hB dep => gs_not_bool (want_none rfl) _ _ rfl _ (dep 7 rfl 97 rfl) rfl) ?_
                      exact Steps.nil
                    intro u w8 hw8 ans
                    have hus98 : u 98 = (.bool (!bq)) := ans 8 98 (by decide) rfl
                    clear ans
                    simp only [putAll, List.foldl_cons, List.foldl_nil, Act.put, List.setIfInBounds_toArray, List.set_cons_zero, List.set_cons_succ, hus98]
                    clear hus98
                    simp only [List.drop]
                    refine wpList_nil ?_
                    have hB8 := below_then hBw hw8
                    replace h1 := blk_then h1 hw8
                    clear hw8 cF cy hTX
                    cases bq with
                    | false =>
                      have hno : ¬ s_Fits x.T := fun hF => by
                        have e1 := hF.tr s c (by rw [fits_n]; exact hsl) (by rw [Hmany.out]; exact hcm)
                        rw [hzT.out, fits_n, yT.out] at e1
                        have : withinB x y z = true := decide_eq_true ⟨e1.1, e1.2.1, e1.2.2⟩
                        rw [hbq] at this
                        cases this
                      have hv := Lib.hid (fitsB_no hno)
                      clear hbq
                      go_wp2_with (fail)
                      go_ret
                      exact ⟨by rw [hv.out]; rfl, hB8⟩
                    | true =>
                      have hTo : ToOk x.T s (x.T.nxt s (c : Nat)) := by
                        have e1 := of_decide_eq_true hbq
                        rw [hzT.out]
                        refine ⟨e1.1, by rw [fits_n]; exact e1.2.1, ?_⟩
                        rw [yT.out]
                        exact e1.2.2
                      replace hTo := Lib.hid hTo
                      clear hbq
                      go_wp2_with (fail)
                      exact ⟨⟨c + 1, by omega, rfl, hB8, h1, fun j hj => by
                        rcases Nat.lt_or_ge j c with h | h
                        · exact hall2.out j h
                        · have : j = c := by omega
                          subst this
                          exact hTo.out⟩, by simp only [intOf]; omega⟩
                  · have hcI : ¬ (c : Int) < r.l.length := by omega
                    have hcm : ¬ c < m := by rw [← hrm.out]; exact hcl
                    have hRt : RowOk x.T s ∧ ∀ c, c < m → ToOk x.T s (x.T.nxt s (c : Nat)) := ⟨hRow.out, fun j hj => hall2.out j (by omega)⟩
                    replace hRt := Lib.hid hRt
                    clear hall2
                    go_wp2_with (fail)
                    exact ⟨⟨s + 1, by omega, rfl, hBw, h1, fun j hj => by
                      rcases Nat.lt_or_ge j s with h | h
                      · exact hall.out j h
                      · have : j = s := by omega
                        subst this
                        exact hRt.out⟩, by simp only [intOf]; omega⟩
            · have hsI : ¬ (s : Int) < x.rs.length := by omega
              have hyes : s_Fits x.T := fits_of (by rw [fits_n]; exact n1) (by rw [fits_n]; exact n2) (by rw [fits_n]; exact n3.out) (by rw [fits_n]; exact n4.out) (by rw [Hmany.out]; exact m1) (by rw [Hmany.out]; exact m2)
                (fun b hb => by rw [Hmany.out]; exact hcls.out b hb) (fun j hj => by rw [fits_n] at hj; rw [Hmany.out]; exact hall.out j (by omega))
              have hv := Lib.hid (fitsB_yes hyes)
              clear hyes hall
              go_wp2_with (fail)
              go_ret
              exact ⟨by rw [hv.out]; rfl, hB3⟩
end Go.Proofs.YtkedgombccdamaaDoor
namespace Go.Proofs.YtkedgombccdamaaDoor
open Go.RowKit Go.Maps
set_option linter.unusedVariables false
set_option linter.unusedSimpArgs false
def upd {α : Type} (f : Nat → α) (i : Nat) (v : α) (j : Nat) : α := if j = i then v else f j
theorem upd_self {α : Type} (f : Nat → α) (i : Nat) (v : α) : upd f i v i = v := by simp [upd]
theorem upd_ne {α : Type} (f : Nat → α) {i j : Nat} (v : α) (h : j ≠ i) : upd f i v j = f j := by simp [upd, h]
def arr {α : Type} (e : α → Value) (n : Nat) (K : Nat → α) : Array Value := ((List.range n).map fun i => e (K i)).toArray
def eZ (z : Int) : Value := .int .i64 z
def eB (b : Bool) : Value := .bool b
section
variable {α : Type} (e : α → Value) (n : Nat) (K : Nat → α)
theorem arr_size : (arr e n K).size = n := by simp [arr]
theorem arr_at {i : Nat} (h : i < n) : (arr e n K)[i]? = some (e (K i)) := by simp [arr, h]
theorem arr_set {i : Nat} (v : α) : (arr e n K).setIfInBounds i (e v) = arr e n (upd K i v) := by
  apply Array.ext
  · simp [arr]
  · intro j h1 h2
    have hj : j < n := by simpa [arr] using h2
    have h3 : j < (arr e n K).size := by simpa [arr] using hj
    have e1 : (arr e n K)[j] = e (K j) := by simp [arr]
    have e2 : (arr e n (upd K i v))[j] = e (upd K i v j) := by simp [arr]
    rw [e2, Array.getElem_setIfInBounds h3, e1]
    unfold upd
    by_cases h : i = j
    · subst h; simp
    · rw [if_neg h, if_neg (fun x => h x.symm)]
theorem arr_made (z : α) (he : (e z).cells = #[e z]) : madeCells (e z).cells (n * 1) = arr e n fun _ => z := by
  rw [he]
  apply Array.ext
  · simp [arr, size_madeCells]
  · intro j h1 h2
    simp [madeCells, arr]
    rw [Nat.mod_one]
    rfl
end
attribute [irreducible] arr
section
variable {α : Type} {e : α → Value} {w : World} {g n : Nat} {K : Nat → α} {t : TypeId}
theorem blk_arr (h : Blk w g t (arr e n K)) {i : Nat} (hi : i < n) : w.cell? ⟨g, 0 + i * 1, none⟩ = some (e (K i)) := by
  rw [show 0 + i * 1 = i by omega]
  exact h.cellv (arr_at e n K hi)
theorem blk_arrv (h : Blk w g t (arr e n K)) {i : Nat} (hi : i < n) : w.cell? ⟨g, i, none⟩ = some (e (K i)) := h.cellv (arr_at e n K hi)
end
theorem s_info_bool1 : ((Tryd.prog.info? 4).bind (·.zero) = some (.bool false)) ∧ (Tryd.prog.info? 4).map (·.size) = some 1 ∧ (Tryd.prog.info? 4).map (·.bytes) = some 1 := ⟨by kernel_rfl, by kernel_rfl, by kernel_rfl⟩
theorem info_one {t : TypeId} {z : Value} {b : Nat} (h : ((Tryd.prog.info? t).bind (·.zero) = some z) ∧ (Tryd.prog.info? t).map (·.size) = some 1 ∧ (Tryd.prog.info? t).map (·.bytes) = some b) : ∃ i, Tryd.prog.info? t = some i ∧ i.zero = some z ∧ i.size = 1 ∧ i.bytes = b := by
  obtain ⟨h1, h2, h3⟩ := h
  cases e : Tryd.prog.info? t with
  | none => rw [e] at h2; cases h2
  | some i => rw [e] at h1 h2 h3; exact ⟨i, rfl, h1, by simpa using h2, by simpa using h3⟩
theorem run_make1 {α : Type} (e : α → Value) (z : α) (t s : TypeId) (b N : Nat) (hu : Tryd.prog.underlying s = some (.slice t)) (h : ((Tryd.prog.info? t).bind (·.zero) = some (e z)) ∧ (Tryd.prog.info? t).map (·.size) = some 1 ∧ (Tryd.prog.info? t).map (·.bytes) = some b) (he : (e z).cells = #[e z])
    (hb : b ≤ 8) (hN : N ≤ 1048576) (w : World) : (Instr.makeSlice s (.int .i64 N) (.int .i64 N)).run Tryd.prog w = .ok (.slice (some ⟨w.heap.size, 0, none⟩) N N) (w.alloc (.cells (arr e N fun _ => z) t)) := by
  obtain ⟨i, h1, h2, h3, h4⟩ := info_one h
  have := run_makeSlice (P := Tryd.prog) w s t i _ hu h1 h2 .i64 .i64 (N : Int) (N : Int) (by omega) (by omega) (by rw [h3]; omega) (by
    rw [h4]
    have h8 : ((b * N : Nat) : Int) ≤ ((8 * 1048576 : Nat) : Int) := Int.ofNat_le.2 (Nat.mul_le_mul hb hN)
    rw [Int.natCast_mul] at h8
    omega) (by omega)
  rw [this, h3, Int.toNat_natCast, arr_made e N z he]
section
variable {ops : Array Oper} {rest : List Oper} {o : Oper} {a : Act} {w : World} {Q : Exit → Act → World → Prop}
theorem wl_makeF (hgd : o.guard = none) (x y : Operand) (ho : o.op = .makeSlice 68 x y) (N : Nat) (hx : a.eval x = .int .i64 N) (hy : a.eval y = .int .i64 N) (hN : N ≤ 1048576)
    (h : ∀ w', Blk w' w.heap.size 4 (arr eB N fun _ => false) → Below w.heap.size w w' → wpList Tryd.prog ops Q rest (a.put o.dst (.slice (some ⟨w.heap.size, 0, none⟩) N N)) w') : wpList Tryd.prog ops Q (o :: rest) a w := by
  refine wpList_plain hgd fun _ hK => ?_
  unfold Oper.wp execOp
  simp only [ho, hx, hy, Sem.run_bind, run_make1 eB false 4 68 1 N Tryd.underlying68 s_info_bool1 rfl (by omega) hN, Result.andThen_ok, Sem.run_pure]
  exact hK _ _ (h _ (Blk.new _ _ _) (below_alloc (Below.refl _ _) _))
theorem wl_store_arr {α : Type} (e : α → Value) (v : α) (hgd : o.guard = none) (ty : TypeId) (x y : Operand) (ho : o.op = .store ty x y) (g i n : Nat) (t : TypeId) (K : Nat → α) (hb : Blk w g t (arr e n K)) (hx : a.eval x = .pointer (some ⟨g, i, none⟩)) (hy : a.eval y = e v)
    (hi : i < n) (hsz : (Tryd.prog.info? ty).map (·.size) = some 1) (hv : (e v).cells = #[e v]) (h1 : (e v).oneCell' = true)
    (h : ∀ w', Blk w' g t (arr e n (upd K i v)) → w.grownBy w' (some g) → wpList Tryd.prog ops Q rest (a.put o.dst undef) w') : wpList Tryd.prog ops Q (o :: rest) a w :=
  wl_store_cell hgd ty x y ho g i hx t _ (arr e n (upd K i v)) hb (by rw [arr_size]; exact hi) hsz (by rw [hy]; exact hv) (by rw [hy]; exact h1) (by rw [hy]; exact arr_set e n K v) h
end
theorem info_intS : (Tryd.prog.info? 3).map (·.size) = some 1 := by kernel_rfl
theorem info_boolS : (Tryd.prog.info? 4).map (·.size) = some 1 := by kernel_rfl
def cntF (p : Nat → Bool) : Nat → Nat
  | 0 => 0
  | n + 1 => cntF p n + (if p n then 1 else 0)
theorem cntF_le (p : Nat → Bool) (n : Nat) : cntF p n ≤ n := by
  induction n with
  | zero => exact Nat.le_refl _
  | succ n ih => unfold cntF; split <;> omega
theorem cntF_congr {p q : Nat → Bool} {n : Nat} (h : ∀ i, i < n → p i = q i) : cntF p n = cntF q n := by
  induction n with
  | zero => rfl
  | succ n ih => unfold cntF; rw [ih (fun i hi => h i (by omega)), h n (by omega)]
theorem cntF_mono {p q : Nat → Bool} {n : Nat} (h : ∀ i, i < n → p i = true → q i = true) : cntF p n ≤ cntF q n := by
  induction n with
  | zero => exact Nat.le_refl _
  | succ n ih =>
    have := ih (fun i hi => h i (by omega))
    have h2 := h n (by omega)
    unfold cntF
    cases hp : p n
    · simp; omega
    · rw [h2 hp]; simp; omega
theorem cntF_lt {p q : Nat → Bool} {n j : Nat} (h : ∀ i, i < n → p i = true → q i = true) (hj : j < n) (h0 : p j = false) (h1 : q j = true) : cntF p n < cntF q n := by
  induction n with
  | zero => omega
  | succ n ih =>
    unfold cntF
    by_cases e : j = n
    · subst e
      have := cntF_mono (p := p) (q := q) (n := j) (fun i hi => h i (by omega))
      rw [h0, h1]; simp; omega
    · have := ih (fun i hi => h i (by omega)) (by omega)
      have h2 := h n (by omega)
      cases hp : p n
      · simp; omega
      · rw [h2 hp]; simp; omega
def boolAt (w : World) (g i : Nat) : Bool := match w.cell? ⟨g, i, none⟩ with | some (.bool b) => b | _ => false
theorem boolAt_blk {w : World} {g n : Nat} {t : TypeId} {p : Nat → Bool} (h : Blk w g t (arr eB n p)) {i : Nat} (hi : i < n) : boolAt w g i = p i := by
  unfold boolAt
  rw [blk_arrv h hi]
  rfl
theorem cntF_blk {w : World} {g n : Nat} {t : TypeId} {p : Nat → Bool} (h : Blk w g t (arr eB n p)) : cntF (boolAt w g) n = cntF p n := cntF_congr fun i hi => boolAt_blk h hi
section
variable {A : Au} {p0 p : Nat → Bool} {more : Bool} {k : Nat}
end
end Go.Proofs.YtkedgombccdamaaDoor
namespace Go.Proofs.YtkedgombccdamaaDoor
open Go.RowKit Go.Maps
set_option linter.unusedVariables false
set_option linter.unusedSimpArgs false
section
variable {α β : Type} {enc : α → Array Value} {enc2 : β → Array Value} {size size2 base base2 B g r n c : Nat} {e e2 t : TypeId} {W W' : World} {v v2 : Value} {ys : List α} {zs : List β} {cs : Array Value} {row : Option Nat}
theorem own_made (hs : ∀ y, (enc y).size = size) (hb : Blk W g e cs) (hcs : cs.toList = flat enc ys) (hn : n = ys.length) (hg : base ≤ g) (hm : n ≤ maxLen) : Own W base e size enc (.slice (some ⟨g, 0, none⟩) n n) ys := by
  subst hn
  refine ⟨flat_length hs ys, .inr ⟨g, _, cs, rfl, hg, hb, Nat.le_refl _, hm, ?_, ?_⟩⟩
  · rw [← Array.length_toList, hcs, flat_length hs]
  · rw [hcs, ← flat_length hs ys, List.take_length]
theorem own_take {A : Option Addr} {zs' : List α} (hs : ∀ y, (enc y).size = size) (h : Own W base e size enc (.slice A n c) (ys ++ zs')) : SliceOf W W.heap.size size enc A ys := by
  have := h.slice hs ys.length
  rwa [List.take_left'] at this
  rfl
theorem ownBlock_slice (A : Option Addr) (n c : Nat) : (Value.slice A n c).ownBlock = A.map (·.block) := by cases A <;> rfl
end
theorem encZ_one (y : Int) : (encZ y).all (·.oneCell') = true := by simp [encZ, Value.oneCell']
theorem rowC_one (y : RV) : (rowC y).all (·.oneCell') = true := by simp [rowC, Value.oneCell']
structure TOwn (w : World) (base : Nat) (x : TV) (xr : List Int) (xf : List Nat) (xn : List RV) : Prop where
  rows : Own w base 67 1 rowC (.slice x.A (x.rs.length + xn.length) x.c) (x.rs ++ xn)
  fo : Own w base 43 1 encR (.slice x.B (x.fo.length + xf.length) x.d) (x.fo ++ xf)
  en : Own w base 43 1 encR (.slice x.C (x.en.length + xf.length) x.e) (x.en ++ xf)
  row : ∀ i (h : i < x.rs.length), Own w base 3 1 encZ (.slice x.rs[i].a (x.rs[i].l.length + xr.length) x.rs[i].c) (x.rs[i].l ++ xr)
  ap : ∀ i j (hi : i < x.rs.length) (hj : j < x.rs.length) a b, i ≠ j → x.rs[i].a = some a → x.rs[j].a = some b → a.block ≠ b.block
  fe : ∀ a b, x.B = some a → x.C = some b → a.block ≠ b.block
section
variable {w w' : World} {base g : Nat} {x : TV} {xr : List Int} {xf : List Nat} {xn : List RV} {t : TypeId} {cs : Array Value}
theorem TOwn.then_ (h : TOwn w base x xr xf xn) (hb : Below w.heap.size w w') : TOwn w' base x xr xf xn :=
  ⟨h.rows.then_ hb, h.fo.then_ hb, h.en.then_ hb, fun i hi => (h.row i hi).then_ hb, h.ap, h.fe⟩
theorem TOwn.mono {base' : Nat} (h : TOwn w base x xr xf xn) (hb : base' ≤ base) : TOwn w base' x xr xf xn :=
  ⟨h.rows.mono hb, h.fo.mono hb, h.en.mono hb, fun i hi => (h.row i hi).mono hb, h.ap, h.fe⟩
theorem TOwn.low (h : TOwn w base x xr xf xn) (hg : w.grownBy w' (some g)) (hr : g < base) : TOwn w' base x xr xf xn :=
  ⟨own_low h.rows hg hr, own_low h.fo hg hr, own_low h.en hg hr, fun i hi => own_low (h.row i hi) hg hr, h.ap, h.fe⟩
theorem TOwn.tab (h : TOwn w base x xr xf xn) (nb : x.rs.length ≤ 2199023255552) (rb : ∀ r ∈ x.rs, r.l.length ≤ 2199023255552) (fb : x.fo.length ≤ 2199023255552) (eb : x.en.length ≤ 2199023255552) (f32 : ∀ y ∈ x.fo, y < 4294967296) (e32 : ∀ y ∈ x.en, y < 4294967296) : TabIn w w.heap.size x :=
  ⟨own_take rowC_size h.rows, fun r hr => by
    obtain ⟨i, hi, rfl⟩ := List.mem_iff_getElem.1 hr
    exact own_take encZ_size (h.row i hi), own_take encR_size h.fo, own_take encR_size h.en, nb, rb, fb, eb, f32, e32⟩
theorem TOwn.nil (w : World) (base : Nat) (f : Nat → Int) : TOwn w base ⟨f, [], none, 0, [], none, 0, [], none, 0⟩ [] [] [] :=
  ⟨Own.nil_ _ _ _ _ _, Own.nil_ _ _ _ _ _, Own.nil_ _ _ _ _ _, fun i hi => absurd hi (by simp), fun i j hi => absurd hi (by simp), fun a b h => by cases h⟩
end
theorem info_rowsS : (Tryd.prog.info? 31).map (·.size) = some 1 := by kernel_rfl
theorem info_rows3 : (Tryd.prog.info? 67).map (fun i => (i.zero, i.size, i.bytes)) = some (some (.slice none 0 0), 1, 24) := by kernel_rfl
section
variable {ops : Array Oper} {rest : List Oper} {o : Oper} {a : Act} {w : World} {Q : Exit → Act → World → Prop}
variable {f : Nat → Int} {A B C A' : Option Addr} {n c m d k e n' c' : Nat}
theorem wl_store_d1 (hgd : o.guard = none) (x y : Operand) (ho : o.op = .store 31 x y) (g : Nat) (hx : a.eval x = .pointer (some ⟨g, 256, none⟩)) (hy : a.eval y = .slice A' n' c') (hb : Blk w g 33 (dfaC f A n c B m d C k e))
    (h : ∀ w', Blk w' g 33 (dfaC f A' n' c' B m d C k e) → w.grownBy w' (some g) → wpList Tryd.prog ops Q rest (a.put o.dst undef) w') : wpList Tryd.prog ops Q (o :: rest) a w :=
  wl_store_cell hgd _ x y ho g 256 hx _ _ (dfaC f A' n' c' B m d C k e) hb (by rw [dfaC_size]; omega) info_rowsS (by rw [hy]; rfl) (by rw [hy]; rfl) (by rw [hy]; exact dfaC_set1 _ _ _ _ _ _ _ _ _ _ _ _ _) h
end
end Go.Proofs.YtkedgombccdamaaDoor
