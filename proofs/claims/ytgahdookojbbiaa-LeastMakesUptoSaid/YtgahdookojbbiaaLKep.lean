/- heronlaw11.kept: a copy with one more behind each list is kept. No condition beyond those named in each lemma. -/
import Derived.Test.YtgahdookojbbiaaLCop
import Derived.Test.YtgahdookojbbiaaLSame
namespace Go.Proofs.Ytgahdookojbbiaa
open Go.RowKit Go.Maps
set_option linter.unusedVariables false
set_option linter.unusedSimpArgs false
attribute [local go_sem] Oper.semAt_some

theorem gs_add_nat {P : Program} {ops : Array Oper} {S : Nat → GSpec} {Q : Exit → Act → World → Prop} {i : Nat} {o : Oper} {a : Act} {w : World} (hw : Region.wanted o (yielded ops a.tmps) = true) (t t2 : TypeId) (x y : Operand) (ho : o.op = .binOp .add t x y t2) (p q r : Nat) (hx : a.eval x = .int .i64 p) (hy : a.eval y = .int .i64 q) (hr : p + q = r) (hr64 : r < 9223372036854775808)
    (hp : (S i).p (.int .i64 (r : Nat)) w) : GStep P ops S Q i o a w :=
  gs_bin hw _ _ _ x y ho _ _ _ hx hy (by rw [eqGuard_at_int]; rfl) (by
    have e : (p : Int) + q = r := by omega
    have e2 : IntKind.i64.wrap (r : Int) = r := by rw [IntKind.wrap_i64]; omega
    rw [binOp_add]
    simp [Op.intArith, e, e2]) hp
/-- a list with one more behind it -/
theorem own_more {α : Type} {enc : α → Array Value} {base : Nat} {e : TypeId} {w : World} {A : Option Addr} {n c : Nat} {ys : List α} {z : α} {v : Value} (hs : ∀ y, (enc y).size = 1) (h : Own w base e 1 enc (.slice A (n + 1) c) (ys ++ [z])) (hn : n = ys.length) (hv : (enc z)[0]? = some v) :
    ∃ g, A = some ⟨g, 0, none⟩ ∧ n + 1 ≤ c ∧ ∀ X : World, Below w.heap.size w X → X.cell? ⟨g, 0 + n * 1, none⟩ = some v := by
  obtain ⟨g, cap, hvv, _, hlt, hc, _⟩ := h.form (by simp)
  injection hvv with h1 _ h3
  subst h1 h3
  refine ⟨g, rfl, by simp at hc; omega, fun X hB => ?_⟩
  have hr := h.row hs n (by simp; omega)
  have hz : (ys ++ [z])[n]'(by simp; omega) = z := by subst hn; simp
  rw [hz] at hr
  have := hr 0 _ hv
  rw [show 0 + n * 1 = n * 1 + 0 by omega]
  exact (World.cell?_of_block (w := w) (hB.block g hlt)).trans this
set_option maxRecDepth 100000 in
set_option maxHeartbeats 4000000 in
theorem kep_any (x y : TV) (rz : RV) (base : Nat) (he : y.T = x.T) (hrz : rz.l.length = 1) (hS : Sml x) (w : World) (hT : TabIn w w.heap.size x) (hO : TOwn w base y [77] [77] [rz]) :
    Calls Try.prog 24 #[.agg y.C', .agg x.C'] w fun e w' => e = .returned (.bool true) ∧ Below w.heap.size w w' := by
  have hlr : y.rs.length = x.rs.length := by have := congrArg (fun T : Tb => T.nx.length) he; simpa [TV.T] using this
  have hlf : y.fo = x.fo := congrArg Tb.fo he
  have hle : y.en = x.en := congrArg Tb.en he
  have hrl : ∀ i (h1 : i < y.rs.length) (h2 : i < x.rs.length), y.rs[i].l = x.rs[i].l := fun i h1 h2 => by
    have h3 : y.rs.map (·.l) = x.rs.map (·.l) := congrArg Tb.nx he
    have h4 : (y.rs.map (·.l))[i]'(by simpa using h1) = (x.rs.map (·.l))[i]'(by simpa using h2) := by simp only [h3]
    simpa using h4
  have hTy : TabIn w w.heap.size y := hO.tab (by have := hS.n; omega) (fun r hr => by
      obtain ⟨i, hi, rfl⟩ := List.mem_iff_getElem.1 hr
      rw [hrl i hi (by omega)]
      have := hS.r _ (List.getElem_mem (show i < x.rs.length by omega))
      omega) (by rw [hlf]; have := hS.f; omega) (by rw [hle]; have := hS.e; omega) (by rw [hlf]; exact hT.f32) (by rw [hle]; exact hT.e32)
  have hsame : ∀ W : World, Below w.heap.size w W → Calls Try.prog 23 #[.agg y.C', .agg x.C'] W fun e w' => e = .returned (.bool true) ∧ Below W.heap.size W w' := fun W hB => same_any y x (TEq.of he) W (hTy.then_ hB) (hT.then_ hB)
  have hn20 := hS.n
  have Hlr := Lib.hid hlr
  have Hlf := Lib.hid (congrArg List.length hlf)
  have Hle := Lib.hid (congrArg List.length hle)
  have Hrl := Lib.hid hrl
  clear hlr hlf hle hrl hTy
  unfold TV.C' at hsame ⊢
  go_enter Try.func24, Try.ntmps24
  have hy := (Blk.new w 47 (dfaC y.f y.A y.rs.length y.c y.B y.fo.length y.d y.C y.en.length y.e)).alloc (.cells (dfaC x.f x.A x.rs.length x.c x.B x.fo.length x.d x.C x.en.length x.e) 47)
  have hd : Blk ((w.alloc (.cells (dfaC y.f y.A y.rs.length y.c y.B y.fo.length y.d y.C y.en.length y.e) 47)).alloc (.cells (dfaC x.f x.A x.rs.length x.c x.B x.fo.length x.d x.C x.en.length x.e) 47)) (w.heap.size + 1) 47 (dfaC x.f x.A x.rs.length x.c x.B x.fo.length x.d x.C x.en.length x.e) := Blk.new' _ _ _ (World.size_alloc _ _).symm
  have hB1 := below_alloc (below_alloc (Below.refl w.heap.size w) (.cells (dfaC y.f y.A y.rs.length y.c y.B y.fo.length y.d y.C y.en.length y.e) 47)) (.cells (dfaC x.f x.A x.rs.length x.c x.B x.fo.length x.d x.C x.en.length x.e) 47)
  go_upto_region 1 with (fail)
  obtain ⟨w1, hw1⟩ : ∃ ww, ww = ((w.alloc (.cells (dfaC y.f y.A y.rs.length y.c y.B y.fo.length y.d y.C y.en.length y.e) 47)).alloc (.cells (dfaC x.f x.A x.rs.length x.c x.B x.fo.length x.d x.C x.en.length x.e) 47)) := ⟨_, rfl⟩
  first | rw [← hw1] at hy hd hB1 ⊢ | (simp only [World.size_alloc]; rw [← hw1] at hy hd hB1 ⊢)
  clear hw1
  obtain ⟨gy, hgy⟩ : ∃ g, g = w.heap.size := ⟨_, rfl⟩
  obtain ⟨gd, hgd⟩ : ∃ g, g = w.heap.size + 1 := ⟨_, rfl⟩
  try rw [← hgd] at hd ⊢
  try rw [← hgy] at hy ⊢
  clear hgy hgd
  have hs1 := hsame w1 hB1
  clear hsame
  go_upto_region 3 with (first
    | (refine wl_load_dfa rfl _ rfl gy rfl hy ?_)
    | (refine wl_load_dfa rfl _ rfl gd rfl hd ?_)
    | (go_at_call 23; refine hs1.mono ?_; rintro e wb ⟨rfl, hB2⟩))
  clear hs1
  replace hy := blk_then hy hB2
  replace hd := blk_then hd hB2
  replace hB1 := below_then hB1 hB2
  clear hB2
  replace hO := hO.then_ hB1
  replace hT := hT.then_ hB1
  go_wp2_with (fail)
  go_loopw [5] (fun iv wr => ∃ i : Nat, i ≤ x.rs.length ∧ iv = .int .i64 i ∧ Below wb.heap.size wb wr ∧ Blk wr gy 47 (dfaC y.f y.A y.rs.length y.c y.B y.fo.length y.d y.C y.en.length y.e) ∧ Blk wr gd 47 (dfaC x.f x.A x.rs.length x.c x.B x.fo.length x.d x.C x.en.length x.e)) (fun iv _ => x.rs.length - (intOf iv).toNat)
  case atStart => exact ⟨0, by omega, rfl, Below.refl _ _, hy, hd⟩
  case round =>
    clear hy hd
    obtain ⟨i, hi, rfl, hB2, hy, hd⟩ := hrel
    have cD : wr.cell? ⟨gd, 256, none⟩ = some (.slice x.A x.rs.length x.c) := blk_d1 hd
    by_cases hil : i < x.rs.length
    · have hiI : (i : Int) < x.rs.length := by omega
      have hiy : i < y.rs.length := by rw [Hlr.out]; exact hil
      obtain ⟨bX, oX, hXA, hbX, cR⟩ := hT.rowAt hil
      obtain ⟨bY, oY, hYA, hbY, cS⟩ := slice_cell (hO.rows.slice_all rowC_size) (s := i) (by simp; omega) (v := .slice y.rs[i].a y.rs[i].l.length y.rs[i].c) (by rw [List.getElem_append_left hiy]; rfl)
      obtain ⟨gR, hgR, hcR, hc77⟩ := own_more encZ_size (hO.row i hiy) rfl (v := .int .i64 77) rfl
      have hlen := Hrl.out i hiy hil
      rw [hgR, hlen] at cS
      rw [hlen] at hcR hc77
      have hl20 := hS.r _ (List.getElem_mem hil)
      obtain ⟨a2, ha2⟩ : ∃ a2, x.rs[i].a = a2 := ⟨_, rfl⟩
      obtain ⟨c2, hc2⟩ : ∃ a2, x.rs[i].c = a2 := ⟨_, rfl⟩
      obtain ⟨ln, hln⟩ : ∃ a2, x.rs[i].l.length = a2 := ⟨_, rfl⟩
      obtain ⟨cR2, hcR2⟩ : ∃ a2, y.rs[i].c = a2 := ⟨_, rfl⟩
      rw [ha2, hc2, hln] at cR
      rw [hln] at cS hcR hc77 hl20
      rw [hcR2] at cS hcR
      have hcx : ∀ X : World, Below wb.heap.size wb X → X.cell? ⟨bX, oX + i * 1, none⟩ = some (.slice a2 ln c2) := fun X hB => cell_keep cR hbX hB
      have hcy : ∀ X : World, Below wb.heap.size wb X → X.cell? ⟨bY, oY + i * 1, none⟩ = some (.slice (some ⟨gR, 0, none⟩) ln cR2) := fun X hB => cell_keep cS hbY hB
      replace hXA := Lib.hid hXA
      replace hYA := Lib.hid hYA
      clear cR cS hgR hlen ha2 hc2 hln hcR2
      go_upto_region 6 with (fail)
      clear cD
      refine wp_region_steps 22 [eqS (.pointer (some ⟨gy, 256, none⟩)), eqS (.slice (some ⟨bY, oY, none⟩) y.rs.length y.c), eqS (.int .i64 (((i : Nat) : Int))), eqS (.pointer (some ⟨bY, oY + i * 1, none⟩)), eqS (.slice (some ⟨gR, 0, none⟩) ln cR2), eqS (.pointer (some ⟨gd, 256, none⟩)), eqS (.slice (some ⟨bX, oX, none⟩) x.rs.length x.c), eqS (.int .i64 (((i : Nat) : Int))), eqS (.pointer (some ⟨bX, oX + i * 1, none⟩)), eqS (.slice a2 ln c2), eqS (.int .i64 (((ln : Nat) : Int))), eqS (.int .i64 (((ln + 1 : Nat) : Int))), eqS (.slice (some ⟨gR, 0, none⟩) (ln + 1) cR2), eqS (.pointer (some ⟨gd, 256, none⟩)), eqS (.slice (some ⟨bX, oX, none⟩) x.rs.length x.c), eqS (.int .i64 (((i : Nat) : Int))), eqS (.pointer (some ⟨bX, oX + i * 1, none⟩)), eqS (.slice a2 ln c2), eqS (.int .i64 (((ln : Nat) : Int))), eqS (.pointer (some ⟨gR, 0 + ln * 1, none⟩)), eqS (.int .i64 (77)), eqS (.bool false)] [17, 18, 19, 20, 21, 22, 23, 24, 25, 26, 27, 28, 29, 30, 31, 32, 33, 34, 35, 36, 37, 38] rfl (by kernel_rfl) rfl ?_ ?_
      · skip
        refine Steps.cons (fun a' w' hG hB dep => gs_field (want_none rfl) _ _ _ rfl gy (0) (256) (hG.other 2 rfl) (fun wz => field_dfa_1 gy (0) wz) rfl) ?_
        refine Steps.cons (fun a' w' hG hB dep => gs_load1 (want_none rfl) _ _ rfl gy (256) (dep 0 rfl 17 rfl) (.slice (some ⟨bY, oY, none⟩) y.rs.length y.c) (by have h9 := blk_d1 (blk_then hy hB); rw [hYA.out] at h9; exact h9) _ Try.underlying45 rfl rfl) ?_
        refine Steps.cons (fun a' w' hG hB dep => gs_move (want_none rfl) _ rfl (id (hG.other 5 rfl))) ?_
        refine Steps.cons (fun a' w' hG hB dep => gs_index (want_none rfl) _ _ _ rfl under_rows 1 size_rowE bY oY y.rs.length y.c (i) (dep 1 rfl 18 rfl) (dep 2 rfl 19 rfl) hiy rfl) ?_
        refine Steps.cons (fun a' w' hG hB dep => gs_load1 (want_none rfl) _ _ rfl bY (oY + i * 1) (dep 3 rfl 20 rfl) (.slice (some ⟨gR, 0, none⟩) ln cR2) (hcy _ (below_then hB2 hB)) _ Try.underlying57 rfl rfl) ?_
        refine Steps.cons (fun a' w' hG hB dep => gs_field (want_none rfl) _ _ _ rfl gd (0) (256) (hG.other 3 rfl) (fun wz => field_dfa_1 gd (0) wz) rfl) ?_
        refine Steps.cons (fun a' w' hG hB dep => gs_load1 (want_none rfl) _ _ rfl gd (256) (dep 5 rfl 22 rfl) (.slice (some ⟨bX, oX, none⟩) x.rs.length x.c) (by have h9 := blk_d1 (blk_then hd hB); rw [hXA.out] at h9; exact h9) _ Try.underlying45 rfl rfl) ?_
        refine Steps.cons (fun a' w' hG hB dep => gs_move (want_none rfl) _ rfl (id (hG.other 5 rfl))) ?_
        refine Steps.cons (fun a' w' hG hB dep => gs_index (want_none rfl) _ _ _ rfl under_rows 1 size_rowE bX oX x.rs.length x.c (i) (dep 6 rfl 23 rfl) (dep 7 rfl 24 rfl) hil rfl) ?_
        refine Steps.cons (fun a' w' hG hB dep => gs_load1 (want_none rfl) _ _ rfl bX (oX + i * 1) (dep 8 rfl 25 rfl) (.slice a2 ln c2) (hcx _ (below_then hB2 hB)) _ Try.underlying57 rfl rfl) ?_
        refine Steps.cons (fun a' w' hG hB dep => gs_len (want_none rfl) _ _ rfl under_ints _ ln c2 (dep 9 rfl 26 rfl) rfl) ?_
        refine Steps.cons (fun a' w' hG hB dep => gs_add_nat (want_none rfl) _ _ _ _ rfl ln 1 (ln + 1) (dep 10 rfl 27 rfl) rfl (by omega) (by omega) rfl) ?_
        refine Steps.cons (fun a' w' hG hB dep => gs_slice_to (want_none rfl) _ _ _ rfl under_ints 1 size_intE ⟨gR, 0, none⟩ ln cR2 (ln + 1) (dep 4 rfl 21 rfl) (dep 11 rfl 28 rfl) hcR rfl) ?_
        refine Steps.cons (fun a' w' hG hB dep => gs_field (want_none rfl) _ _ _ rfl gd (0) (256) (hG.other 3 rfl) (fun wz => field_dfa_1 gd (0) wz) rfl) ?_
        refine Steps.cons (fun a' w' hG hB dep => gs_load1 (want_none rfl) _ _ rfl gd (256) (dep 13 rfl 30 rfl) (.slice (some ⟨bX, oX, none⟩) x.rs.length x.c) (by have h9 := blk_d1 (blk_then hd hB); rw [hXA.out] at h9; exact h9) _ Try.underlying45 rfl rfl) ?_
        refine Steps.cons (fun a' w' hG hB dep => gs_move (want_none rfl) _ rfl (id (hG.other 5 rfl))) ?_
        refine Steps.cons (fun a' w' hG hB dep => gs_index (want_none rfl) _ _ _ rfl under_rows 1 size_rowE bX oX x.rs.length x.c (i) (dep 14 rfl 31 rfl) (dep 15 rfl 32 rfl) hil rfl) ?_
        refine Steps.cons (fun a' w' hG hB dep => gs_load1 (want_none rfl) _ _ rfl bX (oX + i * 1) (dep 16 rfl 33 rfl) (.slice a2 ln c2) (hcx _ (below_then hB2 hB)) _ Try.underlying57 rfl rfl) ?_
        refine Steps.cons (fun a' w' hG hB dep => gs_len (want_none rfl) _ _ rfl under_ints _ ln c2 (dep 17 rfl 34 rfl) rfl) ?_
        refine Steps.cons (fun a' w' hG hB dep => gs_index (want_none rfl) _ _ _ rfl under_ints 1 size_intE gR 0 (ln + 1) cR2 (ln) (dep 12 rfl 29 rfl) (dep 18 rfl 35 rfl) (Nat.lt_succ_self _) rfl) ?_
        refine Steps.cons (fun a' w' hG hB dep => gs_load1 (want_none rfl) _ _ rfl gR (0 + ln * 1) (dep 19 rfl 36 rfl) (.int .i64 (77)) (hc77 _ (below_then hB2 hB)) _ Try.underlying3 rfl rfl) ?_
        refine Steps.cons (fun a' w' hG hB dep => gs_neq_int (want_none rfl) _ _ _ _ rfl _ _ _ (dep 20 rfl 37 rfl) rfl (id (congrArg Value.bool rfl))) ?_
        exact Steps.nil
      intro u wu hwu ans
      have hus38 : u 38 = (.bool false) := ans 21 38 (by decide) rfl
      clear ans
      simp only [putAll, List.foldl_cons, List.foldl_nil, Act.put, List.setIfInBounds_toArray, List.set_cons_zero, List.set_cons_succ, hus38]
      clear hus38
      simp only [List.drop]
      refine wpList_nil ?_
      replace hy := blk_then hy hwu
      replace hd := blk_then hd hwu
      replace hB2 := below_then hB2 hwu
      clear hwu hcx hcy hc77 hcR hl20
      go_wp2_with (fail)
      exact ⟨⟨i + 1, by omega, rfl, hB2, hy, hd⟩, by simp only [intOf]; omega⟩
    · have hiI : ¬ (i : Int) < x.rs.length := by omega
      go_upto_region 8 with (fail)
      clear cD
      obtain ⟨gN, hYN, hcN, hN77⟩ := own_more rowC_size hO.rows rfl (v := .slice rz.a rz.l.length rz.c) rfl
      obtain ⟨gF, hYB, hcF, hF77⟩ := own_more encR_size hO.fo rfl (v := .int .u32 77) rfl
      obtain ⟨gE, hYC, hcE, hE77⟩ := own_more encR_size hO.en rfl (v := .int .u32 77) rfl
      rw [hrz] at hN77
      obtain ⟨nr, hnr⟩ : ∃ n, y.rs.length = n := ⟨_, rfl⟩
      obtain ⟨nf, hnf⟩ : ∃ n, y.fo.length = n := ⟨_, rfl⟩
      obtain ⟨ne, hne⟩ : ∃ n, y.en.length = n := ⟨_, rfl⟩
      have hnr2 : x.rs.length = nr := by rw [← hnr, Hlr.out]
      have hnf2 : x.fo.length = nf := by rw [← hnf, Hlf.out]
      have hne2 : x.en.length = ne := by rw [← hne, Hle.out]
      rw [hnr] at hcN hN77
      rw [hnf] at hcF hF77
      rw [hne] at hcE hE77
      have hf20 := hS.f
      have he20 := hS.e
      rw [hnf2] at hf20
      rw [hne2] at he20
      rw [hnr2] at hn20
      replace hYN := Lib.hid hYN
      replace hYB := Lib.hid hYB
      replace hYC := Lib.hid hYC
      replace hnr := Lib.hid hnr
      replace hnf := Lib.hid hnf
      replace hne := Lib.hid hne
      replace hnr2 := Lib.hid hnr2
      replace hnf2 := Lib.hid hnf2
      replace hne2 := Lib.hid hne2
      refine wp_region_steps 45 [eqS (.pointer (some ⟨gy, 257, none⟩)), eqS (.slice (some ⟨gF, 0, none⟩) nf y.d), eqS (.pointer (some ⟨gd, 257, none⟩)), eqS (.slice x.B nf x.d), eqS (.int .i64 (((nf : Nat) : Int))), eqS (.int .i64 (((nf + 1 : Nat) : Int))), eqS (.slice (some ⟨gF, 0, none⟩) (nf + 1) y.d), eqS (.pointer (some ⟨gd, 257, none⟩)), eqS (.slice x.B nf x.d), eqS (.int .i64 (((nf : Nat) : Int))), eqS (.pointer (some ⟨gF, 0 + nf * 1, none⟩)), eqS (.int .u32 (77)), eqS (.bool true), eqS (.bool true), eqS (vF (true && (true == true)) (.pointer (some ⟨gy, 258, none⟩))), eqS (vF (true && (true == true)) (.slice (some ⟨gE, 0, none⟩) ne y.e)), eqS (vF (true && (true == true)) (.pointer (some ⟨gd, 258, none⟩))), eqS (vF (true && (true == true)) (.slice x.C ne x.e)), eqS (vF (true && (true == true)) (.int .i64 (((ne : Nat) : Int)))), eqS (vF (true && (true == true)) (.int .i64 (((ne + 1 : Nat) : Int)))), eqS (vF (true && (true == true)) (.slice (some ⟨gE, 0, none⟩) (ne + 1) y.e)), eqS (vF (true && (true == true)) (.pointer (some ⟨gd, 258, none⟩))), eqS (vF (true && (true == true)) (.slice x.C ne x.e)), eqS (vF (true && (true == true)) (.int .i64 (((ne : Nat) : Int)))), eqS (vF (true && (true == true)) (.pointer (some ⟨gE, 0 + ne * 1, none⟩))), eqS (vF (true && (true == true)) (.int .u32 (77))), eqS (vF (true && (true == true)) (.bool true)), eqS (.bool (true && true)), eqS (.bool (true && true)), eqS (vF (true && ((true && true) == true)) (.pointer (some ⟨gy, 256, none⟩))), eqS (vF (true && ((true && true) == true)) (.slice (some ⟨gN, 0, none⟩) nr y.c)), eqS (vF (true && ((true && true) == true)) (.pointer (some ⟨gd, 256, none⟩))), eqS (vF (true && ((true && true) == true)) (.slice x.A nr x.c)), eqS (vF (true && ((true && true) == true)) (.int .i64 (((nr : Nat) : Int)))), eqS (vF (true && ((true && true) == true)) (.int .i64 (((nr + 1 : Nat) : Int)))), eqS (vF (true && ((true && true) == true)) (.slice (some ⟨gN, 0, none⟩) (nr + 1) y.c)), eqS (vF (true && ((true && true) == true)) (.pointer (some ⟨gd, 256, none⟩))), eqS (vF (true && ((true && true) == true)) (.slice x.A nr x.c)), eqS (vF (true && ((true && true) == true)) (.int .i64 (((nr : Nat) : Int)))), eqS (vF (true && ((true && true) == true)) (.pointer (some ⟨gN, 0 + nr * 1, none⟩))), eqS (vF (true && ((true && true) == true)) (.slice rz.a 1 rz.c)), eqS (vF (true && ((true && true) == true)) (.int .i64 (((1 : Nat) : Int)))), eqS (vF (true && ((true && true) == true)) (.bool true)), eqS (.bool ((true && true) && true)), eqS (.bool ((true && true) && true))] [39, 40, 41, 42, 43, 44, 45, 46, 47, 48, 49, 50, 51, 52, 53, 54, 55, 56, 57, 58, 59, 60, 61, 62, 63, 64, 65, 66, 67, 68, 69, 70, 71, 72, 73, 74, 75, 76, 77, 78, 79, 80, 81, 82, 4] rfl (by kernel_rfl) rfl ?_ ?_
      · skip
        refine Steps.cons (fun a' w' hG hB dep => gs_field (want_none rfl) _ _ _ rfl gy (0) (257) (hG.other 2 rfl) (fun wz => field_dfa_2 gy (0) wz) rfl) ?_
        refine Steps.cons (fun a' w' hG hB dep => gs_load1 (want_none rfl) _ _ rfl gy (257) (dep 0 rfl 39 rfl) (.slice (some ⟨gF, 0, none⟩) nf y.d) (by have h9 := blk_d2 (blk_then hy hB); rw [hYB.out, hnf.out] at h9; exact h9) _ Try.underlying32 rfl rfl) ?_
        refine Steps.cons (fun a' w' hG hB dep => gs_field (want_none rfl) _ _ _ rfl gd (0) (257) (hG.other 3 rfl) (fun wz => field_dfa_2 gd (0) wz) rfl) ?_
        refine Steps.cons (fun a' w' hG hB dep => gs_load1 (want_none rfl) _ _ rfl gd (257) (dep 2 rfl 41 rfl) (.slice x.B nf x.d) (by have h9 := blk_d2 (blk_then hd hB); rw [hnf2.out] at h9; exact h9) _ Try.underlying32 rfl rfl) ?_
        refine Steps.cons (fun a' w' hG hB dep => gs_len (want_none rfl) _ _ rfl under_rules _ nf x.d (dep 3 rfl 42 rfl) rfl) ?_
        refine Steps.cons (fun a' w' hG hB dep => gs_add_nat (want_none rfl) _ _ _ _ rfl nf 1 (nf + 1) (dep 4 rfl 43 rfl) rfl rfl (by omega) rfl) ?_
        refine Steps.cons (fun a' w' hG hB dep => gs_slice_to (want_none rfl) _ _ _ rfl under_rules 1 size_ruleE ⟨gF, 0, none⟩ nf y.d (nf + 1) (dep 1 rfl 40 rfl) (dep 5 rfl 44 rfl) hcF rfl) ?_
        refine Steps.cons (fun a' w' hG hB dep => gs_field (want_none rfl) _ _ _ rfl gd (0) (257) (hG.other 3 rfl) (fun wz => field_dfa_2 gd (0) wz) rfl) ?_
        refine Steps.cons (fun a' w' hG hB dep => gs_load1 (want_none rfl) _ _ rfl gd (257) (dep 7 rfl 46 rfl) (.slice x.B nf x.d) (by have h9 := blk_d2 (blk_then hd hB); rw [hnf2.out] at h9; exact h9) _ Try.underlying32 rfl rfl) ?_
        refine Steps.cons (fun a' w' hG hB dep => gs_len (want_none rfl) _ _ rfl under_rules _ nf x.d (dep 8 rfl 47 rfl) rfl) ?_
        refine Steps.cons (fun a' w' hG hB dep => gs_index (want_none rfl) _ _ _ rfl under_rules 1 size_ruleE gF 0 (nf + 1) y.d (nf) (dep 6 rfl 45 rfl) (dep 9 rfl 48 rfl) (Nat.lt_succ_self _) rfl) ?_
        refine Steps.cons (fun a' w' hG hB dep => gs_load1 (want_none rfl) _ _ rfl gF (0 + nf * 1) (dep 10 rfl 49 rfl) (.int .u32 (77)) (hF77 _ (below_then hB2 hB)) _ Try.underlying55 rfl rfl) ?_
        refine Steps.cons (fun a' w' hG hB dep => gs_eql_int (want_none rfl) _ _ _ _ rfl _ _ _ (dep 11 rfl 50 rfl) rfl (id (congrArg Value.bool rfl))) ?_
        refine Steps.cons (fun a' w' hG hB dep => gs_move (want_none rfl) _ rfl (id (dep 12 rfl 51 rfl))) ?_
        refine Steps.cons (fun a' w' hG hB dep => gs_guard (c := true) (b' := true) rfl rfl (dep 13 rfl 52 rfl) (fun hc he hw => gs_field hw _ _ _ rfl gy (0) (258) (hG.other 2 rfl) (fun wz => field_dfa_3 gy (0) wz) (vF_yes (on_g hc he) _).symm) (fun hn => vF_no hn _)) ?_
        refine Steps.cons (fun a' w' hG hB dep => gs_guard (c := true) (b' := true) rfl rfl (dep 13 rfl 52 rfl) (fun hc he hw => gs_load1 hw _ _ rfl gy (258) (Eq.trans (dep 14 rfl 53 rfl) (vF_yes (on_g hc he) _)) (.slice (some ⟨gE, 0, none⟩) ne y.e) (by have h9 := blk_d3 (blk_then hy hB); rw [hYC.out, hne.out] at h9; exact h9) _ Try.underlying32 rfl (vF_yes (on_g hc he) _).symm) (fun hn => vF_no hn _)) ?_
        refine Steps.cons (fun a' w' hG hB dep => gs_guard (c := true) (b' := true) rfl rfl (dep 13 rfl 52 rfl) (fun hc he hw => gs_field hw _ _ _ rfl gd (0) (258) (hG.other 3 rfl) (fun wz => field_dfa_3 gd (0) wz) (vF_yes (on_g hc he) _).symm) (fun hn => vF_no hn _)) ?_
        refine Steps.cons (fun a' w' hG hB dep => gs_guard (c := true) (b' := true) rfl rfl (dep 13 rfl 52 rfl) (fun hc he hw => gs_load1 hw _ _ rfl gd (258) (Eq.trans (dep 16 rfl 55 rfl) (vF_yes (on_g hc he) _)) (.slice x.C ne x.e) (by have h9 := blk_d3 (blk_then hd hB); rw [hne2.out] at h9; exact h9) _ Try.underlying32 rfl (vF_yes (on_g hc he) _).symm) (fun hn => vF_no hn _)) ?_
        refine Steps.cons (fun a' w' hG hB dep => gs_guard (c := true) (b' := true) rfl rfl (dep 13 rfl 52 rfl) (fun hc he hw => gs_len hw _ _ rfl under_rules _ ne x.e (Eq.trans (dep 17 rfl 56 rfl) (vF_yes (on_g hc he) _)) (vF_yes (on_g hc he) _).symm) (fun hn => vF_no hn _)) ?_
        refine Steps.cons (fun a' w' hG hB dep => gs_guard (c := true) (b' := true) rfl rfl (dep 13 rfl 52 rfl) (fun hc he hw => gs_add_nat hw _ _ _ _ rfl ne 1 (ne + 1) (Eq.trans (dep 18 rfl 57 rfl) (vF_yes (on_g hc he) _)) rfl rfl (by omega) (vF_yes (on_g hc he) _).symm) (fun hn => vF_no hn _)) ?_
        refine Steps.cons (fun a' w' hG hB dep => gs_guard (c := true) (b' := true) rfl rfl (dep 13 rfl 52 rfl) (fun hc he hw => gs_slice_to hw _ _ _ rfl under_rules 1 size_ruleE ⟨gE, 0, none⟩ ne y.e (ne + 1) (Eq.trans (dep 15 rfl 54 rfl) (vF_yes (on_g hc he) _)) (Eq.trans (dep 19 rfl 58 rfl) (vF_yes (on_g hc he) _)) hcE (vF_yes (on_g hc he) _).symm) (fun hn => vF_no hn _)) ?_
        refine Steps.cons (fun a' w' hG hB dep => gs_guard (c := true) (b' := true) rfl rfl (dep 13 rfl 52 rfl) (fun hc he hw => gs_field hw _ _ _ rfl gd (0) (258) (hG.other 3 rfl) (fun wz => field_dfa_3 gd (0) wz) (vF_yes (on_g hc he) _).symm) (fun hn => vF_no hn _)) ?_
        refine Steps.cons (fun a' w' hG hB dep => gs_guard (c := true) (b' := true) rfl rfl (dep 13 rfl 52 rfl) (fun hc he hw => gs_load1 hw _ _ rfl gd (258) (Eq.trans (dep 21 rfl 60 rfl) (vF_yes (on_g hc he) _)) (.slice x.C ne x.e) (by have h9 := blk_d3 (blk_then hd hB); rw [hne2.out] at h9; exact h9) _ Try.underlying32 rfl (vF_yes (on_g hc he) _).symm) (fun hn => vF_no hn _)) ?_
        refine Steps.cons (fun a' w' hG hB dep => gs_guard (c := true) (b' := true) rfl rfl (dep 13 rfl 52 rfl) (fun hc he hw => gs_len hw _ _ rfl under_rules _ ne x.e (Eq.trans (dep 22 rfl 61 rfl) (vF_yes (on_g hc he) _)) (vF_yes (on_g hc he) _).symm) (fun hn => vF_no hn _)) ?_
        refine Steps.cons (fun a' w' hG hB dep => gs_guard (c := true) (b' := true) rfl rfl (dep 13 rfl 52 rfl) (fun hc he hw => gs_index hw _ _ _ rfl under_rules 1 size_ruleE gE 0 (ne + 1) y.e (ne) (Eq.trans (dep 20 rfl 59 rfl) (vF_yes (on_g hc he) _)) (Eq.trans (dep 23 rfl 62 rfl) (vF_yes (on_g hc he) _)) (Nat.lt_succ_self _) (vF_yes (on_g hc he) _).symm) (fun hn => vF_no hn _)) ?_
        refine Steps.cons (fun a' w' hG hB dep => gs_guard (c := true) (b' := true) rfl rfl (dep 13 rfl 52 rfl) (fun hc he hw => gs_load1 hw _ _ rfl gE (0 + ne * 1) (Eq.trans (dep 24 rfl 63 rfl) (vF_yes (on_g hc he) _)) (.int .u32 (77)) (hE77 _ (below_then hB2 hB)) _ Try.underlying55 rfl (vF_yes (on_g hc he) _).symm) (fun hn => vF_no hn _)) ?_
        refine Steps.cons (fun a' w' hG hB dep => gs_guard (c := true) (b' := true) rfl rfl (dep 13 rfl 52 rfl) (fun hc he hw => gs_eql_int hw _ _ _ _ rfl _ _ _ (Eq.trans (dep 25 rfl 64 rfl) (vF_yes (on_g hc he) _)) rfl (Eq.trans (congrArg Value.bool rfl) (vF_yes (on_g hc he) _).symm)) (fun hn => vF_no hn _)) ?_
        refine Steps.cons (fun a' w' hG hB dep => gs_pick (want_none rfl) _ _ _ rfl true (dep 13 rfl 52 rfl) (id (pick_and2 (c := true) rfl (dep 26 rfl 65 rfl)))) ?_
        refine Steps.cons (fun a' w' hG hB dep => gs_move (want_none rfl) _ rfl (id (dep 27 rfl 66 rfl))) ?_
        refine Steps.cons (fun a' w' hG hB dep => gs_guard (c := true) (b' := (true && true)) rfl rfl (dep 28 rfl 67 rfl) (fun hc he hw => gs_field hw _ _ _ rfl gy (0) (256) (hG.other 2 rfl) (fun wz => field_dfa_1 gy (0) wz) (vF_yes (on_g hc he) _).symm) (fun hn => vF_no hn _)) ?_
        refine Steps.cons (fun a' w' hG hB dep => gs_guard (c := true) (b' := (true && true)) rfl rfl (dep 28 rfl 67 rfl) (fun hc he hw => gs_load1 hw _ _ rfl gy (256) (Eq.trans (dep 29 rfl 68 rfl) (vF_yes (on_g hc he) _)) (.slice (some ⟨gN, 0, none⟩) nr y.c) (by have h9 := blk_d1 (blk_then hy hB); rw [hYN.out, hnr.out] at h9; exact h9) _ Try.underlying45 rfl (vF_yes (on_g hc he) _).symm) (fun hn => vF_no hn _)) ?_
        refine Steps.cons (fun a' w' hG hB dep => gs_guard (c := true) (b' := (true && true)) rfl rfl (dep 28 rfl 67 rfl) (fun hc he hw => gs_field hw _ _ _ rfl gd (0) (256) (hG.other 3 rfl) (fun wz => field_dfa_1 gd (0) wz) (vF_yes (on_g hc he) _).symm) (fun hn => vF_no hn _)) ?_
        refine Steps.cons (fun a' w' hG hB dep => gs_guard (c := true) (b' := (true && true)) rfl rfl (dep 28 rfl 67 rfl) (fun hc he hw => gs_load1 hw _ _ rfl gd (256) (Eq.trans (dep 31 rfl 70 rfl) (vF_yes (on_g hc he) _)) (.slice x.A nr x.c) (by have h9 := blk_d1 (blk_then hd hB); rw [hnr2.out] at h9; exact h9) _ Try.underlying45 rfl (vF_yes (on_g hc he) _).symm) (fun hn => vF_no hn _)) ?_
        refine Steps.cons (fun a' w' hG hB dep => gs_guard (c := true) (b' := (true && true)) rfl rfl (dep 28 rfl 67 rfl) (fun hc he hw => gs_len hw _ _ rfl under_rows _ nr x.c (Eq.trans (dep 32 rfl 71 rfl) (vF_yes (on_g hc he) _)) (vF_yes (on_g hc he) _).symm) (fun hn => vF_no hn _)) ?_
        refine Steps.cons (fun a' w' hG hB dep => gs_guard (c := true) (b' := (true && true)) rfl rfl (dep 28 rfl 67 rfl) (fun hc he hw => gs_add_nat hw _ _ _ _ rfl nr 1 (nr + 1) (Eq.trans (dep 33 rfl 72 rfl) (vF_yes (on_g hc he) _)) rfl rfl (by omega) (vF_yes (on_g hc he) _).symm) (fun hn => vF_no hn _)) ?_
        refine Steps.cons (fun a' w' hG hB dep => gs_guard (c := true) (b' := (true && true)) rfl rfl (dep 28 rfl 67 rfl) (fun hc he hw => gs_slice_to hw _ _ _ rfl under_rows 1 size_rowE ⟨gN, 0, none⟩ nr y.c (nr + 1) (Eq.trans (dep 30 rfl 69 rfl) (vF_yes (on_g hc he) _)) (Eq.trans (dep 34 rfl 73 rfl) (vF_yes (on_g hc he) _)) hcN (vF_yes (on_g hc he) _).symm) (fun hn => vF_no hn _)) ?_
        refine Steps.cons (fun a' w' hG hB dep => gs_guard (c := true) (b' := (true && true)) rfl rfl (dep 28 rfl 67 rfl) (fun hc he hw => gs_field hw _ _ _ rfl gd (0) (256) (hG.other 3 rfl) (fun wz => field_dfa_1 gd (0) wz) (vF_yes (on_g hc he) _).symm) (fun hn => vF_no hn _)) ?_
        refine Steps.cons (fun a' w' hG hB dep => gs_guard (c := true) (b' := (true && true)) rfl rfl (dep 28 rfl 67 rfl) (fun hc he hw => gs_load1 hw _ _ rfl gd (256) (Eq.trans (dep 36 rfl 75 rfl) (vF_yes (on_g hc he) _)) (.slice x.A nr x.c) (by have h9 := blk_d1 (blk_then hd hB); rw [hnr2.out] at h9; exact h9) _ Try.underlying45 rfl (vF_yes (on_g hc he) _).symm) (fun hn => vF_no hn _)) ?_
        refine Steps.cons (fun a' w' hG hB dep => gs_guard (c := true) (b' := (true && true)) rfl rfl (dep 28 rfl 67 rfl) (fun hc he hw => gs_len hw _ _ rfl under_rows _ nr x.c (Eq.trans (dep 37 rfl 76 rfl) (vF_yes (on_g hc he) _)) (vF_yes (on_g hc he) _).symm) (fun hn => vF_no hn _)) ?_
        refine Steps.cons (fun a' w' hG hB dep => gs_guard (c := true) (b' := (true && true)) rfl rfl (dep 28 rfl 67 rfl) (fun hc he hw => gs_index hw _ _ _ rfl under_rows 1 size_rowE gN 0 (nr + 1) y.c (nr) (Eq.trans (dep 35 rfl 74 rfl) (vF_yes (on_g hc he) _)) (Eq.trans (dep 38 rfl 77 rfl) (vF_yes (on_g hc he) _)) (Nat.lt_succ_self _) (vF_yes (on_g hc he) _).symm) (fun hn => vF_no hn _)) ?_
        refine Steps.cons (fun a' w' hG hB dep => gs_guard (c := true) (b' := (true && true)) rfl rfl (dep 28 rfl 67 rfl) (fun hc he hw => gs_load1 hw _ _ rfl gN (0 + nr * 1) (Eq.trans (dep 39 rfl 78 rfl) (vF_yes (on_g hc he) _)) (.slice rz.a 1 rz.c) (hN77 _ (below_then hB2 hB)) _ Try.underlying57 rfl (vF_yes (on_g hc he) _).symm) (fun hn => vF_no hn _)) ?_
        refine Steps.cons (fun a' w' hG hB dep => gs_guard (c := true) (b' := (true && true)) rfl rfl (dep 28 rfl 67 rfl) (fun hc he hw => gs_len hw _ _ rfl under_ints _ 1 rz.c (Eq.trans (dep 40 rfl 79 rfl) (vF_yes (on_g hc he) _)) (vF_yes (on_g hc he) _).symm) (fun hn => vF_no hn _)) ?_
        refine Steps.cons (fun a' w' hG hB dep => gs_guard (c := true) (b' := (true && true)) rfl rfl (dep 28 rfl 67 rfl) (fun hc he hw => gs_eql_int hw _ _ _ _ rfl _ _ _ (Eq.trans (dep 41 rfl 80 rfl) (vF_yes (on_g hc he) _)) rfl (Eq.trans (congrArg Value.bool rfl) (vF_yes (on_g hc he) _).symm)) (fun hn => vF_no hn _)) ?_
        refine Steps.cons (fun a' w' hG hB dep => gs_pick (want_none rfl) _ _ _ rfl (true && true) (dep 28 rfl 67 rfl) (id (pick_and2 (c := true) rfl (dep 42 rfl 81 rfl)))) ?_
        refine Steps.cons (fun a' w' hG hB dep => gs_assign (want_none rfl) _ rfl (id (dep 43 rfl 82 rfl))) ?_
        exact Steps.nil
      intro u wz hwz ans
      have hus4 : u 4 = (.bool ((true && true) && true)) := ans 44 4 (by decide) rfl
      clear ans
      simp only [putAll, List.foldl_cons, List.foldl_nil, Act.put, List.setIfInBounds_toArray, List.set_cons_zero, List.set_cons_succ, hus4]
      clear hus4
      simp only [List.drop]
      refine wpList_nil ?_
      replace hB2 := below_then hB2 hwz
      have he5 : ((true && true) && true) = true := rfl
      rw [he5]
      go_wp2_with (fail)
      go_ret
      exact ⟨rfl, below_then hB1 hB2⟩
theorem enter_kep (args : Array Value) (w : World) : (callFunc 24 args).run Try.prog w = .ok (.enter 24 args) w := by kernel_rfl
end Go.Proofs.Ytgahdookojbbiaa
