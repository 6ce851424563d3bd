/- heronref11.classes: of each byte its class, by where it leads the states that are met. No condition beyond those named in each lemma. -/
import Derived.Test.YtgahdookojbbiaaLKinds
import Derived.Test.YtgahdookojbbiaaMark
namespace Go.Proofs.Ytgahdookojbbiaa
open Go.RowKit Go.Maps
set_option linter.unusedVariables false
set_option linter.unusedSimpArgs false
attribute [local go_sem] Oper.semAt_some

theorem clsC_put (new old : Nat → Int) (n : Nat) (v : Int) (h : v = new n) : (clsC (upto n new old)).setIfInBounds n (.int .i64 v) = clsC (upto (n + 1) new old) := by
  rw [clsC_set, upto_put new old n v h]
theorem upto_put2 (new old : Nat → Int) (n : Nat) (u v : Int) (h : v = new n) : putN (putN (upto n new old) n u) n v = upto (n + 1) new old := by
  rw [putN_put, upto_put new old n v h]
theorem blk_clsv {w : World} {g b : Nat} {f : Nat → Int} (h : Blk w g 44 (clsC f)) (hb : b < 256) : w.cell? ⟨g, b, none⟩ = some (.int .i64 (f b)) := h.cellv (clsC_at f b hb)
section
variable {ops : Array Oper} {rest : List Oper} {o : Oper} {a : Act} {w : World} {Q : Exit → Act → World → Prop}
theorem wl_set_cls (hgd : o.guard = none) (x y : Operand) (ho : o.op = .store 3 x y)
    (g i : Nat) (hx : a.eval x = .pointer (some ⟨g, i, none⟩)) (v : Int) (hy : a.eval y = .int .i64 v) (f : Nat → Int) (hb : Blk w g 44 (clsC f)) (hi : i < 256)
    (h : ∀ w', Blk w' g 44 (clsC (putN f i v)) → w.grownBy w' (some g) → wpList Try.prog ops Q rest (a.put o.dst undef) w') : wpList Try.prog ops Q (o :: rest) a w :=
  wl_store_cell hgd _ x y ho g i hx _ _ _ hb (by rw [clsC_size]; exact hi) info_intS (by rw [hy]; rfl) (by rw [hy]; rfl) (by rw [hy]; exact clsC_set f i v) h
theorem ret_cls {fn : Func} {p u : Tmp} {g : Nat} {y : Nat → Int} (hres : fn.results = #[.cell p 44, .tmp u])
    (hp : a.tmps.getD p undef = .pointer (some ⟨g, 0, none⟩)) (hb : Blk w g 44 (clsC y))
    (hdf : a.defers = []) {R : Ending → World → Prop} (hR : R (.returned (.tuple #[.agg (clsC y), a.tmps.getD u undef])) w) : bodyPost Try.prog fn R .ret a w :=
  ret_cell2 hres _ hp hb Try.underlying44 rfl (info_cls.trans (by rw [clsC_size])) hdf hR
end
section
variable {α : Type} [DecidableEq α] (f : Nat → α) (j : Nat)
theorem len_old (h : f j ∈ firsts f j) : (firsts f (j + 1)).length = (firsts f j).length := by rw [firsts_succ, if_pos h]
theorem num_lt_old (h : f j ∈ firsts f j) : num f j < (firsts f j).length := by rw [num_old f j h]; exact List.idxOf_lt_length_of_mem h
theorem len_new (h : ¬ f j ∈ firsts f j) : (firsts f (j + 1)).length = (firsts f j).length + 1 := by rw [firsts_succ, if_neg h]; simp
end
set_option maxRecDepth 100000 in
set_option maxHeartbeats 4000000 in
theorem rclasses_any (x : TV) (hF : Fits x.T) (K : Nat → Int) (p : Nat → Bool) (gk gi : Nat) (w : World) (hT : TabIn w w.heap.size x) (hk : Blk w gk 3 (arr eZ x.rs.length K)) (hi : Blk w gi 4 (arr eB x.rs.length p)) (hp : ∀ s, s < x.rs.length → (p s = true ↔ Reach x.T.au s)) :
    Calls Try.prog 47 #[.agg x.C', .slice (some ⟨gk, 0, none⟩) x.rs.length x.rs.length, .slice (some ⟨gi, 0, none⟩) x.rs.length x.rs.length] w fun e w' => e = .returned (.tuple #[.agg (clsC fun b => (num (vec x.T.au K) b : Nat)), .int .i64 ((firsts (vec x.T.au K) 256).length : Nat)]) ∧ Below w.heap.size w w' := by
  have n1 : 1 ≤ x.rs.length := by have := hF.n1; rwa [fits_n] at this
  have n2 : x.rs.length ≤ 4096 := by have := hF.n2; rwa [fits_n] at this
  unfold TV.C'
  have hok := hF.ok
  have hAn : x.T.au.n = x.rs.length := fits_n
  have hz := zero_cls
  go_enter Try.func47, Try.ntmps47
  obtain ⟨A, hA⟩ : ∃ A, A = x.A := ⟨_, rfl⟩
  have h1 := ((Blk.new w 47 (dfaC x.f x.A x.rs.length x.c x.B x.fo.length x.d x.C x.en.length x.e)).alloc (.cells (clsC fun _ => 0) 44)).alloc (.cells (clsC fun _ => 0) 44)
  have hB1 := below_alloc (below_alloc (below_alloc (Below.refl w.heap.size w) (.cells (dfaC x.f x.A x.rs.length x.c x.B x.fo.length x.d x.C x.en.length x.e) 47)) (.cells (clsC fun _ => 0) 44)) (.cells (clsC fun _ => 0) 44)
  have hr : Blk (((w.alloc (.cells (dfaC x.f x.A x.rs.length x.c x.B x.fo.length x.d x.C x.en.length x.e) 47)).alloc (.cells (clsC fun _ => 0) 44)).alloc (.cells (clsC fun _ => 0) 44)) (w.heap.size + 1) 44 (clsC fun _ => 0) := (Blk.new' _ _ _ (World.size_alloc _ _).symm).alloc _
  have hc : Blk (((w.alloc (.cells (dfaC x.f x.A x.rs.length x.c x.B x.fo.length x.d x.C x.en.length x.e) 47)).alloc (.cells (clsC fun _ => 0) 44)).alloc (.cells (clsC fun _ => 0) 44)) (w.heap.size + 2) 44 (clsC fun _ => 0) := Blk.new' _ _ _ (by simp)
  go_upto_region 2 with (fail)
  clear hz
  obtain ⟨w1, hw1⟩ : ∃ y, y = ((w.alloc (.cells (dfaC x.f x.A x.rs.length x.c x.B x.fo.length x.d x.C x.en.length x.e) 47)).alloc (.cells (clsC fun _ => 0) 44)).alloc (.cells (clsC fun _ => 0) 44) := ⟨_, rfl⟩
  rw [← hw1] at h1 hB1 hr hc ⊢
  have hgk := hk.lt
  have hgi := hi.lt
  replace hk := blk_then hk hB1
  replace hi := blk_then hi hB1
  clear hw1
  obtain ⟨gr, hgr⟩ : ∃ g, g = w.heap.size + 1 := ⟨_, rfl⟩
  obtain ⟨gc, hgc⟩ : ∃ g, g = w.heap.size + 2 := ⟨_, rfl⟩
  try rw [show w.heap.size + 1 + 1 = w.heap.size + 2 from rfl]
  rw [← hgr] at hr ⊢
  rw [← hgc] at hc ⊢
  have hgw : w.heap.size ≤ gc := by omega
  have e1 : w.heap.size ≠ gc := by omega
  have e2 : gk ≠ gc := by omega
  have e3 : gi ≠ gc := by omega
  have e4 : gr ≠ gc := by omega
  have e5 : gr ≠ w.heap.size := by omega
  have hgrw : w.heap.size ≤ gr := by omega
  clear hgr hgc hgk hgi
  go_upto_region 4 with (fail)
  go_loopw [10, 9] (fun bv mv wr => ∃ b : Nat, b ≤ 256 ∧ bv = .int .i64 b ∧ mv = .int .i64 ((firsts (vec x.T.au K) b).length : Nat) ∧ Below w.heap.size w wr ∧ Blk wr w.heap.size 47 (dfaC x.f x.A x.rs.length x.c x.B x.fo.length x.d x.C x.en.length x.e) ∧ Blk wr gk 3 (arr eZ x.rs.length K) ∧ Blk wr gi 4 (arr eB x.rs.length p) ∧ Blk wr gr 44 (clsC fun _ => 0) ∧ Blk wr gc 44 (clsC (upto b (fun b => (num (vec x.T.au K) b : Nat)) (fun _ => 0)))) (fun bv _ _ => 256 - (intOf bv).toNat)
  case atStart => exact ⟨0, by omega, rfl, rfl, hB1, h1, hk, hi, hr, by rw [upto_zero]; exact hc⟩
  case round =>
    clear h1 hB1 hk hi hr hc
    obtain ⟨b, hbl, rfl, rfl, hB1, h1, hk, hi, hr, hc⟩ := hrel
    by_cases hb2 : b < 256
    · have hbI : (b : Int) < 256 := by omega
      go_upto_region 7 with (refine wl_set_cls rfl _ _ rfl gc b rfl _ rfl _ hc hb2 ?_; intro w2 hc2 hG2)
      replace hB1 := below_grown hB1 hG2 hgw
      replace h1 := blk_grown h1 hG2 e1
      replace hk := blk_grown hk hG2 e2
      replace hi := blk_grown hi hG2 e3
      replace hr := blk_grown hr hG2 e4
      clear hc hG2
      go_upto_region 8 with (fail)
      go_loopw [11] (fun av wr => ∃ a : Nat, a ≤ b ∧ av = .int .i64 a ∧ Below w.heap.size w wr ∧ Blk wr w.heap.size 47 (dfaC x.f x.A x.rs.length x.c x.B x.fo.length x.d x.C x.en.length x.e) ∧ Blk wr gk 3 (arr eZ x.rs.length K) ∧ Blk wr gi 4 (arr eB x.rs.length p) ∧ Blk wr gr 44 (clsC fun _ => 0) ∧ Blk wr gc 44 (clsC (putN (upto b (fun b => (num (vec x.T.au K) b : Nat)) (fun _ => 0)) b ((firsts (vec x.T.au K) b).length : Nat))) ∧ ∀ j, j < a → vec x.T.au K j ≠ vec x.T.au K b) (fun av _ => 256 - (intOf av).toNat)
      case atStart => exact ⟨0, by omega, rfl, hB1, h1, hk, hi, hr, hc2, fun j hj => by omega⟩
      case round =>
        clear h1 hB1 hk hi hr hc2
        obtain ⟨a, hab, rfl, hB1, h1, hk, hi, hr, hc, hall⟩ := hrel
        replace hall := Lib.hid hall
        by_cases ha : a < b
        · have haI : (a : Int) < b := by omega
          have ha2 : a < 256 := by omega
          go_upto_region 12 with (fail)
          go_loopw [13, 12] (fun sv mv wr => ∃ (s : Nat) (same : Bool), s ≤ x.rs.length ∧ sv = .int .i64 s ∧ mv = .bool same ∧ Below w.heap.size w wr ∧ Blk wr w.heap.size 47 (dfaC x.f x.A x.rs.length x.c x.B x.fo.length x.d x.C x.en.length x.e) ∧ Blk wr gk 3 (arr eZ x.rs.length K) ∧ Blk wr gi 4 (arr eB x.rs.length p) ∧ Blk wr gr 44 (clsC fun _ => 0) ∧ Blk wr gc 44 (clsC (putN (upto b (fun b => (num (vec x.T.au K) b : Nat)) (fun _ => 0)) b ((firsts (vec x.T.au K) b).length : Nat))) ∧ (same = true ↔ ∀ j, j < s → Reach x.T.au j → K (x.T.au.go j a) = K (x.T.au.go j b))) (fun sv _ _ => x.rs.length - (intOf sv).toNat)
          case atStart => exact ⟨0, true, by omega, rfl, rfl, hB1, h1, hk, hi, hr, hc, ⟨fun _ j hj => by omega, fun _ => rfl⟩⟩
          case round =>
            clear h1 hB1 hk hi hr hc
            obtain ⟨s, same, hsn, rfl, rfl, hB1, h1, hk, hi, hr, hc, hsm⟩ := hrel
            by_cases hsl : s < x.rs.length
            · have hsI : (s : Int) < x.rs.length := by omega
              replace hsm := Lib.hid hsm
              go_upto_region 14 with (fail)
              have hyl : x.T.au.go s a < x.rs.length := by rw [← hAn]; exact hok.lt s a (by rw [hAn]; exact hsl) ha2
              have hzl : x.T.au.go s b < x.rs.length := by rw [← hAn]; exact hok.lt s b (by rw [hAn]; exact hsl) hb2
              obtain ⟨y, hy⟩ : ∃ y, x.T.au.go s a = y := ⟨_, rfl⟩
              obtain ⟨z, hz⟩ : ∃ z, x.T.au.go s b = z := ⟨_, rfl⟩
              rw [hy] at hyl
              rw [hz] at hzl
              replace hy := Lib.hid hy
              replace hz := Lib.hid hz
              have hTX : ∀ {X : World}, Below wr.heap.size wr X → TabIn X X.heap.size x := fun hB => hT.then_ (below_then hB1 hB)
              obtain ⟨q, hq⟩ : ∃ q, (K y != K z) = q := ⟨_, rfl⟩
              refine wp_region_steps 21 [eqS (.slice (some ⟨gi, 0, none⟩) x.rs.length x.rs.length), eqS (.int .i64 (((s : Nat) : Int))), eqS (.pointer (some ⟨gi, 0 + s * 1, none⟩)), eqS (.bool (p s)), eqS (.bool (p s)), eqS (vF (true && ((p s) == true)) (.slice (some ⟨gk, 0, none⟩) x.rs.length x.rs.length)), eqS (vF (true && ((p s) == true)) (.agg (dfaC x.f x.A x.rs.length x.c x.B x.fo.length x.d x.C x.en.length x.e))), eqS (vF (true && ((p s) == true)) (.int .i64 (((s : Nat) : Int)))), eqS (vF (true && ((p s) == true)) (.int .i64 (((a : Nat) : Int)))), eqS (vF (true && ((p s) == true)) (.int .i64 (((y : Nat) : Int)))), eqS (vF (true && ((p s) == true)) (.pointer (some ⟨gk, 0 + y * 1, none⟩))), eqS (vF (true && ((p s) == true)) (.int .i64 ((K y)))), eqS (vF (true && ((p s) == true)) (.slice (some ⟨gk, 0, none⟩) x.rs.length x.rs.length)), eqS (vF (true && ((p s) == true)) (.agg (dfaC x.f x.A x.rs.length x.c x.B x.fo.length x.d x.C x.en.length x.e))), eqS (vF (true && ((p s) == true)) (.int .i64 (((s : Nat) : Int)))), eqS (vF (true && ((p s) == true)) (.int .i64 (((b : Nat) : Int)))), eqS (vF (true && ((p s) == true)) (.int .i64 (((z : Nat) : Int)))), eqS (vF (true && ((p s) == true)) (.pointer (some ⟨gk, 0 + z * 1, none⟩))), eqS (vF (true && ((p s) == true)) (.int .i64 ((K z)))), eqS (vF (true && ((p s) == true)) (.bool q)), eqS (.bool ((p s) && q))] [32, 33, 34, 35, 36, 37, 38, 39, 40, 41, 42, 43, 44, 45, 46, 47, 48, 49, 50, 51, 52] rfl (by kernel_rfl) rfl ?_ ?_
              · skip
                refine Steps.cons (fun a' w' hG hB dep => gs_move (want_none rfl) _ rfl (id (hG.other 2 rfl))) ?_
                refine Steps.cons (fun a' w' hG hB dep => gs_move (want_none rfl) _ rfl (id (hG.other 13 rfl))) ?_
                refine Steps.cons (fun a' w' hG hB dep => gs_index (want_none rfl) _ _ _ rfl under_bools 1 size_boolE gi 0 x.rs.length x.rs.length (s) (dep 0 rfl 32 rfl) (dep 1 rfl 33 rfl) hsl rfl) ?_
                refine Steps.cons (fun a' w' hG hB dep => gs_load1 (want_none rfl) _ _ rfl gi (0 + s * 1) (dep 2 rfl 34 rfl) (.bool (p s)) (blk_arr (blk_then hi hB) hsl) _ Try.underlying4 rfl rfl) ?_
                refine Steps.cons (fun a' w' hG hB dep => gs_move (want_none rfl) _ rfl (id (dep 3 rfl 35 rfl))) ?_
                refine Steps.cons (fun a' w' hG hB dep => gs_guard (c := true) (b' := (p s)) rfl rfl (dep 4 rfl 36 rfl) (fun hc he hw => gs_move hw _ rfl (Eq.trans (hG.other 1 rfl) (vF_yes (on_g hc he) _).symm)) (fun hn => vF_no hn _)) ?_
                refine Steps.cons (fun a' w' hG hB dep => gs_guard (c := true) (b' := (p s)) rfl rfl (dep 4 rfl 36 rfl) (fun hc he hw => gs_load_dfa hw _ rfl w.heap.size (hG.other 3 rfl) (blk_then h1 hB) (vF_yes (on_g hc he) _).symm) (fun hn => vF_no hn _)) ?_
                refine Steps.cons (fun a' w' hG hB dep => gs_guard (c := true) (b' := (p s)) rfl rfl (dep 4 rfl 36 rfl) (fun hc he hw => gs_move hw _ rfl (Eq.trans (hG.other 13 rfl) (vF_yes (on_g hc he) _).symm)) (fun hn => vF_no hn _)) ?_
                refine Steps.cons (fun a' w' hG hB dep => gs_guard (c := true) (b' := (p s)) rfl rfl (dep 4 rfl 36 rfl) (fun hc he hw => gs_move hw _ rfl (Eq.trans (hG.other 11 rfl) (vF_yes (on_g hc he) _).symm)) (fun hn => vF_no hn _)) ?_
                refine Steps.cons (fun a' w' hG hB dep => gs_guard (c := true) (b' := (p s)) rfl rfl (dep 4 rfl 36 rfl) (fun hc he hw => gs_call hw _ _ _ rfl enter_goes _ (map3 (Eq.trans (dep 6 rfl 38 rfl) (vF_yes (on_g hc he) _)) (Eq.trans (dep 7 rfl 39 rfl) (vF_yes (on_g hc he) _)) (Eq.trans (dep 8 rfl 40 rfl) (vF_yes (on_g hc he) _))) ((goes_any x hF s a hsl ha2 w' (hTX hB)).mono fun e w2 ⟨hq1, hb⟩ => ⟨_, hq1, hb, by rw [hy.out]; exact (vF_yes (on_g hc he) _).symm⟩)) (fun hn => vF_no hn _)) ?_
                refine Steps.cons (fun a' w' hG hB dep => gs_guard (c := true) (b' := (p s)) rfl rfl (dep 4 rfl 36 rfl) (fun hc he hw => gs_index hw _ _ _ rfl under_ints 1 size_intE gk 0 x.rs.length x.rs.length (y) (Eq.trans (dep 5 rfl 37 rfl) (vF_yes (on_g hc he) _)) (Eq.trans (dep 9 rfl 41 rfl) (vF_yes (on_g hc he) _)) hyl (vF_yes (on_g hc he) _).symm) (fun hn => vF_no hn _)) ?_
                refine Steps.cons (fun a' w' hG hB dep => gs_guard (c := true) (b' := (p s)) rfl rfl (dep 4 rfl 36 rfl) (fun hc he hw => gs_load1 hw _ _ rfl gk (0 + y * 1) (Eq.trans (dep 10 rfl 42 rfl) (vF_yes (on_g hc he) _)) (.int .i64 ((K y))) (blk_arr (blk_then hk hB) hyl) _ Try.underlying3 rfl (vF_yes (on_g hc he) _).symm) (fun hn => vF_no hn _)) ?_
                refine Steps.cons (fun a' w' hG hB dep => gs_guard (c := true) (b' := (p s)) rfl rfl (dep 4 rfl 36 rfl) (fun hc he hw => gs_move hw _ rfl (Eq.trans (hG.other 1 rfl) (vF_yes (on_g hc he) _).symm)) (fun hn => vF_no hn _)) ?_
                refine Steps.cons (fun a' w' hG hB dep => gs_guard (c := true) (b' := (p s)) rfl rfl (dep 4 rfl 36 rfl) (fun hc he hw => gs_load_dfa hw _ rfl w.heap.size (hG.other 3 rfl) (blk_then h1 hB) (vF_yes (on_g hc he) _).symm) (fun hn => vF_no hn _)) ?_
                refine Steps.cons (fun a' w' hG hB dep => gs_guard (c := true) (b' := (p s)) rfl rfl (dep 4 rfl 36 rfl) (fun hc he hw => gs_move hw _ rfl (Eq.trans (hG.other 13 rfl) (vF_yes (on_g hc he) _).symm)) (fun hn => vF_no hn _)) ?_
                refine Steps.cons (fun a' w' hG hB dep => gs_guard (c := true) (b' := (p s)) rfl rfl (dep 4 rfl 36 rfl) (fun hc he hw => gs_move hw _ rfl (Eq.trans (hG.other 10 rfl) (vF_yes (on_g hc he) _).symm)) (fun hn => vF_no hn _)) ?_
                refine Steps.cons (fun a' w' hG hB dep => gs_guard (c := true) (b' := (p s)) rfl rfl (dep 4 rfl 36 rfl) (fun hc he hw => gs_call hw _ _ _ rfl enter_goes _ (map3 (Eq.trans (dep 13 rfl 45 rfl) (vF_yes (on_g hc he) _)) (Eq.trans (dep 14 rfl 46 rfl) (vF_yes (on_g hc he) _)) (Eq.trans (dep 15 rfl 47 rfl) (vF_yes (on_g hc he) _))) ((goes_any x hF s b hsl hb2 w' (hTX hB)).mono fun e w2 ⟨hq1, hb⟩ => ⟨_, hq1, hb, by rw [hz.out]; exact (vF_yes (on_g hc he) _).symm⟩)) (fun hn => vF_no hn _)) ?_
                refine Steps.cons (fun a' w' hG hB dep => gs_guard (c := true) (b' := (p s)) rfl rfl (dep 4 rfl 36 rfl) (fun hc he hw => gs_index hw _ _ _ rfl under_ints 1 size_intE gk 0 x.rs.length x.rs.length (z) (Eq.trans (dep 12 rfl 44 rfl) (vF_yes (on_g hc he) _)) (Eq.trans (dep 16 rfl 48 rfl) (vF_yes (on_g hc he) _)) hzl (vF_yes (on_g hc he) _).symm) (fun hn => vF_no hn _)) ?_
                refine Steps.cons (fun a' w' hG hB dep => gs_guard (c := true) (b' := (p s)) rfl rfl (dep 4 rfl 36 rfl) (fun hc he hw => gs_load1 hw _ _ rfl gk (0 + z * 1) (Eq.trans (dep 17 rfl 49 rfl) (vF_yes (on_g hc he) _)) (.int .i64 ((K z))) (blk_arr (blk_then hk hB) hzl) _ Try.underlying3 rfl (vF_yes (on_g hc he) _).symm) (fun hn => vF_no hn _)) ?_
                refine Steps.cons (fun a' w' hG hB dep => gs_guard (c := true) (b' := (p s)) rfl rfl (dep 4 rfl 36 rfl) (fun hc he hw => gs_neq_int hw _ _ _ _ rfl _ _ _ (Eq.trans (dep 11 rfl 43 rfl) (vF_yes (on_g hc he) _)) (Eq.trans (dep 18 rfl 50 rfl) (vF_yes (on_g hc he) _)) (Eq.trans (congrArg Value.bool hq) (vF_yes (on_g hc he) _).symm)) (fun hn => vF_no hn _)) ?_
                refine Steps.cons (fun a' w' hG hB dep => gs_pick (want_none rfl) _ _ _ rfl (p s) (dep 4 rfl 36 rfl) (id (pick_and2 (c := true) rfl (dep 19 rfl 51 rfl)))) ?_
                exact Steps.nil
              intro u w3 hw3 ans
              have hus52 : u 52 = (.bool (p s && q)) := ans 20 52 (by decide) rfl
              clear ans
              simp only [putAll, List.foldl_cons, List.foldl_nil, Act.put, List.setIfInBounds_toArray, List.set_cons_zero, List.set_cons_succ, hus52]
              clear hus52
              simp only [List.drop]
              refine wpList_nil ?_
              replace h1 := blk_then h1 hw3
              replace hk := blk_then hk hw3
              replace hi := blk_then hi hw3
              replace hc := blk_then hc hw3
              replace hr := blk_then hr hw3
              replace hB1 := below_then hB1 hw3
              clear hw3 hTX
              obtain ⟨r, hrr⟩ : ∃ r, (p s && q) = r := ⟨_, rfl⟩
              rw [hrr]
              have hiff : r = true ↔ Reach x.T.au s ∧ K (x.T.au.go s a) ≠ K (x.T.au.go s b) := by
                rw [← hrr, Bool.and_eq_true, hp s hsl, ← hq, bne_iff_ne, hy.out, hz.out]
              clear hrr hq
              cases r with
              | true =>
                have hsm2 : false = true ↔ ∀ j, j < s + 1 → Reach x.T.au j → K (x.T.au.go j a) = K (x.T.au.go j b) :=
                  ⟨fun h => (by cases h), fun h => absurd (h s (by omega) (hiff.1 rfl).1) (hiff.1 rfl).2⟩
                replace hsm2 := Lib.hid hsm2
                clear hiff hsm
                go_wp2_with (fail)
                exact ⟨⟨s + 1, false, by omega, rfl, rfl, hB1, h1, hk, hi, hr, hc, hsm2.out⟩, by simp only [intOf]; omega⟩
              | false =>
                have hsm2 : same = true ↔ ∀ j, j < s + 1 → Reach x.T.au j → K (x.T.au.go j a) = K (x.T.au.go j b) := by
                  rw [hsm.out]
                  refine ⟨fun h j hj hR => ?_, fun h j hj => h j (by omega)⟩
                  by_cases e : j = s
                  · subst e
                    exact Decidable.not_not.1 fun hne => by have := hiff.2 ⟨hR, hne⟩; cases this
                  · exact h j (by omega) hR
                replace hsm2 := Lib.hid hsm2
                clear hiff hsm
                go_wp2_with (fail)
                exact ⟨⟨s + 1, same, by omega, rfl, rfl, hB1, h1, hk, hi, hr, hc, hsm2.out⟩, by simp only [intOf]; omega⟩
            · have hsI : ¬ (s : Int) < x.rs.length := by omega
              have hse : s = x.rs.length := by omega
              have heq : same = true ↔ vec x.T.au K a = vec x.T.au K b := by
                rw [hsm, vec_eq hok]
                refine ⟨fun h s hs => h s ?_ hs, fun h s _ hs => h s hs⟩
                have := hs.lt hok
                rw [hAn] at this
                omega
              clear hsm hse
              cases same with
              | true =>
                have hv := num_iff (vec x.T.au K) a b
                have hvab : num (vec x.T.au K) a = num (vec x.T.au K) b := hv.2 (heq.1 rfl)
                replace hvab := Lib.hid hvab
                clear heq hv
                have cA : wr.cell? ⟨gc, a, none⟩ = some (.int .i64 (num (vec x.T.au K) b : Nat)) := by
                  have := blk_clsv hc ha2
                  rw [this]
                  unfold putN upto
                  rw [if_neg (by omega), if_pos ha]
                  simp only [hvab.out]
                go_upto_region 18 with (refine wl_set_cls rfl _ _ rfl gc b rfl _ rfl _ hc hb2 ?_; intro w9 hc9 hG9)
                rw [upto_put2 _ _ _ _ _ rfl] at hc9
                replace hB1 := below_grown hB1 hG9 hgw
                replace h1 := blk_grown h1 hG9 e1
                replace hk := blk_grown hk hG9 e2
                replace hi := blk_grown hi hG9 e3
                replace hr := blk_grown hr hG9 e4
                clear hc hG9 cA
                have hc := hc9
                clear hc9
                have hcb : w9.cell? ⟨gc, b, none⟩ = some (.int .i64 (num (vec x.T.au K) b : Nat)) := by
                  have := blk_clsv hc hb2
                  rw [this]
                  unfold upto
                  rw [if_pos (by omega)]
                clear hall
                by_cases hm : vec x.T.au K b ∈ firsts (vec x.T.au K) b
                · have hne : ¬ ((num (vec x.T.au K) b : Nat) : Int) = ((firsts (vec x.T.au K) b).length : Nat) := by
                    have h2 := num_lt_old _ _ hm
                    omega
                  have hlen := Lib.hid (len_old _ _ hm)
                  clear hm
                  go_wp2_with (fail)
                  exact ⟨⟨b + 1, by omega, rfl, by rw [hlen.out], hB1, h1, hk, hi, hr, hc⟩, by simp only [intOf]; omega⟩
                · have hne : ((num (vec x.T.au K) b : Nat) : Int) = ((firsts (vec x.T.au K) b).length : Nat) := by rw [num_new _ _ hm]
                  have hlen := Lib.hid (len_new _ _ hm)
                  clear hm
                  have hlb : (firsts (vec x.T.au K) b).length ≤ b := firsts_length_le _ _
                  go_wp2_with (fail)
                  exact ⟨⟨b + 1, by omega, rfl, by rw [hlen.out]; simp, hB1, h1, hk, hi, hr, hc⟩, by simp only [intOf]; omega⟩
                
              | false =>
                have hall2 : ∀ j, j < a + 1 → vec x.T.au K j ≠ vec x.T.au K b := fun j hj => by
                  by_cases e : j = a
                  · subst e
                    intro h
                    have := heq.2 h
                    cases this
                  · exact hall.out j (by omega)
                replace hall2 := Lib.hid hall2
                clear heq hall
                go_wp2_with (fail)
                exact ⟨⟨a + 1, by omega, rfl, hB1, h1, hk, hi, hr, hc, hall2.out⟩, by simp only [intOf]; omega⟩
        · have haI : ¬ (a : Int) < b := by omega
          have hnew : ¬ vec x.T.au K b ∈ firsts (vec x.T.au K) b := by
            rw [mem_firsts]
            rintro ⟨j, hj, e⟩
            exact hall.out j (by omega) e
          rw [← num_new _ _ hnew, upto_put _ _ _ _ rfl] at hc
          clear hnew
          obtain ⟨w9, hw9⟩ : ∃ y, y = wr := ⟨_, rfl⟩
          subst hw9
          go_upto_region 18 with (fail)
          have hcb : w9.cell? ⟨gc, b, none⟩ = some (.int .i64 (num (vec x.T.au K) b : Nat)) := by
            have := blk_clsv hc hb2
            rw [this]
            unfold upto
            rw [if_pos (by omega)]
          clear hall
          by_cases hm : vec x.T.au K b ∈ firsts (vec x.T.au K) b
          · have hne : ¬ ((num (vec x.T.au K) b : Nat) : Int) = ((firsts (vec x.T.au K) b).length : Nat) := by
              have h2 := num_lt_old _ _ hm
              omega
            have hlen := Lib.hid (len_old _ _ hm)
            clear hm
            go_wp2_with (fail)
            exact ⟨⟨b + 1, by omega, rfl, by rw [hlen.out], hB1, h1, hk, hi, hr, hc⟩, by simp only [intOf]; omega⟩
          · have hne : ((num (vec x.T.au K) b : Nat) : Int) = ((firsts (vec x.T.au K) b).length : Nat) := by rw [num_new _ _ hm]
            have hlen := Lib.hid (len_new _ _ hm)
            clear hm
            have hlb : (firsts (vec x.T.au K) b).length ≤ b := firsts_length_le _ _
            go_wp2_with (fail)
            exact ⟨⟨b + 1, by omega, rfl, by rw [hlen.out]; simp, hB1, h1, hk, hi, hr, hc⟩, by simp only [intOf]; omega⟩
          
    · have hbI : ¬ (b : Int) < 256 := by omega
      have hbe : b = 256 := by omega
      rw [hbe] at hc
      rw [upto_all] at hc
      have hlen : (firsts (vec x.T.au K) b).length = (firsts (vec x.T.au K) 256).length := by rw [hbe]
      replace hlen := Lib.hid hlen
      clear hbe
      go_wp2_with (first | (refine wl_load_cls rfl _ rfl _ rfl _ (RowAt.of_blk hc) ?_) | (refine wl_store_cls rfl _ _ rfl gr _ rfl rfl _ hr ?_; intro w9 hr9 hG9))
      refine ret_cls rfl rfl hr9 rfl ?_
      refine ⟨?_, below_grown hB1 hG9 hgrw⟩
      simp [hlen.out]
theorem enter_rclasses (args : Array Value) (w : World) : (callFunc 47 args).run Try.prog w = .ok (.enter 47 args) w := by kernel_rfl
end Go.Proofs.Ytgahdookojbbiaa
