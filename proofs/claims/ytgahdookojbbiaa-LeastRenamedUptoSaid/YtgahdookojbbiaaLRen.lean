/- heronlaw11.LeastRenamed answers true of any table. No condition beyond those named in each lemma. -/
import Derived.Test.YtgahdookojbbiaaLRen0
import Derived.Test.YtgahdookojbbiaaLLeast
namespace Go.Proofs.Ytgahdookojbbiaa
open Go.RowKit Go.Maps
set_option linter.unusedVariables false
set_option linter.unusedSimpArgs false
attribute [local go_sem] Oper.semAt_some

def cuN (b k : Nat) : Int := if k < b then 255 - (k : Int) else 0
theorem cuN_put (b : Nat) : putN (cuN b) b (255 - (b : Int)) = cuN (b + 1) := by
  funext k
  show (if k = b then _ else _) = _
  unfold cuN
  by_cases e : k = b
  · subst e; rw [if_pos rfl, if_pos (by omega)]
  · rw [if_neg e]
    by_cases h : k < b
    · rw [if_pos h, if_pos (by omega)]
    · rw [if_neg h, if_neg (by omega)]
set_option maxRecDepth 100000 in
set_option maxHeartbeats 4000000 in
theorem ren_any (x : TV) (w : World) (hT : TabIn w w.heap.size x) :
    Calls Try.prog 6 #[.agg x.C'] w fun e w' => e = .returned (.bool true) ∧ Below w.heap.size w w' := by
  have hR1 : ∀ W' : World, Below w.heap.size w W' → Calls Try.prog 28 #[.agg x.C'] W' fun e w2 => e = .returned (.bool (fitsB x.T)) ∧ Below W'.heap.size W' w2 := fun W' hB => right_any x W' (hT.then_ hB)
  unfold TV.C' at hR1 ⊢
  have hz0 := zero_dfa
  go_enter Try.func6, Try.ntmps6
  have hd := Blk.new w 47 (dfaC x.f x.A x.rs.length x.c x.B x.fo.length x.d x.C x.en.length x.e)
  have hB1 := below_alloc (Below.refl w.heap.size w) (.cells (dfaC x.f x.A x.rs.length x.c x.B x.fo.length x.d x.C x.en.length x.e) 47)
  go_upto_region 1 with (fail)
  obtain ⟨w1, hw1⟩ : ∃ y, y = w.alloc (.cells (dfaC x.f x.A x.rs.length x.c x.B x.fo.length x.d x.C x.en.length x.e) 47) := ⟨_, rfl⟩
  rw [← hw1] at hd hB1 ⊢
  clear hw1
  go_upto_region 3 with (go_at_call 19; refine (fixed_any w1).mono ?_; rintro e w2 ⟨rfl, hB2⟩)
  replace hd := blk_then hd hB2
  replace hB1 := below_then hB1 hB2
  clear hB2
  obtain ⟨gd, hgd⟩ : ∃ g, g = w.heap.size := ⟨_, rfl⟩
  rw [← hgd] at hd ⊢
  have hgdw : w.heap.size ≤ gd := by omega
  clear hgd
  replace hR1 : ∀ W' : World, Below w2.heap.size w2 W' → Calls Try.prog 28 #[.agg (dfaC x.f x.A x.rs.length x.c x.B x.fo.length x.d x.C x.en.length x.e)] W' fun e w2 => e = .returned (.bool (fitsB x.T)) ∧ Below W'.heap.size W' w2 := fun W' hB => hR1 W' (below_then hB1 hB)
  obtain ⟨p, hp⟩ : ∃ p, fitsB x.T = p := ⟨_, rfl⟩
  obtain ⟨q, hq⟩ : ∃ q, decide ((60 : Int) < ((x.rs.length : Nat) : Int)) = q := ⟨_, rfl⟩
  have cX : w2.cell? ⟨gd, 256, none⟩ = some (.slice x.A x.rs.length x.c) := blk_d1 hd
  replace hq := Lib.hid hq
  replace hp := Lib.hid hp
  go_upto_region 4 with (fail)
  clear cX
  replace hq := hq.out
  replace hp := hp.out
  refine wp_region_text 7 [eqS (.agg (dfaC x.f x.A x.rs.length x.c x.B x.fo.length x.d x.C x.en.length x.e)), eqS (.bool p), eqS (.bool (!p)), eqS (.bool (!p)), eqS (vF (true && ((!p) == false)) (.int .i64 (((x.rs.length : Nat) : Int)))), eqS (vF (true && ((!p) == false)) (.bool q)), eqS (.bool ((!p) || q))] [20, 21, 22, 23, 24, 25, 26] (by kernel_rfl) rfl ?_ ?_
  · skip
    refine Steps.cons (fun a' w' hG hB dep => gs_load_dfa (want_none rfl) _ rfl gd (hG.other 1 rfl) (blk_then hd hB) rfl) ?_
    refine Steps.cons (fun a' w' hG hB dep => gs_call (want_none rfl) _ _ _ rfl enter_right _ (map1 (dep 0 rfl 20 rfl)) ((hR1 w' hB).mono fun e w2 ⟨hq1, hb⟩ => ⟨_, hq1, hb, by rw [hp]; exact rfl⟩)) ?_
    refine Steps.cons (fun a' w' hG hB dep => gs_not_bool (want_none rfl) _ _ rfl _ (dep 1 rfl 21 rfl) rfl) ?_
    refine Steps.cons (fun a' w' hG hB dep => gs_move (want_none rfl) _ rfl (id (dep 2 rfl 22 rfl))) ?_
    refine Steps.cons (fun a' w' hG hB dep => gs_guard (c := true) (b' := (!p)) rfl rfl (dep 3 rfl 23 rfl) (fun hc he hw => gs_move hw _ rfl (Eq.trans (hG.other 3 rfl) (vF_yes (on_g hc he) _).symm)) (fun hn => vF_no hn _)) ?_
    refine Steps.cons (fun a' w' hG hB dep => gs_guard (c := true) (b' := (!p)) rfl rfl (dep 3 rfl 23 rfl) (fun hc he hw => gs_gtr_int hw _ _ _ _ rfl _ _ _ (Eq.trans (dep 4 rfl 24 rfl) (vF_yes (on_g hc he) _)) rfl (Eq.trans (congrArg Value.bool hq) (vF_yes (on_g hc he) _).symm)) (fun hn => vF_no hn _)) ?_
    refine Steps.cons (fun a' w' hG hB dep => gs_pick (want_none rfl) _ _ _ rfl (!p) (dep 3 rfl 23 rfl) (id (pick_or2 (c := true) rfl (dep 5 rfl 25 rfl)))) ?_
    exact Steps.nil
  intro u w3 hw3 ans
  have hus26 : u 26 = (.bool (!p || q)) := ans 6 26 (by decide) rfl
  clear ans
  simp only [putAll, List.foldl_cons, List.foldl_nil, Act.put, List.setIfInBounds_toArray, List.set_cons_zero, List.set_cons_succ, hus26]
  clear hus26
  simp only [List.drop]
  refine wpList_nil ?_
  replace hd := blk_then hd hw3
  replace hB1 := below_then hB1 hw3
  clear hw3 hR1
  obtain ⟨r, hr⟩ : ∃ r, (!p || q) = r := ⟨_, rfl⟩
  rw [hr]
  cases r with
  | true =>
    clear hr hp hq
    go_wp2_with (fail)
    go_ret
    exact ⟨rfl, hB1⟩
  | false =>
    have hFx : Fits x.T := fitsB_iff.1 (by rw [hp]; cases p <;> simp_all)
    have hn60 : x.rs.length ≤ 60 := by
      cases q with
      | true => simp at hr
      | false => have := of_decide_eq_false hq; omega
    clear hr hp hq
    go_upto_region 7 with (first
      | (refine wl_build_dfa0 rfl rfl ?_)
      | (refine wl_store_dfa rfl _ _ rfl _ rfl rfl (Blk.new _ _ _) ?_; intro w5 hx hG5))
    have hB5 : Below w3.heap.size w3 w5 := below_grown (below_alloc (Below.refl _ _) _) hG5 (Nat.le_refl _)
    obtain ⟨gx, hgx⟩ : ∃ g, g = w3.heap.size := ⟨_, rfl⟩
    rw [← hgx] at hx ⊢
    have ndx : gd ≠ gx := by have := hd.lt; omega
    have hgxw : w.heap.size ≤ gx := by have := hd.lt; omega
    replace hd := blk_then hd hB5
    replace hB1 := below_then hB1 hB5
    clear hG5 hgx hB5
    have hx0 : (dfaC (fun _ => 0) none 0 0 none 0 0 none 0 0) = dfaC (cuN 0) none 0 0 none 0 0 none 0 0 := dfaC_ext _ _ _ _ _ _ _ _ _ (fun b _ => by simp [cuN])
    rw [hx0] at hx
    clear hx0
    go_wp2_with (fail)
    go_loopw [5] (fun bv wr => ∃ b : Nat, b ≤ 256 ∧ bv = .int .i64 b ∧ Below w.heap.size w wr ∧ Blk wr gd 47 (dfaC x.f x.A x.rs.length x.c x.B x.fo.length x.d x.C x.en.length x.e) ∧ Blk wr gx 47 (dfaC (cuN b) none 0 0 none 0 0 none 0 0)) (fun bv _ => 256 - (intOf bv).toNat)
    case atStart => exact ⟨0, by omega, rfl, hB1, hd, hx⟩
    case round =>
      clear hB1 hd hx
      obtain ⟨b, hb, rfl, hB1, hd, hx⟩ := hrel
      by_cases hbl : b < 256
      · have hbI : (b : Int) < 256 := by omega
        go_upto_region 9 with (refine wl_store_dc rfl _ _ rfl gx b hbl (255 - (b : Int)) rfl rfl hx ?_; intro w6 hx6 hG6)
        rw [cuN_put] at hx6
        replace hd := blk_grown hd hG6 ndx
        replace hB1 := below_grown hB1 hG6 hgxw
        clear hG6
        go_wp2_with (fail)
        exact ⟨⟨b + 1, by omega, rfl, hB1, hd, hx6⟩, by simp only [intOf]; omega⟩
      · have hbI : ¬ (b : Int) < 256 := by omega
        have hbe : b = 256 := by omega
        subst hbe
        have hx1 : dfaC (cuN 256) none 0 0 none 0 0 none 0 0 = dfaC (fun b : Nat => 255 - (b : Int)) none 0 0 none 0 0 none 0 0 := dfaC_ext _ _ _ _ _ _ _ _ _ (fun b hb => by unfold cuN; rw [if_pos hb])
        rw [hx1] at hx
        clear hx1
        obtain ⟨bv, hbv⟩ : ∃ bv, bv = wr.heap.size := ⟨_, rfl⟩
        have hbvr : bv ≤ wr.heap.size := by omega
        have hgxb : gx < bv := by have := hx.lt; omega
        have hgdb : gd < bv := by have := hd.lt; omega
        have hbvw : w.heap.size ≤ bv := by omega
        have hI : RI gx bv wr ⟨fun b : Nat => 255 - (b : Int), [], none, 0, [], none, 0, [], none, 0⟩ := ⟨TOwn.nil _ _ _, hx⟩
        clear hbv hx
        have hAn : x.T.au.n = x.rs.length := fits_au
        have Hn := Lib.hid hAn
        clear hAn
        have hwB : Below w.heap.size w wr := hB1
        go_wp2_with (fail)
        go_loopw [6] (fun iv wr => ∃ (i : Nat) (y : TV), i ≤ 2 * x.rs.length ∧ iv = .int .i64 i ∧ Below w.heap.size w wr ∧ Blk wr gd 47 (dfaC x.f x.A x.rs.length x.c x.B x.fo.length x.d x.C x.en.length x.e) ∧ RI gx bv wr y ∧ bv ≤ wr.heap.size ∧ y.f = (fun b : Nat => 255 - (b : Int)) ∧ y.rs.map (·.l) = (List.range i).map (renRow x.T) ∧ y.fo = (List.range i).map (fun i => x.fo.getD (oldN x.rs.length i) 0) ∧ y.en = (List.range i).map (fun i => x.en.getD (oldN x.rs.length i) 0)) (fun iv _ => 2 * x.rs.length - (intOf iv).toNat)
        case atStart => exact ⟨0, _, by omega, rfl, hB1, hd, hI, hbvr, rfl, rfl, rfl, rfl⟩
        case round =>
          clear hB1 hd hI hbvr hwB
          obtain ⟨i, y, hi, rfl, hB1, hd, hI, hbvr, hyf, hyn, hyo, hye⟩ := hrel
          by_cases hil : i < 2 * x.rs.length
          · have hiI : (i : Int) < 2 * x.rs.length := by omega
            have hsn := oldN_lt hil
            have hco := old_any i x.rs.length hil hn60
            have HY := Lib.hid (And.intro hyf (And.intro hyn (And.intro hyo hye)))
            clear hyf hyn hyo hye
            go_upto_region 15 with (go_at_call 30; refine (hco _).mono ?_; rintro e w6 ⟨rfl, hB6⟩)
            clear hco
            replace hd := blk_then hd hB6
            replace hI := hI.then_ hB6
            replace hbvr : bv ≤ w6.heap.size := by have := hB6.size; omega
            replace hB1 := below_then hB1 hB6
            clear hB6
            obtain ⟨s, hs⟩ : ∃ s, oldN x.rs.length i = s := ⟨_, rfl⟩
            rw [hs] at hsn ⊢
            replace hs := Lib.hid hs
            go_upto_region 16 with (refine wl_makeZ rfl _ _ rfl 256 rfl rfl (by omega) ?_; intro w7 hg hB7)
            obtain ⟨g, hgg⟩ : ∃ g, g = w6.heap.size := ⟨_, rfl⟩
            rw [← hgg] at hg ⊢
            have hgb : bv ≤ g := by omega
            have ngd : gd ≠ g := by omega
            have ngx : gx ≠ g := by omega
            have hyg : ∀ j (hj : j < y.rs.length) a, y.rs[j].a = some a → a.block ≠ g := fun j hj a ha => by have := (hI.own.rowLt hj ha).2; omega
            replace hd := blk_then hd hB7
            replace hI := hI.then_ hB7
            replace hbvr : bv ≤ w7.heap.size := by have := hB7.size; omega
            replace hB1 := below_then hB1 hB7
            clear hB7 hgg
            have hg0 : arr eZ 256 (fun _ => 0) = arr eZ 256 (renU x.T i 0) := arr_ext _ _ _ (fun k _ => by simp [renU])
            rw [hg0] at hg
            clear hg0
            replace hyg := Lib.hid hyg
            go_wp2_with (fail)
            go_loopw [9] (fun bv2 wr => ∃ b : Nat, b ≤ 256 ∧ bv2 = .int .i64 b ∧ Below w.heap.size w wr ∧ Blk wr gd 47 (dfaC x.f x.A x.rs.length x.c x.B x.fo.length x.d x.C x.en.length x.e) ∧ RI gx bv wr y ∧ bv ≤ wr.heap.size ∧ Blk wr g 3 (arr eZ 256 (renU x.T i b))) (fun bv2 _ => 256 - (intOf bv2).toNat)
            case atStart => exact ⟨0, by omega, rfl, hB1, hd, hI, hbvr, hg⟩
            case round =>
              clear hB1 hd hI hbvr hg
              obtain ⟨b, hb0, rfl, hB1, hd, hI, hbvr, hg⟩ := hrel
              by_cases hb : b < 256
              · have hbI : (b : Int) < 256 := by omega
                obtain ⟨bN, oN, bR, oR, m, nr, cr, hAx, hfm, hmr, _, _, cN, cR⟩ := nx_cells hFx hT hsn hb
                obtain ⟨u, hu⟩ : ∃ u, x.T.au.go s b = u := ⟨_, rfl⟩
                rw [hu] at cR
                have hun : u < x.rs.length := by rw [← hu, ← Hn.out]; exact hFx.ok.lt _ _ (by rw [Hn.out]; exact hsn) hb
                replace hu := Lib.hid hu
                go_upto_region 19 with (fail)
                refine wp_region_steps 12 [eqS (.pointer (some ⟨gd, 256, none⟩)), eqS (.slice (some ⟨bN, oN, none⟩) x.rs.length x.c), eqS (.int .i64 (((s : Nat) : Int))), eqS (.pointer (some ⟨bN, oN + s * 1, none⟩)), eqS (.slice (some ⟨bR, oR, none⟩) nr cr), eqS (.int .i64 (((b : Nat) : Int))), eqS (.pointer (some ⟨gd, 0, none⟩)), eqS (.pointer (some ⟨gd, 0 + b * 1, none⟩)), eqS (.int .i64 (((m : Nat) : Int))), eqS (.pointer (some ⟨bR, oR + m * 1, none⟩)), eqS (.int .i64 (((u : Nat) : Int))), eqS (.int .i64 (((u : Nat) : Int)))] [51, 52, 53, 54, 55, 56, 57, 58, 59, 60, 61, 10] rfl (by kernel_rfl) rfl ?_ ?_
                · skip
                  refine Steps.cons (fun a' w' hG hB dep => gs_field (want_none rfl) _ _ _ rfl gd (0) (256) (hG.other 1 rfl) (fun wz => field_dfa_1 gd (0) wz) rfl) ?_
                  refine Steps.cons (fun a' w' hG hB dep => gs_load1 (want_none rfl) _ _ rfl gd (256) (dep 0 rfl 51 rfl) (.slice (some ⟨bN, oN, none⟩) x.rs.length x.c) (by have h9 := blk_d1 (blk_then hd hB); rw [hAx] at h9; exact h9) _ Try.underlying45 rfl rfl) ?_
                  refine Steps.cons (fun a' w' hG hB dep => gs_move (want_none rfl) _ rfl (id (hG.other 7 rfl))) ?_
                  refine Steps.cons (fun a' w' hG hB dep => gs_index (want_none rfl) _ _ _ rfl under_rows 1 size_rowE bN oN x.rs.length x.c (s) (dep 1 rfl 52 rfl) (dep 2 rfl 53 rfl) hsn rfl) ?_
                  refine Steps.cons (fun a' w' hG hB dep => gs_load1 (want_none rfl) _ _ rfl bN (oN + s * 1) (dep 3 rfl 54 rfl) (.slice (some ⟨bR, oR, none⟩) nr cr) (cN (below_then hB1 hB)) _ Try.underlying57 rfl rfl) ?_
                  refine Steps.cons (fun a' w' hG hB dep => gs_move (want_none rfl) _ rfl (id (hG.other 9 rfl))) ?_
                  refine Steps.cons (fun a' w' hG hB dep => gs_field (want_none rfl) _ _ _ rfl gd (0) (0) (hG.other 1 rfl) (fun wz => field_dfa_0 gd (0) wz) rfl) ?_
                  refine Steps.cons (fun a' w' hG hB dep => gs_index_arr (want_none rfl) _ _ _ rfl gd (0) b (dep 6 rfl 57 rfl) (dep 5 rfl 56 rfl) (fun wz => index_cls _ _ _ hb wz) rfl) ?_
                  refine Steps.cons (fun a' w' hG hB dep => gs_load1 (want_none rfl) _ _ rfl gd (0 + b * 1) (dep 7 rfl 58 rfl) (.int .i64 (((m : Nat) : Int))) (by have h9 := blk_cls (blk_then hd hB) hb; rw [hfm] at h9; exact h9) _ Try.underlying3 rfl rfl) ?_
                  refine Steps.cons (fun a' w' hG hB dep => gs_index (want_none rfl) _ _ _ rfl under_ints 1 size_intE bR oR nr cr (m) (dep 4 rfl 55 rfl) (dep 8 rfl 59 rfl) hmr rfl) ?_
                  refine Steps.cons (fun a' w' hG hB dep => gs_load1 (want_none rfl) _ _ rfl bR (oR + m * 1) (dep 9 rfl 60 rfl) (.int .i64 (((u : Nat) : Int))) (cR (below_then hB1 hB)) _ Try.underlying3 rfl rfl) ?_
                  refine Steps.cons (fun a' w' hG hB dep => gs_assign (want_none rfl) _ rfl (id (dep 10 rfl 61 rfl))) ?_
                  exact Steps.nil
                intro uu wa hwa ans
                have hus10 : uu 10 = (.int .i64 ((u : Nat) : Int)) := ans 11 10 (by decide) rfl
                clear ans
                simp only [putAll, List.foldl_cons, List.foldl_nil, Act.put, List.setIfInBounds_toArray, List.set_cons_zero, List.set_cons_succ, hus10]
                clear hus10
                simp only [List.drop]
                refine wpList_nil ?_
                replace hd := blk_then hd hwa
                replace hI := hI.then_ hwa
                replace hg := blk_then hg hwa
                replace hbvr : bv ≤ wa.heap.size := by have := hwa.size; omega
                replace hB1 := below_then hB1 hwa
                clear hwa cN cR hAx hfm hmr
                have hcn := now_any u x.rs.length ((i + b) % 2) hun hn60
                obtain ⟨k, hk⟩ : ∃ k, 255 - b = k := ⟨_, rfl⟩
                go_upto_region 18 with (first
                  | (go_at_call 31; refine (hcn _).mono ?_; rintro e wb ⟨rfl, hBb⟩)
                  | (refine park_store 3 _ _ rfl ?_))
                refine Parked.mk ?_
                refine wl_store_arr eZ ((nowN x.rs.length u ((i + b) % 2) : Nat) : Int) rfl _ _ _ rfl g k 256 _ _ (blk_then hg hBb) ?hx rfl (by omega) info_intS rfl rfl ?_
                case hx =>
                  have e1 : (255 - (b : Int)).toNat = k := by omega
                  simp [Act.eval]
                intro wc hgc hGc
                have hrt : nowN x.rs.length u ((i + b) % 2) = renTo x.T i b := by
                  unfold renTo
                  rw [fits_n, hs.out, hu.out]
                have hgn : arr eZ 256 (upd (renU x.T i b) k ((nowN x.rs.length u ((i + b) % 2) : Nat) : Int)) = arr eZ 256 (renU x.T i (b + 1)) := arr_ext _ _ _ (fun j hj => by rw [hrt, ← hk]; exact renU_put hb j hj)
                rw [hgn] at hgc
                have hgl := hg.lt
                replace hd := blk_grown (blk_then hd hBb) hGc ngd
                replace hI := (hI.then_ hBb).far (blk_then hg hBb) hGc ngx hyg.out
                replace hbvr : bv ≤ wc.heap.size := by have := hBb.size; have := hGc.size; omega
                replace hB1 := below_grown (below_then hB1 hBb) hGc (by omega)
                clear hgn hrt hg hGc hBb hcn hk hu hun hgl
                go_wp2_with (fail)
                exact ⟨⟨b + 1, by omega, rfl, hB1, hd, hI, hbvr, hgc⟩, by simp only [intOf]; omega⟩
              · have hbI : ¬ (b : Int) < 256 := by omega
                have hbe : b = 256 := by omega
                subst hbe
                have hrow : Own wr bv 3 1 encZ (.slice (some ⟨g, 0, none⟩) 256 256) (renRow x.T i) := own_arr hg (renU_all x.T i) hgb (by unfold maxLen; omega)
                have hrl : (renRow x.T i).length = 256 := by simp [renRow]
                obtain ⟨l, hl⟩ : ∃ l, renRow x.T i = l := ⟨_, rfl⟩
                rw [hl] at hrow hrl
                replace hl := Lib.hid hl
                replace hrl := Lib.hid hrl
                clear hg
                have cA : wr.cell? ⟨gx, 256, none⟩ = some (.slice y.A y.rs.length y.c) := blk_d1 hI.out
                go_upto_region 22 with (first | (refine wl_row1 rfl _ rfl ⟨some ⟨g, 0, none⟩, 256, l⟩ (by rw [hrl.out]; rfl) ?_) | (at_builtin; refine park ?_))
                refine Parked.mk ?_
                obtain ⟨iR, hiR, hR0, hR1, hR2⟩ := info_parts info_rows3
                have hyl : y.rs.length = i := by
                  have := congrArg List.length HY.out.2.1
                  simpa using this
                have hor := hI.own.rows
                simp only [List.length_nil, Nat.add_zero, List.append_nil] at hor
                have hBa : Below wr.heap.size wr (wr.alloc (.cells (rowC ⟨some ⟨g, 0, none⟩, 256, l⟩) 57)) := below_alloc (Below.refl _ _) _
                refine wl_append _ rfl _ _ 45 rfl bv 57 iR _ 1 24 Try.underlying45 hiR hR0 hR1 hR2 rfl (by decide) rowC_size rowC_one (.slice y.A y.rs.length y.c) y.rs rfl (hor.then_ hBa) _ _ 1 1 [⟨some ⟨g, 0, none⟩, 256, l⟩] rfl rfl (slice_one (enc := rowC) (Blk.new wr _ _)) (by unfold maxLen; omega) (by omega) (by have := hBa.size; omega) ?_
                intro v8 w8 ho8 hg8 hv8
                obtain ⟨A8, c8, rfl, _, _⟩ := ho8.shape
                have hl8 : (y.rs ++ [(⟨some ⟨g, 0, none⟩, 256, l⟩ : RV)]).length = y.rs.length + 1 := by simp
                rw [hl8] at ho8 hv8 ⊢
                have hout := blk_own2 (blk_then hI.out hBa) (hor.then_ hBa) hg8 (by decide)
                unfold TV.C' at hout
                simp only [Act.put, List.setIfInBounds_toArray, List.set_cons_zero, List.set_cons_succ]
                go_upto_region 22 with (refine wl_store_d1 rfl _ _ rfl gx rfl rfl hout ?_; intro w9 ho9 hG9)
                have hox8 := own_own (hrow.then_ hBa) (hor.then_ hBa) hg8 (by decide)
                have hI2 := (hI.then_ hBa).addRow hg8 ho8 (r := ⟨some ⟨g, 0, none⟩, 256, l⟩) (by rw [hrl.out, List.append_nil]; exact hox8) (fun j hj a b ha hb => by injection hb with hb; subst hb; exact hyg.out j hj a ha) hout hG9 (by unfold TV.C'; simp only [List.length_append, List.length_singleton]; exact ho9)
                replace hd := (blk_own2 (blk_then hd hBa) (hor.then_ hBa) hg8 (by decide)).grown hG9 (by simpa using ndx)
                replace hB1 := below_grown (below_own (below_then hB1 hBa) hg8 (fun k e => by have := ((hor.then_ hBa).lt k e).1; omega)) hG9 hgxw
                replace hbvr : bv ≤ w9.heap.size := by have := hBa.size; have := hg8.size; have := hG9.size; omega
                clear hg8 hv8 ho8 hBa hl8 hiR hR0 hR1 hR2 hor hout hG9 ho9 hox8 hrow hI cA hyg
                have hI := hI2
                clear hI2
                obtain ⟨y2, hy2⟩ : ∃ y2 : TV, { y with rs := y.rs ++ [(⟨some ⟨g, 0, none⟩, 256, l⟩ : RV)], A := A8, c := c8 } = y2 := ⟨_, rfl⟩
                rw [hy2] at hI
                have h2f : y2.f = (fun b : Nat => 255 - (b : Int)) := by rw [← hy2]; exact HY.out.1
                have h2n : y2.rs.map (·.l) = (List.range (i + 1)).map (renRow x.T) := by
                  rw [← hy2, List.range_succ]
                  simp only [List.map_append, List.map_cons, List.map_nil]
                  rw [HY.out.2.1, hl.out]
                have h2o : y2.fo = (List.range i).map (fun i => x.fo.getD (oldN x.rs.length i) 0) := by rw [← hy2]; exact HY.out.2.2.1
                have h2e : y2.en = (List.range i).map (fun i => x.en.getD (oldN x.rs.length i) 0) := by rw [← hy2]; exact HY.out.2.2.2
                have hfl : y2.fo.length = i := by rw [h2o]; simp
                have hel : y2.en.length = i := by rw [h2e]; simp
                have HY2 := Lib.hid (And.intro h2f (And.intro h2n (And.intro h2o h2e)))
                clear hy2 h2f h2n h2o h2e HY hyl hl hrl
                have hsF : s < x.fo.length := by have := hFx.nf; rw [fits_n] at this; have e : x.T.fo.length = x.fo.length := rfl; omega
                have hsE : s < x.en.length := by have := hFx.ne; rw [fits_n] at this; have e : x.T.en.length = x.en.length := rfl; omega
                obtain ⟨bF, oF, hFo, cfo⟩ := fo_cells hT (by omega)
                obtain ⟨bE, oE, hEn, cen⟩ := en_cells hT (by omega)
                obtain ⟨iU, hiU, hU0, hU1, hU2⟩ := info_parts info_u3
                refine wp_region_steps 8 [eqS (.pointer (some ⟨gx, 257, none⟩)), eqS (.slice y2.B y2.fo.length y2.d), eqS (.pointer (some ⟨gd, 257, none⟩)), eqS (.slice (some ⟨bF, oF, none⟩) x.fo.length x.d), eqS (.int .i64 (((s : Nat) : Int))), eqS (.pointer (some ⟨bF, oF + s * 1, none⟩)), eqS (.int .u32 ((((x.fo.getD s 0) : Nat) : Int))), oneG 55 (encR (x.fo.getD s 0))] [79, 80, 81, 82, 83, 84, 85, 86] rfl (by kernel_rfl) rfl ?_ ?_
                · skip
                  refine Steps.cons (fun a' w' hG hB dep => gs_field (want_none rfl) _ _ _ rfl gx (0) (257) (hG.other 4 rfl) (fun wz => field_dfa_2 gx (0) wz) rfl) ?_
                  refine Steps.cons (fun a' w' hG hB dep => gs_load1 (want_none rfl) _ _ rfl gx (257) (dep 0 rfl 79 rfl) (.slice y2.B y2.fo.length y2.d) (blk_d2 (blk_then hI.out hB)) _ Try.underlying32 rfl rfl) ?_
                  refine Steps.cons (fun a' w' hG hB dep => gs_field (want_none rfl) _ _ _ rfl gd (0) (257) (hG.other 1 rfl) (fun wz => field_dfa_2 gd (0) wz) rfl) ?_
                  refine Steps.cons (fun a' w' hG hB dep => gs_load1 (want_none rfl) _ _ rfl gd (257) (dep 2 rfl 81 rfl) (.slice (some ⟨bF, oF, none⟩) x.fo.length x.d) (by have h9 := blk_d2 (blk_then hd hB); rw [hFo] at h9; exact h9) _ Try.underlying32 rfl rfl) ?_
                  refine Steps.cons (fun a' w' hG hB dep => gs_move (want_none rfl) _ rfl (id (hG.other 7 rfl))) ?_
                  refine Steps.cons (fun a' w' hG hB dep => gs_index (want_none rfl) _ _ _ rfl under_rules 1 size_ruleE bF oF x.fo.length x.d (s) (dep 3 rfl 82 rfl) (dep 4 rfl 83 rfl) hsF rfl) ?_
                  refine Steps.cons (fun a' w' hG hB dep => gs_load1 (want_none rfl) _ _ rfl bF (oF + s * 1) (dep 5 rfl 84 rfl) (.int .u32 ((((x.fo.getD s 0) : Nat) : Int))) (cfo (below_then hB1 hB) s hsF) _ Try.underlying55 rfl rfl) ?_
                  refine Steps.cons (fun a' w' hG hB dep => gs_u1 (want_none rfl) _ rfl (x.fo.getD s 0) (dep 6 rfl 85 rfl) (fun _ _ h => h)) ?_
                  exact Steps.nil
                intro u wq hBa ans
                obtain ⟨g1, hu1, hb1⟩ := ans 7 86 (by decide) rfl
                have hu0 : u 80 = .slice y2.B y2.fo.length y2.d := ans 1 80 (by decide) rfl
                clear ans
                simp only [putAll, List.foldl_cons, List.foldl_nil, Act.put, List.setIfInBounds_toArray, List.set_cons_zero, List.set_cons_succ, hu0, hu1]
                clear hu0 hu1
                simp only [List.drop]
                have hor := hI.own.fo
                simp only [List.length_nil, Nat.add_zero, List.append_nil] at hor
                have hbl : bv ≤ wq.heap.size := by have := hBa.size; omega
                refine wl_append _ rfl _ _ 32 rfl bv 55 iU _ 1 4 Try.underlying32 hiU hU0 hU1 hU2 rfl (by decide) encR_size encR_one (.slice y2.B y2.fo.length y2.d) y2.fo rfl (hor.then_ hBa) _ _ 1 1 [x.fo.getD s 0] rfl rfl (slice_one (enc := encR) hb1) (by unfold maxLen; omega) (by omega) hbl ?_
                intro v8 w8 ho8 hg8 hv8
                obtain ⟨A8, c8, rfl, _, _⟩ := ho8.shape
                have hl8 : (y2.fo ++ [x.fo.getD s 0]).length = y2.fo.length + 1 := by simp
                rw [hl8] at ho8 hv8 ⊢
                have hout := blk_own2 (blk_then hI.out hBa) (hor.then_ hBa) hg8 (by decide)
                unfold TV.C' at hout
                simp only [Act.put, List.setIfInBounds_toArray, List.set_cons_zero, List.set_cons_succ]
                go_upto_region 23 with (refine wl_store_d2 rfl _ _ rfl gx rfl rfl hout ?_; intro w9 ho9 hG9)
                have hI2 := (hI.then_ hBa).addFo hg8 ho8 hv8 hout hG9 (by unfold TV.C'; simp only [List.length_append, List.length_singleton]; exact ho9)
                replace hd := (blk_own2 (blk_then hd hBa) (hor.then_ hBa) hg8 (by decide)).grown hG9 (by simpa using ndx)
                replace hB1 := below_grown (below_own (below_then hB1 hBa) hg8 (fun k e => by have := ((hor.then_ hBa).lt k e).1; omega)) hG9 hgxw
                replace hbvr : bv ≤ w9.heap.size := by have := hBa.size; have := hg8.size; have := hG9.size; omega
                clear hg8 hv8 ho8 hBa hl8 hbl hor hout hG9 ho9 hI hb1
                have hI := hI2
                clear hI2
                obtain ⟨y3, hy3⟩ : ∃ y9 : TV, { y2 with fo := y2.fo ++ [x.fo.getD s 0], B := A8, d := c8 } = y9 := ⟨_, rfl⟩
                rw [hy3] at hI
                have h3e : y3.en.length = i := by rw [← hy3]; exact hel
                clear hel hfl
                refine wp_region_steps 8 [eqS (.pointer (some ⟨gx, 258, none⟩)), eqS (.slice y3.C y3.en.length y3.e), eqS (.pointer (some ⟨gd, 258, none⟩)), eqS (.slice (some ⟨bE, oE, none⟩) x.en.length x.e), eqS (.int .i64 (((s : Nat) : Int))), eqS (.pointer (some ⟨bE, oE + s * 1, none⟩)), eqS (.int .u32 ((((x.en.getD s 0) : Nat) : Int))), oneG 55 (encR (x.en.getD s 0))] [89, 90, 91, 92, 93, 94, 95, 96] rfl (by kernel_rfl) rfl ?_ ?_
                · skip
                  refine Steps.cons (fun a' w' hG hB dep => gs_field (want_none rfl) _ _ _ rfl gx (0) (258) (hG.other 4 rfl) (fun wz => field_dfa_3 gx (0) wz) rfl) ?_
                  refine Steps.cons (fun a' w' hG hB dep => gs_load1 (want_none rfl) _ _ rfl gx (258) (dep 0 rfl 89 rfl) (.slice y3.C y3.en.length y3.e) (blk_d3 (blk_then hI.out hB)) _ Try.underlying32 rfl rfl) ?_
                  refine Steps.cons (fun a' w' hG hB dep => gs_field (want_none rfl) _ _ _ rfl gd (0) (258) (hG.other 1 rfl) (fun wz => field_dfa_3 gd (0) wz) rfl) ?_
                  refine Steps.cons (fun a' w' hG hB dep => gs_load1 (want_none rfl) _ _ rfl gd (258) (dep 2 rfl 91 rfl) (.slice (some ⟨bE, oE, none⟩) x.en.length x.e) (by have h9 := blk_d3 (blk_then hd hB); rw [hEn] at h9; exact h9) _ Try.underlying32 rfl rfl) ?_
                  refine Steps.cons (fun a' w' hG hB dep => gs_move (want_none rfl) _ rfl (id (hG.other 7 rfl))) ?_
                  refine Steps.cons (fun a' w' hG hB dep => gs_index (want_none rfl) _ _ _ rfl under_rules 1 size_ruleE bE oE x.en.length x.e (s) (dep 3 rfl 92 rfl) (dep 4 rfl 93 rfl) hsE rfl) ?_
                  refine Steps.cons (fun a' w' hG hB dep => gs_load1 (want_none rfl) _ _ rfl bE (oE + s * 1) (dep 5 rfl 94 rfl) (.int .u32 ((((x.en.getD s 0) : Nat) : Int))) (cen (below_then hB1 hB) s hsE) _ Try.underlying55 rfl rfl) ?_
                  refine Steps.cons (fun a' w' hG hB dep => gs_u1 (want_none rfl) _ rfl (x.en.getD s 0) (dep 6 rfl 95 rfl) (fun _ _ h => h)) ?_
                  exact Steps.nil
                intro u wq hBa ans
                obtain ⟨g1, hu1, hb1⟩ := ans 7 96 (by decide) rfl
                have hu0 : u 90 = .slice y3.C y3.en.length y3.e := ans 1 90 (by decide) rfl
                clear ans
                simp only [putAll, List.foldl_cons, List.foldl_nil, Act.put, List.setIfInBounds_toArray, List.set_cons_zero, List.set_cons_succ, hu0, hu1]
                clear hu0 hu1
                simp only [List.drop]
                have hor := hI.own.en
                simp only [List.length_nil, Nat.add_zero, List.append_nil] at hor
                have hbl : bv ≤ wq.heap.size := by have := hBa.size; omega
                refine wl_append _ rfl _ _ 32 rfl bv 55 iU _ 1 4 Try.underlying32 hiU hU0 hU1 hU2 rfl (by decide) encR_size encR_one (.slice y3.C y3.en.length y3.e) y3.en rfl (hor.then_ hBa) _ _ 1 1 [x.en.getD s 0] rfl rfl (slice_one (enc := encR) hb1) (by unfold maxLen; omega) (by omega) hbl ?_
                intro v8 w8 ho8 hg8 hv8
                obtain ⟨A8, c8, rfl, _, _⟩ := ho8.shape
                have hl8 : (y3.en ++ [x.en.getD s 0]).length = y3.en.length + 1 := by simp
                rw [hl8] at ho8 hv8 ⊢
                have hout := blk_own2 (blk_then hI.out hBa) (hor.then_ hBa) hg8 (by decide)
                unfold TV.C' at hout
                simp only [Act.put, List.setIfInBounds_toArray, List.set_cons_zero, List.set_cons_succ]
                go_upto_region 13 with (refine wl_store_d3 rfl _ _ rfl gx rfl rfl hout ?_; intro w9 ho9 hG9)
                have hI2 := (hI.then_ hBa).addEn hg8 ho8 hv8 hout hG9 (by unfold TV.C'; simp only [List.length_append, List.length_singleton]; exact ho9)
                replace hd := (blk_own2 (blk_then hd hBa) (hor.then_ hBa) hg8 (by decide)).grown hG9 (by simpa using ndx)
                replace hB1 := below_grown (below_own (below_then hB1 hBa) hg8 (fun k e => by have := ((hor.then_ hBa).lt k e).1; omega)) hG9 hgxw
                replace hbvr : bv ≤ w9.heap.size := by have := hBa.size; have := hg8.size; have := hG9.size; omega
                clear hg8 hv8 ho8 hBa hl8 hbl hor hout hG9 ho9 hI hb1
                have hI := hI2
                clear hI2
                obtain ⟨y4, hy4⟩ : ∃ y9 : TV, { y3 with en := y3.en ++ [x.en.getD s 0], C := A8, e := c8 } = y9 := ⟨_, rfl⟩
                rw [hy4] at hI
                have h4f : y4.f = (fun b : Nat => 255 - (b : Int)) := by rw [← hy4, ← hy3]; exact HY2.out.1
                have h4n : y4.rs.map (·.l) = (List.range (i + 1)).map (renRow x.T) := by rw [← hy4, ← hy3]; exact HY2.out.2.1
                have h4o : y4.fo = (List.range (i + 1)).map (fun i => x.fo.getD (oldN x.rs.length i) 0) := by
                  rw [← hy4, ← hy3, List.range_succ]
                  simp only [List.map_append, List.map_cons, List.map_nil]
                  rw [HY2.out.2.2.1, hs.out]
                have h4e : y4.en = (List.range (i + 1)).map (fun i => x.en.getD (oldN x.rs.length i) 0) := by
                  rw [← hy4, ← hy3, List.range_succ]
                  simp only [List.map_append, List.map_cons, List.map_nil]
                  rw [HY2.out.2.2.2, hs.out]
                clear hy4 hy3 HY2 hiU hU0 hU1 hU2 cfo cen hFo hEn hsF hsE h3e
                have HY := Lib.hid (And.intro h4f (And.intro h4n (And.intro h4o h4e)))
                clear h4f h4n h4o h4e
                go_wp2_with (fail)
                exact ⟨⟨i + 1, y4, by omega, rfl, hB1, hd, hI, hbvr, HY.out.1, HY.out.2.1, HY.out.2.2.1, HY.out.2.2.2⟩, by simp only [intOf]; omega⟩
          · have hiI : ¬ (i : Int) < 2 * x.rs.length := by omega
            have hie : i = 2 * x.rs.length := by omega
            have hyT : y.T = renT x.T := by
              refine Tb.same_ hyf ?_ ?_ ?_
              · show _ = (List.range (2 * x.T.nx.length)).map (renRow x.T)
                rw [fits_n, ← hie]; exact hyn
              · show _ = (List.range (2 * x.T.nx.length)).map fun i => x.T.fo.getD (oldN x.T.nx.length i) 0
                rw [fits_n, ← hie]; exact hyo
              · show _ = (List.range (2 * x.T.nx.length)).map fun i => x.T.en.getD (oldN x.T.nx.length i) 0
                rw [fits_n, ← hie]; exact hye
            have hFy : Fits y.T := by rw [hyT]; exact ren_fits hFx (by rw [fits_n]; exact hn60)
            have hle : leastOf y.T = leastOf x.T := leastOf_alk hFy hFx (by rw [hyT]; exact (ren_like hFx).symm)
            have l1 := congrArg List.length hyn
            simp only [List.length_map, List.length_range] at l1
            have l2 := congrArg List.length hyo
            simp only [List.length_map, List.length_range] at l2
            have l3 := congrArg List.length hye
            simp only [List.length_map, List.length_range] at l3
            have hTy : TabIn wr wr.heap.size y := hI.own.tab (by omega) (fun r hr => by
                have h1 : r.l ∈ y.rs.map (·.l) := List.mem_map_of_mem hr
                rw [hyn] at h1
                obtain ⟨j, _, e⟩ := List.mem_map.1 h1
                rw [← e]
                simp [renRow]) (by omega) (by omega) (fun v hv => by
                rw [hyo] at hv
                obtain ⟨j, _, e⟩ := List.mem_map.1 hv
                rw [← e]
                exact getDn_lt hT.f32 (by omega) _) (fun v hv => by
                rw [hye] at hv
                obtain ⟨j, _, e⟩ := List.mem_map.1 hv
                rw [← e]
                exact getDn_lt hT.e32 (by omega) _)
            have hx := hI.out
            clear hI hyf hyn hyo hye hyT l1 l2 l3 hie
            have hm1 := lmake_fits x hFx wr (hT.then_ hB1)
            unfold TV.C' at hm1 hx
            go_upto_region 25 with (first
              | (refine wl_load_dfa rfl _ rfl _ rfl hd ?_)
              | (go_at_call 22; refine hm1.mono ?_; rintro e w4 ⟨hB4, a, rfl, hO4, ha⟩)
              | (refine wl_store_dfa rfl _ _ rfl _ rfl rfl (Blk.new _ _ _) ?_; intro w5 hA hG5))
            clear hm1
            have hyt := least_tab (hT.then_ hB1) hFx hO4 ha
            have hB5 : Below w4.heap.size w4 w5 := below_grown (below_alloc (Below.refl _ _) _) hG5 (Nat.le_refl _)
            have hTa := hyt.1.then_ hB5
            replace hB5 := below_then hB4 hB5
            obtain ⟨ga, hga⟩ : ∃ g, g = w4.heap.size := ⟨_, rfl⟩
            rw [← hga] at hA ⊢
            replace hx := blk_then hx hB5
            replace hTy := hTy.then_ hB5
            replace hB1 := below_then hB1 hB5
            clear hB4 hO4 hyt hG5 hga hB5 hd
            have hm2 := lmake_fits y hFy w5 hTy
            unfold TV.C' at hm2
            go_upto_region 26 with (first
              | (refine wl_load_dfa rfl _ rfl _ rfl hx ?_)
              | (go_at_call 22; refine hm2.mono ?_; rintro e w6 ⟨hB6, b, rfl, hO6, hb⟩)
              | (refine wl_store_dfa rfl _ _ rfl _ rfl rfl (Blk.new _ _ _) ?_; intro w7 hb7 hG7))
            clear hm2
            have hzt := least_tab hTy hFy hO6 hb
            have hB7 : Below w6.heap.size w6 w7 := below_grown (below_alloc (Below.refl _ _) _) hG7 (Nat.le_refl _)
            have hTb := hzt.1.then_ hB7
            replace hB7 := below_then hB6 hB7
            have hab : TEq a.T b.T := by
              rw [hb, ha, hle]
              exact TEq.refl _
            obtain ⟨gb, hgb⟩ : ∃ g, g = w6.heap.size := ⟨_, rfl⟩
            rw [← hgb] at hb7 ⊢
            clear ha hb
            have hb := hb7
            have ha := blk_then hA hB7
            replace hB1 := below_then hB1 hB7
            replace hTa := hTa.then_ hB7
            clear hB6 hO6 hzt hG7 hgb hB7 hb7 hA hx hTy hle
            have hSm : ∀ W' : World, Below w7.heap.size w7 W' → Calls Try.prog 23 #[.agg (dfaC a.f a.A a.rs.length a.c a.B a.fo.length a.d a.C a.en.length a.e), .agg (dfaC b.f b.A b.rs.length b.c b.B b.fo.length b.d b.C b.en.length b.e)] W' fun e w2 => e = .returned (.bool true) ∧ Below W'.heap.size W' w2 := fun W' hB => same_any a b hab W' (hTa.then_ hB) (hTb.then_ hB)
            refine wp_region_text 12 [eqS (.int .i64 (0)), eqS (.bool true), eqS (.bool true), eqS (vF (true && (true == true)) (.int .i64 (0))), eqS (vF (true && (true == true)) (.bool true)), eqS (.bool (true && true)), eqS (.bool (true && true)), eqS (vF (true && ((true && true) == true)) (.agg (dfaC a.f a.A a.rs.length a.c a.B a.fo.length a.d a.C a.en.length a.e))), eqS (vF (true && ((true && true) == true)) (.agg (dfaC b.f b.A b.rs.length b.c b.B b.fo.length b.d b.C b.en.length b.e))), eqS (vF (true && ((true && true) == true)) (.bool true)), eqS (.bool ((true && true) && true)), eqS (.bool ((true && true) && true))] [109, 110, 111, 112, 113, 114, 115, 116, 117, 118, 119, 2] (by kernel_rfl) rfl ?_ ?_
            · skip
              refine Steps.cons (fun a' w' hG hB dep => gs_move (want_none rfl) _ rfl (id (hG.other 12 rfl))) ?_
              refine Steps.cons (fun a' w' hG hB dep => gs_eql_int (want_none rfl) _ _ _ _ rfl _ _ _ (dep 0 rfl 109 rfl) rfl (id (congrArg Value.bool (by decide)))) ?_
              refine Steps.cons (fun a' w' hG hB dep => gs_move (want_none rfl) _ rfl (id (dep 1 rfl 110 rfl))) ?_
              refine Steps.cons (fun a' w' hG hB dep => gs_guard (c := true) (b' := true) rfl rfl (dep 2 rfl 111 rfl) (fun hc he hw => gs_move hw _ rfl (Eq.trans (hG.other 14 rfl) (vF_yes (on_g hc he) _).symm)) (fun hn => vF_no hn _)) ?_
              refine Steps.cons (fun a' w' hG hB dep => gs_guard (c := true) (b' := true) rfl rfl (dep 2 rfl 111 rfl) (fun hc he hw => gs_eql_int hw _ _ _ _ rfl _ _ _ (Eq.trans (dep 3 rfl 112 rfl) (vF_yes (on_g hc he) _)) rfl (Eq.trans (congrArg Value.bool (by decide)) (vF_yes (on_g hc he) _).symm)) (fun hn => vF_no hn _)) ?_
              refine Steps.cons (fun a' w' hG hB dep => gs_pick (want_none rfl) _ _ _ rfl true (dep 2 rfl 111 rfl) (id (pick_and2 (c := true) rfl (dep 4 rfl 113 rfl)))) ?_
              refine Steps.cons (fun a' w' hG hB dep => gs_move (want_none rfl) _ rfl (id (dep 5 rfl 114 rfl))) ?_
              refine Steps.cons (fun a' w' hG hB dep => gs_guard (c := true) (b' := (true && true)) rfl rfl (dep 6 rfl 115 rfl) (fun hc he hw => gs_load_dfa hw _ rfl ga (hG.other 11 rfl) (blk_then ha hB) (vF_yes (on_g hc he) _).symm) (fun hn => vF_no hn _)) ?_
              refine Steps.cons (fun a' w' hG hB dep => gs_guard (c := true) (b' := (true && true)) rfl rfl (dep 6 rfl 115 rfl) (fun hc he hw => gs_load_dfa hw _ rfl gb (hG.other 13 rfl) (blk_then hb hB) (vF_yes (on_g hc he) _).symm) (fun hn => vF_no hn _)) ?_
              refine Steps.cons (fun a' w' hG hB dep => gs_guard (c := true) (b' := (true && true)) rfl rfl (dep 6 rfl 115 rfl) (fun hc he hw => gs_call hw _ _ _ rfl enter_same _ (map2 (Eq.trans (dep 7 rfl 116 rfl) (vF_yes (on_g hc he) _)) (Eq.trans (dep 8 rfl 117 rfl) (vF_yes (on_g hc he) _))) ((hSm w' hB).mono fun e w2 ⟨hq1, hb⟩ => ⟨_, hq1, hb, (vF_yes (on_g hc he) _).symm⟩)) (fun hn => vF_no hn _)) ?_
              refine Steps.cons (fun a' w' hG hB dep => gs_pick (want_none rfl) _ _ _ rfl (true && true) (dep 6 rfl 115 rfl) (id (pick_and2 (c := true) rfl (dep 9 rfl 118 rfl)))) ?_
              refine Steps.cons (fun a' w' hG hB dep => gs_assign (want_none rfl) _ rfl (id (dep 10 rfl 119 rfl))) ?_
              exact Steps.nil
            intro u wz hwz ans
            have hus2 : u 2 = (.bool ((true && true) && true)) := ans 11 2 (by decide) rfl
            clear ans
            simp only [putAll, List.foldl_cons, List.foldl_nil, Act.put, List.setIfInBounds_toArray, List.set_cons_zero, List.set_cons_succ, hus2]
            clear hus2
            simp only [List.drop]
            refine wpList_nil ?_
            replace hB1 := below_then hB1 hwz
            have he5 : ((true && true) && true) = true := rfl
            rw [he5]
            go_wp2_with (fail)
            go_ret
            exact ⟨rfl, hB1⟩
end Go.Proofs.Ytgahdookojbbiaa
