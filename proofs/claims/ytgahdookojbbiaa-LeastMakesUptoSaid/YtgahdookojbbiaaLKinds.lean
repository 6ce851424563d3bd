/- heronref11.kinds: of each state which kind it is. No condition beyond those named in each lemma. -/
import Derived.Test.YtgahdookojbbiaaLKin
namespace Go.Proofs.Ytgahdookojbbiaa
open Go.RowKit Go.Maps
set_option linter.unusedVariables false
set_option linter.unusedSimpArgs false
attribute [local go_sem] Oper.semAt_some

theorem fo_cells {x : TV} {w : World} (hT : TabIn w w.heap.size x) (h : 0 < x.fo.length) : ∃ b off, x.B = some ⟨b, off, none⟩ ∧ ∀ {X : World}, Below w.heap.size w X → ∀ t, t < x.fo.length → X.cell? ⟨b, off + t * 1, none⟩ = some (.int .u32 ((x.fo.getD t 0 : Nat) : Int)) := by
  obtain ⟨b, off, e, hb, hr⟩ := hT.fo.at_ h
  exact ⟨b, off, e, fun hB t ht => by
    have := cell_keep (hr t ht 0 _ rfl) hb hB
    rw [getD_at x.fo 0 ht]
    exact this⟩
theorem en_cells {x : TV} {w : World} (hT : TabIn w w.heap.size x) (h : 0 < x.en.length) : ∃ b off, x.C = some ⟨b, off, none⟩ ∧ ∀ {X : World}, Below w.heap.size w X → ∀ t, t < x.en.length → X.cell? ⟨b, off + t * 1, none⟩ = some (.int .u32 ((x.en.getD t 0 : Nat) : Int)) := by
  obtain ⟨b, off, e, hb, hr⟩ := hT.en.at_ h
  exact ⟨b, off, e, fun hB t ht => by
    have := cell_keep (hr t ht 0 _ rfl) hb hB
    rw [getD_at x.en 0 ht]
    exact this⟩
set_option maxRecDepth 100000 in
set_option maxHeartbeats 4000000 in
theorem rkinds_any (x : TV) (hF : Fits x.T) (w : World) (hT : TabIn w w.heap.size x) :
    Calls Try.prog 46 #[.agg x.C'] w fun e w' => ∃ (g : Nat) (K : Nat → Int), e = .returned (.slice (some ⟨g, 0, none⟩) x.rs.length x.rs.length) ∧ w.heap.size ≤ g ∧ Blk w' g 3 (arr eZ x.rs.length K) ∧ (∀ s t, s < x.rs.length → t < x.rs.length → (K s = K t ↔ Alk x.T.au s x.T.au t)) ∧ (∀ s, s < x.rs.length → 0 ≤ K s ∧ K s ≤ s) ∧ Below w.heap.size w w' := by
  have n1 : 1 ≤ x.rs.length := by have := hF.n1; rwa [fits_n] at this
  have n2 : x.rs.length ≤ 4096 := by have := hF.n2; rwa [fits_n] at this
  unfold TV.C'
  have hok := hF.ok
  have hAn : x.T.au.n = x.rs.length := fits_n
  have hfl : x.fo.length = x.rs.length := by have := hF.nf; rwa [fits_n] at this
  have hel : x.en.length = x.rs.length := by have := hF.ne; rwa [fits_n] at this
  obtain ⟨bF, oF, hFo, cfo⟩ := fo_cells hT (by omega)
  obtain ⟨bE, oE, hEn, cen⟩ := en_cells hT (by omega)
  replace hFo := Lib.hid hFo
  replace hEn := Lib.hid hEn
  replace hfl := Lib.hid hfl
  replace hel := Lib.hid hel
  go_enter Try.func46, Try.ntmps46
  obtain ⟨A, hA⟩ : ∃ A, A = x.A := ⟨_, rfl⟩
  have h1 := Blk.new w 47 (dfaC x.f x.A x.rs.length x.c x.B x.fo.length x.d x.C x.en.length x.e)
  have hB1 := below_alloc (Below.refl w.heap.size w) (.cells (dfaC x.f x.A x.rs.length x.c x.B x.fo.length x.d x.C x.en.length x.e) 47)
  go_upto_region 1 with (fail)
  obtain ⟨w1, hw1⟩ : ∃ y, y = w.alloc (.cells (dfaC x.f x.A x.rs.length x.c x.B x.fo.length x.d x.C x.en.length x.e) 47) := ⟨_, rfl⟩
  rw [← hw1] at h1 hB1 ⊢
  clear hw1 hA A
  have c1 : w1.cell? ⟨w.heap.size, 256, none⟩ = some (.slice x.A x.rs.length x.c) := blk_d1 h1
  go_upto_region 2 with (refine wl_makeZ rfl _ _ rfl x.rs.length rfl rfl (by omega) ?_; intro w2 hk hB2)
  clear c1
  obtain ⟨g, hg⟩ : ∃ g, g = w1.heap.size := ⟨_, rfl⟩
  rw [← hg] at hk ⊢
  have hgw : w.heap.size ≤ g := by rw [hg]; exact hB1.size
  have hgne : w.heap.size ≠ g := by have := h1.lt; omega
  replace h1 := blk_then h1 hB2
  replace hB1 := below_then hB1 hB2
  clear hg hB2
  go_upto_region 3 with (fail)
  go_loopw [4] (fun sv wr => ∃ (s : Nat) (K : Nat → Int), s ≤ x.rs.length ∧ sv = .int .i64 s ∧ Below w.heap.size w wr ∧ Blk wr w.heap.size 47 (dfaC x.f x.A x.rs.length x.c x.B x.fo.length x.d x.C x.en.length x.e) ∧ Blk wr g 3 (arr eZ x.rs.length K) ∧ Kd s (R1 x.T.au) K) (fun sv _ => x.rs.length - (intOf sv).toNat)
  case atStart => exact ⟨0, _, by omega, rfl, hB1, h1, hk, Kd.nil⟩
  case round =>
    clear h1 hB1 hk
    obtain ⟨s, K, hs, rfl, hB1, h1, hk, hd⟩ := hrel
    by_cases hsl : s < x.rs.length
    · have hsI : (s : Int) < x.rs.length := by omega
      go_upto_region 6 with (refine wl_store_arr eZ (s : Nat) rfl _ _ _ rfl g s x.rs.length _ _ hk rfl rfl hsl info_intS rfl rfl ?_; intro w3 hk3 hG3)
      replace hB1 := below_grown hB1 hG3 hgw
      replace h1 := blk_grown h1 hG3 hgne
      clear hk hG3
      have hd3 : KdIn s s (R1 x.T.au) (upd K s (s : Nat)) := .start hd
      clear hd
      go_upto_region 7 with (fail)
      go_loopw [5] (fun tv wr => ∃ (t : Nat) (K : Nat → Int), t ≤ s ∧ tv = .int .i64 ((t : Int) - 1) ∧ Below w.heap.size w wr ∧ Blk wr w.heap.size 47 (dfaC x.f x.A x.rs.length x.c x.B x.fo.length x.d x.C x.en.length x.e) ∧ Blk wr g 3 (arr eZ x.rs.length K) ∧ KdIn s t (R1 x.T.au) K) (fun tv _ => (intOf tv + 1).toNat)
      case atStart => exact ⟨s, _, by omega, rfl, hB1, h1, hk3, hd3⟩
      case round =>
        clear h1 hB1 hk3 hd3
        obtain ⟨t, K, hts, rfl, hB1, h1, hk, hd⟩ := hrel
        rcases t with _ | t
        · have hd2 := hd.done (R1.eqv _)
          replace hd2 := Lib.hid hd2
          clear hd
          go_wp2_with (fail)
          exact ⟨⟨s + 1, K, by omega, rfl, hB1, h1, hk, hd2.out⟩, by simp only [intOf]; omega⟩
        · have e1 : ((t + 1 : Nat) : Int) - 1 = (t : Int) := by omega
          rw [e1]
          have ht0 : (0 : Int) ≤ (t : Int) := by omega
          replace e1 := Lib.hid e1
          go_upto_region 9 with (fail)
          have htl : t < x.rs.length := by omega
          have hsF : s < x.fo.length := by have := hfl.out; omega
          have htF : t < x.fo.length := by have := hfl.out; omega
          have hsE : s < x.en.length := by have := hel.out; omega
          have htE : t < x.en.length := by have := hel.out; omega
          have cF : ∀ {X : World}, Below wr.heap.size wr X → X.cell? ⟨w.heap.size, 257, none⟩ = some (.slice (some ⟨bF, oF, none⟩) x.fo.length x.d) := fun hB => by rw [← hFo.out]; exact blk_d2 (blk_then h1 hB)
          have cE : ∀ {X : World}, Below wr.heap.size wr X → X.cell? ⟨w.heap.size, 258, none⟩ = some (.slice (some ⟨bE, oE, none⟩) x.en.length x.e) := fun hB => by rw [← hEn.out]; exact blk_d3 (blk_then h1 hB)
          obtain ⟨p, hp⟩ : ∃ p, (((x.fo.getD t 0 : Nat) : Int) == ((x.fo.getD s 0 : Nat) : Int)) = p := ⟨_, rfl⟩
          obtain ⟨q, hq⟩ : ∃ q, (((x.en.getD t 0 : Nat) : Int) == ((x.en.getD s 0 : Nat) : Int)) = q := ⟨_, rfl⟩
          refine wp_region_steps 24 [eqS (.pointer (some ⟨w.heap.size, 257, none⟩)), eqS (.slice (some ⟨bF, oF, none⟩) x.fo.length x.d), eqS (.int .i64 (((t : Nat) : Int))), eqS (.pointer (some ⟨bF, oF + t * 1, none⟩)), eqS (.int .u32 ((((x.fo.getD t 0) : Nat) : Int))), eqS (.pointer (some ⟨w.heap.size, 257, none⟩)), eqS (.slice (some ⟨bF, oF, none⟩) x.fo.length x.d), eqS (.int .i64 (((s : Nat) : Int))), eqS (.pointer (some ⟨bF, oF + s * 1, none⟩)), eqS (.int .u32 ((((x.fo.getD s 0) : Nat) : Int))), eqS (.bool p), eqS (.bool p), eqS (vF (true && (p == true)) (.pointer (some ⟨w.heap.size, 258, none⟩))), eqS (vF (true && (p == true)) (.slice (some ⟨bE, oE, none⟩) x.en.length x.e)), eqS (vF (true && (p == true)) (.int .i64 (((t : Nat) : Int)))), eqS (vF (true && (p == true)) (.pointer (some ⟨bE, oE + t * 1, none⟩))), eqS (vF (true && (p == true)) (.int .u32 ((((x.en.getD t 0) : Nat) : Int)))), eqS (vF (true && (p == true)) (.pointer (some ⟨w.heap.size, 258, none⟩))), eqS (vF (true && (p == true)) (.slice (some ⟨bE, oE, none⟩) x.en.length x.e)), eqS (vF (true && (p == true)) (.int .i64 (((s : Nat) : Int)))), eqS (vF (true && (p == true)) (.pointer (some ⟨bE, oE + s * 1, none⟩))), eqS (vF (true && (p == true)) (.int .u32 ((((x.en.getD s 0) : Nat) : Int)))), eqS (vF (true && (p == true)) (.bool q)), eqS (.bool (p && q))] [31, 32, 33, 34, 35, 36, 37, 38, 39, 40, 41, 42, 43, 44, 45, 46, 47, 48, 49, 50, 51, 52, 53, 54] rfl (by kernel_rfl) rfl ?_ ?_
          · skip
            refine Steps.cons (fun a' w' hG hB dep => gs_field (want_none rfl) _ _ _ rfl w.heap.size (0) (257) (hG.other 1 rfl) (fun wz => field_dfa_2 w.heap.size (0) wz) rfl) ?_
            refine Steps.cons (fun a' w' hG hB dep => gs_load1 (want_none rfl) _ _ rfl w.heap.size (257) (dep 0 rfl 31 rfl) (.slice (some ⟨bF, oF, none⟩) x.fo.length x.d) (cF hB) _ Try.underlying32 rfl rfl) ?_
            refine Steps.cons (fun a' w' hG hB dep => gs_move (want_none rfl) _ rfl (id (hG.other 5 rfl))) ?_
            refine Steps.cons (fun a' w' hG hB dep => gs_index (want_none rfl) _ _ _ rfl under_rules 1 size_ruleE bF oF x.fo.length x.d (t) (dep 1 rfl 32 rfl) (dep 2 rfl 33 rfl) htF rfl) ?_
            refine Steps.cons (fun a' w' hG hB dep => gs_load1 (want_none rfl) _ _ rfl bF (oF + t * 1) (dep 3 rfl 34 rfl) (.int .u32 ((((x.fo.getD t 0) : Nat) : Int))) (cfo (below_then hB1 hB) _ htF) _ Try.underlying55 rfl rfl) ?_
            refine Steps.cons (fun a' w' hG hB dep => gs_field (want_none rfl) _ _ _ rfl w.heap.size (0) (257) (hG.other 1 rfl) (fun wz => field_dfa_2 w.heap.size (0) wz) rfl) ?_
            refine Steps.cons (fun a' w' hG hB dep => gs_load1 (want_none rfl) _ _ rfl w.heap.size (257) (dep 5 rfl 36 rfl) (.slice (some ⟨bF, oF, none⟩) x.fo.length x.d) (cF hB) _ Try.underlying32 rfl rfl) ?_
            refine Steps.cons (fun a' w' hG hB dep => gs_move (want_none rfl) _ rfl (id (hG.other 4 rfl))) ?_
            refine Steps.cons (fun a' w' hG hB dep => gs_index (want_none rfl) _ _ _ rfl under_rules 1 size_ruleE bF oF x.fo.length x.d (s) (dep 6 rfl 37 rfl) (dep 7 rfl 38 rfl) hsF rfl) ?_
            refine Steps.cons (fun a' w' hG hB dep => gs_load1 (want_none rfl) _ _ rfl bF (oF + s * 1) (dep 8 rfl 39 rfl) (.int .u32 ((((x.fo.getD s 0) : Nat) : Int))) (cfo (below_then hB1 hB) _ hsF) _ Try.underlying55 rfl rfl) ?_
            refine Steps.cons (fun a' w' hG hB dep => gs_eql_int (want_none rfl) _ _ _ _ rfl _ _ _ (dep 4 rfl 35 rfl) (dep 9 rfl 40 rfl) (id (congrArg Value.bool hp))) ?_
            refine Steps.cons (fun a' w' hG hB dep => gs_move (want_none rfl) _ rfl (id (dep 10 rfl 41 rfl))) ?_
            refine Steps.cons (fun a' w' hG hB dep => gs_guard (c := true) (b' := p) rfl rfl (dep 11 rfl 42 rfl) (fun hc he hw => gs_field hw _ _ _ rfl w.heap.size (0) (258) (hG.other 1 rfl) (fun wz => field_dfa_3 w.heap.size (0) wz) (vF_yes (on_g hc he) _).symm) (fun hn => vF_no hn _)) ?_
            refine Steps.cons (fun a' w' hG hB dep => gs_guard (c := true) (b' := p) rfl rfl (dep 11 rfl 42 rfl) (fun hc he hw => gs_load1 hw _ _ rfl w.heap.size (258) (Eq.trans (dep 12 rfl 43 rfl) (vF_yes (on_g hc he) _)) (.slice (some ⟨bE, oE, none⟩) x.en.length x.e) (cE hB) _ Try.underlying32 rfl (vF_yes (on_g hc he) _).symm) (fun hn => vF_no hn _)) ?_
            refine Steps.cons (fun a' w' hG hB dep => gs_guard (c := true) (b' := p) rfl rfl (dep 11 rfl 42 rfl) (fun hc he hw => gs_move hw _ rfl (Eq.trans (hG.other 5 rfl) (vF_yes (on_g hc he) _).symm)) (fun hn => vF_no hn _)) ?_
            refine Steps.cons (fun a' w' hG hB dep => gs_guard (c := true) (b' := p) rfl rfl (dep 11 rfl 42 rfl) (fun hc he hw => gs_index hw _ _ _ rfl under_rules 1 size_ruleE bE oE x.en.length x.e (t) (Eq.trans (dep 13 rfl 44 rfl) (vF_yes (on_g hc he) _)) (Eq.trans (dep 14 rfl 45 rfl) (vF_yes (on_g hc he) _)) htE (vF_yes (on_g hc he) _).symm) (fun hn => vF_no hn _)) ?_
            refine Steps.cons (fun a' w' hG hB dep => gs_guard (c := true) (b' := p) rfl rfl (dep 11 rfl 42 rfl) (fun hc he hw => gs_load1 hw _ _ rfl bE (oE + t * 1) (Eq.trans (dep 15 rfl 46 rfl) (vF_yes (on_g hc he) _)) (.int .u32 ((((x.en.getD t 0) : Nat) : Int))) (cen (below_then hB1 hB) _ htE) _ Try.underlying55 rfl (vF_yes (on_g hc he) _).symm) (fun hn => vF_no hn _)) ?_
            refine Steps.cons (fun a' w' hG hB dep => gs_guard (c := true) (b' := p) rfl rfl (dep 11 rfl 42 rfl) (fun hc he hw => gs_field hw _ _ _ rfl w.heap.size (0) (258) (hG.other 1 rfl) (fun wz => field_dfa_3 w.heap.size (0) wz) (vF_yes (on_g hc he) _).symm) (fun hn => vF_no hn _)) ?_
            refine Steps.cons (fun a' w' hG hB dep => gs_guard (c := true) (b' := p) rfl rfl (dep 11 rfl 42 rfl) (fun hc he hw => gs_load1 hw _ _ rfl w.heap.size (258) (Eq.trans (dep 17 rfl 48 rfl) (vF_yes (on_g hc he) _)) (.slice (some ⟨bE, oE, none⟩) x.en.length x.e) (cE hB) _ Try.underlying32 rfl (vF_yes (on_g hc he) _).symm) (fun hn => vF_no hn _)) ?_
            refine Steps.cons (fun a' w' hG hB dep => gs_guard (c := true) (b' := p) rfl rfl (dep 11 rfl 42 rfl) (fun hc he hw => gs_move hw _ rfl (Eq.trans (hG.other 4 rfl) (vF_yes (on_g hc he) _).symm)) (fun hn => vF_no hn _)) ?_
            refine Steps.cons (fun a' w' hG hB dep => gs_guard (c := true) (b' := p) rfl rfl (dep 11 rfl 42 rfl) (fun hc he hw => gs_index hw _ _ _ rfl under_rules 1 size_ruleE bE oE x.en.length x.e (s) (Eq.trans (dep 18 rfl 49 rfl) (vF_yes (on_g hc he) _)) (Eq.trans (dep 19 rfl 50 rfl) (vF_yes (on_g hc he) _)) hsE (vF_yes (on_g hc he) _).symm) (fun hn => vF_no hn _)) ?_
            refine Steps.cons (fun a' w' hG hB dep => gs_guard (c := true) (b' := p) rfl rfl (dep 11 rfl 42 rfl) (fun hc he hw => gs_load1 hw _ _ rfl bE (oE + s * 1) (Eq.trans (dep 20 rfl 51 rfl) (vF_yes (on_g hc he) _)) (.int .u32 ((((x.en.getD s 0) : Nat) : Int))) (cen (below_then hB1 hB) _ hsE) _ Try.underlying55 rfl (vF_yes (on_g hc he) _).symm) (fun hn => vF_no hn _)) ?_
            refine Steps.cons (fun a' w' hG hB dep => gs_guard (c := true) (b' := p) rfl rfl (dep 11 rfl 42 rfl) (fun hc he hw => gs_eql_int hw _ _ _ _ rfl _ _ _ (Eq.trans (dep 16 rfl 47 rfl) (vF_yes (on_g hc he) _)) (Eq.trans (dep 21 rfl 52 rfl) (vF_yes (on_g hc he) _)) (Eq.trans (congrArg Value.bool hq) (vF_yes (on_g hc he) _).symm)) (fun hn => vF_no hn _)) ?_
            refine Steps.cons (fun a' w' hG hB dep => gs_pick (want_none rfl) _ _ _ rfl p (dep 11 rfl 42 rfl) (id (pick_and2 (c := true) rfl (dep 22 rfl 53 rfl)))) ?_
            exact Steps.nil
          intro u w4 hw4 ans
          have hus54 : u 54 = (.bool (p && q)) := ans 23 54 (by decide) rfl
          clear ans
          simp only [putAll, List.foldl_cons, List.foldl_nil, Act.put, List.setIfInBounds_toArray, List.set_cons_zero, List.set_cons_succ, hus54]
          clear hus54
          simp only [List.drop]
          refine wpList_nil ?_
          replace hB1 := below_then hB1 hw4
          replace h1 := blk_then h1 hw4
          replace hk := blk_then hk hw4
          clear hw4 cF cE
          have hpq : (p && q) = true ↔ R1 x.T.au t s := by
            rw [Bool.and_eq_true, ← hp, ← hq, beq_iff_eq, beq_iff_eq]
            show _ ↔ (x.fo.getD t 0, x.en.getD t 0) = (x.fo.getD s 0, x.en.getD s 0)
            rw [Prod.mk.injEq]
            omega
          obtain ⟨r, hr⟩ : ∃ r, (p && q) = r := ⟨_, rfl⟩
          rw [hr] at hpq ⊢
          clear hp hq hr
          cases r with
          | false =>
            have hd2 := hd.miss (fun h => by have := hpq.2 h; cases this)
            replace hd2 := Lib.hid hd2
            clear hd hpq
            go_wp2_with (fail)
            exact ⟨⟨t, K, by omega, rfl, hB1, h1, hk, hd2.out⟩, by simp only [intOf]; omega⟩
          | true =>
            have hd2 := hd.hit (by omega) (hpq.1 rfl)
            replace hd2 := Lib.hid hd2
            clear hd hpq
            have ct : w4.cell? ⟨g, t, none⟩ = some (.int .i64 (K t)) := blk_arrv hk htl
            go_wp2_with (refine wl_store_arr eZ (K t) rfl _ _ _ rfl g s x.rs.length _ _ hk rfl rfl hsl info_intS rfl rfl ?_; intro w5 hk5 hG5)
            exact ⟨⟨t, _, by omega, rfl, below_grown hB1 hG5 hgw, blk_grown h1 hG5 hgne, hk5, hd2.out⟩, by simp only [intOf]; omega⟩
    · have hsI : ¬ (s : Int) < x.rs.length := by omega
      have hse : s = x.rs.length := by omega
      have hK0 : KOk x.T.au K := KOk.one (by rw [hAn, ← hse]; exact hd)
      clear hd
      go_upto_region 12 with (fail)
      go_loopw [6, 3] (fun mv kv wr => ∃ (more : Bool) (g : Nat) (K : Nat → Int), mv = .bool more ∧ kv = .slice (some ⟨g, 0, none⟩) x.rs.length x.rs.length ∧ w.heap.size ≤ g ∧ w.heap.size ≠ g ∧ Below w.heap.size w wr ∧ Blk wr w.heap.size 47 (dfaC x.f x.A x.rs.length x.c x.B x.fo.length x.d x.C x.en.length x.e) ∧ Blk wr g 3 (arr eZ x.rs.length K) ∧ KOk x.T.au K ∧ (more = false → ∀ s t, s < x.rs.length → t < x.rs.length → (K s = K t ↔ Alk x.T.au s x.T.au t))) (fun mv kv wr => match mv, kv with | .bool true, .slice (some a) _ _ => x.rs.length * x.rs.length - sumZ (intAt wr a.block) x.rs.length + 1 | _, _ => 0)
      case atStart => exact ⟨true, g, K, rfl, rfl, hgw, hgne, hB1, h1, hk, hK0, fun h => by cases h⟩
      case round =>
        clear h1 hB1 hk hK0 hgw hgne hs hsI hse
        obtain ⟨more, g, K, rfl, rfl, hgw, hgne, hB1, h1, hk, hK, hfin⟩ := hrel
        cases more with
        | false =>
          have hfin2 := hfin rfl
          have hlo := hK.lo
          rw [hAn] at hlo
          replace hfin2 := Lib.hid hfin2
          replace hlo := Lib.hid hlo
          clear hfin hK
          go_wp2_with (fail)
          go_ret
          exact ⟨g, K, rfl, hgw, hk, hfin2.out, hlo.out, hB1⟩
        | true =>
          clear hfin
          have hsz := Lib.hid (sumZ_blk hk)
          go_upto_region 15 with (refine wl_makeZ rfl _ _ rfl x.rs.length rfl rfl (by omega) ?_; intro w2 hl hB2)
          obtain ⟨g2, hg2⟩ : ∃ g, g = wr.heap.size := ⟨_, rfl⟩
          rw [← hg2] at hl ⊢
          have hgw2 : w.heap.size ≤ g2 := by rw [hg2]; exact hB1.size
          have hgne2 : w.heap.size ≠ g2 := by have := h1.lt; omega
          have hgg : g ≠ g2 := by have := hk.lt; omega
          replace h1 := blk_then h1 hB2
          replace hk := blk_then hk hB2
          replace hB1 := below_then hB1 hB2
          clear hg2 hB2
          go_upto_region 16 with (fail)
          go_loopw [8, 6] (fun sv mv wr => ∃ (s : Nat) (more : Bool) (L : Nat → Int), s ≤ x.rs.length ∧ sv = .int .i64 s ∧ mv = .bool more ∧ Below w.heap.size w wr ∧ Blk wr w.heap.size 47 (dfaC x.f x.A x.rs.length x.c x.B x.fo.length x.d x.C x.en.length x.e) ∧ Blk wr g 3 (arr eZ x.rs.length K) ∧ Blk wr g2 3 (arr eZ x.rs.length L) ∧ Kd s (R2 x.T.au K) L ∧ (more = false → ∀ i, i < s → L i = K i) ∧ (more = true → ∃ i, i < s ∧ L i ≠ K i)) (fun sv _ _ => x.rs.length - (intOf sv).toNat)
          case atStart => exact ⟨0, false, _, by omega, rfl, rfl, hB1, h1, hk, hl, Kd.nil, fun _ i hi => by omega, fun h => by cases h⟩
          case round =>
            clear h1 hB1 hk hl
            obtain ⟨s, more, L, hs, rfl, rfl, hB1, h1, hk, hl, hd, hm0, hm1⟩ := hrel
            replace hm0 := Lib.hid hm0
            replace hm1 := Lib.hid hm1
            by_cases hsl : s < x.rs.length
            · have hsI : (s : Int) < x.rs.length := by omega
              go_upto_region 19 with (refine wl_store_arr eZ (s : Nat) rfl _ _ _ rfl g2 s x.rs.length _ _ hl rfl rfl hsl info_intS rfl rfl ?_; intro w3 hl3 hG3)
              replace hB1 := below_grown hB1 hG3 hgw2
              replace h1 := blk_grown h1 hG3 hgne2
              replace hk := blk_grown hk hG3 hgg
              clear hl hG3
              have hd3 : KdIn s s (R2 x.T.au K) (upd L s (s : Nat)) := .start hd
              have hm03 : more = false → ∀ i, i < s → upd L s (s : Nat) i = K i := fun e i hi => by rw [upd_ne _ _ (by omega)]; exact hm0.out e i hi
              have hm13 : more = true → ∃ i, i < s ∧ upd L s (s : Nat) i ≠ K i := fun e => by
                obtain ⟨i, hi, h⟩ := hm1.out e
                exact ⟨i, hi, by rw [upd_ne _ _ (by omega)]; exact h⟩
              replace hm03 := Lib.hid hm03
              replace hm13 := Lib.hid hm13
              clear hd hm0 hm1
              go_upto_region 20 with (fail)
              go_loopw [9] (fun tv wr => ∃ (t : Nat) (L : Nat → Int), t ≤ s ∧ tv = .int .i64 ((t : Int) - 1) ∧ Below w.heap.size w wr ∧ Blk wr w.heap.size 47 (dfaC x.f x.A x.rs.length x.c x.B x.fo.length x.d x.C x.en.length x.e) ∧ Blk wr g 3 (arr eZ x.rs.length K) ∧ Blk wr g2 3 (arr eZ x.rs.length L) ∧ KdIn s t (R2 x.T.au K) L ∧ (more = false → ∀ i, i < s → L i = K i) ∧ (more = true → ∃ i, i < s ∧ L i ≠ K i)) (fun tv _ => (intOf tv + 1).toNat)
              case atStart => exact ⟨s, _, by omega, rfl, hB1, h1, hk, hl3, hd3, hm03.out, hm13.out⟩
              case round =>
                clear h1 hB1 hk hl3 hd3 hm03 hm13
                obtain ⟨t, L, hts, rfl, hB1, h1, hk, hl, hd, hm0, hm1⟩ := hrel
                replace hm0 := Lib.hid hm0
                replace hm1 := Lib.hid hm1
                rcases t with _ | t
                · have hd2 := hd.done (R2.eqv _ _)
                  replace hd2 := Lib.hid hd2
                  clear hd
                  go_upto_region 25 with (fail)
                  obtain ⟨q, hq⟩ : ∃ q, (L s != K s) = q := ⟨_, rfl⟩
                  refine wp_region_steps 12 [eqS (.bool more), eqS (.bool more), eqS (vF (true && (more == false)) (.slice (some ⟨g2, 0, none⟩) x.rs.length x.rs.length)), eqS (vF (true && (more == false)) (.int .i64 (((s : Nat) : Int)))), eqS (vF (true && (more == false)) (.pointer (some ⟨g2, 0 + s * 1, none⟩))), eqS (vF (true && (more == false)) (.int .i64 ((L s)))), eqS (vF (true && (more == false)) (.slice (some ⟨g, 0, none⟩) x.rs.length x.rs.length)), eqS (vF (true && (more == false)) (.int .i64 (((s : Nat) : Int)))), eqS (vF (true && (more == false)) (.pointer (some ⟨g, 0 + s * 1, none⟩))), eqS (vF (true && (more == false)) (.int .i64 ((K s)))), eqS (vF (true && (more == false)) (.bool q)), eqS (.bool (more || q))] [95, 96, 97, 98, 99, 100, 101, 102, 103, 104, 105, 106] rfl (by kernel_rfl) rfl ?_ ?_
                  · skip
                    refine Steps.cons (fun a' w' hG hB dep => gs_move (want_none rfl) _ rfl (id (hG.other 6 rfl))) ?_
                    refine Steps.cons (fun a' w' hG hB dep => gs_move (want_none rfl) _ rfl (id (dep 0 rfl 95 rfl))) ?_
                    refine Steps.cons (fun a' w' hG hB dep => gs_guard (c := true) (b' := more) rfl rfl (dep 1 rfl 96 rfl) (fun hc he hw => gs_move hw _ rfl (Eq.trans (hG.other 7 rfl) (vF_yes (on_g hc he) _).symm)) (fun hn => vF_no hn _)) ?_
                    refine Steps.cons (fun a' w' hG hB dep => gs_guard (c := true) (b' := more) rfl rfl (dep 1 rfl 96 rfl) (fun hc he hw => gs_move hw _ rfl (Eq.trans (hG.other 8 rfl) (vF_yes (on_g hc he) _).symm)) (fun hn => vF_no hn _)) ?_
                    refine Steps.cons (fun a' w' hG hB dep => gs_guard (c := true) (b' := more) rfl rfl (dep 1 rfl 96 rfl) (fun hc he hw => gs_index hw _ _ _ rfl under_ints 1 size_intE g2 0 x.rs.length x.rs.length (s) (Eq.trans (dep 2 rfl 97 rfl) (vF_yes (on_g hc he) _)) (Eq.trans (dep 3 rfl 98 rfl) (vF_yes (on_g hc he) _)) hsl (vF_yes (on_g hc he) _).symm) (fun hn => vF_no hn _)) ?_
                    refine Steps.cons (fun a' w' hG hB dep => gs_guard (c := true) (b' := more) rfl rfl (dep 1 rfl 96 rfl) (fun hc he hw => gs_load1 hw _ _ rfl g2 (0 + s * 1) (Eq.trans (dep 4 rfl 99 rfl) (vF_yes (on_g hc he) _)) (.int .i64 ((L s))) (blk_arr (blk_then hl hB) hsl) _ Try.underlying3 rfl (vF_yes (on_g hc he) _).symm) (fun hn => vF_no hn _)) ?_
                    refine Steps.cons (fun a' w' hG hB dep => gs_guard (c := true) (b' := more) rfl rfl (dep 1 rfl 96 rfl) (fun hc he hw => gs_move hw _ rfl (Eq.trans (hG.other 3 rfl) (vF_yes (on_g hc he) _).symm)) (fun hn => vF_no hn _)) ?_
                    refine Steps.cons (fun a' w' hG hB dep => gs_guard (c := true) (b' := more) rfl rfl (dep 1 rfl 96 rfl) (fun hc he hw => gs_move hw _ rfl (Eq.trans (hG.other 8 rfl) (vF_yes (on_g hc he) _).symm)) (fun hn => vF_no hn _)) ?_
                    refine Steps.cons (fun a' w' hG hB dep => gs_guard (c := true) (b' := more) rfl rfl (dep 1 rfl 96 rfl) (fun hc he hw => gs_index hw _ _ _ rfl under_ints 1 size_intE g 0 x.rs.length x.rs.length (s) (Eq.trans (dep 6 rfl 101 rfl) (vF_yes (on_g hc he) _)) (Eq.trans (dep 7 rfl 102 rfl) (vF_yes (on_g hc he) _)) hsl (vF_yes (on_g hc he) _).symm) (fun hn => vF_no hn _)) ?_
                    refine Steps.cons (fun a' w' hG hB dep => gs_guard (c := true) (b' := more) rfl rfl (dep 1 rfl 96 rfl) (fun hc he hw => gs_load1 hw _ _ rfl g (0 + s * 1) (Eq.trans (dep 8 rfl 103 rfl) (vF_yes (on_g hc he) _)) (.int .i64 ((K s))) (blk_arr (blk_then hk hB) hsl) _ Try.underlying3 rfl (vF_yes (on_g hc he) _).symm) (fun hn => vF_no hn _)) ?_
                    refine Steps.cons (fun a' w' hG hB dep => gs_guard (c := true) (b' := more) rfl rfl (dep 1 rfl 96 rfl) (fun hc he hw => gs_neq_int hw _ _ _ _ rfl _ _ _ (Eq.trans (dep 5 rfl 100 rfl) (vF_yes (on_g hc he) _)) (Eq.trans (dep 9 rfl 104 rfl) (vF_yes (on_g hc he) _)) (Eq.trans (congrArg Value.bool hq) (vF_yes (on_g hc he) _).symm)) (fun hn => vF_no hn _)) ?_
                    refine Steps.cons (fun a' w' hG hB dep => gs_pick (want_none rfl) _ _ _ rfl more (dep 1 rfl 96 rfl) (id (pick_or2 (c := true) rfl (dep 10 rfl 105 rfl)))) ?_
                    exact Steps.nil
                  intro u w4 hw4 ans
                  have hus106 : u 106 = (.bool (more || q)) := ans 11 106 (by decide) rfl
                  clear ans
                  simp only [putAll, List.foldl_cons, List.foldl_nil, Act.put, List.setIfInBounds_toArray, List.set_cons_zero, List.set_cons_succ, hus106]
                  clear hus106
                  simp only [List.drop]
                  replace hB1 := below_then hB1 hw4
                  replace h1 := blk_then h1 hw4
                  replace hk := blk_then hk hw4
                  replace hl := blk_then hl hw4
                  clear hw4
                  obtain ⟨r, hr⟩ : ∃ r, (more || q) = r := ⟨_, rfl⟩
                  rw [hr]
                  have hm02 : r = false → ∀ i, i < s + 1 → L i = K i := fun e i hi => by
                    rw [e, Bool.or_eq_false_iff] at hr
                    by_cases he : i = s
                    · subst he
                      have h2 := hr.2
                      rw [← hq] at h2
                      simpa using h2
                    · exact hm0.out hr.1 i (by omega)
                  have hm12 : r = true → ∃ i, i < s + 1 ∧ L i ≠ K i := fun e => by
                    rw [e, Bool.or_eq_true] at hr
                    rcases hr with h | h
                    · obtain ⟨i, hi, h⟩ := hm1.out h
                      exact ⟨i, by omega, h⟩
                    · rw [← hq] at h
                      exact ⟨s, by omega, by simpa using h⟩
                  replace hm02 := Lib.hid hm02
                  replace hm12 := Lib.hid hm12
                  clear hr hq hm0 hm1
                  go_wp2_with (fail)
                  exact ⟨⟨s + 1, r, L, by omega, rfl, rfl, hB1, h1, hk, hl, hd2.out, hm02.out, hm12.out⟩, by simp only [intOf]; omega⟩
                · have e1 : ((t + 1 : Nat) : Int) - 1 = (t : Int) := by omega
                  rw [e1]
                  have ht0 : (0 : Int) ≤ (t : Int) := by omega
                  have htl : t < x.rs.length := by omega
                  replace e1 := Lib.hid e1
                  have hc := ralike_any x hF K s t g hsl htl _ (hT.then_ hB1) hk
                  unfold TV.C' at hc
                  obtain ⟨q, hq⟩ : ∃ q, alikeB x.T.au K s t = q := ⟨_, rfl⟩
                  rw [hq] at hc
                  replace hq := Lib.hid hq
                  go_upto_region 23 with (first | (refine wl_load_dfa rfl _ rfl _ rfl h1 ?_) | (go_at_call 66; refine hc.mono ?_; rintro e w5 ⟨rfl, hB5⟩))
                  replace hB1 := below_then hB1 hB5
                  replace h1 := blk_then h1 hB5
                  replace hk := blk_then hk hB5
                  replace hl := blk_then hl hB5
                  clear hB5 hc
                  cases q with
                  | false =>
                    have hd2 := hd.miss (fun h => by have := alikeB_yes ((R2.eqv _ _).symm h); rw [hq.out] at this; cases this)
                    replace hd2 := Lib.hid hd2
                    clear hd hq
                    go_wp2_with (fail)
                    exact ⟨⟨t, L, by omega, rfl, hB1, h1, hk, hl, hd2.out, hm0.out, hm1.out⟩, by simp only [intOf]; omega⟩
                  | true =>
                    have hd2 := hd.hit (by omega) ((R2.eqv _ _).symm (alikeB_iff.1 hq.out))
                    have hm02 : more = false → ∀ i, i < s → upd L s (L t) i = K i := fun e i hi => by rw [upd_ne _ _ (by omega)]; exact hm0.out e i hi
                    have hm12 : more = true → ∃ i, i < s ∧ upd L s (L t) i ≠ K i := fun e => by
                      obtain ⟨i, hi, h⟩ := hm1.out e
                      exact ⟨i, hi, by rw [upd_ne _ _ (by omega)]; exact h⟩
                    replace hd2 := Lib.hid hd2
                    replace hm02 := Lib.hid hm02
                    replace hm12 := Lib.hid hm12
                    clear hd hq hm0 hm1
                    have ct : w5.cell? ⟨g2, t, none⟩ = some (.int .i64 (L t)) := blk_arrv hl htl
                    go_wp2_with (refine wl_store_arr eZ (L t) rfl _ _ _ rfl g2 s x.rs.length _ _ hl rfl rfl hsl info_intS rfl rfl ?_; intro w6 hl6 hG6)
                    exact ⟨⟨t, _, by omega, rfl, below_grown hB1 hG6 hgw2, blk_grown h1 hG6 hgne2, blk_grown hk hG6 hgg, hl6, hd2.out, hm02.out, hm12.out⟩, by simp only [intOf]; omega⟩
            · have hsI : ¬ (s : Int) < x.rs.length := by omega
              have hse : s = x.rs.length := by omega
              rw [hse] at hd
              have hd2 : Kd x.T.au.n (R2 x.T.au K) L := by rw [hAn]; exact hd
              have hK2 := KOk.two hok hK hd2
              have hfin : more = false → ∀ s t, s < x.rs.length → t < x.rs.length → (L s = L t ↔ Alk x.T.au s x.T.au t) := fun e s' t' hs' ht' => by
                have hLK := hm0.out e
                rw [hse] at hLK
                rw [hLK _ hs', hLK _ ht']
                exact hK.fine hok hd2 (by rw [hAn]; exact hLK) _ _ (by rw [hAn]; exact hs') (by rw [hAn]; exact ht')
              have hinc : more = true → sumZ K x.rs.length < sumZ L x.rs.length := fun e => by
                obtain ⟨i, hi, h⟩ := hm1.out e
                have hge := hK.ge hd2
                rw [hAn] at hge
                exact sumZ_lt hge (hK.lo i (by rw [hAn]; omega)).1 (by omega) h
              have hcap : sumZ L x.rs.length ≤ x.rs.length * x.rs.length := sumZ_cap _ (fun i hi => by
                have := (hK2.lo i (by rw [hAn]; exact hi)).2
                omega)
              have hsz2 := Lib.hid (sumZ_blk hl)
              replace hK2 := Lib.hid hK2
              replace hfin := Lib.hid hfin
              replace hinc := Lib.hid hinc
              replace hcap := Lib.hid hcap
              clear hd hd2 hm0 hm1
              go_wp2_with (fail)
              refine ⟨⟨more, g2, L, rfl, rfl, hgw2, hgne2, hB1, h1, hl, hK2.out, hfin.out⟩, ?_⟩
              cases more with
              | false => simp only; omega
              | true =>
                have h1 := hinc.out rfl
                have h2 := hcap.out
                simp only
                rw [hsz.out, hsz2.out]
                omega
theorem enter_rkinds (args : Array Value) (w : World) : (callFunc 46 args).run Try.prog w = .ok (.enter 46 args) w := by kernel_rfl
end Go.Proofs.Ytgahdookojbbiaa
