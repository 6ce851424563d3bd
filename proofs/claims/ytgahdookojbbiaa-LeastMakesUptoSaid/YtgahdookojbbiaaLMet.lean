/- heronref11.met: the states met. No condition beyond those named in each lemma. -/
import Derived.Test.YtgahdookojbbiaaArr
namespace Go.Proofs.Ytgahdookojbbiaa
open Go.RowKit Go.Maps
set_option linter.unusedVariables false
set_option linter.unusedSimpArgs false
attribute [local go_sem] Oper.semAt_some

set_option maxRecDepth 100000 in
set_option maxHeartbeats 4000000 in
theorem rmet_any (x : TV) (hF : Fits x.T) (w : World) (hT : TabIn w w.heap.size x) :
    Calls Try.prog 45 #[.agg x.C'] w fun e w' => ∃ (g : Nat) (p : Nat → Bool), e = .returned (.slice (some ⟨g, 0, none⟩) x.rs.length x.rs.length) ∧ w.heap.size ≤ g ∧ Blk w' g 4 (arr eB x.rs.length p) ∧ (∀ s, s < x.rs.length → (p s = true ↔ Reach x.T.au s)) ∧ Below w.heap.size w w' := by
  have n1 : 1 ≤ x.rs.length := by have := hF.n1; rwa [fits_n] at this
  have n2 : x.rs.length ≤ 4096 := by have := hF.n2; rwa [fits_n] at this
  have hCg : TV.C' x = TV.C' x := rfl
  unfold TV.C' at hCg ⊢
  have hok := hF.ok
  have hAn : x.T.au.n = x.rs.length := fits_n
  go_enter Try.func45, Try.ntmps45
  obtain ⟨A, hA⟩ : ∃ A, A = x.A := ⟨_, rfl⟩
  have h1 := Blk.new w 47 (dfaC x.f x.A x.rs.length x.c x.B x.fo.length x.d x.C x.en.length x.e)
  have hB1 := below_alloc (Below.refl w.heap.size w) (.cells (dfaC x.f x.A x.rs.length x.c x.B x.fo.length x.d x.C x.en.length x.e) 47)
  go_upto_region 1 with (fail)
  obtain ⟨w1, hw1⟩ : ∃ y, y = w.alloc (.cells (dfaC x.f x.A x.rs.length x.c x.B x.fo.length x.d x.C x.en.length x.e) 47) := ⟨_, rfl⟩
  rw [← hw1] at h1 hB1 ⊢
  clear hw1 hA A
  have c1 : w1.cell? ⟨w.heap.size, 256, none⟩ = some (.slice x.A x.rs.length x.c) := blk_d1 h1
  go_upto_region 2 with (refine wl_makeF rfl _ _ rfl x.rs.length rfl rfl (by omega) ?_; intro w2 hb hB2)
  clear c1
  obtain ⟨g, hg⟩ : ∃ g, g = w1.heap.size := ⟨_, rfl⟩
  rw [← hg] at hb ⊢
  have hgw : w.heap.size ≤ g := by rw [hg]; exact hB1.size
  have hgne : w.heap.size ≠ g := by have := h1.lt; omega
  replace h1 := blk_then h1 hB2
  replace hB1 := below_then hB1 hB2
  clear hg hB2
  have n0 : (0 : Int) < x.rs.length := by omega
  go_upto_region 3 with (refine wl_store_arr eB true rfl _ _ _ rfl g 0 x.rs.length _ _ hb rfl rfl (by omega) info_boolS rfl rfl ?_; intro w3 hb3 hG3)
  replace hB1 := below_grown hB1 hG3 hgw
  replace h1 := blk_grown h1 hG3 hgne
  clear hb hG3 n0
  have hm0 : MetOk x.T.au (upd (fun _ => false) 0 true) (upd (fun _ => false) 0 true) false 0 := .start (fun i hi hp => by
    unfold upd at hp
    split at hp
    · rename_i e; subst e; exact .zero
    · cases hp) (by simp [upd])
  go_upto_region 4 with (fail)
  go_loopw [4] (fun mv wr => ∃ (more : Bool) (p : Nat → Bool), mv = .bool more ∧ Below w.heap.size w wr ∧ Blk wr w.heap.size 47 (dfaC x.f x.A x.rs.length x.c x.B x.fo.length x.d x.C x.en.length x.e) ∧ Blk wr g 4 (arr eB x.rs.length p) ∧ MetOk x.T.au p p false 0 ∧ (more = false → ∀ s, s < x.rs.length → (p s = true ↔ Reach x.T.au s))) (fun mv wr => match mv with | .bool true => x.rs.length - cntF (boolAt wr g) x.rs.length + 1 | _ => 0)
  case atStart => exact ⟨true, _, rfl, hB1, h1, hb3, hm0, fun h => by cases h⟩
  case round =>
    clear h1 hB1 hb3 hm0
    obtain ⟨more, p0, rfl, hB1, h1, hb, hm, hfin⟩ := hrel
    have hc0 := cntF_blk hb
    cases more with
    | false =>
      have hfin2 := hfin rfl
      replace hfin2 := Lib.hid hfin2
      clear hfin hc0 hm
      go_wp2_with (fail)
      go_ret
      exact ⟨g, p0, rfl, hgw, hb, hfin2.out, hB1⟩
    | true =>
      clear hfin
      replace hc0 := Lib.hid hc0
      go_upto_region 7 with (fail)
      go_loopw [5, 4] (fun sv mv wr => ∃ (s : Nat) (more : Bool) (p : Nat → Bool), s ≤ x.rs.length ∧ sv = .int .i64 s ∧ mv = .bool more ∧ Below w.heap.size w wr ∧ Blk wr w.heap.size 47 (dfaC x.f x.A x.rs.length x.c x.B x.fo.length x.d x.C x.en.length x.e) ∧ Blk wr g 4 (arr eB x.rs.length p) ∧ MetOk x.T.au p0 p more (s * 256)) (fun sv _ _ => x.rs.length - (intOf sv).toNat)
      case atStart => exact ⟨0, false, p0, by omega, rfl, rfl, hB1, h1, hb, by rw [Nat.zero_mul]; exact hm⟩
      case round =>
        clear h1 hB1 hb hm
        obtain ⟨s, more, p, hs, rfl, rfl, hB1, h1, hb, hm⟩ := hrel
        by_cases hsl : s < x.rs.length
        · have hsI : (s : Int) < x.rs.length := by omega
          go_upto_region 10 with (fail)
          go_loopw [6, 4] (fun bv mv wr => ∃ (b : Nat) (more : Bool) (p : Nat → Bool), b ≤ 256 ∧ bv = .int .i64 b ∧ mv = .bool more ∧ Below w.heap.size w wr ∧ Blk wr w.heap.size 47 (dfaC x.f x.A x.rs.length x.c x.B x.fo.length x.d x.C x.en.length x.e) ∧ Blk wr g 4 (arr eB x.rs.length p) ∧ MetOk x.T.au p0 p more (s * 256 + b)) (fun bv _ _ => 256 - (intOf bv).toNat)
          case atStart => exact ⟨0, more, p, by omega, rfl, rfl, hB1, h1, hb, hm⟩
          case round =>
            clear h1 hB1 hb hm
            obtain ⟨b, more, p, hbl, rfl, rfl, hB1, h1, hb, hm⟩ := hrel
            obtain ⟨q, hq⟩ : ∃ q, decide (((b : Nat) : Int) < 256) = q := ⟨_, rfl⟩
            go_upto_region 10 with (fail)
            refine wp_region_text 8 [eqS (.int .i64 (((b : Nat) : Int))), eqS (.bool q), eqS (.bool q), eqS (vF (true && (q == true)) (.slice (some ⟨g, 0, none⟩) x.rs.length x.rs.length)), eqS (vF (true && (q == true)) (.int .i64 (((s : Nat) : Int)))), eqS (vF (true && (q == true)) (.pointer (some ⟨g, 0 + s * 1, none⟩))), eqS (vF (true && (q == true)) (.bool (p s))), eqS (.bool (q && (p s)))] [21, 22, 23, 24, 25, 26, 27, 28] (by kernel_rfl) rfl ?_ ?_
            · skip
              refine Steps.cons (fun a' w' hG hB dep => gs_move (want_none rfl) _ rfl (id (hG.other 6 rfl))) ?_
              refine Steps.cons (fun a' w' hG hB dep => gs_lss_int (want_none rfl) _ _ _ _ rfl _ _ _ (dep 0 rfl 21 rfl) rfl (id (congrArg Value.bool hq))) ?_
              refine Steps.cons (fun a' w' hG hB dep => gs_move (want_none rfl) _ rfl (id (dep 1 rfl 22 rfl))) ?_
              refine Steps.cons (fun a' w' hG hB dep => gs_guard (c := true) (b' := q) rfl rfl (dep 2 rfl 23 rfl) (fun hc he hw => gs_move hw _ rfl (Eq.trans (hG.other 3 rfl) (vF_yes (on_g hc he) _).symm)) (fun hn => vF_no hn _)) ?_
              refine Steps.cons (fun a' w' hG hB dep => gs_guard (c := true) (b' := q) rfl rfl (dep 2 rfl 23 rfl) (fun hc he hw => gs_move hw _ rfl (Eq.trans (hG.other 5 rfl) (vF_yes (on_g hc he) _).symm)) (fun hn => vF_no hn _)) ?_
              refine Steps.cons (fun a' w' hG hB dep => gs_guard (c := true) (b' := q) rfl rfl (dep 2 rfl 23 rfl) (fun hc he hw => gs_index hw _ _ _ rfl under_bools 1 size_boolE g 0 x.rs.length x.rs.length (s) (Eq.trans (dep 3 rfl 24 rfl) (vF_yes (on_g hc he) _)) (Eq.trans (dep 4 rfl 25 rfl) (vF_yes (on_g hc he) _)) hsl (vF_yes (on_g hc he) _).symm) (fun hn => vF_no hn _)) ?_
              refine Steps.cons (fun a' w' hG hB dep => gs_guard (c := true) (b' := q) rfl rfl (dep 2 rfl 23 rfl) (fun hc he hw => gs_load1 hw _ _ rfl g (0 + s * 1) (Eq.trans (dep 5 rfl 26 rfl) (vF_yes (on_g hc he) _)) (.bool (p s)) (blk_arr (blk_then hb hB) hsl) _ Try.underlying4 rfl (vF_yes (on_g hc he) _).symm) (fun hn => vF_no hn _)) ?_
              refine Steps.cons (fun a' w' hG hB dep => gs_pick (want_none rfl) _ _ _ rfl q (dep 2 rfl 23 rfl) (id (pick_and2 (c := true) rfl (dep 6 rfl 27 rfl)))) ?_
              exact Steps.nil
            intro u w4 hw4 ans
            have hus28 : u 28 = (.bool (q && (p s))) := ans 7 28 (by decide) rfl
            clear ans
            simp only [putAll, List.foldl_cons, List.foldl_nil, Act.put, List.setIfInBounds_toArray, List.set_cons_zero, List.set_cons_succ, hus28]
            clear hus28
            simp only [List.drop]
            refine wpList_nil ?_
            replace hB1 := below_then hB1 hw4
            replace h1 := blk_then h1 hw4
            replace hb := blk_then hb hw4
            clear hw4
            obtain ⟨r, hr⟩ : ∃ r, (q && (p s)) = r := ⟨_, rfl⟩
            rw [hr]
            cases r with
            | false =>
              have hm2 : MetOk x.T.au p0 p more ((s + 1) * 256) := by
                rw [show (s + 1) * 256 = s * 256 + 256 by omega]
                rcases Nat.lt_or_ge b 256 with hlt | hge
                · have hq1 : q = true := by rw [← hq]; exact decide_eq_true (by omega)
                  rw [hq1, Bool.true_and] at hr
                  exact hm.skip rfl hr
                · have : b = 256 := by omega
                  subst this
                  exact hm
              clear hr hq hm
              go_wp2_with (fail)
              exact ⟨⟨s + 1, more, p, by omega, rfl, rfl, hB1, h1, hb, hm2⟩, by simp only [intOf]; omega⟩
            | true =>
              rw [Bool.and_eq_true] at hr
              obtain ⟨rfl, hps⟩ := hr
              have hb2 : b < 256 := by have := of_decide_eq_true hq; omega
              have hc := goes_any x hF s b hsl hb2 _ (hT.then_ hB1)
              unfold TV.C' at hc
              have htl : x.T.au.go s b < x.rs.length := by rw [← hAn]; exact hok.lt s b (by rw [hAn]; exact hsl) hb2
              obtain ⟨t, ht⟩ : ∃ t, t = x.T.au.go s b := ⟨_, rfl⟩
              rw [← ht] at hc htl
              have htI : (t : Int) < x.rs.length := by omega
              replace ht := Lib.hid ht
              replace hps := Lib.hid hps
              clear hq
              go_upto_region 13 with (first | (refine wl_load_dfa rfl _ rfl _ rfl h1 ?_) | (go_at_call 48; refine hc.mono ?_; rintro e w5 ⟨rfl, hB5⟩))
              replace hB1 := below_then hB1 hB5
              replace h1 := blk_then h1 hB5
              replace hb := blk_then hb hB5
              clear hB5 hc
              obtain ⟨q, hq⟩ : ∃ q, p t = q := ⟨_, rfl⟩
              have cp : w5.cell? ⟨g, t, none⟩ = some (.bool q) := by rw [← hq]; exact blk_arrv hb htl
              cases q with
              | true =>
                have hm2 : MetOk x.T.au p0 p more (s * 256 + (b + 1)) := hm.stay rfl hb2 (by rw [← ht.out]; exact hq)
                replace hm2 := Lib.hid hm2
                clear hm hq ht
                go_wp2_with (fail)
                exact ⟨⟨b + 1, more, p, by omega, rfl, rfl, hB1, h1, hb, hm2.out⟩, by simp only [intOf]; omega⟩
              | false =>
                have hm2 : MetOk x.T.au p0 (upd p t true) true (s * 256 + (b + 1)) := by
                  rw [ht.out]
                  exact hm.add hok (by rw [hAn]; exact hsl) hb2 hps.out (by rw [← ht.out]; exact hq) _
                replace hm2 := Lib.hid hm2
                clear hm hq ht
                go_wp2_with (refine wl_store_arr eB true rfl _ _ _ rfl g t x.rs.length _ _ hb rfl rfl htl info_boolS rfl rfl ?_; intro w6 hb6 hG6)
                exact ⟨⟨b + 1, true, _, by omega, rfl, rfl, below_grown hB1 hG6 hgw, blk_grown h1 hG6 hgne, hb6, hm2.out⟩, by simp only [intOf]; omega⟩
        · have hsI : ¬ (s : Int) < x.rs.length := by omega
          have hse : s = x.rs.length := by omega
          have hm2 : MetOk x.T.au p p false 0 := .start hm.snd hm.zero
          have hfin : more = false → ∀ s, s < x.rs.length → (p s = true ↔ Reach x.T.au s) := fun e => by
            subst e
            have := MetOk.done (A := x.T.au) (p0 := p0) (p := p) (by rw [hAn, ← hse]; exact hm) hok
            rw [hAn] at this
            exact this
          have hme : more = true → cntF p0 x.rs.length < cntF p x.rs.length := by have := hm.yes; rwa [hAn] at this
          have hc1 := cntF_blk hb
          have hcl := cntF_le p x.rs.length
          replace hc1 := Lib.hid hc1
          replace hm2 := Lib.hid hm2
          replace hfin := Lib.hid hfin
          replace hme := Lib.hid hme
          clear hm
          go_wp2_with (fail)
          refine ⟨⟨more, p, rfl, hB1, h1, hb, hm2.out, hfin.out⟩, ?_⟩
          cases more with
          | false => simp only; omega
          | true =>
            have := hme.out rfl
            simp only
            rw [hc0.out, hc1.out]
            omega
theorem enter_rmet (args : Array Value) (w : World) : (callFunc 45 args).run Try.prog w = .ok (.enter 45 args) w := by kernel_rfl
end Go.Proofs.Ytgahdookojbbiaa
