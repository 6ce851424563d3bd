/- Part 9 of a proof; packed: the texts that it was made of follow one another. No condition beyond those named in each lemma. -/
import Derived.Test.YtajainmldcnaeaaPn6
import Derived.Test.YtajainmldcnaeaaPn8
import Derived.Laws.CopyOwn
namespace Go.Proofs.Ytajainmldcnaeaa
open Go.RowKit Go.Shelf Go.Maps
set_option linter.unusedVariables false
set_option linter.unusedSimpArgs false
attribute [local go_sem] Oper.semAt_some

theorem own_grown' {α : Type} {enc : α → Array Value} {size base b r n c : Nat} {e : TypeId} {w w' : World} {ys : List α} (h : Own w base e size enc (.slice (some ⟨b, 0, none⟩) n c) ys) (k : w.grownBy w' (some r)) (hb : b ≠ r) : Own w' base e size enc (.slice (some ⟨b, 0, none⟩) n c) ys :=
  own_block h fun g hg => by
    have : b = g := by simpa [Value.ownBlock] using hg
    subst this
    exact k.block b (h.lt b rfl).2 (by simp; exact hb)
set_option maxRecDepth 100000 in
set_option maxHeartbeats 4000000 in
theorem met_any (B0 N n c0 m d0 : Nat) (E : List Edg) (R : List Nat) (A B : Option Addr) (q : ByteArray) (hq : q.size ≤ 1099511627776) (w : World) (hM : RMach B0 w N E R A n B m) :
    Calls Try.prog 32 #[.agg (nfaC (N : Int) A n c0 B m d0), .string q] w fun e w' => e = .returned (.int .u32 (Mt.mV E R N q (q.size + 1) : Nat)) ∧ Below w.heap.size w w' := by
  have hN := hM.lN
  have hone := hM.fits.one
  have hEb := fits_b hM.fits
  have HmN := Lib.hid hM.mR
  have hlow := hM.low
  have hRlt : ∀ r ∈ R, r < 2 ^ 32 := hM.lt
  have HM := Lib.hid hM
  clear hM
  go_enter Try.func32, Try.ntmps32
  have h1 := Blk.new w 52 (nfaC (N : Int) A n c0 B m d0)
  have hB1 : Below w.heap.size w (w.alloc (.cells (nfaC (N : Int) A n c0 B m d0) 52)) := below_alloc (Below.refl _ _) _
  go_upto_region 1 with (fail)
  obtain ⟨W1, hW1⟩ : ∃ y, y = w.alloc (.cells (nfaC (N : Int) A n c0 B m d0) 52) := ⟨_, rfl⟩
  rw [← hW1] at h1 hB1 ⊢
  clear hW1
  have c1 : W1.cell? ⟨w.heap.size, 0, none⟩ = some (.int .i64 (N : Int)) := h1.cellv (i := 0) rfl
  obtain ⟨gm, hgm⟩ : ∃ y, y = w.heap.size := ⟨_, rfl⟩
  have hgl := h1.lt
  have hgm2 : w.heap.size ≤ gm := by omega
  rw [← hgm] at h1 c1 hgl ⊢
  clear hgm
  go_upto_region 3 with (refine wl_makeB rfl _ _ rfl N w.heap.size rfl rfl hN hB1.size ?_; intro w2 hS2 hB2)
  obtain ⟨g0, hg0⟩ : ∃ y, y = W1.heap.size := ⟨_, rfl⟩
  rw [← hg0] at hS2 ⊢
  have hgg : gm < g0 := by omega
  clear hg0
  replace h1 := blk_then h1 hB2
  replace hB1 := below_then hB1 hB2
  clear hB2 c1 hgl
  go_wp2_with (fail)
  go_loopw [5, 6, 7] (fun rv iv kv wr => ∃ (k y g : Nat), k ≤ q.size ∧ rv = .int .u32 ((Mt.mV E R N q k : Nat) : Int) ∧ iv = .slice (some ⟨g, 0, none⟩) N N ∧ kv = .int .i64 k ∧ below y N ∧ y ||| 2 ^ 0 = Mt.mpre E N q k ∧ gm < g ∧ Own wr w.heap.size 4 1 encB (.slice (some ⟨g, 0, none⟩) N N) (boolsN y N) ∧ Blk wr gm 52 (nfaC (N : Int) A n c0 B m d0) ∧ Below w.heap.size w wr) (fun _ _ kv _ => q.size + 1 - (intOf kv).toNat)
  case atStart => exact ⟨0, 0, g0, by omega, rfl, rfl, rfl, below_zero _, by simp [Mt.mpre], hgg, hS2, h1, hB1⟩
  case round =>
    clear h1 hB1 hS2 hgg
    obtain ⟨k, y, g, hk, rfl, rfl, rfl, hyN, hy0, hgg, hS, h1, hB⟩ := hrel
    have hkI : (k : Int) ≤ q.size := by omega
    have hkb : k < 1099511628000 := by omega
    have Hy0 := Lib.hid hy0
    clear hy0
    obtain ⟨r0, hr0⟩ : ∃ r, r = Mt.mV E R N q k := ⟨_, rfl⟩
    have hr0l : r0 < 4294967296 := by rw [hr0]; exact Mt.mV_lt hRlt N q k
    rw [← hr0]
    have Hr0 := Lib.hid hr0
    clear hr0
    go_upto_region 7 with (refine wl_store_one (enc := encB) encB_size rfl _ info_bool1 _ _ rfl g 0 N N rfl true rfl rfl rfl hS (by rw [boolsN_length]; exact hone) ?_; intro w3 hS3 hg3)
    rw [boolsN_set, Hy0.out] at hS3
    have h13 := blk_grown h1 hg3 (by omega)
    have hB3 := below_grown hB hg3 (by omega)
    have hgB : B0 ≤ g := by omega
    clear hS h1 hB hg3 Hy0 hyN
    have hM3 := HM.out.then_ hB3
    have hpN := Mt.mpre_below (E := E) (N := N) hone q k
    have hXd : Mt.mx E N q k = spreadN E N (decide (k = 0)) (decide (k = q.size)) (Mt.mpre E N q k) := rfl
    obtain ⟨bb, hbb⟩ : ∃ b, decide (k = 0) = b := ⟨_, rfl⟩
    obtain ⟨be, hbe⟩ : ∃ b, decide (k = q.size) = b := ⟨_, rfl⟩
    have hbb2 : ((k : Int) == 0) = bb := by rw [← hbb, Bool.eq_iff_iff]; simp
    have hbe2 : ((k : Int) == (q.size : Int)) = be := by rw [← hbe, Bool.eq_iff_iff]; simp; omega
    rw [hbb, hbe] at hXd
    have HXd := Lib.hid hXd
    have Hbe := Lib.hid hbe
    clear hXd hbb hbe
    go_upto_region 8 with (first | (refine wl_load_nfa rfl _ rfl _ rfl _ _ _ _ _ _ _ h13 ?_) | (go_at_call 53; refine (reach_any B0 N n c0 m d0 E R A B w.heap.size g N (Mt.mpre E N q k) bb be hpN w3 hM3 hS3 hgB).mono ?_; rintro e w4 ⟨rfl, hS4, hT4⟩))
    rw [← HXd.out] at hS4
    obtain ⟨x, hx⟩ : ∃ x, x = Mt.mx E N q k := ⟨_, rfl⟩
    have hxN : below x N := by rw [hx]; exact spread_below _ _ _ _ _
    rw [← hx] at hS4
    have Hx := Lib.hid hx
    have h14 := blk_turn h13 hT4 (by omega)
    have hB4 : Below w.heap.size w w4 := hB3.trans (hT4.below (N := w.heap.size) (by omega) hB3.size)
    clear hx hbb2 hS3 h13 hB3 hT4 hM3 hpN
    have hM4 := HM.out.then_ hB4
    have hcell : ∀ j, j < N → w4.cell? ⟨g, j, none⟩ = some (.bool (x.testBit j)) := fun j hj => by
      have hl : j < (boolsN x N).length := by rw [boolsN_length]; exact hj
      have := hS4.row encB_size j hl 0 _ rfl
      rw [boolsN_get, Nat.mul_one] at this
      exact this
    have Hcell := Lib.hid hcell
    clear hcell
    obtain ⟨bR, offR, hBe, hbR, hrowR⟩ := hM4.rules.at_ (by rw [hM4.fits.rules]; exact hone)
    have hRl := hM4.fits.rules
    have hcellR : ∀ j, j < N → w4.cell? ⟨bR, offR + j, none⟩ = some (.int .u32 (R.getD j 0 : Nat)) := fun j hj => by
      have hl : j < R.length := by rw [hRl]; exact hj
      have := hrowR j hl 0 _ rfl
      rw [Nat.mul_one] at this
      rw [List.getD_eq_getElem?_getD, List.getElem?_eq_getElem hl, Option.getD_some]
      exact this
    have HcellR := Lib.hid hcellR
    have c2 : w4.cell? ⟨gm, 2, none⟩ = some (.slice (some ⟨bR, offR, none⟩) N d0) := by
      rw [← HmN.out, ← hBe]; exact h14.cellv (i := 2) rfl
    have Hrest := Lib.hid (And.intro hM4 (And.intro h14 (And.intro hB4 hS4)))
    clear hcellR hrowR hRl hM4 h14 hB4 hS4 hBe
    go_wp2_with (fail)
    go_loopw [5, 35] (fun rv iv wi => ∃ j : Nat, j ≤ N ∧ iv = .int .i64 j ∧ rv = .int .u32 ((r0 ||| orL R (bitsTo x j) : Nat) : Int) ∧ wi = w4) (fun _ iv _ => N - (intOf iv).toNat)
    case atStart => exact ⟨0, by omega, rfl, by simp [orL, bitsTo], rfl⟩
    case round =>
      obtain ⟨j, hj, rfl, rfl, rfl⟩ := hrel
      by_cases hjl : j < N
      · have hjI : (j : Int) < N := by omega
        have hc := Hcell.out j hjl
        have hcr := HcellR.out j hjl
        have hjb : j < 1099511628000 := by omega
        have Hs := Lib.hid (bitsTo_succ x j)
        obtain ⟨v, hv⟩ : ∃ v, v = r0 ||| orL R (bitsTo x j) := ⟨_, rfl⟩
        have hvl : v < 4294967296 := by rw [hv]; exact or_lt32 hr0l (orL_lt (fun r hr => hRlt r hr) _)
        have hor := u32_or_nat v (R.getD j 0) hvl (ruleD_lt (fun r hr => hRlt r hr) j)
        obtain ⟨rk, hrk⟩ : ∃ q, q = R.getD j 0 := ⟨_, rfl⟩
        rw [← hrk] at hor hcr
        have Hrk := Lib.hid hrk
        clear hrk
        rw [← hv]
        have Hv := Lib.hid hv
        clear hv
        cases hb : x.testBit j
        · rw [hb] at hc
          go_wp2_with (fail)
          exact ⟨⟨j + 1, by omega, rfl, by rw [Hs.out, if_neg (by rw [hb]; decide), ← Hv.out], trivial⟩, by simp only [intOf]; omega⟩
        · rw [hb] at hc
          go_wp2_with (fail)
          refine ⟨⟨j + 1, by omega, rfl, ?_, trivial⟩, by simp only [intOf]; omega⟩
          rw [Hs.out, if_pos hb, orL_snoc, ← Nat.or_assoc, ← Hv.out, ← Hrk.out]
      · have hjI : ¬ (j : Int) < N := by omega
        obtain rfl : N = j := by omega
        have hV : r0 ||| orL R (bitsTo x N) = Mt.mV E R N q (k + 1) := by rw [Hr0.out, Hx.out]; rfl
        rw [hV]
        clear hV Hcell HcellR c2 hj hjl hr0l Hr0
        obtain ⟨hM4, h14, hB4, hS4⟩ := Hrest.out
        clear Hrest HXd
        obtain ⟨r1, hr1⟩ : ∃ r, r = Mt.mV E R N q (k + 1) := ⟨_, rfl⟩
        rw [← hr1]
        have Hr1 := Lib.hid hr1
        clear hr1
        have c0' : wr.cell? ⟨gm, 0, none⟩ = some (.int .i64 (N : Int)) := h14.cellv (i := 0) rfl
        have c1' : wr.cell? ⟨gm, 1, none⟩ = some (.slice A n c0) := h14.cellv (i := 1) rfl
        cases be with
        | true =>
          have hks : k = q.size := of_decide_eq_true Hbe.out
          have Hks := Lib.hid hks
          clear hks
          go_wp2_with (fail)
          go_ret
          exact ⟨by rw [Hr1.out, Hks.out]; rfl, hB4⟩
        | false =>
        have hks : ¬ k = q.size := of_decide_eq_false Hbe.out
        have hkq : k < q.size := by omega
        go_upto_region 16 with (refine wl_makeB rfl _ _ rfl N w.heap.size rfl rfl hN hB4.size ?_; intro w5 hS5 hB5)
        obtain ⟨g2, hg2⟩ : ∃ y, y = wr.heap.size := ⟨_, rfl⟩
        have hgl4 := (hS4.lt g rfl).2
        rw [← hg2] at hS5 ⊢
        have hgg2 : g < g2 := by omega
        clear hg2 c0' hjI
        replace hS4 := hS4.then_ hB5
        replace h14 := blk_then h14 hB5
        replace hB4 := below_then hB4 hB5
        have c1' : w5.cell? ⟨gm, 1, none⟩ = some (.slice A n c0) := h14.cellv (i := 1) rfl
        clear hB5 hM4
        have hn2 : n ≤ 1099511627776 := by rw [HM.out.nE]; exact HM.out.lE
        have Hn := Lib.hid HM.out.nE
        go_wp2_with (fail)
        clear c1'
        go_loopw [59] (fun iv wi => ∃ j : Nat, j ≤ n ∧ iv = .int .i64 j ∧ Own wi w.heap.size 4 1 encB (.slice (some ⟨g2, 0, none⟩) N N) (boolsN (hopRL (E.take j) x (Ere.chr q k) 0) N) ∧ Own wi w.heap.size 4 1 encB (.slice (some ⟨g, 0, none⟩) N N) (boolsN x N) ∧ Blk wi gm 52 (nfaC (N : Int) A n c0 B m d0) ∧ Below w.heap.size w wi) (fun iv _ => n - (intOf iv).toNat)
        case atStart => exact ⟨0, by omega, rfl, hS5, hS4, h14, hB4⟩
        case round =>
          clear hS5 hS4 h14 hB4
          obtain ⟨j, hj, rfl, hS5, hS4, h14, hB4⟩ := hrel
          by_cases hjl : j < n
          · have hjI : (j : Int) < n := by omega
            have hjE : j < E.length := by rw [← Hn.out]; exact hjl
            have hM5 := HM.out.then_ hB4
            obtain ⟨bA, offA, hAe, hbA, hrows⟩ := hM5.edges.at_ (by omega)
            have hr0 := hrows j hjE
            obtain ⟨dd, hd⟩ : ∃ d, d = E[j] := ⟨_, rfl⟩
            rw [← hd] at hr0
            have hdE : dd ∈ E := by rw [hd]; exact List.getElem_mem hjE
            have htk : hopRL (E.take (j + 1)) x (Ere.chr q k) 0 = hopR x (Ere.chr q k) (hopRL (E.take j) x (Ere.chr q k) 0) dd := by rw [List.take_succ_eq_append_getElem hjE, ← hd, hopRL_snoc]
            have hyN := Mt.hop_below (E := E.take j) (N := N) (x := x) (c := Ere.chr q k) (fun d hd => hEb d (List.mem_of_mem_take hd)) (below_zero N)
            obtain ⟨b, hb⟩ : ∃ b, b = Ere.chr q k := ⟨_, rfl⟩
            have hbq : q[k].toNat = b := by rw [hb]; unfold Ere.chr; rw [dif_pos hkq]
            have hb8 : b < 256 := by rw [← hbq]; exact q[k].toNat_lt
            rw [← hb] at hS5 htk hyN ⊢
            obtain ⟨z, hz⟩ : ∃ z, z = hopRL (E.take j) x b 0 := ⟨_, rfl⟩
            rw [← hz] at hS5 htk hyN
            have Htk := Lib.hid htk
            clear hd htk hz hb hjE hrows hM5
            subst hAe
            have hjb : j < 1099511628000 := by omega
            go_upto_region 19 with (first | (refine wl_load_edge_at rfl _ rfl _ _ rfl _ hr0 ?_) | (refine wl_store_edge rfl _ _ rfl _ _ rfl rfl edge0 (Blk.new _ _ _) ?_; intro w6 h5 hg3))
            have hB3 := below_grown (below_alloc (Below.refl _ wr) (.cells #[.int .i64 0, .int .i64 0, .int .i64 0, .int .u64 0, .int .u64 0, .int .u64 0, .int .u64 0] 67)) hg3 (Nat.le_refl _)
            replace hS5 := hS5.then_ hB3
            replace hS4 := hS4.then_ hB3
            replace h14 := blk_then h14 hB3
            replace hB4 := below_then hB4 hB3
            obtain ⟨ge, hge⟩ : ∃ q, q = wr.heap.size := ⟨_, rfl⟩
            rw [← hge] at h5 ⊢
            clear hge hg3 hr0 c1' hB3
            have hfb := hEb dd hdE
            obtain ⟨p, hp⟩ : ∃ q : Nat, dd.fr = (q : Int) := ⟨dd.fr.toNat, by omega⟩
            obtain ⟨t, ht⟩ : ∃ q : Nat, dd.tt = (q : Int) := ⟨dd.tt.toNat, by omega⟩
            have hpN : p < N := by omega
            have htN : t < N := by omega
            have hpt : dd.fr.toNat = p := by omega
            have htt : dd.tt.toNat = t := by omega
            obtain ⟨xp, hxp0⟩ : ∃ b, x.testBit p = b := ⟨_, rfl⟩
            obtain ⟨k2, hk2⟩ : ∃ b, (dd.kd == 2) = b := ⟨_, rfl⟩
            obtain ⟨sb, hsb⟩ : ∃ v, dd.st.getLsbD b = v := ⟨_, rfl⟩
            have hhop : hopR x b z dd = if ((k2 && xp) && sb) = true then z ||| 2 ^ t else z := by unfold hopR; rw [hk2, hpt, hxp0, hsb, htt]
            have Hhop := Lib.hid hhop
            have ck : w6.cell? ⟨ge, 0, none⟩ = some (.int .i64 dd.kd) := h5.cellv (i := 0) rfl
            have cp : w6.cell? ⟨ge, 1, none⟩ = some (.int .i64 ((p : Nat) : Int)) := by rw [← hp]; exact h5.cellv (i := 1) rfl
            have cq : ∀ W, Below w6.heap.size w6 W → W.cell? ⟨ge, 2, none⟩ = some (.int .i64 ((t : Nat) : Int)) := fun W hW => by rw [← ht]; exact (blk_then h5 hW).cellv (i := 2) rfl
            have Hcq := Lib.hid cq
            have cw : w6.cell? ⟨ge, 3 + b / 64, none⟩ = some (.int .u64 ((word dd.st (b / 64) : Nat) : Int)) := by
              have h4 : b / 64 < 4 := by omega
              rcases (show b / 64 = 0 ∨ b / 64 = 1 ∨ b / 64 = 2 ∨ b / 64 = 3 by omega) with e | e | e | e <;> (rw [e]; exact h5.cellv rfl)
            have hxp : w6.cell? ⟨g, p, none⟩ = some (.bool xp) := by
              have hl : p < (boolsN x N).length := by rw [boolsN_length]; exact hpN
              have := hS4.row encB_size p hl 0 _ rfl
              rw [boolsN_get, hxp0, Nat.mul_one] at this
              exact this
            have hk0 : ¬ (k : Int) < 0 := by omega
            have hkqI : (k : Int) < q.size := by omega
            have hbI : (b : Int) < 256 := by omega
            obtain ⟨wd, hwd⟩ : ∃ v, v = word dd.st (b / 64) := ⟨_, rfl⟩
            have hwl : wd < 18446744073709551616 := by rw [hwd]; exact word_lt _ _
            rw [← hwd] at cw
            have Hbit := Lib.hid (word_bit (x := dd.st) hb8)
            have Hwd := Lib.hid hwd
            have Hhp := Lib.hid (And.intro hp ht)
            have Hpt := Lib.hid (And.intro hpt htt)
            have Hsb := Lib.hid hsb
            clear hhop cq hwd hp ht hpt htt hsb hfb
            have Hst := Lib.hid (And.intro hS5 (And.intro hS4 (And.intro h14 (And.intro hB4 h5))))
            clear hS5 hS4 h14 hB4 h5
            simp only [Act.put]
            go_cut [88] from 63 to 89 (fun v wx => Below w6.heap.size w6 wx ∧ v = .bool ((k2 && xp) && sb))
            case first =>
              cases k2 with
              | false =>
                go_big_region
                go_wp2_with (fail)
                go_meet
                exact ⟨(Below.refl _ _).drew, rfl⟩
              | true =>
                have e2 : dd.kd = 2 := by simpa using hk2
                rw [e2] at ck
                clear hk2
                cases xp with
                | false =>
                  go_big_region
                  go_wp2_with (fail)
                  go_meet
                  exact ⟨(Below.refl _ _).drew, rfl⟩
                | true =>
                  go_big_region
                  go_wp2_with (fail)
                  go_meet
                  refine ⟨(Below.refl _ _).drew, ?_⟩
                  rw [Hwd.out, hasB hb8, Hsb.out]
                  simp
            obtain ⟨hBx, rfl⟩ := hcut
            clear ck cp cw hxp
            obtain ⟨hS5, hS4, h14, hB4, h5⟩ := Hst.out
            replace hS5 := hS5.then_ hBx
            replace hS4 := hS4.then_ hBx
            replace h14 := blk_then h14 hBx
            replace hB4 := below_then hB4 hBx
            have cq := Hcq.out _ hBx
            obtain ⟨f, hf⟩ : ∃ f, ((k2 && xp) && sb) = f := ⟨_, rfl⟩
            have hhop := Hhop.out
            rw [hf] at hhop ⊢
            clear Hhop Hst Hcq h5 hBx hf
            cases f with
            | false =>
              rw [if_neg (by decide)] at hhop
              have Hhop := Lib.hid hhop
              clear hhop cq
              go_wp2_with (fail)
              exact ⟨⟨j + 1, by omega, rfl, by rw [Htk.out, Hhop.out]; exact hS5, hS4, h14, hB4⟩, by simp only [intOf]; omega⟩
            | true =>
              rw [if_pos rfl] at hhop
              have Hhop := Lib.hid hhop
              clear hhop
              have hg2b := hS5.lt g2 rfl
              go_wp2_with (refine wl_store_one (enc := encB) encB_size rfl _ info_bool1 _ _ rfl g2 t N N rfl true rfl rfl rfl hS5 (by rw [boolsN_length]; exact htN) ?_; intro w7 hS7 hg7)
              rw [boolsN_set] at hS7
              exact ⟨⟨j + 1, by omega, rfl, by rw [Htk.out, Hhop.out]; exact hS7, own_grown' hS4 hg7 (by omega), blk_grown h14 hg7 (by omega), below_grown hB4 hg7 hg2b.1⟩, by simp only [intOf]; omega⟩
          · have hjI : ¬ (j : Int) < n := by omega
            have hjn : E.take j = E := List.take_of_length_le (by rw [← Hn.out]; omega)
            rw [hjn] at hS5
            have hnx := Lib.hid (Mt.mpre_hop hone hEb q k)
            have Hx2 := Lib.hid (congrArg (fun z => hopRL E z (Ere.chr q k) 0) Hx.out)
            go_wp2_with (fail)
            exact ⟨⟨k + 1, hopRL E x (Ere.chr q k) 0, g2, by omega, by rw [Hr1.out], rfl, rfl, Mt.hop_below hEb (below_zero _), by rw [Hx2.out]; exact hnx.out, by omega, hS5, h14, hB4⟩, by simp only [intOf]; omega⟩
end Go.Proofs.Ytajainmldcnaeaa
namespace Go.Proofs.Ytajainmldcnaeaa
open Go.RowKit Go.Shelf Go.Maps
set_option linter.unusedVariables false
set_option linter.unusedSimpArgs false
attribute [local go_sem] Oper.semAt_some

theorem own_bits {w : World} {base g N c x : Nat} (h : Own w base 4 1 encB (.slice (some ⟨g, 0, none⟩) N c) (boolsN x N)) : ∀ j, j < N → w.cell? ⟨g, j, none⟩ = some (.bool (x.testBit j)) := fun j hj => by
  have hl : j < (boolsN x N).length := by rw [boolsN_length]; exact hj
  have := h.row encB_size j hl 0 _ rfl
  rw [boolsN_get, Nat.mul_one] at this
  exact this
set_option maxRecDepth 100000 in
set_option maxHeartbeats 4000000 in
theorem add_any (base base2 g g2 N c c2 x y : Nat) (hN : N ≤ 1099511627776) (hx : below x N) (hy : below y N) (hne : g ≠ g2) (w : World) (hS : Own w base 4 1 encB (.slice (some ⟨g, 0, none⟩) N c) (boolsN x N)) (hY : Own w base2 4 1 encB (.slice (some ⟨g2, 0, none⟩) N c2) (boolsN y N)) :
    Calls Try.prog 64 #[.slice (some ⟨g, 0, none⟩) N c, .slice (some ⟨g2, 0, none⟩) N c2] w fun e w' => e = .returned (.bool (!decide (x ||| y = x))) ∧ Own w' base 4 1 encB (.slice (some ⟨g, 0, none⟩) N c) (boolsN (x ||| y) N) ∧ Turn g (g + 1) w w' := by
  have HY := Lib.hid hY
  clear hY
  have hT0 := Turn.refl g (g + 1) w
  go_enter Try.func64, Try.ntmps64
  go_wp2_with (fail)
  go_loopw [5, 9] (fun mv iv wr => ∃ (k z : Nat), k ≤ N ∧ mv = .bool (!decide (z = x)) ∧ iv = .int .i64 k ∧ below z N ∧ (∀ i, z.testBit i = (x.testBit i || (decide (i < k) && y.testBit i))) ∧ Own wr base 4 1 encB (.slice (some ⟨g, 0, none⟩) N c) (boolsN z N) ∧ Turn g (g + 1) w wr) (fun _ iv _ => N - (intOf iv).toNat)
  case atStart => exact ⟨0, x, by omega, by simp, rfl, hx, fun i => by simp, hS, hT0⟩
  case round =>
    clear hS hT0
    obtain ⟨k, z, hk, rfl, rfl, hz, hzb, hS, hT⟩ := hrel
    obtain ⟨mb, hmb⟩ : ∃ b, (!decide (z = x)) = b := ⟨_, rfl⟩
    rw [hmb]
    have Hmb := Lib.hid hmb
    have Hzb := Lib.hid hzb
    clear hmb hzb
    by_cases hkl : k < N
    · have hkI : (k : Int) < N := by omega
      have hkb : k < 1099511628000 := by omega
      have c1 := own_bits hS k hkl
      have c2' : wr.cell? ⟨g2, k, none⟩ = some (.bool (y.testBit k)) := own_bits (own_turn HY.out hT (by omega)) k hkl
      obtain ⟨yk, hyk⟩ : ∃ b, y.testBit k = b := ⟨_, rfl⟩
      obtain ⟨zk, hzk⟩ : ∃ b, z.testBit k = b := ⟨_, rfl⟩
      rw [hyk] at c2'
      rw [hzk] at c1
      have hxk : x.testBit k = zk := by
        have := Hzb.out k
        rw [hzk] at this
        simpa using this.symm
      have hstay : (yk = false ∨ zk = true) → ∀ i, z.testBit i = (x.testBit i || (decide (i < k + 1) && y.testBit i)) := fun h i => by
        rw [Hzb.out i]
        by_cases e : i = k
        · subst e
          rw [hxk, hyk]
          rcases h with rfl | rfl <;> simp
        · have : (decide (i < k) : Bool) = decide (i < k + 1) := by
            rw [Bool.eq_iff_iff]; simp; omega
          rw [this]
      have Hstay := Lib.hid hstay
      have Hh := Lib.hid (And.intro hyk (And.intro hzk hxk))
      clear hstay hyk hzk hxk
      cases yk with
      | false =>
        go_wp2_with (fail)
        exact ⟨⟨k + 1, z, by omega, by rw [Hmb.out], rfl, hz, Hstay.out (.inl rfl), hS, hT⟩, by simp only [intOf]; omega⟩
      | true =>
      cases zk with
      | true =>
        go_wp2_with (fail)
        exact ⟨⟨k + 1, z, by omega, by rw [Hmb.out], rfl, hz, Hstay.out (.inr rfl), hS, hT⟩, by simp only [intOf]; omega⟩
      | false =>
        have hgb := hS.lt g rfl
        go_wp2_with (refine wl_store_one (enc := encB) encB_size rfl _ info_bool1 _ _ rfl g k N c rfl true rfl rfl rfl hS (by rw [boolsN_length]; exact hkl) ?_; intro w7 hS7 hg7)
        rw [boolsN_set] at hS7
        obtain ⟨e1, e2, e3⟩ := Hh.out
        have hnex : ¬ (z ||| 2 ^ k) = x := fun e => by
          have : (z ||| 2 ^ k).testBit k = true := by rw [testBit_or_pow]; simp
          rw [e, e3] at this
          cases this
        refine ⟨⟨k + 1, z ||| 2 ^ k, by omega, by rw [decide_eq_false hnex]; rfl, rfl, below_or hz (below_pow hkl), fun i => ?_, hS7, hT.grown hg7 (fun r e => by injection e with e; omega)⟩, by simp only [intOf]; omega⟩
        rw [testBit_or_pow, Hzb.out i]
        by_cases e : k = i
        · subst e
          rw [e1]
          simp
        · have : (decide (i < k) : Bool) = decide (i < k + 1) := by
            rw [Bool.eq_iff_iff]; simp; omega
          rw [this]
          simp [e]
    · have hkI : ¬ (k : Int) < N := by omega
      have hzx : z = x ||| y := by
        apply bits_ext
        intro i
        rw [Hzb.out i, Nat.testBit_or]
        by_cases e : i < k
        · simp [e]
        · have : y.testBit i = false := by
            cases h : y.testBit i with
            | false => rfl
            | true => have := hy i h; omega
          simp [this]
      have Hzx := Lib.hid hzx
      clear hzx
      go_wp2_with (fail)
      go_ret
      rw [← Hzx.out]
      exact ⟨by rw [Hmb.out]; rfl, hS, hT⟩
end Go.Proofs.Ytajainmldcnaeaa
namespace Go.Proofs.Ytajainmldcnaeaa
set_option linter.unusedVariables false
set_option linter.unusedSimpArgs false

namespace Mt
/-- the places that a relation leads to from a set of places -/
noncomputable def im (n : Nat) (T : Rel) (x : Nat) : Nat := ofPred (fun j => ∃ i, x.testBit i = true ∧ T i j) (n + 1)
theorem im_below (n : Nat) (T : Rel) (x : Nat) : below (im n T x) (n + 1) := fun i hi => ((ofPred_bit _ _ i).1 hi).1
theorem im_bit {n : Nat} {T : Rel} {x : Nat} (hT : InR n T) (hx : below x (n + 1)) (j : Nat) : (im n T x).testBit j = true ↔ ∃ i, x.testBit i = true ∧ T i j := by
  unfold im
  rw [ofPred_bit]
  refine ⟨fun h => h.2, fun h => ⟨?_, h⟩⟩
  obtain ⟨i, h1, h2⟩ := h
  have := hT i j (by have := hx i h1; omega) h2
  omega
theorem im_ext {n : Nat} {T : Rel} {x y : Nat} (hT : InR n T) (hx : below x (n + 1)) (h : ∀ j, y.testBit j = true ↔ ∃ i, x.testBit i = true ∧ T i j) : y = im n T x := by
  apply bits_ext
  intro j
  rw [im_bit hT hx, h]
theorem inR_id (n : Nat) : InR n (fun i j => i = j) := fun i j h e => by simp only at e; omega
theorem inR_comp {n : Nat} {A B : Rel} (hA : InR n A) (hB : InR n B) : InR n (rcomp A B) := fun i j hi ⟨k, h1, h2⟩ => hB k j (hA i k hi h1) h2
theorem inR_riter {n : Nat} {T : Rel} (hT : InR n T) : ∀ k, InR n (riter T k)
  | 0 => inR_id n
  | k + 1 => inR_comp (inR_riter hT k) hT
theorem im_id {n x : Nat} (hx : below x (n + 1)) : im n (fun i j => i = j) x = x := (im_ext (inR_id n) hx (fun j => ⟨fun h => ⟨j, h, rfl⟩, fun ⟨i, h, e⟩ => by rw [← e]; exact h⟩)).symm
theorem im_comp {n : Nat} {A B : Rel} {x : Nat} (hA : InR n A) (hB : InR n B) (hx : below x (n + 1)) : im n B (im n A x) = im n (rcomp A B) x := by
  refine im_ext (inR_comp hA hB) hx fun j => ?_
  rw [im_bit hB (im_below _ _ _)]
  constructor
  · rintro ⟨k, h1, h2⟩
    obtain ⟨i, h3, h4⟩ := (im_bit hA hx k).1 h1
    exact ⟨i, h3, k, h4, h2⟩
  · rintro ⟨i, h3, k, h4, h2⟩
    exact ⟨k, (im_bit hA hx k).2 ⟨i, h3, h4⟩, h2⟩
theorem tk_in (q : ByteArray) {nd : Nd} (hT : nd.isT = true) : InR q.size (tk q nd) := by
  obtain ⟨new, g⟩ := lay_ok (q := q) nd hT ⟨1, []⟩ 0 (by show 0 < 1; omega)
  exact g.rg _ (List.mem_singleton.2 rfl)
theorem tkS_in (q : ByteArray) : ∀ l : List Nd, (∀ x ∈ l, x.isT = true) → InR q.size (tkS q l)
  | [], _ => by
    have : tkS q [] = fun i j => i = j := by unfold tkS; rfl
    rw [this]; exact inR_id _
  | x :: l, h => by
    simp only [tkS]
    exact inR_comp (tk_in q (h x (by simp))) (tkS_in q l fun y hy => h y (by simp [hy]))
theorem tkS_snoc (q : ByteArray) (x : Nd) : ∀ l : List Nd, ∀ i j, tkS q (l ++ [x]) i j ↔ rcomp (tkS q l) (tk q x) i j
  | [], i, j => by simp [tkS, rcomp]
  | y :: l, i, j => by
    simp only [List.cons_append, tkS]
    constructor
    · rintro ⟨k, h1, h2⟩
      obtain ⟨m, h3, h4⟩ := (tkS_snoc q x l k j).1 h2
      exact ⟨m, ⟨k, h1, h3⟩, h4⟩
    · rintro ⟨m, ⟨k, h1, h3⟩, h4⟩
      exact ⟨k, h1, (tkS_snoc q x l k j).2 ⟨m, h3, h4⟩⟩
/-- a row, one tree further -/
theorem im_row (q : ByteArray) (l : List Nd) (hl : ∀ x ∈ l, x.isT = true) (k : Nat) (hk : k < l.length) {x : Nat} (hx : below x (q.size + 1)) : im q.size (tk q l[k]) (im q.size (tkS q (l.take k)) x) = im q.size (tkS q (l.take (k + 1))) x := by
  rw [im_comp (tkS_in q _ fun y hy => hl y (List.mem_of_mem_take hy)) (tk_in q (hl _ (List.getElem_mem hk))) hx, List.take_succ_eq_append_getElem hk]
  congr 1
  funext i j
  exact propext (tkS_snoc q _ _ i j).symm
theorem tkA_snoc (q : ByteArray) (x : Nd) : ∀ l : List Nd, ∀ i j, tkA q (l ++ [x]) i j ↔ tkA q l i j ∨ tk q x i j
  | [], i, j => by simp [tkA]
  | y :: l, i, j => by
    simp only [List.cons_append, tkA, tkA_snoc q x l i j, or_assoc]
theorem tkA_in (q : ByteArray) : ∀ l : List Nd, (∀ x ∈ l, x.isT = true) → InR q.size (tkA q l)
  | [], _ => fun i j _ h => by simp [tkA] at h
  | x :: l, h => fun i j hi hT => by
    simp only [tkA] at hT
    rcases hT with hT | hT
    · exact tk_in q (h x (by simp)) i j hi hT
    · exact tkA_in q l (fun y hy => h y (by simp [hy])) i j hi hT
/-- ways beside each other, one tree further -/
theorem im_alt (q : ByteArray) (l : List Nd) (hl : ∀ x ∈ l, x.isT = true) (k : Nat) (hk : k < l.length) {x : Nat} (hx : below x (q.size + 1)) : im q.size (tkA q (l.take k)) x ||| im q.size (tk q l[k]) x = im q.size (tkA q (l.take (k + 1))) x := by
  refine im_ext (tkA_in q _ fun y hy => hl y (List.mem_of_mem_take hy)) hx fun j => ?_
  rw [Nat.testBit_or, Bool.or_eq_true, im_bit (tkA_in q _ fun y hy => hl y (List.mem_of_mem_take hy)) hx, im_bit (tk_in q (hl _ (List.getElem_mem hk))) hx, List.take_succ_eq_append_getElem hk]
  constructor
  · rintro (⟨i, h1, h2⟩ | ⟨i, h1, h2⟩)
    · exact ⟨i, h1, (tkA_snoc q _ _ i j).2 (.inl h2)⟩
    · exact ⟨i, h1, (tkA_snoc q _ _ i j).2 (.inr h2)⟩
  · rintro ⟨i, h1, h2⟩
    rcases (tkA_snoc q _ _ i j).1 h2 with h2 | h2
    · exact .inl ⟨i, h1, h2⟩
    · exact .inr ⟨i, h1, h2⟩
/-- what the times from a to b lead to -/
def span (T : Rel) (a b : Nat) : Rel := fun i j => ∃ k, a ≤ k ∧ k ≤ b ∧ riter T k i j
theorem span_in {n : Nat} {T : Rel} (hT : InR n T) (a b : Nat) : InR n (span T a b) := fun i j hi ⟨k, _, _, h⟩ => inR_riter hT k i j hi h
theorem im_span_one {n : Nat} {T : Rel} (a x : Nat) : im n (span T a a) x = im n (riter T a) x := by
  congr 1
  funext i j
  apply propext
  constructor
  · rintro ⟨k, h1, h2, h3⟩
    obtain rfl : k = a := by omega
    exact h3
  · intro h
    exact ⟨a, Nat.le_refl _, Nat.le_refl _, h⟩
theorem im_span {n : Nat} {T : Rel} (hT : InR n T) {a b x : Nat} (hab : a ≤ b) (hx : below x (n + 1)) : im n (span T a b) x ||| im n (riter T (b + 1)) x = im n (span T a (b + 1)) x := by
  refine im_ext (span_in hT _ _) hx fun j => ?_
  rw [Nat.testBit_or, Bool.or_eq_true, im_bit (span_in hT _ _) hx, im_bit (inR_riter hT _) hx]
  constructor
  · rintro (⟨i, h1, k, h2, h3, h4⟩ | ⟨i, h1, h2⟩)
    · exact ⟨i, h1, k, h2, by omega, h4⟩
    · exact ⟨i, h1, b + 1, by omega, Nat.le_refl _, h2⟩
  · rintro ⟨i, h1, k, h2, h3, h4⟩
    by_cases e : k = b + 1
    · subst e; exact .inr ⟨i, h1, h4⟩
    · exact .inl ⟨i, h1, k, h2, by omega, h4⟩
/-- where one time more adds nothing, no more times add anything -/
theorem im_full {n : Nat} {T : Rel} (hT : InR n T) {a b x : Nat} (hab : a ≤ b) (hx : below x (n + 1)) (h : im n (span T a b) x ||| im n (riter T (b + 1)) x = im n (span T a b) x) : ∀ d, im n (span T a (b + d)) x = im n (span T a b) x := by
  have hc : ∀ k, a ≤ k → ∀ j, (im n (riter T k) x).testBit j = true → (im n (span T a b) x).testBit j = true := by
    intro k hk
    induction k with
    | zero =>
      intro j hj
      obtain ⟨i, h1, h2⟩ := (im_bit (inR_riter hT _) hx j).1 hj
      exact (im_bit (span_in hT _ _) hx j).2 ⟨i, h1, 0, hk, by omega, h2⟩
    | succ k ih =>
      intro j hj
      by_cases e : k + 1 ≤ b
      · obtain ⟨i, h1, h2⟩ := (im_bit (inR_riter hT _) hx j).1 hj
        exact (im_bit (span_in hT _ _) hx j).2 ⟨i, h1, k + 1, hk, e, h2⟩
      · obtain ⟨i, h1, m, h2, h3⟩ := (im_bit (inR_riter hT _) hx j).1 hj
        have h4 := ih (by omega) m ((im_bit (inR_riter hT _) hx m).2 ⟨i, h1, h2⟩)
        obtain ⟨i', h5, k', h6, h7, h8⟩ := (im_bit (span_in hT _ _) hx m).1 h4
        by_cases e2 : k' = b
        · subst e2
          have h9 : (im n (riter T (k' + 1)) x).testBit j = true := (im_bit (inR_riter hT _) hx j).2 ⟨i', h5, m, h8, h3⟩
          rw [← h, Nat.testBit_or, h9, Bool.or_true]
        · exact (im_bit (span_in hT _ _) hx j).2 ⟨i', h5, k' + 1, by omega, by omega, m, h8, h3⟩
  intro d
  apply bits_ext
  intro j
  rw [im_bit (span_in hT _ _) hx]
  constructor
  · rintro ⟨i, h1, k, h2, h3, h4⟩
    exact hc k h2 j ((im_bit (inR_riter hT _) hx j).2 ⟨i, h1, h4⟩)
  · intro hj
    obtain ⟨i, h1, k, h2, h3, h4⟩ := (im_bit (span_in hT _ _) hx j).1 hj
    exact ⟨i, h1, k, h2, by omega, h4⟩
/-- the times of a tree, when nothing more is added -/
theorem im_times_full {n : Nat} {T : Rel} (hT : InR n T) {a b x : Nat} {ma : Int} (hab : a ≤ b) (hx : below x (n + 1)) (hm : ma = -1 ∨ (b : Int) ≤ ma) (h : im n (span T a b) x ||| im n (riter T (b + 1)) x = im n (span T a b) x) :
    im n (span T a b) x = im n (fun i j => ∃ k : Nat, a ≤ k ∧ (ma = -1 ∨ (k : Int) ≤ ma) ∧ riter T k i j) x := by
  refine im_ext (fun i j hi ⟨k, _, _, h⟩ => inR_riter hT k i j hi h) hx fun j => ?_
  rw [im_bit (span_in hT _ _) hx]
  constructor
  · rintro ⟨i, h1, k, h2, h3, h4⟩
    exact ⟨i, h1, k, h2, by omega, h4⟩
  · rintro ⟨i, h1, k, h2, h3, h4⟩
    have h5 := im_full hT hab hx h (k - b)
    have h6 : (im n (span T a (b + (k - b))) x).testBit j = true := (im_bit (span_in hT _ _) hx j).2 ⟨i, h1, k, h2, by omega, h4⟩
    rw [h5] at h6
    exact (im_bit (span_in hT _ _) hx j).1 h6
/-- the times of a tree, at their end -/
theorem im_times_end {n : Nat} {T : Rel} {a b x : Nat} {ma : Int} (hm : ma ≠ -1) (hb : (b : Int) = ma) : im n (span T a b) x = im n (fun i j => ∃ k : Nat, a ≤ k ∧ (ma = -1 ∨ (k : Int) ≤ ma) ∧ riter T k i j) x := by
  congr 1
  funext i j
  apply propext
  constructor
  · rintro ⟨k, h1, h2, h3⟩
    exact ⟨k, h1, .inr (by omega), h3⟩
  · rintro ⟨k, h1, h2, h3⟩
    exact ⟨k, h1, by omega, h3⟩
end Mt
end Go.Proofs.Ytajainmldcnaeaa
namespace Go.Proofs.Ytajainmldcnaeaa
open Go.RowKit Go.Shelf Go.Maps
set_option linter.unusedVariables false
set_option linter.unusedSimpArgs false
attribute [local go_sem] Oper.semAt_some

theorem flat_bools (x N : Nat) : flat encB (boolsN x N) = (boolsN x N).map Value.bool := by
  unfold flat encB
  induction boolsN x N with
  | nil => rfl
  | cons a l ih => simp [List.flatMap_cons] at ih ⊢; exact ih
theorem own_setRow {w : World} {base g N c u x : Nat} {cur : Array Value} (h : Own w base 4 1 encB (.slice (some ⟨g, 0, none⟩) N c) (boolsN u N)) (hN : 1 ≤ N) (hg : w.heap[g]? = some (.cells cur 4 (0, 0))) : Own (w.setRow g (((boolsN x N).map Value.bool) ++ cur.toList.drop N).toArray) base 4 1 encB (.slice (some ⟨g, 0, none⟩) N c) (boolsN x N) := by
  refine ⟨by rw [flat_bools]; simp, .inr ?_⟩
  rcases h.2 with ⟨e, _⟩ | ⟨g', cap, cur', e, h1, h2, h3, h4, h5, h6⟩
  · cases e
  · injection e with e1 e2 e3
    injection e1 with e1
    injection e1 with e1
    subst e1
    subst e3
    rw [hg] at h2
    injection h2 with h2
    injection h2 with h2
    subst h2
    rw [boolsN_length] at h3
    refine ⟨g, c, (((boolsN x N).map Value.bool) ++ cur.toList.drop N).toArray, by rw [boolsN_length], h1, setRow_heap w g _ _ _ _ hg, by rw [boolsN_length]; exact h3, h4, ?_, ?_⟩
    · have : cur.toList.length = c := by simpa using h5
      simp [boolsN_length]
      omega
    · rw [flat_bools, boolsN_length, Nat.mul_one]
      simp [boolsN_length, List.take_append_of_le_length]
section
variable {w : World} {ops : Array Oper} {rest : List Oper} {o : Oper} {a : Act} {Q : Exit → Act → World → Prop}
theorem wl_copyB (hgd : o.guard = none) (d s : Operand) (ho : o.op = .call { callee := .builtin .copy, args := #[d, s], argTypes := #[93, 93] }) (base base2 g g2 N c c2 u x : Nat) (hN : 1 ≤ N) (hd : a.eval d = .slice (some ⟨g, 0, none⟩) N c) (hs : a.eval s = .slice (some ⟨g2, 0, none⟩) N c2)
    (hD : Own w base 4 1 encB (.slice (some ⟨g, 0, none⟩) N c) (boolsN u N)) (hF : Own w base2 4 1 encB (.slice (some ⟨g2, 0, none⟩) N c2) (boolsN x N))
    (h : ∀ w', Own w' base 4 1 encB (.slice (some ⟨g, 0, none⟩) N c) (boolsN x N) → Turn g (g + 1) w w' → wpList Try.prog ops Q rest (a.put o.dst (goInt N)) w') : wpList Try.prog ops Q (o :: rest) a w := by
  obtain ⟨cur, hg, hsz⟩ : ∃ cur : Array Value, w.heap[g]? = some (.cells cur 4 (0, 0)) ∧ N ≤ cur.size := by
    rcases hD.2 with ⟨e, _⟩ | ⟨g', cap, cur', e, h1, h2, h3, h4, h5, h6⟩
    · cases e
    · injection e with e1 e2 e3
      injection e1 with e1
      injection e1 with e1
      subst e1
      exact ⟨cur', h2, by rw [boolsN_length] at h3; omega⟩
  have hl : ((boolsN x N).map Value.bool).length = N := by simp [boolsN_length]
  have hO := own_setRow (x := x) hD hN hg
  refine wpList_copy_own hgd d s 93 93 ho (Try.prog.elem 93) under_bools (by kernel_rfl) g 0 N c ⟨g2, 0, none⟩ N c2 hd hs cur 4 hg ((boolsN x N).map Value.bool) (by rw [hl]; exact (Nat.min_self N).symm) (fun j v hv => ?_) (by rw [hl]; omega) (fun v hv => ?_) ?_
  · have hj : j < N := by
      have := (List.getElem?_eq_some_iff.1 hv).1
      rw [hl] at this
      exact this
    have h1 := own_bits hF j hj
    rw [List.getElem?_map, List.getElem?_eq_getElem (by rw [boolsN_length]; exact hj), boolsN_get] at hv
    simp only [Option.map_some, Option.some.injEq] at hv
    rw [← hv]
    have e : (⟨g2, 0, none⟩ : Addr).add j = ⟨g2, j, none⟩ := by simp [Addr.add]; omega
    rw [e]
    exact h1
  · obtain ⟨b, _, rfl⟩ := List.mem_map.1 hv
    rfl
  · rw [hl, Nat.zero_add, List.take_zero, List.nil_append]
    exact h _ hO ⟨rfl, rfl, rfl, by simp [World.setRow], fun k hk hne => setRow_other w g k _ (by omega)⟩
end
end Go.Proofs.Ytajainmldcnaeaa
namespace Go.Proofs.Ytajainmldcnaeaa
open Go.RowKit Go.Shelf Go.Maps
set_option linter.unusedVariables false
set_option linter.unusedSimpArgs false
attribute [local go_sem] Oper.semAt_some

theorem im_congr {n : Nat} {T U : Mt.Rel} (x : Nat) (h : ∀ i j, T i j ↔ U i j) : Mt.im n T x = Mt.im n U x := by
  congr 1
  funext i j
  exact propext (h i j)
theorem tkA_nil (q : ByteArray) (n x : Nat) : Mt.im n (Mt.tkA q []) x = 0 := by
  apply bits_ext
  intro j
  unfold Mt.im
  rw [Nat.zero_testBit, ofPred_bit]
  constructor
  · rintro ⟨_, i, _, h⟩
    simp [Mt.tkA] at h
  · intro h
    cases h
theorem boolsN_put (N k : Nat) (b : Bool) : (boolsN 0 N).set k b = boolsN (if b = true then 2 ^ k else 0) N := by
  cases b with
  | true => rw [boolsN_set, Nat.zero_or]; rfl
  | false =>
    apply List.ext_getElem
    · simp [boolsN]
    · intro i h1 h2
      simp [List.getElem_set, boolsN]
theorem im_edge_begin {q : ByteArray} {x : Nat} (hx : below x (q.size + 1)) : Mt.im q.size (Mt.edgeT q 3 0) x = if x.testBit 0 = true then 2 ^ 0 else 0 := by
  refine (Mt.im_ext (Mt.edgeT_in q 3 0) hx fun j => ?_).symm
  unfold Mt.edgeT
  by_cases h : x.testBit 0 = true
  · rw [if_pos h, Nat.testBit_two_pow, decide_eq_true_eq]
    constructor
    · rintro rfl
      exact ⟨0, h, .inr (.inr (.inl ⟨rfl, rfl, rfl⟩))⟩
    · rintro ⟨i, _, h2⟩
      omega
  · rw [if_neg h, Nat.zero_testBit]
    constructor
    · intro h; cases h
    · rintro ⟨i, h1, h2⟩
      obtain rfl : i = 0 := by omega
      exact absurd h1 h
theorem im_edge_end {q : ByteArray} {x : Nat} (hx : below x (q.size + 1)) : Mt.im q.size (Mt.edgeT q 4 0) x = if x.testBit q.size = true then 2 ^ q.size else 0 := by
  refine (Mt.im_ext (Mt.edgeT_in q 4 0) hx fun j => ?_).symm
  unfold Mt.edgeT
  by_cases h : x.testBit q.size = true
  · rw [if_pos h, Nat.testBit_two_pow, decide_eq_true_eq]
    constructor
    · rintro rfl
      exact ⟨q.size, h, .inr (.inr (.inr ⟨rfl, rfl, rfl⟩))⟩
    · rintro ⟨i, _, h2⟩
      omega
  · rw [if_neg h, Nat.zero_testBit]
    constructor
    · intro h; cases h
    · rintro ⟨i, h1, h2⟩
      obtain rfl : i = q.size := by omega
      exact absurd h1 h
/-- a set's places, moved on by a byte, as far as k -/
def hopS (q : ByteArray) (st : BSet) (x : Nat) : Nat → Nat
  | 0 => 0
  | k + 1 => if (x.testBit k && st.getLsbD (Ere.chr q k)) = true then hopS q st x k ||| 2 ^ (k + 1) else hopS q st x k
theorem hopS_bit (q : ByteArray) (st : BSet) (x j : Nat) : ∀ k, (hopS q st x k).testBit j = true ↔ ∃ i, i < k ∧ x.testBit i = true ∧ st.getLsbD (Ere.chr q i) = true ∧ j = i + 1
  | 0 => by simp [hopS]
  | k + 1 => by
    have ih := hopS_bit q st x j k
    unfold hopS
    split
    · rename_i h
      rw [Bool.and_eq_true] at h
      rw [testBit_or_pow, Bool.or_eq_true, decide_eq_true_eq, ih]
      constructor
      · rintro (⟨i, h1, h2⟩ | h1)
        · exact ⟨i, by omega, h2⟩
        · exact ⟨k, by omega, h.1, h.2, h1.symm⟩
      · rintro ⟨i, h1, h2, h3, h4⟩
        by_cases e : i = k
        · subst e; exact .inr h4.symm
        · exact .inl ⟨i, by omega, h2, h3, h4⟩
    · rename_i h
      rw [Bool.and_eq_true] at h
      rw [ih]
      constructor
      · rintro ⟨i, h1, h2⟩
        exact ⟨i, by omega, h2⟩
      · rintro ⟨i, h1, h2, h3, h4⟩
        by_cases e : i = k
        · subst e; exact absurd ⟨h2, h3⟩ h
        · exact ⟨i, by omega, h2, h3, h4⟩
theorem im_edge_set {q : ByteArray} {st : BSet} {x : Nat} (hx : below x (q.size + 1)) : Mt.im q.size (Mt.edgeT q 2 st) x = hopS q st x q.size := by
  refine (Mt.im_ext (Mt.edgeT_in q 2 st) hx fun j => ?_).symm
  rw [hopS_bit]
  unfold Mt.edgeT
  constructor
  · rintro ⟨i, h1, h2, h3, h4⟩
    exact ⟨i, h2, .inr (.inl ⟨rfl, h4, h1, h3⟩)⟩
  · rintro ⟨i, h1, h2⟩
    rcases h2 with h2 | h2 | h2 | h2
    · omega
    · exact ⟨i, h2.2.2.1, h1, h2.2.2.2, h2.2.1⟩
    · omega
    · omega
theorem bits_mono {y z N : Nat} (hyz : ∀ i, y.testBit i = true → z.testBit i = true) : (bitsTo y N).length ≤ (bitsTo z N).length := by
  unfold bitsTo
  have key : ∀ l : List Nat, (l.filter y.testBit).length ≤ (l.filter z.testBit).length := fun l => by
    induction l with
    | nil => simp
    | cons a l ih =>
      simp only [List.filter_cons]
      cases hy : y.testBit a
      · cases z.testBit a <;> simp <;> omega
      · rw [hyz a hy]; simp; exact ih
  exact key _
/-- what adds something new has more members -/
theorem bits_more {y z N : Nat} (hy : below y N) (hz : below z N) (h : ¬ (y ||| z) = y) : (bitsTo y N).length < (bitsTo (y ||| z) N).length := by
  obtain ⟨j, h1, h2⟩ : ∃ j, z.testBit j = true ∧ y.testBit j = false := by
    refine Classical.byContradiction fun hn => h ?_
    apply bits_ext
    intro i
    rw [Nat.testBit_or]
    cases hzi : z.testBit i with
    | false => simp
    | true =>
      cases hyi : y.testBit i with
      | true => rfl
      | false => exact absurd ⟨i, hzi, hyi⟩ hn
  have h3 := bits_grow (y := y) (z := y) (fun _ h => h) hy (hz j h1) h2
  refine Nat.lt_of_lt_of_le h3 (bits_mono fun i hi => ?_)
  rw [testBit_or_pow, Bool.or_eq_true, decide_eq_true_eq] at hi
  rw [Nat.testBit_or, Bool.or_eq_true]
  rcases hi with hi | rfl
  · exact .inl hi
  · exact .inr h1
theorem run_b0b (w : World) : (Instr.buildSlice 93 0 #[]).run Try.prog w = .ok (.slice (some ⟨w.heap.size, 0, none⟩) 0 0) (w.alloc (.cells #[] 4)) := by kernel_rfl
theorem wl_b0b {ops : Array Oper} {rest : List Oper} {o : Oper} {a : Act} {w : World} {Q : Exit → Act → World → Prop} (hgd : o.guard = none) (ho : o.op = .buildSlice 93 0 #[])
    (h : ∀ w', Own w' w.heap.size 4 1 encB (.slice (some ⟨w.heap.size, 0, none⟩) 0 0) [] → Below w.heap.size w w' → wpList Try.prog ops Q rest (a.put o.dst (.slice (some ⟨w.heap.size, 0, none⟩) 0 0)) w') : wpList Try.prog ops Q (o :: rest) a w :=
  wpList_plain hgd fun _ hK => by
    unfold Oper.wp execOp
    simp only [ho, List.map_toArray, List.map_nil, Sem.run_bind, run_b0b, Result.andThen_ok, Sem.run_pure]
    refine hK _ _ (h _ ⟨rfl, .inr ⟨w.heap.size, 0, #[], rfl, Nat.le_refl _, (Blk.new w 4 #[]), Nat.le_refl _, by decide, rfl, rfl⟩⟩ (below_alloc (Below.refl _ _) _))
theorem wl_copyNew {w : World} {ops : Array Oper} {rest : List Oper} {o : Oper} {a : Act} {Q : Exit → Act → World → Prop} (hgd : o.guard = none) (s x : Operand) (ho : o.op = .call { callee := .builtin .append, args := #[s, x], argTypes := #[93, 93] })
    (base g0 N c y base2 g2 : Nat) (hs : a.eval s = .slice (some ⟨g0, 0, none⟩) 0 0) (hown : Own w base 4 1 encB (.slice (some ⟨g0, 0, none⟩) 0 0) []) (hx : a.eval x = .slice (some ⟨g2, 0, none⟩) N c) (hr : Own w base2 4 1 encB (.slice (some ⟨g2, 0, none⟩) N c) (boolsN y N)) (hl : N ≤ 1099511627776) (hp : 0 < N) (hbase : base ≤ w.heap.size)
    (h : ∀ g c' w', Own w' base 4 1 encB (.slice (some ⟨g, 0, none⟩) N c') (boolsN y N) → w.grownBy w' (some g0) → wpList Try.prog ops Q rest (a.put o.dst (.slice (some ⟨g, 0, none⟩) N c')) w') : wpList Try.prog ops Q (o :: rest) a w := by
  obtain ⟨ii, hii, hz0, hz1, hz2⟩ := info_parts info_bool3
  refine wl_append (enc := encB) _ hgd _ _ 93 ho base 4 ii _ 1 1 Try.underlying93 hii hz0 hz1 hz2 rfl (by decide) encB_size encB_one (.slice (some ⟨g0, 0, none⟩) 0 0) [] hs hown _ _ N c (boolsN y N) hx (boolsN_length _ _).symm (hr.slice_all encB_size) (by simp [boolsN_length]; unfold maxLen; omega) (by simp [boolsN_length]; omega) hbase ?_
  intro v' w' ho' hg hv
  rw [List.nil_append] at ho'
  obtain ⟨g, c', hv1, _, _, _⟩ := ho'.form (by rw [boolsN_length]; exact hp)
  rw [boolsN_length] at hv1
  subst hv1
  exact h _ _ _ ho' hg
set_option maxRecDepth 100000 in
set_option maxHeartbeats 40000000 in
theorem ends_any (nd : Nd) : nd.isT = true → ∀ (B : Nat) (w : World) (cs : Array Value) (q : ByteArray) (N base2 gf cf x : Nat), N = q.size + 1 → N ≤ 1099511627776 → NdIn w B nd cs → B ≤ w.heap.size → Own w base2 4 1 encB (.slice (some ⟨gf, 0, none⟩) N cf) (boolsN x N) → below x N →
    Calls Try.prog 52 #[.agg cs, .string q, .slice (some ⟨gf, 0, none⟩) N cf] w fun e w' => ∃ g, e = .returned (.slice (some ⟨g, 0, none⟩) N N) ∧ w.heap.size ≤ g ∧ Own w' w.heap.size 4 1 encB (.slice (some ⟨g, 0, none⟩) N N) (boolsN (Mt.im q.size (Mt.tk q nd) x) N) ∧ Below w.heap.size w w' := by
  induction nd using Nd.ind with
  | h kd st l mi ma ih =>
  intro hT B w cs q N base2 gf cf x hNq hN hin hB hF hx
  obtain ⟨A, n, c, cl, rfl, hn, hcl, hmax, hs, hr⟩ := hin.inv
  have hone : 1 ≤ N := by omega
  simp only [Nd.isT, Bool.and_eq_true, Nd.areT_all, List.all_eq_true] at hT
  obtain ⟨hh, hl⟩ := hT
  obtain ⟨X, hX⟩ : ∃ X, X = Mt.im q.size (Mt.tk q (Nd.mk kd st l mi ma)) x := ⟨_, rfl⟩
  rw [← hX]
  have HNq := Lib.hid hNq
  have hqs : q.size < 1099511627776 := by omega
  have hxq : below x (q.size + 1) := by rw [← hNq]; exact hx
  have Hn := Lib.hid hn
  have Hcl := Lib.hid hcl
  have Hr := Lib.hid hr
  have Ih := Lib.hid ih
  have Hl := Lib.hid hl
  have Hh := Lib.hid hh
  have HX := Lib.hid hX
  have hgfl := (hF.lt gf rfl).2
  clear hn hcl hr ih hh hin hl hX hNq
  go_enter Try.func52, Try.ntmps52
  have h1 := Blk.new w 27 (nodeC kd st A n c mi ma)
  have hB1 : Below w.heap.size w (w.alloc (.cells (nodeC kd st A n c mi ma) 27)) := below_alloc (Below.refl _ _) _
  go_upto_region 1 with (fail)
  obtain ⟨W1, hW1⟩ : ∃ y, y = w.alloc (.cells (nodeC kd st A n c mi ma) 27) := ⟨_, rfl⟩
  rw [← hW1] at h1 hB1 ⊢
  clear hW1
  obtain ⟨gn, hgn⟩ : ∃ y, y = w.heap.size := ⟨_, rfl⟩
  have hgn2 : w.heap.size ≤ gn := by omega
  rw [← hgn] at h1 ⊢
  clear hgn
  go_upto_region 2 with (refine wl_makeB rfl _ _ rfl N w.heap.size (congrArg (Value.int .i64) (by have := HNq.out; omega)) (congrArg (Value.int .i64) (by have := HNq.out; omega)) hN hB1.size ?_; intro w2 hS2 hB2)
  obtain ⟨g, hg⟩ : ∃ y, y = W1.heap.size := ⟨_, rfl⟩
  have hgw : w.heap.size ≤ g := by rw [hg]; exact hB1.size
  have hgg : gn < g := by rw [hg]; exact h1.lt
  rw [← hg] at hS2 ⊢
  clear hg
  replace h1 := blk_then h1 hB2
  replace hB1 := below_then hB1 hB2
  have hF2 := own_turn hF (Turn.of_below (lo := 0) (hi := 0) hB1) (by omega)
  clear hB2
  have hne : g ≠ gf := by omega
  have c0 : w2.cell? ⟨gn, 0, none⟩ = some (.int .i64 kd) := h1.cellv (i := 0) rfl
  have c5 : w2.cell? ⟨gn, 5, none⟩ = some (.slice A n c) := h1.cellv (i := 5) rfl
  have c6 : w2.cell? ⟨gn, 6, none⟩ = some (.int .i64 mi) := h1.cellv (i := 6) rfl
  have c7 : w2.cell? ⟨gn, 7, none⟩ = some (.int .i64 ma) := h1.cellv (i := 7) rfl
  by_cases k1 : kd = 1
  · subst k1
    have hXx : X = x := by
      rw [HX.out]
      exact (im_congr x (fun i j => by simp [Mt.tk])).trans (Mt.im_id hxq)
    go_wp2_with (refine wl_copyB rfl _ _ rfl w.heap.size base2 g gf N N cf 0 x hone rfl rfl hS2 hF2 ?_; intro w3 hS3 hT3)
    go_ret
    rw [hXx]
    exact ⟨g, rfl, hgw, hS3, hB1.trans (hT3.below hgw hB1.size)⟩
  by_cases k6 : kd = 6
  · subst k6
    have hX2 : X = if x.testBit 0 = true then 2 ^ 0 else 0 := by
      rw [HX.out, ← im_edge_begin hxq]
      exact im_congr x (fun i j => by simp [Mt.tk])
    have cf0 := own_bits hF2 0 hone
    obtain ⟨b, hb⟩ : ∃ b, x.testBit 0 = b := ⟨_, rfl⟩
    rw [hb] at cf0 hX2
    have HX2 := Lib.hid hX2
    clear hX2 hb
    have hgb := hS2.lt g rfl
    go_wp2_with (refine wl_store_one (enc := encB) encB_size rfl _ info_bool1 _ _ rfl g 0 N N rfl b rfl rfl rfl hS2 (by rw [boolsN_length]; exact hone) ?_; intro w3 hS3 hg3)
    go_ret
    rw [boolsN_put, ← HX2.out] at hS3
    exact ⟨g, rfl, hgw, hS3, below_grown hB1 hg3 hgw⟩
  by_cases k7 : kd = 7
  · subst k7
    have hX2 : X = if x.testBit q.size = true then 2 ^ q.size else 0 := by
      rw [HX.out, ← im_edge_end hxq]
      exact im_congr x (fun i j => by simp [Mt.tk])
    have hqN : q.size < N := by have := HNq.out; omega
    have hqNI : (q.size : Int) < N := by omega
    have cf0 := own_bits hF2 q.size hqN
    obtain ⟨b, hb⟩ : ∃ b, x.testBit q.size = b := ⟨_, rfl⟩
    rw [hb] at cf0 hX2
    have HX2 := Lib.hid hX2
    clear hX2 hb
    go_wp2_with (refine wl_store_one (enc := encB) encB_size rfl _ info_bool1 _ _ rfl g q.size N N rfl b rfl rfl rfl hS2 (by rw [boolsN_length]; exact hqN) ?_; intro w3 hS3 hg3)
    go_ret
    rw [boolsN_put, ← HX2.out] at hS3
    exact ⟨g, rfl, hgw, hS3, below_grown hB1 hg3 hgw⟩
  by_cases k2 : kd = 2
  · subst k2
    have hX2 : X = hopS q st x q.size := by
      rw [HX.out, ← im_edge_set hxq]
      exact im_congr x (fun i j => by simp [Mt.tk])
    have HX2 := Lib.hid hX2
    clear hX2 c5 c6 c7 k1 k6 k7
    go_wp2_with (fail)
    go_loopw [8] (fun iv wr => ∃ k : Nat, k ≤ q.size ∧ iv = .int .i64 k ∧ Own wr w.heap.size 4 1 encB (.slice (some ⟨g, 0, none⟩) N N) (boolsN (hopS q st x k) N) ∧ Own wr base2 4 1 encB (.slice (some ⟨gf, 0, none⟩) N cf) (boolsN x N) ∧ Blk wr gn 27 (nodeC 2 st A n c mi ma) ∧ Below w.heap.size w wr) (fun iv _ => q.size - (intOf iv).toNat)
    case atStart => exact ⟨0, by omega, rfl, hS2, hF2, h1, hB1⟩
    case round =>
      clear hS2 hF2 h1 hB1 c0
      obtain ⟨k, hk, rfl, hS, hF2, h1, hB1⟩ := hrel
      by_cases hkq : k < q.size
      · have hkI : (k : Int) < q.size := by omega
        have hk0 : ¬ (k : Int) < 0 := by omega
        have hkb : k < 1099511628000 := by omega
        have hkN : k < N := by have := HNq.out; omega
        have hkN1 : k + 1 < N := by have := HNq.out; omega
        obtain ⟨b, hb⟩ : ∃ b, b = Ere.chr q k := ⟨_, rfl⟩
        have hbq : q[k].toNat = b := by rw [hb]; unfold Ere.chr; rw [dif_pos hkq]
        have hb8 : b < 256 := by rw [← hbq]; exact q[k].toNat_lt
        obtain ⟨xk, hxk⟩ : ∃ b, x.testBit k = b := ⟨_, rfl⟩
        obtain ⟨sb, hsb⟩ : ∃ v, st.getLsbD b = v := ⟨_, rfl⟩
        obtain ⟨z, hz⟩ : ∃ z, z = hopS q st x k := ⟨_, rfl⟩
        have hst : hopS q st x (k + 1) = if (xk && sb) = true then z ||| 2 ^ (k + 1) else z := by
          show (if (x.testBit k && st.getLsbD (Ere.chr q k)) = true then hopS q st x k ||| 2 ^ (k + 1) else hopS q st x k) = _
          rw [hxk, ← hb, hsb, ← hz]
        rw [← hz] at hS
        have Hst := Lib.hid hst
        have cx := own_bits hF2 k hkN
        rw [hxk] at cx
        have cw : wr.cell? ⟨gn, 1 + b / 64, none⟩ = some (.int .u64 ((word st (b / 64) : Nat) : Int)) := by
          rcases (show b / 64 = 0 ∨ b / 64 = 1 ∨ b / 64 = 2 ∨ b / 64 = 3 by omega) with e | e | e | e <;> (rw [e]; exact h1.cellv rfl)
        have hbI : (b : Int) < 256 := by omega
        obtain ⟨wd, hwd⟩ : ∃ v, v = word st (b / 64) := ⟨_, rfl⟩
        have hwl : wd < 18446744073709551616 := by rw [hwd]; exact word_lt _ _
        rw [← hwd] at cw
        have Hwd := Lib.hid hwd
        have Hsb := Lib.hid hsb
        have Hall := Lib.hid (And.intro hS (And.intro hF2 (And.intro h1 hB1)))
        clear hst hwd hsb hz hb hxk hS hF2 h1 hB1
        go_upto_region 13 with (fail)
        go_cut [72] from 53 to 73 (fun v wx => Below wr.heap.size wr wx ∧ v = .bool (xk && sb))
        case first =>
          cases xk with
          | false =>
            go_big_region
            go_wp2_with (fail)
            go_meet
            exact ⟨(Below.refl _ _).drew, rfl⟩
          | true =>
            go_big_region
            go_wp2_with (fail)
            go_meet
            refine ⟨(Below.refl _ _).drew, ?_⟩
            rw [Hwd.out, hasB hb8, Hsb.out]
            simp
        obtain ⟨hBx, rfl⟩ := hcut
        obtain ⟨hS, hF2, h1, hB1⟩ := Hall.out
        clear Hall cx cw
        replace hS := hS.then_ hBx
        replace hF2 := hF2.then_ hBx
        replace h1 := blk_then h1 hBx
        replace hB1 := below_then hB1 hBx
        clear hBx
        have hst := Hst.out
        clear Hst
        obtain ⟨f, hf⟩ : ∃ f, (xk && sb) = f := ⟨_, rfl⟩
        rw [hf] at hst ⊢
        clear hf
        cases f with
        | false =>
          rw [if_neg (by decide)] at hst
          have Hst := Lib.hid hst
          clear hst
          go_wp2_with (fail)
          exact ⟨⟨k + 1, by omega, rfl, by rw [Hst.out]; exact hS, hF2, h1, hB1⟩, by simp only [intOf]; omega⟩
        | true =>
          rw [if_pos rfl] at hst
          have Hst := Lib.hid hst
          clear hst
          have hgb := hS.lt g rfl
          go_wp2_with (refine wl_store_one (enc := encB) encB_size rfl _ info_bool1 _ _ rfl g (k + 1) N N rfl true rfl rfl rfl hS (by rw [boolsN_length]; exact hkN1) ?_; intro w7 hS7 hg7)
          rw [boolsN_set] at hS7
          exact ⟨⟨k + 1, by omega, rfl, by rw [Hst.out]; exact hS7, own_grown' hF2 hg7 (by omega), blk_grown h1 hg7 (by omega), below_grown hB1 hg7 hgw⟩, by simp only [intOf]; omega⟩
      · have hkI : ¬ (k : Int) < q.size := by omega
        obtain rfl : k = q.size := by omega
        rw [← HX2.out] at hS
        go_wp2_with (fail)
        go_ret
        exact ⟨g, rfl, hgw, hS, hB1⟩
  have hcall : ∀ (k : Nat) (hk : k < n) (W : World), Below w.heap.size w W → ∃ kd' st' A' n' c' mi' ma', ∃ ba off, A = some ⟨ba, off, none⟩ ∧ RowAt W ba (off + k * 8) (nodeC kd' st' A' n' c' mi' ma') ∧ ∃ hkl : k < l.length, ∀ (W' : World) (base3 gf3 cf3 x3 : Nat), Below W.heap.size W W' → Own W' base3 4 1 encB (.slice (some ⟨gf3, 0, none⟩) N cf3) (boolsN x3 N) → below x3 N → Calls Try.prog 52 #[.agg (nodeC kd' st' A' n' c' mi' ma'), .string q, .slice (some ⟨gf3, 0, none⟩) N cf3] W' fun e w' => ∃ g, e = .returned (.slice (some ⟨g, 0, none⟩) N N) ∧ W'.heap.size ≤ g ∧ Own w' W'.heap.size 4 1 encB (.slice (some ⟨g, 0, none⟩) N N) (boolsN (Mt.im q.size (Mt.tk q l[k]) x3) N) ∧ Below W'.heap.size W' w' := fun k hk W hW => by
    have hkl : k < l.length := by rw [← Hn.out]; exact hk
    have hkc : k < cl.length := by rw [Hcl.out]; exact hkl
    obtain ⟨ba, off, rfl, hba, hrows⟩ := hs.at_ (by omega)
    have hrow := (hrows k hkc).keep (hW.block ba (by omega))
    have hsub := Hr.out k hkl hkc
    have hmem : l[k] ∈ l := List.getElem_mem hkl
    have hTk := Hl.out _ hmem
    obtain ⟨⟨kd', st', l', mi', ma'⟩, hx'⟩ : ∃ x, x = l[k] := ⟨_, rfl⟩
    have hsub' := hsub
    rw [← hx'] at hsub'
    obtain ⟨A', n', c', cl', hce, -⟩ := hsub'.inv
    rw [hce] at hrow
    refine ⟨kd', st', A', n', c', mi', ma', ba, off, rfl, hrow, hkl, fun W' base3 gf3 cf3 x3 hW' hF3 hx3 => ?_⟩
    have hsz := hW.size
    have hsz' := hW'.size
    rw [← hce]
    exact Ih.out _ hmem hTk B W' _ q N base3 gf3 cf3 x3 HNq.out hN (hsub.keep fun j hj => (hW'.block j (by omega)).trans (hW.block j (by omega))) (by omega) hF3 hx3
  have Hcall := Lib.hid hcall
  clear hcall
  by_cases k3 : kd = 3
  · subst k3
    have hX2 : X = Mt.im q.size (Mt.tkS q l) x := by
      rw [HX.out]
      exact im_congr x (fun i j => by simp [Mt.tk])
    have HX2 := Lib.hid hX2
    clear hX2 k1 k6 k7 k2
    go_upto_region 18 with (refine wl_copyB rfl _ _ rfl w.heap.size base2 g gf N N cf 0 x hone rfl rfl hS2 hF2 ?_; intro w3 hS3 hT3; replace h1 := blk_turn h1 hT3 (by omega); replace hB1 := hB1.trans (hT3.below hgw hB1.size); replace c5 : w3.cell? ⟨gn, 5, none⟩ = some (.slice A n c) := h1.cellv (i := 5) rfl; clear c0 c6 c7)
    clear c5 hS2 hF2 hT3
    go_loopw [7, 85] (fun tv iv wr => ∃ (k g' : Nat), k ≤ n ∧ tv = .slice (some ⟨g', 0, none⟩) N N ∧ iv = .int .i64 k ∧ w.heap.size ≤ g' ∧ Own wr w.heap.size 4 1 encB (.slice (some ⟨g', 0, none⟩) N N) (boolsN (Mt.im q.size (Mt.tkS q (l.take k)) x) N) ∧ Blk wr gn 27 (nodeC 3 st A n c mi ma) ∧ Below w.heap.size w wr) (fun _ iv _ => n - (intOf iv).toNat)
    case atStart => exact ⟨0, g, by omega, rfl, rfl, hgw, by rw [List.take_zero, im_congr x (U := fun i j => i = j) (fun i j => by simp [Mt.tkS]), Mt.im_id hxq]; exact hS3, h1, hB1⟩
    case round =>
      clear hS3 h1 hB1
      obtain ⟨k, g', hk, rfl, rfl, hgw', hS, h1, hB1⟩ := hrel
      by_cases hkn : k < n
      · have hkI : (k : Int) < n := by omega
        have hkb : k < 1099511628000 := by omega
        obtain ⟨kd', st', A', n', c', mi', ma', ba, off, hA, hrow, hkl, hcl'⟩ := Hcall.out k hkn wr hB1
        have hrw := Mt.im_row q l (fun x hx => Hl.out x hx) k hkl hxq
        have hyN := Mt.im_below q.size (Mt.tkS q (l.take k)) x
        rw [← HNq.out] at hyN
        obtain ⟨y, hy⟩ : ∃ y, y = Mt.im q.size (Mt.tkS q (l.take k)) x := ⟨_, rfl⟩
        rw [← hy] at hS hrw hyN
        have Hrw := Lib.hid hrw
        have Hcl' := Lib.hid hcl'
        subst hA
        clear hy hrw hcl'
        go_upto_region 20 with (first | (refine wl_load_node_at rfl _ rfl _ _ rfl _ _ _ _ _ _ _ hrow ?_) | (refine wl_store_node rfl _ _ rfl _ _ _ _ _ _ _ _ rfl rfl (nodeC 0 0 none 0 0 0 0) rfl (Blk.new _ _ _) ?_; intro w4 h5 hg4))
        have hB4 := below_grown (below_alloc (Below.refl _ wr) (.cells (nodeC 0 0 none 0 0 0 0) 27)) hg4 (Nat.le_refl _)
        replace hS := hS.then_ hB4
        replace h1 := blk_then h1 hB4
        have hB5 := below_then hB1 hB4
        have kc := Hcl'.out w4 _ g' N y hB4 hS hyN
        clear hrow hg4 hB4
        go_wp2_with (first | (refine wl_load_node rfl _ rfl _ rfl _ _ _ _ _ _ _ h5 ?_) | (go_at_call 52; refine kc.mono ?_; rintro e w5 ⟨g5, rfl, hg5, hS5, hB6⟩))
        have hsz := hB5.size
        exact ⟨⟨k + 1, g5, by omega, rfl, rfl, by omega, by rw [← Hrw.out]; exact hS5.mono hsz, blk_then h1 hB6, below_then hB5 hB6⟩, by simp only [intOf]; omega⟩
      · have hkI : ¬ (k : Int) < n := by omega
        have hke : l.take k = l := List.take_of_length_le (by have := Hn.out; omega)
        rw [hke, ← HX2.out] at hS
        go_wp2_with (fail)
        go_ret
        exact ⟨g', rfl, hgw', hS, hB1⟩
  by_cases k4 : kd = 4
  · subst k4
    have hX2 : X = Mt.im q.size (Mt.tkA q l) x := by
      rw [HX.out]
      exact im_congr x (fun i j => by simp [Mt.tk])
    have HX2 := Lib.hid hX2
    clear hX2 k1 k6 k7 k2 k3 c6 c7
    go_wp2_with (fail)
    go_loopw [99] (fun iv wr => ∃ (k : Nat), k ≤ n ∧ iv = .int .i64 k ∧ Own wr w.heap.size 4 1 encB (.slice (some ⟨g, 0, none⟩) N N) (boolsN (Mt.im q.size (Mt.tkA q (l.take k)) x) N) ∧ Own wr base2 4 1 encB (.slice (some ⟨gf, 0, none⟩) N cf) (boolsN x N) ∧ Blk wr gn 27 (nodeC 4 st A n c mi ma) ∧ Below w.heap.size w wr) (fun iv _ => n - (intOf iv).toNat)
    case atStart => exact ⟨0, by omega, rfl, by rw [List.take_zero, tkA_nil]; exact hS2, hF2, h1, hB1⟩
    case round =>
      clear hS2 hF2 h1 hB1 c0 c5
      obtain ⟨k, hk, rfl, hS, hF2, h1, hB1⟩ := hrel
      by_cases hkn : k < n
      · have hkI : (k : Int) < n := by omega
        have hkb : k < 1099511628000 := by omega
        obtain ⟨kd', st', A', n', c', mi', ma', ba, off, hA, hrow, hkl, hcl'⟩ := Hcall.out k hkn wr hB1
        have hrw := Mt.im_alt q l (fun x hx => Hl.out x hx) k hkl hxq
        have hyN := Mt.im_below q.size (Mt.tkA q (l.take k)) x
        have hzN := Mt.im_below q.size (Mt.tk q l[k]) x
        rw [← HNq.out] at hyN hzN
        obtain ⟨y, hy⟩ : ∃ y, y = Mt.im q.size (Mt.tkA q (l.take k)) x := ⟨_, rfl⟩
        rw [← hy] at hS hrw hyN
        have Hrw := Lib.hid hrw
        have Hcl' := Lib.hid hcl'
        subst hA
        clear hy hrw hcl'
        go_upto_region 26 with (first | (refine wl_load_node_at rfl _ rfl _ _ rfl _ _ _ _ _ _ _ hrow ?_) | (refine wl_store_node rfl _ _ rfl _ _ _ _ _ _ _ _ rfl rfl (nodeC 0 0 none 0 0 0 0) rfl (Blk.new _ _ _) ?_; intro w4 h5 hg4))
        have hB4 := below_grown (below_alloc (Below.refl _ wr) (.cells (nodeC 0 0 none 0 0 0 0) 27)) hg4 (Nat.le_refl _)
        replace hS := hS.then_ hB4
        replace hF2 := hF2.then_ hB4
        replace h1 := blk_then h1 hB4
        have hB5 := below_then hB1 hB4
        have kc := Hcl'.out w4 _ gf cf x hB4 hF2 hx
        have hgl4 := (hS.lt g rfl).2
        have hgnl := h1.lt
        have hgfl4 := (hF2.lt gf rfl).2
        clear hrow hg4 hB4
        go_wp2_with (first | (refine wl_load_node rfl _ rfl _ rfl _ _ _ _ _ _ _ h5 ?_) | (go_at_call 52; refine kc.mono ?_; rintro e w5 ⟨g5, rfl, hg5, hS5, hB6⟩) | (go_at_call 64; refine (add_any w.heap.size w4.heap.size g g5 N N N _ _ hN hyN hzN (by omega) _ (hS.then_ hB6) hS5).mono ?_; rintro e w6 ⟨rfl, hS6, hT6⟩))
        have hB7 := below_then hB5 hB6
        rw [Hrw.out] at hS6
        exact ⟨⟨k + 1, by omega, rfl, hS6, own_turn (hF2.then_ hB6) hT6 (by omega), blk_turn (blk_then h1 hB6) hT6 (by omega), hB7.trans (hT6.below hgw hB7.size)⟩, by simp only [intOf]; omega⟩
      · have hkI : ¬ (k : Int) < n := by omega
        have hke : l.take k = l := List.take_of_length_le (by have := Hn.out; omega)
        rw [hke, ← HX2.out] at hS
        go_wp2_with (fail)
        go_ret
        exact ⟨g, rfl, hgw, hS, hB1⟩
  have k5 : kd = 5 := by
    have h := Hh.out
    unfold headOk at h
    rw [if_neg (by omega), if_neg k2, if_neg (by omega)] at h
    by_cases e : kd = 5
    · exact e
    · rw [if_neg e] at h; cases h
  subst k5
  obtain ⟨-, hn1, hmi0, hmi255, hma⟩ := headOk_times Hh.out
  have hn1' : n = 1 := by rw [Hn.out]; exact hn1
  have hl0 : 0 < l.length := by omega
  obtain ⟨T, hTd⟩ : ∃ T, T = Mt.tk q l[0] := ⟨_, rfl⟩
  have hTin : Mt.InR q.size T := by rw [hTd]; exact Mt.tk_in q (Hl.out _ (List.getElem_mem hl0))
  obtain ⟨a, ha⟩ : ∃ a : Nat, mi = (a : Int) := ⟨mi.toNat, by omega⟩
  have hX2 : X = Mt.im q.size (fun i j => ∃ k : Nat, a ≤ k ∧ (ma = -1 ∨ (k : Int) ≤ ma) ∧ Mt.riter T k i j) x := by
    rw [HX.out]
    refine im_congr x (fun i j => ?_)
    obtain ⟨t0, rfl⟩ : ∃ x, l = [x] := List.length_eq_one_iff.1 hn1
    simp only [Mt.tk, Mt.tkT]
    rw [hTd, ha]
    simp
  have HX2 := Lib.hid hX2
  subst ha
  have HTd := Lib.hid hTd
  have Hma := Lib.hid hma
  have Hn1 := Lib.hid hn1'
  clear hX2 hTd hn1 hn1' hma k1 k6 k7 k2 k3 k4
  have hab : a < 1099511628000 := by omega
  go_upto_region 30 with (refine wl_copyB rfl _ _ rfl w.heap.size base2 g gf N N cf 0 x hone rfl rfl hS2 hF2 ?_; intro w3 hS3 hT3; replace h1 := blk_turn h1 hT3 (by omega); replace hB1 := hB1.trans (hT3.below hgw hB1.size); clear c0 c5 c6 c7)
  clear hS2 hF2 hT3
  have h1n := Lib.hid h1
  go_wp2_with (fail)
  go_loopw [7, 13] (fun tv iv wr => ∃ (k g' : Nat), k ≤ a ∧ tv = .slice (some ⟨g', 0, none⟩) N N ∧ iv = .int .i64 k ∧ w.heap.size ≤ g' ∧ Own wr w.heap.size 4 1 encB (.slice (some ⟨g', 0, none⟩) N N) (boolsN (Mt.im q.size (Mt.riter T k) x) N) ∧ Blk wr gn 27 (nodeC 5 st A n c a ma) ∧ Below w.heap.size w wr) (fun _ iv _ => a - (intOf iv).toNat)
  case atStart => exact ⟨0, g, by omega, rfl, rfl, hgw, (show Mt.im q.size (Mt.riter T 0) x = x from Mt.im_id hxq).symm ▸ hS3, h1, hB1⟩
  case round =>
    clear hS3 h1 hB1 h1n
    obtain ⟨k, g', hk, rfl, rfl, hgw', hS, h1, hB1⟩ := hrel
    have c3 : wr.cell? ⟨gn, 6, none⟩ = some (.int .i64 (a : Int)) := h1.cellv (i := 6) rfl
    have c5 : wr.cell? ⟨gn, 5, none⟩ = some (.slice A n c) := h1.cellv (i := 5) rfl
    by_cases hkn : k < a
    · have hkI : (k : Int) < a := by omega
      have hkb : k < 1099511628000 := by omega
      obtain ⟨kd', st', A', n', c', mi', ma', ba, off, hA, hrow, hkl, hcl'⟩ := Hcall.out 0 (by rw [Hn1.out]; omega) wr hB1
      have hrw : Mt.im q.size T (Mt.im q.size (Mt.riter T k) x) = Mt.im q.size (Mt.riter T (k + 1)) x := Mt.im_comp (Mt.inR_riter hTin k) hTin hxq
      have hyN := Mt.im_below q.size (Mt.riter T k) x
      rw [← HNq.out] at hyN
      obtain ⟨y, hy⟩ : ∃ y, y = Mt.im q.size (Mt.riter T k) x := ⟨_, rfl⟩
      rw [← hy] at hS hrw hyN
      rw [← HTd.out] at hcl'
      have Hrw := Lib.hid hrw
      have kc := hcl' wr _ g' N y (Below.refl _ _) hS hyN
      have hn0 : (0 : Nat) < n := by rw [Hn1.out]; omega
      subst hA
      simp only [Nat.zero_mul, Nat.add_zero] at hrow
      clear hy hrw hcl'
      go_wp2_with (first | (refine wl_load_node_at rfl _ rfl _ _ rfl _ _ _ _ _ _ _ hrow ?_) | (go_at_call 52; refine kc.mono ?_; rintro e w5 ⟨g5, rfl, hg5, hS5, hB6⟩))
      have hsz := hB1.size
      exact ⟨⟨k + 1, g5, by omega, rfl, rfl, by omega, by rw [← Hrw.out]; exact hS5.mono hsz, blk_then h1 hB6, below_then hB1 hB6⟩, by simp only [intOf]; omega⟩
    · have hkI : ¬ (k : Int) < a := by omega
      obtain rfl : a = k := by omega
      have hgl := (hS.lt g' rfl).2
      have hgnl := h1.lt
      have hBs := hB1.size
      go_upto_region 35 with (first | (refine wl_b0b rfl rfl ?_; intro w4 hO4 hB4) | (refine wl_copyNew rfl _ _ rfl wr.heap.size wr.heap.size N N _ w.heap.size g' rfl hO4 rfl (hS.then_ hB4) hN hone hB4.size ?_; intro g2 cap2 w5 hS5 hG5))
      replace hS := own_grown' (hS.then_ hB4) hG5 (by omega)
      replace h1 := blk_grown (blk_then h1 hB4) hG5 (by omega)
      replace hB1 := below_grown (below_then hB1 hB4) hG5 hBs
      have hg2 := (hS5.lt g2 rfl).1
      replace hS5 := hS5.mono hBs
      have c3 : w5.cell? ⟨gn, 6, none⟩ = some (.int .i64 (a : Int)) := h1.cellv (i := 6) rfl
      have hne2 : g2 ≠ g' := by omega
      clear c5 hO4 hB4 hG5 hgl hgnl hBs hg2
      go_wp2_with (fail)
      clear c3 hkI hkn hk
      have hspan0 : Mt.im q.size (Mt.riter T a) x = Mt.im q.size (Mt.span T a a) x := (Mt.im_span_one a x).symm
      rw [hspan0] at hS
      have Hm0 := Lib.hid (show ma = -1 ∨ (a : Int) ≤ ma by have := Hma.out; omega)
      clear hspan0
      go_loopw [14, 15] (fun nv iv wr => ∃ (b g2 cap2 : Nat), a ≤ b ∧ Hid (ma = -1 ∨ (b : Int) ≤ ma) ∧ nv = .slice (some ⟨g2, 0, none⟩) N cap2 ∧ iv = .int .i64 b ∧ g2 ≠ g' ∧ b ≤ a + (bitsTo (Mt.im q.size (Mt.span T a b) x) N).length ∧ Own wr w.heap.size 4 1 encB (.slice (some ⟨g2, 0, none⟩) N cap2) (boolsN (Mt.im q.size (Mt.riter T b) x) N) ∧ Own wr w.heap.size 4 1 encB (.slice (some ⟨g', 0, none⟩) N N) (boolsN (Mt.im q.size (Mt.span T a b) x) N) ∧ Blk wr gn 27 (nodeC 5 st A n c a ma) ∧ Below w.heap.size w wr) (fun _ _ wr => N - trues wr g' N)
      case atStart => exact ⟨a, g2, cap2, Nat.le_refl _, Hm0, rfl, rfl, hne2, by omega, hS5, hS, h1, hB1⟩
      case round =>
        clear hS5 hS h1 hB1 hne2
        obtain ⟨b, g2, cap2, hab', Hmb, rfl, rfl, hne2, hcnt, hS5, hS, h1, hB1⟩ := hrel
        have hbl := bitsTo_length (Mt.im q.size (Mt.span T a b) x) N
        have hbb : b < 9007199254740992 := by omega
        have htr := trues_own hS
        have c4 : wr.cell? ⟨gn, 7, none⟩ = some (.int .i64 ma) := h1.cellv (i := 7) rfl
        have c5 : wr.cell? ⟨gn, 5, none⟩ = some (.slice A n c) := h1.cellv (i := 5) rfl
        have Hcnt := Lib.hid (And.intro hcnt (And.intro hbl htr))
        clear hcnt hbl htr
        go_upto_region 36 with (fail)
        go_cut [141] from 133 to 142 (fun v wx => wx = wr ∧ v = .bool (decide (ma = -1) || decide ((b : Int) < ma)))
        case first =>
          by_cases e : ma = -1
          · have e2 : (ma == -1) = true := by simpa using e
            have hv := Lib.hid (show (decide (ma = -1) || decide ((b : Int) < ma)) = true by simp [e])
            clear e
            go_wp2_with (fail)
            go_meet
            exact ⟨rfl, congrArg Value.bool hv.out.symm⟩
          · have e2 : (ma == -1) = false := by simpa using e
            obtain ⟨v, hv0⟩ : ∃ v, decide ((b : Int) < ma) = v := ⟨_, rfl⟩
            have hv := Lib.hid (show (decide (ma = -1) || decide ((b : Int) < ma)) = v by rw [decide_eq_false e, Bool.false_or, hv0])
            clear e
            go_wp2_with (fail)
            go_meet
            exact ⟨rfl, congrArg Value.bool hv.out.symm⟩
        obtain ⟨hwc, rfl⟩ := hcut
        subst hwc
        obtain ⟨co, hco⟩ : ∃ co, (decide (ma = -1) || decide ((b : Int) < ma)) = co := ⟨_, rfl⟩
        rw [hco]
        have Hco := Lib.hid hco
        clear hco
        cases co with
        | false =>
          have hX3 := Lib.hid (show Mt.im q.size (Mt.span T a b) x = X by
            have h := Hco.out
            simp only [Bool.or_eq_false_iff, decide_eq_false_iff_not] at h
            have := Hmb.out
            rw [HX2.out]
            exact Mt.im_times_end h.1 (by omega))
          go_wp2_with (fail)
          go_ret
          rw [hX3.out] at hS
          exact ⟨g', rfl, hgw', hS, hB1⟩
        | true =>
          obtain ⟨kd', st', A', n', c', mi', ma', ba, off, hA, hrow, hkl, hcl'⟩ := Hcall.out 0 (by rw [Hn1.out]; omega) wc hB1
          have hrw : Mt.im q.size T (Mt.im q.size (Mt.riter T b) x) = Mt.im q.size (Mt.riter T (b + 1)) x := Mt.im_comp (Mt.inR_riter hTin b) hTin hxq
          have hyN := Mt.im_below q.size (Mt.riter T b) x
          have hzN := Mt.im_below q.size (Mt.span T a b) x
          have hy2N := Mt.im_below q.size (Mt.riter T (b + 1)) x
          rw [← HNq.out] at hyN hzN hy2N
          rw [← HTd.out] at hcl'
          have kc := hcl' wc _ g2 cap2 _ (Below.refl _ _) hS5 hyN
          rw [hrw] at kc
          have Hsp := Lib.hid (Mt.im_span hTin hab' hxq)
          have Hfull := Lib.hid (fun hm h => Mt.im_times_full (ma := ma) hTin hab' hxq hm h)
          obtain ⟨y2, hy2⟩ : ∃ y, y = Mt.im q.size (Mt.riter T (b + 1)) x := ⟨_, rfl⟩
          obtain ⟨z, hz⟩ : ∃ z, z = Mt.im q.size (Mt.span T a b) x := ⟨_, rfl⟩
          rw [← hy2] at kc hy2N
          rw [← hz] at hS hzN
          have Hy2 := Lib.hid hy2
          have Hz := Lib.hid hz
          have hgng : gn ≠ g' := fun e => own_blk_ne hS h1 (by decide) (by rw [e]; rfl)
          have hn0 : (0 : Nat) < n := by rw [Hn1.out]; omega
          have hgl := (hS.lt g' rfl).2
          have hgnl := h1.lt
          have hBs := hB1.size
          subst hA
          simp only [Nat.zero_mul, Nat.add_zero] at hrow
          clear hy2 hz hrw hcl' hyN c4
          obtain ⟨same, hsame⟩ : ∃ v, decide (z ||| y2 = z) = v := ⟨_, rfl⟩
          have Hsame := Lib.hid hsame
          have hadd := fun w6 (h1 : Own w6 w.heap.size 4 1 encB (.slice (some ⟨g', 0, none⟩) N N) (boolsN z N)) g5 (hg : g' ≠ g5) (h2 : Own w6 wc.heap.size 4 1 encB (.slice (some ⟨g5, 0, none⟩) N N) (boolsN y2 N)) => add_any w.heap.size wc.heap.size g' g5 N N N z y2 hN hzN hy2N hg w6 h1 h2
          rw [hsame] at hadd
          have Hadd := Lib.hid hadd
          clear hadd hsame
          cases same with
          | true =>
            go_wp2_with (first | (refine wl_load_node_at rfl _ rfl _ _ rfl _ _ _ _ _ _ _ hrow ?_) | (go_at_call 52; refine kc.mono ?_; rintro e w5 ⟨g5, rfl, hg5, hS5, hB6⟩) | (go_at_call 64; refine (Hadd.out _ (hS.then_ hB6) g5 (by omega) hS5).mono ?_; rintro e w6 ⟨rfl, hS6, hT6⟩))
            go_ret
            have hB7 := below_then hB1 hB6
            have he : z ||| y2 = z := of_decide_eq_true Hsame.out
            have hX3 : z = X := by
              have := Hfull.out Hmb.out (by rw [← Hy2.out, ← Hz.out]; exact he)
              rw [HX2.out, Hz.out]
              exact this
            rw [he, hX3] at hS6
            exact ⟨g', rfl, hgw', hS6, hB7.trans (hT6.below hgw' hB7.size)⟩
          | false =>
            go_wp2_with (first | (refine wl_load_node_at rfl _ rfl _ _ rfl _ _ _ _ _ _ _ hrow ?_) | (go_at_call 52; refine kc.mono ?_; rintro e w5 ⟨g5, rfl, hg5, hS5, hB6⟩) | (go_at_call 64; refine (Hadd.out _ (hS.then_ hB6) g5 (by omega) hS5).mono ?_; rintro e w6 ⟨rfl, hS6, hT6⟩))
            have hB7 := below_then hB1 hB6
            have hne : ¬ z ||| y2 = z := of_decide_eq_false Hsame.out
            have hmore := bits_more hzN hy2N hne
            have htr2 := trues_own hS6
            obtain ⟨hcnt, hbl, htr⟩ := Hcnt.out
            have hle := bitsTo_length (z ||| y2) N
            have hzz : z ||| y2 = Mt.im q.size (Mt.span T a (b + 1)) x := by rw [Hz.out, Hy2.out]; exact Hsp.out
            rw [← Hz.out] at hcnt htr hbl
            refine ⟨⟨b + 1, g5, N, by omega, Lib.hid ?_, rfl, rfl, by omega, ?_, ?_, ?_, blk_turn (blk_then h1 hB6) hT6 (by omega), hB7.trans (hT6.below hgw' hB7.size)⟩, by rw [htr2, htr]; omega⟩
            · have h := Hco.out
              simp only [Bool.or_eq_true, decide_eq_true_eq] at h
              omega
            · rw [← hzz]; omega
            · rw [← Hy2.out]
              exact own_turn (hS5.mono hBs) hT6 (by omega)
            · rw [← hzz]; exact hS6
end Go.Proofs.Ytajainmldcnaeaa
namespace Go.Proofs.Ytajainmldcnaeaa
open Go.RowKit Go.Shelf Go.Maps
set_option linter.unusedVariables false
set_option linter.unusedSimpArgs false
attribute [local go_sem] Oper.semAt_some

set_option maxRecDepth 100000 in
set_option maxHeartbeats 4000000 in
theorem takes_any (nd : Nd) (hT : nd.isT = true) (B : Nat) (w : World) (kd : Int) (st : BSet) (A : Option Addr) (n c : Nat) (mi ma : Int) (q : ByteArray) (N : Nat) (hNq : N = q.size + 1) (hN : N ≤ 1099511627776) (hin : NdIn w B nd (nodeC kd st A n c mi ma)) (hB : B ≤ w.heap.size) (V : Bool) (hV : V = true ↔ ∃ i j, i ≤ q.size ∧ Mt.tk q nd i j) :
    Calls Try.prog 31 #[.agg (nodeC kd st A n c mi ma), .string q] w fun e w' => e = .returned (.bool V) ∧ Below w.heap.size w w' := by
  have HV := Lib.hid hV
  clear hV
  have HNq := Lib.hid hNq
  have hone : 1 ≤ N := by omega
  have hqs : q.size < 1099511627776 := by omega
  clear hNq
  go_enter Try.func31, Try.ntmps31
  have h1 := Blk.new w 27 (nodeC kd st A n c mi ma)
  have hB1 : Below w.heap.size w (w.alloc (.cells (nodeC kd st A n c mi ma) 27)) := below_alloc (Below.refl _ _) _
  go_upto_region 1 with (fail)
  obtain ⟨W1, hW1⟩ : ∃ y, y = w.alloc (.cells (nodeC kd st A n c mi ma) 27) := ⟨_, rfl⟩
  rw [← hW1] at h1 hB1 ⊢
  clear hW1
  obtain ⟨gn, hgn⟩ : ∃ y, y = w.heap.size := ⟨_, rfl⟩
  have hgn2 : w.heap.size ≤ gn := by omega
  rw [← hgn] at h1 ⊢
  clear hgn
  go_upto_region 2 with (refine wl_makeB rfl _ _ rfl N w.heap.size (congrArg (Value.int .i64) (by have := HNq.out; omega)) (congrArg (Value.int .i64) (by have := HNq.out; omega)) hN hB1.size ?_; intro w2 hS2 hB2)
  obtain ⟨g, hg⟩ : ∃ y, y = W1.heap.size := ⟨_, rfl⟩
  have hgw : w.heap.size ≤ g := by rw [hg]; exact hB1.size
  have hgg : gn < g := by rw [hg]; exact h1.lt
  rw [← hg] at hS2 ⊢
  clear hg
  replace h1 := blk_then h1 hB2
  replace hB1 := below_then hB1 hB2
  clear hB2
  go_wp2_with (fail)
  go_loopw [15] (fun iv wr => ∃ k z : Nat, k ≤ N ∧ iv = .int .i64 k ∧ (∀ i, z.testBit i = decide (i < k)) ∧ Own wr w.heap.size 4 1 encB (.slice (some ⟨g, 0, none⟩) N N) (boolsN z N) ∧ Blk wr gn 27 (nodeC kd st A n c mi ma) ∧ Below w.heap.size w wr) (fun iv _ => N - (intOf iv).toNat)
  case atStart => exact ⟨0, 0, by omega, rfl, fun i => by simp, hS2, h1, hB1⟩
  case round =>
    clear hS2 h1 hB1
    obtain ⟨k, z, hk, rfl, hz, hS, h1, hB1⟩ := hrel
    have Hz := Lib.hid hz
    clear hz
    by_cases hkl : k < N
    · have hkI : (k : Int) < N := by omega
      have hkb : k < 1099511628000 := by omega
      have hgb := hS.lt g rfl
      go_wp2_with (refine wl_store_one (enc := encB) encB_size rfl _ info_bool1 _ _ rfl g k N N rfl true rfl rfl rfl hS (by rw [boolsN_length]; exact hkl) ?_; intro w7 hS7 hg7)
      rw [boolsN_set] at hS7
      refine ⟨⟨k + 1, z ||| 2 ^ k, by omega, rfl, fun i => ?_, hS7, blk_grown h1 hg7 (by omega), below_grown hB1 hg7 hgw⟩, by simp only [intOf]; omega⟩
      rw [testBit_or_pow, Hz.out, Bool.eq_iff_iff]
      simp
      omega
    · have hkI : ¬ (k : Int) < N := by omega
      obtain rfl : N = k := by omega
      have hzN : below z N := fun i hi => by rw [Hz.out] at hi; simpa using hi
      have kc := ends_any nd hT B wr _ q N _ g N z HNq.out hN (hin.keep (fun j hj => hB1.block j (by omega))) (by have := hB1.size; omega) hS hzN
      obtain ⟨y, hy⟩ : ∃ y, y = Mt.im q.size (Mt.tk q nd) z := ⟨_, rfl⟩
      rw [← hy] at kc
      have Hy := Lib.hid hy
      clear hy
      go_upto_region 8 with (first | (refine wl_load_node rfl _ rfl _ rfl _ _ _ _ _ _ _ h1 ?_) | (go_at_call 52; refine kc.mono ?_; rintro e w5 ⟨g5, rfl, hg5, hS5, hB6⟩))
      have hB7 := below_then hB1 hB6
      have hbit : ∀ j, y.testBit j = true ↔ ∃ i, i ≤ q.size ∧ Mt.tk q nd i j := fun j => by
        have hzq : below z (q.size + 1) := by rw [← HNq.out]; exact hzN
        rw [Hy.out, Mt.im_bit (Mt.tk_in q hT) hzq]
        have hNq := HNq.out
        constructor
        · rintro ⟨i, h1, h2⟩
          have := hzq i h1
          exact ⟨i, by omega, h2⟩
        · rintro ⟨i, h1, h2⟩
          exact ⟨i, by rw [Hz.out]; simp; omega, h2⟩
      have hyN : below y N := by rw [Hy.out, HNq.out]; exact Mt.im_below _ _ _
      have Hbit := Lib.hid hbit
      have Hc := Lib.hid (own_bits hS5)
      have HyN := Lib.hid hyN
      clear hbit hS hS5 hB1 hB6 h1 kc hzN hyN
      go_loopw [27] (fun iv wr => ∃ k : Nat, k ≤ N ∧ iv = .int .i64 k ∧ Hid (∀ j, j < k → y.testBit j = false) ∧ wr = w5) (fun iv _ => N - (intOf iv).toNat)
      case atStart => exact ⟨0, by omega, rfl, Lib.hid (fun j hj => by omega), rfl⟩
      case round =>
        obtain ⟨k, hk, rfl, hno, rfl⟩ := hrel
        by_cases hkl : k < N
        · have hkI : (k : Int) < N := by omega
          have hkb : k < 1099511628000 := by omega
          have cc := Hc.out k hkl
          obtain ⟨b, hb⟩ : ∃ b, y.testBit k = b := ⟨_, rfl⟩
          rw [hb] at cc
          have Hb := Lib.hid hb
          clear hb
          cases b with
          | true =>
            go_wp2_with (fail)
            go_ret
            obtain ⟨i, h1, h2⟩ := (Hbit.out k).1 Hb.out
            exact ⟨by rw [HV.out.2 ⟨i, k, h1, h2⟩]; rfl, hB7⟩
          | false =>
            go_wp2_with (fail)
            refine ⟨⟨k + 1, by omega, rfl, Lib.hid (fun j hj => ?_), trivial⟩, by simp only [intOf]; omega⟩
            by_cases e : j = k
            · rw [e]; exact Hb.out
            · exact hno.out j (by omega)
        · have hkI : ¬ (k : Int) < N := by omega
          obtain rfl : N = k := by omega
          go_wp2_with (fail)
          go_ret
          have hVf : V = false := by
            cases hv : V with
            | false => rfl
            | true =>
              obtain ⟨i, j, h1, h2⟩ := HV.out.1 hv
              have hj := (Hbit.out j).2 ⟨i, h1, h2⟩
              have := hno.out j (HyN.out j hj)
              rw [hj] at this
              cases this
          exact ⟨by rw [hVf]; rfl, hB7⟩
end Go.Proofs.Ytajainmldcnaeaa
namespace Go.Proofs.Ytajainmldcnaeaa
open Go.RowKit Go.Shelf Go.Maps
set_option linter.unusedVariables false
set_option linter.unusedSimpArgs false
attribute [local go_sem] Oper.semAt_some

set_option maxRecDepth 100000 in
set_option maxHeartbeats 4000000 in
theorem heavy_any (nd : Nd) : ∀ (B : Nat) (w : World) (cs : Array Value) (by_ : Int), NdIn w B nd cs → B ≤ w.heap.size →
    Calls Try.prog 30 #[.agg cs, .int .i64 by_] w fun e w' => ∃ v : Int, e = .returned (.int .i64 v) ∧ Below w.heap.size w w' := by
  induction nd using Nd.ind with
  | h kd st l mi ma ih =>
  intro B w cs by_ hin hB
  obtain ⟨A, n, c, cl, rfl, hn, hcl, hmax, hs, hr⟩ := hin.inv
  have Hn := Lib.hid hn
  have Hcl := Lib.hid hcl
  have Hr := Lib.hid hr
  have Ih := Lib.hid ih
  clear hn hcl hr ih hin
  go_enter Try.func30, Try.ntmps30
  have h1 := Blk.new w 27 (nodeC kd st A n c mi ma)
  have hB1 : Below w.heap.size w (w.alloc (.cells (nodeC kd st A n c mi ma) 27)) := below_alloc (Below.refl _ _) _
  go_upto_region 1 with (fail)
  obtain ⟨W1, hW1⟩ : ∃ y, y = w.alloc (.cells (nodeC kd st A n c mi ma) 27) := ⟨_, rfl⟩
  rw [← hW1] at h1 hB1 ⊢
  clear hW1
  obtain ⟨gn, hgn⟩ : ∃ y, y = w.heap.size := ⟨_, rfl⟩
  rw [← hgn] at h1 ⊢
  clear hgn
  have c5 : W1.cell? ⟨gn, 5, none⟩ = some (.slice A n c) := h1.cellv (i := 5) rfl
  go_wp2_with (fail)
  clear c5
  go_loopw [5, 13] (fun v i wr => ∃ (k : Nat) (m : Int), k ≤ n ∧ i = .int .i64 k ∧ v = .int .i64 m ∧ Below w.heap.size w wr ∧ Blk wr gn 27 (nodeC kd st A n c mi ma)) (fun _ i _ => n - (intOf i).toNat)
  case atStart => exact ⟨0, by_, by omega, rfl, rfl, hB1, h1⟩
  case round =>
    clear h1 hB1
    obtain ⟨k, m, hk, rfl, rfl, hB1, h1⟩ := hrel
    by_cases hkn : k < n
    · have hkI : (k : Int) < n := by omega
      have hkb : k < 1099511628000 := by omega
      have hkl : k < l.length := by rw [← Hn.out]; exact hkn
      have hkc : k < cl.length := by rw [Hcl.out]; exact hkl
      obtain ⟨ba, off, rfl, hba, hrows⟩ := hs.at_ (by omega)
      have hrow := (hrows k hkc).keep (hB1.block ba (by omega))
      have hsub := Hr.out k hkl hkc
      have hmem : l[k] ∈ l := List.getElem_mem hkl
      obtain ⟨⟨kd', st', l', mi', ma'⟩, hx⟩ : ∃ x, x = l[k] := ⟨_, rfl⟩
      rw [← hx] at hsub hmem
      obtain ⟨A', n', c', cl', hce, -⟩ := hsub.inv
      rw [hce] at hrow hsub
      have Hcall := Lib.hid (fun W v h => Ih.out _ hmem B W _ v (hsub.keep (w' := W) h))
      clear hx hce hsub hmem hrows
      go_upto_region 6 with (first | (refine wl_load_node_at rfl _ rfl _ _ rfl _ _ _ _ _ _ _ hrow ?_) | (refine wl_store_node rfl _ _ rfl _ _ _ _ _ _ _ _ rfl rfl (nodeC 0 0 none 0 0 0 0) rfl (Blk.new _ _ _) ?_; intro w4 h5 hg4))
      have hB4 := below_grown (below_alloc (Below.refl _ wr) (.cells (nodeC 0 0 none 0 0 0 0) 27)) hg4 (Nat.le_refl _)
      replace h1 := blk_then h1 hB4
      have hB5 := below_then hB1 hB4
      have hz5 := hB5.size
      have c0 : w4.cell? ⟨gn, 0, none⟩ = some (.int .i64 kd) := h1.cellv (i := 0) rfl
      have c6 : w4.cell? ⟨gn, 6, none⟩ = some (.int .i64 mi) := h1.cellv (i := 6) rfl
      have c7 : w4.cell? ⟨gn, 7, none⟩ = some (.int .i64 ma) := h1.cellv (i := 7) rfl
      clear hrow hg4 hB4
      by_cases k5 : kd = 5
      · have e5 : (kd == 5) = true := by simpa using k5
        clear k5
        go_wp2_with (first | (refine wl_load_node rfl _ rfl _ rfl _ _ _ _ _ _ _ h5 ?_) | (go_at_call 30; refine (Hcall.out _ _ (fun j hj => hB5.block j (by omega)) (by omega)).mono ?_; rintro e w5 ⟨v, rfl, hB6⟩))
        exact ⟨⟨k + 1, _, by omega, rfl, rfl, below_then hB5 hB6, blk_then h1 hB6⟩, by simp only [intOf]; omega⟩
      · have e5 : (kd == 5) = false := by simpa using k5
        clear k5
        go_wp2_with (first | (refine wl_load_node rfl _ rfl _ rfl _ _ _ _ _ _ _ h5 ?_) | (go_at_call 30; refine (Hcall.out _ _ (fun j hj => hB5.block j (by omega)) (by omega)).mono ?_; rintro e w5 ⟨v, rfl, hB6⟩))
        exact ⟨⟨k + 1, _, by omega, rfl, rfl, below_then hB5 hB6, blk_then h1 hB6⟩, by simp only [intOf]; omega⟩
    · have hkI : ¬ (k : Int) < n := by omega
      have hq := Lib.hid hB1
      go_wp2_with (fail)
      go_ret
      exact ⟨⟨m, rfl⟩, hB1⟩
end Go.Proofs.Ytajainmldcnaeaa
namespace Go.Proofs.Ytajainmldcnaeaa
open Go.RowKit Go.Shelf Go.Maps
set_option linter.unusedVariables false
set_option linter.unusedSimpArgs false
attribute [local go_sem] Oper.semAt_some

theorem short_any (q : ByteArray) (w : World) : Calls Try.prog 26 #[.string q] w fun e w' => (∃ q' : ByteArray, e = .returned (.string q') ∧ q'.size ≤ 60) ∧ w' = w := by
  go_enter Try.func26, Try.ntmps26
  go_wp2_with (fail)
  go_ret
  refine ⟨⟨_, rfl, ?_⟩, rfl⟩
  rw [ByteArray.size_extract]
  omega
end Go.Proofs.Ytajainmldcnaeaa
namespace Go.Proofs.Ytajainmldcnaeaa
set_option linter.unusedVariables false
set_option linter.unusedSimpArgs false

namespace Mt
theorem meets_plain {q : ByteArray} {nd : Nd} (hT : nd.isT = true) (rule : Nat) (hE : ∀ d ∈ (layF nd).1.e, (0 ≤ d.fr ∧ d.fr < (layF nd).1.s) ∧ 0 ≤ d.tt ∧ d.tt < (layF nd).1.s) (V : Bool) (hV : V = true ↔ ∃ i j, i ≤ q.size ∧ tk q nd i j) :
    mV (layF nd).1.e ((List.replicate (layF nd).1.s 0).set (layF nd).2 (2 ^ rule)) (layF nd).1.s q (q.size + 1) = if V = true then 2 ^ rule else 0 := by
  obtain ⟨hs, _, hend⟩ := layF_good hT
  apply bits_ext
  intro b
  rw [mV_least (by omega) hE]
  have hget : ∀ s, s < (layF nd).1.s → (((List.replicate (layF nd).1.s 0).set (layF nd).2 (2 ^ rule)).getD s 0).testBit b = (decide (s = (layF nd).2) && decide (b = rule)) := fun s hs' => by
    rw [List.getD_eq_getElem?_getD, List.getElem?_eq_getElem (by simpa using hs'), Option.getD_some, List.getElem_set]
    by_cases e : (layF nd).2 = s
    · rw [if_pos e, Nat.testBit_two_pow]
      simp [e.symm, eq_comm]
    · rw [if_neg e]
      simp [Ne.symm e]
  constructor
  · rintro ⟨i, s, h1, h2, h3, h4⟩
    rw [hget s h2, Bool.and_eq_true, decide_eq_true_eq, decide_eq_true_eq] at h4
    obtain ⟨rfl, rfl⟩ := h4
    obtain ⟨i', h5, h6⟩ := (layF_least hT i).1 h3
    rw [if_pos (hV.2 ⟨i', i, h5, h6⟩), Nat.testBit_two_pow]
    simp
  · intro h
    by_cases hv : V = true
    · rw [if_pos hv, Nat.testBit_two_pow, decide_eq_true_eq] at h
      obtain ⟨i, j, h1, h2⟩ := hV.1 hv
      have hj := tk_in q hT i j h1 h2
      exact ⟨j, (layF nd).2, hj, hend, (layF_least hT j).2 ⟨i, h1, h2⟩, by rw [hget _ hend]; simp [h]⟩
    · rw [if_neg hv] at h
      simp at h
end Mt
end Go.Proofs.Ytajainmldcnaeaa
namespace Go.Proofs.Ytajainmldcnaeaa
set_option linter.unusedVariables false
set_option linter.unusedSimpArgs false

namespace Mt
/-- an edge between two numbers of states, of a kind that there is -/
def EgN (e : Edg) : Prop := 0 ≤ e.fr ∧ 0 ≤ e.tt ∧ 1 ≤ e.kd ∧ e.kd ≤ 4 ∧ (e.kd ≠ 2 → e.st = 0)
def AllN (m : Ly) : Prop := ∀ e ∈ m.e, EgN e
def KeepsN (f : LayF) : Prop := ∀ m a, AllN m → AllN (f m a).1
theorem AllN.edge {m : Ly} (h : AllN m) (kd : Int) (fr tt : Nat) (st : BSet) (h1 : 1 ≤ kd) (h2 : kd ≤ 4) (h3 : kd ≠ 2 → st = 0) : AllN (m.edge kd fr tt st) := by
  intro e he
  rcases List.mem_append.1 he with he | he
  · exact h e he
  · rw [List.mem_singleton] at he
    subst he
    exact ⟨by simp, by simp, h1, h2, h3⟩
theorem AllN.free {m : Ly} (h : AllN m) (fr tt : Nat) : AllN (m.free fr tt) := h.edge 1 fr tt 0 (by omega) (by omega) (fun _ => rfl)
theorem AllN.new {m : Ly} (h : AllN m) : AllN m.new := h
theorem AllN.frees (z : Nat) : ∀ (l : List Nat) (m : Ly), AllN m → AllN (m.frees z l)
  | [], m, h => h
  | x :: l, m, h => AllN.frees z l (m.free x z) (h.free x z)
theorem AllN.joined {m : Ly} (h : AllN m) (l : List Nat) : AllN (m.joined l).1 := AllN.frees _ l _ h.new
theorem KeepsN.reps {f : LayF} (h : KeepsN f) (r : Ly × Nat) (hr : AllN r.1) : ∀ n, AllN (reps f n r).1
  | 0 => hr
  | n + 1 => h _ _ (h.reps r hr n)
theorem KeepsN.opts {f : LayF} (h : KeepsN f) (r : (Ly × Nat) × List Nat) (hr : AllN r.1.1) : ∀ n, AllN (opts f n r).1.1
  | 0 => hr
  | n + 1 => h _ _ (h.opts r hr n)
theorem KeepsN.times {f : LayF} (h : KeepsN f) (u : Nat) (mi ma : Int) : KeepsN (timesP f u mi ma) := by
  intro m a hm
  unfold timesP
  split
  · exact hm
  split
  · exact ((h _ _ ((h.reps (m, a) hm _).new.free _ _)).free _ _).joined _
  split
  · exact (h.opts (_, _) (h.reps (m, a) hm _) _).joined _
  · exact h.reps (m, a) hm _
theorem row_keepsN : ∀ l : List Nd, (∀ x ∈ l, KeepsN x.lay) → ∀ r : Ly × Nat, AllN r.1 → AllN (Nd.row l r).1
  | [], _, r, hr => by simpa [Nd.row] using hr
  | x :: l, h, r, hr => by
    simp only [Nd.row]
    exact row_keepsN l (fun y hy => h y (by simp [hy])) _ (h x (by simp) _ _ hr)
theorem alt_keepsN : ∀ l : List Nd, (∀ x ∈ l, KeepsN x.lay) → ∀ (a : Nat) (r : Ly × List Nat), AllN r.1 → AllN (Nd.alt l a r).1
  | [], _, a, r, hr => by simpa [Nd.alt] using hr
  | x :: l, h, a, r, hr => by
    simp only [Nd.alt]
    exact alt_keepsN l (fun y hy => h y (by simp [hy])) a _ (h x (by simp) _ _ (hr.new.free _ _))
theorem lay_keepsN (nd : Nd) : KeepsN nd.lay := by
  induction nd using Nd.ind with
  | h kd st l mi ma ih =>
  intro m a hm
  simp only [Nd.lay]
  split
  · exact hm.new.edge 2 _ _ _ (by omega) (by omega) (fun h => absurd rfl h)
  split
  · exact hm.new.edge 3 _ _ _ (by omega) (by omega) (fun _ => rfl)
  split
  · exact hm.new.edge 4 _ _ _ (by omega) (by omega) (fun _ => rfl)
  split
  · exact row_keepsN l ih (m, a) hm
  split
  · exact (alt_keepsN l ih a (m, []) hm).joined _
  split
  · match l, ih with
    | [], _ => simpa [Nd.tim] using hm
    | x :: l, ih =>
      simp only [Nd.tim]
      exact (ih x (by simp)).times _ _ _ m a hm
  · exact hm
theorem layF_edges {nd : Nd} (hT : nd.isT = true) : ∀ d ∈ (layF nd).1.e, EgN d ∧ d.fr < (layF nd).1.s ∧ d.tt < (layF nd).1.s := by
  intro d hd
  have h1 : EgN d := lay_keepsN nd ⟨1, []⟩ 0 (fun e he => absurd he (by simp)) d hd
  obtain ⟨new, g⟩ := lay_ok (q := ⟨#[]⟩) nd hT ⟨1, []⟩ 0 (by show 0 < 1; omega)
  have he : (layF nd).1.e = new := by
    have := g.e
    simpa [layF] using this
  have hb := g.bnd d (by rw [← he]; exact hd)
  have hb1 : d.fr.toNat < (layF nd).1.s := hb.1
  have hb2 : d.tt.toNat < (layF nd).1.s := hb.2
  exact ⟨h1, by have := h1.1; omega, by have := h1.2.1; omega⟩
theorem build_right {nd : Nd} {r : Nat} (hT : nd.isT = true) (hU : ¬ 2048 ≤ nd.U) (hr : r < 32) : rightF (buildF nd (r : Int)).1 = true := by
  rw [buildF_ok hT hU hr]
  obtain ⟨hs, _, hend⟩ := layF_good hT
  unfold rightF rightB
  rw [Bool.and_eq_true, Bool.and_eq_true, decide_eq_true_eq, decide_eq_true_eq, List.all_eq_true]
  refine ⟨⟨by show (1 : Int) ≤ ((layF nd).1.s : Int); omega, ?_⟩, fun d hd => ?_⟩
  · simp
  · obtain ⟨⟨h1, h2, h3, h4, h5⟩, h6, h7⟩ := layF_edges hT d hd
    unfold badE inS
    have h5' : ((d.kd != 2) && !decide (d.st = 0)) = false := by
      by_cases e : d.kd = 2
      · simp [e]
      · rw [h5 e]; simp
    rw [h5']
    simp only [Bool.not_eq_true', Bool.or_eq_false_iff, decide_eq_false_iff_not, Bool.and_eq_true, decide_eq_true_eq, Bool.not_eq_false']
    refine ⟨⟨⟨⟨by omega, by omega⟩, ⟨h1, ?_⟩⟩, ⟨h2, ?_⟩⟩, trivial⟩
    · exact h6
    · exact h7
end Mt
end Go.Proofs.Ytajainmldcnaeaa
namespace Go.Proofs.Ytajainmldcnaeaa
open Go.RowKit Go.Maps
set_option linter.unusedVariables false
set_option linter.unusedSimpArgs false

namespace Mt
/-- the machine of a tree: how many states, which edges, which rules -/
def mN (nd : Nd) : Nat := (layF nd).1.s
def mE (nd : Nd) : List Edg := (layF nd).1.e
def mR (nd : Nd) (r : Nat) : List Nat := (List.replicate (layF nd).1.s 0).set (layF nd).2 (2 ^ r)
theorem mR_len (nd : Nd) (r : Nat) : (mR nd r).length = mN nd := by simp [mR, mN]
theorem m_fits {nd : Nd} (hT : nd.isT = true) (r : Nat) : Fits (mN nd) (mE nd) (mR nd r) := by
  obtain ⟨hs, _, hend⟩ := layF_good hT
  have he := layF_edges hT
  exact ⟨by unfold mN; omega, mR_len nd r, fun d hd => ⟨(he d hd).1.2.2.1, (he d hd).1.2.2.2.1⟩, fun d hd => ⟨(he d hd).1.1, (he d hd).2.1⟩, fun d hd => ⟨(he d hd).1.2.1, (he d hd).2.2⟩, fun d hd => (he d hd).1.2.2.2.2⟩
theorem mN_eq {nd : Nd} (hT : nd.isT = true) (hU : ¬ 2048 ≤ nd.U) : mN nd = placesN nd := by
  have h := (layF_good hT).1
  unfold mN placesN
  rw [if_pos hT, h]
  omega
theorem mR_lt {nd : Nd} {r : Nat} (hr : r < 32) : ∀ x ∈ mR nd r, x < 4294967296 := by
  intro x hx
  have hp : 2 ^ r < 2 ^ 32 := Nat.pow_lt_pow_right (by omega) hr
  rcases List.mem_or_eq_of_mem_set hx with h | h
  · have := (List.mem_replicate.1 h).2
    omega
  · omega
theorem m_right {nd : Nd} {r : Nat} (hT : nd.isT = true) (hU : ¬ 2048 ≤ nd.U) (hr : r < 32) : rightB (mN nd : Int) (mE nd) (mN nd) = true := by
  have h := build_right hT hU hr
  rw [buildF_ok hT hU hr] at h
  unfold rightF at h
  simp only at h
  have e : ((List.replicate (layF nd).1.s 0).set (layF nd).2 (2 ^ r)).length = mN nd := mR_len nd r
  rw [e] at h
  exact h
end Mt
theorem build_good (nd : Nd) (hT : nd.isT = true) (hU : ¬ 2048 ≤ nd.U) (r : Nat) (hr : r < 32) (B : Nat) (w : World) (cs : Array Value) (hin : NdIn w B nd cs) (hB : B ≤ w.heap.size) :
    Calls Try.prog 28 #[.agg cs, .int .i64 (r : Int)] w fun e w' => Below w.heap.size w w' ∧ ∃ A c B' d, e = .returned (.tuple #[.agg (nfaC ((Mt.mN nd : Nat) : Int) A (Mt.mE nd).length c B' (Mt.mN nd) d), .int .i64 0]) ∧ RMach w'.heap.size w' (Mt.mN nd) (Mt.mE nd) (Mt.mR nd r) A (Mt.mE nd).length B' (Mt.mN nd) := by
  refine (build_any nd (r : Int) B w cs hin hB).mono ?_
  rintro e w' ⟨hb, v, rfl, A, c, B', d, rfl, hE, hR⟩
  rw [buildF_ok hT hU hr] at hE hR ⊢
  obtain ⟨hs, hel, hend⟩ := layF_good hT
  refine ⟨hb, A, c, B', d, ?_, ⟨Mt.m_fits hT r, rfl, rfl, ?_, ?_, Mt.mR_lt hr, hE, hR, Nat.le_refl _⟩⟩
  · have e : ((List.replicate (layF nd).1.s 0).set (layF nd).2 (2 ^ r)).length = Mt.mN nd := Mt.mR_len nd r
    simp only [e]
    rfl
  · have : (Mt.mE nd).length ≤ 3 * nd.U := hel
    omega
  · have : Mt.mN nd = 1 + nd.U := hs
    omega
end Go.Proofs.Ytajainmldcnaeaa
namespace Go.Proofs.Ytajainmldcnaeaa
set_option linter.unusedVariables false
set_option linter.unusedSimpArgs false

namespace Ere
/-- q holds p from place a on, and no repeat stands behind it -/
structure Emb (p q : ByteArray) (a : Nat) : Prop where
  le : a + p.size ≤ q.size
  at_ : ∀ k, k < p.size → chr q (a + k) = chr p k
  fol : ∀ c, c = 42 ∨ c = 43 ∨ c = 63 ∨ c = 123 → isAt q (a + p.size) c = false
section
variable {p q : ByteArray} {a : Nat}
theorem Emb.isAt (A : Emb p q a) {k c : Nat} (h : k < p.size) : isAt q (a + k) c = isAt p k c := by
  unfold Ere.isAt
  rw [A.at_ k h, decide_eq_true h, decide_eq_true (show a + k < q.size by have := A.le; omega)]
theorem Emb.isAtR (A : Emb p q a) {k c : Nat} (h : k ≤ p.size) (hc : c = 42 ∨ c = 43 ∨ c = 63 ∨ c = 123) : Ere.isAt q (a + k) c = Ere.isAt p k c := by
  by_cases hk : k < p.size
  · exact A.isAt hk
  · obtain rfl : k = p.size := by omega
    rw [A.fol c hc]
    unfold Ere.isAt
    rw [decide_eq_false (by omega), Bool.false_and]
theorem Emb.oneOf (A : Emb p q a) {k : Nat} {l : List Nat} (h : k < p.size) : oneOf q (a + k) l = oneOf p k l := by
  unfold Ere.oneOf
  rw [A.at_ k h, decide_eq_true h, decide_eq_true (show a + k < q.size by have := A.le; omega)]
theorem Emb.digits (A : Emb p q a) : ∀ k i n c, (digits p k i n c).2.1 < p.size → digits q k (a + i) n c = ((digits p k i n c).1, a + (digits p k i n c).2.1, (digits p k i n c).2.2)
  | 0, i, n, c, h => rfl
  | k + 1, i, n, c, h => by
    have hi : i < p.size := by
      have := (digits_le p (k + 1) i n c).2
      omega
    unfold Ere.digits at h ⊢
    rw [decide_eq_true hi] at h ⊢
    rw [decide_eq_true (show a + i < q.size by have := A.le; omega), A.at_ i hi]
    split
    · rename_i h1
      rw [if_pos h1] at h
      exact A.digits k (i + 1) _ _ h
    · rfl
theorem Emb.countsR (A : Emb p q a) {i j : Nat} {c : Nat × Int} (h : countsR p i = .got c j) : countsR q (a + i) = .got c (a + j) := by
  have hf := countsR_fwd h
  have e1 := A.digits 4 (i + 1) 0 0
  have e2 := A.digits 4 ((Ere.digits p 4 (i + 1) 0 0).2.1 + 1) 0 0
  have l2 := (digits_le p 4 ((Ere.digits p 4 (i + 1) 0 0).2.1 + 1) 0 0).2
  unfold Ere.countsR at h ⊢
  simp only at h ⊢
  obtain ⟨⟨d1, d2, d3⟩, hd⟩ : ∃ d, Ere.digits p 4 (i + 1) 0 0 = d := ⟨_, rfl⟩
  rw [hd] at h e1 e2 l2
  simp only at h e1 e2 l2
  have key : d2 ≤ j := by
    split at h
    · split at h
      · injection h with _ h; omega
      · split at h
        · cases h
        · injection h with _ h; omega
    · split at h
      · cases h
      · injection h with _ h; omega
  rw [show a + i + 1 = a + (i + 1) from rfl, e1 (by omega)]
  simp only
  rw [A.isAt (show d2 < p.size by omega), A.isAt (show d2 < p.size by omega)]
  split at h
  · rename_i h1
    have h1' : (cntOk (d1, a + d2, d3) && Ere.isAt p d2 44) = true := h1
    rw [if_pos h1']
    have k2 : d2 + 1 ≤ j := by
      split at h
      · injection h with _ h; omega
      · split at h
        · cases h
        · injection h with _ h; omega
    rw [show a + d2 + 1 = a + (d2 + 1) from rfl, A.isAt (show d2 + 1 < p.size by omega)]
    split at h
    · rename_i h2
      rw [if_pos h2]
      injection h with h4 h5
      rw [h4, ← h5]
    · rename_i h2
      rw [if_neg h2]
      split at h
      · cases h
      · rename_i h3
        injection h with h4 h5
        rw [e2 (by omega)]
        simp only
        rw [A.isAt (show (Ere.digits p 4 (d2 + 1) 0 0).2.1 < p.size by omega)]
        have h3' : ¬ (((!cntOk ((Ere.digits p 4 (d2 + 1) 0 0).1, a + (Ere.digits p 4 (d2 + 1) 0 0).2.1, (Ere.digits p 4 (d2 + 1) 0 0).2.2) || !Ere.isAt p (Ere.digits p 4 (d2 + 1) 0 0).2.1 125) || decide ((Ere.digits p 4 (d2 + 1) 0 0).1 < d1)) = true) := h3
        rw [if_neg h3', h4, h5]
  · rename_i h1
    have h1' : ¬ ((cntOk (d1, a + d2, d3) && Ere.isAt p d2 44) = true) := h1
    rw [if_neg h1']
    split at h
    · cases h
    · rename_i h2
      have h2' : ¬ ((!cntOk (d1, a + d2, d3) || !Ere.isAt p d2 125) = true) := h2
      injection h with h4 h5
      rw [if_neg h2', h4, h5]
theorem Emb.repeatR (A : Emb p q a) {t u : Nd} {i j : Nat} (hi : i ≤ p.size) (h : repeatR p t i = .got u j) : repeatR q t (a + i) = .got u (a + j) := by
  unfold Ere.repeatR at h ⊢
  rw [A.isAtR hi (by omega), A.isAtR hi (by omega), A.isAtR hi (by omega), A.isAtR hi (by omega)]
  split at h
  · rename_i h1; rw [if_pos h1]; injection h with h1 h2; rw [h1, ← h2]; rfl
  rename_i h1
  rw [if_neg h1]
  split at h
  · rename_i h2; rw [if_pos h2]; injection h with h1 h2; rw [h1, ← h2]; rfl
  rename_i h2
  rw [if_neg h2]
  split at h
  · rename_i h3; rw [if_pos h3]; injection h with h1 h2; rw [h1, ← h2]; rfl
  rename_i h3
  rw [if_neg h3]
  split at h
  · rename_i h4
    rw [if_pos h4]
    cases hc : Ere.countsR p i with
    | fault e a => rw [hc] at h; cases h
    | got c k =>
      rw [hc] at h
      injection h with h5 h6
      rw [A.countsR hc]
      simp only [Res.bind]
      rw [h5, ← h6]
      rfl
  · rename_i h4
    rw [if_neg h4]
    injection h with h5 h6
    rw [h5, h6]
theorem Emb.hit (A : Emb p q a) {k : Nat} (h : k + 1 < p.size) : hit q (a + k) ↔ hit p k := by
  unfold Ere.hit
  rw [A.at_ k (by omega), show a + k + 1 = a + (k + 1) from rfl, A.at_ (k + 1) h]
  have := A.le
  constructor
  · rintro ⟨_, b, c⟩; exact ⟨by omega, b, c⟩
  · rintro ⟨_, b, c⟩; exact ⟨by omega, b, c⟩
theorem Emb.endAt (A : Emb p q a) {i j : Nat} (h : endAt p p.size i = some j) : endAt q q.size (a + i) = some (a + j) := by
  obtain ⟨h1, h2, h3⟩ := endAt_some p _ _ _ h
  have hj : j + 1 < p.size := h2.1
  cases hq : Ere.endAt q q.size (a + i) with
  | none => exact absurd ((A.hit hj).2 h2) (endAt_none q _ _ (by omega) hq (a + j) (by omega))
  | some k =>
    obtain ⟨k1, k2, k3⟩ := endAt_some q _ _ _ hq
    obtain ⟨k, rfl⟩ : ∃ k', k = a + k' := ⟨k - a, by omega⟩
    rcases Nat.lt_trichotomy k j with e | e | e
    · exact absurd ((A.hit (by omega)).1 k2) (h3 k (by omega) e)
    · rw [e]
    · exact absurd ((A.hit hj).2 h2) (k3 (a + j) (by omega) (by omega))
theorem Emb.sub (A : Emb p q a) {i j : Nat} (hj : j ≤ p.size) : sub q (a + i) (a + j) = sub p i j := by
  unfold Ere.sub
  rw [show a + j - (a + i) = j - i by omega]
  apply List.map_congr_left
  intro k hk
  rw [List.mem_range] at hk
  rw [Nat.add_assoc]
  exact A.at_ _ (by omega)
theorem Emb.classR (A : Emb p q a) {s s' i j : Nat} {x : BSet} (h : classR p s i = .got x j) : classR q s' (a + i) = .got x (a + j) := by
  unfold Ere.classR at h ⊢
  cases he : Ere.endAt p p.size (i + 2) with
  | none => rw [he] at h; cases h
  | some k =>
    rw [he] at h
    simp only at h
    have hk : k + 1 < p.size := (endAt_some p _ _ _ he).2.1.1
    rw [show a + i + 2 = a + (i + 2) from rfl, A.endAt he]
    simp only
    rw [A.sub (show k ≤ p.size by omega)]
    split at h
    · cases h
    · injection h with h1 h2
      rw [h1, ← h2]
      rfl
theorem isAt_eq {p : ByteArray} {i c : Nat} (h : isAt p i c = true) : chr p i = c := by
  unfold isAt at h
  simp only [Bool.and_eq_true, decide_eq_true_eq] at h
  exact h.2
theorem Emb.itemR (A : Emb p q a) {s s' i j k : Nat} {x : BSet} (hi : i < p.size) (h : itemR p s i = .got x j) (hjk : j ≤ k) (hk : Ere.isAt p k 93 = true) : itemR q s' (a + i) = .got x (a + j) := by
  have hf := itemR_fwd h hi
  have hks := isAt_lt hk
  have e1 : ∀ c, Ere.isAt q (a + i + 1) c = Ere.isAt p (i + 1) c := fun c => by rw [Nat.add_assoc]; exact A.isAt (by omega)
  have o1 : ∀ l, Ere.oneOf q (a + i + 1) l = Ere.oneOf p (i + 1) l := fun c => by rw [Nat.add_assoc]; exact A.oneOf (by omega)
  unfold Ere.itemR at h ⊢
  rw [A.isAt hi, e1, e1, o1]
  split at h
  · rename_i h1
    rw [if_pos h1]
    exact A.classR h
  rename_i h1
  rw [if_neg h1]
  split at h
  · cases h
  rename_i h2
  rw [if_neg h2]
  by_cases h45 : Ere.isAt p (i + 1) 45 = true
  · have hne : i + 1 ≠ k := fun e => by
      have q1 := isAt_eq h45
      have q2 := isAt_eq hk
      rw [← e, q1] at q2
      omega
    have hlast : i + 2 < p.size := by
      have hij : i + 1 ≤ k := by omega
      omega
    have e2 : Ere.isAt q (a + i + 2) 93 = Ere.isAt p (i + 2) 93 := by rw [Nat.add_assoc]; exact A.isAt hlast
    rw [e2, decide_eq_false (show ¬ q.size ≤ a + i + 2 by have := A.le; omega), A.at_ i hi, show chr q (a + i + 2) = chr p (i + 2) by rw [Nat.add_assoc]; exact A.at_ (i + 2) hlast]
    rw [decide_eq_false (show ¬ p.size ≤ i + 2 by omega)] at h
    split at h
    · rename_i h3
      rw [if_pos h3]
      injection h with h4 h5
      rw [h4, ← h5]
      rfl
    rename_i h3
    rw [if_neg h3]
    split at h
    · cases h
    rename_i h4
    injection h with h5 h6
    have o3 : Ere.oneOf q (a + i + 3) [58, 46, 61] = Ere.oneOf p (i + 3) [58, 46, 61] := by rw [Nat.add_assoc]; exact A.oneOf (by omega)
    rw [o3, if_neg h4, h5, ← h6]
    rfl
  · have e45 : Ere.isAt p (i + 1) 45 = false := by simpa using h45
    rw [e45, A.at_ i hi]
    rw [e45] at h
    simp only [Bool.not_false, Bool.true_or, if_true] at h ⊢
    injection h with h5 h6
    rw [h5, ← h6]
    rfl
theorem itemsR_end {p : ByteArray} {s : Nat} : ∀ n first i x y k, itemsR p s n first i x = .got y k → isAt p k 93 = true
  | 0, _, _, _, _, _, h => by cases h
  | n + 1, first, i, x, y, k, h => by
    unfold itemsR at h
    split at h
    · rename_i h1
      injection h with _ h
      simp only [Bool.and_eq_true] at h1
      rw [← h]
      exact h1.2
    · split at h
      · cases h
      · cases hc : itemR p s i with
        | fault e a => rw [hc] at h; cases h
        | got t j =>
          rw [hc] at h
          exact itemsR_end n _ _ _ _ _ h
theorem Emb.itemsR (A : Emb p q a) {s s' : Nat} : ∀ n n' first i x y k, i ≤ p.size → itemsR p s n first i x = .got y k → k + 1 ≤ n' + i → itemsR q s' n' first (a + i) x = .got y (a + k)
  | 0, _, _, _, _, _, _, _, h, _ => by cases h
  | n + 1, n', first, i, x, y, k, hi, h, hn => by
    have hf := itemsR_fwd _ _ _ _ _ _ h
    have he := itemsR_end _ _ _ _ _ _ h
    obtain ⟨n', rfl⟩ : ∃ c, n' = c + 1 := ⟨n' - 1, by omega⟩
    unfold Ere.itemsR at h ⊢
    rw [A.isAt (show i < p.size by omega)]
    split at h
    · rename_i h1
      rw [if_pos h1]
      injection h with h2 h3
      rw [h2, h3]
    · rename_i h1
      rw [if_neg h1]
      split at h
      · cases h
      · rename_i h2
        rw [if_neg (by have := A.le; omega)]
        cases hc : Ere.itemR p s i with
        | fault e a => rw [hc] at h; cases h
        | got t j =>
          rw [hc] at h
          simp only [Res.bind] at h
          have hj := itemR_fwd hc (by omega)
          have hjk := itemsR_fwd _ _ _ _ _ _ h
          rw [A.itemR (s' := s') (by omega) hc hjk.1 he]
          simp only [Res.bind]
          exact A.itemsR n n' false j _ y k hj.2 h (by omega)
theorem Emb.setR (A : Emb p q a) {s s' i j : Nat} {t : Nd} (hi : i < p.size) (h : setR p s i = .got t j) : setR q s' (a + i) = .got t (a + j) := by
  unfold Ere.setR at h ⊢
  rw [A.isAt hi]
  cases hc : Ere.itemsR p s (p.size + 2) true (if Ere.isAt p i 94 then i + 1 else i) 0 with
  | fault e a => rw [hc] at h; cases h
  | got y k =>
    rw [hc] at h
    injection h with h1 h2
    have hf := itemsR_fwd _ _ _ _ _ _ hc
    have := A.itemsR (s' := s') (p.size + 2) (q.size + 2) true _ 0 y k (by split <;> omega) hc (by have := A.le; omega)
    rw [show (if Ere.isAt p i 94 = true then a + i + 1 else a + i) = a + (if Ere.isAt p i 94 = true then i + 1 else i) by split <;> rfl, this]
    simp only [Res.bind]
    rw [h1, ← h2]
    rfl
end
end Ere
end Go.Proofs.Ytajainmldcnaeaa
