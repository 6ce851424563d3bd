/- Part 10 of a proof; packed: the texts that it was made of follow one another. No condition beyond those named in each lemma. -/
import Derived.Test.YtkedgombccdamaaDoorPe3
import Derived.Test.YtkedgombccdamaaDoorPe5
import Derived.Test.YtkedgombccdamaaDoorPe7
import Derived.Test.YtkedgombccdamaaDoorPe9
namespace Go.Proofs.YtkedgombccdamaaDoor
open Go.RowKit Go.Shelf Go.Maps
set_option linter.unusedVariables false
set_option linter.unusedSimpArgs false
attribute [local go_sem] Oper.semAt_some

set_option maxRecDepth 100000 in
set_option maxHeartbeats 16000000 in
theorem rdfa_any (s : Int) (A : Option Addr) (n c : Nat) (B : Option Addr) (m d : Nat) (E : List Edg) (R : List Nat) (most : Int) (hn : n = E.length) (hE : E.length ≤ 100000) (hm : m = R.length) (hR : ∀ r ∈ R, r < 4294967296) (hsN : s ≤ 1048576) (w : World) (hs : SliceOf w w.heap.size 7 edgC A E) (hRs : SliceOf w w.heap.size 1 encR B R) :
    Calls Tryd.prog 11 #[.agg (nfaC s A n c B m d), .int .i64 most] w fun e w' => DRes s E m R most w.heap.size e w' ∧ Below w.heap.size w w' := by
  have Hn := Lib.hid hn
  have Hm := Lib.hid hm
  have HR := Lib.hid hR
  have kR := fun W (hW : Below w.heap.size w W) => rright7_any s A n c B m d E hn (by omega) W ((hs.below hW).more hW.size)
  have kP := fun W (hW : Below w.heap.size w W) => rsets_any s A n c B m d E W hn (by omega) ((hs.below hW).more hW.size)
  have hsl := setsL_length E
  clear hn hm hR
  go_enter Tryd.func11, Tryd.ntmps11
  go_upto_region 1 with (fail)
  rw [zero_cells_dfa]
  have h1 : Blk (w.alloc (.cells (nfaC s A n c B m d) 25)) w.heap.size 25 (nfaC s A n c B m d) := Blk.new w _ _
  have hB1 : Below w.heap.size w (w.alloc (.cells (nfaC s A n c B m d) 25)) := below_alloc (Below.refl _ _) _
  obtain ⟨w1, hw1⟩ : ∃ y, y = w.alloc (.cells (nfaC s A n c B m d) 25) := ⟨_, rfl⟩
  have hs1 : w1.heap.size = w.heap.size + 1 := by rw [hw1]; exact Array.size_push ..
  rw [← hw1] at h1 hB1 ⊢
  clear hw1
  have h4 : Blk (w1.alloc (.cells (dfaC (fun _ => 0) none 0 0 none 0 0 none 0 0) 33)) w1.heap.size 33 (dfaC (fun _ => 0) none 0 0 none 0 0 none 0 0) := Blk.new w1 _ _
  have hB2 : Below w1.heap.size w1 (w1.alloc (.cells (dfaC (fun _ => 0) none 0 0 none 0 0 none 0 0) 33)) := below_alloc (Below.refl _ _) _
  obtain ⟨w2, hw2⟩ : ∃ y, y = w1.alloc (.cells (dfaC (fun _ => 0) none 0 0 none 0 0 none 0 0) 33) := ⟨_, rfl⟩
  rw [← hw2, hs1] at h4
  rw [← hw2] at hB2 ⊢
  have h2 := blk_then h1 hB2
  have hB := below_then hB1 hB2
  obtain ⟨b, hb⟩ : ∃ b, b = rightB s E m := ⟨_, rfl⟩
  rw [← hb] at kR
  obtain ⟨g2, hg2⟩ : ∃ y, y = w.heap.size := ⟨_, rfl⟩
  have Hg2 := Lib.hid hg2
  rw [← hg2] at h2 h4 ⊢
  have kR2 := kR w2 hB
  have Hb := Lib.hid hb
  clear hw2 h1 hB1 hB2 hs1 kR hg2 hb
  cases b with
  | false =>
    clear kP
    go_wp2_with (first
      | (refine wpList_load_row rfl _ _ rfl _ rfl _ _ _ _ h2 Tryd.underlying25 rfl (info_nfa3.trans rfl) ?_)
      | (go_at_call 41; refine kR2.mono ?_; rintro e w3 ⟨rfl, hB3⟩; have h43 := blk_then h4 hB3)
      | (refine wl_build_dfa0 rfl rfl ?_)
      | (refine wl_store_dfa rfl _ _ rfl (g2 + 1) rfl rfl h43 ?_; intro w4 h44 hg4))
    refine ret_dfa rfl rfl h44 rfl ?_
    exact ⟨.inl ⟨Hb.out.symm, rfl⟩, below_grown (below_then hB hB3) hg4 (by have := Hg2.out; omega)⟩
  | true =>
    go_upto_region 3 with (first
      | (refine wpList_load_row rfl _ _ rfl _ rfl _ _ _ _ h2 Tryd.underlying25 rfl (info_nfa3.trans rfl) ?_)
      | (go_at_call 41; refine kR2.mono ?_; rintro e w3 ⟨rfl, hB3⟩; have h43 := blk_then h4 hB3; have h23 := blk_then h2 hB3))
    have hrb := Hb.out.symm
    rw [Hm.out] at hrb
    obtain ⟨N, hsN2, hF⟩ := right_fits hrb
    have hB03 := below_then hB hB3
    subst hsN2
    have hN : N ≤ 1048576 := by omega
    have hs3 : g2 + 2 ≤ w3.heap.size := by have := h43.lt; omega
    have kP3 := kP w3 hB03
    have Hs := Lib.hid hs
    have HRs := Lib.hid hRs
    have HF := Lib.hid hF
    clear kR2 hrb h4 h2 hB hB3 kP hs hRs hF
    go_upto_region 4 with (first
      | (refine wpList_load_row rfl _ _ rfl _ rfl _ _ _ _ h23 Tryd.underlying25 rfl (info_nfa3.trans rfl) ?_)
      | (go_at_call 43; refine kP3.mono ?_; rintro e wS ⟨AS, cS, rfl, hS, hBS⟩)
      | (go_at_call 42; refine (rclasses_any AS (setsL E).length cS (setsL E) wS rfl (by unfold maxLen; omega) (hS.slice_all setC_size)).mono ?_; rintro e wC ⟨rfl, hBC⟩; have hzc := Blk.new wC 30 Tryd.zeroCells30; rw [zero_cells_cls] at hzc)
      | (rw [zero_cells_cls]; refine wl_store_cls rfl _ _ rfl wC.heap.size _ rfl rfl _ hzc ?_; intro w5 h9 hg5))
    have hB5 : Below w3.heap.size w3 w5 := below_grown (below_alloc (below_then hBS hBC) _) hg5 (Nat.le_trans hBS.size hBC.size)
    obtain ⟨g6, hg6⟩ : ∃ y, y = wC.heap.size := ⟨_, rfl⟩
    have hg6w : w3.heap.size ≤ g6 := by rw [hg6]; exact Nat.le_trans hBS.size hBC.size
    rw [← hg6] at h9 ⊢
    replace h43 := blk_then h43 hB5
    replace h23 := blk_then h23 hB5
    replace hB03 := below_then hB03 hB5
    have hM : RMach w.heap.size w5 N E R A n B m := ⟨HF.out, Hn.out, Hm.out.trans HF.out.rules, by omega, by omega, HR.out, Hs.out.below hB03, HRs.out.below hB03, hB03.size⟩
    obtain ⟨f, hf⟩ : ∃ f, f = cls (setsL E) := ⟨_, rfl⟩
    obtain ⟨M, hMy⟩ : ∃ M, M = many (setsL E) := ⟨_, rfl⟩
    rw [← hf] at h9
    rw [← hMy]
    have Hf := Lib.hid hf
    have HMy := Lib.hid hMy
    have hM256 : M ≤ 256 := by rw [hMy]; exact many_le _
    have hfr : ∀ b, b < 256 → 0 ≤ f b ∧ f b < M := fun b hb => by rw [hf, hMy]; exact ⟨cls_ge _ _, cls_lt _ hb⟩
    have Hfr := Lib.hid hfr
    clear hf hMy hfr hg6 hg5 hzc hBC hBS hS kP3 hB5
    go_upto_region 5 with (first
      | (refine wl_load_cls rfl _ rfl g6 rfl f h9 ?_)
      | (refine wl_build_dfa1 rfl _ rfl f rfl ?_; have hzc := Blk.new w5 33 Tryd.zeroCells33; rw [zero_cells_dfa] at hzc)
      | (rw [zero_cells_dfa]; refine wl_store_dfa rfl _ _ rfl w5.heap.size rfl rfl hzc ?_; intro w7 hd7 hg7))
    have hB7 : Below w5.heap.size w5 w7 := below_grown (below_alloc (Below.refl _ _) _) hg7 (Nat.le_refl _)
    have h9l := h9.lt
    obtain ⟨gd, hgd⟩ : ∃ y, y = w5.heap.size := ⟨_, rfl⟩
    rw [← hgd] at hd7 ⊢
    have hgd6 : g6 < gd := by omega
    replace h9 := blk_then h9 hB7
    replace h43 := blk_then h43 hB7
    replace h23 := blk_then h23 hB7
    replace hB03 := below_then hB03 hB7
    replace hM := hM.then_ hB7
    clear hB7 hg7 hzc hgd h9l
    simp only [Act.put]
    go_upto_region 6 with (refine wl_makeZ rfl _ _ rfl M rfl rfl (by omega) ?_; intro w8 hz8 hB8)
    have hd7l := hd7.lt
    obtain ⟨gz, hgz⟩ : ∃ y, y = w7.heap.size := ⟨_, rfl⟩
    rw [← hgz] at hz8 ⊢
    have hgzd : gd < gz := by omega
    replace h9 := blk_then h9 hB8
    replace h43 := blk_then h43 hB8
    replace h23 := blk_then h23 hB8
    replace hB03 := below_then hB03 hB8
    replace hM := hM.then_ hB8
    have hd8 := blk_then hd7 hB8
    have hz0 : Blk w8 gz 3 (arr eZ M fun c => ((repAt f 256 c : Nat) : Int)) := by
      rw [arr_ext eZ M (fun c => ((repAt f 256 c : Nat) : Int)) (L := fun _ => 0) (fun i _ => by rw [repAt_top]; rfl)]
      exact hz8
    clear hB8 hgz hd7 hd7l hz8
    go_wp2_with (fail)
    go_loopw [10] (fun iv wr => ∃ i : Nat, i ≤ 256 ∧ iv = .int .i64 ((i : Int) - 1) ∧ Blk wr gz 3 (arr eZ M fun c => ((repAt f i c : Nat) : Int)) ∧ Blk wr g6 30 (clsC f) ∧ Blk wr gd 33 (dfaC f none 0 0 none 0 0 none 0 0) ∧ Blk wr (g2 + 1) 33 (dfaC (fun _ => 0) none 0 0 none 0 0 none 0 0) ∧ Blk wr g2 25 (nfaC N A n c B m d) ∧ RMach w.heap.size wr N E R A n B m ∧ Below w.heap.size w wr) (fun iv _ => (intOf iv + 1).toNat)
    case atStart => exact ⟨256, by omega, rfl, hz0, h9, hd8, h43, h23, hM, hB03⟩
    case round =>
      clear hz0 h9 hd8 h43 h23 hM hB03
      obtain ⟨i, hi, rfl, hz, h6, hd, h4, h2, hM, hB⟩ := hrel
      rcases i with _ | j
      · rw [show (((0 : Nat) : Int) - 1) = -1 by omega]
        have kF := rfirst_any w.heap.size N n c m d E R A B wr hM hN
        obtain ⟨bs, hbs⟩ : ∃ l, l = repL f M 0 := ⟨_, rfl⟩
        have hbsE : bs = repE E := by rw [hbs, Hf.out, HMy.out]; rfl
        have hbl : bs.length = M := by rw [hbs, repL_length]
        have hb256 : ∀ b ∈ bs, b < 256 := by rw [hbs]; exact repL_lt _ _ _
        have HbsE := Lib.hid hbsE
        have Hb256 := Lib.hid hb256
        have Hbs := Lib.hid hbs
        clear hbsE hb256 hbs
        go_upto_region 11 with (first
          | (refine wpList_load_row rfl _ _ rfl _ rfl _ _ _ _ h2 Tryd.underlying25 rfl (info_nfa3.trans rfl) ?_)
          | (go_at_call 44; refine kF.mono ?_; rintro e wF ⟨g0, c0, rfl, hg0, hS0, hBF⟩)
          | (refine wl_bsMR rfl _ rfl (some ⟨g0, 0, none⟩) N c0 (mo0 E N R).met (mo0 E N R).end_ rfl ?_))
        have hzl := hz.lt
        obtain ⟨b0, hb0⟩ : ∃ y, y = wr.heap.size := ⟨_, rfl⟩
        rw [← hb0] at hg0 hS0 hzl
        have hBF' : Below wr.heap.size wr wF := hBF
        have hBq := below_alloc (Below.refl wF.heap.size wF) (.cells (momC (some ⟨g0, 0, none⟩) N c0 (mo0 E N R).met (mo0 E N R).end_) 101)
        have hBx := below_then hBF' hBq
        have hb0F : b0 ≤ wF.heap.size := by rw [hb0]; exact hBF.size
        have hI0 : BRx w b0 gd gz g2 N M f E R A n c B m d ⟨f, [], none, 0, [], none, 0, [], none, 0⟩ [⟨g0, c0, mo0 E N R⟩] (some ⟨wF.heap.size, 0, none⟩) 1 (wF.alloc (.cells (momC (some ⟨g0, 0, none⟩) N c0 (mo0 E N R).met (mo0 E N R).end_) 101)) :=
          ⟨⟨Hg2.out.symm, by omega, hgzd, hzl, Nat.le_trans hb0F hBq.size⟩, hM.then_ hBx, blk_then h2 hBx, blk_then h4 hBx, blk_then hz hBx, blk_then hd hBx, TOwn.nil _ _ _, own_one (enc := encM N) (y := (⟨g0, c0, mo0 E N R⟩ : MQ)) (encM_size N) (Blk.new _ _ _) hb0F, fun y hy => by
            rw [List.mem_singleton] at hy
            subst hy
            exact hS0.then_ hBq, fun y hy => by
            rw [List.mem_singleton] at hy
            subst hy
            exact moN_ok HR.out (words_room N) 0 0 true (by decide), below_then hB hBx⟩
        obtain ⟨wq, hwq⟩ : ∃ y, y = wF.alloc (.cells (momC (some ⟨g0, 0, none⟩) N c0 (mo0 E N R).met (mo0 E N R).end_) 101) := ⟨_, rfl⟩
        rw [← hwq] at hI0 ⊢
        clear hwq hBq hBx hBF hBF' hS0 kF hM hz h6 hd h4 h2 hB hb0
        obtain ⟨st, hst⟩ : ∃ y, y = stepM E N R := ⟨_, rfl⟩
        obtain ⟨a0, ha0⟩ : ∃ y, y = mo0 E N R := ⟨_, rfl⟩
        have Hst := Lib.hid hst
        have Ha0 := Lib.hid ha0
        have hL0 : Hid (([⟨g0, c0, mo0 E N R⟩] : List MQ).map MQ.mo = bfsN st bs a0 0) := Lib.hid (by rw [Ha0.out]; rfl)
        have hst' : ∀ q b, moN E N R (byteN E N q.at_ b) q.met false = st q b := fun q b => by rw [hst]; rfl
        have Hst' := Lib.hid hst'
        clear hst ha0 hst'
        go_wp2_with (fail)
        have hx0 : Hid (([] : List RV).map (·.l) = (rowsQ st bs a0 0).map intsL) := Lib.hid (by simp [rowsQ])
        have hx1 : Hid (([] : List Nat) = ((bfsN st bs a0 0).take 0).map Mo.met ∧ ([] : List Nat) = ((bfsN st bs a0 0).take 0).map Mo.end_) := Lib.hid ⟨rfl, rfl⟩
        go_loopw [11, 12] (fun mv iv wr => ∃ (i : Nat) (x : TV) (L : List MQ) (AQ : Option Addr) (cQ : Nat), mv = .slice AQ L.length cQ ∧ iv = .int .i64 i ∧ BRx w b0 gd gz g2 N M f E R A n c B m d x L AQ cQ wr ∧ Hid (x.f = f) ∧ Hid (L.map MQ.mo = bfsN st bs a0 i) ∧ Hid (x.rs.map (·.l) = (rowsQ st bs a0 i).map intsL) ∧ Hid (x.fo = ((bfsN st bs a0 i).take i).map Mo.met ∧ x.en = ((bfsN st bs a0 i).take i).map Mo.end_) ∧ i ≤ L.length ∧ Hid (i = 0 ∨ (i : Int) ≤ min most 4096) ∧ L.length ≤ 5000) (fun _ iv _ => 6000 - (intOf iv).toNat)
        case atStart => exact ⟨0, _, _, _, _, rfl, rfl, hI0, Lib.hid rfl, hL0, hx0, hx1, by simp, Lib.hid (.inl rfl), by simp⟩
        case round =>
          clear hI0 hL0 hx0 hx1
          obtain ⟨i, x, L, AQ, cQ, rfl, rfl, hI, Hxf, HL, HRo, HFo, hiL, HiM, hL⟩ := hrel
          obtain ⟨nL, hnL⟩ : ∃ y, y = L.length := ⟨_, rfl⟩
          rw [← hnL] at hL hiL ⊢
          have HnL := Lib.hid hnL
          have hLb : nL = (bfsN st bs a0 i).length := by rw [← HL.out, List.length_map, hnL]
          have HLb := Lib.hid hLb
          clear hnL hLb
          by_cases hil : i < nL
          · have hiI : (i : Int) < nL := by omega
            by_cases hcap : (nL : Int) ≤ min most 4096
            · have hc1 : ¬ (nL : Int) > most := by omega
              have hc2 : ¬ (nL : Int) > 4096 := by omega
              have hib : i < (bfsN st bs a0 i).length := by rw [← HLb.out]; exact hil
              obtain ⟨q, hqd⟩ : ∃ q, (bfsN st bs a0 i)[i]? = some q := ⟨_, List.getElem?_eq_getElem hib⟩
              have HQ := Lib.hid hqd
              have hnL4 : nL ≤ 4096 := by omega
              clear hib hqd hiL hL
              go_upto_region 17 with (refine wl_makeZ rfl _ _ rfl M rfl rfl (by omega) ?_; intro w8 hz8 hB8)
              have hgnw := hI.ord.2.2.2.2
              have hrl : ∀ k (hk : k < x.rs.length) a, x.rs[k].a = some a → a.block < wr.heap.size := fun k hk a ha => (hI.own.rowLt hk ha).2
              replace hI := hI.then_ hB8
              obtain ⟨gn, hgn⟩ : ∃ y, y = wr.heap.size := ⟨_, rfl⟩
              rw [← hgn] at hz8 hgnw hrl ⊢
              have Hrl := Lib.hid hrl
              have hz9 : Blk w8 gn 3 (arr eZ M fun c => if c < 0 then (((L.map MQ.mo).idxOf (st q (bs.getD c 0)) : Nat) : Int) else 0) := by
                rw [arr_ext eZ M _ (L := fun _ => 0) (fun c _ => by simp)]
                exact hz8
              clear hz8 hB8 hgn hrl
              go_wp2_with (fail)
              go_loopw [11, 14] (fun mv jv wi => ∃ (j : Nat) (L' : List MQ) (AQ' : Option Addr) (cQ' : Nat), mv = .slice AQ' L'.length cQ' ∧ jv = .int .i64 j ∧ j ≤ M ∧ BRx w b0 gd gz g2 N M f E R A n c B m d x L' AQ' cQ' wi ∧ Blk wi gn 3 (arr eZ M fun c => if c < j then (((L'.map MQ.mo).idxOf (st q (bs.getD c 0)) : Nat) : Int) else 0) ∧ Hid (L'.map MQ.mo = rowQ st q (bs.take j) (bfsN st bs a0 i)) ∧ L'.length ≤ nL + j) (fun _ jv _ => M - (intOf jv).toNat)
              case atStart => exact ⟨0, L, AQ, cQ, by rw [HnL.out], rfl, by omega, hI, hz9, Lib.hid (by rw [HL.out]; rfl), by rw [HnL.out]; omega⟩
              case round =>
                clear hI hz9
                obtain ⟨j, L', AQ', cQ', rfl, rfl, hjM, hI, hgnb, HL', hLl⟩ := hrel
                by_cases hjm : j < M
                · have hjI : (j : Int) < M := by omega
                  have hjb : j < bs.length := by omega
                  obtain ⟨b, hbd⟩ : ∃ b, b = bs[j] := ⟨_, rfl⟩
                  have hb256 : b < 256 := by rw [hbd]; exact Hb256.out _ (List.getElem_mem hjb)
                  have htk : bs.take (j + 1) = bs.take j ++ [b] := by rw [List.take_succ_eq_append_getElem hjb, hbd]
                  have hgD : bs.getD j 0 = b := by rw [List.getD_eq_getElem?_getD, List.getElem?_eq_getElem hjb, Option.getD_some, hbd]
                  have hrep : repAt f 0 j = b := by
                    have e1 : (repL f M 0)[j]? = some b := by rw [← Hbs.out, List.getElem?_eq_getElem hjb, hbd]
                    unfold repL at e1
                    rw [List.getElem?_map, List.getElem?_range hjm] at e1
                    simpa using e1
                  have Htk := Lib.hid (And.intro htk (And.intro hgD hrep))
                  clear hbd htk hgD hrep
                  have hLq : (L'.map MQ.mo)[i]? = some q := by
                    obtain ⟨r, hr⟩ := rowQ_prefix (step := st) q (bs.take j) (bfsN st bs a0 i)
                    rw [HL'.out, hr, List.getElem?_append_left (List.getElem?_eq_some_iff.1 HQ.out).1]
                    exact HQ.out
                  obtain ⟨y, gA, hyL, hyq, hil', rfl, hry, hgAl⟩ := hI.at_ hLq
                  have kB : ∀ W, Below wr.heap.size wr W → _ := fun W hW => rbehind_any w.heap.size N n c m d y.mo.at_ y.mo.met y.mo.end_ b y.c W.heap.size E R A B (some ⟨y.g, 0, none⟩) (hI.ok y hyL).met hb256 W (hI.mach.then_ hW) hN (((hI.ins y hyL).then_ hW).slice_all encB_size) (Nat.le_refl _)
                  rw [Hst'.out, hyq] at kB
                  have hgzc : wr.cell? ⟨gz, 0 + j * 1, none⟩ = some (.int .i64 (b : Int)) := by rw [← Htk.out.2.2]; exact blk_arr hI.bytes hjm
                  clear hLq
                  go_upto_region 20 with (fail)
                  rw [← hyq] at kB
                  have Hyq := Lib.hid hyq
                  clear hyq
                  refine wp_region_stepsE (i0 := 9) 11 [9] (fun gg : Nat × Nat => [eqS (.agg (nfaC N A n c B m d)), eqS (.slice (some ⟨gA, 0, none⟩) L'.length cQ'), eqS (.int .i64 (i : Int)), eqS (.pointer (some ⟨gA, 0 + i * 3, none⟩)), eqS (.agg (momC (some ⟨y.g, 0, none⟩) N y.c y.mo.met y.mo.end_)), eqS (.slice (some ⟨gz, 0, none⟩) M M), eqS (.int .i64 (j : Int)), eqS (.pointer (some ⟨gz, 0 + j * 1, none⟩)), eqS (.int .i64 (b : Int)), behS wr.heap.size N (st y.mo b) gg, newS wr.heap.size 101 (momC none 0 0 0 0)]) (0, 0) [67, 68, 69, 70, 71, 72, 73, 74, 75, 76, 15] follows_mixed (by kernel_rfl) (by kernel_rfl) ?_ (by kernel_rfl) ?_ ?_
                  · intro g g' k hk
                    rcases k with _ | _ | _ | _ | _ | _ | _ | _ | _ | _ | _ | k <;> first | rfl | (exact absurd hk (by decide))
                  · skip
                    refine StepsE.cons (fun gg a' w' hG hB dep => gs_load_nfaB (want_none rfl) _ rfl g2 (hG.other 2 rfl) (blk_then hI.nfa hB) rfl) ?_
                    refine StepsE.cons (fun gg a' w' hG hB dep => gs_move (want_none rfl) _ rfl (hG.other 11 rfl)) ?_
                    refine StepsE.cons (fun gg a' w' hG hB dep => gs_move (want_none rfl) _ rfl (hG.other 12 rfl)) ?_
                    refine StepsE.cons (fun gg a' w' hG hB dep => gs_index (want_none rfl) _ _ _ rfl (by kernel_rfl) 3 (fun w => by kernel_rfl) gA 0 L'.length cQ' i (dep 1 rfl 68 rfl) (dep 2 rfl 69 rfl) hil' rfl) ?_
                    refine StepsE.cons (fun gg a' w' hG hB dep => gs_load_momR_at (want_none rfl) _ rfl gA (0 + i * 3) (dep 3 rfl 70 rfl) (by rw [Nat.zero_add]; exact hry.keep (hB.block gA hgAl)) rfl) ?_
                    refine StepsE.cons (fun gg a' w' hG hB dep => gs_move (want_none rfl) _ rfl (hG.other 9 rfl)) ?_
                    refine StepsE.cons (fun gg a' w' hG hB dep => gs_move (want_none rfl) _ rfl (hG.other 14 rfl)) ?_
                    refine StepsE.cons (fun gg a' w' hG hB dep => gs_index (want_none rfl) _ _ _ rfl (by kernel_rfl) 1 (fun w => by kernel_rfl) gz 0 M M j (dep 5 rfl 72 rfl) (dep 6 rfl 73 rfl) hjm rfl) ?_
                    refine StepsE.cons (fun gg a' w' hG hB dep => gs_load1 (want_none rfl) _ _ rfl gz (0 + j * 1) (dep 7 rfl 74 rfl) (.int .i64 (b : Int)) ((World.cell?_of_block (w := wr) (hB.block gz hI.bytes.lt)).trans hgzc) _ Tryd.underlying3 rfl rfl) ?_
                    refine StepsE.cons (fun gg a' w' hG hB dep => gs_call (want_none rfl) _ _ _ rfl enter_rbehind #[(.agg (nfaC N A n c B m d)), (.agg (momC (some ⟨y.g, 0, none⟩) N y.c y.mo.met y.mo.end_)), .int .i64 (b : Int)] (map3 (dep 0 rfl 67 rfl) (dep 4 rfl 71 rfl) (dep 8 rfl 75 rfl)) (behind_step hB.size (kB _ hB) (fun v w' h => h))) ?_
                    refine StepsE.cons (fun gg a' w' hG hB dep => gs_alloc_momR (want_none rfl) rfl wr.heap.size hB.size (fun v w' h => h)) ?_
                    exact StepsE.nil
                  intro gg uu w9 hB9 ans
                  obtain ⟨u76, hgg, hSg⟩ := ans 9 76 (by decide) rfl
                  obtain ⟨gx, u15, hgx, hxb⟩ := ans 10 15 (by decide) rfl
                  clear ans
                  simp only [putAll, List.foldl_cons, List.foldl_nil, Act.put, List.setIfInBounds_toArray, List.set_cons_zero, List.set_cons_succ, u76, u15]
                  clear u76 u15
                  simp only [List.drop]
                  have hgnl0 := hgnb.lt
                  replace hI := hI.then_ hB9
                  replace hgnb := blk_then hgnb hB9
                  have hwr9 := hB9.size
                  have Hgnl := Lib.hid hgnl0
                  clear hB9 kB hgzc hry hgnl0
                  refine wl_store_momR rfl _ _ rfl gx (some ⟨gg.1, 0, none⟩) N gg.2 (st y.mo b).met (st y.mo b).end_ rfl rfl (momC none 0 0 0 0) rfl hxb ?_
                  intro w10 hxb2 hg10
                  refine wpList_nil ?_
                  have hgnl : gn < wr.heap.size := Hgnl.out
                  have hI10 := hI.box hxb hg10 (by omega) (by decide) (by decide) (by decide) (fun k hk a ha => by have := Hrl.out k hk a ha; omega) (fun a ha => by injection ha with ha; subst ha; show gA ≠ gx; omega)
                  have hgn10 := blk_grown hgnb hg10 (by omega)
                  have hSg10 := own_box hSg hxb hg10 (by decide)
                  clear hI hgnb hSg hxb hg10
                  obtain ⟨z, hz⟩ : ∃ z : MQ, z = ⟨gg.1, gg.2, st y.mo b⟩ := ⟨_, rfl⟩
                  have hxz : Blk w10 gx 101 (momC (some ⟨z.g, 0, none⟩) N z.c z.mo.met z.mo.end_) := by rw [hz]; exact hxb2
                  have hSz : Own w10 b0 4 1 encB (.slice (some ⟨z.g, 0, none⟩) N z.c) (boolsN z.mo.at_ N) := by rw [hz]; exact hSg10.mono (by omega)
                  have hzm : z.mo = st q b := by rw [hz, ← Hyq.out]
                  have hzo : MoOk N (wordsFor N) z.mo := by
                    rw [hz]
                    show MoOk N (wordsFor N) (st y.mo b)
                    rw [Hst.out]
                    exact stepM_ok HR.out (words_room N) b (hI10.ok y hyL)
                  have kS : ∀ W, Below w10.heap.size w10 W → ∀ y9 ∈ L', Calls Tryd.prog 46 #[.agg (momC (some ⟨y9.g, 0, none⟩) N y9.c y9.mo.met y9.mo.end_), .agg (momC (some ⟨z.g, 0, none⟩) N z.c z.mo.met z.mo.end_)] W fun e w' => e = .returned (.bool (decide (y9.mo = z.mo))) ∧ Below W.heap.size W w' := fun W hW y9 hy9 =>
                    rsame_any N y9.c z.c W.heap.size W.heap.size _ _ y9.mo z.mo HF.out.one hN (hI10.ok y9 hy9).lo hzo.lo W (((hI10.ins y9 hy9).then_ hW).slice_all encB_size) ((hSz.then_ hW).slice_all encB_size) (Nat.le_refl _) (Nat.le_refl _)
                  have hRows : ∀ k (hk : k < L'.length), ∀ X : World, Below w10.heap.size w10 X → RowAt X gA (k * 3) (encM N L'[k]) := fun k hk X hX => (hI10.q.row (encM_size N) k hk).keep (hX.block gA (own_blk_lt hI10.q _ rfl))
                  obtain ⟨nQ, hnQ⟩ : ∃ y, y = L'.length := ⟨_, rfl⟩
                  rw [← hnQ] at hil' hLl ⊢
                  have HnQ := Lib.hid hnQ
                  have HI := Lib.hid hI10
                  have Hgn := Lib.hid hgn10
                  have HSz := Lib.hid hSz
                  have Hzm := Lib.hid hzm
                  have Hzo := Lib.hid hzo
                  have HkS := Lib.hid kS
                  have HRows := Lib.hid hRows
                  have Hxz := Lib.hid hxz
                  have Hb0 := Lib.hid (show b0 ≤ w10.heap.size from hI10.ord.2.2.2.2)
                  clear hxb2 hSg10 hxz hSz hzm hzo hz kS hRows hnQ hI10 hgn10 hgx hwr9 hyL hgnl Hgnl
                  try simp only [Act.put]
                  go_wp2_with (fail)
                  go_loopw [16] (fun kv wk => ∃ k : Nat, kv = .int .i64 k ∧ k ≤ nQ ∧ Hid (∀ j', j' < k → (L'.map MQ.mo)[j']? ≠ some z.mo) ∧ Below w10.heap.size w10 wk) (fun kv _ => nQ - (intOf kv).toNat)
                  case atStart => exact ⟨0, rfl, by omega, Lib.hid (fun j' hj' => absurd hj' (by omega)), Below.refl _ _⟩
                  case round =>
                    obtain ⟨k, rfl, hkl, Hno, hBk⟩ := hrel
                    by_cases hkn : k < nQ
                    · have hkI : (k : Int) < nQ := by omega
                      have hkQ : k < L'.length := by rw [← HnQ.out]; exact hkn
                      obtain ⟨y9, hy9⟩ : ∃ y9, y9 = L'[k] := ⟨_, rfl⟩
                      have hy9L : y9 ∈ L' := by rw [hy9]; exact List.getElem_mem hkQ
                      have kS9 : ∀ X : World, Below wr.heap.size wr X → Calls Tryd.prog 46 #[.agg (momC (some ⟨y9.g, 0, none⟩) N y9.c y9.mo.met y9.mo.end_), .agg (momC (some ⟨z.g, 0, none⟩) N z.c z.mo.met z.mo.end_)] X fun e w' => e = .returned (.bool (decide (y9.mo = z.mo))) ∧ Below X.heap.size X w' := fun X hX => HkS.out X (below_then hBk hX) y9 hy9L
                      obtain ⟨r9, hr9⟩ : ∃ r, r = decide (y9.mo = z.mo) := ⟨_, rfl⟩
                      rw [← hr9] at kS9
                      have Hry9 : Hid (∀ X : World, Below wr.heap.size wr X → RowAt X gA (k * 3) (encM N y9)) := Lib.hid (fun X hX => by rw [hy9]; exact HRows.out k hkQ _ (below_then hBk hX))
                      have hmk : (L'.map MQ.mo)[k]? = some y9.mo := by rw [List.getElem?_map, List.getElem?_eq_getElem hkQ, hy9]; rfl
                      have Hmk := Lib.hid hmk
                      have Hr9 := Lib.hid hr9
                      clear hy9 hr9 hmk hy9L
                      go_upto_region 22 with (fail)
                      refine wp_region_steps 13 [eqS (.int .i64 (((k : Nat) : Int))), eqS (.slice (some ⟨gA, 0, none⟩) nQ cQ'), eqS (.int .i64 (((nQ : Nat) : Int))), eqS (.bool true), eqS (.bool true), eqS (vF (true && (true == true)) (.slice (some ⟨gA, 0, none⟩) nQ cQ')), eqS (vF (true && (true == true)) (.int .i64 (((k : Nat) : Int)))), eqS (vF (true && (true == true)) (.pointer (some ⟨gA, 0 + k * 3, none⟩))), eqS (vF (true && (true == true)) (.agg (momC (some ⟨y9.g, 0, none⟩) N y9.c y9.mo.met y9.mo.end_))), eqS (vF (true && (true == true)) (.agg (momC (some ⟨z.g, 0, none⟩) N z.c z.mo.met z.mo.end_))), eqS (vF (true && (true == true)) (.bool r9)), eqS (vF (true && (true == true)) (.bool (!r9))), eqS (.bool (true && (!r9)))] [77, 78, 79, 80, 81, 82, 83, 84, 85, 86, 87, 88, 89] follows_mixed (by kernel_rfl) (by kernel_rfl) ?_ ?_
                      · skip
                        refine Steps.cons (fun a' w' hG hB dep => gs_move (want_none rfl) _ rfl (id (hG.other 16 rfl))) ?_
                        refine Steps.cons (fun a' w' hG hB dep => gs_move (want_none rfl) _ rfl (id (hG.other 11 rfl))) ?_
                        refine Steps.cons (fun a' w' hG hB dep => gs_len (want_none rfl) _ _ rfl under_momR _ nQ cQ' (dep 1 rfl 78 rfl) rfl) ?_
                        refine Steps.cons (fun a' w' hG hB dep => gs_lss_int (want_none rfl) _ _ _ _ rfl _ _ _ (dep 0 rfl 77 rfl) (dep 2 rfl 79 rfl) (id (congrArg Value.bool (decide_eq_true hkI)))) ?_
                        refine Steps.cons (fun a' w' hG hB dep => gs_move (want_none rfl) _ rfl (id (dep 3 rfl 80 rfl))) ?_
                        refine Steps.cons (fun a' w' hG hB dep => gs_guard (c := true) (b' := true) rfl rfl (dep 4 rfl 81 rfl) (fun hc he hw => gs_move hw _ rfl (Eq.trans (hG.other 11 rfl) (vF_yes (on_g hc he) _).symm)) (fun hn => vF_no hn _)) ?_
                        refine Steps.cons (fun a' w' hG hB dep => gs_guard (c := true) (b' := true) rfl rfl (dep 4 rfl 81 rfl) (fun hc he hw => gs_move hw _ rfl (Eq.trans (hG.other 16 rfl) (vF_yes (on_g hc he) _).symm)) (fun hn => vF_no hn _)) ?_
                        refine Steps.cons (fun a' w' hG hB dep => gs_guard (c := true) (b' := true) rfl rfl (dep 4 rfl 81 rfl) (fun hc he hw => gs_index hw _ _ _ rfl under_momR 3 size_momRE gA 0 nQ cQ' (k) (Eq.trans (dep 5 rfl 82 rfl) (vF_yes (on_g hc he) _)) (Eq.trans (dep 6 rfl 83 rfl) (vF_yes (on_g hc he) _)) hkn (vF_yes (on_g hc he) _).symm) (fun hn => vF_no hn _)) ?_
                        refine Steps.cons (fun a' w' hG hB dep => gs_guard (c := true) (b' := true) rfl rfl (dep 4 rfl 81 rfl) (fun hc he hw => gs_load_momR_at hw _ rfl gA (0 + k * 3) (Eq.trans (dep 7 rfl 84 rfl) (vF_yes (on_g hc he) _)) (by rw [Nat.zero_add]; exact Hry9.out _ hB) (vF_yes (on_g hc he) _).symm) (fun hn => vF_no hn _)) ?_
                        refine Steps.cons (fun a' w' hG hB dep => gs_guard (c := true) (b' := true) rfl rfl (dep 4 rfl 81 rfl) (fun hc he hw => gs_load_momR_at hw _ rfl gx 0 (hG.other 15 rfl) (RowAt.of_blk (blk_then (blk_then Hxz.out hBk) hB)) (vF_yes (on_g hc he) _).symm) (fun hn => vF_no hn _)) ?_
                        refine Steps.cons (fun a' w' hG hB dep => gs_guard (c := true) (b' := true) rfl rfl (dep 4 rfl 81 rfl) (fun hc he hw => gs_call hw _ _ _ rfl enter_rsame #[.agg (momC (some ⟨y9.g, 0, none⟩) N y9.c y9.mo.met y9.mo.end_), .agg (momC (some ⟨z.g, 0, none⟩) N z.c z.mo.met z.mo.end_)] (map2 (Eq.trans (dep 8 rfl 85 rfl) (vF_yes (on_g hc he) _)) (Eq.trans (dep 9 rfl 86 rfl) (vF_yes (on_g hc he) _))) (ret_step (kS9 _ hB) (fun _ => (vF_yes (on_g hc he) _).symm))) (fun hn => vF_no hn _)) ?_
                        refine Steps.cons (fun a' w' hG hB dep => gs_guard (c := true) (b' := true) rfl rfl (dep 4 rfl 81 rfl) (fun hc he hw => gs_not_bool hw _ _ rfl _ (Eq.trans (dep 10 rfl 87 rfl) (vF_yes (on_g hc he) _)) (vF_yes (on_g hc he) _).symm) (fun hn => vF_no hn _)) ?_
                        refine Steps.cons (fun a' w' hG hB dep => gs_pick (want_none rfl) _ _ _ rfl true (dep 4 rfl 81 rfl) (id (pick_and2 (c := true) rfl (dep 11 rfl 88 rfl)))) ?_
                        exact Steps.nil
                      intro u wk hBk9 ans
                      have hus : u 89 = .bool (true && (!r9)) := ans 12 89 (by decide) rfl
                      clear ans
                      simp only [putAll, List.foldl_cons, List.foldl_nil, Act.put, List.setIfInBounds_toArray, List.set_cons_zero, List.set_cons_succ, hus]
                      clear hus
                      simp only [List.drop]
                      refine wpList_nil ?_
                      replace hBk := below_then hBk hBk9
                      clear hBk9 kS9
                      cases r9 with
                      | false =>
                        go_wp2_with (fail)
                        exact ⟨⟨k + 1, rfl, by omega, Lib.hid (fun j' hj' => by
                          by_cases e : j' < k
                          · exact Hno.out j' e
                          · have : j' = k := by omega
                            subst this
                            rw [Hmk.out]
                            intro e2
                            injection e2 with e2
                            exact of_decide_eq_false Hr9.out.symm e2), hBk⟩, by simp only [intOf]; omega⟩
                      | true =>
                        have hix : (L'.map MQ.mo).idxOf (st q b) = k := by
                          rw [← Hzm.out]
                          exact seek_here Hno.out (by rw [Hmk.out, of_decide_eq_true Hr9.out.symm])
                        have hmem : st q b ∈ L'.map MQ.mo := by
                          rw [← Hzm.out, ← of_decide_eq_true Hr9.out.symm]
                          exact List.mem_of_getElem? Hmk.out
                        have Hix := Lib.hid hix
                        have Hmem := Lib.hid hmem
                        have hne : ¬ (k : Int) = nQ := by omega
                        have hgn5 := blk_then Hgn.out hBk
                        have hI5 := Lib.hid (HI.out.then_ hBk)
                        have hgqn : gA ≠ gn := fun e => by
                          have := own_blk_ne HI.out.q Hgn.out (by decide)
                          exact this (by rw [e]; rfl)
                        have Hgqn := Lib.hid hgqn
                        clear hix hmem hBk hkI hgqn
                        go_wp2_with (refine wl_store_arr eZ (k : Int) rfl _ _ _ rfl gn j M _ _ hgn5 rfl rfl hjm info_intS rfl rfl ?_; intro w9' hz9 hg9)
                        rw [nextArr_same Htk.out.2.1 Hix.out] at hz9
                        have hI9 := hI5.out.box hgn5 hg9 hgnw (by decide) (by decide) (by decide) (fun k' hk' a ha => Nat.ne_of_lt (Hrl.out k' hk' a ha)) (fun a ha => by injection ha with ha; subst ha; exact Hgqn.out)
                        exact ⟨⟨j + 1, L', some ⟨gA, 0, none⟩, cQ', by rw [HnQ.out], rfl, by omega, hI9, hz9, Lib.hid (by rw [Htk.out.1, rowQ_snoc, ← HL'.out, addQ_old Hmem.out]), by rw [← HnQ.out]; omega⟩, by simp only [intOf]; omega⟩
                    · have hkI : ¬ (k : Int) < nQ := by omega
                      have hkE : k = nQ := by omega
                      subst hkE
                      go_upto_region 22 with (fail)
                      refine wp_region_steps 13 [eqS (.int .i64 (((k : Nat) : Int))), eqS (.slice (some ⟨gA, 0, none⟩) k cQ'), eqS (.int .i64 (((k : Nat) : Int))), eqS (.bool false), eqS (.bool false), eqS (vF (true && (false == true)) undef), eqS (vF (true && (false == true)) undef), eqS (vF (true && (false == true)) undef), eqS (vF (true && (false == true)) undef), eqS (vF (true && (false == true)) undef), eqS (vF (true && (false == true)) (.bool false)), eqS (vF (true && (false == true)) (.bool false)), eqS (.bool (false && false))] [77, 78, 79, 80, 81, 82, 83, 84, 85, 86, 87, 88, 89] follows_mixed (by kernel_rfl) (by kernel_rfl) ?_ ?_
                      · skip
                        refine Steps.cons (fun a' w' hG hB dep => gs_move (want_none rfl) _ rfl (id (hG.other 16 rfl))) ?_
                        refine Steps.cons (fun a' w' hG hB dep => gs_move (want_none rfl) _ rfl (id (hG.other 11 rfl))) ?_
                        refine Steps.cons (fun a' w' hG hB dep => gs_len (want_none rfl) _ _ rfl under_momR _ k cQ' (dep 1 rfl 78 rfl) rfl) ?_
                        refine Steps.cons (fun a' w' hG hB dep => gs_lss_int (want_none rfl) _ _ _ _ rfl _ _ _ (dep 0 rfl 77 rfl) (dep 2 rfl 79 rfl) (id (congrArg Value.bool (decide_eq_false hkI)))) ?_
                        refine Steps.cons (fun a' w' hG hB dep => gs_move (want_none rfl) _ rfl (id (dep 3 rfl 80 rfl))) ?_
                        refine Steps.cons (fun a' w' hG hB dep => gs_guard (c := true) (b' := false) rfl rfl (dep 4 rfl 81 rfl) (fun hc he hw => absurd he (by decide)) (fun hn => vF_no hn _)) ?_
                        refine Steps.cons (fun a' w' hG hB dep => gs_guard (c := true) (b' := false) rfl rfl (dep 4 rfl 81 rfl) (fun hc he hw => absurd he (by decide)) (fun hn => vF_no hn _)) ?_
                        refine Steps.cons (fun a' w' hG hB dep => gs_guard (c := true) (b' := false) rfl rfl (dep 4 rfl 81 rfl) (fun hc he hw => absurd he (by decide)) (fun hn => vF_no hn _)) ?_
                        refine Steps.cons (fun a' w' hG hB dep => gs_guard (c := true) (b' := false) rfl rfl (dep 4 rfl 81 rfl) (fun hc he hw => absurd he (by decide)) (fun hn => vF_no hn _)) ?_
                        refine Steps.cons (fun a' w' hG hB dep => gs_guard (c := true) (b' := false) rfl rfl (dep 4 rfl 81 rfl) (fun hc he hw => absurd he (by decide)) (fun hn => vF_no hn _)) ?_
                        refine Steps.cons (fun a' w' hG hB dep => gs_guard (c := true) (b' := false) rfl rfl (dep 4 rfl 81 rfl) (fun hc he hw => absurd he (by decide)) (fun hn => vF_no hn _)) ?_
                        refine Steps.cons (fun a' w' hG hB dep => gs_guard (c := true) (b' := false) rfl rfl (dep 4 rfl 81 rfl) (fun hc he hw => absurd he (by decide)) (fun hn => vF_no hn _)) ?_
                        refine Steps.cons (fun a' w' hG hB dep => gs_pick (want_none rfl) _ _ _ rfl false (dep 4 rfl 81 rfl) (id (pick_and2 (c := true) rfl (dep 11 rfl 88 rfl)))) ?_
                        exact Steps.nil
                      intro u wk hBk9 ans
                      have hus : u 89 = .bool (false && false) := ans 12 89 (by decide) rfl
                      clear ans
                      simp only [putAll, List.foldl_cons, List.foldl_nil, Act.put, List.setIfInBounds_toArray, List.set_cons_zero, List.set_cons_succ, hus]
                      clear hus
                      simp only [List.drop]
                      refine wpList_nil ?_
                      replace hBk := below_then hBk hBk9
                      have hnm : z.mo ∉ L'.map MQ.mo := seek_not (by rw [List.length_map, ← HnQ.out]; exact Hno.out)
                      have Hnm := Lib.hid hnm
                      have hI5 := HI.out.then_ hBk
                      have Hx5 := Lib.hid (blk_then Hxz.out hBk)
                      have hx5 := Hx5.out
                      have HS5 := Lib.hid (HSz.out.then_ hBk)
                      have Hgn5 := Lib.hid (blk_then Hgn.out hBk)
                      have hq5 := hI5.q
                      rw [← HnQ.out] at hq5
                      have HI5 := Lib.hid hI5
                      have hb05 : b0 ≤ wk.heap.size := hI5.ord.2.2.2.2
                      clear hnm hBk hkI hBk9 hI5
                      go_upto_region 26 with (first
                        | (refine wl_load_momR rfl _ rfl gx rfl (some ⟨z.g, 0, none⟩) N z.c z.mo.met z.mo.end_ hx5 ?_)
                        | (refine wl_bsMR rfl _ rfl (some ⟨z.g, 0, none⟩) N z.c z.mo.met z.mo.end_ rfl ?_)
                        | (at_builtin; refine wl_pushMR rfl _ _ rfl b0 N L' z rfl rfl (Blk.new _ _ _) (hq5.then_ (below_alloc (Below.refl _ _) _)) HnQ.out (by rw [← HnQ.out]; omega) (by simp; omega) ?_; intro A6 c6 w6 hq6 hg6))
                      have Ba : Below wk.heap.size wk (wk.alloc (.cells (momC (some ⟨z.g, 0, none⟩) N z.c z.mo.met z.mo.end_) 101)) := below_alloc (Below.refl _ _) _
                      rw [HnQ.out] at hg6 hq6
                      have hI6 := (HI5.out.then_ Ba).push hg6 hq6 (HS5.out.then_ Ba) Hzo.out
                      have hqa := (HI5.out.then_ Ba).q
                      have hgn6 := blk_aside (blk_then Hgn5.out Ba) hqa hg6 (by decide)
                      rw [nextArr_more (z := z.mo) (fun c hc => by rw [HL'.out]; exact row_in (by omega) c hc)] at hgn6
                      have hix : (L'.map MQ.mo ++ [z.mo]).idxOf (st q b) = k := by
                        rw [← Hzm.out, List.idxOf_append, if_neg Hnm.out, List.length_map, ← HnQ.out]
                        simp
                      have Hix := Lib.hid hix
                      have hl6 : (L' ++ [z]).length = k + 1 := by rw [List.length_append, ← HnQ.out]; rfl
                      have Hl6 := Lib.hid hl6
                      have hgq6 : ∀ a, A6 = some a → a.block ≠ gn := fun a ha e => by
                        have := own_blk_ne hI6.q hgn6 (by decide)
                        exact this (by rw [ha, ← e]; rfl)
                      have Hgq6 := Lib.hid hgq6
                      have HI6 := Lib.hid hI6
                      clear hq5 hx5 Hx5 HI5 hg6 hq6 Ba hqa hix hl6 hgq6 hI6 Hgn5 HS5 hb05
                      go_wp2_with (refine wl_store_arr eZ (k : Int) rfl _ _ _ rfl gn j M _ _ hgn6 rfl rfl hjm info_intS rfl rfl ?_; intro w9' hz9 hg9)
                      rw [nextArr_same Htk.out.2.1 Hix.out] at hz9
                      have hI9 := HI6.out.box hgn6 hg9 hgnw (by decide) (by decide) (by decide) (fun k' hk' a ha => Nat.ne_of_lt (Hrl.out k' hk' a ha)) Hgq6.out
                      exact ⟨⟨j + 1, L' ++ [z], A6, c6, by rw [Hl6.out], rfl, by omega, hI9, by rw [List.map_append]; exact hz9, Lib.hid (by rw [List.map_append, Htk.out.1, rowQ_snoc, ← HL'.out, ← Hzm.out, addQ_new Hnm.out]; rfl), by rw [Hl6.out]; omega⟩, by simp only [intOf]; omega⟩
                · have hjI : ¬ (j : Int) < M := by omega
                  obtain rfl : M = j := by omega
                  have hLq : (L'.map MQ.mo)[i]? = some q := by
                    obtain ⟨r, hr⟩ := rowQ_prefix (step := st) q (bs.take M) (bfsN st bs a0 i)
                    rw [HL'.out, hr, List.getElem?_append_left (List.getElem?_eq_some_iff.1 HQ.out).1]
                    exact HQ.out
                  have HLq := Lib.hid hLq
                  obtain ⟨y0, gA, hyL, hyq, hil', rfl, hry, hgAl⟩ := hI.at_ hLq
                  obtain ⟨r, hr⟩ : ∃ r : RV, r = ⟨some ⟨gn, 0, none⟩, M, intsL (entsQ st bs (L'.map MQ.mo) q)⟩ := ⟨_, rfl⟩
                  have hrl8 : r.l.length = M := by
                    rw [hr]
                    show (intsL _).length = M
                    rw [intsL_length]
                    unfold entsQ
                    rw [List.length_map]
                    exact hbl
                  have hrC : rowC r = #[.slice (some ⟨gn, 0, none⟩) M M] := by
                    unfold rowC
                    rw [hrl8, hr]
                  have hrow : Own wr gn 3 1 encZ (.slice r.a r.l.length r.c) r.l := by
                    rw [hrl8, hr]
                    exact own_arr hgnb (nextArr_done hbl) (Nat.le_refl _) (by unfold maxLen; omega)
                  obtain ⟨nR, hnR⟩ : ∃ y, y = x.rs.length := ⟨_, rfl⟩
                  have hnRi : nR = i := by
                    have h9 := congrArg List.length HRo.out
                    rw [List.length_map, List.length_map, ← hnR] at h9
                    rw [h9]
                    exact rows_len (by rw [← HLb.out]; omega)
                  have hrows := hI.own.rows0
                  have hdn := hI.tab
                  unfold TV.C' at hdn
                  rw [← hnR] at hdn hrows
                  have cd : wr.cell? ⟨gd, 256, none⟩ = some (.slice x.A nR x.c) := blk_d1 hdn
                  have hbl' := hI.ord.2.2.2
                  have hgdb : gd < b0 := by have := hI.ord.2.2.1; omega
                  have Hr := Lib.hid hr
                  have HrC := Lib.hid hrC
                  have HnR := Lib.hid (And.intro hnR hnRi)
                  have Hrow := Lib.hid hrow
                  have HI := Lib.hid hI
                  have hnR4 : nR ≤ 4097 := by omega
                  clear hr hrC hnR hnRi hrow hI hyq hyL hry hrl8 hLq hgnb
                  go_upto_region 28 with (first
                    | (refine wl_bsRow rfl _ rfl (some ⟨gn, 0, none⟩) M M rfl ?_)
                    | (at_builtin; have hrows3 := hrows.then_ (below_alloc (Below.refl _ _) (.cells #[.slice (some ⟨gn, 0, none⟩) M M] 67)); refine wl_pushRow rfl _ _ rfl b0 x.rs r rfl rfl (blk_row HrC.out) hrows3 HnR.out.1 (by rw [← HnR.out.1]; omega) (by simp; omega) ?_; intro A8 c8 w8 hrows8 hg8; have hd8 := blk_own (blk_then hdn (below_alloc (Below.refl _ _) (.cells #[.slice (some ⟨gn, 0, none⟩) M M] 67))) hrows3 hg8 hgdb)
                    | (refine wl_store_d1 rfl _ _ rfl gd rfl rfl hd8 ?_; intro w9 hd9 hg9))
                  have Ba := below_alloc (Below.refl wr.heap.size wr) (.cells #[.slice (some ⟨gn, 0, none⟩) M M] 67)
                  rw [HnR.out.1] at hg8 hrows8
                  have hI9 := (HI.out.then_ Ba).addRow (Hrow.out.then_ Ba) hgnw Hrl.out hg8 hrows8 hg9 (by unfold TV.C'; simp only [List.length_append, List.length_singleton]; rw [← HnR.out.1]; exact hd9)
                  obtain ⟨x1, hx1⟩ : ∃ x1 : TV, { x with rs := x.rs ++ [r], A := A8, c := c8 } = x1 := ⟨_, rfl⟩
                  have hx1f : x1.f = f := by rw [← hx1]; exact Hxf.out
                  have hx1r : x1.rs = x.rs ++ [r] := by rw [← hx1]
                  have hx1o : x1.fo = ((bfsN st bs a0 i).take i).map Mo.met := by rw [← hx1]; exact HFo.out.1
                  have hx1e : x1.en = ((bfsN st bs a0 i).take i).map Mo.end_ := by rw [← hx1]; exact HFo.out.2
                  rw [hx1] at hI9
                  have htl : ((bfsN st bs a0 i).take i).length = i := by rw [List.length_take, ← HLb.out]; omega
                  have hFl : x1.fo.length = i := by rw [hx1o, List.length_map, htl]
                  have hEl : x1.en.length = i := by rw [hx1e, List.length_map, htl]
                  have Hx1 := Lib.hid (And.intro hx1f (And.intro hx1r (And.intro hx1o hx1e)))
                  have HEl := Lib.hid hEl
                  have HFl := Lib.hid hFl
                  clear hx1 hx1f hx1r hx1o hx1e htl hd8 hrows3 hrows8 hg8 hg9 hd9 Ba hrows hdn cd HI Hrow hgAl
                  obtain ⟨iU, hiU, hU0, hU1, hU2⟩ := info_parts info_u3
                  simp only [Act.put, List.setIfInBounds_toArray, List.set_cons_zero, List.set_cons_succ]
                  obtain ⟨y1, gA1, hyL1, hyq1, hil1, e1, hry1, hgAl1⟩ := hI9.at_ HLq.out
                  injection e1 with e1
                  injection e1 with e1 _ _
                  subst e1
                  have hdx := hI9.tab
                  unfold TV.C' at hdx
                  have hcm : w9.cell? ⟨gA, i * 3 + 1, none⟩ = some (.int .u32 ((q.met : Nat) : Int)) := by rw [← hyq1]; exact hry1 1 _ rfl
                  have hb09 := hI9.ord.2.2.2.2
                  refine wp_region_steps 8 [eqS (.pointer (some ⟨gd, 257, none⟩)), eqS (.slice x1.B x1.fo.length x1.d), eqS (.slice (some ⟨gA, 0, none⟩) L'.length cQ'), eqS (.int .i64 ((i : Nat) : Int)), eqS (.pointer (some ⟨gA, 0 + i * 3, none⟩)), eqS (.pointer (some ⟨gA, 0 + i * 3 + 1, none⟩)), eqS (.int .u32 ((q.met : Nat) : Int)), oneG 43 (encR q.met)] [110, 111, 112, 113, 114, 115, 116, 117] follows_mixed (by kernel_rfl) (by kernel_rfl) ?_ ?_
                  · skip
                    refine Steps.cons (fun a' w' hG hB dep => gs_field (want_none rfl) _ _ _ rfl gd (0) (257) (hG.other 8 rfl) (fun wz => field_dfa_2 gd (0) wz) rfl) ?_
                    refine Steps.cons (fun a' w' hG hB dep => gs_load1 (want_none rfl) _ _ rfl gd (257) (dep 0 rfl 110 rfl) (.slice x1.B x1.fo.length x1.d) (blk_d2 (blk_then hdx hB)) _ Tryd.underlying23 rfl rfl) ?_
                    refine Steps.cons (fun a' w' hG hB dep => gs_move (want_none rfl) _ rfl (hG.other 11 rfl)) ?_
                    refine Steps.cons (fun a' w' hG hB dep => gs_move (want_none rfl) _ rfl (hG.other 12 rfl)) ?_
                    refine Steps.cons (fun a' w' hG hB dep => gs_index (want_none rfl) _ _ _ rfl under_momR 3 size_momRE gA 0 L'.length cQ' i (dep 2 rfl 112 rfl) (dep 3 rfl 113 rfl) hil1 rfl) ?_
                    refine Steps.cons (fun a' w' hG hB dep => gs_field (want_none rfl) _ _ _ rfl gA (0 + i * 3) (0 + i * 3 + 1) (dep 4 rfl 114 rfl) (fun wz => field_momR_1 gA (0 + i * 3) wz) rfl) ?_
                    refine Steps.cons (fun a' w' hG hB dep => gs_load1 (want_none rfl) _ _ rfl gA (0 + i * 3 + 1) (dep 5 rfl 115 rfl) (.int .u32 ((q.met : Nat) : Int)) (by rw [Nat.zero_add]; exact (World.cell?_of_block (hB.block gA hgAl1)).trans hcm) _ Tryd.underlying43 rfl rfl) ?_
                    refine Steps.cons (fun a' w' hG hB dep => gs_u1 (want_none rfl) _ rfl q.met (dep 6 rfl 116 rfl) (fun _ _ h => h)) ?_
                    exact Steps.nil
                  intro u wq hBa ans
                  obtain ⟨g1, hu1, hb1⟩ := ans 7 117 (by decide) rfl
                  have hu0 : u 111 = .slice x1.B x1.fo.length x1.d := ans 1 111 (by decide) rfl
                  clear ans
                  simp only [putAll, List.foldl_cons, List.foldl_nil, Act.put, List.setIfInBounds_toArray, List.set_cons_zero, List.set_cons_succ, hu0, hu1]
                  clear hu0 hu1
                  simp only [List.drop]
                  have hbq : b0 ≤ wq.heap.size := Nat.le_trans hb09 hBa.size
                  refine wl_append _ rfl _ _ 23 rfl b0 43 iU _ 1 4 Tryd.underlying23 hiU hU0 hU1 hU2 rfl (by decide) encR_size encR_one (.slice x1.B x1.fo.length x1.d) x1.fo rfl (hI9.own.fo0.then_ hBa) _ _ 1 1 [q.met] rfl rfl (slice_one (enc := encR) hb1) (by unfold maxLen; have := HFl.out; omega) (by have := HFl.out; omega) hbq ?_
                  intro v8 w8 ho8 hg8 hv8
                  obtain ⟨A9, c9, rfl, _, _⟩ := ho8.shape
                  have hl8 : (x1.fo ++ [q.met]).length = x1.fo.length + 1 := by simp
                  rw [hl8] at ho8 hv8 ⊢
                  have hout := blk_own (blk_then hdx hBa) (hI9.own.fo0.then_ hBa) hg8 hgdb
                  simp only [Act.put, List.setIfInBounds_toArray, List.set_cons_zero, List.set_cons_succ]
                  go_upto_region 29 with (refine wl_store_d2 rfl _ _ rfl gd rfl rfl hout ?_; intro wF hdF hgF)
                  have hIF := (hI9.then_ hBa).addFo hg8 ho8 hv8 hgF (by unfold TV.C'; simp only [List.length_append, List.length_singleton]; exact hdF)
                  obtain ⟨x2, hx2⟩ : ∃ x2 : TV, { x1 with fo := x1.fo ++ [q.met], B := A9, d := c9 } = x2 := ⟨_, rfl⟩
                  have hx2f : x2.f = f := by rw [← hx2]; exact Hx1.out.1
                  have hx2r : x2.rs = x.rs ++ [r] := by rw [← hx2]; exact Hx1.out.2.1
                  have hx2o : x2.fo = x1.fo ++ [q.met] := by rw [← hx2]
                  have hx2e : x2.en = x1.en := by rw [← hx2]
                  rw [hx2] at hIF
                  have hEl2 : x2.en.length = i := by rw [hx2e]; exact HEl.out
                  have HEl2 := Lib.hid hEl2
                  have Hx2 := Lib.hid (And.intro hx2f (And.intro hx2r (And.intro hx2o hx2e)))
                  clear hx2 hx2f hx2r hx2o hx2e hEl2 hout hl8 ho8 hg8 hv8 hdF hgF hBa hb1 hI9 hdx hcm hry1 hyL1 hyq1 hil1 hgAl1 hb09 hbq
                  obtain ⟨y2, gA2, hyL2, hyq2, hil2, e2, hry2, hgAl2⟩ := hIF.at_ HLq.out
                  injection e2 with e2
                  injection e2 with e2 _ _
                  subst e2
                  have hdx := hIF.tab
                  unfold TV.C' at hdx
                  have hcm : wF.cell? ⟨gA, i * 3 + 2, none⟩ = some (.int .u32 ((q.end_ : Nat) : Int)) := by rw [← hyq2]; exact hry2 2 _ rfl
                  have hb0F := hIF.ord.2.2.2.2
                  simp only [Act.put, List.setIfInBounds_toArray, List.set_cons_zero, List.set_cons_succ]
                  refine wp_region_steps 8 [eqS (.pointer (some ⟨gd, 258, none⟩)), eqS (.slice x2.C x2.en.length x2.e), eqS (.slice (some ⟨gA, 0, none⟩) L'.length cQ'), eqS (.int .i64 ((i : Nat) : Int)), eqS (.pointer (some ⟨gA, 0 + i * 3, none⟩)), eqS (.pointer (some ⟨gA, 0 + i * 3 + 2, none⟩)), eqS (.int .u32 ((q.end_ : Nat) : Int)), oneG 43 (encR q.end_)] [120, 121, 122, 123, 124, 125, 126, 127] follows_mixed (by kernel_rfl) (by kernel_rfl) ?_ ?_
                  · skip
                    refine Steps.cons (fun a' w' hG hB dep => gs_field (want_none rfl) _ _ _ rfl gd (0) (258) (hG.other 8 rfl) (fun wz => field_dfa_3 gd (0) wz) rfl) ?_
                    refine Steps.cons (fun a' w' hG hB dep => gs_load1 (want_none rfl) _ _ rfl gd (258) (dep 0 rfl 120 rfl) (.slice x2.C x2.en.length x2.e) (blk_d3 (blk_then hdx hB)) _ Tryd.underlying23 rfl rfl) ?_
                    refine Steps.cons (fun a' w' hG hB dep => gs_move (want_none rfl) _ rfl (hG.other 11 rfl)) ?_
                    refine Steps.cons (fun a' w' hG hB dep => gs_move (want_none rfl) _ rfl (hG.other 12 rfl)) ?_
                    refine Steps.cons (fun a' w' hG hB dep => gs_index (want_none rfl) _ _ _ rfl under_momR 3 size_momRE gA 0 L'.length cQ' i (dep 2 rfl 122 rfl) (dep 3 rfl 123 rfl) hil2 rfl) ?_
                    refine Steps.cons (fun a' w' hG hB dep => gs_field (want_none rfl) _ _ _ rfl gA (0 + i * 3) (0 + i * 3 + 2) (dep 4 rfl 124 rfl) (fun wz => field_momR_2 gA (0 + i * 3) wz) rfl) ?_
                    refine Steps.cons (fun a' w' hG hB dep => gs_load1 (want_none rfl) _ _ rfl gA (0 + i * 3 + 2) (dep 5 rfl 125 rfl) (.int .u32 ((q.end_ : Nat) : Int)) (by rw [Nat.zero_add]; exact (World.cell?_of_block (hB.block gA hgAl2)).trans hcm) _ Tryd.underlying43 rfl rfl) ?_
                    refine Steps.cons (fun a' w' hG hB dep => gs_u1 (want_none rfl) _ rfl q.end_ (dep 6 rfl 126 rfl) (fun _ _ h => h)) ?_
                    exact Steps.nil
                  intro u wq hBa ans
                  obtain ⟨g1, hu1, hb1⟩ := ans 7 127 (by decide) rfl
                  have hu0 : u 121 = .slice x2.C x2.en.length x2.e := ans 1 121 (by decide) rfl
                  clear ans
                  simp only [putAll, List.foldl_cons, List.foldl_nil, Act.put, List.setIfInBounds_toArray, List.set_cons_zero, List.set_cons_succ, hu0, hu1]
                  clear hu0 hu1
                  simp only [List.drop]
                  have hbq : b0 ≤ wq.heap.size := Nat.le_trans hb0F hBa.size
                  refine wl_append _ rfl _ _ 23 rfl b0 43 iU _ 1 4 Tryd.underlying23 hiU hU0 hU1 hU2 rfl (by decide) encR_size encR_one (.slice x2.C x2.en.length x2.e) x2.en rfl (hIF.own.en0.then_ hBa) _ _ 1 1 [q.end_] rfl rfl (slice_one (enc := encR) hb1) (by unfold maxLen; have := HEl2.out; omega) (by have := HEl2.out; omega) hbq ?_
                  intro v8 w8 ho8 hg8 hv8
                  obtain ⟨A9, c9, rfl, _, _⟩ := ho8.shape
                  have hl8 : (x2.en ++ [q.end_]).length = x2.en.length + 1 := by simp
                  rw [hl8] at ho8 hv8 ⊢
                  have hout := blk_own (blk_then hdx hBa) (hIF.own.en0.then_ hBa) hg8 hgdb
                  simp only [Act.put, List.setIfInBounds_toArray, List.set_cons_zero, List.set_cons_succ]
                  go_wp2_with (refine wl_store_d3 rfl _ _ rfl gd rfl rfl hout ?_; intro wE hdE hgE)
                  have hIE := (hIF.then_ hBa).addEn hg8 ho8 hv8 hgE (by unfold TV.C'; simp only [List.length_append, List.length_singleton]; exact hdE)
                  obtain ⟨x3, hx3⟩ : ∃ x3 : TV, { x2 with en := x2.en ++ [q.end_], C := A9, e := c9 } = x3 := ⟨_, rfl⟩
                  have hx3f : x3.f = f := by rw [← hx3]; exact Hx2.out.1
                  have hx3r : x3.rs = x.rs ++ [r] := by rw [← hx3]; exact Hx2.out.2.1
                  have hx3o : x3.fo = x1.fo ++ [q.met] := by rw [← hx3]; exact Hx2.out.2.2.1
                  have hx3e : x3.en = x1.en ++ [q.end_] := by rw [← hx3]; show x2.en ++ [q.end_] = _; rw [Hx2.out.2.2.2]
                  rw [hx3] at hIE
                  obtain ⟨hl0, hq0⟩ := List.getElem?_eq_some_iff.1 HQ.out
                  have hbsM : bs.take M = bs := List.take_of_length_le (by omega)
                  have hL9 : L'.map MQ.mo = bfsN st bs a0 (i + 1) := by rw [bfs_succ hl0, hq0, HL'.out, hbsM]
                  refine ⟨⟨i + 1, x3, L', some ⟨gA, 0, none⟩, cQ', rfl, rfl, hIE, Lib.hid hx3f, Lib.hid hL9, Lib.hid ?_, Lib.hid ⟨?_, ?_⟩, by omega, Lib.hid (.inr ?_), by omega⟩, by simp only [intOf]; omega⟩
                  · rw [hx3r, rows_succ hl0, List.map_append, List.map_append, HRo.out, hq0, ← hL9, Hr.out]
                    rfl
                  · rw [hx3o, Hx1.out.2.2.1, bfs_take HQ.out, List.map_append]
                    rfl
                  · rw [hx3e, Hx1.out.2.2.2, bfs_take HQ.out, List.map_append]
                    rfl
                  · omega
            · have Hcap := Lib.hid hcap
              have hor : most < (nL : Int) ∨ (¬ most < (nL : Int) ∧ (4096 : Int) < nL) := by omega
              have hres := hI.res
              have Hbel := Lib.hid hI.bel
              have Hgw := Lib.hid hI.ord.1
              clear hI hcap
              have hfin : ∀ k : Nat, Done st bs a0 k → min most 4096 < (k : Int) := fun k hk => by
                have h1 := hk.gt (i := i) (by rw [← HLb.out]; exact hil) (m := nL) (by rw [HLb.out]; exact bfs_len a0 (Nat.le_succ i))
                have := Hcap.out
                omega
              have Hfin := Lib.hid hfin
              clear hfin
              rcases hor with hc1 | ⟨hc1, hc2⟩
              all_goals go_wp2_with (first
                | (refine wl_build_dfa0 rfl rfl ?_)
                | (refine wl_store_dfa rfl _ _ rfl (g2 + 1) rfl rfl hres ?_; intro w6 h46 hg6))
              all_goals refine ret_dfa rfl rfl h46 rfl ?_
              all_goals refine ⟨.inr (.inr ⟨Hb.out.symm, fun k hk => ?_, rfl⟩), below_grown Hbel.out hg6 (by have := Hgw.out; omega)⟩
              all_goals rw [Int.toNat_natCast, ← HbsE.out, ← Hst.out, ← Ha0.out] at hk
              all_goals exact Hfin.out k hk
          · have hiI : ¬ (i : Int) < nL := by omega
            have hin : i = nL := by omega
            have hdone : Done st bs a0 i := by
              show (bfsN st bs a0 i).length = i
              rw [← HLb.out, hin]
            have hi1 : (i : Int) ≤ min most 4096 := by
              rcases HiM.out with h | h
              · have h1 := bfs_len (step := st) (bs := bs) a0 (Nat.zero_le i)
                rw [← HLb.out] at h1
                have h2 : (bfsN st bs a0 0).length = 1 := rfl
                omega
              · exact h
            have Hdone := Lib.hid (And.intro hdone hi1)
            have hres := hI.res
            have hxb := hI.tab
            have HxO := Lib.hid hI.own
            have Hbel := Lib.hid hI.bel
            have Hord := Lib.hid hI.ord
            unfold TV.C' at hxb
            clear hI hdone hi1
            go_wp2_with (first
              | (refine wl_load_dfa rfl _ rfl gd rfl hxb ?_)
              | (refine wl_store_dfa rfl _ _ rfl (g2 + 1) rfl rfl hres ?_; intro w6 h46 hg6))
            refine ret_dfa rfl rfl h46 rfl ?_
            have o := Hord.out
            refine ⟨.inr (.inl ⟨Hb.out.symm, i, x, ?_, Hdone.out.2, rfl, ?_, (HxO.out.low hg6 (by omega)).mono (by omega)⟩), below_grown Hbel.out hg6 (by omega)⟩
            · rw [Int.toNat_natCast, ← HbsE.out, ← Hst.out, ← Ha0.out]
              exact Hdone.out.1
            · rw [Int.toNat_natCast]
              unfold tabQ TV.T
              have htk : (bfsN st bs a0 i).take i = bfsN st bs a0 i := List.take_of_length_le (by rw [← HLb.out]; omega)
              rw [← HbsE.out, ← Hst.out, ← Ha0.out, Hxf.out, HRo.out, HFo.out.1, HFo.out.2, htk, Hf.out]
              rfl
      · rw [show ((j + 1 : Nat) : Int) - 1 = (j : Int) by omega]
        have hj : j < 256 := by omega
        have hc := Hfr.out j hj
        obtain ⟨q, hq⟩ : ∃ q : Nat, f j = (q : Int) := ⟨(f j).toNat, by omega⟩
        have hqm : q < M := by omega
        have hqI : (q : Int) < M := by omega
        have hqb : q < 1099511628000 := by omega
        have cx : wr.cell? ⟨g6, j, none⟩ = some (.int .i64 (q : Int)) := by rw [← hq]; exact h6.cellv (clsC_at _ j hj)
        have Hq := Lib.hid hq
        have hup : arr eZ M (upd (fun c => ((repAt f (j + 1) c : Nat) : Int)) q (j : Int)) = arr eZ M fun c => ((repAt f j c : Nat) : Int) := arr_ext eZ M _ (fun c hc => by
          unfold upd
          show (if c = q then (j : Int) else _) = ((repAt f j c : Nat) : Int)
          rw [repAt_step f c hj, Hq.out]
          by_cases e : c = q
          · subst e; simp
          · have : ¬ (q : Int) = (c : Int) := by omega
            simp [e, this])
        have Hup := Lib.hid hup
        clear hc hq hup
        go_wp2_with (refine wl_store_arr eZ (j : Int) rfl _ _ _ rfl gz q M _ _ hz rfl rfl hqm info_intS rfl rfl ?_; intro w9 hz9 hg9)
        rw [Hup.out] at hz9
        have hgz2 : w.heap.size ≤ gz := by have := Hg2.out; omega
        exact ⟨⟨j, by omega, rfl, hz9, blk_grown h6 hg9 (by omega), blk_grown hd hg9 (by omega), blk_grown h4 hg9 (by omega), blk_grown h2 hg9 (by omega), hM.grown hg9 hgz2, below_grown hB hg9 hgz2⟩, by simp only [intOf]; omega⟩
end Go.Proofs.YtkedgombccdamaaDoor
namespace Go.Proofs.YtkedgombccdamaaDoor
open Go.RowKit Go.Shelf Go.Maps
set_option linter.unusedVariables false
set_option linter.unusedSimpArgs false
attribute [local go_sem] Oper.semAt_some

theorem run_snoc (A : Au) (s : Nat) (u : List Nat) (c : Nat) : A.run s (u ++ [c]) = A.go (A.run s u) c := by
  induction u generalizing s with
  | nil => rfl
  | cons x u ih => exact ih (A.go s x)
theorem en_cells {x : TV} {w : World} (hT : TabIn w w.heap.size x) (h : 0 < x.en.length) : ∃ b off, x.C = some ⟨b, off, none⟩ ∧ ∀ {X : World}, Below w.heap.size w X → ∀ t, t < x.en.length → X.cell? ⟨b, off + t * 1, none⟩ = some (.int .u32 ((x.en.getD t 0 : Nat) : Int)) := by
  obtain ⟨b, off, e, hb, hr⟩ := hT.en.at_ h
  exact ⟨b, off, e, fun hB t ht => by
    have := cell_keep (hr t ht 0 _ rfl) hb hB
    rw [getD_at x.en 0 ht]
    exact this⟩
theorem nx_cells {x : TV} (hF : s_Fits x.T) {w : World} (hT : TabIn w w.heap.size x) {s b : Nat} (hs : s < x.rs.length) (hb : b < 256) : ∃ bN oN bR oR m nr cr : Nat, x.A = some ⟨bN, oN, none⟩ ∧ x.f b = (m : Int) ∧ m < nr ∧ m < 256 ∧ nr ≤ 256 ∧
    (∀ {X : World}, Below w.heap.size w X → X.cell? ⟨bN, oN + s * 1, none⟩ = some (.slice (some ⟨bR, oR, none⟩) nr cr)) ∧ (∀ {X : World}, Below w.heap.size w X → X.cell? ⟨bR, oR + m * 1, none⟩ = some (.int .i64 ((x.T.au.go s b : Nat) : Int))) := by
  obtain ⟨c, hcf, hcm, hcl, hgo⟩ := fits_go hF hs hb
  obtain ⟨bN, oN, hA, hbN, cN⟩ := hT.rowAt hs
  have hrow := hT.row _ (List.getElem_mem hs)
  obtain ⟨bR, oR, hRa, hbR, cR⟩ := slice_cell hrow hcl (v := .int .i64 ((x.T.au.go s b : Nat) : Int)) (by rw [← hgo]; rfl)
  rw [hRa] at cN
  have h2 := hF.m2
  have h3 := fits_row hF hs
  exact ⟨bN, oN, bR, oR, c, _, _, hA, hcf, hcl, by omega, by omega, fun hB => cell_keep cN hbN hB, fun hB => cell_keep cR hbR hB⟩
theorem index_cls8 (b off m : Nat) (hm : m < 256) (w : World) : (Instr.indexAt 30 (.pointer (some ⟨b, off, none⟩)) (.int .u8 m)).run Tryd.prog w = .ok (.pointer (some ⟨b, off + m * 1, none⟩)) w := by
  have e := run_indexAt_array (P := Tryd.prog) w 30 ⟨b, off, none⟩ .u8 (m : Int) under_cls
  rw [if_pos ⟨by omega, by rw [len_cls]; omega⟩, size_clsE] at e
  simp only [Int.toNat_natCast, Result.andThen_ok, addr_add] at e
  exact e
theorem gs_index_arr8 {ops : Array Oper} {S : Nat → GSpec} {Q : Exit → Act → World → Prop} {i : Nat} {o : Oper} {a : Act} {w : World} (hw : Region.wanted o (yielded ops a.tmps) = true) (x ix : Operand) (ho : o.op = .indexAddr 30 x ix) (b m : Nat) (hx : a.eval x = .pointer (some ⟨b, 0, none⟩)) (hi : a.eval ix = .int .u8 m) (hm : m < 256)
    (hp : (S i).p (.pointer (some ⟨b, 0 + m * 1, none⟩)) w) : GStep Tryd.prog ops S Q i o a w :=
  gs_run hw (v := .pointer (some ⟨b, 0 + m * 1, none⟩)) (by
    unfold execOp
    simp only [ho, hx, hi, Sem.run_bind, index_cls8 b 0 m hm, Result.andThen_ok, Sem.run_pure]) (Below.refl _ _) hp
/-- the bytes of a text -/
def bytesN (q : ByteArray) : List Nat := (List.range q.size).map (Ere.chr q)
/-- what the table tells of a line -/
def endOf (x : TV) (q : ByteArray) : Nat := x.en.getD (x.T.au.run 0 (bytesN q)) 0
/-- the answer of Run -/
noncomputable def runV (x : TV) (q : ByteArray) : Value := if fitsB x.T = true then .tuple #[.int .u32 ((endOf x q : Nat) : Int), .int .i64 0] else .tuple #[.int .u32 0, .int .i64 70]
theorem runV_yes {x : TV} (h : fitsB x.T = true) (q : ByteArray) : runV x q = .tuple #[.int .u32 ((endOf x q : Nat) : Int), .int .i64 0] := if_pos h
theorem runV_no {x : TV} (h : fitsB x.T = false) (q : ByteArray) : runV x q = .tuple #[.int .u32 0, .int .i64 70] := if_neg (by rw [h]; decide)
theorem fits_yes {T : Tb} (h : fitsB T = true) : s_Fits T := by
  unfold fitsB at h
  exact @of_decide_eq_true _ (Classical.propDecidable _) h
set_option maxRecDepth 100000 in
set_option maxHeartbeats 4000000 in
theorem srun_any (x : TV) (q : ByteArray) (hq : q.size ≤ 1099511627776) (w : World) (hT : TabIn w w.heap.size x) :
    Calls Tryd.prog 17 #[.agg x.C', .string q] w fun e w' => e = .returned (runV x q) ∧ Below w.heap.size w w' := by
  have hR1 : ∀ W' : World, Below w.heap.size w W' → Calls Tryd.prog 15 #[.agg x.C'] W' fun e w2 => e = .returned (.bool (fitsB x.T)) ∧ Below W'.heap.size W' w2 := fun W' hB => s_right_any x W' (hT.then_ hB)
  obtain ⟨yes, hyes⟩ : ∃ b, b = fitsB x.T := ⟨_, rfl⟩
  rw [← hyes] at hR1
  cases yes with
  | false =>
    rw [runV_no hyes.symm]
    clear hyes
    unfold TV.C' at hR1 ⊢
    go_enter Tryd.func17, Tryd.ntmps17
    have hd := Blk.new w 33 (dfaC x.f x.A x.rs.length x.c x.B x.fo.length x.d x.C x.en.length x.e)
    have hB1 := below_alloc (Below.refl w.heap.size w) (.cells (dfaC x.f x.A x.rs.length x.c x.B x.fo.length x.d x.C x.en.length x.e) 33)
    go_upto_region 1 with (fail)
    obtain ⟨w1, hw1⟩ : ∃ y, y = w.alloc (.cells (dfaC x.f x.A x.rs.length x.c x.B x.fo.length x.d x.C x.en.length x.e) 33) := ⟨_, rfl⟩
    rw [← hw1] at hd hB1 ⊢
    clear hw1
    obtain ⟨gd, hgd⟩ : ∃ g, g = w.heap.size := ⟨_, rfl⟩
    rw [← hgd] at hd ⊢
    clear hgd
    have hc := hR1 w1 hB1
    clear hR1
    go_wp2_with (first | (refine wl_load_dfa rfl _ rfl gd rfl hd ?_) | (go_at_call 15; refine hc.mono ?_; rintro e w2 ⟨rfl, hB2⟩))
    go_ret2
    exact ⟨rfl, below_then hB1 hB2⟩
  | true =>
  have hF : s_Fits x.T := fits_yes hyes.symm
  rw [runV_yes hyes.symm]
  clear hyes
  have nx1 : 1 ≤ x.rs.length := by have := hF.n1; rwa [fits_n] at this
  have eex : x.en.length = x.rs.length := by have := hF.ne; rwa [fits_n] at this
  have hAn : x.T.au.n = x.rs.length := fits_au
  obtain ⟨bE, oE, hEx, cex⟩ := en_cells hT (by omega)
  replace hAn := Lib.hid hAn
  replace hEx := Lib.hid hEx
  replace eex := Lib.hid eex
  unfold TV.C' at hR1 ⊢
  go_enter Tryd.func17, Tryd.ntmps17
  have hd := Blk.new w 33 (dfaC x.f x.A x.rs.length x.c x.B x.fo.length x.d x.C x.en.length x.e)
  have hB1 := below_alloc (Below.refl w.heap.size w) (.cells (dfaC x.f x.A x.rs.length x.c x.B x.fo.length x.d x.C x.en.length x.e) 33)
  go_upto_region 1 with (fail)
  obtain ⟨w1, hw1⟩ : ∃ y, y = w.alloc (.cells (dfaC x.f x.A x.rs.length x.c x.B x.fo.length x.d x.C x.en.length x.e) 33) := ⟨_, rfl⟩
  rw [← hw1] at hd hB1 ⊢
  clear hw1
  obtain ⟨gd, hgd⟩ : ∃ g, g = w.heap.size := ⟨_, rfl⟩
  rw [← hgd] at hd ⊢
  clear hgd
  have hc := hR1 w1 hB1
  clear hR1
  go_upto_region 3 with (first | (refine wl_load_dfa rfl _ rfl gd rfl hd ?_) | (go_at_call 15; refine hc.mono ?_; rintro e w2 ⟨rfl, hB2⟩))
  clear hc
  replace hd := blk_then hd hB2
  replace hB1 := below_then hB1 hB2
  clear hB2
  go_wp2_with (fail)
  go_loopw [13, 6] (fun iv sv wr => ∃ i s : Nat, i ≤ q.size ∧ iv = .int .i64 i ∧ sv = .int .i64 s ∧ s < x.rs.length ∧ x.T.au.run 0 ((List.range i).map (Ere.chr q)) = s ∧ Below w.heap.size w wr ∧ Blk wr gd 33 (dfaC x.f x.A x.rs.length x.c x.B x.fo.length x.d x.C x.en.length x.e)) (fun iv _ _ => q.size - (intOf iv).toNat)
  case atStart => exact ⟨0, 0, by omega, rfl, rfl, by omega, rfl, hB1, hd⟩
  case round =>
    clear hB1 hd
    obtain ⟨i, s, hi, rfl, rfl, hs, hrun, hB1, hd⟩ := hrel
    replace hrun := Lib.hid hrun
    by_cases hil : i < q.size
    · have hilI : (i : Int) < q.size := by omega
      go_upto_region 7 with (fail)
      obtain ⟨bN, oN, bR, oR, m, nr, cr, hAx, hfm, hmn, _, _, cN, cR⟩ := nx_cells hF hT hs (Ere.chr_lt q i)
      obtain ⟨u, hu⟩ : ∃ u, x.T.au.go s (Ere.chr q i) = u := ⟨_, rfl⟩
      rw [hu] at cR
      have hu2 : u < x.rs.length := by rw [← hu, ← hAn.out]; exact hF.ok.lt _ _ (by rw [hAn.out]; exact hs) (Ere.chr_lt q i)
      have hrun2 : x.T.au.run 0 ((List.range (i + 1)).map (Ere.chr q)) = u := by
        rw [List.range_succ]
        simp only [List.map_append, List.map_cons, List.map_nil]
        rw [run_snoc, hrun.out, hu]
      replace hrun2 := Lib.hid hrun2
      clear hu hrun
      refine wp_region_steps 13 [eqS (.pointer (some ⟨gd, 256, none⟩)), eqS (.slice (some ⟨bN, oN, none⟩) x.rs.length x.c), eqS (.int .i64 (((s : Nat) : Int))), eqS (.pointer (some ⟨bN, oN + s * 1, none⟩)), eqS (.slice (some ⟨bR, oR, none⟩) nr cr), eqS (.string q), eqS (.int .i64 (((i : Nat) : Int))), eqS (.int .u8 (((Ere.chr q i : Nat) : Int))), eqS (.pointer (some ⟨gd, 0, none⟩)), eqS (.pointer (some ⟨gd, 0 + (Ere.chr q i) * 1, none⟩)), eqS (.int .i64 (((m : Nat) : Int))), eqS (.pointer (some ⟨bR, oR + m * 1, none⟩)), eqS (.int .i64 (((u : Nat) : Int)))] [16, 17, 18, 19, 20, 21, 22, 23, 24, 25, 26, 27, 28] rfl (by kernel_rfl) rfl ?_ ?_
      · skip
        refine Steps.cons (fun a' w' hG hB dep => gs_field (want_none rfl) _ _ _ rfl gd (0) (256) (hG.other 2 rfl) (fun wz => field_dfa_1 gd (0) wz) rfl) ?_
        refine Steps.cons (fun a' w' hG hB dep => gs_load1 (want_none rfl) _ _ rfl gd (256) (dep 0 rfl 16 rfl) (.slice (some ⟨bN, oN, none⟩) x.rs.length x.c) (by have h9 := blk_d1 (blk_then hd hB); rw [hAx] at h9; exact h9) _ Tryd.underlying31 rfl rfl) ?_
        refine Steps.cons (fun a' w' hG hB dep => gs_move (want_none rfl) _ rfl (id (hG.other 6 rfl))) ?_
        refine Steps.cons (fun a' w' hG hB dep => gs_index (want_none rfl) _ _ _ rfl under_rows 1 size_rowE bN oN x.rs.length x.c (s) (dep 1 rfl 17 rfl) (dep 2 rfl 18 rfl) hs rfl) ?_
        refine Steps.cons (fun a' w' hG hB dep => gs_load1 (want_none rfl) _ _ rfl bN (oN + s * 1) (dep 3 rfl 19 rfl) (.slice (some ⟨bR, oR, none⟩) nr cr) (cN (below_then hB1 hB)) _ Tryd.underlying67 rfl rfl) ?_
        refine Steps.cons (fun a' w' hG hB dep => gs_move (want_none rfl) _ rfl (id (hG.other 1 rfl))) ?_
        refine Steps.cons (fun a' w' hG hB dep => gs_move (want_none rfl) _ rfl (id (hG.other 7 rfl))) ?_
        refine Steps.cons (fun a' w' hG hB dep => gs_index_str (want_none rfl) _ _ rfl q i (dep 5 rfl 21 rfl) (dep 6 rfl 22 rfl) hil rfl) ?_
        refine Steps.cons (fun a' w' hG hB dep => gs_field (want_none rfl) _ _ _ rfl gd (0) (0) (hG.other 2 rfl) (fun wz => field_dfa_0 gd (0) wz) rfl) ?_
        refine Steps.cons (fun a' w' hG hB dep => gs_index_arr8 (want_none rfl) _ _ rfl gd (Ere.chr q i) (dep 8 rfl 24 rfl) (dep 7 rfl 23 rfl) (Ere.chr_lt q i) rfl) ?_
        refine Steps.cons (fun a' w' hG hB dep => gs_load1 (want_none rfl) _ _ rfl gd (0 + (Ere.chr q i) * 1) (dep 9 rfl 25 rfl) (.int .i64 (((m : Nat) : Int))) (by have h9 := blk_cls (blk_then hd hB) (Ere.chr_lt q i); rw [hfm] at h9; exact h9) _ Tryd.underlying3 rfl rfl) ?_
        refine Steps.cons (fun a' w' hG hB dep => gs_index (want_none rfl) _ _ _ rfl under_ints 1 size_intE bR oR nr cr (m) (dep 4 rfl 20 rfl) (dep 10 rfl 26 rfl) hmn rfl) ?_
        refine Steps.cons (fun a' w' hG hB dep => gs_load1 (want_none rfl) _ _ rfl bR (oR + m * 1) (dep 11 rfl 27 rfl) (.int .i64 (((u : Nat) : Int))) (cR (below_then hB1 hB)) _ Tryd.underlying3 rfl rfl) ?_
        exact Steps.nil
      intro uu wa hwa ans
      have hus28 : uu 28 = (.int .i64 ((u : Nat) : Int)) := ans 12 28 (by decide) rfl
      clear ans
      simp only [putAll, List.foldl_cons, List.foldl_nil, Act.put, List.setIfInBounds_toArray, List.set_cons_zero, List.set_cons_succ, hus28]
      clear hus28
      simp only [List.drop]
      replace hd := blk_then hd hwa
      replace hB1 := below_then hB1 hwa
      clear hwa cN cR hAx hfm hmn
      go_wp2_with (fail)
      exact ⟨⟨i + 1, u, by omega, rfl, rfl, hu2, hrun2.out, hB1, hd⟩, by simp only [intOf]; omega⟩
    · have hilI : ¬ (i : Int) < q.size := by omega
      have hie : i = q.size := by omega
      have hrr : x.T.au.run 0 (bytesN q) = s := by rw [← hrun.out, hie]; rfl
      have hse : s < x.en.length := by rw [eex.out]; exact hs
      have cE : wr.cell? ⟨gd, 258, none⟩ = some (.slice (some ⟨bE, oE, none⟩) x.en.length x.e) := by rw [← hEx.out]; exact blk_d3 hd
      have cV := cex hB1 s hse
      rw [Nat.mul_one] at cV
      have hseI : (s : Int) < x.en.length := by omega
      obtain ⟨v, hv⟩ : ∃ v, x.en.getD s 0 = v := ⟨_, rfl⟩
      rw [hv] at cV
      have hev : endOf x q = v := by unfold endOf; rw [hrr, hv]
      replace hev := Lib.hid hev
      clear hv hrr
      clear hrun hie
      go_wp2_with (fail)
      go_ret2
      refine ⟨?_, hB1⟩
      rw [hev.out]
      rfl
set_option maxRecDepth 100000 in
set_option maxHeartbeats 4000000 in
theorem rrun_any (x : TV) (q : ByteArray) (hq : q.size ≤ 1099511627776) (w : World) (hT : TabIn w w.heap.size x) :
    Calls Tryd.prog 18 #[.agg x.C', .string q] w fun e w' => e = .returned (runV x q) ∧ Below w.heap.size w w' := by
  have hR1 : ∀ W' : World, Below w.heap.size w W' → Calls Tryd.prog 16 #[.agg x.C'] W' fun e w2 => e = .returned (.bool (fitsB x.T)) ∧ Below W'.heap.size W' w2 := fun W' hB => rright_any x W' (hT.then_ hB)
  obtain ⟨yes, hyes⟩ : ∃ b, b = fitsB x.T := ⟨_, rfl⟩
  rw [← hyes] at hR1
  cases yes with
  | false =>
    rw [runV_no hyes.symm]
    clear hyes
    unfold TV.C' at hR1 ⊢
    go_enter Tryd.func18, Tryd.ntmps18
    have hd := Blk.new w 33 (dfaC x.f x.A x.rs.length x.c x.B x.fo.length x.d x.C x.en.length x.e)
    have hB1 := below_alloc (Below.refl w.heap.size w) (.cells (dfaC x.f x.A x.rs.length x.c x.B x.fo.length x.d x.C x.en.length x.e) 33)
    go_upto_region 1 with (fail)
    obtain ⟨w1, hw1⟩ : ∃ y, y = w.alloc (.cells (dfaC x.f x.A x.rs.length x.c x.B x.fo.length x.d x.C x.en.length x.e) 33) := ⟨_, rfl⟩
    rw [← hw1] at hd hB1 ⊢
    clear hw1
    obtain ⟨gd, hgd⟩ : ∃ g, g = w.heap.size := ⟨_, rfl⟩
    rw [← hgd] at hd ⊢
    clear hgd
    have hc := hR1 w1 hB1
    clear hR1
    go_wp2_with (first | (refine wl_load_dfa rfl _ rfl gd rfl hd ?_) | (go_at_call 16; refine hc.mono ?_; rintro e w2 ⟨rfl, hB2⟩))
    go_ret2
    exact ⟨rfl, below_then hB1 hB2⟩
  | true =>
  have hF : s_Fits x.T := fits_yes hyes.symm
  rw [runV_yes hyes.symm]
  clear hyes
  have nx1 : 1 ≤ x.rs.length := by have := hF.n1; rwa [fits_n] at this
  have eex : x.en.length = x.rs.length := by have := hF.ne; rwa [fits_n] at this
  have hAn : x.T.au.n = x.rs.length := fits_au
  obtain ⟨bE, oE, hEx, cex⟩ := en_cells hT (by omega)
  replace hAn := Lib.hid hAn
  replace hEx := Lib.hid hEx
  replace eex := Lib.hid eex
  unfold TV.C' at hR1 ⊢
  go_enter Tryd.func18, Tryd.ntmps18
  have hd := Blk.new w 33 (dfaC x.f x.A x.rs.length x.c x.B x.fo.length x.d x.C x.en.length x.e)
  have hB1 := below_alloc (Below.refl w.heap.size w) (.cells (dfaC x.f x.A x.rs.length x.c x.B x.fo.length x.d x.C x.en.length x.e) 33)
  go_upto_region 1 with (fail)
  obtain ⟨w1, hw1⟩ : ∃ y, y = w.alloc (.cells (dfaC x.f x.A x.rs.length x.c x.B x.fo.length x.d x.C x.en.length x.e) 33) := ⟨_, rfl⟩
  rw [← hw1] at hd hB1 ⊢
  clear hw1
  obtain ⟨gd, hgd⟩ : ∃ g, g = w.heap.size := ⟨_, rfl⟩
  rw [← hgd] at hd ⊢
  clear hgd
  have hc := hR1 w1 hB1
  clear hR1
  go_upto_region 3 with (first | (refine wl_load_dfa rfl _ rfl gd rfl hd ?_) | (go_at_call 16; refine hc.mono ?_; rintro e w2 ⟨rfl, hB2⟩))
  clear hc
  replace hd := blk_then hd hB2
  replace hB1 := below_then hB1 hB2
  clear hB2
  go_wp2_with (fail)
  go_loopw [7, 6] (fun iv sv wr => ∃ i s : Nat, i ≤ q.size ∧ iv = .int .i64 i ∧ sv = .int .i64 s ∧ s < x.rs.length ∧ x.T.au.run 0 ((List.range i).map (Ere.chr q)) = s ∧ Below w.heap.size w wr ∧ Blk wr gd 33 (dfaC x.f x.A x.rs.length x.c x.B x.fo.length x.d x.C x.en.length x.e)) (fun iv _ _ => q.size - (intOf iv).toNat)
  case atStart => exact ⟨0, 0, by omega, rfl, rfl, by omega, rfl, hB1, hd⟩
  case round =>
    clear hB1 hd
    obtain ⟨i, s, hi, rfl, rfl, hs, hrun, hB1, hd⟩ := hrel
    replace hrun := Lib.hid hrun
    by_cases hil : i < q.size
    · have hilI : (i : Int) < q.size := by omega
      go_upto_region 7 with (fail)
      obtain ⟨bN, oN, bR, oR, m, nr, cr, hAx, hfm, hmn, _, _, cN, cR⟩ := nx_cells hF hT hs (Ere.chr_lt q i)
      obtain ⟨u, hu⟩ : ∃ u, x.T.au.go s (Ere.chr q i) = u := ⟨_, rfl⟩
      rw [hu] at cR
      have hu2 : u < x.rs.length := by rw [← hu, ← hAn.out]; exact hF.ok.lt _ _ (by rw [hAn.out]; exact hs) (Ere.chr_lt q i)
      have hrun2 : x.T.au.run 0 ((List.range (i + 1)).map (Ere.chr q)) = u := by
        rw [List.range_succ]
        simp only [List.map_append, List.map_cons, List.map_nil]
        rw [run_snoc, hrun.out, hu]
      replace hrun2 := Lib.hid hrun2
      clear hu hrun
      refine wp_region_steps 13 [eqS (.pointer (some ⟨gd, 256, none⟩)), eqS (.slice (some ⟨bN, oN, none⟩) x.rs.length x.c), eqS (.int .i64 (((s : Nat) : Int))), eqS (.pointer (some ⟨bN, oN + s * 1, none⟩)), eqS (.slice (some ⟨bR, oR, none⟩) nr cr), eqS (.string q), eqS (.int .i64 (((i : Nat) : Int))), eqS (.int .u8 (((Ere.chr q i : Nat) : Int))), eqS (.pointer (some ⟨gd, 0, none⟩)), eqS (.pointer (some ⟨gd, 0 + (Ere.chr q i) * 1, none⟩)), eqS (.int .i64 (((m : Nat) : Int))), eqS (.pointer (some ⟨bR, oR + m * 1, none⟩)), eqS (.int .i64 (((u : Nat) : Int)))] [17, 18, 19, 20, 21, 22, 23, 24, 25, 26, 27, 28, 29] rfl (by kernel_rfl) rfl ?_ ?_
      · skip
        refine Steps.cons (fun a' w' hG hB dep => gs_field (want_none rfl) _ _ _ rfl gd (0) (256) (hG.other 2 rfl) (fun wz => field_dfa_1 gd (0) wz) rfl) ?_
        refine Steps.cons (fun a' w' hG hB dep => gs_load1 (want_none rfl) _ _ rfl gd (256) (dep 0 rfl 17 rfl) (.slice (some ⟨bN, oN, none⟩) x.rs.length x.c) (by have h9 := blk_d1 (blk_then hd hB); rw [hAx] at h9; exact h9) _ Tryd.underlying31 rfl rfl) ?_
        refine Steps.cons (fun a' w' hG hB dep => gs_move (want_none rfl) _ rfl (id (hG.other 6 rfl))) ?_
        refine Steps.cons (fun a' w' hG hB dep => gs_index (want_none rfl) _ _ _ rfl under_rows 1 size_rowE bN oN x.rs.length x.c (s) (dep 1 rfl 18 rfl) (dep 2 rfl 19 rfl) hs rfl) ?_
        refine Steps.cons (fun a' w' hG hB dep => gs_load1 (want_none rfl) _ _ rfl bN (oN + s * 1) (dep 3 rfl 20 rfl) (.slice (some ⟨bR, oR, none⟩) nr cr) (cN (below_then hB1 hB)) _ Tryd.underlying67 rfl rfl) ?_
        refine Steps.cons (fun a' w' hG hB dep => gs_move (want_none rfl) _ rfl (id (hG.other 1 rfl))) ?_
        refine Steps.cons (fun a' w' hG hB dep => gs_move (want_none rfl) _ rfl (id (hG.other 7 rfl))) ?_
        refine Steps.cons (fun a' w' hG hB dep => gs_index_str (want_none rfl) _ _ rfl q i (dep 5 rfl 22 rfl) (dep 6 rfl 23 rfl) hil rfl) ?_
        refine Steps.cons (fun a' w' hG hB dep => gs_field (want_none rfl) _ _ _ rfl gd (0) (0) (hG.other 2 rfl) (fun wz => field_dfa_0 gd (0) wz) rfl) ?_
        refine Steps.cons (fun a' w' hG hB dep => gs_index_arr8 (want_none rfl) _ _ rfl gd (Ere.chr q i) (dep 8 rfl 25 rfl) (dep 7 rfl 24 rfl) (Ere.chr_lt q i) rfl) ?_
        refine Steps.cons (fun a' w' hG hB dep => gs_load1 (want_none rfl) _ _ rfl gd (0 + (Ere.chr q i) * 1) (dep 9 rfl 26 rfl) (.int .i64 (((m : Nat) : Int))) (by have h9 := blk_cls (blk_then hd hB) (Ere.chr_lt q i); rw [hfm] at h9; exact h9) _ Tryd.underlying3 rfl rfl) ?_
        refine Steps.cons (fun a' w' hG hB dep => gs_index (want_none rfl) _ _ _ rfl under_ints 1 size_intE bR oR nr cr (m) (dep 4 rfl 21 rfl) (dep 10 rfl 27 rfl) hmn rfl) ?_
        refine Steps.cons (fun a' w' hG hB dep => gs_load1 (want_none rfl) _ _ rfl bR (oR + m * 1) (dep 11 rfl 28 rfl) (.int .i64 (((u : Nat) : Int))) (cR (below_then hB1 hB)) _ Tryd.underlying3 rfl rfl) ?_
        exact Steps.nil
      intro uu wa hwa ans
      have hus29 : uu 29 = (.int .i64 ((u : Nat) : Int)) := ans 12 29 (by decide) rfl
      clear ans
      simp only [putAll, List.foldl_cons, List.foldl_nil, Act.put, List.setIfInBounds_toArray, List.set_cons_zero, List.set_cons_succ, hus29]
      clear hus29
      simp only [List.drop]
      replace hd := blk_then hd hwa
      replace hB1 := below_then hB1 hwa
      clear hwa cN cR hAx hfm hmn
      go_wp2_with (fail)
      exact ⟨⟨i + 1, u, by omega, rfl, rfl, hu2, hrun2.out, hB1, hd⟩, by simp only [intOf]; omega⟩
    · have hilI : ¬ (i : Int) < q.size := by omega
      have hie : i = q.size := by omega
      have hrr : x.T.au.run 0 (bytesN q) = s := by rw [← hrun.out, hie]; rfl
      have hse : s < x.en.length := by rw [eex.out]; exact hs
      have cE : wr.cell? ⟨gd, 258, none⟩ = some (.slice (some ⟨bE, oE, none⟩) x.en.length x.e) := by rw [← hEx.out]; exact blk_d3 hd
      have cV := cex hB1 s hse
      rw [Nat.mul_one] at cV
      have hseI : (s : Int) < x.en.length := by omega
      obtain ⟨v, hv⟩ : ∃ v, x.en.getD s 0 = v := ⟨_, rfl⟩
      rw [hv] at cV
      have hev : endOf x q = v := by unfold endOf; rw [hrr, hv]
      replace hev := Lib.hid hev
      clear hv hrr
      clear hrun hie
      go_wp2_with (fail)
      go_ret2
      refine ⟨?_, hB1⟩
      rw [hev.out]
      rfl
end Go.Proofs.YtkedgombccdamaaDoor
