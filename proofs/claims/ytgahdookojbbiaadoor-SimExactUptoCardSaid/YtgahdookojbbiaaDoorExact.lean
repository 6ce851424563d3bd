/- heronlaw08.SimExact. No condition beyond those named in each lemma. -/
import Derived.Test.YtgahdookojbbiaaDoorExactA
namespace Go.Proofs.YtgahdookojbbiaaDoor
open Go.RowKit Go.Shelf Go.Maps
set_option linter.unusedVariables false
set_option linter.unusedSimpArgs false
attribute [local go_sem] Oper.semAt_some

theorem wl_load_nfa_g {ops : Array Oper} {rest : List Oper} {o : Oper} {a : Act} {w : World} {Q : Exit → Act → World → Prop} (hw : Region.wanted o (yielded ops a.tmps) = true) (x : Operand) (ho : o.op = .load 25 x)
    (g : Nat) (hx : a.eval x = .pointer (some ⟨g, 0, none⟩)) (s : Int) (A : Option Addr) (n c : Nat) (B : Option Addr) (m d : Nat) (hb : Blk w g 25 (nfaC s A n c B m d))
    (h : wpList Tryd.prog ops Q rest (a.put o.dst (.agg (nfaC s A n c B m d))) w) : wpList Tryd.prog ops Q (o :: rest) a w :=
  wpList_w hw (wl_load_nfa (o := { o with guard := none }) rfl x ho g hx s A n c B m d hb h)
theorem below_g2 {a W W' : World} {x y : Nat} (h : Below a.heap.size a W) (hg : Grown2 W W' x y) (hx : a.heap.size ≤ x) (hy : a.heap.size ≤ y) : Below a.heap.size a W' :=
  ⟨hg.os.trans h.os, hg.tape.trans h.tape, hg.output.trans h.output, Nat.le_trans h.size hg.size, fun k hk => (hg.block k (Nat.lt_of_lt_of_le hk h.size) (by omega) (by omega)).trans (h.block k hk)⟩
theorem take_one {α : Type} (E : List α) (x : α) (n : Nat) (hn : n = E.length) : (E ++ [x]).take n = E := by subst hn; exact List.take_left' rfl
set_option maxRecDepth 100000 in
set_option maxHeartbeats 8000000 in
theorem simExact_any (s : Int) (A : Option Addr) (n c0 : Nat) (B : Option Addr) (m d0 : Nat) (E : List Edg) (R : List Nat) (ln ot : ByteArray) (hn : n = E.length) (hm : m = R.length) (hE : E.length ≤ 274877906944) (hRl : R.length ≤ 274877906944) (hR : ∀ r ∈ R, r < 4294967296) (w : World)
    (hsE : SliceOf w w.heap.size 7 edgC A E) (hsR : SliceOf w w.heap.size 1 encR B R) (hT : TabOk w) :
    Calls Tryd.prog 3 #[.agg (nfaC s A n c0 B m d0), .string ln, .string ot] w fun e w' => e = .returned (.bool true) ∧ Below w.heap.size w w' := by
  have hcop := fun W h1 h2 => copied_any s A n c0 B m d0 E R hn hm hE hRl W h1 h2
  have hkept := fun ge ce gu cu Bx W h1 h2 h3 h4 => kept_any s A n c0 B m d0 ge ce gu cu Bx E R hn hm hE hRl W h1 h2 h3 h4
  have hrline := fun l W h1 h2 h3 => rline_any s A n c0 B m d0 E R l hn hm (by omega) (by omega) hR W h1 h2 h3
  have hline := fun A c0 B d0 l W h1 h2 h3 h4 => line_any s A n c0 B m d0 E R l hn hm (by omega) (by omega) hR W h1 h2 h3 h4
  have hrbeg := fun W h1 h2 h3 => rbegin_any w.heap.size s A n c0 B m d0 E R hn hm (by omega) (by omega) hR W h1 h2 h3
  have hbeg := fun A c0 B d0 W h1 h2 h3 => begin_any s A n c0 B m d0 E R hn hm (by omega) (by omega) hR W h1 h2 h3
  have htkE : (E ++ [edge77]).take n = E := take_one E edge77 n hn
  have htkR : (R ++ [77]).take m = R := take_one R 77 m hm
  have HC := Lib.hid hcop
  have HK := Lib.hid hkept
  have HRL := Lib.hid hrline
  have HL := Lib.hid hline
  have HRB := Lib.hid hrbeg
  have HB := Lib.hid hbeg
  have HtE := Lib.hid htkE
  have HtR := Lib.hid htkR
  have hn2 : n ≤ 274877906944 := by omega
  have hm2 : m ≤ 274877906944 := by omega
  have Hn := Lib.hid hn
  have Hm := Lib.hid hm
  clear hcop hkept hrline hline hrbeg hbeg htkE htkR hn hm
  go_enter Tryd.func3, Tryd.ntmps3
  have h1 := Blk.new w 25 (nfaC s A n c0 B m d0)
  have hB1 : Below w.heap.size w (w.alloc (.cells (nfaC s A n c0 B m d0) 25)) := below_alloc (Below.refl _ _) _
  go_upto_region 1 with (fail)
  obtain ⟨W1, hW1⟩ : ∃ y, y = w.alloc (.cells (nfaC s A n c0 B m d0) 25) := ⟨_, rfl⟩
  rw [← hW1] at h1 hB1 ⊢
  clear hW1
  have hT0 := hT.size
  have hT1 := hT.then_ hT.size hB1
  go_upto_region 3 with (go_at_call 5; refine (fixed_any W1 hT1).mono ?_; rintro e w2 ⟨rfl, hB2⟩)
  replace h1 := blk_then h1 hB2
  replace hB1 := below_then hB1 hB2
  clear hB2 hT1
  go_upto_if 24 with (fail)
  go_cut [1] from 25 to 26 (fun v wx => (∃ l2 : ByteArray, v = .string l2 ∧ l2.size ≤ 60) ∧ wx = w2)
  case first =>
    by_cases h60 : 60 < ln.size
    · have h60I : (60 : Int) < ln.size := by omega
      go_wp2_with (fail)
      go_meet
      exact ⟨⟨ln.extract 0 60, rfl, by rw [ByteArray.size_extract]; omega⟩, rfl⟩
    · have h60I : ¬ (60 : Int) < ln.size := by omega
      go_wp2_with (fail)
      go_meet
      exact ⟨⟨ln, rfl, by omega⟩, rfl⟩
  case rest =>
    obtain ⟨⟨l1, rfl, hl1⟩, rfl⟩ := hcut
    go_upto_if 29 with (fail)
    go_cut [2] from 30 to 31 (fun v wx => (∃ l2 : ByteArray, v = .string l2 ∧ l2.size ≤ 60) ∧ wx = wc)
    case first =>
      by_cases h60 : 60 < ot.size
      · have h60I : (60 : Int) < ot.size := by omega
        go_wp2_with (fail)
        go_meet
        exact ⟨⟨ot.extract 0 60, rfl, by rw [ByteArray.size_extract]; omega⟩, rfl⟩
      · have h60I : ¬ (60 : Int) < ot.size := by omega
        go_wp2_with (fail)
        go_meet
        exact ⟨⟨ot, rfl, by omega⟩, rfl⟩
    case rest =>
      obtain ⟨⟨l2, rfl, hl2⟩, rfl⟩ := hcut
      have hz0 : w.heap.size ≤ wc.heap.size := hB1.size
      have hEw : ∀ W, Below w.heap.size w W → SliceOf W W.heap.size 7 edgC A E := fun W hb => (hsE.below hb).more hb.size
      have hRw : ∀ W, Below w.heap.size w W → SliceOf W W.heap.size 1 encR B R := fun W hb => (hsR.below hb).more hb.size
      have HEw := Lib.hid hEw
      have HRw := Lib.hid hRw
      clear hEw hRw
      have hcop := HC.out wc (HEw.out _ hB1) (HRw.out _ hB1)
      go_upto_region 8 with (first
        | (refine wl_load_nfa rfl _ rfl _ rfl _ _ _ _ _ _ _ h1 ?_)
        | (go_at_call 6; refine hcop.mono ?_; rintro e w3 ⟨ge, gu, ce, cu, rfl, hgg, hxE, hxR, hB3⟩)
        | (refine wl_store_nfa rfl _ _ rfl w3.heap.size _ _ _ _ _ _ _ rfl rfl _ _ _ _ _ _ _ (Blk.new w3 25 (nfaC 0 none 0 0 none 0 0)) ?_; intro w4 h7 hg4))
      have hB4 : Below w3.heap.size w3 w4 := below_grown (below_alloc (Below.refl _ _) (.cells (nfaC 0 none 0 0 none 0 0) 25)) hg4 (Nat.le_refl _)
      have hge := hxE.lt ge rfl
      have hgu := hxR.lt gu rfl
      obtain ⟨b7, hb7⟩ : ∃ q, q = w3.heap.size := ⟨_, rfl⟩
      rw [← hb7] at h7 ⊢
      replace h1 := blk_then (blk_then h1 hB3) hB4
      replace hB1 := below_then (below_then hB1 hB3) hB4
      replace hxE := hxE.then_ hB4
      replace hxR := hxR.then_ hB4
      have hT4 := hT.then_ hT.size hB1
      have hz3 := hB3.size
      have hz4 := hB4.size
      have hb7l : w.heap.size ≤ b7 := by omega
      clear hcop hB3 hB4 hg4 hb7
      -- the line, by the document and by the program
      obtain ⟨lr, hlr⟩ : ∃ q : Int, q = if rightB s E m then ((endW E R.length R (goesW E R.length R (bytesL l1) (begW E R.length R)) : Nat) : Int) else 0 := ⟨_, rfl⟩
      obtain ⟨lf, hlf⟩ : ∃ q : Int, q = if rightB s E m then 0 else 70 := ⟨_, rfl⟩
      have Hlr := Lib.hid hlr
      have Hlf := Lib.hid hlf
      clear hlr hlf
      have hrl : Calls Tryd.prog 7 #[.agg (nfaC s A n c0 B m d0), .string l1] w4 fun e w' => e = .returned (.tuple #[.int .u32 lr, .int .i64 lf]) ∧ Below w4.heap.size w4 w' := (HRL.out l1 w4 (HEw.out _ hB1) (HRw.out _ hB1) (by omega)).mono fun e w' ⟨q1, q2⟩ => ⟨by
        rcases q2 with ⟨q3, q4⟩ | ⟨q3, q4⟩
        · rw [q4, Hlr.out, Hlf.out, q3]; rfl
        · rw [q4, Hlr.out, Hlf.out, q3]; rfl, q1⟩
      go_upto_region 9 with (first
        | (refine wl_load_nfa rfl _ rfl _ rfl _ _ _ _ _ _ _ h1 ?_)
        | (go_at_call 7; refine hrl.mono ?_; rintro e w5 ⟨rfl, hB5⟩))
      replace h1 := blk_then h1 hB5
      replace h7 := blk_then h7 hB5
      replace hB1 := below_then hB1 hB5
      replace hxE := hxE.then_ hB5
      replace hxR := hxR.then_ hB5
      have hT5 := hT.then_ hT.size hB1
      have hz5 := hB5.size
      clear hB5 hrl hT4
      have hsx : ∀ W, Below w5.heap.size w5 W → SliceOf W W.heap.size 7 edgC (some ⟨ge, 0, none⟩) E := fun W hb => by
        have := (hxE.then_ hb).slice edgC_size n
        rw [HtE.out] at this
        exact this
      have hsr : ∀ W, Below w5.heap.size w5 W → SliceOf W W.heap.size 1 encR (some ⟨gu, 0, none⟩) R := fun W hb => by
        have := (hxR.then_ hb).slice encR_size m
        rw [HtR.out] at this
        exact this
      have HSX := Lib.hid hsx
      have HSR := Lib.hid hsr
      clear hsx hsr
      have hsl : Calls Tryd.prog 8 #[.agg (nfaC s (some ⟨ge, 0, none⟩) n ce (some ⟨gu, 0, none⟩) m cu), .string l1] w5 fun e w' => e = .returned (.tuple #[.int .u32 lr, .int .i64 lf]) ∧ Below w5.heap.size w5 w' := (HL.out _ _ _ _ l1 w5 (HSX.out _ (Below.refl _ _)) (HSR.out _ (Below.refl _ _)) hT5 (by omega)).mono fun e w' ⟨q1, q2⟩ => ⟨by
        rcases q2 with ⟨q3, q4⟩ | ⟨q3, q4⟩
        · rw [q4, Hlr.out, Hlf.out, q3]; rfl
        · rw [q4, Hlr.out, Hlf.out, q3]; rfl, q1⟩
      clear Hlr Hlf
      go_upto_region 10 with (first
        | (refine wl_load_nfa rfl _ rfl _ rfl _ _ _ _ _ _ _ h7 ?_)
        | (go_at_call 8; refine hsl.mono ?_; rintro e w6 ⟨rfl, hB6⟩))
      clear hsl
      have hBx := hB6
      replace h1 := blk_then h1 hB6
      replace h7 := blk_then h7 hB6
      replace hB1 := below_then hB1 hB6
      have hz6 := hB6.size
      clear hB6
      have hk6 := HK.out ge ce gu cu _ w6 (HEw.out _ hB1) (HRw.out _ hB1) (hxE.then_ hBx) (hxR.then_ hBx)
      go_upto_region 12 with (first
        | (refine wl_load_nfa_g (want_yes rfl rfl rfl) _ rfl _ rfl _ _ _ _ _ _ _ h7 ?_)
        | (refine wl_load_nfa_g (want_yes rfl rfl rfl) _ rfl _ rfl _ _ _ _ _ _ _ h1 ?_)
        | (go_at_call 9; refine hk6.mono ?_; rintro e w7 ⟨rfl, hB7⟩))
      replace h1 := blk_then h1 hB7
      replace h7 := blk_then h7 hB7
      replace hB1 := below_then hB1 hB7
      replace hBx := below_then hBx hB7
      have hz7 := hB7.size
      clear hk6 hB7
      rcases hrb : rightB s E m with _ | _
      · have rbF : ∀ W, Below w.heap.size w W → Calls Tryd.prog 10 #[.agg (nfaC s A n c0 B m d0)] W fun e w' => e = .returned (.tuple #[.pointer none, .int .i64 70]) ∧ Below W.heap.size W w' := fun W hb => (HRB.out W (hsE.keep (fun k hk => hb.block k hk)) (hsR.keep (fun k hk => hb.block k hk)) hb.size).mono fun e w' ⟨q1, q2⟩ => ⟨by
          rcases q2 with q2 | q2
          · exact q2.2
          · rw [hrb] at q2; exact absurd q2.1 (by decide), q1⟩
        have sbF : ∀ W, Below w.heap.size w W → Below w5.heap.size w5 W → Calls Tryd.prog 11 #[.agg (nfaC s (some ⟨ge, 0, none⟩) n ce (some ⟨gu, 0, none⟩) m cu)] W fun e w' => e = .returned (.tuple #[.pointer none, .int .i64 70]) ∧ Below W.heap.size W w' := fun W hb hb5 => (HB.out _ _ _ _ W (HSX.out _ hb5) (HSR.out _ hb5) (hT.then_ hT.size hb)).mono fun e w' ⟨q1, q2⟩ => ⟨by
          rcases q2 with q2 | q2
          · exact q2.2
          · rw [hrb] at q2; exact absurd q2.1 (by decide), q1⟩
        have HrF := Lib.hid rbF
        have HsF := Lib.hid sbF
        clear rbF sbF
        have hc8 := HrF.out w7 hB1
        go_upto_region 13 with (first
          | (refine wl_load_nfa rfl _ rfl _ rfl _ _ _ _ _ _ _ h1 ?_)
          | (go_at_call 10; refine hc8.mono ?_; rintro e w8 ⟨rfl, hB8⟩))
        replace h1 := blk_then h1 hB8
        replace h7 := blk_then h7 hB8
        replace hB1 := below_then hB1 hB8
        replace hBx := below_then hBx hB8
        have hz8 := hB8.size
        clear hc8 hB8
        have hc9 := HrF.out w8 hB1
        go_upto_region 14 with (first
          | (refine wl_load_nfa rfl _ rfl _ rfl _ _ _ _ _ _ _ h1 ?_)
          | (go_at_call 10; refine hc9.mono ?_; rintro e w9 ⟨rfl, hB9⟩))
        replace h1 := blk_then h1 hB9
        replace h7 := blk_then h7 hB9
        replace hB1 := below_then hB1 hB9
        replace hBx := below_then hBx hB9
        have hz9 := hB9.size
        clear hc9 hB9
        have hc10 := HsF.out w9 hB1 hBx
        go_upto_region 15 with (first
          | (refine wl_load_nfa rfl _ rfl _ rfl _ _ _ _ _ _ _ h7 ?_)
          | (go_at_call 11; refine hc10.mono ?_; rintro e w10 ⟨rfl, hB10⟩))
        replace h1 := blk_then h1 hB10
        replace h7 := blk_then h7 hB10
        replace hB1 := below_then hB1 hB10
        replace hBx := below_then hBx hB10
        have hz10 := hB10.size
        clear hc10 hB10
        have hc11 := HsF.out w10 hB1 hBx
        go_upto_region 16 with (first
          | (refine wl_load_nfa rfl _ rfl _ rfl _ _ _ _ _ _ _ h7 ?_)
          | (go_at_call 11; refine hc11.mono ?_; rintro e w11 ⟨rfl, hB11⟩))
        replace h1 := blk_then h1 hB11
        replace h7 := blk_then h7 hB11
        replace hB1 := below_then hB1 hB11
        replace hBx := below_then hBx hB11
        have hz11 := hB11.size
        clear hc11 hB11
        have hk := HK.out ge ce gu cu _ w11 (HEw.out _ hB1) (HRw.out _ hB1) (hxE.then_ hBx) (hxR.then_ hBx)
        go_wp2_with (first
          | (refine wl_load_nfa_g (want_yes rfl rfl rfl) _ rfl _ rfl _ _ _ _ _ _ _ h7 ?_)
          | (refine wl_load_nfa_g (want_yes rfl rfl rfl) _ rfl _ rfl _ _ _ _ _ _ _ h1 ?_)
          | (go_at_call 9; refine hk.mono ?_; rintro e w12 ⟨rfl, hB12⟩))
        go_ret
        exact ⟨rfl, below_then hB1 hB12⟩
      · obtain ⟨N, hN⟩ : ∃ N, N = R.length := ⟨_, rfl⟩
        have hNN : N ≤ 1099511627776 := by omega
        have HN := Lib.hid hN
        have rbT : ∀ W, Below w.heap.size w W → Calls Tryd.prog 10 #[.agg (nfaC s A n c0 B m d0)] W fun e w' => ∃ gr, e = .returned (.tuple #[.pointer (some ⟨gr, 0, none⟩), .int .i64 0]) ∧ W.heap.size ≤ gr ∧ RWalk w.heap.size w' gr N E R A n c0 B m d0 (begW E N R) ∧ Below W.heap.size W w' := fun W hb => (HRB.out W (hsE.keep (fun k hk => hb.block k hk)) (hsR.keep (fun k hk => hb.block k hk)) hb.size).mono fun e w' ⟨q1, q2⟩ => by
          rcases q2 with q2 | ⟨_, _, gr, q3, q4, q5⟩
          · rw [hrb] at q2; exact absurd q2.1 (by decide)
          · rw [← HN.out] at q5
            exact ⟨gr, q3, q4, q5, q1⟩
        have sbT : ∀ W, Below w.heap.size w W → Below w5.heap.size w5 W → Calls Tryd.prog 11 #[.agg (nfaC s (some ⟨ge, 0, none⟩) n ce (some ⟨gu, 0, none⟩) m cu)] W fun e w' => ∃ gw gm lo nb, e = .returned (.tuple #[.pointer (some ⟨gw, 0, none⟩), .int .i64 0]) ∧ W.heap.size ≤ lo ∧ W.heap.size ≤ gw ∧ WalkOk lo nb w' gw gm N E R (begW E N R) ∧ Below W.heap.size W w' := fun W hb hb5 => (HB.out _ _ _ _ W (HSX.out _ hb5) (HSR.out _ hb5) (hT.then_ hT.size hb)).mono fun e w' ⟨q1, q2⟩ => by
          rcases q2 with q2 | ⟨_, gw, gm, lo, nb, q3, q4, q5, q6⟩
          · rw [hrb] at q2; exact absurd q2.1 (by decide)
          · rw [← HN.out] at q6
            exact ⟨gw, gm, lo, nb, q3, q4, q5, q6, q1⟩
        have HrT := Lib.hid rbT
        have HsT := Lib.hid sbT
        clear rbT sbT hN
        have hc8 := HrT.out w7 hB1
        go_upto_region 13 with (first
          | (refine wl_load_nfa rfl _ rfl _ rfl _ _ _ _ _ _ _ h1 ?_)
          | (go_at_call 10; refine hc8.mono ?_; rintro e w8 ⟨gr1, rfl, hlgr1, hR1, hB8⟩))
        have hugr1 := hR1.lt
        replace h1 := blk_then h1 hB8
        replace h7 := blk_then h7 hB8
        replace hB1 := below_then hB1 hB8
        replace hBx := below_then hBx hB8
        have hz8 := hB8.size
        clear hc8 hB8
        have hc9 := HrT.out w8 hB1
        go_upto_region 14 with (first
          | (refine wl_load_nfa rfl _ rfl _ rfl _ _ _ _ _ _ _ h1 ?_)
          | (go_at_call 10; refine hc9.mono ?_; rintro e w9 ⟨gr2, rfl, hlgr2, hR2, hB9⟩))
        have hugr2 := hR2.lt
        replace h1 := blk_then h1 hB9
        replace h7 := blk_then h7 hB9
        replace hB1 := below_then hB1 hB9
        replace hBx := below_then hBx hB9
        have hz9 := hB9.size
        replace hR1 := hR1.then_ hB9
        clear hc9 hB9
        have hc10 := HsT.out w9 hB1 hBx
        go_upto_region 15 with (first
          | (refine wl_load_nfa rfl _ rfl _ rfl _ _ _ _ _ _ _ h7 ?_)
          | (go_at_call 11; refine hc10.mono ?_; rintro e w10 ⟨gw1, gm1, lo1, nb1, rfl, hlo1, hlgw1, hW1, hB10⟩))
        have hugw1 := hW1.lt
        have hnb1 : nb1 ≤ gw1 := hW1.2.1
        replace hR1 := hR1.then_ hB10
        replace hR2 := hR2.then_ hB10
        replace h1 := blk_then h1 hB10
        replace h7 := blk_then h7 hB10
        replace hB1 := below_then hB1 hB10
        replace hBx := below_then hBx hB10
        have hz10 := hB10.size
        clear hc10 hB10
        have hc11 := HsT.out w10 hB1 hBx
        go_upto_region 16 with (first
          | (refine wl_load_nfa rfl _ rfl _ rfl _ _ _ _ _ _ _ h7 ?_)
          | (go_at_call 11; refine hc11.mono ?_; rintro e w11 ⟨gw2, gm2, lo2, nb2, rfl, hlo2, hlgw2, hW2, hB11⟩))
        have hugw2 := hW2.lt
        have hnb2 : nb2 ≤ gw2 := hW2.2.1
        replace hR1 := hR1.then_ hB11
        replace hR2 := hR2.then_ hB11
        replace hW1 := hW1.then_ hB11
        replace h1 := blk_then h1 hB11
        replace h7 := blk_then h7 hB11
        replace hB1 := below_then hB1 hB11
        replace hBx := below_then hBx hB11
        have hz11 := hB11.size
        clear hc11 hB11
        have hk := HK.out ge ce gu cu _ w11 (HEw.out _ hB1) (HRw.out _ hB1) (hxE.then_ hBx) (hxR.then_ hBx)
        go_upto_region 20 with (first
          | (refine wl_load_nfa_g (want_yes rfl rfl rfl) _ rfl _ rfl _ _ _ _ _ _ _ h7 ?_)
          | (refine wl_load_nfa_g (want_yes rfl rfl rfl) _ rfl _ rfl _ _ _ _ _ _ _ h1 ?_)
          | (go_at_call 9; refine hk.mono ?_; rintro e w12 ⟨rfl, hB12⟩))
        replace h1 := blk_then h1 hB12
        replace h7 := blk_then h7 hB12
        replace hB1 := below_then hB1 hB12
        replace hBx := below_then hBx hB12
        have hz12 := hB12.size
        replace hR1 := hR1.then_ hB12
        replace hR2 := hR2.then_ hB12
        replace hW1 := hW1.then_ hB12
        replace hW2 := hW2.then_ hB12
        clear hk hB12
        have hx12 := hxE.then_ hBx
        have hy12 := hxR.then_ hBx
        have hlE : (E ++ [edge77]).length = n + 1 := by rw [List.length_append, ← Hn.out]; rfl
        have hlR : (R ++ [77]).length = m + 1 := by rw [List.length_append, ← Hm.out]; rfl
        have hsp := spoil_any s n m ge ce gu cu _ _ _ hlE hlR hn2 hm2 w12 hx12 hy12 hgg
        clear hlE hlR
        go_upto_region 21 with (first
          | (refine wl_load_nfa rfl _ rfl _ rfl _ _ _ _ _ _ _ h7 ?_)
          | (go_at_call 12; refine hsp.mono ?_; rintro e w13 ⟨rfl, hG⟩))
        have hz13 := hG.size
        replace hR1 := hR1.two hG hx12 hy12 (by omega) (by omega)
        replace hR2 := hR2.two hG hx12 hy12 (by omega) (by omega)
        replace hW1 := hW1.two hG hx12 hy12 (by omega) (by omega)
        replace hW2 := hW2.two hG hx12 hy12 (by omega) (by omega)
        replace hB1 := below_g2 hB1 hG (by omega) (by omega)
        have hT13 := hT.then_ hT.size hB1
        clear hsp h1 h7 hBx hxE hxR hx12 hy12 hG
        go_upto_region 22 with (first
          | (refine wl_buildK rfl rfl ?_)
          | (refine wl_boxK rfl _ rfl rfl ?_))
        have hbk := Blk.new w13 43 #[.slice none 0 0, .slice none 0 0]
        have hB14 : Below w13.heap.size w13 (w13.alloc (.cells #[.slice none 0 0, .slice none 0 0] 43)) := below_alloc (Below.refl _ _) _
        obtain ⟨w14, hw14⟩ : ∃ y, y = w13.alloc (.cells #[.slice none 0 0, .slice none 0 0] 43) := ⟨_, rfl⟩
        rw [← hw14] at hbk hB14 ⊢
        clear hw14
        obtain ⟨gk, hgk⟩ : ∃ q, q = w13.heap.size := ⟨_, rfl⟩
        rw [← hgk] at hbk ⊢
        have hSt : St w lo1 nb1 gw1 gm1 lo2 nb2 gw2 gm2 gr1 gr2 gk N n c0 m d0 E R A B w14 (begW E N R) (begW E N R) (begW E N R) (begW E N R) [] :=
          ⟨⟨hT0, by omega, by omega, by omega, by omega, by omega, by omega, by omega, by omega, by omega, by omega, by omega, by omega, by omega, by omega, by omega⟩, hW1.then_ hB14, hR1.then_ hB14, hW2.then_ hB14, hR2.then_ hB14, book_new hbk, hT13.then_ hT13.size hB14, below_then hB1 hB14⟩
        clear hW1 hR1 hW2 hR2 hbk hT13 hB1 hB14 hgk
        go_upto_region 24 with (go_at_call 13; refine park ?_)
        refine Parked.mk ?_
        refine (hSt.at1 hNN (by simp)).mono ?_
        rintro e w15 ⟨rfl, r1, r2, hSt1⟩
        obtain ⟨rows, hrl, hSt1⟩ : ∃ rows : List Rowx, rows.length = 2 ∧ St w lo1 nb1 gw1 gm1 lo2 nb2 gw2 gm2 gr1 gr2 gk N n c0 m d0 E R A B w15 (begW E N R) (begW E N R) (begW E N R) (begW E N R) rows := ⟨_, by simp, hSt1⟩
        clear hSt
        have Hrl := Lib.hid hrl
        clear hrl
        go_upto_region 24 with (go_at_call 13; refine park ?_)
        refine Parked.mk ?_
        refine (hSt1.at2 hNN (by rw [Hrl.out]; decide)).mono ?_
        rintro e w16 ⟨rfl, r3, r4, hSt2⟩
        obtain ⟨rows4, hrl4, hSt4⟩ : ∃ rows : List Rowx, rows.length = 4 ∧ St w lo1 nb1 gw1 gm1 lo2 nb2 gw2 gm2 gr1 gr2 gk N n c0 m d0 E R A B w16 (begW E N R) (begW E N R) (begW E N R) (begW E N R) rows := ⟨_, by rw [List.length_append, Hrl.out]; rfl, hSt2⟩
        obtain ⟨kb, hkb⟩ : ∃ k, k = begW E N R := ⟨_, rfl⟩
        rw [← hkb] at hSt4
        have Hrl4 := Lib.hid hrl4
        clear hSt1 hSt2 Hrl hrl4 hkb
        go_wp2_with (fail)
        go_loopw [19] (fun iv wr => ∃ (i : Nat) (k1 k2 : Wk) (rows : List Rowx), iv = .int .i64 i ∧ i ≤ 60 ∧ rows.length ≤ 4 + 4 * i ∧ St w lo1 nb1 gw1 gm1 lo2 nb2 gw2 gm2 gr1 gr2 gk N n c0 m d0 E R A B wr k1 k1 k2 k2 rows) (fun iv _ => 61 - (intOf iv).toNat)
        case atStart => exact ⟨0, kb, kb, rows4, rfl, by omega, by rw [Hrl4.out]; decide, hSt4⟩
        case round =>
          clear hSt4
          obtain ⟨i, k1, k2, rows, rfl, hi, hrows, hSt⟩ := hrel
          by_cases hil : i < l1.size
          · have hilI : (i : Int) < l1.size := by omega
            by_cases hio : i < l2.size
            · have hioI : (i : Int) < l2.size := by omega
              go_upto_region 29 with (go_at_call 14; refine (hSt.cw (l1[i]).toNat (UInt8.toNat_lt _)).mono ?_; rintro e wa ⟨rfl, hSa⟩)
              clear hSt
              go_upto_region 30 with (go_at_call 15; refine (hSa.cr (l1[i]).toNat (UInt8.toNat_lt _)).mono ?_; rintro e wb ⟨rfl, hSb⟩)
              clear hSa
              go_upto_region 32 with (go_at_call 14; refine (hSb.cv (l2[i]).toNat (UInt8.toNat_lt _)).mono ?_; rintro e wc2 ⟨rfl, hSc⟩)
              clear hSb
              go_upto_region 33 with (go_at_call 15; refine (hSc.cs (l2[i]).toNat (UInt8.toNat_lt _)).mono ?_; rintro e wd ⟨rfl, hSd⟩)
              clear hSc
              go_upto_region 26 with (go_at_call 13; refine park ?_)
              refine Parked.mk ?_
              refine (hSd.at1 hNN (by omega)).mono ?_
              rintro e wx ⟨rfl, r1, r2, hSx⟩
              clear hSd
              obtain ⟨rowx, hrx, hSx⟩ : ∃ q : List Rowx, q.length ≤ rows.length + 2 ∧ St w lo1 nb1 gw1 gm1 lo2 nb2 gw2 gm2 gr1 gr2 gk N n c0 m d0 E R A B wx _ _ _ _ q := ⟨_, by rw [List.length_append]; exact Nat.le_refl _, hSx⟩
              go_upto_region 26 with (go_at_call 13; refine park ?_)
              refine Parked.mk ?_
              refine (hSx.at2 hNN (by omega)).mono ?_
              rintro e wy ⟨rfl, r3, r4, hSy⟩
              clear hSx
              obtain ⟨rowy, hry, hSy⟩ : ∃ q : List Rowx, q.length ≤ rowx.length + 2 ∧ St w lo1 nb1 gw1 gm1 lo2 nb2 gw2 gm2 gr1 gr2 gk N n c0 m d0 E R A B wy _ _ _ _ q := ⟨_, by rw [List.length_append]; exact Nat.le_refl _, hSy⟩
              go_wp2_with (fail)
              exact ⟨⟨i + 1, _, _, rowy, rfl, by omega, by omega, hSy⟩, by simp only [intOf]; omega⟩
            · have hioI : ¬ (i : Int) < l2.size := by omega
              go_upto_region 29 with (go_at_call 14; refine (hSt.cw (l1[i]).toNat (UInt8.toNat_lt _)).mono ?_; rintro e wa ⟨rfl, hSa⟩)
              clear hSt
              go_upto_region 30 with (go_at_call 15; refine (hSa.cr (l1[i]).toNat (UInt8.toNat_lt _)).mono ?_; rintro e wb ⟨rfl, hSb⟩)
              clear hSa
              go_upto_region 26 with (go_at_call 13; refine park ?_)
              refine Parked.mk ?_
              refine (hSb.at1 hNN (by omega)).mono ?_
              rintro e wx ⟨rfl, r1, r2, hSx⟩
              clear hSb
              obtain ⟨rowx, hrx, hSx⟩ : ∃ q : List Rowx, q.length ≤ rows.length + 2 ∧ St w lo1 nb1 gw1 gm1 lo2 nb2 gw2 gm2 gr1 gr2 gk N n c0 m d0 E R A B wx _ _ _ _ q := ⟨_, by rw [List.length_append]; exact Nat.le_refl _, hSx⟩
              go_upto_region 26 with (go_at_call 13; refine park ?_)
              refine Parked.mk ?_
              refine (hSx.at2 hNN (by omega)).mono ?_
              rintro e wy ⟨rfl, r3, r4, hSy⟩
              clear hSx
              obtain ⟨rowy, hry, hSy⟩ : ∃ q : List Rowx, q.length ≤ rowx.length + 2 ∧ St w lo1 nb1 gw1 gm1 lo2 nb2 gw2 gm2 gr1 gr2 gk N n c0 m d0 E R A B wy _ _ _ _ q := ⟨_, by rw [List.length_append]; exact Nat.le_refl _, hSy⟩
              go_wp2_with (fail)
              exact ⟨⟨i + 1, _, _, rowy, rfl, by omega, by omega, hSy⟩, by simp only [intOf]; omega⟩
          · have hilI : ¬ (i : Int) < l1.size := by omega
            by_cases hio : i < l2.size
            · have hioI : (i : Int) < l2.size := by omega
              go_upto_region 32 with (go_at_call 14; refine (hSt.cv (l2[i]).toNat (UInt8.toNat_lt _)).mono ?_; rintro e wc2 ⟨rfl, hSc⟩)
              clear hSt
              go_upto_region 33 with (go_at_call 15; refine (hSc.cs (l2[i]).toNat (UInt8.toNat_lt _)).mono ?_; rintro e wd ⟨rfl, hSd⟩)
              clear hSc
              go_upto_region 26 with (go_at_call 13; refine park ?_)
              refine Parked.mk ?_
              refine (hSd.at1 hNN (by omega)).mono ?_
              rintro e wx ⟨rfl, r1, r2, hSx⟩
              clear hSd
              obtain ⟨rowx, hrx, hSx⟩ : ∃ q : List Rowx, q.length ≤ rows.length + 2 ∧ St w lo1 nb1 gw1 gm1 lo2 nb2 gw2 gm2 gr1 gr2 gk N n c0 m d0 E R A B wx _ _ _ _ q := ⟨_, by rw [List.length_append]; exact Nat.le_refl _, hSx⟩
              go_upto_region 26 with (go_at_call 13; refine park ?_)
              refine Parked.mk ?_
              refine (hSx.at2 hNN (by omega)).mono ?_
              rintro e wy ⟨rfl, r3, r4, hSy⟩
              clear hSx
              obtain ⟨rowy, hry, hSy⟩ : ∃ q : List Rowx, q.length ≤ rowx.length + 2 ∧ St w lo1 nb1 gw1 gm1 lo2 nb2 gw2 gm2 gr1 gr2 gk N n c0 m d0 E R A B wy _ _ _ _ q := ⟨_, by rw [List.length_append]; exact Nat.le_refl _, hSy⟩
              go_wp2_with (fail)
              exact ⟨⟨i + 1, _, _, rowy, rfl, by omega, by omega, hSy⟩, by simp only [intOf]; omega⟩
            · have hioI : ¬ (i : Int) < l2.size := by omega
              go_wp2_with (go_at_call 16; refine (hSt.whole (by omega)).mono ?_; rintro e wz ⟨rfl, hBz⟩)
              go_ret
              exact ⟨rfl, hBz⟩
end Go.Proofs.YtgahdookojbbiaaDoor
