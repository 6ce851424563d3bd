/- heronlaw08.SimStates. No condition beyond those named in each lemma. -/
import Derived.Test.YtgahdookojbbiaaDoorSimT
namespace Go.Proofs.YtgahdookojbbiaaDoor
open Go.RowKit Go.Shelf Go.Maps
set_option linter.unusedVariables false
set_option linter.unusedSimpArgs false
attribute [local go_sem] Oper.semAt_some

theorem enter_mirror (args : Array Value) (w : World) : (callFunc 18 args).run Tryd.prog w = .ok (.enter 18 args) w := by kernel_rfl
theorem wl_store_nfa {ops : Array Oper} {rest : List Oper} {o : Oper} {a : Act} {w : World} {Q : Exit → Act → World → Prop} (hgd : o.guard = none) (x y : Operand) (ho : o.op = .store 25 x y)
    (g : Nat) (s : Int) (A : Option Addr) (n c : Nat) (B : Option Addr) (m d : Nat) (hx : a.eval x = .pointer (some ⟨g, 0, none⟩)) (hy : a.eval y = .agg (nfaC s A n c B m d))
    (s0 : Int) (A0 : Option Addr) (n0 c0 : Nat) (B0 : Option Addr) (m0 d0 : Nat) (hb : Blk w g 25 (nfaC s0 A0 n0 c0 B0 m0 d0))
    (h : ∀ w', Blk w' g 25 (nfaC s A n c B m d) → w.grownBy w' (some g) → wpList Tryd.prog ops Q rest (a.put o.dst undef) w') : wpList Tryd.prog ops Q (o :: rest) a w :=
  wpList_store_row hgd _ x y ho g _ hx hy _ _ hb (info_nfa1.trans rfl) rfl (by simp [nfaC, Value.oneCell']) (h _ (hb.setRow_same _) (only_setRow (only_refl _ _) _))
theorem info_edges1 : (Tryd.prog.info? 22).map (·.size) = some 1 := by kernel_rfl
theorem wl_one {ops : Array Oper} {rest : List Oper} {o : Oper} {a : Act} {w : World} {Q : Exit → Act → World → Prop} (hgd : o.guard = none) (x : Operand) (ho : o.op = .buildSlice 22 1 #[(0, x)]) (d : Edg) (hx : a.eval x = .agg (edgC d))
    (h : wpList Tryd.prog ops Q rest (a.put o.dst (.slice (some ⟨w.heap.size, 0, none⟩) 1 1)) (w.alloc (.cells (edgC d) 53))) : wpList Tryd.prog ops Q (o :: rest) a w := by
  refine wpList_plain hgd fun _ hK => ?_
  unfold Oper.wp execOp
  simp only [ho, List.map_toArray, List.map_cons, List.map_nil, hx, Sem.run_bind, run_edge1, Result.andThen_ok, Sem.run_pure]
  exact hK _ _ h
theorem WalkOk.other2 {lo nb gw gm N lo' nb' gw' gm' N' : Nat} {W W' : World} {E E' : List Edg} {R R' : List Nat} {k k' : Wk} (h : WalkOk lo nb W gw gm N E R k) (h' : WalkOk lo' nb' W gw' gm' N' E' R' k') (hg : W.grownBy W' (some gw')) (hr : gw' < lo ∨ nb ≤ gw') (hne : gw' ≠ gw) : WalkOk lo nb W' gw gm N E R k := by
  obtain ⟨_, _, _, _, g, c, _, h6, _⟩ := h'
  exact h.other hg hr hne h6
set_option maxRecDepth 100000 in
set_option maxHeartbeats 8000000 in
theorem simStates_any (s : Int) (A : Option Addr) (n c0 : Nat) (B : Option Addr) (m d0 : Nat) (E : List Edg) (R : List Nat) (ln : ByteArray) (hn : n = E.length) (hm : m = R.length) (hE : E.length ≤ 274877906944) (hRl : R.length ≤ 1099511627776) (hR : ∀ r ∈ R, r < 4294967296) (w : World)
    (hsE : SliceOf w w.heap.size 7 edgC A E) (hsR : SliceOf w w.heap.size 1 encR B R) (hT : TabOk w) (hln : ln.size ≤ 1099511627776) :
    Calls Tryd.prog 4 #[.agg (nfaC s A n c0 B m d0), .string ln] w fun e w' => e = .returned (.bool true) ∧ Below w.heap.size w w' := by
  have hright := fun W1 => right_any s A n c0 B m d0 E hn (by omega) W1
  have hbegin := fun (N : Nat) (hf : Fits N E R) w1 h1 h2 h3 => begin_fit (N := N) A n c0 B m d0 hf hn (hm.trans hf.rules) (by omega) (by have := hf.rules; omega) hR w1 h1 h2 h3
  have hn2 : n ≤ 274877906944 := by omega
  have Hn := Lib.hid hn
  have Hm := Lib.hid hm
  clear hn hm
  go_enter Tryd.func4, Tryd.ntmps4
  have h1 := Blk.new w 25 (nfaC s A n c0 B m d0)
  have hB1 : Below w.heap.size w (w.alloc (.cells (nfaC s A n c0 B m d0) 25)) := below_alloc (Below.refl _ _) _
  go_upto_region 1 with (fail)
  obtain ⟨W1, hW1⟩ : ∃ y, y = w.alloc (.cells (nfaC s A n c0 B m d0) 25) := ⟨_, rfl⟩
  rw [← hW1] at h1 hB1 ⊢
  clear hW1
  have hT1 := hT.then_ hT.size hB1
  go_upto_region 3 with (go_at_call 5; refine (fixed_any W1 hT1).mono ?_; rintro e w2 ⟨rfl, hB2⟩)
  replace h1 := blk_then h1 hB2
  replace hB1 := below_then hB1 hB2
  replace hright := hright w2 ((hsE.below hB1).more hB1.size)
  clear hB2 hT1
  have c1 : ∀ {x : World}, Below w2.heap.size w2 x → x.cell? ⟨w.heap.size, 0, none⟩ = some (.int .i64 s) := fun hb => (blk_then h1 hb).cellv (i := 0) rfl
  cases hrb : rightB s E m
  · rw [hrb] at hright
    go_wp2_with (first | (refine wl_load_nfa rfl _ rfl _ rfl _ _ _ _ _ _ _ h1 ?_) | (go_at_call 17; refine hright.mono ?_; rintro e w3 ⟨rfl, hB3⟩))
    go_ret
    exact ⟨rfl, below_then hB1 hB3⟩
  rw [hrb] at hright
  obtain ⟨N, hsN, hf⟩ := right_fits (Hm.out ▸ hrb)
  have hNR : Hid (N = R.length) := Lib.hid hf.rules.symm
  subst hsN
  have hm0 : 0 < m := by rw [Hm.out, ← hNR.out]; exact hf.one
  by_cases h400 : 400 < N
  · have h400I : (400 : Int) < N := by omega
    go_wp2_with (first | (refine wl_load_nfa rfl _ rfl _ rfl _ _ _ _ _ _ _ h1 ?_) | (go_at_call 17; refine hright.mono ?_; rintro e w3 ⟨rfl, hB3⟩; have c1 := c1 hB3))
    go_ret
    exact ⟨rfl, below_then hB1 hB3⟩
  have h400I : ¬ (400 : Int) < N := by omega
  go_upto_region 5 with (first | (refine wl_load_nfa rfl _ rfl _ rfl _ _ _ _ _ _ _ h1 ?_) | (go_at_call 17; refine hright.mono ?_; rintro e w3 ⟨rfl, hB3⟩; have c1 := c1 hB3))
  replace h1 := blk_then h1 hB3
  replace hB1 := below_then hB1 hB3
  clear c1 hright hB3
  go_upto_if 31 with (fail)
  go_cut [1] from 32 to 33 (fun v wx => (∃ ln2 : ByteArray, v = .string ln2 ∧ ln2.size ≤ 40) ∧ wx = w3)
  case first =>
    by_cases h40 : 40 < ln.size
    · have h40I : (40 : Int) < ln.size := by omega
      go_wp2_with (fail)
      go_meet
      exact ⟨⟨ln.extract 0 40, rfl, by rw [ByteArray.size_extract]; omega⟩, rfl⟩
    · have h40I : ¬ (40 : Int) < ln.size := by omega
      go_wp2_with (fail)
      go_meet
      exact ⟨⟨ln, rfl, by omega⟩, rfl⟩
  case rest =>
    obtain ⟨⟨ln2, rfl, hln2⟩, rfl⟩ := hcut
    go_upto_region 7 with (fail)
    have hmN : m = N := by rw [Hm.out, hNR.out]
    have HmN := Lib.hid hmN
    clear hmN
    refine wp_region_steps 7 [eqS (.pointer (some ⟨w.heap.size, 0, none⟩)), eqS (.int .i64 (N : Int)), eqS (.pointer (some ⟨w.heap.size, 0, none⟩)), eqS (.int .i64 (N : Int)), zerosS wc.heap.size N, fstS wc.heap.size N, blkS wc.heap.size 25 (nfaC 0 none 0 0 none 0 0)] [34, 35, 36, 37, 38, 39, 5] rfl (by kernel_rfl) rfl ?_ ?_
    · skip
      refine Steps.cons (fun a' w' hG hB dep => gs_field (want_none rfl) _ _ _ rfl w.heap.size 0 0 (hG.other 2 rfl) (field_nfa_0 _ 0) rfl) ?_
      refine Steps.cons (fun a' w' hG hB dep => gs_load1 (want_none rfl) _ _ rfl w.heap.size 0 (dep 0 rfl 34 rfl) (.int .i64 (N : Int)) ((blk_then h1 hB).cellv (i := 0) rfl) _ Tryd.underlying3 rfl rfl) ?_
      refine Steps.cons (fun a' w' hG hB dep => gs_field (want_none rfl) _ _ _ rfl w.heap.size 0 0 (hG.other 2 rfl) (field_nfa_0 _ 0) rfl) ?_
      refine Steps.cons (fun a' w' hG hB dep => gs_load1 (want_none rfl) _ _ rfl w.heap.size 0 (dep 2 rfl 36 rfl) (.int .i64 (N : Int)) ((blk_then h1 hB).cellv (i := 0) rfl) _ Tryd.underlying3 rfl rfl) ?_
      refine Steps.cons (fun a' w' hG hB dep => gs_makeR (want_none rfl) _ _ rfl (lo := wc.heap.size) hB.size N (dep 3 rfl 37 rfl) (dep 3 rfl 37 rfl) (by omega) (fun _ _ h => h)) ?_
      refine Steps.cons (fun a' w' hG hB dep => gs_buildN (want_none rfl) _ _ rfl (lo := wc.heap.size) (dep 1 rfl 35 rfl) (dep 4 rfl 38 rfl) (fun _ _ h => h)) ?_
      refine Steps.cons (fun a' w' hG hB dep => gs_allocN (want_none rfl) rfl (lo := wc.heap.size) hB.size (fun _ _ h => h)) ?_
      exact Steps.nil
    intro uf w4 hB4 ans
    obtain ⟨AR, cR, u39, hown⟩ := ans 5 39 (by decide) rfl
    obtain ⟨b5, u5, hb5, h5⟩ := ans 6 5 (by decide) rfl
    clear ans
    simp only [putAll, List.foldl_cons, List.foldl_nil, Act.put, List.setIfInBounds_toArray, List.set_cons_zero, List.set_cons_succ, u39, u5]
    clear u39 u5
    simp only [List.drop]
    obtain ⟨gR, cR', hvR, hgR, hgR2, _⟩ := hown.form (by rw [List.length_replicate]; exact hf.one)
    rw [List.length_replicate] at hvR
    injection hvR with hAR _ hcR
    subst hAR; subst hcR
    refine wl_store_nfa rfl _ _ rfl b5 _ _ _ _ _ _ _ rfl rfl _ _ _ _ _ _ _ h5 ?_
    intro w5 h55 hg5
    refine wpList_nil ?_
    have hbb : w.heap.size < wc.heap.size := h1.lt
    have ho5 := own_box hown h5 hg5 (by decide)
    replace h1 := blk_grown (blk_then h1 hB4) hg5 (by have := h1.lt; omega)
    replace hB1 : Below w.heap.size w w5 := below_grown (below_then hB1 hB4) hg5 (by omega)
    rw [← rtL_zero N R] at ho5
    obtain ⟨lo, hlo⟩ : ∃ y, y = wc.heap.size := ⟨_, rfl⟩
    rw [← hlo] at hb5 hgR ho5 hbb
    clear hown h5 hg5 hB4 hlo
    simp only [Act.put]
    go_wp2_with (fail)
    go_loopw [6] (fun i wr => ∃ k : Nat, k ≤ N ∧ i = .int .i64 k ∧ Blk wr w.heap.size 25 (nfaC N A n c0 B m d0) ∧ Blk wr b5 25 (nfaC N none 0 0 (some ⟨gR, 0, none⟩) N cR) ∧ Own wr lo 28 1 encR (.slice (some ⟨gR, 0, none⟩) N cR) (rtL N R k) ∧ Below w.heap.size w wr) (fun i _ => N - (intOf i).toNat)
    case atStart => exact ⟨0, by omega, rfl, h1, h55, ho5, hB1⟩
    case round =>
      clear h1 h55 ho5 hB1
      obtain ⟨k, hk, rfl, h1, h5, hoR, hB1⟩ := hrel
      have c1 : wr.cell? ⟨w.heap.size, 0, none⟩ = some (.int .i64 (N : Int)) := h1.cellv (i := 0) rfl
      by_cases hkN : k < N
      · have hkI : (k : Int) < N := by omega
        have hkR : k < R.length := by rw [← hNR.out]; exact hkN
        have hmN2 : N = m := HmN.out.symm
        obtain ⟨bB, offB, rfl, hbB, hrows⟩ := hsR.at_ (by omega)
        have hrk : RowAt w bB (offB + k * 1) (encR (R.getD k 0)) := by
          have := hrows k hkR
          rw [List.getD_eq_getElem?_getD, List.getElem?_eq_getElem hkR, Option.getD_some]
          exact this
        have hkm : k < m := by omega
        clear hmN2
        go_upto_region 11 with (fail)
        refine wp_region_steps 12 [eqS (.pointer (some ⟨b5, 2, none⟩)), eqS (.slice (some ⟨gR, 0, none⟩) N cR), eqS (.int .i64 (k : Int)), eqS (.pointer (some ⟨w.heap.size, 0, none⟩)), eqS (.int .i64 (N : Int)), eqS (.int .i64 (mirror k N : Nat)), eqS (.pointer (some ⟨w.heap.size, 2, none⟩)), eqS (.slice (some ⟨bB, offB, none⟩) m d0), eqS (.int .i64 (k : Int)), eqS (.pointer (some ⟨bB, offB + k * 1, none⟩)), eqS (.int .u32 (R.getD k 0 : Nat)), eqS (.pointer (some ⟨gR, 0 + mirror k N * 1, none⟩))] [46, 47, 48, 49, 50, 51, 52, 53, 54, 55, 56, 57] rfl (by kernel_rfl) rfl ?_ ?_
        · skip
          refine Steps.cons (fun a' w' hG hB dep => gs_field (want_none rfl) _ _ _ rfl b5 0 2 (hG.other 5 rfl) (field_nfa_2 _ 0) rfl) ?_
          refine Steps.cons (fun a' w' hG hB dep => gs_load1 (want_none rfl) _ _ rfl b5 2 (dep 0 rfl 46 rfl) (.slice (some ⟨gR, 0, none⟩) N cR) ((blk_then h5 hB).cellv (i := 2) rfl) _ Tryd.underlying23 rfl rfl) ?_
          refine Steps.cons (fun a' w' hG hB dep => gs_move (want_none rfl) _ rfl (hG.other 6 rfl)) ?_
          refine Steps.cons (fun a' w' hG hB dep => gs_field (want_none rfl) _ _ _ rfl w.heap.size 0 0 (hG.other 2 rfl) (field_nfa_0 _ 0) rfl) ?_
          refine Steps.cons (fun a' w' hG hB dep => gs_load1 (want_none rfl) _ _ rfl w.heap.size 0 (dep 3 rfl 49 rfl) (.int .i64 (N : Int)) ((blk_then h1 hB).cellv (i := 0) rfl) _ Tryd.underlying3 rfl rfl) ?_
          refine Steps.cons (fun a' w' hG hB dep => gs_call (want_none rfl) _ _ _ rfl enter_mirror _ (map2 (dep 2 rfl 48 rfl) (dep 4 rfl 50 rfl)) ((mirror_any k N hkN (by omega) w').mono fun e w2 ⟨he, hb⟩ => ⟨_, he, by rw [hb]; exact Below.refl _ _, rfl⟩)) ?_
          refine Steps.cons (fun a' w' hG hB dep => gs_field (want_none rfl) _ _ _ rfl w.heap.size 0 2 (hG.other 2 rfl) (field_nfa_2 _ 0) rfl) ?_
          refine Steps.cons (fun a' w' hG hB dep => gs_load1 (want_none rfl) _ _ rfl w.heap.size 2 (dep 6 rfl 52 rfl) (.slice (some ⟨bB, offB, none⟩) m d0) ((blk_then h1 hB).cellv (i := 2) rfl) _ Tryd.underlying23 rfl rfl) ?_
          refine Steps.cons (fun a' w' hG hB dep => gs_move (want_none rfl) _ rfl (hG.other 6 rfl)) ?_
          refine Steps.cons (fun a' w' hG hB dep => gs_index (want_none rfl) _ _ _ rfl under_rules 1 size_ruleE bB offB m d0 k (dep 7 rfl 53 rfl) (dep 8 rfl 54 rfl) (by omega) rfl) ?_
          refine Steps.cons (fun a' w' hG hB dep => gs_load1 (want_none rfl) _ _ rfl bB (offB + k * 1) (dep 9 rfl 55 rfl) (.int .u32 (R.getD k 0 : Nat)) (hrk.keep ((hB1.trans (hB.mono hB1.size)).block bB hbB) 0 _ rfl) _ Tryd.underlying28 rfl rfl) ?_
          refine Steps.cons (fun a' w' hG hB dep => gs_index (want_none rfl) _ _ _ rfl under_rules 1 size_ruleE gR 0 N cR (mirror k N) (dep 1 rfl 47 rfl) (dep 5 rfl 51 rfl) (mirror_lt hkN) rfl) ?_
          exact Steps.nil
        intro ug w6 hB6 ans
        have u56 : ug 56 = .int .u32 (R.getD k 0 : Nat) := ans 10 56 (by decide) rfl
        have u57 : ug 57 = .pointer (some ⟨gR, 0 + mirror k N * 1, none⟩) := ans 11 57 (by decide) rfl
        clear ans
        rw [Nat.zero_add, Nat.mul_one] at u57
        simp only [putAll, List.foldl_cons, List.foldl_nil, Act.put, List.setIfInBounds_toArray, List.set_cons_zero, List.set_cons_succ, u56, u57]
        clear u56 u57
        simp only [List.drop]
        refine wl_store_rule rfl _ _ rfl gR (mirror k N) N cR rfl (R.getD k 0) rfl (hoR.then_ hB6) (by rw [rtL_length]; exact mirror_lt hkN) ?_
        intro w7 hoR7 hg7
        refine wpList_nil ?_
        rw [rtL_set R hkN] at hoR7
        have hgl := hoR.lt gR rfl
        have hl1 := h1.lt
        replace h1 := blk_grown (blk_then h1 hB6) hg7 (by omega)
        have hne5 : b5 ≠ gR := fun e => own_blk_ne hoR h5 (by decide) (by rw [e]; rfl)
        replace h5 := blk_grown (blk_then h5 hB6) hg7 hne5
        replace hB1 := below_grown (below_then hB1 hB6) hg7 (by omega)
        clear hoR hB6 hg7 c1
        simp only [Act.put]
        go_wp2_with (fail)
        exact ⟨⟨k + 1, by omega, rfl, h1, h5, hoR7, hB1⟩, by simp only [intOf]; omega⟩
      · have hkI : ¬ (k : Int) < N := by omega
        obtain rfl : k = N := by omega
        rw [rtL_all] at hoR
        have e0 : Own wr lo 53 7 edgC (.slice none 0 0) (turnL k E 0) := Own.nil_ _ _ _ _ _
        go_wp2_with (fail)
        clear c1
        go_loopw [7] (fun i wr => ∃ j : Nat, j ≤ 2 * n ∧ i = .int .i64 j ∧ Blk wr w.heap.size 25 (nfaC k A n c0 B m d0) ∧ (∃ Ae ne ce, Blk wr b5 25 (nfaC k Ae ne ce (some ⟨gR, 0, none⟩) k cR) ∧ Own wr lo 53 7 edgC (.slice Ae ne ce) (turnL k E j) ∧ ne = (turnL k E j).length) ∧ Own wr lo 28 1 encR (.slice (some ⟨gR, 0, none⟩) k cR) (turnedR k R) ∧ Below w.heap.size w wr) (fun i _ => 2 * n - (intOf i).toNat)
        case atStart => exact ⟨0, by omega, rfl, h1, ⟨none, 0, 0, h5, e0, rfl⟩, hoR, hB1⟩
        case round =>
          clear h1 h5 hoR hB1 e0
          obtain ⟨j, hj, rfl, h1, ⟨Ae, ne, ce, h5, hoE, hne⟩, hoR, hB1⟩ := hrel
          have Hne := Lib.hid hne
          clear hne
          have c1 : wr.cell? ⟨w.heap.size, 1, none⟩ = some (.slice A n c0) := h1.cellv (i := 1) rfl
          by_cases hjn : j < 2 * n
          · have hjI : (j : Int) < 2 * n := by omega
            have hn0 : 0 < n := by omega
            have hnE := Hn.out
            have hmod : j % n < E.length := by rw [← hnE]; exact Nat.mod_lt _ hn0
            obtain ⟨bA, offA, rfl, hbA, hrows⟩ := hsE.at_ (by omega)
            obtain ⟨dd, hd⟩ : ∃ d, d = E[j % n] := ⟨_, rfl⟩
            have hrk : RowAt w bA (offA + (j % n) * 7) (edgC dd) := by
              have := hrows (j % n) hmod
              rw [← hd] at this
              exact this
            have hsucc : turnL k E (j + 1) = turnL k E j ++ [turnE k dd] := by
              have e1 : j < (E ++ E).length := by rw [List.length_append]; omega
              have e2 : j % E.length < E.length := by rw [← hnE]; exact Nat.mod_lt _ hn0
              have e3 : E[j % E.length] = dd := by
                rw [hd]
                congr 1
                rw [hnE]
              rw [turnL_succ k E j e1 e2, e3]
            have Hsucc := Lib.hid hsucc
            have hdE : dd ∈ E := by rw [hd]; exact List.getElem_mem hmod
            have hlenT : (turnL k E j).length = j := turnL_length k E j (by omega)
            have HlenT := Lib.hid hlenT
            clear hd hsucc hlenT hnE
            go_upto_region 15 with (fail)
            refine wp_region_steps 10 [eqS (.pointer (some ⟨w.heap.size, 1, none⟩)), eqS (.slice (some ⟨bA, offA, none⟩) n c0), eqS (.int .i64 (j : Int)), eqS (.pointer (some ⟨w.heap.size, 1, none⟩)), eqS (.slice (some ⟨bA, offA, none⟩) n c0), eqS (.int .i64 n), eqS (.int .i64 (j % n : Nat)), eqS (.pointer (some ⟨bA, offA + (j % n) * 7, none⟩)), eqS (.agg (edgC dd)), blkS wr.heap.size 53 (edgC edge0)] [66, 67, 68, 69, 70, 71, 72, 73, 74, 8] rfl (by kernel_rfl) rfl ?_ ?_
            · skip
              refine Steps.cons (fun a' w' hG hB dep => gs_field (want_none rfl) _ _ _ rfl w.heap.size 0 1 (hG.other 2 rfl) (field_nfa_1 _ 0) rfl) ?_
              refine Steps.cons (fun a' w' hG hB dep => gs_load1 (want_none rfl) _ _ rfl w.heap.size 1 (dep 0 rfl 66 rfl) (.slice (some ⟨bA, offA, none⟩) n c0) ((blk_then h1 hB).cellv (i := 1) rfl) _ Tryd.underlying22 rfl rfl) ?_
              refine Steps.cons (fun a' w' hG hB dep => gs_move (want_none rfl) _ rfl (hG.other 7 rfl)) ?_
              refine Steps.cons (fun a' w' hG hB dep => gs_field (want_none rfl) _ _ _ rfl w.heap.size 0 1 (hG.other 2 rfl) (field_nfa_1 _ 0) rfl) ?_
              refine Steps.cons (fun a' w' hG hB dep => gs_load1 (want_none rfl) _ _ rfl w.heap.size 1 (dep 3 rfl 69 rfl) (.slice (some ⟨bA, offA, none⟩) n c0) ((blk_then h1 hB).cellv (i := 1) rfl) _ Tryd.underlying22 rfl rfl) ?_
              refine Steps.cons (fun a' w' hG hB dep => gs_len (want_none rfl) _ _ rfl under_edges _ n c0 (dep 4 rfl 70 rfl) rfl) ?_
              refine Steps.cons (fun a' w' hG hB dep => gs_rem_nat (want_none rfl) _ _ _ _ rfl j n (dep 2 rfl 68 rfl) (dep 5 rfl 71 rfl) hn0 (by omega) rfl) ?_
              refine Steps.cons (fun a' w' hG hB dep => gs_index (want_none rfl) _ _ _ rfl under_edges 7 size_edgeE bA offA n c0 (j % n) (dep 1 rfl 67 rfl) (dep 6 rfl 72 rfl) (Nat.mod_lt _ hn0) rfl) ?_
              refine Steps.cons (fun a' w' hG hB dep => gs_load_edge_at (want_none rfl) _ rfl bA (offA + (j % n) * 7) (dep 7 rfl 73 rfl) dd (hrk.keep ((hB1.trans (hB.mono hB1.size)).block bA hbA)) rfl) ?_
              refine Steps.cons (fun a' w' hG hB dep => gs_allocE (want_none rfl) rfl (lo := wr.heap.size) hB.size (fun _ _ h => h)) ?_
              exact Steps.nil
            intro ug w6 hB6 ans
            have u74 : ug 74 = .agg (edgC dd) := ans 8 74 (by decide) rfl
            obtain ⟨b8, u8, hb8, h8⟩ := ans 9 8 (by decide) rfl
            clear ans
            simp only [putAll, List.foldl_cons, List.foldl_nil, Act.put, List.setIfInBounds_toArray, List.set_cons_zero, List.set_cons_succ, u74, u8]
            clear u74 u8
            simp only [List.drop]
            refine wl_store_edge rfl _ _ rfl b8 dd rfl rfl _ h8 ?_
            intro w7 h87 hg7
            refine wpList_nil ?_
            simp only [Act.put]
            have hl1 := h1.lt
            have hb5l := h5.lt
            have hgl := hoR.lt gR rfl
            have hz6 := hB6.size
            replace h1 := blk_grown (blk_then h1 hB6) hg7 (by omega)
            replace h5 := blk_grown (blk_then h5 hB6) hg7 (by omega)
            have hEb : ∀ q, (Value.slice Ae ne ce).ownBlock = some q → q < wr.heap.size := fun q e => (hoE.lt q e).2
            have hoE7 := (hoE.then_ hB6).kept_ hg7 (fun q e1 e2 => by injection e2 with e2; have := (hoE.lt q e1).2; omega)
            have hoR7 := own_box (hoR.then_ hB6) h8 hg7 (by decide)
            replace hB1 : Below w.heap.size w w7 := below_grown (below_then hB1 hB6) hg7 (by have := hB1.size; omega)
            have hbl8 : wr.heap.size ≤ b8 := hb8
            clear hoE hoR hB6 hg7 h8 c1 hrk
            have hfrb := hf.fr dd hdE
            have httb := hf.tt dd hdE
            obtain ⟨p, hp⟩ : ∃ q : Nat, dd.fr = (q : Int) := ⟨dd.fr.toNat, by omega⟩
            obtain ⟨q, hq⟩ : ∃ q : Nat, dd.tt = (q : Int) := ⟨dd.tt.toNat, by omega⟩
            have hpk : p < k := by omega
            have hqk : q < k := by omega
            have hturn : turnE k dd = ⟨dd.kd, (mirror p k : Nat), (mirror q k : Nat), dd.st⟩ := by
              unfold turnE
              rw [hp, hq]
              rfl
            have Hturn := Lib.hid hturn
            clear hturn
            have cN : w7.cell? ⟨w.heap.size, 0, none⟩ = some (.int .i64 (k : Int)) := h1.cellv (i := 0) rfl
            have c81 : w7.cell? ⟨b8, 1, none⟩ = some (.int .i64 (p : Int)) := by rw [← hp]; exact h87.cellv (i := 1) rfl
            have f81 := h87.frozen 1
            go_upto_region 17 with (go_at_call 18; refine (mirror_any p k hpk (by omega) w7).mono ?_; rintro e w8 ⟨rfl, rfl⟩)
            have h88 : Blk (w8.setCell ⟨b8, 1, none⟩ (.int .i64 (mirror p k : Nat))) b8 53 (edgC ⟨dd.kd, (mirror p k : Nat), dd.tt, dd.st⟩) := h87.set_eq rfl
            have hg8 : w8.grownBy (w8.setCell ⟨b8, 1, none⟩ (.int .i64 (mirror p k : Nat))) (some b8) := only_setCell (only_refl _ _) (.inl rfl) _
            obtain ⟨w9, hw9⟩ : ∃ z, z = w8.setCell ⟨b8, 1, none⟩ (.int .i64 (mirror p k : Nat)) := ⟨_, rfl⟩
            rw [← hw9] at h88 hg8 ⊢
            clear hw9 c81 f81 cN
            have n1 := blk_grown h1 hg8 (by omega)
            have cN : w9.cell? ⟨w.heap.size, 0, none⟩ = some (.int .i64 (k : Int)) := n1.cellv (i := 0) rfl
            have c82 : w9.cell? ⟨b8, 2, none⟩ = some (.int .i64 (q : Int)) := by rw [← hq]; exact h88.cellv (i := 2) rfl
            have f82 := h88.frozen 2
            go_upto_region 18 with (go_at_call 18; refine (mirror_any q k hqk (by omega) w9).mono ?_; rintro e wa ⟨rfl, rfl⟩)
            have h8b : Blk (wa.setCell ⟨b8, 2, none⟩ (.int .i64 (mirror q k : Nat))) b8 53 (edgC (turnE k dd)) := by rw [Hturn.out]; exact h88.set_eq rfl
            have hgb : wa.grownBy (wa.setCell ⟨b8, 2, none⟩ (.int .i64 (mirror q k : Nat))) (some b8) := only_setCell (only_refl _ _) (.inl rfl) _
            obtain ⟨wb, hwb⟩ : ∃ z, z = wa.setCell ⟨b8, 2, none⟩ (.int .i64 (mirror q k : Nat)) := ⟨_, rfl⟩
            rw [← hwb] at h8b hgb ⊢
            clear hwb c82 f82 cN
            have hG : w8.grownBy wb (some b8) := hg8.trans hgb
            replace h1 := blk_grown n1 hgb (by omega)
            replace h5 := blk_grown h5 hG (by omega)
            replace hoE7 := hoE7.kept_ hG (fun q2 e1 e2 => by injection e2 with e2; have := hEb q2 e1; omega)
            replace hoR7 := own_box hoR7 h87 hG (by decide)
            replace hB1 := below_grown hB1 hG (by omega)
            clear h87 h88 n1 hg8 hgb hG
            obtain ⟨i1, hi1, hy0, hy1, hy2⟩ := info_parts info_edge3
            have cE : wb.cell? ⟨b5, 1, none⟩ = some (.slice Ae ne ce) := h5.cellv (i := 1) rfl
            have hzb : lo ≤ wb.heap.size := by have := h5.lt; omega
            obtain ⟨ee, hee⟩ : ∃ z, z = turnE k dd := ⟨_, rfl⟩
            rw [← hee] at h8b
            have Hee := Lib.hid hee
            clear hee
            have hb7 := blk_then h8b (below_alloc (Below.refl wb.heap.size wb) (.cells (edgC ee) 53))
            have hlen7 := HlenT.out
            have Hlen7 := Lib.hid hlen7
            obtain ⟨LL, hLL⟩ : ∃ z, z = turnL k E j := ⟨_, rfl⟩
            rw [← hLL] at hoE7 hlen7
            have hlj : LL.length ≤ 1099511627776 := by omega
            have HLL := Lib.hid hLL
            clear hLL hlen7
            go_wp2_with (first
              | (refine wl_load_edge rfl _ rfl _ rfl _ h8b ?_)
              | (refine wl_one rfl _ rfl _ rfl ?_)
              | (at_builtin; refine park ?_))
            refine Parked.mk ?_
            have hBx : Below wb.heap.size wb (wb.alloc (.cells (edgC ee) 53)) := below_alloc (Below.refl _ _) _
            have hoEx := hoE7.then_ hBx
            have h5x := blk_then h5 hBx
            have hzx := hBx.size
            refine wl_append _ rfl _ _ 22 rfl lo 53 i1 _ 7 56 Tryd.underlying22 hi1 hy0 hy1 hy2 rfl (by decide) edgC_size edgC_one (.slice Ae ne ce) LL rfl hoEx _ _ 1 1 [ee] rfl rfl (slice_one (enc := edgC) (Blk.new wb _ _)) (by unfold maxLen; omega) (by omega) (by omega) ?_
            intro v9 we hE9 hg9 hat9
            obtain ⟨A9, c9, rfl, _, _⟩ := hE9.shape
            have h5e := h5x.grown hg9 (fun e => own_blk_ne hoEx h5x (by decide) e.symm)
            simp only [Act.put, List.setIfInBounds_toArray, List.set_cons_zero, List.set_cons_succ]
            clear cE
            go_wp2_with (refine wl_store_cell rfl _ _ _ rfl _ _ rfl _ _ (nfaC k A9 _ c9 (some ⟨gR, 0, none⟩) k cR) h5e (by simp [nfaC]) info_edges1 rfl rfl rfl ?_; intro wf h5f hgf)
            have hTs : turnL k E (j + 1) = LL ++ [ee] := by rw [Hsucc.out, HLL.out, Hee.out]
            have hEf := own_box hE9 h5e hgf (by decide)
            have h1x := blk_then h1 hBx
            have h1f := blk_grown (h1x.grown hg9 (fun e => own_blk_ne hoEx h1x (by decide) e.symm)) hgf (by omega)
            have hRf := own_box (own_own (hoR7.then_ hBx) hoEx hg9 (by decide)) h5e hgf (by decide)
            have hz9 := hg9.size
            have hzB := hB1.size
            have hBf : Below w.heap.size w wf := ((below_then hB1 hBx).grown hg9 (by omega) (fun q e => by have := (hoEx.lt q e).1; omega)).grown hgf (by omega) (fun q e => by injection e with e; omega)
            refine ⟨⟨j + 1, by omega, rfl, h1f, ⟨A9, _, c9, h5f, ?_, ?_⟩, hRf, hBf⟩, by simp only [intOf]; omega⟩
            · rw [hTs]; exact hEf
            · rw [hTs]
          · have hjI : ¬ (j : Int) < 2 * n := by omega
            obtain rfl : j = 2 * n := by omega
            have hnE := Hn.out
            rw [turnL_all k E _ (by rw [List.length_append]; omega)] at hoE Hne
            clear hnE
            obtain ⟨E2, hE2⟩ : ∃ z, z = turnedE k E := ⟨_, rfl⟩
            obtain ⟨R2, hR2⟩ : ∃ z, z = turnedR k R := ⟨_, rfl⟩
            have hf2 : Fits k E2 R2 := by rw [hE2, hR2]; exact fits_turned hf
            have hE2l : E2.length ≤ 1099511627776 := by rw [hE2]; simp [turnedE]; omega
            have hR2lt : ∀ r ∈ R2, r < 4294967296 := by rw [hR2, ← rtL_all]; exact rtL_lt hR
            rw [← hE2] at hoE Hne
            rw [← hR2] at hoR
            have HE2 := Lib.hid hE2
            have HR2 := Lib.hid hR2
            have hbeg1 := hbegin k hf wr ((hsE.below hB1).more hB1.size) ((hsR.below hB1).more hB1.size) (hT.then_ hT.size hB1)
            clear hE2 hR2 hbegin hrb
            go_upto_region 20 with (first | (refine wl_load_nfa rfl _ rfl _ rfl _ _ _ _ _ _ _ h1 ?_) | (go_at_call 11; refine hbeg1.mono ?_; rintro e w6 ⟨hB6, gw1, gm1, lo1, nb1, rfl, hlo1, hgw1, hW1⟩))
            have hzb := hB1.size
            have hlt1 := h1.lt
            replace h1 := blk_then h1 hB6
            have h5b := blk_then h5 hB6
            have hoE6 := hoE.then_ hB6
            have hoR6 := hoR.then_ hB6
            replace hB1 := below_then hB1 hB6
            have hT6 := hT.then_ hT.size hB1
            clear hbeg1 h5 hoE hoR
            have hbeg2 := begin_fit Ae ne ce (some ⟨gR, 0, none⟩) k cR hf2 Hne.out rfl hE2l (by omega) hR2lt w6 (hoE6.slice_all edgC_size) (hoR6.slice_all encR_size) hT6
            go_upto_region 21 with (first | (refine wl_load_nfa rfl _ rfl _ rfl _ _ _ _ _ _ _ h5b ?_) | (go_at_call 11; refine hbeg2.mono ?_; rintro e w7 ⟨hB7, gw2, gm2, lo2, nb2, rfl, hlo2, hgw2, hW2⟩))
            have hg1l := hW1.lt
            have hnb1 := hW1.2.1
            have hrel0 := rel_beg hf
            rw [← HE2.out, ← HR2.out] at hrel0
            replace h1 := blk_then h1 hB7
            replace hW1 := hW1.then_ hB7
            replace hB1 := below_then hB1 hB7
            replace hT6 := hT6.then_ hT6.size hB7
            have hz6 := hB6.size
            have hz7 := hB7.size
            have hlo12 : gw1 < lo2 ∨ nb2 ≤ gw1 := .inl (by omega)
            have hnb12 : gw2 < lo1 ∨ nb1 ≤ gw2 := .inr (by omega)
            have hne12 : gw1 ≠ gw2 := by omega
            have hb1' : w.heap.size ≤ gw1 := by omega
            have hb2' : w.heap.size ≤ gw2 := by omega
            have hsz1 : w.heap.size ≠ gw1 := by omega
            have hsz2 : w.heap.size ≠ gw2 := by omega
            clear hbeg2 h5b hoE6 hoR6 hB6 hB7
            obtain ⟨kA, hkA⟩ : ∃ z, z = begW E k R := ⟨_, rfl⟩
            obtain ⟨kB, hkB⟩ : ∃ z, z = begW E2 k R2 := ⟨_, rfl⟩
            rw [← hkA] at hW1 hrel0
            rw [← hkB] at hW2 hrel0
            clear hkA hkB
            go_wp2_with (fail)
            go_loopw [13, 14] (fun vw vi wr => ∃ (i : Nat) (k1 k2 : Wk) (was : Nat), i ≤ ln2.size + 1 ∧ vw = .int .u32 was ∧ vi = .int .i64 i ∧ WalkOk lo1 nb1 wr gw1 gm1 k E R k1 ∧ WalkOk lo2 nb2 wr gw2 gm2 k E2 R2 k2 ∧ TurnRel k k1 k2 ∧ k1.met &&& was = was ∧ was < 4294967296 ∧ Blk wr w.heap.size 25 (nfaC k A n c0 B m d0) ∧ Below w.heap.size w wr ∧ TabOk wr) (fun _ i _ => ln2.size + 1 - (intOf i).toNat)
            case atStart => exact ⟨0, kA, kB, 0, by omega, rfl, rfl, hW1, hW2, hrel0, by simp, by decide, h1, hB1, hT6⟩
            case round =>
              clear hW1 hW2 hrel0 h1 hB1 hT6
              obtain ⟨t, k1, k2, was, ht, rfl, rfl, hW1, hW2, hrl, hwas, hwl, h1, hB1, hT6⟩ := hrel
              by_cases htl : t ≤ ln2.size
              · have htI : (t : Int) ≤ ln2.size := by omega
                have hTw := two_of hrl.at_ hrl.zero hf.one
                obtain ⟨L, hL⟩ : ∃ L, bitsTo k1.at_ k = L := ⟨_, rfl⟩
                obtain ⟨L2, hL2⟩ : ∃ L, bitsTo k2.at_ k = L := ⟨_, rfl⟩
                have hLk : L.length ≤ 400 := by have := bitsTo_length k1.at_ k; rw [hL] at this; omega
                rw [hL, hL2] at hTw
                have hpos : 0 < L.length := hTw.pos
                have hpl : L.length - 1 < L.length := Nat.sub_lt hpos Nat.one_pos
                have hp2 : 0 < L2.length := by rw [hTw.len]; exact hTw.pos
                have HLn : Hid (((L.length : Int) == 0) = false) := Lib.hid (by rw [beq_eq_false_iff_ne]; omega)
                have Hlast : Hid (decide ((k : Int) ≤ ((L[L.length - 1]'hpl : Nat) : Int)) = false) := Lib.hid (by
                  have := hTw.bel (L.length - 1) hpl
                  exact decide_eq_false (by omega))
                have Hlen2 : Hid (((L2.length : Int) != (L.length : Int)) = false) := Lib.hid (by rw [hTw.len]; simp)
                have hst1 := states_of lo1 nb1 gw1 gm1 k E R k1 wr hW1 hT6 L hL hTw.pos
                have hst2 := fun {x : World} (hb : Below wr.heap.size wr x) => states_of lo2 nb2 gw2 gm2 k E2 R2 k2 x (hW2.then_ hb) (hT6.then_ hT6.size hb) L2 hL2 hp2
                clear hL hL2
                have HTw := Lib.hid hTw
                have HLk2 := Lib.hid hTw.len
                clear hTw
                go_upto_region 28 with (go_at_call 19; refine hst1.mono ?_; rintro e w8 ⟨gl, cl, rfl, hl8, hB8⟩)
                replace hst2 := hst2 hB8
                clear hst1
                go_upto_region 29 with (go_at_call 19; refine hst2.mono ?_; rintro e w9 ⟨gk, ck, rfl, hl9, hB9⟩)
                clear hst2
                have hB89 := below_then hB8 hB9
                replace h1 := blk_then h1 hB89
                replace hW1 := hW1.then_ hB89
                replace hW2 := hW2.then_ hB89
                replace hB1 := below_then hB1 hB89
                replace hT6 := hT6.then_ hT6.size hB89
                have hl8' := hl8.then_ hB9
                have hLa : ∀ {x : World}, Below w9.heap.size w9 x → intsAt x gl L := fun hb => intsAt_own (hl8'.then_ hb)
                have hLb : ∀ {x : World}, Below w9.heap.size w9 x → intsAt x gk L2 := fun hb => intsAt_own (hl9.then_ hb)
                clear hl8 hl9 hl8' hB8 hB9 hB89
                refine wp_region_steps 27 [eqS (.slice (some ⟨gl, 0, none⟩) L.length cl), eqS (.int .i64 L.length), eqS (.bool false), eqS (.bool false), eqS (.slice (some ⟨gl, 0, none⟩) L.length cl), eqS (.pointer (some ⟨gl, 0 + 0 * 1, none⟩)), eqS (.int .i64 0), eqS (.bool false), eqS (.bool false), eqS (.bool false), eqS (.slice (some ⟨gl, 0, none⟩) L.length cl), eqS (.slice (some ⟨gl, 0, none⟩) L.length cl), eqS (.int .i64 L.length), eqS (.int .i64 (L.length - 1 : Nat)), eqS (.pointer (some ⟨gl, 0 + (L.length - 1) * 1, none⟩)), eqS (.int .i64 (L[L.length - 1]'(hpl) : Nat)), eqS (.pointer (some ⟨w.heap.size, 0, none⟩)), eqS (.int .i64 (k : Int)), eqS (.bool false), eqS (.bool false), eqS (.bool false), eqS (.slice (some ⟨gk, 0, none⟩) L2.length ck), eqS (.int .i64 L2.length), eqS (.slice (some ⟨gl, 0, none⟩) L.length cl), eqS (.int .i64 L.length), eqS (.bool false), eqS (.bool false)] [127, 128, 129, 130, 131, 132, 133, 134, 135, 136, 137, 138, 139, 140, 141, 142, 143, 144, 145, 146, 147, 148, 149, 150, 151, 152, 153] rfl (by kernel_rfl) rfl ?_ ?_
                · skip
                  refine Steps.cons (fun a' w' hG hB dep => gs_move (want_none rfl) _ rfl (hG.other 15 rfl)) ?_
                  refine Steps.cons (fun a' w' hG hB dep => gs_len (want_none rfl) _ _ rfl under_ints _ L.length cl (dep 0 rfl 127 rfl) rfl) ?_
                  refine Steps.cons (fun a' w' hG hB dep => gs_eql_int (want_none rfl) _ _ _ _ rfl _ _ _ (dep 1 rfl 128 rfl) rfl (congrArg Value.bool HLn.out)) ?_
                  refine Steps.cons (fun a' w' hG hB dep => gs_move (want_none rfl) _ rfl (dep 2 rfl 129 rfl)) ?_
                  refine Steps.cons (fun a' w' hG hB dep => gs_move (want_yes rfl rfl (dep 3 rfl 130 rfl)) _ rfl (hG.other 15 rfl)) ?_
                  refine Steps.cons (fun a' w' hG hB dep => gs_index (want_yes rfl rfl (dep 3 rfl 130 rfl)) _ _ _ rfl under_ints 1 size_intE gl 0 L.length cl (0) (dep 4 rfl 131 rfl) rfl hpos rfl) ?_
                  refine Steps.cons (fun a' w' hG hB dep => gs_load1 (want_yes rfl rfl (dep 3 rfl 130 rfl)) _ _ rfl gl (0 + 0 * 1) (dep 5 rfl 132 rfl) (.int .i64 0) (by have := hLa hB 0 hpos; rw [HTw.out.fst] at this; exact this) _ Tryd.underlying3 rfl rfl) ?_
                  refine Steps.cons (fun a' w' hG hB dep => gs_neq_int (want_yes rfl rfl (dep 3 rfl 130 rfl)) _ _ _ _ rfl _ _ _ (dep 6 rfl 133 rfl) rfl rfl) ?_
                  refine Steps.cons (fun a' w' hG hB dep => gs_pick (want_none rfl) _ _ _ rfl false (dep 3 rfl 130 rfl) (dep 7 rfl 134 rfl)) ?_
                  refine Steps.cons (fun a' w' hG hB dep => gs_move (want_none rfl) _ rfl (dep 8 rfl 135 rfl)) ?_
                  refine Steps.cons (fun a' w' hG hB dep => gs_move (want_yes rfl rfl (dep 9 rfl 136 rfl)) _ rfl (hG.other 15 rfl)) ?_
                  refine Steps.cons (fun a' w' hG hB dep => gs_move (want_yes rfl rfl (dep 9 rfl 136 rfl)) _ rfl (hG.other 15 rfl)) ?_
                  refine Steps.cons (fun a' w' hG hB dep => gs_len (want_yes rfl rfl (dep 9 rfl 136 rfl)) _ _ rfl under_ints _ L.length cl (dep 11 rfl 138 rfl) rfl) ?_
                  refine Steps.cons (fun a' w' hG hB dep => gs_sub_nat (want_yes rfl rfl (dep 9 rfl 136 rfl)) _ _ _ _ rfl L.length 1 (L.length - 1) (dep 12 rfl 139 rfl) rfl (Nat.sub_add_cancel hpos) (by omega) rfl) ?_
                  refine Steps.cons (fun a' w' hG hB dep => gs_index (want_yes rfl rfl (dep 9 rfl 136 rfl)) _ _ _ rfl under_ints 1 size_intE gl 0 L.length cl (L.length - 1) (dep 10 rfl 137 rfl) (dep 13 rfl 140 rfl) hpl rfl) ?_
                  refine Steps.cons (fun a' w' hG hB dep => gs_load1 (want_yes rfl rfl (dep 9 rfl 136 rfl)) _ _ rfl gl (0 + (L.length - 1) * 1) (dep 14 rfl 141 rfl) (.int .i64 (L[L.length - 1]'(hpl) : Nat)) (hLa hB (L.length - 1) (hpl)) _ Tryd.underlying3 rfl rfl) ?_
                  refine Steps.cons (fun a' w' hG hB dep => gs_field (want_yes rfl rfl (dep 9 rfl 136 rfl)) _ _ _ rfl w.heap.size 0 0 (hG.other 2 rfl) (field_nfa_0 _ 0) rfl) ?_
                  refine Steps.cons (fun a' w' hG hB dep => gs_load1 (want_yes rfl rfl (dep 9 rfl 136 rfl)) _ _ rfl w.heap.size 0 (dep 16 rfl 143 rfl) (.int .i64 (k : Int)) ((blk_then h1 hB).cellv (i := 0) rfl) _ Tryd.underlying3 rfl rfl) ?_
                  refine Steps.cons (fun a' w' hG hB dep => gs_geq_int (want_yes rfl rfl (dep 9 rfl 136 rfl)) _ _ _ _ rfl _ _ _ (dep 15 rfl 142 rfl) (dep 17 rfl 144 rfl) (congrArg Value.bool Hlast.out)) ?_
                  refine Steps.cons (fun a' w' hG hB dep => gs_pick (want_none rfl) _ _ _ rfl false (dep 9 rfl 136 rfl) (dep 18 rfl 145 rfl)) ?_
                  refine Steps.cons (fun a' w' hG hB dep => gs_move (want_none rfl) _ rfl (dep 19 rfl 146 rfl)) ?_
                  refine Steps.cons (fun a' w' hG hB dep => gs_move (want_yes rfl rfl (dep 20 rfl 147 rfl)) _ rfl (hG.other 16 rfl)) ?_
                  refine Steps.cons (fun a' w' hG hB dep => gs_len (want_yes rfl rfl (dep 20 rfl 147 rfl)) _ _ rfl under_ints _ L2.length ck (dep 21 rfl 148 rfl) rfl) ?_
                  refine Steps.cons (fun a' w' hG hB dep => gs_move (want_yes rfl rfl (dep 20 rfl 147 rfl)) _ rfl (hG.other 15 rfl)) ?_
                  refine Steps.cons (fun a' w' hG hB dep => gs_len (want_yes rfl rfl (dep 20 rfl 147 rfl)) _ _ rfl under_ints _ L.length cl (dep 23 rfl 150 rfl) rfl) ?_
                  refine Steps.cons (fun a' w' hG hB dep => gs_neq_int (want_yes rfl rfl (dep 20 rfl 147 rfl)) _ _ _ _ rfl _ _ _ (dep 22 rfl 149 rfl) (dep 24 rfl 151 rfl) (congrArg Value.bool Hlen2.out)) ?_
                  refine Steps.cons (fun a' w' hG hB dep => gs_pick (want_none rfl) _ _ _ rfl false (dep 20 rfl 147 rfl) (dep 25 rfl 152 rfl)) ?_
                  exact Steps.nil
                intro uh wi hBi ans
                have u153 : uh 153 = .bool false := ans 26 153 (by decide) rfl
                clear ans
                simp only [putAll, List.foldl_cons, List.foldl_nil, Act.put, List.setIfInBounds_toArray, List.set_cons_zero, List.set_cons_succ, u153]
                clear u153
                simp only [List.drop]
                refine wpList_nil ?_
                replace h1 := blk_then h1 hBi
                replace hW1 := hW1.then_ hBi
                replace hW2 := hW2.then_ hBi
                replace hB1 := below_then hB1 hBi
                replace hT6 := hT6.then_ hT6.size hBi
                have hMa : ∀ {x : World}, Below wi.heap.size wi x → intsAt x gl L := fun hb => hLa (below_then hBi hb)
                have hMb : ∀ {x : World}, Below wi.heap.size wi x → intsAt x gk L2 := fun hb => hLb (below_then hBi hb)
                clear hLa hLb hBi
                go_wp2_with (fail)
                go_loopw [17] (fun v wr => ∃ i : Nat, 1 ≤ i ∧ i ≤ L.length ∧ v = .int .i64 i ∧ Below wi.heap.size wi wr) (fun v _ => L.length - (intOf v).toNat)
                case atStart => exact ⟨1, by omega, hpos, rfl, Below.refl _ _⟩
                case round =>
                  obtain ⟨i, hi1, hil', rfl, hBr⟩ := hrel
                  by_cases hil : i < L.length
                  · have hiI : (i : Int) < (L.length : Nat) := by omega
                    have hik : L.length - i < L2.length := by rw [HLk2.out]; omega
                    have Hrise : Hid (decide (((L[i]'hil : Nat) : Int) ≤ ((L[i - 1]'(Nat.lt_of_le_of_lt (Nat.sub_le i 1) hil) : Nat) : Int)) = false) := Lib.hid (by
                      have := HTw.out.rise i hil hi1
                      exact decide_eq_false (by omega))
                    have Hturn : Hid ((((mirror (L[i]'hil) k : Nat) : Int) != ((L2[L.length - i]'hik : Nat) : Int)) = false) := Lib.hid (by
                      rw [HTw.out.turn i hil hi1 hik]
                      simp)
                    have hLa : ∀ {x : World}, Below wr.heap.size wr x → intsAt x gl L := fun hb => hMa (below_then hBr hb)
                    have hLb : ∀ {x : World}, Below wr.heap.size wr x → intsAt x gk L2 := fun hb => hMb (below_then hBr hb)
                    have h1i := blk_then h1 hBr
                    go_upto_region 34 with (fail)
                    refine wp_region_steps 27 [eqS (.slice (some ⟨gl, 0, none⟩) L.length cl), eqS (.int .i64 (i : Int)), eqS (.pointer (some ⟨gl, 0 + (i) * 1, none⟩)), eqS (.int .i64 (L[i]'(hil) : Nat)), eqS (.slice (some ⟨gl, 0, none⟩) L.length cl), eqS (.int .i64 (i : Int)), eqS (.int .i64 (i - 1 : Nat)), eqS (.pointer (some ⟨gl, 0 + (i - 1) * 1, none⟩)), eqS (.int .i64 (L[i - 1]'((Nat.lt_of_le_of_lt (Nat.sub_le i 1) hil)) : Nat)), eqS (.bool false), eqS (.bool false), eqS (.slice (some ⟨gl, 0, none⟩) L.length cl), eqS (.int .i64 (i : Int)), eqS (.pointer (some ⟨gl, 0 + (i) * 1, none⟩)), eqS (.int .i64 (L[i]'(hil) : Nat)), eqS (.pointer (some ⟨w.heap.size, 0, none⟩)), eqS (.int .i64 (k : Int)), eqS (.int .i64 (mirror (L[i]'hil) k : Nat)), eqS (.slice (some ⟨gk, 0, none⟩) L2.length ck), eqS (.slice (some ⟨gl, 0, none⟩) L.length cl), eqS (.int .i64 L.length), eqS (.int .i64 (i : Int)), eqS (.int .i64 (L.length - i : Nat)), eqS (.pointer (some ⟨gk, 0 + (L.length - i) * 1, none⟩)), eqS (.int .i64 (L2[L.length - i]'(hik) : Nat)), eqS (.bool false), eqS (.bool false)] [160, 161, 162, 163, 164, 165, 166, 167, 168, 169, 170, 171, 172, 173, 174, 175, 176, 177, 178, 179, 180, 181, 182, 183, 184, 185, 186] rfl (by kernel_rfl) rfl ?_ ?_
                    · skip
                      refine Steps.cons (fun a' w' hG hB dep => gs_move (want_none rfl) _ rfl (hG.other 15 rfl)) ?_
                      refine Steps.cons (fun a' w' hG hB dep => gs_move (want_none rfl) _ rfl (hG.other 17 rfl)) ?_
                      refine Steps.cons (fun a' w' hG hB dep => gs_index (want_none rfl) _ _ _ rfl under_ints 1 size_intE gl 0 L.length cl (i) (dep 0 rfl 160 rfl) (dep 1 rfl 161 rfl) hil rfl) ?_
                      refine Steps.cons (fun a' w' hG hB dep => gs_load1 (want_none rfl) _ _ rfl gl (0 + (i) * 1) (dep 2 rfl 162 rfl) (.int .i64 (L[i]'(hil) : Nat)) (hLa hB (i) (hil)) _ Tryd.underlying3 rfl rfl) ?_
                      refine Steps.cons (fun a' w' hG hB dep => gs_move (want_none rfl) _ rfl (hG.other 15 rfl)) ?_
                      refine Steps.cons (fun a' w' hG hB dep => gs_move (want_none rfl) _ rfl (hG.other 17 rfl)) ?_
                      refine Steps.cons (fun a' w' hG hB dep => gs_sub_nat (want_none rfl) _ _ _ _ rfl i 1 (i - 1) (dep 5 rfl 165 rfl) rfl (Nat.sub_add_cancel hi1) (by omega) rfl) ?_
                      refine Steps.cons (fun a' w' hG hB dep => gs_index (want_none rfl) _ _ _ rfl under_ints 1 size_intE gl 0 L.length cl (i - 1) (dep 4 rfl 164 rfl) (dep 6 rfl 166 rfl) (Nat.lt_of_le_of_lt (Nat.sub_le i 1) hil) rfl) ?_
                      refine Steps.cons (fun a' w' hG hB dep => gs_load1 (want_none rfl) _ _ rfl gl (0 + (i - 1) * 1) (dep 7 rfl 167 rfl) (.int .i64 (L[i - 1]'((Nat.lt_of_le_of_lt (Nat.sub_le i 1) hil)) : Nat)) (hLa hB (i - 1) ((Nat.lt_of_le_of_lt (Nat.sub_le i 1) hil))) _ Tryd.underlying3 rfl rfl) ?_
                      refine Steps.cons (fun a' w' hG hB dep => gs_leq_int (want_none rfl) _ _ _ _ rfl _ _ _ (dep 3 rfl 163 rfl) (dep 8 rfl 168 rfl) (congrArg Value.bool Hrise.out)) ?_
                      refine Steps.cons (fun a' w' hG hB dep => gs_move (want_none rfl) _ rfl (dep 9 rfl 169 rfl)) ?_
                      refine Steps.cons (fun a' w' hG hB dep => gs_move (want_yes rfl rfl (dep 10 rfl 170 rfl)) _ rfl (hG.other 15 rfl)) ?_
                      refine Steps.cons (fun a' w' hG hB dep => gs_move (want_yes rfl rfl (dep 10 rfl 170 rfl)) _ rfl (hG.other 17 rfl)) ?_
                      refine Steps.cons (fun a' w' hG hB dep => gs_index (want_yes rfl rfl (dep 10 rfl 170 rfl)) _ _ _ rfl under_ints 1 size_intE gl 0 L.length cl (i) (dep 11 rfl 171 rfl) (dep 12 rfl 172 rfl) hil rfl) ?_
                      refine Steps.cons (fun a' w' hG hB dep => gs_load1 (want_yes rfl rfl (dep 10 rfl 170 rfl)) _ _ rfl gl (0 + (i) * 1) (dep 13 rfl 173 rfl) (.int .i64 (L[i]'(hil) : Nat)) (hLa hB (i) (hil)) _ Tryd.underlying3 rfl rfl) ?_
                      refine Steps.cons (fun a' w' hG hB dep => gs_field (want_yes rfl rfl (dep 10 rfl 170 rfl)) _ _ _ rfl w.heap.size 0 0 (hG.other 2 rfl) (field_nfa_0 _ 0) rfl) ?_
                      refine Steps.cons (fun a' w' hG hB dep => gs_load1 (want_yes rfl rfl (dep 10 rfl 170 rfl)) _ _ rfl w.heap.size 0 (dep 15 rfl 175 rfl) (.int .i64 (k : Int)) ((blk_then h1i hB).cellv (i := 0) rfl) _ Tryd.underlying3 rfl rfl) ?_
                      refine Steps.cons (fun a' w' hG hB dep => gs_call (want_yes rfl rfl (dep 10 rfl 170 rfl)) _ _ _ rfl enter_mirror _ (map2 (dep 14 rfl 174 rfl) (dep 16 rfl 176 rfl)) ((mirror_any (L[i]'hil) k (HTw.out.bel i hil) (by omega) w').mono fun e w2 ⟨he, hb⟩ => ⟨_, he, by rw [hb]; exact Below.refl _ _, rfl⟩)) ?_
                      refine Steps.cons (fun a' w' hG hB dep => gs_move (want_yes rfl rfl (dep 10 rfl 170 rfl)) _ rfl (hG.other 16 rfl)) ?_
                      refine Steps.cons (fun a' w' hG hB dep => gs_move (want_yes rfl rfl (dep 10 rfl 170 rfl)) _ rfl (hG.other 15 rfl)) ?_
                      refine Steps.cons (fun a' w' hG hB dep => gs_len (want_yes rfl rfl (dep 10 rfl 170 rfl)) _ _ rfl under_ints _ L.length cl (dep 19 rfl 179 rfl) rfl) ?_
                      refine Steps.cons (fun a' w' hG hB dep => gs_move (want_yes rfl rfl (dep 10 rfl 170 rfl)) _ rfl (hG.other 17 rfl)) ?_
                      refine Steps.cons (fun a' w' hG hB dep => gs_sub_nat (want_yes rfl rfl (dep 10 rfl 170 rfl)) _ _ _ _ rfl L.length i (L.length - i) (dep 20 rfl 180 rfl) (dep 21 rfl 181 rfl) (Nat.sub_add_cancel (Nat.le_of_lt hil)) (by omega) rfl) ?_
                      refine Steps.cons (fun a' w' hG hB dep => gs_index (want_yes rfl rfl (dep 10 rfl 170 rfl)) _ _ _ rfl under_ints 1 size_intE gk 0 L2.length ck (L.length - i) (dep 18 rfl 178 rfl) (dep 22 rfl 182 rfl) hik rfl) ?_
                      refine Steps.cons (fun a' w' hG hB dep => gs_load1 (want_yes rfl rfl (dep 10 rfl 170 rfl)) _ _ rfl gk (0 + (L.length - i) * 1) (dep 23 rfl 183 rfl) (.int .i64 (L2[L.length - i]'(hik) : Nat)) (hLb hB (L.length - i) (hik)) _ Tryd.underlying3 rfl rfl) ?_
                      refine Steps.cons (fun a' w' hG hB dep => gs_neq_int (want_yes rfl rfl (dep 10 rfl 170 rfl)) _ _ _ _ rfl _ _ _ (dep 17 rfl 177 rfl) (dep 24 rfl 184 rfl) (congrArg Value.bool Hturn.out)) ?_
                      refine Steps.cons (fun a' w' hG hB dep => gs_pick (want_none rfl) _ _ _ rfl false (dep 10 rfl 170 rfl) (dep 25 rfl 185 rfl)) ?_
                      exact Steps.nil
                    intro uq wj hBj ans
                    have u186 : uq 186 = .bool false := ans 26 186 (by decide) rfl
                    clear ans
                    simp only [putAll, List.foldl_cons, List.foldl_nil, Act.put, List.setIfInBounds_toArray, List.set_cons_zero, List.set_cons_succ, u186]
                    clear u186
                    simp only [List.drop]
                    refine wpList_nil ?_
                    have hBrj := below_then hBr hBj
                    clear hBr hBj hLa hLb h1i Hrise Hturn
                    go_wp2_with (fail)
                    exact ⟨⟨i + 1, by omega, by omega, rfl, hBrj⟩, by simp only [intOf]; omega⟩
                  · have hiI : ¬ (i : Int) < (L.length : Nat) := by omega
                    replace h1 := blk_then h1 hBr
                    replace hW1 := hW1.then_ hBr
                    replace hW2 := hW2.then_ hBr
                    replace hB1 := below_then hB1 hBr
                    replace hT6 := hT6.then_ hT6.size hBr
                    clear hMa hMb hBr
                    obtain ⟨mm, hmm⟩ : ∃ q, k1.met = q := ⟨_, rfl⟩
                    obtain ⟨ee, hee⟩ : ∃ q, endW E k R k1 = q := ⟨_, rfl⟩
                    have hee2 : endW E2 k R2 k2 = ee := by rw [← hee, HE2.out, HR2.out]; exact (rel_end hf hrl).symm
                    have hmm2 : k2.met = mm := by rw [← hmm]; exact hrl.met.symm
                    have hmml : mm < 4294967296 := by rw [← hmm]; exact hW1.2.2.1
                    have heel : ee < 4294967296 := by
                      rw [← hee]
                      exact or_lt32 hW1.2.2.1 (met_lt hR _ _)
                    have hru : ∀ {p : Nat} {x : World}, (p = gw1 ∨ p = gw2) → Below wr.heap.size wr x → Calls Tryd.prog 20 #[.pointer (some ⟨p, 0, none⟩)] x fun e w' => e = .returned (.int .u32 (mm : Int)) ∧ w' = x := fun {p} {x} hpp hb => by
                      rcases hpp with rfl | rfl
                      · have := rules_any lo1 nb1 p gm1 k E R k1 x (hW1.then_ hb)
                        rw [hmm] at this
                        exact this
                      · have := rules_any lo2 nb2 p gm2 k E2 R2 k2 x (hW2.then_ hb)
                        rw [hmm2] at this
                        exact this
                    have hen : ∀ {p : Nat} {x : World}, (p = gw1 ∨ p = gw2) → Below wr.heap.size wr x → Calls Tryd.prog 21 #[.pointer (some ⟨p, 0, none⟩)] x fun e w' => e = .returned (.int .u32 (ee : Int)) ∧ Below x.heap.size x w' := fun {p} {x} hpp hb => by
                      rcases hpp with rfl | rfl
                      · have := end_any lo1 nb1 p gm1 k E R k1 x (hW1.then_ hb) (hT6.then_ hT6.size hb)
                        rw [hee] at this
                        exact this
                      · have := end_any lo2 nb2 p gm2 k E2 R2 k2 x (hW2.then_ hb) (hT6.then_ hT6.size hb)
                        rw [hee2] at this
                        exact this
                    have hand1 : bits BinOp.and IntKind.u32 (mm : Int) (was : Int) = (was : Int) := by
                      rw [u32_and_nat mm was hmml hwl, ← hmm, hwas]
                    have hand2 : bits BinOp.and IntKind.u32 (ee : Int) (mm : Int) = (mm : Int) := by
                      rw [u32_and_nat ee mm heel hmml, ← hee, ← hmm]
                      show ((((k1.met ||| _) &&& k1.met : Nat)) : Int) = _
                      rw [and_or_self]
                    have Hmm := Lib.hid hmm
                    clear hmm hee hee2 hmm2 hwas
                    have hBc : Below wr.heap.size wr wr := Below.refl _ _
                    go_upto_region 37 with (go_at_call 20; refine (hru (.inl rfl) hBc).mono ?_; rintro e wx ⟨rfl, rfl⟩)
                    go_upto_region 39 with (first
                      | (go_at_call 20; refine (hru (by first | exact .inl rfl | exact .inr rfl) hBc).mono ?_; rintro e wx ⟨rfl, rfl⟩)
                      | (go_at_call 21; refine (hen (by first | exact .inl rfl | exact .inr rfl) hBc).mono ?_; rintro e wx ⟨rfl, hBx⟩; replace hBc := below_then hBc hBx; clear hBx))
                    replace h1 := blk_then h1 hBc
                    replace hW1 := hW1.then_ hBc
                    replace hW2 := hW2.then_ hBc
                    replace hB1 := below_then hB1 hBc
                    replace hT6 := hT6.then_ hT6.size hBc
                    have hself : mm &&& mm = mm := Nat.and_self mm
                    clear hru hen hBc hand1 hand2
                    by_cases hts : t < ln2.size
                    · have htsI : (t : Int) < ln2.size := by omega
                      go_upto_region 42 with (go_at_call 14; refine (byte_any lo1 nb1 gw1 gm1 k E R k1 (ln2[t]).toNat (UInt8.toNat_lt _) _ hW1 hT6).mono ?_; rintro e wy ⟨rfl, hWy, hgy⟩)
                      have hT7 := tab_walk hW1 hT6 hgy
                      have hW2y := hW2.other2 hW1 hgy hlo12 hne12
                      have hl1 := h1.lt
                      have h1y := blk_grown h1 hgy hsz1
                      have hB1y := below_grown hB1 hgy hb1'
                      have hmet1 : (byteW E k R k1 (ln2[t]).toNat).met &&& mm = mm := by
                        rw [← Hmm.out]
                        exact and_or_self _ _
                      clear hW1 hW2 h1 hB1 hT6 hgy
                      go_wp2_with (go_at_call 14; refine (byte_any lo2 nb2 gw2 gm2 k E2 R2 k2 (ln2[t]).toNat (UInt8.toNat_lt _) _ hW2y hT7).mono ?_; rintro e wz ⟨rfl, hWz, hgz⟩)
                      have hT8 := tab_walk hW2y hT7 hgz
                      have hW1z := hWy.other2 hW2y hgz hnb12 (fun e => hne12 e.symm)
                      have h1z := blk_grown h1y hgz hsz2
                      have hB1z := below_grown hB1y hgz hb2'
                      have hrl2 := rel_byte hf hrl (ln2[t]).toNat
                      rw [← HE2.out, ← HR2.out] at hrl2
                      exact ⟨⟨t + 1, _, _, mm, by omega, rfl, rfl, hW1z, hWz, hrl2, hmet1, hmml, h1z, hB1z, hT8⟩, by simp only [intOf]; omega⟩
                    · have htsI : ¬ (t : Int) < ln2.size := by omega
                      go_wp2_with (fail)
                      exact ⟨⟨t + 1, k1, k2, mm, by omega, rfl, rfl, hW1, hW2, hrl, by rw [Hmm.out]; exact hself, hmml, h1, hB1, hT6⟩, by simp only [intOf]; omega⟩
              · have htI : ¬ (t : Int) ≤ ln2.size := by omega
                go_wp2_with (fail)
                go_ret
                exact ⟨rfl, hB1⟩
end Go.Proofs.YtgahdookojbbiaaDoor
