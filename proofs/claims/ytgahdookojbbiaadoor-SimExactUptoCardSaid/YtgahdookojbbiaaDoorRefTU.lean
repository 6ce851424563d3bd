/- heronref08's Begin, End, States. No condition beyond those named in each lemma. -/
import Derived.Test.YtgahdookojbbiaaDoorRefS
namespace Go.Proofs.YtgahdookojbbiaaDoor
open Go.RowKit Go.Shelf Go.Maps
set_option linter.unusedVariables false
set_option linter.unusedSimpArgs false
attribute [local go_sem] Oper.semAt_some

/-- the document's walk in memory -/
def RWalk (B0 : Nat) (W : World) (gr N : Nat) (E : List Edg) (R : List Nat) (A : Option Addr) (n c0 : Nat) (B : Option Addr) (m d0 : Nat) (k : Wk) : Prop :=
  RMach B0 W N E R A n B m ∧ B0 ≤ gr ∧ k.met < 4294967296 ∧ below k.at_ N ∧ ∃ g c, gr ≠ g ∧ Blk W gr 61 (rwalkC N A n c0 B m d0 (.slice (some ⟨g, 0, none⟩) N c) k.met k.first) ∧ Own W B0 4 1 encB (.slice (some ⟨g, 0, none⟩) N c) (boolsN k.at_ N)
section
variable {B0 gr N n c0 m d0 : Nat} {W W' : World} {E : List Edg} {R : List Nat} {A B : Option Addr} {k : Wk}
theorem RWalk.lt (h : RWalk B0 W gr N E R A n c0 B m d0 k) : gr < W.heap.size := by
  obtain ⟨_, _, _, _, g, c, _, h5, _⟩ := h
  exact h5.lt
theorem RWalk.then_ (h : RWalk B0 W gr N E R A n c0 B m d0 k) (hb : Below W.heap.size W W') : RWalk B0 W' gr N E R A n c0 B m d0 k := by
  obtain ⟨h1, h2, h3, h4, g, c, h5, h6, h7⟩ := h
  exact ⟨h1.then_ hb, h2, h3, h4, g, c, h5, blk_then h6 hb, h7.then_ hb⟩
/-- another block is turned: one of cells of another kind -/
theorem RWalk.other {r : Nat} {t : TypeId} {cs : Array Value} (h : RWalk B0 W gr N E R A n c0 B m d0 k) (hg : W.grownBy W' (some r)) (hr : B0 ≤ r) (hne : r ≠ gr) (hb : Blk W r t cs) (ht : t ≠ 4) : RWalk B0 W' gr N E R A n c0 B m d0 k := by
  obtain ⟨h1, h2, h3, h4, g, c, h5, h6, h7⟩ := h
  exact ⟨h1.grown hg hr, h2, h3, h4, g, c, h5, blk_grown h6 hg (fun e => hne e.symm), own_box h7 hb hg (fun e => ht e.symm)⟩
end
theorem enter_words (args : Array Value) (w : World) : (callFunc 26 args).run Tryd.prog w = .ok (.enter 26 args) w := by kernel_rfl
theorem enter_rspread (args : Array Value) (w : World) : (callFunc 25 args).run Tryd.prog w = .ok (.enter 25 args) w := by kernel_rfl
theorem info_nfaR : (Tryd.prog.info? 25).map (·.size) = some 3 := by kernel_rfl
theorem run_buildR (w : World) (s : Int) (A : Option Addr) (n c : Nat) (B : Option Addr) (m d : Nat) : (Instr.build 61 #[(0, .agg (nfaC s A n c B m d)), (3, .bool true)]).run Tryd.prog w = .ok (.agg #[.int .i64 s, .slice A n c, .slice B m d, .slice none 0 0, .int .u32 0, .bool true]) w := by kernel_rfl
theorem run_boxR (w : World) (s : Int) (A : Option Addr) (n c : Nat) (B : Option Addr) (m d : Nat) : (Instr.box 61 (.agg #[.int .i64 s, .slice A n c, .slice B m d, .slice none 0 0, .int .u32 0, .bool true])).run Tryd.prog w = .ok (.pointer (some ⟨w.heap.size, 0, none⟩)) (w.alloc (.cells #[.int .i64 s, .slice A n c, .slice B m d, .slice none 0 0, .int .u32 0, .bool true] 61)) := by kernel_rfl
section
variable {ops : Array Oper} {rest : List Oper} {o : Oper} {a : Act} {w : World} {Q : Exit → Act → World → Prop}
theorem wl_buildR (hgd : o.guard = none) (x : Operand) (ho : o.op = .build 61 #[(0, x), (3, .const (.bool true))]) (s : Int) (A : Option Addr) (n c : Nat) (B : Option Addr) (m d : Nat) (hx : a.eval x = .agg (nfaC s A n c B m d))
    (h : wpList Tryd.prog ops Q rest (a.put o.dst (.agg #[.int .i64 s, .slice A n c, .slice B m d, .slice none 0 0, .int .u32 0, .bool true])) w) : wpList Tryd.prog ops Q (o :: rest) a w := by
  refine wpList_plain hgd fun _ hK => ?_
  unfold Oper.wp execOp
  have e : (#[(0, x), (3, Operand.const (Value.bool true))].map fun p : Nat × Operand => (p.1, a.eval p.2)) = #[(0, Value.agg (nfaC s A n c B m d)), (3, .bool true)] := by simp [hx]; rfl
  simp only [ho, e, Sem.run_bind, run_buildR, Result.andThen_ok, Sem.run_pure]
  exact hK _ _ h
theorem wl_boxR (hgd : o.guard = none) (x : Operand) (ho : o.op = .box 61 x) (s : Int) (A : Option Addr) (n c : Nat) (B : Option Addr) (m d : Nat) (hx : a.eval x = .agg #[.int .i64 s, .slice A n c, .slice B m d, .slice none 0 0, .int .u32 0, .bool true])
    (h : wpList Tryd.prog ops Q rest (a.put o.dst (.pointer (some ⟨w.heap.size, 0, none⟩))) (w.alloc (.cells #[.int .i64 s, .slice A n c, .slice B m d, .slice none 0 0, .int .u32 0, .bool true] 61))) : wpList Tryd.prog ops Q (o :: rest) a w := by
  refine wpList_plain hgd fun _ hK => ?_
  unfold Oper.wp execOp
  simp only [ho, hx, Sem.run_bind, run_boxR, Result.andThen_ok, Sem.run_pure]
  exact hK _ _ h
theorem wl_makeB (hgd : o.guard = none) (x y : Operand) (ho : o.op = .makeSlice 59 x y) (N base : Nat) (hx : a.eval x = .int .i64 N) (hy : a.eval y = .int .i64 N) (hN : N ≤ 1099511627776) (hb : base ≤ w.heap.size)
    (h : ∀ w', Own w' base 4 1 encB (.slice (some ⟨w.heap.size, 0, none⟩) N N) (boolsN 0 N) → Below w.heap.size w w' → wpList Tryd.prog ops Q rest (a.put o.dst (.slice (some ⟨w.heap.size, 0, none⟩) N N)) w') : wpList Tryd.prog ops Q (o :: rest) a w := by
  obtain ⟨i0, hi0, hz0, hz1, hz2⟩ := info_parts info_bool3
  refine wpList_make_full w hgd x y _ ho base 4 i0 _ 1 Tryd.underlying59 hi0 hz0 hz1 _ _ _ _ N hx hy rfl rfl (by rw [hz2]; omega) (by unfold maxLen; omega) hb fun w' r1 r2 => ?_
  have e1 : (madeCells (Value.bool false).cells (N * 1)).toList = flat encB (boolsN 0 N) := by
    rw [boolsN_zero]
    apply List.ext_getElem
    · rw [Array.length_toList, size_madeCells]
      simp [flat, encB]
    · intro j h1 h2
      simp [madeCells, Value.cells, flat, encB, List.flatMap_replicate]
      rw [Nat.mod_one]
      rfl
  rw [e1] at r1
  refine h w' ?_ ⟨r2.os, r2.tape, r2.output, r2.size, fun k hk => r2.block k hk (by simp)⟩
  unfold Own
  rw [boolsN_length]
  exact r1
end
set_option maxRecDepth 100000 in
set_option maxHeartbeats 4000000 in
theorem rend_any (B0 gr N n c0 m d0 : Nat) (E : List Edg) (R : List Nat) (A B : Option Addr) (k : Wk) (w : World) (h : RWalk B0 w gr N E R A n c0 B m d0 k) :
    Calls Tryd.prog 23 #[.pointer (some ⟨gr, 0, none⟩)] w fun e w' => e = .returned (.int .u32 (endW E N R k : Nat)) ∧ Below w.heap.size w w' := by
  obtain ⟨hM, hB0, hr, hx, g, c, hne, hw, hS⟩ := h
  obtain ⟨x, r, b⟩ := k
  simp only at hr hx hw hS
  obtain ⟨y, hy⟩ : ∃ y, y = spreadN E N b true x := ⟨_, rfl⟩
  have hyN : below y N := by rw [hy]; exact spread_below _ _ _ _ _
  have hend : endW E N R ⟨x, r, b⟩ = r ||| metN R y N := by rw [hy]; rfl
  rw [hend]
  have Hy := Lib.hid hy
  clear hy hend
  go_enter Tryd.func23, Tryd.ntmps23
  go_upto_region 1 with (fail)
  refine wp_region_steps 9 [eqS (.pointer (some ⟨gr, 0, none⟩)), eqS (.pointer (some ⟨gr, 0, none⟩)), eqS (.pointer (some ⟨gr, 0, none⟩)), eqS (.pointer (some ⟨gr, 3, none⟩)), eqS (.slice (some ⟨g, 0, none⟩) N c), eqS (.pointer (some ⟨gr, 0, none⟩)), eqS (.pointer (some ⟨gr, 0, none⟩)), eqS (.pointer (some ⟨gr, 5, none⟩)), eqS (.bool b)] [4, 5, 6, 7, 8, 9, 10, 11, 12] rfl (by kernel_rfl) rfl ?_ ?_
  · skip
    refine Steps.cons (fun a' w' hG hB dep => gs_move (want_none rfl) _ rfl (id (hG.other 0 rfl))) ?_
    refine Steps.cons (fun a' w' hG hB dep => gs_move (want_none rfl) _ rfl (id (hG.other 0 rfl))) ?_
    refine Steps.cons (fun a' w' hG hB dep => gs_nil (want_none rfl) _ rfl _ (dep 1 rfl 5 rfl) rfl) ?_
    refine Steps.cons (fun a' w' hG hB dep => gs_field (want_none rfl) _ _ _ rfl gr 0 3 (dep 2 rfl 6 rfl) (fun wz => field_rwalk_1 gr 0 wz) rfl) ?_
    refine Steps.cons (fun a' w' hG hB dep => gs_load1 (want_none rfl) _ _ rfl gr (3) (dep 3 rfl 7 rfl) (.slice (some ⟨g, 0, none⟩) N c) ((blk_then hw hB).cellv (i := 3) rfl) _ Tryd.underlying59 rfl rfl) ?_
    refine Steps.cons (fun a' w' hG hB dep => gs_move (want_none rfl) _ rfl (id (hG.other 0 rfl))) ?_
    refine Steps.cons (fun a' w' hG hB dep => gs_nil (want_none rfl) _ rfl _ (dep 5 rfl 9 rfl) rfl) ?_
    refine Steps.cons (fun a' w' hG hB dep => gs_field (want_none rfl) _ _ _ rfl gr 0 5 (dep 6 rfl 10 rfl) (fun wz => field_rwalk_3 gr 0 wz) rfl) ?_
    refine Steps.cons (fun a' w' hG hB dep => gs_load1 (want_none rfl) _ _ rfl gr (5) (dep 7 rfl 11 rfl) (.bool b) ((blk_then hw hB).cellv (i := 5) rfl) _ Tryd.underlying4 rfl rfl) ?_
    exact Steps.nil
  intro u w1 hB1 ans
  have u4 : u 4 = .pointer (some ⟨gr, 0, none⟩) := ans 0 4 (by decide) rfl
  have u8 : u 8 = .slice (some ⟨g, 0, none⟩) N c := ans 4 8 (by decide) rfl
  have u12 : u 12 = .bool b := ans 8 12 (by decide) rfl
  clear ans
  simp only [putAll, List.foldl_cons, List.foldl_nil, Act.put, List.setIfInBounds_toArray, List.set_cons_zero, List.set_cons_succ, u4, u8, u12]
  clear u4 u8 u12
  simp only [List.drop]
  have hM1 := hM.then_ hB1
  have hw1 := blk_then hw hB1
  refine wl_call rfl _ _ _ rfl enter_rspread _ (map4 rfl rfl rfl rfl) ((rspread_any B0 gr N n c0 m d0 E R A B _ r b (some ⟨g, 0, none⟩) c x _ b true hx w1 hM1 hw1 ((hS.then_ hB1).slice_all encB_size)).mono ?_)
  rintro e w2 ⟨g1, c1, rfl, hg1, hS2, hB2⟩
  refine ⟨_, rfl, ?_⟩
  simp only [Act.put, List.setIfInBounds_toArray, List.set_cons_zero, List.set_cons_succ]
  rw [← Hy.out] at hS2
  have hM2 := hM1.then_ hB2
  have hw2 := blk_then hw1 hB2
  replace hB2 := below_then hB1 hB2
  clear hM hM1 hw hw1 hS hB1
  go_wp2_with (fail)
  have hmet : metN R y N < 4294967296 := met_lt hM2.lt y N
  have hor := u32_or_nat r (metN R y N) hr hmet
  go_upto_region 2 with (fail)
  refine wp_region_steps 9 [eqS (.pointer (some ⟨gr, 0, none⟩)), eqS (.pointer (some ⟨gr, 0, none⟩)), eqS (.pointer (some ⟨gr, 4, none⟩)), eqS (.int .u32 ((r : Nat))), eqS (.pointer (some ⟨gr, 0, none⟩)), eqS (.slice (some ⟨g1, 0, none⟩) N c1), eqS (.int .u32 ((metN R y N : Nat))), eqS (.int .u32 ((r ||| metN R y N : Nat))), eqS (.int .u32 ((r ||| metN R y N : Nat)))] [14, 15, 16, 17, 18, 19, 20, 21, 2] rfl (by kernel_rfl) rfl ?_ ?_
  · skip
    refine Steps.cons (fun a' w' hG hB dep => gs_move (want_none rfl) _ rfl (id (hG.other 0 rfl))) ?_
    refine Steps.cons (fun a' w' hG hB dep => gs_nil (want_none rfl) _ rfl _ (dep 0 rfl 14 rfl) rfl) ?_
    refine Steps.cons (fun a' w' hG hB dep => gs_field (want_none rfl) _ _ _ rfl gr 0 4 (dep 1 rfl 15 rfl) (fun wz => field_rwalk_2 gr 0 wz) rfl) ?_
    refine Steps.cons (fun a' w' hG hB dep => gs_load1 (want_none rfl) _ _ rfl gr (4) (dep 2 rfl 16 rfl) (.int .u32 ((r : Nat))) ((blk_then hw2 hB).cellv (i := 4) rfl) _ Tryd.underlying28 rfl rfl) ?_
    refine Steps.cons (fun a' w' hG hB dep => gs_move (want_none rfl) _ rfl (id (hG.other 0 rfl))) ?_
    refine Steps.cons (fun a' w' hG hB dep => gs_move (want_none rfl) _ rfl (id (hG.other 3 rfl))) ?_
    refine Steps.cons (fun a' w' hG hB dep => gs_call (want_none rfl) _ _ _ rfl enter_words _ (map2 (dep 4 rfl 18 rfl) (dep 5 rfl 19 rfl)) ((words_any B0 gr N n c0 m d0 E R A B _ r b (some ⟨g1, 0, none⟩) c1 y _ hyN w' (hM2.then_ hB) (blk_then hw2 hB) ((hS2.then_ hB).slice_all encB_size)).mono fun e2 w2 ⟨he, hb⟩ => ⟨_, he, by rw [hb]; exact Below.refl _ _, rfl⟩)) ?_
    refine Steps.cons (fun a' w' hG hB dep => gs_or_u32 (want_none rfl) _ _ _ _ rfl _ _ (dep 3 rfl 17 rfl) (dep 6 rfl 20 rfl) _ hor rfl) ?_
    refine Steps.cons (fun a' w' hG hB dep => gs_assign (want_none rfl) _ rfl (id (dep 7 rfl 21 rfl))) ?_
    exact Steps.nil
  intro u w3 hB3 ans
  have u2 : u 2 = .int .u32 (r ||| metN R y N : Nat) := ans 8 2 (by decide) rfl
  clear ans
  simp only [putAll, List.foldl_cons, List.foldl_nil, Act.put, List.setIfInBounds_toArray, List.set_cons_zero, List.set_cons_succ, u2]
  clear u2
  simp only [List.drop]
  refine wpList_nil ?_
  have hB4 := below_then hB2 hB3
  clear hB2 hB3 hM2 hw2 hS2 hor
  go_wp2_with (fail)
  go_ret
  exact ⟨rfl, hB4⟩
set_option maxRecDepth 100000 in
set_option maxHeartbeats 4000000 in
theorem rstates_any (B0 gr N n c0 m d0 : Nat) (E : List Edg) (R : List Nat) (A B : Option Addr) (k : Wk) (w : World) (h : RWalk B0 w gr N E R A n c0 B m d0 k) :
    Calls Tryd.prog 29 #[.pointer (some ⟨gr, 0, none⟩)] w fun e w' => ∃ v, e = .returned v ∧ Own w' w.heap.size 3 1 encN v (bitsTo k.at_ N) ∧ Below w.heap.size w w' := by
  obtain ⟨hM, hB0, hr, hx, g, c, hne, hw, hS⟩ := h
  obtain ⟨x, r, b⟩ := k
  simp only at hr hx hw hS ⊢
  have hN := hM.lN
  have hgl := hS.lt g rfl
  have hgr := hw.lt
  clear hM
  go_enter Tryd.func29, Tryd.ntmps29
  go_wp2_with (fail)
  go_loopw [4, 3] (fun i v wr => ∃ j : Nat, j ≤ N ∧ i = .int .i64 j ∧ Own wr w.heap.size 3 1 encN v (bitsTo x j) ∧ Below w.heap.size w wr) (fun i _ _ => N - (intOf i).toNat)
  case atStart => exact ⟨0, by omega, rfl, Own.nil_ _ _ _ _ _, Below.refl _ _⟩
  case round =>
    obtain ⟨j, hj, rfl, hL, hB⟩ := hrel
    have hwr := blk_then hw hB
    have hSr := hS.then_ hB
    have c3 : wr.cell? ⟨gr, 3, none⟩ = some (.slice (some ⟨g, 0, none⟩) N c) := hwr.cellv (i := 3) rfl
    by_cases hjl : j < N
    · have hjI : (j : Int) < N := by omega
      have hl : j < (boolsN x N).length := by rw [boolsN_length]; exact hjl
      have hc : wr.cell? ⟨g, j, none⟩ = some (.bool (x.testBit j)) := by
        have := hSr.row encB_size j hl 0 _ rfl
        rw [boolsN_get, Nat.mul_one] at this
        exact this
      have hjb : j < 1099511628000 := by omega
      have hsucc := bitsTo_succ x j
      have Hs := Lib.hid hsucc
      have hlen := bitsTo_length x j
      obtain ⟨L, hLL⟩ : ∃ L, L = bitsTo x j := ⟨_, rfl⟩
      rw [← hLL] at hL hlen
      have HL := Lib.hid hLL
      clear hLL hsucc
      cases hb : x.testBit j
      · rw [hb] at hc
        go_wp2_with (fail)
        exact ⟨⟨j + 1, by omega, rfl, by rw [Hs.out, if_neg (by rw [hb]; decide), ← HL.out]; exact hL, hB⟩, by simp only [intOf]; omega⟩
      · rw [hb] at hc
        obtain ⟨A7, k7, rfl, _, _⟩ := hL.shape
        obtain ⟨i1, hi1, hy0, hy1, hy2⟩ := info_parts info_int3
        go_wp2_with (at_builtin; refine park ?_)
        refine Parked.mk ?_
        have hB7 : Below wr.heap.size wr (wr.alloc (.cells #[.int .i64 (j : Int)] 3)) := below_alloc (Below.refl _ _) _
        have hL7 := hL.then_ hB7
        have hsz7 := hB7.size
        have hszB := hB.size
        refine wl_append _ rfl _ _ 54 rfl w.heap.size 3 i1 _ 1 8 Tryd.underlying54 hi1 hy0 hy1 hy2 rfl (by decide) encN_size encN_one (.slice A7 _ k7) _ rfl hL7 _ _ 1 1 [j] rfl rfl (slice_one (enc := encN) (Blk.new wr _ _)) (by unfold maxLen; omega) (by omega) (by omega) ?_
        intro v8 w8 hL8 hg8 hat8
        simp only [Act.put, List.setIfInBounds_toArray, List.set_cons_zero, List.set_cons_succ]
        have hB8 : Below w.heap.size w w8 := (below_then hB hB7).grown hg8 (by omega) (fun q e => by have := (hL7.lt q e).1; omega)
        clear hL hL7 hg8 hat8 hc c3 hwr hSr
        go_wp2_with (fail)
        exact ⟨⟨j + 1, by omega, rfl, by rw [Hs.out, if_pos hb, ← HL.out]; exact hL8, hB8⟩, by simp only [intOf]; omega⟩
    · have hjI : ¬ (j : Int) < N := by omega
      obtain rfl : j = N := by omega
      go_wp2_with (fail)
      go_ret
      exact ⟨_, rfl, hL, hB⟩
set_option maxRecDepth 100000 in
set_option maxHeartbeats 4000000 in
theorem rbegin_any (B0 : Nat) (s : Int) (A : Option Addr) (n c0 : Nat) (B : Option Addr) (m d0 : Nat) (E : List Edg) (R : List Nat) (hn : n = E.length) (hm : m = R.length) (hE : E.length ≤ 1099511627776) (hRl : R.length ≤ 1099511627776) (hR : ∀ r ∈ R, r < 4294967296) (w : World)
    (hsE : SliceOf w B0 7 edgC A E) (hsR : SliceOf w B0 1 encR B R) (hB0 : B0 ≤ w.heap.size) :
    Calls Tryd.prog 10 #[.agg (nfaC s A n c0 B m d0)] w fun e w' => Below w.heap.size w w' ∧
      ((rightB s E m = false ∧ e = .returned (.tuple #[.pointer none, .int .i64 70])) ∨
       (rightB s E m = true ∧ s = R.length ∧ ∃ gr, e = .returned (.tuple #[.pointer (some ⟨gr, 0, none⟩), .int .i64 0]) ∧ w.heap.size ≤ gr ∧ RWalk B0 w' gr R.length E R A n c0 B m d0 (begW E R.length R))) := by
  have hright := fun W1 h => rright_any s A n c0 B m d0 E hn hE W1 h
  have Hn := Lib.hid hn
  have Hm := Lib.hid hm
  clear hn hm
  go_enter Tryd.func10, Tryd.ntmps10
  have h1 := Blk.new w 25 (nfaC s A n c0 B m d0)
  have hB1 : Below w.heap.size w (w.alloc (.cells (nfaC s A n c0 B m d0) 25)) := below_alloc (Below.refl _ _) _
  go_upto_region 1 with (fail)
  obtain ⟨W1, hW1⟩ : ∃ y, y = w.alloc (.cells (nfaC s A n c0 B m d0) 25) := ⟨_, rfl⟩
  rw [← hW1] at h1 hB1 ⊢
  clear hW1
  replace hright := hright W1 ((hsE.keep (fun k hk => hB1.block k (by omega))).more (Nat.le_trans hB0 hB1.size))
  cases hrb : rightB s E m
  · rw [hrb] at hright
    go_wp2_with (first | (refine wl_load_nfa rfl _ rfl _ rfl _ _ _ _ _ _ _ h1 ?_) | (go_at_call 24; refine hright.mono ?_; rintro e w3 ⟨rfl, hB3⟩))
    go_ret2
    exact ⟨below_then hB1 hB3, .inl ⟨hrb, rfl⟩⟩
  rw [hrb] at hright
  obtain ⟨N, hsN, hf⟩ := right_fits (Hm.out ▸ hrb)
  have hNR : Hid (N = R.length) := Lib.hid hf.rules.symm
  subst hsN
  have hNN : N ≤ 1099511627776 := by rw [hNR.out]; exact hRl
  have hone := hf.one
  go_upto_region 4 with (first | (refine wl_load_nfa rfl _ rfl _ rfl _ _ _ _ _ _ _ h1 ?_) | (go_at_call 24; refine hright.mono ?_; rintro e w3 ⟨rfl, hB3⟩))
  replace h1 := blk_then h1 hB3
  replace hB1 := below_then hB1 hB3
  clear hright hB3
  go_upto_region 5 with (first | (refine wl_load_nfa rfl _ rfl _ rfl _ _ _ _ _ _ _ h1 ?_) | (refine wl_buildR rfl _ rfl _ _ _ _ _ _ _ rfl ?_) | (refine wl_boxR rfl _ rfl _ _ _ _ _ _ _ rfl ?_))
  have hgr := Blk.new w3 61 (rwalkC N A n c0 B m d0 (.slice none 0 0) 0 true)
  have hB4 : Below w3.heap.size w3 (w3.alloc (.cells #[.int .i64 (N : Int), .slice A n c0, .slice B m d0, .slice none 0 0, .int .u32 0, .bool true] 61)) := below_alloc (Below.refl _ _) _
  obtain ⟨w4, hw4⟩ : ∃ y, y = w3.alloc (.cells #[.int .i64 (N : Int), .slice A n c0, .slice B m d0, .slice none 0 0, .int .u32 0, .bool true] 61) := ⟨_, rfl⟩
  have hgr4 : Blk w4 w3.heap.size 61 (rwalkC N A n c0 B m d0 (.slice none 0 0) 0 true) := by rw [hw4]; exact hgr
  rw [← hw4] at hB4 ⊢
  clear hw4 hgr
  obtain ⟨gr, hgrd⟩ : ∃ q, q = w3.heap.size := ⟨_, rfl⟩
  have hgrl : w.heap.size ≤ gr := by rw [hgrd]; exact hB1.size
  rw [← hgrd] at hgr4 hB4 ⊢
  have Hgr := Lib.hid hgrd
  replace h1 := blk_then h1 (Hgr.out ▸ hB4)
  replace hB1 := below_then hB1 (Hgr.out ▸ hB4)
  clear hgrd hB4
  have hz4 := hB1.size
  have hM4 : RMach B0 w4 N E R A n B m := ⟨hf, Hn.out, by rw [Hm.out, hNR.out], hE, hNN, hR, hsE.keep (fun k hk => hB1.block k (by omega)), hsR.keep (fun k hk => hB1.block k (by omega)), by omega⟩
  have c1 : w4.cell? ⟨w.heap.size, 0, none⟩ = some (.int .i64 (N : Int)) := h1.cellv (i := 0) rfl
  go_upto_region 6 with (refine wl_makeB rfl _ _ rfl N B0 rfl rfl hNN (by omega) ?_; intro w5 hS5 hB5)
  have hgr5 := blk_then hgr4 hB5
  have hM5 := hM4.then_ hB5
  have hz45 := hB5.size
  have hgl4 := hgr4.lt
  replace hB5 := below_then hB1 hB5
  clear c1 h1 hgr4 hM4 hB1
  obtain ⟨g, hg⟩ : ∃ q, q = w4.heap.size := ⟨_, rfl⟩
  have hgw : w.heap.size ≤ g := by omega
  rw [← hg] at hS5 ⊢
  have hgrg : gr ≠ g := by omega
  clear hg
  go_upto_region 7 with (refine wl_store_one (enc := encB) encB_size rfl _ info_bool1 _ _ rfl g 0 N N rfl true rfl rfl rfl hS5 (by rw [boolsN_length]; exact hone) ?_; intro w6 hS6 hg6)
  rw [boolsN_set, Nat.zero_or] at hS6
  have hgr6 := blk_grown hgr5 hg6 hgrg
  have hgrl6 := hgr6.lt
  have hM6 := hM5.grown hg6 (by omega)
  have hB6 := below_grown hB5 hg6 hgw
  have hx1 : below (2 ^ 0) N := below_pow (show 0 < N from hone)
  clear hS5 hgr5 hM5 hB5 hg6
  go_upto_region 8 with (first
    | (go_at_call 25; refine (rspread_any B0 gr N n c0 m d0 E R A B _ 0 true (some ⟨g, 0, none⟩) N (2 ^ 0) _ true false hx1 w6 hM6 hgr6 (hS6.slice_all encB_size)).mono ?_; rintro e w7 ⟨g2, c2, rfl, hg2, hS7, hB7⟩; replace hgr6 := blk_then hgr6 hB7)
    | (refine wl_store_cell rfl _ _ _ rfl _ _ rfl _ _ (rwalkC N A n c0 B m d0 (.slice (some ⟨g2, 0, none⟩) N c2) 0 true) hgr6 (by simp [rwalkC]) info_bools1 rfl rfl rfl ?_; intro w8 hgr8 hg8))
  have hM8 := (hM6.then_ hB7).grown hg8 (by omega)
  have hS8 := own_box hS7 hgr6 hg8 (by decide)
  have hz67 := hB6.size
  have hB8 := below_grown (below_then hB6 hB7) hg8 hgrl
  obtain ⟨y, hy⟩ : ∃ y, y = spreadN E N true false (2 ^ 0) := ⟨_, rfl⟩
  have hyN : below y N := by rw [hy]; exact spread_below _ _ _ _ _
  rw [← hy] at hS8
  have Hy := Lib.hid hy
  clear hy hS7 hgr6 hM6 hB6 hB7 hg8 hS6
  have c3 : w8.cell? ⟨gr, 3, none⟩ = some (.slice (some ⟨g2, 0, none⟩) N c2) := hgr8.cellv (i := 3) rfl
  go_upto_region 9 with (first
    | (go_at_call 26; refine (words_any B0 gr N n c0 m d0 E R A B _ 0 true (some ⟨g2, 0, none⟩) c2 y _ hyN w8 hM8 hgr8 (hS8.slice_all encB_size)).mono ?_; rintro e w9 ⟨rfl, rfl⟩)
    | (refine wl_store_cell rfl _ _ _ rfl _ _ rfl _ _ (rwalkC N A n c0 B m d0 (.slice (some ⟨g2, 0, none⟩) N c2) (metN R y N) true) hgr8 (by simp [rwalkC]) info_u32 rfl rfl rfl ?_; intro wa hgra hga))
  have hMa := hM8.grown hga (by omega)
  have hSa := own_box hS8 hgr8 hga (by decide)
  have hBa := below_grown hB8 hga hgrl
  have hg2l := hS8.lt g2 rfl
  clear c3 hgr8 hM8 hS8 hB8 hga
  go_wp2_with (fail)
  go_ret2
  refine ⟨hBa, .inr ⟨hrb, by rw [hNR.out], gr, rfl, hgrl, ?_⟩⟩
  rw [← hNR.out]
  have hbg : begW E N R = ⟨y, metN R y N, true⟩ := by rw [Hy.out]; rfl
  rw [hbg]
  exact ⟨hMa, by omega, met_lt hR _ _, hyN, g2, c2, by omega, hgra, hSa.mono (by omega)⟩
end Go.Proofs.YtgahdookojbbiaaDoor
