/- Part 10 of a proof; packed: the texts that it was made of follow one another. No condition beyond those named in each lemma. -/
import Derived.Test.YtkedgombccdamaaDoorPf1
import Derived.Test.YtkedgombccdamaaDoorPf2
import Derived.Test.YtkedgombccdamaaDoorPf4
import Derived.Test.YtkedgombccdamaaDoorPf7
import Derived.Test.YtkedgombccdamaaDoorPf8
import Derived.Test.YtkedgombccdamaaDoorPf9
import Derived.Laws.BitsAllLaws
import Derived.Laws.CopyOwn
import Derived.StringKeys
namespace Go.Proofs.YtkedgombccdamaaDoor
open Go.RowKit Go.Shelf Go.Maps
set_option linter.unusedVariables false
set_option linter.unusedSimpArgs false
attribute [local go_sem] Oper.semAt_some
structure Mo where
  at_ : Nat
  met : Nat
  end_ : Nat
deriving DecidableEq
noncomputable def moN (E : List Edg) (N : Nat) (R : List Nat) (x met : Nat) (b : Bool) : Mo :=
  ⟨spreadN E N b false (x ||| 1), met ||| metN R (spreadN E N b false (x ||| 1)) N, (met ||| metN R (spreadN E N b false (x ||| 1)) N) ||| metN R (spreadN E N b true (spreadN E N b false (x ||| 1))) N⟩
theorem info_mom : (Tryd.prog.info? 92).map (·.size) = some 3 := by kernel_rfl
theorem build_mom (A : Option Addr) (k c r : Nat) (w : World) : (Instr.build 92 #[(0, .slice A k c), (1, .int .u32 (r : Int))]).run Tryd.prog w = .ok (.agg (momC A k c r 0)) w := by kernel_rfl
theorem enter_krules (args : Array Value) (w : World) : (callFunc 68 args).run Tryd.prog w = .ok (.enter 68 args) w := by kernel_rfl
theorem momC_one (A : Option Addr) (k c r e : Nat) : (momC A k c r e).all (·.oneCell') = true := by simp [momC, Value.oneCell']
section
variable {ops : Array Oper} {rest : List Oper} {o : Oper} {a : Act} {w : World} {Q : Exit → Act → World → Prop}
theorem wl_store_mom (hgd : o.guard = none) (x y : Operand) (ho : o.op = .store 92 x y) (g : Nat) (A : Option Addr) (k c r e : Nat) (hx : a.eval x = .pointer (some ⟨g, 0, none⟩)) (hy : a.eval y = .agg (momC A k c r e)) (old : Array Value) (ho2 : old.size = 3) (hb : Blk w g 92 old)
    (h : ∀ w', Blk w' g 92 (momC A k c r e) → w.grownBy w' (some g) → wpList Tryd.prog ops Q rest (a.put o.dst undef) w') : wpList Tryd.prog ops Q (o :: rest) a w :=
  wpList_store_row hgd _ x y ho g _ hx hy _ _ hb (info_mom.trans rfl) (by rw [ho2]; rfl) (momC_one _ _ _ _ _) (h _ (hb.setRow_same _) (only_setRow (only_refl _ _) _))
theorem wl_load_mom (hgd : o.guard = none) (x : Operand) (ho : o.op = .load 92 x) (g : Nat) (hx : a.eval x = .pointer (some ⟨g, 0, none⟩)) (A : Option Addr) (k c r e : Nat) (hb : Blk w g 92 (momC A k c r e))
    (h : wpList Tryd.prog ops Q rest (a.put o.dst (.agg (momC A k c r e))) w) : wpList Tryd.prog ops Q (o :: rest) a w :=
  wpList_load_row hgd _ x ho g hx _ _ _ _ hb Tryd.underlying92 rfl (info_mom.trans rfl) h
theorem wl_build_mom (hgd : o.guard = none) (x y : Operand) (ho : o.op = .build 92 #[(0, x), (1, y)]) (A : Option Addr) (k c r : Nat) (hx : a.eval x = .slice A k c) (hy : a.eval y = .int .u32 (r : Int))
    (h : wpList Tryd.prog ops Q rest (a.put o.dst (.agg (momC A k c r 0))) w) : wpList Tryd.prog ops Q (o :: rest) a w :=
  wl_run hgd (v := .agg (momC A k c r 0)) (by unfold execOp; simp only [ho, List.map_toArray, List.map_cons, List.map_nil, hx, hy, Sem.run_bind, build_mom, Result.andThen_ok, Sem.run_pure]) h
end
set_option maxRecDepth 100000 in
set_option maxHeartbeats 8000000 in
theorem kmoment_any (nb gk N base g c x met : Nat) (E : List Edg) (R : List Nat) (beg : Bool) (hx : below x N) (hm : met < 4294967296) (w : World) (hM : SMach nb w gk N E R) (hS : Own w base 50 1 encU (.slice (some ⟨g, 0, none⟩) (wordsFor N) c) (wordsN x (wordsFor N))) (hgn : nb ≤ g) :
    Calls Tryd.prog 38 #[.pointer (some ⟨gk, 0, none⟩), .slice (some ⟨g, 0, none⟩) (wordsFor N) c, .int .u32 (met : Int), .bool beg] w fun e w' => e = .returned (.agg (momC (some ⟨g, 0, none⟩) (wordsFor N) c (moN E N R x met beg).met (moN E N R x met beg).end_)) ∧ Own w' base 50 1 encU (.slice (some ⟨g, 0, none⟩) (wordsFor N) c) (wordsN (moN E N R x met beg).at_ (wordsFor N)) ∧ Turn g (g + 1) w w' := by
  have hN := hM.lN
  have hone := hM.fits.one
  have hkb : wordsFor N ≤ 1099511627776 := by unfold wordsFor; omega
  have hk1 : 0 < wordsFor N := by unfold wordsFor; omega
  have hkI := words_room N
  have hgl := (hS.lt g rfl).2
  have HMt := Lib.hid (fun W (hW : Turn g (g + 1) w W) => hM.turn hW hgn)
  have Hlt := Lib.hid (fun y => met_lt (fun r hr => hM.lt r hr) y N)
  obtain ⟨y, hy⟩ : ∃ y, y = spreadN E N beg false (x ||| 1) := ⟨_, rfl⟩
  obtain ⟨r0, hr0⟩ : ∃ r, r = metN R y N := ⟨_, rfl⟩
  obtain ⟨r1, hr1⟩ : ∃ r, r = met ||| r0 := ⟨_, rfl⟩
  obtain ⟨y2, hy2⟩ : ∃ z, z = spreadN E N beg true y := ⟨_, rfl⟩
  obtain ⟨r2, hr2⟩ : ∃ r, r = metN R y2 N := ⟨_, rfl⟩
  obtain ⟨e2, he2⟩ : ∃ r, r = r1 ||| r2 := ⟨_, rfl⟩
  have hmo : moN E N R x met beg = ⟨y, r1, e2⟩ := by rw [he2, hr2, hy2, hr1, hr0, hy]; rfl
  rw [hmo]
  have hx1 : below (x ||| 2 ^ 0) N := below_or hx (below_pow (by omega))
  have hy0 : y = spreadN E N beg false (x ||| 2 ^ 0) := hy
  have hyN : below y N := by rw [hy]; exact spread_below _ _ _ _ _
  have hr0l : r0 < 4294967296 := by rw [hr0]; exact Hlt.out _
  have hr1l : r1 < 4294967296 := by rw [hr1]; exact Nat.or_lt_two_pow (n := 32) hm hr0l
  have hr2l : r2 < 4294967296 := by rw [hr2]; exact Hlt.out _
  have hor1 := u32_or_nat met r0 hm hr0l
  have hor2 := u32_or_nat r1 r2 hr1l hr2l
  rw [← hr1] at hor1
  rw [← he2] at hor2
  have Hy := Lib.hid hy0
  have Hr0 := Lib.hid hr0
  have Hy2 := Lib.hid hy2
  have Hr2 := Lib.hid hr2
  have Hx1 := Lib.hid hx1
  have HyN := Lib.hid hyN
  have Hor2 := Lib.hid hor2
  have hT0 := Turn.refl g (g + 1) w
  clear hy hr0 hr1 hy2 hr2 he2 hmo hx1 hy0 hyN hx hM hor2 hone
  go_enter Tryd.func38, Tryd.ntmps38
  go_upto_region 1 with (fail)
  have hBa : Below w.heap.size w (w.alloc (.cells #[.slice none 0 0, .int .u32 0, .int .u32 0] 92)) := below_alloc (Below.refl _ _) _
  have k8 : Blk (w.alloc (.cells #[.slice none 0 0, .int .u32 0, .int .u32 0] 92)) w.heap.size 92 (momC none 0 0 0 0) := Blk.new w 92 (momC none 0 0 0 0)
  obtain ⟨W1, hW1⟩ : ∃ y, y = w.alloc (.cells #[.slice none 0 0, .int .u32 0, .int .u32 0] 92) := ⟨_, rfl⟩
  obtain ⟨g8, hg8⟩ : ∃ y, y = w.heap.size := ⟨_, rfl⟩
  have hg8w : w.heap.size ≤ g8 := by omega
  rw [← hW1, ← hg8] at k8 ⊢
  rw [← hW1] at hBa
  have hg8g : g8 ≠ g := by omega
  replace hS := hS.then_ hBa
  have hT1 := hT0.then_ hBa
  clear hg8 hW1 hBa hT0
  go_upto_region 2 with (go_at_call 66; refine (kadd_any g (wordsFor N) c x 0 base (by omega) hkb _ hS).mono ?_; rintro en w2 ⟨rfl, hS2, hg2⟩)
  have hT2 := hT1.grown hg2 (fun r e => by injection e with e; omega)
  have k8' := blk_grown k8 hg2 hg8g
  clear hS hT1 k8 hg2
  have kS := kspread_any nb gk N base g c (x ||| 2 ^ 0) E R beg false Hx1.out w2 (HMt.out w2 hT2) hS2 hgn
  rw [← Hy.out] at kS
  go_upto_region 3 with (go_at_call 67; refine kS.mono ?_; rintro en w3 ⟨rfl, hS3, hTs⟩)
  have hT3 := hT2.trans hTs
  have k83 := blk_turn k8' hTs (by omega)
  clear hS2 hT2 k8' hTs kS
  have kR := krules_any nb gk N w3.heap.size g c y E R w3 (HMt.out w3 hT3) (hS3.slice_all encU_size)
  rw [← Hr0.out] at kR
  go_upto_region 4 with (first
    | (go_at_call 68; refine kR.mono ?_; rintro en w4 ⟨rfl, rfl⟩)
    | (refine wl_build_mom rfl _ _ rfl (some ⟨g, 0, none⟩) (wordsFor N) c r1 rfl rfl ?_)
    | (refine wl_store_mom rfl _ _ rfl _ (some ⟨g, 0, none⟩) (wordsFor N) c r1 0 rfl rfl (momC none 0 0 0 0) rfl (Blk.new _ _ _) ?_; intro w5 k9 hg5))
  have hB5 : Below w4.heap.size w4 w5 := below_grown (below_alloc (Below.refl _ _) _) hg5 (Nat.le_refl _)
  obtain ⟨g9, hg9⟩ : ∃ y, y = w4.heap.size := ⟨_, rfl⟩
  have hg9w : w.heap.size ≤ g9 := by have := hT3.size; omega
  have hg8l := k83.lt
  have hgl3 := (hS3.lt g rfl).2
  have hg98 : g9 ≠ g8 := by omega
  have hg9g : g9 ≠ g := by omega
  rw [← hg9] at k9 ⊢
  have hT5 := hT3.then_ hB5
  have hS5 := hS3.then_ hB5
  have k85 := blk_then k83 hB5
  obtain ⟨i0, hi0, hz0, hz1, hz2⟩ := info_parts info_u64z
  have hB6 : Below w5.heap.size w5 (w5.alloc (.cells #[] 50)) := below_alloc (Below.refl _ _) _
  have hk2 : wordsFor N ≤ 549755813889 := by unfold wordsFor; omega
  have hs5 := hT5.size
  clear hg5 hB5 hg9 hS3 k83 hT3 kR hor1
  go_upto_region 5 with (at_builtin; refine wl_append (enc := encU) _ rfl _ _ 90 rfl w.heap.size 50 i0 _ 1 8 Tryd.underlying90 hi0 hz0 hz1 hz2 rfl (by decide) encU_size encU_one _ _ rfl (own_empty (w := w5) (e := 50) (size := 1) (base := w.heap.size) hs5) _ _ _ _ (wordsN y (wordsFor N)) rfl (wordsN_length _ _).symm ((hS5.then_ hB6).slice_all encU_size) (by simp only [List.length_nil]; unfold maxLen; omega) (by simp only [List.length_nil]; omega) (by simp; omega) ?_; intro v6 w6 hs6 hg6 hv6)
  rw [List.nil_append] at hs6
  obtain ⟨gl, cl, hv1, hgb1, hgb2, _⟩ := hs6.form (by rw [wordsN_length]; exact hk1)
  rw [wordsN_length] at hv1
  subst hv1
  have hB56 : Below w5.heap.size w5 w6 := below_grown hB6 hg6 (Nat.le_refl _)
  have hglw : w5.heap.size ≤ gl := by
    rcases hv6 with h | h
    · injection h with h; simp only at h; omega
    · injection h with h; simp at h; omega
  have k9' := blk_then k9 hB56
  have hg9l := k9.lt
  have hg8l5 := k85.lt
  replace hS5 := hS5.then_ hB56
  replace hT5 := hT5.then_ hB56
  replace k85 := blk_then k85 hB56
  have hgl5 : g < w5.heap.size := by omega
  have hnbl : nb ≤ gl := by have := (HMt.out w (Turn.refl _ _ _)).low; omega
  clear hB6 hB56 hg6 hv6 hi0 hz0 hz1 hz2 k9
  have kS2 := kspread_any nb gk N w.heap.size gl cl y E R beg true HyN.out w6 (HMt.out w6 hT5) hs6 hnbl
  rw [← Hy2.out] at kS2
  go_upto_region 6 with (go_at_call 67; refine kS2.mono ?_; rintro en w7 ⟨rfl, hS7, hTl⟩)
  have hT7 := hT5.above hTl (by omega)
  have hSg := own_turn hS5 hTl (by omega)
  have k9 := blk_turn k9' hTl (by omega)
  have k87 := blk_turn k85 hTl (by omega)
  clear hS5 hT5 k85 k9' hTl kS2 hs6
  have kR2 : ∀ W, Below w7.heap.size w7 W → Calls Tryd.prog 68 #[.pointer (some ⟨gk, 0, none⟩), .slice (some ⟨gl, 0, none⟩) (wordsFor N) cl] W fun e w' => e = .returned (.int .u32 ((r2 : Nat) : Int)) ∧ Below W.heap.size W w' := fun W hW => by
    have := krules_any nb gk N W.heap.size gl cl y2 E R W (HMt.out W (hT7.then_ hW)) ((hS7.then_ hW).slice_all encU_size)
    rw [← Hr2.out] at this
    exact this.mono fun e w' h => ⟨h.1, by rw [h.2]; exact Below.refl _ _⟩
  have hor2 := Hor2.out
  refine wp_region_steps 7 [eqS (.pointer (some ⟨g9, 1, none⟩)), eqS (.int .u32 (((r1 : Nat) : Int))), eqS (.pointer (some ⟨gk, 0, none⟩)), eqS (.slice (some ⟨gl, 0, none⟩) (wordsFor N) cl), eqS (.int .u32 (((r2 : Nat) : Int))), eqS (.int .u32 (((e2 : Nat) : Int))), eqS (.pointer (some ⟨g9, 2, none⟩))] [31, 32, 33, 34, 35, 36, 37] follows_mixed (by kernel_rfl) (by kernel_rfl) ?_ ?_
  · skip
    refine Steps.cons (fun a' w' hG hB dep => gs_field (want_none rfl) _ _ _ rfl g9 (0) (1) (hG.other 9 rfl) (fun wz => field_mom_1 g9 (0) wz) rfl) ?_
    refine Steps.cons (fun a' w' hG hB dep => gs_load1 (want_none rfl) _ _ rfl g9 (1) (dep 0 rfl 31 rfl) (.int .u32 (((r1 : Nat) : Int))) ((blk_then k9 hB).cellv (i := 1) rfl) _ Tryd.underlying43 rfl rfl) ?_
    refine Steps.cons (fun a' w' hG hB dep => gs_move (want_none rfl) _ rfl (id (hG.other 0 rfl))) ?_
    refine Steps.cons (fun a' w' hG hB dep => gs_move (want_none rfl) _ rfl (id (hG.other 10 rfl))) ?_
    refine Steps.cons (fun a' w' hG hB dep => gs_call (want_none rfl) _ _ _ rfl enter_krules #[(.pointer (some ⟨gk, 0, none⟩)), (.slice (some ⟨gl, 0, none⟩) (wordsFor N) cl)] (map2 (dep 2 rfl 33 rfl) (dep 3 rfl 34 rfl)) (ret_step (kR2 _ hB) (fun _ => rfl))) ?_
    refine Steps.cons (fun a' w' hG hB dep => gs_or_u32 (want_none rfl) _ _ _ _ rfl _ _ (dep 1 rfl 32 rfl) (dep 4 rfl 35 rfl) _ hor2 rfl) ?_
    refine Steps.cons (fun a' w' hG hB dep => gs_field (want_none rfl) _ _ _ rfl g9 (0) (2) (hG.other 9 rfl) (fun wz => field_mom_2 g9 (0) wz) rfl) ?_
    exact Steps.nil
  intro uu w8 hB8 ans
  have u36 : uu 36 = .int .u32 ((e2 : Nat) : Int) := ans 5 36 (by decide) rfl
  have u37 : uu 37 = .pointer (some ⟨g9, 2, none⟩) := ans 6 37 (by decide) rfl
  clear ans
  simp only [putAll, List.foldl_cons, List.foldl_nil, Act.put, List.setIfInBounds_toArray, List.set_cons_zero, List.set_cons_succ, u36, u37]
  clear u36 u37 kR2 hor2
  simp only [List.drop]
  replace hT7 := hT7.then_ hB8
  replace hSg := hSg.then_ hB8
  replace k9 := blk_then k9 hB8
  replace k87 := blk_then k87 hB8
  clear hB8 hS7
  refine wl_store_cell rfl _ _ _ rfl g9 2 rfl 92 _ (momC (some ⟨g, 0, none⟩) (wordsFor N) c r1 e2) k9 (by show 2 < 3; omega) (by kernel_rfl) rfl rfl rfl ?_
  intro w9 k99 hg99
  refine wpList_nil ?_
  have hT9 := hT7.grown hg99 (fun r e => by injection e with e; omega)
  have hSg9 := own_grown' hSg hg99 (fun h => hg9g h.symm)
  have k89 := blk_grown k87 hg99 (fun h => hg98 h.symm)
  clear hT7 hSg k9 k87 hg99
  go_wp2_with (first
    | (refine wl_load_mom rfl _ rfl g9 rfl (some ⟨g, 0, none⟩) (wordsFor N) c r1 e2 k99 ?_)
    | (refine wl_store_mom rfl _ _ rfl g8 (some ⟨g, 0, none⟩) (wordsFor N) c r1 e2 rfl rfl (momC none 0 0 0 0) rfl k89 ?_; intro wa ka hga))
  refine ret_cell rfl _ rfl ka Tryd.underlying92 rfl (info_mom.trans rfl) rfl ?_
  exact ⟨rfl, own_grown' hSg9 hga (fun h => hg8g h.symm), hT9.grown hga (fun r e => by injection e with e; omega)⟩
end Go.Proofs.YtkedgombccdamaaDoor
namespace Go.Proofs.YtkedgombccdamaaDoor
open Go.RowKit Go.Shelf Go.Maps
set_option linter.unusedVariables false
set_option linter.unusedSimpArgs false
attribute [local go_sem] Oper.semAt_some
def hopP (E : List Edg) (x cb n i : Nat) : Prop := ∃ d ∈ E, d.kd = 2 ∧ d.fr.toNat < n ∧ x.testBit d.fr.toNat = true ∧ d.st.getLsbD cb = true ∧ d.tt.toNat = i
def hopQ (E : List Edg) (cb n j i : Nat) : Prop := ∃ d ∈ (edgesAt E n).take j, d.kd = 2 ∧ d.st.getLsbD cb = true ∧ d.tt.toNat = i
theorem hopP_skip {E : List Edg} {x cb n : Nat} (hE : ∀ d ∈ E, 0 ≤ d.fr) (h : x.testBit n = false) (i : Nat) : hopP E x cb (n + 1) i ↔ hopP E x cb n i := by
  constructor
  · rintro ⟨d, h1, h2, h3, h4, h5⟩
    by_cases e : d.fr.toNat = n
    · rw [e, h] at h4; cases h4
    · exact ⟨d, h1, h2, by omega, h4, h5⟩
  · rintro ⟨d, h1, h2, h3, h4⟩
    exact ⟨d, h1, h2, by omega, h4⟩
theorem hopP_step {E : List Edg} {x cb n : Nat} (hE : ∀ d ∈ E, 0 ≤ d.fr) (h : x.testBit n = true) (j : Nat) (hj : (edgesAt E n).length ≤ j) (i : Nat) : hopP E x cb (n + 1) i ↔ hopP E x cb n i ∨ hopQ E cb n j i := by
  unfold hopQ
  rw [List.take_of_length_le hj]
  constructor
  · rintro ⟨d, h1, h2, h3, h4, h5, h6⟩
    by_cases e : d.fr.toNat = n
    · exact .inr ⟨d, mem_edgesAt.2 ⟨h1, by have := hE d h1; omega⟩, h2, h5, h6⟩
    · exact .inl ⟨d, h1, h2, by omega, h4, h5, h6⟩
  · rintro (⟨d, h1, h2, h3, h4⟩ | ⟨d, h1, h2, h5, h6⟩)
    · exact ⟨d, h1, h2, by omega, h4⟩
    · obtain ⟨h1, h7⟩ := mem_edgesAt.1 h1
      have e : d.fr.toNat = n := by omega
      exact ⟨d, h1, h2, by omega, by rw [e]; exact h, h5, h6⟩
theorem hopQ_succ {E : List Edg} {cb n j : Nat} (hj : j < (edgesAt E n).length) (i : Nat) : hopQ E cb n (j + 1) i ↔ hopQ E cb n j i ∨ ((edgesAt E n)[j].kd = 2 ∧ (edgesAt E n)[j].st.getLsbD cb = true ∧ (edgesAt E n)[j].tt.toNat = i) := by
  unfold hopQ
  rw [List.take_succ_eq_append_getElem hj]
  constructor
  · rintro ⟨d, h1, h2⟩
    rcases List.mem_append.1 h1 with h1 | h1
    · exact .inl ⟨d, h1, h2⟩
    · rw [List.mem_singleton] at h1
      subst h1
      exact .inr h2
  · rintro (⟨d, h1, h2⟩ | h2)
    · exact ⟨d, List.mem_append_left _ h1, h2⟩
    · exact ⟨_, List.mem_append_right _ (List.mem_singleton.2 rfl), h2⟩
theorem hop_byte {E : List Edg} {N x cb y : Nat} (hN : 1 ≤ N) (hE : ∀ d ∈ E, (0 ≤ d.fr ∧ d.fr < N) ∧ 0 ≤ d.tt ∧ d.tt < N) (h : ∀ i, y.testBit i = true ↔ hopP E x cb N i) : y ||| 1 = byteN E N x cb ||| 1 := by
  apply bits_ext
  intro i
  have h1 : Nat.testBit 1 i = decide (0 = i) := by rw [show (1 : Nat) = 2 ^ 0 from rfl, Nat.testBit_two_pow]
  rw [Nat.testBit_or, Nat.testBit_or, Bool.or_eq_true, Bool.or_eq_true, h, byte_bit, h1, decide_eq_true_eq]
  constructor
  · rintro (⟨d, h1, h2, h3, h4, h5, h6⟩ | h)
    · exact .inl ⟨by have := hE d h1; omega, .inr ⟨d, h1, h2, h4, h5, h6⟩⟩
    · exact .inr h
  · rintro (⟨_, h | ⟨d, h1, h2, h4, h5, h6⟩⟩ | h)
    · exact .inr h.symm
    · exact .inl ⟨d, h1, h2, by have := hE d h1; omega, h4, h5, h6⟩
    · exact .inr h
theorem moN_or {E : List Edg} {N : Nat} {R : List Nat} {x y met : Nat} {b : Bool} (h : x ||| 1 = y ||| 1) : moN E N R x met b = moN E N R y met b := by unfold moN; rw [h]
end Go.Proofs.YtkedgombccdamaaDoor
namespace Go.Proofs.YtkedgombccdamaaDoor
open Go.RowKit Go.Shelf Go.Maps
set_option linter.unusedVariables false
set_option linter.unusedSimpArgs false
attribute [local go_sem] Oper.semAt_some
set_option maxRecDepth 100000 in
set_option maxHeartbeats 8000000 in
theorem kbehind_any (nb gk N B K c x r e0 cb : Nat) (A : Option Addr) (E : List Edg) (R : List Nat) (hK : K = wordsFor N) (hr : r < 4294967296) (hcb : cb < 256) (w : World) (hM : SMach nb w gk N E R) (hB : B ≤ w.heap.size) (hS : SliceOf w B 1 encU A (wordsN x K)) :
    Calls Tryd.prog 40 #[.pointer (some ⟨gk, 0, none⟩), .agg (momC A K c r e0), .int .u8 cb] w fun e w' => ∃ g, e = .returned (.agg (momC (some ⟨g, 0, none⟩) (wordsFor N) (wordsFor N) (moN E N R (byteN E N x cb) r false).met (moN E N R (byteN E N x cb) r false).end_)) ∧ w.heap.size ≤ g ∧ Own w' w.heap.size 50 1 encU (.slice (some ⟨g, 0, none⟩) (wordsFor N) (wordsFor N)) (wordsN (moN E N R (byteN E N x cb) r false).at_ (wordsFor N)) ∧ Below w.heap.size w w' := by
  subst hK
  have hN := hM.lN
  have hone := hM.fits.one
  have HF := Lib.hid hM.fits
  have hkb : wordsFor N ≤ 1099511627776 := by unfold wordsFor; omega
  have hkI := words_room N
  have hlow := hM.low
  have hEb : ∀ d ∈ E, (0 ≤ d.fr ∧ d.fr < N) ∧ 0 ≤ d.tt ∧ d.tt < N := fun d hd => ⟨HF.out.fr d hd, HF.out.tt d hd⟩
  have Hby := Lib.hid (fun (y : Nat) (h : ∀ i, y.testBit i = true ↔ hopP E x cb N i) => (moN_or (E := E) (N := N) (R := R) (met := r) (b := false) (hop_byte hone hEb h)))
  have HMt := Lib.hid (fun W (hW : Below w.heap.size w W) => hM.below hW hlow)
  have HSl := Lib.hid (fun W (hW : Below w.heap.size w W) => (hS.keep (w' := W) fun k hk => hW.block k (by omega)))
  have c0 : w.cell? ⟨gk, 0, none⟩ = some (.int .i64 (N : Int)) := by
    obtain ⟨h1, A, n, c, B, d, bf, cF, hb, h3, h4, h5⟩ := hM.mem
    exact hb.cellv rfl
  have HEb := Lib.hid hEb
  clear hM hS hEb
  go_enter Tryd.func40, Tryd.ntmps40
  go_upto_region 1 with (fail)
  have h1 : Blk (w.alloc (.cells (momC A (wordsFor N) c r e0) 92)) w.heap.size 92 (momC A (wordsFor N) c r e0) := Blk.new w _ _
  have hB1 : Below w.heap.size w (w.alloc (.cells (momC A (wordsFor N) c r e0) 92)) := below_alloc (Below.refl _ _) _
  obtain ⟨w1, hw1⟩ : ∃ y, y = w.alloc (.cells (momC A (wordsFor N) c r e0) 92) := ⟨_, rfl⟩
  have hs1 : w1.heap.size = w.heap.size + 1 := by rw [hw1]; exact Array.size_push ..
  rw [← hw1] at h1 hB1 ⊢
  clear hw1
  have h16 : Blk (w1.alloc (.cells #[.slice none 0 0, .int .u32 0, .int .u32 0] 92)) w1.heap.size 92 (momC none 0 0 0 0) := Blk.new w1 92 (momC none 0 0 0 0)
  have hB2 : Below w.heap.size w (w1.alloc (.cells #[.slice none 0 0, .int .u32 0, .int .u32 0] 92)) := below_alloc hB1 _
  have h12 := blk_then h1 (below_alloc (Below.refl w1.heap.size w1) (.cells #[.slice none 0 0, .int .u32 0, .int .u32 0] 92))
  obtain ⟨w2, hw2⟩ : ∃ y, y = w1.alloc (.cells #[.slice none 0 0, .int .u32 0, .int .u32 0] 92) := ⟨_, rfl⟩
  have hs2 : w2.heap.size = w.heap.size + 2 := by rw [hw2, show w.heap.size + 2 = w1.heap.size + 1 by omega]; exact Array.size_push ..
  rw [← hw2, hs1] at h16
  rw [← hw2] at hB2 h12 ⊢
  obtain ⟨gx, hgx⟩ : ∃ y, y = w.heap.size := ⟨_, rfl⟩
  rw [← hgx] at h16 h12 ⊢
  have Hgx := Lib.hid hgx
  clear hw2 hs1 h1 hB1 hgx
  go_upto_region 2 with (go_at_call 39; refine (knone_any nb gk N E R _ (HMt.out w2 hB2)).mono ?_; rintro e w3 ⟨g, rfl, hgl, hS3, hB3⟩)
  have hgw : w.heap.size + 2 ≤ g := by omega
  replace hS3 := hS3.mono (base' := w.heap.size) (by omega)
  have hB03 := below_then hB2 hB3
  have h13 := blk_then h12 hB3
  have h63 := blk_then h16 hB3
  have c03 := (World.cell?_of_block (w := w) (hB03.block gk (Nat.lt_of_lt_of_le (HMt.out w (Below.refl _ _)).mem.1 hlow))).trans c0
  clear hB3 hB2 h12 h16 c0 hgl
  have hi0 : ∀ i, Nat.testBit 0 i = true ↔ hopP E x cb 0 i := fun i => by
    constructor
    · intro h; simp at h
    · rintro ⟨d, _, _, h, _⟩; omega
  go_wp2_with (fail)
  go_loopw [18] (fun iv wr => ∃ n y : Nat, n ≤ N ∧ iv = .int .i64 n ∧ below y N ∧ (∀ i, y.testBit i = true ↔ hopP E x cb n i) ∧ Own wr w.heap.size 50 1 encU (.slice (some ⟨g, 0, none⟩) (wordsFor N) (wordsFor N)) (wordsN y (wordsFor N)) ∧ Below w.heap.size w wr ∧ Blk wr gx 92 (momC A (wordsFor N) c r e0) ∧ Blk wr (gx + 1) 92 (momC none 0 0 0 0)) (fun iv _ => N - (intOf iv).toNat)
  case atStart => exact ⟨0, 0, by omega, rfl, below_zero N, hi0, hS3, hB03, h13, h63⟩
  case round =>
    clear hi0 hS3 hB03 h13 h63 c03
    obtain ⟨n, y, hn, rfl, hy, hi, hS, hBw, hx, h6⟩ := hrel
    by_cases hnl : n < N
    · have hnI : (n : Int) < N := by omega
      have hnb : n < 1099511628000 := by omega
      have cx : wr.cell? ⟨gx, 0, none⟩ = some (.slice A (wordsFor N) c) := hx.cellv (i := 0) rfl
      have hh := khas_any A (wordsFor N) c x n (by omega) hkb B wr (HSl.out wr hBw)
      obtain ⟨b, hbt⟩ : ∃ b, x.testBit n = b := ⟨_, rfl⟩
      rw [hbt] at hh
      have Hb := Lib.hid hbt
      have Hi := Lib.hid hi
      have Hy := Lib.hid hy
      clear hbt hi hy
      cases b with
      | false =>
        have hi1 : ∀ i, y.testBit i = true ↔ hopP E x cb (n + 1) i := fun i => (Hi.out i).trans (hopP_skip (fun d hd => (HEb.out d hd).1.1) Hb.out i).symm
        have Hi1 := Lib.hid hi1
        clear hi1
        go_wp2_with (go_at_call 69; refine hh.mono ?_; rintro e w5 ⟨rfl, rfl⟩)
        exact ⟨⟨n + 1, y, by omega, rfl, Hy.out, Hi1.out, hS, hBw, hx, h6⟩, by simp only [intOf]; omega⟩
      | true =>
        obtain ⟨hgk, A1, n1, c1, B1, d1, bf, cF, hbk, hR1, hbf, hfr⟩ := (HMt.out wr hBw).mem
        obtain ⟨As, cs, ce, hAs⟩ := hfr n hnl
        have cF1 : wr.cell? ⟨gk, 3, none⟩ = some (.slice (some ⟨bf, 0, none⟩) N cF) := hbk.cellv (i := 3) rfl
        have hElen : (edgesAt E n).length ≤ 1099511627776 := Nat.le_trans (List.length_filter_le _ _) (HMt.out wr hBw).lE
        have HAs := Lib.hid (fun W (hW : Below w.heap.size w W) => (hAs.keep (w' := W) fun k hk => (hW.block k (by omega)).trans (hBw.block k (by omega)).symm))
        obtain ⟨el, hel⟩ : ∃ el, el = (edgesAt E n).length := ⟨_, rfl⟩
        rw [← hel] at ce hElen
        have Hel := Lib.hid hel
        clear hbk hR1 hfr hAs hel
        go_wp2_with (go_at_call 69; refine hh.mono ?_; rintro e w5 ⟨rfl, rfl⟩)
        go_loopw [34] (fun iv wi => ∃ j z : Nat, j ≤ el ∧ iv = .int .i64 j ∧ below z N ∧ (∀ i, z.testBit i = true ↔ hopP E x cb n i ∨ hopQ E cb n j i) ∧ Own wi w.heap.size 50 1 encU (.slice (some ⟨g, 0, none⟩) (wordsFor N) (wordsFor N)) (wordsN z (wordsFor N)) ∧ Below w.heap.size w wi ∧ Blk wi gx 92 (momC A (wordsFor N) c r e0) ∧ Blk wi (gx + 1) 92 (momC none 0 0 0 0)) (fun iv _ => el - (intOf iv).toNat)
        case atStart => exact ⟨0, y, by omega, rfl, Hy.out, fun i => (Hi.out i).trans ⟨.inl, fun h => h.elim id (fun ⟨d, h, _⟩ => by simp at h)⟩, hS, hBw, hx, h6⟩
        case round =>
          have hBw0 := hBw
          clear hS hBw hx h6 cx hh cF1 ce
          obtain ⟨j, z, hj, rfl, hz, hi, hS, hBw, hx, h6⟩ := hrel
          by_cases hjl : j < el
          · have hjI : (j : Int) < el := by omega
            have hjb : j < 1099511628000 := by omega
            have hjl2 : j < (edgesAt E n).length := by rw [← Hel.out]; exact hjl
            obtain ⟨ba, off, rfl, hba, hrows⟩ := (HAs.out wr hBw).at_ (by omega)
            have hr7 := hrows j hjl2
            have hmem := List.getElem_mem hjl2
            rw [mem_edgesAt] at hmem
            have hq := hopQ_succ (E := E) (cb := cb) hjl2
            obtain ⟨dd, hd⟩ : ∃ d, d = (edgesAt E n)[j] := ⟨_, rfl⟩
            rw [← hd] at hr7 hmem hq
            have htt := HF.out.tt dd hmem.1
            obtain ⟨t, ht⟩ : ∃ t : Nat, dd.tt = (t : Int) := ⟨dd.tt.toNat, by omega⟩
            have htn : dd.tt.toNat = t := by omega
            have Htn := Lib.hid (And.intro ht htn)
            have htN : t < N := by omega
            have Hq := Lib.hid hq
            have Hi2 := Lib.hid hi
            have Hz := Lib.hid hz
            clear hd hmem htt hrows ht htn hq hi hz
            go_upto_region 9 with (first | (refine wl_load_edge_at rfl _ rfl _ _ rfl _ hr7 ?_) | (refine wl_store_edge rfl _ _ rfl _ _ rfl rfl edge0 (Blk.new _ _ _) ?_; intro w4 h12 hg3))
            have hB4 := below_grown (below_alloc (Below.refl _ wr) (.cells #[.int .i64 0, .int .i64 0, .int .i64 0, .int .u64 0, .int .u64 0, .int .u64 0, .int .u64 0] 76)) hg3 (Nat.le_refl _)
            obtain ⟨ge, hge⟩ : ∃ y, y = wr.heap.size := ⟨_, rfl⟩
            rw [← hge] at h12 ⊢
            have hglr := (hS.lt g rfl).2
            have hgeg : ge ≠ g := by omega
            replace hS := hS.then_ hB4
            replace hBw := below_then hBw hB4
            replace hx := blk_then hx hB4
            replace h6 := blk_then h6 hB4
            clear hg3 hr7 hB4 hge hglr
            have c2 : w4.cell? ⟨ge, 2, none⟩ = some (.int .i64 (t : Int)) := by rw [← Htn.out.1]; exact h12.cellv (i := 2) rfl
            simp only [Act.put]
            go_cut [46] from 38 to 47 (fun v wx => Below w4.heap.size w4 wx ∧ v = .bool (decide (dd.kd = 2) && dd.st.getLsbD cb))
            case first =>
              have c1 : w4.cell? ⟨ge, 0, none⟩ = some (.int .i64 dd.kd) := h12.cellv (i := 0) rfl
              have hhas := fun w => has_any dd.st cb hcb w
              clear hS hBw hx h6 c2 Htn HF HMt HSl Hby HEb Hq Hi2 Hz HAs
              by_cases hk : dd.kd = 2
              · rw [hk] at c1
                go_wp2_with (first | (refine wl_load_set_g (want_yes rfl rfl rfl) _ rfl _ _ rfl _ h12.st ?_) | (go_at_call 64; refine (hhas _).mono ?_; rintro e w8 ⟨rfl, hB8⟩))
                all_goals go_meet
                exact ⟨hB8, congrArg Value.bool (by rw [decide_eq_true hk, Bool.true_and]; rfl)⟩
              · have hk2 : (dd.kd == 2) = false := by simpa using hk
                go_wp2_with (fail)
                all_goals go_meet
                exact ⟨Below.refl _ _, by simp [hk]⟩
            obtain ⟨hBc, rfl⟩ := hcut
            replace hS := hS.then_ hBc
            replace hBw := below_then hBw hBc
            replace hx := blk_then hx hBc
            replace h6 := blk_then h6 hBc
            replace c2 : wc.cell? ⟨ge, 2, none⟩ = some (.int .i64 (t : Int)) := by rw [← Htn.out.1]; exact (blk_then h12 hBc).cellv (i := 2) rfl
            replace h12 := blk_then h12 hBc
            clear hBc
            obtain ⟨f, hf⟩ : ∃ f, (decide (dd.kd = 2) && dd.st.getLsbD cb) = f := ⟨_, rfl⟩
            rw [hf]
            have Hf := Lib.hid hf
            clear hf
            cases f with
            | false =>
              have hno : ∀ i, ¬ (dd.kd = 2 ∧ dd.st.getLsbD cb = true ∧ dd.tt.toNat = i) := fun i ⟨a, b, _⟩ => by
                have := Hf.out
                rw [b, decide_eq_true a] at this
                exact absurd this (by decide)
              have Hno := Lib.hid hno
              clear hno
              go_wp2_with (fail)
              refine ⟨⟨j + 1, z, by omega, rfl, Hz.out, fun i => (Hi2.out i).trans (or_congr Iff.rfl ⟨fun h => (Hq.out i).2 (.inl h), fun h => ((Hq.out i).1 h).elim id (fun h => (Hno.out i h).elim)⟩), hS, hBw, hx, h6⟩, by simp only [intOf]; omega⟩
            | true =>
              have hk := (Bool.and_eq_true _ _ ▸ Hf.out : _ ∧ _)
              have hk1 : dd.kd = 2 := of_decide_eq_true hk.1
              have hk2 := hk.2
              have hadd : ∀ i, (z ||| 2 ^ t).testBit i = true ↔ hopP E x cb n i ∨ hopQ E cb n (j + 1) i := fun i => by
                rw [testBit_or_pow, Bool.or_eq_true, decide_eq_true_eq, Hi2.out i, Hq.out i, Htn.out.2]
                constructor
                · rintro ((h | h) | h)
                  · exact .inl h
                  · exact .inr (.inl h)
                  · exact .inr (.inr ⟨hk1, hk2, by omega⟩)
                · rintro (h | h | ⟨_, _, h⟩)
                  · exact .inl (.inl h)
                  · exact .inl (.inr h)
                  · exact .inr (by omega)
              have Hadd := Lib.hid (And.intro hadd (below_or Hz.out (below_pow htN)))
              clear hk hk1 hk2 hadd
              go_wp2_with (go_at_call 66; refine (kadd_any g (wordsFor N) (wordsFor N) z t w.heap.size (by omega) hkb _ hS).mono ?_; rintro e w6 ⟨rfl, hS6, hg6⟩)
              exact ⟨⟨j + 1, z ||| 2 ^ t, by omega, rfl, Hadd.out.2, Hadd.out.1, hS6, below_grown hBw hg6 (by omega), blk_grown hx hg6 (by have := Hgx.out; omega), blk_grown h6 hg6 (by have := Hgx.out; omega)⟩, by simp only [intOf]; omega⟩
          · have hjI : ¬ (j : Int) < el := by omega
            have hst : ∀ i, z.testBit i = true ↔ hopP E x cb (n + 1) i := fun i => (hi i).trans (hopP_step (fun d hd => (HEb.out d hd).1.1) Hb.out j (by rw [← Hel.out]; omega) i).symm
            have Hst := Lib.hid hst
            have Hz := Lib.hid hz
            clear hst hz hi
            go_wp2_with (fail)
            exact ⟨⟨n + 1, z, by omega, rfl, Hz.out, Hst.out, hS, hBw, hx, h6⟩, by simp only [intOf]; omega⟩
    · have hnI : ¬ (n : Int) < N := by omega
      obtain rfl : N = n := by omega
      have cx : wr.cell? ⟨gx, 1, none⟩ = some (.int .u32 (r : Int)) := hx.cellv (i := 1) rfl
      have kM := kmoment_any nb gk N w.heap.size g (wordsFor N) y r E R false hy hr wr (HMt.out wr hBw) hS (by omega)
      rw [Hby.out y hi] at kM
      obtain ⟨M, hMo⟩ : ∃ M, M = moN E N R (byteN E N x cb) r false := ⟨_, rfl⟩
      rw [← hMo] at kM
      have HMo := Lib.hid hMo
      clear hMo hi hy hnI hn
      go_wp2_with (first
        | (go_at_call 38; refine kM.mono ?_; rintro e w6 ⟨rfl, hS6, hT6⟩; have h66 := blk_turn h6 hT6 (by have := Hgx.out; omega))
        | (refine wl_store_mom rfl _ _ rfl (gx + 1) (some ⟨g, 0, none⟩) (wordsFor N) (wordsFor N) M.met M.end_ rfl rfl (momC none 0 0 0 0) rfl h66 ?_; intro wa ka hga))
      refine ret_cell rfl _ rfl ka Tryd.underlying92 rfl (info_mom.trans rfl) rfl ?_
      have hgx := Hgx.out
      rw [← HMo.out]
      refine ⟨g, rfl, by omega, own_grown' hS6 hga (by omega), ?_⟩
      exact below_grown (hBw.trans (Turn.below (N := w.heap.size) hT6 (by omega) hBw.size)) hga (by omega)
end Go.Proofs.YtkedgombccdamaaDoor
namespace Go.Proofs.YtkedgombccdamaaDoor
open Go.RowKit Go.Maps Go.WideMaps
set_option linter.unusedVariables false
set_option linter.unusedSimpArgs false
section
variable {P : Program} {k e : TypeId} {κ : Type} {ok : κ → Prop} {kv : κ → Value} {lit : κ → Lit}
variable {ops : Array Oper} {rest : List Oper} {o : Oper} {a : Act} {Q : Exit → Act → World → Prop} {w : World} {t : TypeId} {b n cnt : Nat} {mf : κ → Option Int}
theorem wl_map_hit (K : KeyEnc P k κ ok kv lit) (ht : P.underlying t = some (.map k e)) (he : P.underlying e = some (.int .i64)) (hz : (zeroValue e).run P w = .ok (.int .i64 0) w)
    (h : IntMap P k e ok lit w b n mf cnt) (hg : o.guard = none) (m x : Operand) (hop : o.op = Op.lookup t m x true) (hm : a.eval m = .map (some b)) (y : κ) (hy : ok y) (hx : a.eval x = kv y) (v : Int) (hv : mf y = some v)
    (hK : wpList P ops Q rest (a.put o.dst (.tuple #[.int .i64 v, .bool true])) w) : wpList P ops Q (o :: rest) a w :=
  wl_map_ok K ht he hz h hg m x hop hm y hy hx (by rw [hv]; exact hK)
theorem wl_map_miss (K : KeyEnc P k κ ok kv lit) (ht : P.underlying t = some (.map k e)) (he : P.underlying e = some (.int .i64)) (hz : (zeroValue e).run P w = .ok (.int .i64 0) w)
    (h : IntMap P k e ok lit w b n mf cnt) (hg : o.guard = none) (m x : Operand) (hop : o.op = Op.lookup t m x true) (hm : a.eval m = .map (some b)) (y : κ) (hy : ok y) (hx : a.eval x = kv y) (hv : mf y = none)
    (hK : wpList P ops Q rest (a.put o.dst (.tuple #[.int .i64 0, .bool false])) w) : wpList P ops Q (o :: rest) a w :=
  wl_map_ok K ht he hz h hg m x hop hm y hy hx (by rw [hv]; exact hK)
end
theorem clsC_put (new old : Nat → Int) (n : Nat) (v : Int) (h : v = new n) : (clsC (upto n new old)).setIfInBounds n (.int .i64 v) = clsC (upto (n + 1) new old) := by
  rw [clsC_set, upto_put new old n v h]
theorem info_cls : (Tryd.prog.info? 30).map (·.size) = some 256 := by kernel_rfl
theorem info_pair : (Tryd.prog.info? 134).map (·.size) = some 2 := by kernel_rfl
theorem zero_cls (w : World) : (zeroValue 30).run Tryd.prog w = .ok (.agg (clsC fun _ => 0)) w := by kernel_rfl
def pairC (y : Int × Bool) : Array Value := intsC .i64 [y.1, if y.2 then 1 else 0]
theorem pairC_size (y : Int × Bool) : (pairC y).size = 2 := rfl
theorem pairC_set (c : Int) : (pairC (c, false)).setIfInBounds 1 (.int .i64 1) = pairC (c, true) := rfl
theorem pairC_inj {x y : Int × Bool} (h : pairC x = pairC y) : x = y := by
  have := intsC_inj h
  obtain ⟨a, b⟩ := x
  obtain ⟨c, d⟩ := y
  simp only [List.cons.injEq] at this
  obtain ⟨rfl, h2, _⟩ := this
  cases b <;> cases d <;> simp_all
theorem pairC_one (y : Int × Bool) : (pairC y).all (·.oneCell') = true := by
  obtain ⟨a, b⟩ := y
  simp [pairC, intsC, Value.oneCell']
theorem arr_pair : ArrKey Tryd.prog 134 3 2 := ⟨Tryd.underlying134, by kernel_rfl, by kernel_rfl, by kernel_rfl⟩
theorem wf_bit (b : Bool) : (Lit.int .i64 (if b then 1 else 0)).wf = true := by cases b <;> decide
def okP (y : Int × Bool) : Prop := (Lit.int .i64 y.1).wf = true
def litP (y : Int × Bool) : Lit := .string (keyBytes ([y.1, if y.2 then 1 else 0].map (Lit.int .i64)))
theorem keyPair : KeyEnc Tryd.prog 134 (Int × Bool) okP (fun y => .agg (pairC y)) litP where
  law := Keyed.of_law (deep_law_laid laid_out (m := 2) (by omega) (of_decide_eq_true (by kernel_rfl)) (by kernel_rfl) (by rw [Tryd.underlying134]))
  key y hy := keyOf_ints arr_pair Tryd.underlying3 types_pos _ rfl (fun x hx => by
    simp only [List.mem_cons, List.not_mem_nil, or_false] at hx
    rcases hx with rfl | rfl
    · exact hy
    · exact wf_bit _)
  inj x y h := pairC_inj (by injection h)
theorem wf_small {c : Int} (h0 : 0 ≤ c) (h1 : c < 65536) : (Lit.int .i64 c).wf = true := by
  have h2 : IntKind.i64.min = -9223372036854775808 := by decide
  have h3 : IntKind.i64.max = 9223372036854775807 := by decide
  simp only [Lit.wf, Bool.and_eq_true, decide_eq_true_eq]
  exact ⟨by omega, by omega⟩
def mapAt {α : Type} [DecidableEq α] (f : Nat → α) (j : Nat) (x : α) : Option Int := if x ∈ firsts f j then some ((firsts f j).idxOf x : Int) else none
section
variable {α : Type} [DecidableEq α] (f : Nat → α) (j : Nat)
theorem mapAt_zero : mapAt f 0 = fun _ => none := by funext x; simp [mapAt, firsts]
theorem mapAt_old (h : f j ∈ firsts f j) : mapAt f j (f j) = some (num f j : Int) := by rw [num_old f j h]; simp [mapAt, h]
theorem mapAt_new (h : ¬ f j ∈ firsts f j) : mapAt f j (f j) = none := by simp [mapAt, h]
theorem mapAt_same (h : f j ∈ firsts f j) : mapAt f (j + 1) = mapAt f j := by
  funext x
  unfold mapAt
  rw [firsts_succ, if_pos h]
theorem mapAt_put (h : ¬ f j ∈ firsts f j) : putM (mapAt f j) (f j) ((firsts f j).length : Int) = mapAt f (j + 1) := by
  funext x
  unfold putM mapAt
  rw [firsts_succ, if_neg h]
  by_cases e : x = f j
  · subst e
    simp [idx_not h]
  · rw [if_neg e]
    by_cases hx : x ∈ firsts f j
    · simp [hx, idx_mem hx]
    · simp [hx, e]
theorem len_old (h : f j ∈ firsts f j) : (firsts f (j + 1)).length = (firsts f j).length := by rw [firsts_succ, if_pos h]
theorem len_new (h : ¬ f j ∈ firsts f j) : (firsts f (j + 1)).length = (firsts f j).length + 1 := by rw [firsts_succ, if_neg h]; simp
end
section
variable {ops : Array Oper} {rest : List Oper} {o : Oper} {a : Act} {w : World} {Q : Exit → Act → World → Prop}
theorem wl_load_cls (hgd : o.guard = none) (x : Operand) (ho : o.op = .load 30 x)
    (g : Nat) (hx : a.eval x = .pointer (some ⟨g, 0, none⟩)) (y : Nat → Int) (hb : Blk w g 30 (clsC y))
    (h : wpList Tryd.prog ops Q rest (a.put o.dst (.agg (clsC y))) w) : wpList Tryd.prog ops Q (o :: rest) a w :=
  wpList_load_row hgd _ x ho g hx _ _ _ _ hb Tryd.underlying30 rfl (info_cls.trans (by rw [clsC_size])) h
theorem wl_store_cls (hgd : o.guard = none) (x y : Operand) (ho : o.op = .store 30 x y)
    (g : Nat) (new : Nat → Int) (hx : a.eval x = .pointer (some ⟨g, 0, none⟩)) (hy : a.eval y = .agg (clsC new)) (old : Nat → Int) (hb : Blk w g 30 (clsC old))
    (h : ∀ w', Blk w' g 30 (clsC new) → w.grownBy w' (some g) → wpList Tryd.prog ops Q rest (a.put o.dst undef) w') : wpList Tryd.prog ops Q (o :: rest) a w :=
  wpList_store_row hgd _ x y ho g _ hx hy _ _ hb (info_cls.trans (by rw [clsC_size])) (by rw [clsC_size, clsC_size]) (clsC_oneCell new) (h _ (hb.setRow_same _) (only_setRow (only_refl _ _) _))
theorem wl_put_cls (hgd : o.guard = none) (x y : Operand) (ho : o.op = .store 3 x y)
    (g i : Nat) (hx : a.eval x = .pointer (some ⟨g, i, none⟩)) (v : Int) (hy : a.eval y = .int .i64 v) (new old : Nat → Int) (hb : Blk w g 30 (clsC (upto i new old))) (hi : i < 256) (hv : v = new i)
    (h : ∀ w', Blk w' g 30 (clsC (upto (i + 1) new old)) → w.grownBy w' (some g) → wpList Tryd.prog ops Q rest (a.put o.dst undef) w') : wpList Tryd.prog ops Q (o :: rest) a w :=
  wl_store_cell hgd _ x y ho g i hx _ _ _ hb (by rw [clsC_size]; exact hi) info_int (by rw [hy]; rfl) (by rw [hy]; rfl) (by rw [hy]; exact clsC_put new old i v hv) h
theorem wl_load_pair (hgd : o.guard = none) (x : Operand) (ho : o.op = .load 134 x)
    (g : Nat) (hx : a.eval x = .pointer (some ⟨g, 0, none⟩)) (y : Int × Bool) (hb : Blk w g 134 (pairC y))
    (h : wpList Tryd.prog ops Q rest (a.put o.dst (.agg (pairC y))) w) : wpList Tryd.prog ops Q (o :: rest) a w :=
  wpList_load_row hgd _ x ho g hx _ _ _ _ hb Tryd.underlying134 rfl (info_pair.trans (by rw [pairC_size])) h
theorem wl_store_pair (hgd : o.guard = none) (x y : Operand) (ho : o.op = .store 134 x y)
    (g : Nat) (new : Int × Bool) (hx : a.eval x = .pointer (some ⟨g, 0, none⟩)) (hy : a.eval y = .agg (pairC new)) (old : Int × Bool) (hb : Blk w g 134 (pairC old))
    (h : ∀ w', Blk w' g 134 (pairC new) → w.grownBy w' (some g) → wpList Tryd.prog ops Q rest (a.put o.dst undef) w') : wpList Tryd.prog ops Q (o :: rest) a w :=
  wpList_store_row hgd _ x y ho g _ hx hy _ _ hb (info_pair.trans (by rw [pairC_size])) (by rw [pairC_size, pairC_size]) (pairC_one new) (h _ (hb.setRow_same _) (only_setRow (only_refl _ _) _))
theorem ret_cls {fn : Func} {p u : Tmp} {g : Nat} {y : Nat → Int} (hres : fn.results = #[.cell p 30, .tmp u])
    (hp : a.tmps.getD p undef = .pointer (some ⟨g, 0, none⟩)) (hb : Blk w g 30 (clsC y))
    (hdf : a.defers = []) {R : Ending → World → Prop} (hR : R (.returned (.tuple #[.agg (clsC y), a.tmps.getD u undef])) w) : bodyPost Tryd.prog fn R .ret a w :=
  ret_cell2 hres _ hp hb Tryd.underlying30 rfl (info_cls.trans (by rw [clsC_size])) hdf hR
end
abbrev PMap (w : World) (b n : Nat) (m : Int × Bool → Option Int) (cnt : Nat) : Prop := IntMap Tryd.prog 134 3 okP litP w b n m cnt
set_option maxHeartbeats 1000000 in
set_option maxRecDepth 100000 in
theorem classes_any (A : Option Addr) (n c : Nat) (l : List BSet) (w : World) (hn : n = l.length) (hm : n ≤ maxLen) (hs : SliceOf w w.heap.size 4 setC A l) :
    Calls Tryd.prog 33 #[.slice A n c] w fun e w' => e = .returned (.tuple #[.agg (clsC (cls l)), .int .i64 (many l)]) ∧ Below w.heap.size w w' := by
  have Hn := Lib.hid hn
  clear hn
  unfold maxLen at hm
  have hz := zero_cls
  have hmm := @Go.RowKit.run_makeMap Tryd.prog
  have hs2 : w.heap.size ≤ w.heap.size + 1 := by omega
  go_enter Tryd.func33, Tryd.ntmps33
  go_wp2
  go_loopw [15, 5] (fun i m wr => ∃ k : Nat, k ≤ n ∧ i = .int .i64 k ∧ m = .int .i64 (many (l.take k)) ∧ Blk wr (w.heap.size + 1) 30 (clsC (cls (l.take k))) ∧ Blk wr w.heap.size 30 (clsC fun _ => 0) ∧ Below w.heap.size w wr) (fun i _ _ => n - (intOf i).toNat)
  case atStart =>
    refine ⟨0, by omega, rfl, ?_, ?_, ?_, ?_⟩
    · rw [List.take_zero, many_nil]; rfl
    · rw [List.take_zero, clsC_ext (g := cls []) (h := fun _ => 0) fun b _ => cls_nil b]
      exact Blk.new' _ _ _ (World.size_alloc _ _).symm
    · exact (Blk.new _ _ _).alloc _
    · exact ((Below.refl _ _).alloc (Nat.le_refl _) _).alloc (by simp) _
  case round =>
    obtain ⟨k, hk, rfl, rfl, hb1, hb2, hB⟩ := hrel
    by_cases hlt : k < n
    · have hlt' : k < l.length := by have := Hn.out; omega
      obtain ⟨b, off, rfl, hbl, hrow⟩ := (hs.below hB).at_ (by omega)
      have hr := hrow k hlt'
      clear hrow
      have hlt5 : w.heap.size + 1 < wr.heap.size := hb1.lt
      go_wp2_with (first | (refine wl_load_set_at rfl _ rfl _ _ rfl _ hr ?_) | (refine wl_store_set rfl _ _ rfl _ _ rfl rfl 0 (Blk.new _ _ _) ?_; intro w1 hbs hg5))
      have hb1' := (hb1.alloc (.cells (setC 0) 52)).grown hg5 (by simp; omega)
      have hb2' := (hb2.alloc (.cells (setC 0) 52)).grown hg5 (by simp; omega)
      have hB' := (hB.alloc hB.size (.cells (setC 0) 52)).grown hg5 (by simp; omega) (by rintro k ⟨⟩; omega)
      have hM := IntMap.new (P := Tryd.prog) (e := 3) keyPair w1 rfl
      obtain ⟨gs, hgs⟩ : ∃ g, g = wr.heap.size := ⟨_, rfl⟩
      obtain ⟨gm, hgm⟩ : ∃ g, g = w1.heap.size := ⟨_, rfl⟩
      rw [← hgs] at hbs ⊢
      rw [← hgm] at hM ⊢
      have hgw : w.heap.size + 1 < gs := by omega
      have hgsm : gs < gm := by have := hbs.lt; omega
      replace hbs := hbs.alloc (.map #[] 0)
      replace hb1' := hb1'.alloc (.map #[] 0)
      replace hb2' := hb2'.alloc (.map #[] 0)
      replace hB' := below_alloc hB' (.map #[] 0)
      rw [show (fun _ : Int × Bool => (none : Option Int)) = mapAt (keyN (cls (l.take k)) l[k]) 0 from (mapAt_zero _).symm] at hM
      clear hgs hgm hg5 hb1 hb2 hB hr hlt5
      obtain ⟨wo, rfl⟩ : ∃ wo : World, wo = wr := ⟨_, rfl⟩
      obtain ⟨f, hf⟩ : ∃ f, f = keyN (cls (l.take k)) l[k] := ⟨_, rfl⟩
      rw [← hf] at hM
      replace hf := Lib.hid hf
      go_loopw [20] (fun i wr => ∃ j : Nat, j ≤ 256 ∧ i = .int .i64 j ∧ Blk wr (w.heap.size + 1) 30 (clsC (upto j (fun b => (num f b : Int)) (cls (l.take k)))) ∧ Blk wr gs 52 (setC l[k]) ∧ PMap wr gm j (mapAt f j) (firsts f j).length ∧ Blk wr w.heap.size 30 (clsC fun _ => 0) ∧ Below w.heap.size w wr) (fun i _ => 256 - (intOf i).toNat)
      case atStart => exact ⟨0, by omega, rfl, by rw [upto_zero]; exact hb1', hbs, hM, hb2', hB'⟩
      case round =>
        obtain ⟨j, hj, rfl, hb1, hbs, hM, hb2, hB⟩ := hrel
        by_cases hjt : j < 256
        · have hjj := upto_ge (fun b => (num f b : Int)) (cls (l.take k)) (Nat.le_refl j)
          have c1 := hb1.cellv (clsC_at _ j hjt)
          rw [hjj] at c1
          have hC := Below.refl wr.heap.size wr
          have hgr : gm < wr.heap.size := hM.lt
          obtain ⟨v, hv⟩ : ∃ v, v = cls (l.take k) j := ⟨_, rfl⟩
          rw [← hv] at c1
          have hbit : ∃ bv, bv = l[k].getLsbD j := ⟨_, rfl⟩
          obtain ⟨bv, hbv⟩ := hbit
          have hfj : f j = (v, bv) := by rw [hf.out, hv, hbv]; rfl
          have hok : okP (v, bv) := by
            have h0 := cls_ge (l.take k) j
            have h1 := cls_lt (l.take k) hjt
            have h2 := many_le (l.take k)
            exact wf_small (by show 0 ≤ v; omega) (by show v < 65536; omega)
          have hmap : f j ∈ firsts f j ∨ ¬ f j ∈ firsts f j := Classical.em _
          have hlen := firsts_length_le f j
          have hnw := num_lt f (Nat.lt_succ_self j)
          replace hfj := Lib.hid hfj
          clear hjj hv
          rcases hmap with hmap | hmap
          · have hmo := Lib.hid (mapAt_old f j hmap)
            rw [hfj.out] at hmo
            cases bv with
            | true =>
              have hx := Lib.hid hbv.symm
              clear hbv
              go_wp2_with (first
                | (refine wl_load_set rfl _ rfl _ rfl _ (blk_then hbs hC) ?_)
                | (refine wl_store_pair rfl _ _ rfl _ (v, false) rfl rfl (0, false) (Blk.new _ _ _) ?_; intro w2 hk2 hg2; replace hC := below_grown (below_alloc hC (.cells (pairC (0, false)) 134)) hg2 (Nat.le_refl _))
                | (go_at_call 64; refine (has_any _ j hjt _).mono ?_; rw [hx.out]; rintro e w3 ⟨rfl, hB3⟩; replace hC := below_then hC hB3; replace hk2 := blk_then hk2 hB3)
                | (refine wl_store_cell rfl _ _ _ rfl _ _ rfl _ _ (pairC (v, true)) hk2 (by rw [pairC_size]; omega) info_int rfl rfl (pairC_set v) ?_; intro w4 hk4 hg4; replace hC := below_grown hC hg4 (Nat.le_refl _))
                | (refine wl_load_pair rfl _ rfl _ rfl _ hk4 ?_)
                | (at_lookup; refine wl_map_hit keyPair Tryd.underlying133 Tryd.underlying3 (zero_int _) (IntMap.then_ hM hC) rfl _ _ rfl rfl (v, true) hok rfl _ hmo.out ?_)
                | (refine wl_put_cls rfl _ _ rfl _ _ rfl _ rfl _ _ (blk_then hb1 hC) hjt rfl ?_; intro w5 hb5 hg5))
              go_roundw
              case rel =>
                refine ⟨j + 1, by omega, by go_num, hb5, blk_grown (blk_then hbs hC) hg5 (by omega), ?_, blk_grown (blk_then hb2 hC) hg5 (by omega), below_grown (below_then hB hC) hg5 hs2⟩
                rw [mapAt_same f j hmap, len_old f j hmap]
                exact IntMap.more ((IntMap.then_ hM hC).grown hg5 (by omega)) (Nat.le_succ j)
              case measure => simp [intOf]; omega
            | false =>
              have hx := Lib.hid hbv.symm
              clear hbv
              go_wp2_with (first
                | (refine wl_load_set rfl _ rfl _ rfl _ (blk_then hbs hC) ?_)
                | (refine wl_store_pair rfl _ _ rfl _ (v, false) rfl rfl (0, false) (Blk.new _ _ _) ?_; intro w2 hk2 hg2; replace hC := below_grown (below_alloc hC (.cells (pairC (0, false)) 134)) hg2 (Nat.le_refl _))
                | (go_at_call 64; refine (has_any _ j hjt _).mono ?_; rw [hx.out]; rintro e w3 ⟨rfl, hB3⟩; replace hC := below_then hC hB3; replace hk2 := blk_then hk2 hB3)
                | (refine wl_load_pair rfl _ rfl _ rfl _ hk2 ?_)
                | (at_lookup; refine wl_map_hit keyPair Tryd.underlying133 Tryd.underlying3 (zero_int _) (IntMap.then_ hM hC) rfl _ _ rfl rfl (v, false) hok rfl _ hmo.out ?_)
                | (refine wl_put_cls rfl _ _ rfl _ _ rfl _ rfl _ _ (blk_then hb1 hC) hjt rfl ?_; intro w5 hb5 hg5))
              go_roundw
              case rel =>
                refine ⟨j + 1, by omega, by go_num, hb5, blk_grown (blk_then hbs hC) hg5 (by omega), ?_, blk_grown (blk_then hb2 hC) hg5 (by omega), below_grown (below_then hB hC) hg5 hs2⟩
                rw [mapAt_same f j hmap, len_old f j hmap]
                exact IntMap.more ((IntMap.then_ hM hC).grown hg5 (by omega)) (Nat.le_succ j)
              case measure => simp [intOf]; omega
          · have hmo := Lib.hid (mapAt_new f j hmap)
            rw [hfj.out] at hmo
            have hnum : Hid (((firsts f j).length : Int) = (num f j : Int)) := Lib.hid (by rw [num_new f j hmap])
            cases bv with
            | true =>
              have hx := Lib.hid hbv.symm
              clear hbv
              go_wp2_with (first
                | (refine wl_load_set rfl _ rfl _ rfl _ (blk_then hbs hC) ?_)
                | (refine wl_store_pair rfl _ _ rfl _ (v, false) rfl rfl (0, false) (Blk.new _ _ _) ?_; intro w2 hk2 hg2; replace hC := below_grown (below_alloc hC (.cells (pairC (0, false)) 134)) hg2 (Nat.le_refl _))
                | (go_at_call 64; refine (has_any _ j hjt _).mono ?_; rw [hx.out]; rintro e w3 ⟨rfl, hB3⟩; replace hC := below_then hC hB3; replace hk2 := blk_then hk2 hB3)
                | (refine wl_store_cell rfl _ _ _ rfl _ _ rfl _ _ (pairC (v, true)) hk2 (by rw [pairC_size]; omega) info_int rfl rfl (pairC_set v) ?_; intro w4 hk4 hg4; replace hC := below_grown hC hg4 (Nat.le_refl _))
                | (refine wl_load_pair rfl _ rfl _ rfl _ hk4 ?_)
                | (at_lookup; refine wl_map_miss keyPair Tryd.underlying133 Tryd.underlying3 (zero_int _) (IntMap.then_ hM hC) rfl _ _ rfl rfl (v, true) hok rfl hmo.out ?_)
                | (at_len; refine wl_map_len Tryd.underlying133 (IntMap.then_ hM hC) rfl _ rfl rfl ?_)
                | (at_mapUpdate; refine wl_map_put keyPair Tryd.underlying133 Tryd.underlying3 (IntMap.then_ hM hC) (by unfold maxLen; omega) rfl _ _ _ rfl rfl (v, true) hok rfl _ rfl (wf_small (by omega) (by omega)) ?_; intro w6 hM6 hg6)
                | (refine wl_put_cls rfl _ _ rfl _ _ rfl _ rfl _ _ (blk_grown (blk_then hb1 hC) hg6 (by omega)) hjt hnum.out ?_; intro w5 hb5 hg5))
              go_roundw
              case rel =>
                refine ⟨j + 1, by omega, by go_num, hb5, blk_grown (blk_grown (blk_then hbs hC) hg6 (by omega)) hg5 (by omega), ?_, blk_grown (blk_grown (blk_then hb2 hC) hg6 (by omega)) hg5 (by omega), below_grown (below_grown (below_then hB hC) hg6 (by omega)) hg5 hs2⟩
                rw [hmo.out, ← hfj.out, mapAt_put f j hmap] at hM6
                rw [len_new f j hmap]
                exact hM6.grown hg5 (by omega)
              case measure => simp [intOf]; omega
            | false =>
              have hx := Lib.hid hbv.symm
              clear hbv
              go_wp2_with (first
                | (refine wl_load_set rfl _ rfl _ rfl _ (blk_then hbs hC) ?_)
                | (refine wl_store_pair rfl _ _ rfl _ (v, false) rfl rfl (0, false) (Blk.new _ _ _) ?_; intro w2 hk2 hg2; replace hC := below_grown (below_alloc hC (.cells (pairC (0, false)) 134)) hg2 (Nat.le_refl _))
                | (go_at_call 64; refine (has_any _ j hjt _).mono ?_; rw [hx.out]; rintro e w3 ⟨rfl, hB3⟩; replace hC := below_then hC hB3; replace hk2 := blk_then hk2 hB3)
                | (refine wl_load_pair rfl _ rfl _ rfl _ hk2 ?_)
                | (at_lookup; refine wl_map_miss keyPair Tryd.underlying133 Tryd.underlying3 (zero_int _) (IntMap.then_ hM hC) rfl _ _ rfl rfl (v, false) hok rfl hmo.out ?_)
                | (at_len; refine wl_map_len Tryd.underlying133 (IntMap.then_ hM hC) rfl _ rfl rfl ?_)
                | (at_mapUpdate; refine wl_map_put keyPair Tryd.underlying133 Tryd.underlying3 (IntMap.then_ hM hC) (by unfold maxLen; omega) rfl _ _ _ rfl rfl (v, false) hok rfl _ rfl (wf_small (by omega) (by omega)) ?_; intro w6 hM6 hg6)
                | (refine wl_put_cls rfl _ _ rfl _ _ rfl _ rfl _ _ (blk_grown (blk_then hb1 hC) hg6 (by omega)) hjt hnum.out ?_; intro w5 hb5 hg5))
              go_roundw
              case rel =>
                refine ⟨j + 1, by omega, by go_num, hb5, blk_grown (blk_grown (blk_then hbs hC) hg6 (by omega)) hg5 (by omega), ?_, blk_grown (blk_grown (blk_then hb2 hC) hg6 (by omega)) hg5 (by omega), below_grown (below_grown (below_then hB hC) hg6 (by omega)) hg5 hs2⟩
                rw [hmo.out, ← hfj.out, mapAt_put f j hmap] at hM6
                rw [len_new f j hmap]
                exact hM6.grown hg5 (by omega)
              case measure => simp [intOf]; omega
        · obtain rfl : j = 256 := by omega
          rw [upto_all] at hb1
          have hM1 := hM
          have hcl := Lib.hid (clsC_ext (g := fun b => (num f b : Int)) (h := cls (l.take (k + 1))) fun b _ => by rw [take_snoc' l k hlt', cls_snoc, hf.out])
          have hmy := Lib.hid (show (firsts f 256).length = many (l.take (k + 1)) by rw [take_snoc' l k hlt', many_snoc, hf.out])
          rw [hmy.out] at hM
          rw [hcl.out] at hb1
          go_wp2_with (first | (at_len; refine wl_map_len Tryd.underlying133 hM rfl _ rfl rfl ?_))
          go_roundw
          case rel => exact ⟨k + 1, by omega, by go_num, rfl, hb1, hb2, hB⟩
          case measure => simp [intOf]; omega
    · have hkk : l.take k = l := List.take_of_length_le (by have := Hn.out; omega)
      rw [hkk] at hb1
      go_wp2_with (first | (refine wl_load_cls rfl _ rfl _ rfl _ hb1 ?_) | (refine wl_store_cls rfl _ _ rfl _ _ rfl rfl _ hb2 ?_; intro w1 hb4 hg4))
      refine ret_cls rfl rfl hb4 rfl ⟨?_, hB.grown hg4 hB.size (by rintro k ⟨⟩; exact Nat.le_refl _)⟩
      rw [← hkk]
      rfl
end Go.Proofs.YtkedgombccdamaaDoor
namespace Go.Proofs.YtkedgombccdamaaDoor
open Go.RowKit Go.Shelf Go.Maps
set_option linter.unusedVariables false
set_option linter.unusedSimpArgs false
attribute [local go_sem] Oper.semAt_some
def encY (n : Nat) : Array Value := #[.int .u8 (n : Int)]
theorem encY_size (n : Nat) : (encY n).size = 1 := rfl
theorem info_u8one : (Tryd.prog.info? 5).map (·.size) = some 1 := by kernel_rfl
def repAt (f : Nat → Int) (i : Nat) (c : Nat) : Nat := ((List.range' i (256 - i)).find? (fun b => decide (f b = (c : Int)))).getD 0
def repL (f : Nat → Int) (m i : Nat) : List Nat := (List.range m).map (repAt f i)
theorem repL_length (f : Nat → Int) (m i : Nat) : (repL f m i).length = m := by simp [repL]
theorem repAt_top (f : Nat → Int) (c : Nat) : repAt f 256 c = 0 := by simp [repAt]
theorem repL_top (f : Nat → Int) (m : Nat) : repL f m 256 = List.replicate m 0 := by
  apply List.ext_getElem
  · simp [repL]
  · intro i h1 h2
    simp [repL, repAt_top]
theorem repAt_step (f : Nat → Int) {i : Nat} (c : Nat) (hi : i < 256) : repAt f i c = if f i = (c : Int) then i else repAt f (i + 1) c := by
  unfold repAt
  rw [show 256 - i = (256 - (i + 1)) + 1 by omega, List.range'_succ, List.find?_cons]
  by_cases h : f i = (c : Int)
  · simp [h]
  · simp [h]
theorem repL_step (f : Nat → Int) (m : Nat) {i n : Nat} (hi : i < 256) (hn : f i = (n : Int)) : (repL f m (i + 1)).set n i = repL f m i := by
  apply List.ext_getElem
  · simp [repL]
  · intro j h1 h2
    rw [List.getElem_set]
    simp only [repL, List.getElem_map, List.getElem_range]
    rw [repAt_step f j hi]
    by_cases e : n = j
    · subst e; rw [if_pos rfl, if_pos hn]
    · rw [if_neg e, if_neg (by omega)]
theorem repL_lt (f : Nat → Int) (m i : Nat) : ∀ b ∈ repL f m i, b < 256 := by
  intro b hb
  unfold repL at hb
  obtain ⟨c, _, rfl⟩ := List.mem_map.1 hb
  unfold repAt
  cases hf : (List.range' i (256 - i)).find? (fun b => decide (f b = (c : Int))) with
  | none => simp
  | some x =>
    have hm := List.mem_of_find?_eq_some hf
    rw [List.mem_range'_1] at hm
    simp; omega
set_option maxRecDepth 100000 in
set_option maxHeartbeats 2000000 in
theorem kfirst_any (f : Nat → Int) (m : Nat) (hm : m ≤ 256) (hf : ∀ b, b < 256 → 0 ≤ f b ∧ f b < m) (w : World) :
    Calls Tryd.prog 35 #[.agg (clsC f), .int .i64 m] w fun e w' => ∃ g, e = .returned (.slice (some ⟨g, 0, none⟩) m m) ∧ w.heap.size ≤ g ∧ Own w' w.heap.size 5 1 encY (.slice (some ⟨g, 0, none⟩) m m) (repL f m 0) ∧ Below w.heap.size w w' := by
  obtain ⟨i0, hi0, hz0, hz1, hz2⟩ := info_parts info_b3
  have Hf := Lib.hid hf
  clear hf
  go_enter Tryd.func35, Tryd.ntmps35
  go_upto_region 1 with (fail)
  have h2 : Blk (w.alloc (.cells (clsC f) 30)) w.heap.size 30 (clsC f) := Blk.new w _ _
  have hB1 : Below w.heap.size w (w.alloc (.cells (clsC f) 30)) := below_alloc (Below.refl _ _) _
  obtain ⟨w1, hw1⟩ : ∃ y, y = w.alloc (.cells (clsC f) 30) := ⟨_, rfl⟩
  have hs1 : w1.heap.size = w.heap.size + 1 := by rw [hw1]; exact Array.size_push ..
  rw [← hw1] at h2 hB1 ⊢
  obtain ⟨gx, hgx⟩ : ∃ y, y = w.heap.size := ⟨_, rfl⟩
  rw [← hgx] at h2 ⊢
  have Hgx := Lib.hid hgx
  clear hw1 hgx
  go_upto_region 2 with (at_make; refine wpList_make_full _ rfl _ _ 85 rfl w1.heap.size 5 i0 _ 1 Tryd.underlying85 hi0 hz0 hz1 _ _ _ _ m rfl rfl rfl rfl (by rw [hz2]; omega) (by unfold maxLen; omega) (Nat.le_refl _) ?_; intro w2 hown hg)
  have e1 : (madeCells (Value.int .u8 0).cells (m * 1)).toList = flat encY (repL f m 256) := by
    rw [repL_top]
    apply List.ext_getElem
    · rw [Array.length_toList, size_madeCells]
      simp [flat, encY]
    · intro j h1 h2
      simp [madeCells, Value.cells, flat, encY, List.flatMap_replicate]
      rw [Nat.mod_one]
      rfl
  have hS2 : Own w2 w.heap.size 5 1 encY (.slice (some ⟨w.heap.size + 1, 0, none⟩) m m) (repL f m 256) := by
    rw [e1] at hown
    rw [hs1] at hown
    have : Own w2 (w.heap.size + 1) 5 1 encY (.slice (some ⟨w.heap.size + 1, 0, none⟩) m m) (repL f m 256) := by
      unfold Own
      rw [repL_length]
      exact hown
    exact this.mono (by omega)
  have hBg : Below w1.heap.size w1 w2 := ⟨hg.os, hg.tape, hg.output, hg.size, fun k hk => hg.block k hk (by simp)⟩
  have hB2 := below_then hB1 hBg
  have h22 := blk_then h2 hBg
  obtain ⟨g, hgd⟩ : ∃ y, y = w.heap.size + 1 := ⟨_, rfl⟩
  rw [← hgd] at hS2 ⊢
  have Hgd := Lib.hid hgd
  clear e1 hown hg hBg hB1 h2 hs1 hi0 hz0 hz1 hz2 hgd
  go_wp2_with (fail)
  go_loopw [6] (fun iv wr => ∃ i : Nat, i ≤ 256 ∧ iv = .int .i64 ((i : Int) - 1) ∧ Own wr w.heap.size 5 1 encY (.slice (some ⟨g, 0, none⟩) m m) (repL f m i) ∧ Blk wr gx 30 (clsC f) ∧ Below w.heap.size w wr) (fun iv _ => (intOf iv + 1).toNat)
  case atStart => exact ⟨256, by omega, rfl, hS2, h22, hB2⟩
  case round =>
    clear hS2 h22 hB2
    obtain ⟨i, hi, rfl, hS, hx, hB⟩ := hrel
    rcases i with _ | j
    · rw [show (((0 : Nat) : Int) - 1) = -1 by omega]
      go_wp2_with (fail)
      go_ret
      exact ⟨g, rfl, by have := Hgd.out; omega, hS, hB⟩
    · rw [show ((j + 1 : Nat) : Int) - 1 = (j : Int) by omega]
      have hj : j < 256 := by omega
      have hc := Hf.out j hj
      obtain ⟨n, hn⟩ : ∃ n : Nat, f j = (n : Int) := ⟨(f j).toNat, by omega⟩
      have hnm : n < m := by omega
      have hnI : (n : Int) < m := by omega
      have cx : wr.cell? ⟨gx, j, none⟩ = some (.int .i64 (n : Int)) := by rw [← hn]; exact hx.cellv (clsC_at _ j hj)
      have Hn := Lib.hid hn
      clear hc hn
      go_wp2_with (refine wl_store_one (enc := encY) encY_size rfl _ info_u8one _ _ rfl g n m m rfl j rfl rfl rfl hS (by rw [repL_length]; exact hnm) ?_; intro w7 hS7 hg7)
      rw [repL_step f m hj Hn.out] at hS7
      have h1 := Hgx.out
      have h2 := Hgd.out
      exact ⟨⟨j, by omega, rfl, hS7, blk_grown hx hg7 (by omega), below_grown hB hg7 (by omega)⟩, by simp only [intOf]; omega⟩
end Go.Proofs.YtkedgombccdamaaDoor
namespace Go.Proofs.YtkedgombccdamaaDoor
set_option linter.unusedVariables false
set_option linter.unusedSimpArgs false
structure Au where
  n : Nat
  go : Nat → Nat → Nat
  out : Nat → Nat × Nat
structure Au.Ok (A : Au) : Prop where
  pos : 0 < A.n
  lt : ∀ s b, s < A.n → b < 256 → A.go s b < A.n
def Au.run (A : Au) : Nat → List Nat → Nat
  | s, [] => s
  | s, b :: w => A.run (A.go s b) w
section
variable {α β : Type} [DecidableEq α] [DecidableEq β]
end
section
variable {A : Au} {k : Nat → Int} {rs : List Nat}
end
structure Tb where
  cls : Nat → Int
  nx : List (List Int)
  fo : List Nat
  en : List Nat
def Tb.nxt (T : Tb) (s : Nat) (c : Int) : Int := (T.nx.getD s []).getD c.toNat 0
def Tb.many (T : Tb) : Nat := (T.nx.getD 0 []).length
def Tb.au (T : Tb) : Au := ⟨T.nx.length, fun s b => (T.nxt s (T.cls b)).toNat, fun s => (T.fo.getD s 0, T.en.getD s 0)⟩
structure s_Fits (T : Tb) : Prop where
  n1 : 1 ≤ T.nx.length
  n2 : T.nx.length ≤ 4096
  nf : T.fo.length = T.nx.length
  ne : T.en.length = T.nx.length
  m1 : 1 ≤ T.many
  m2 : T.many ≤ 256
  cl : ∀ b, b < 256 → 0 ≤ T.cls b ∧ T.cls b < T.many
  row : ∀ s, s < T.nx.length → (T.nx.getD s []).length = T.many
  fe : ∀ s, s < T.nx.length → T.fo.getD s 0 &&& T.en.getD s 0 = T.fo.getD s 0
  tr : ∀ s c, s < T.nx.length → c < T.many → 0 ≤ T.nxt s (c : Nat) ∧ T.nxt s (c : Nat) < T.nx.length ∧ T.fo.getD s 0 &&& T.fo.getD (T.nxt s (c : Nat)).toNat 0 = T.fo.getD s 0
theorem s_Fits.ok {T : Tb} (h : s_Fits T) : T.au.Ok := ⟨h.n1, fun s b hs hb => by
  obtain ⟨c0, c1⟩ := h.cl b hb
  have := h.tr s (T.cls b).toNat hs (by omega)
  rw [Int.toNat_of_nonneg c0] at this
  show (T.nxt s (T.cls b)).toNat < T.nx.length
  omega⟩
section
variable {A B : Au} {k q : Nat → Int}
end
end Go.Proofs.YtkedgombccdamaaDoor
namespace Go.Proofs.YtkedgombccdamaaDoor
open Go.RowKit Go.Maps Go.WideMaps
set_option linter.unusedVariables false
set_option linter.unusedSimpArgs false
def encZ (z : Int) : Array Value := #[.int .i64 z]
theorem encZ_size (z : Int) : (encZ z).size = 1 := rfl
structure RV where
  a : Option Addr
  c : Nat
  l : List Int
def rowC (r : RV) : Array Value := #[.slice r.a r.l.length r.c]
theorem rowC_size (r : RV) : (rowC r).size = 1 := rfl
def dfaC (f : Nat → Int) (A : Option Addr) (n c : Nat) (B : Option Addr) (m d : Nat) (C : Option Addr) (k e : Nat) : Array Value := clsC f ++ #[.slice A n c, .slice B m d, .slice C k e]
section
variable (f : Nat → Int) (A : Option Addr) (n c : Nat) (B : Option Addr) (m d : Nat) (C : Option Addr) (k e : Nat)
theorem dfaC_size : (dfaC f A n c B m d C k e).size = 259 := by simp [dfaC, clsC_size]
theorem dfaC_lo (i : Nat) (h : i < 256) : (dfaC f A n c B m d C k e)[i]? = some (.int .i64 (f i)) := by
  unfold dfaC
  rw [Array.getElem?_append_left (by rw [clsC_size]; exact h), clsC_at f i h]
theorem dfaC_1 : (dfaC f A n c B m d C k e)[256]? = some (.slice A n c) := by
  unfold dfaC
  rw [Array.getElem?_append_right (by rw [clsC_size]; omega), clsC_size]
  rfl
theorem dfaC_2 : (dfaC f A n c B m d C k e)[257]? = some (.slice B m d) := by
  unfold dfaC
  rw [Array.getElem?_append_right (by rw [clsC_size]; omega), clsC_size]
  rfl
theorem dfaC_3 : (dfaC f A n c B m d C k e)[258]? = some (.slice C k e) := by
  unfold dfaC
  rw [Array.getElem?_append_right (by rw [clsC_size]; omega), clsC_size]
  rfl
theorem dfaC_one : (dfaC f A n c B m d C k e).all (·.oneCell') = true := by
  unfold dfaC
  rw [Array.all_append, clsC_oneCell]
  simp [Value.oneCell']
theorem dfaC_ext {f g : Nat → Int} (h : ∀ b, b < 256 → f b = g b) : dfaC f A n c B m d C k e = dfaC g A n c B m d C k e := by
  unfold dfaC
  rw [clsC_ext h]
theorem set_app3 {α : Type} (l : Array α) (x y z u : α) (h : l.size = 256) : (l ++ #[x, y, z]).setIfInBounds 256 u = l ++ #[u, y, z] ∧ (l ++ #[x, y, z]).setIfInBounds 257 u = l ++ #[x, u, z] ∧ (l ++ #[x, y, z]).setIfInBounds 258 u = l ++ #[x, y, u] := by
  have key : ∀ j v, j < 3 → (l ++ #[x, y, z]).setIfInBounds (256 + j) v = l ++ (#[x, y, z].setIfInBounds j v) := by
    intro j v hj
    rw [← h]
    apply Array.ext
    · simp
    · intro i h1 h2
      simp only [Array.size_setIfInBounds, Array.size_append] at h1
      rw [Array.getElem_setIfInBounds (by simpa using h1)]
      by_cases e : i < l.size
      · rw [if_neg (by omega), Array.getElem_append_left e, Array.getElem_append_left e]
      · rw [Array.getElem_append_right (by omega), Array.getElem_append_right (by omega), Array.getElem_setIfInBounds]
        by_cases e2 : l.size + j = i
        · rw [if_pos e2, if_pos (by omega)]
        · rw [if_neg e2, if_neg (by omega)]
  exact ⟨key 0 u (by omega), key 1 u (by omega), key 2 u (by omega)⟩
theorem dfaC_set1 (A' : Option Addr) (n' c' : Nat) : (dfaC f A n c B m d C k e).setIfInBounds 256 (.slice A' n' c') = dfaC f A' n' c' B m d C k e := (set_app3 _ _ _ _ _ (clsC_size f)).1
theorem dfaC_set2 (A' : Option Addr) (n' c' : Nat) : (dfaC f A n c B m d C k e).setIfInBounds 257 (.slice A' n' c') = dfaC f A n c A' n' c' C k e := (set_app3 _ _ _ _ _ (clsC_size f)).2.1
theorem dfaC_set3 (A' : Option Addr) (n' c' : Nat) : (dfaC f A n c B m d C k e).setIfInBounds 258 (.slice A' n' c') = dfaC f A n c B m d A' n' c' := (set_app3 _ _ _ _ _ (clsC_size f)).2.2
theorem dfaC_cls {w : World} {b off : Nat} (h : RowAt w b off (dfaC f A n c B m d C k e)) : RowAt w b off (clsC f) := fun j v hv => h j v (by
  unfold dfaC
  rw [Array.getElem?_append_left]
  · exact hv
  · rcases Nat.lt_or_ge j (clsC f).size with h1 | h1
    · exact h1
    · rw [Array.getElem?_eq_none h1] at hv; cases hv)
end
theorem info_dfa : (Tryd.prog.info? 33).map (·.size) = some 259 := by kernel_rfl
theorem build_dfa0 (w : World) : (Instr.build 33 #[]).run Tryd.prog w = .ok (.agg (dfaC (fun _ => 0) none 0 0 none 0 0 none 0 0)) w := by kernel_rfl
theorem field_dfa_0 (b off : Nat) (w : World) : (Instr.fieldAt 33 (.pointer (some ⟨b, off, none⟩)) 0).run Tryd.prog w = .ok (.pointer (some ⟨b, off, none⟩)) w := by kernel_rfl
theorem field_dfa_1 (b off : Nat) (w : World) : (Instr.fieldAt 33 (.pointer (some ⟨b, off, none⟩)) 1).run Tryd.prog w = .ok (.pointer (some ⟨b, off + 256, none⟩)) w := by kernel_rfl
theorem field_dfa_2 (b off : Nat) (w : World) : (Instr.fieldAt 33 (.pointer (some ⟨b, off, none⟩)) 2).run Tryd.prog w = .ok (.pointer (some ⟨b, off + 257, none⟩)) w := by kernel_rfl
theorem field_dfa_3 (b off : Nat) (w : World) : (Instr.fieldAt 33 (.pointer (some ⟨b, off, none⟩)) 3).run Tryd.prog w = .ok (.pointer (some ⟨b, off + 258, none⟩)) w := by kernel_rfl
theorem under_cls : Tryd.prog.underlying 30 = some (.array (Tryd.prog.arrayLen 30) (Tryd.prog.elem 30)) := by kernel_rfl
theorem len_cls : Tryd.prog.arrayLen 30 = 256 := by kernel_rfl
theorem size_clsE (w : World) : (sizeOf (Tryd.prog.elem 30)).run Tryd.prog w = .ok 1 w := by kernel_rfl
theorem index_cls (b off m : Nat) (hm : m < 256) (w : World) : (Instr.indexAt 30 (.pointer (some ⟨b, off, none⟩)) (.int .i64 m)).run Tryd.prog w = .ok (.pointer (some ⟨b, off + m * 1, none⟩)) w := by
  have e := run_indexAt_array (P := Tryd.prog) w 30 ⟨b, off, none⟩ .i64 (m : Int) under_cls
  rw [if_pos ⟨by omega, by rw [len_cls]; omega⟩, size_clsE] at e
  simp only [Int.toNat_natCast, Result.andThen_ok, addr_add] at e
  exact e
theorem run_size_int (w : World) : (sizeOf 3).run Tryd.prog w = .ok 1 w := by kernel_rfl
theorem run_index_cls (w : World) (g : Nat → Int) (b : Nat) (h : b < 256) : (Instr.index 30 (.agg (clsC g)) (.int .i64 (b : Int))).run Tryd.prog w = .ok (.int .i64 (g b)) w := by
  have hn : (0 : Int) ≤ b ∧ (b : Int) < 256 := by omega
  have hp := run_part_plain (P := Tryd.prog) w (e := 3) (by kernel_rfl) (xs := clsC g) (off := b * 1) (by rw [Nat.mul_one]; exact clsC_at g b h)
  simp [Instr.index, run_underlying Tryd.underlying30, asIntOf, hn, run_size_int]
  rw [if_pos h]
  simpa using hp
theorem blk_cls {w : World} {g b : Nat} {f : Nat → Int} {A : Option Addr} {n c : Nat} {B : Option Addr} {m d : Nat} {C : Option Addr} {k e : Nat} (h : Blk w g 33 (dfaC f A n c B m d C k e)) (hb : b < 256) : w.cell? ⟨g, 0 + b * 1, none⟩ = some (.int .i64 (f b)) := by
  rw [show 0 + b * 1 = b by omega]
  exact h.cellv (dfaC_lo _ _ _ _ _ _ _ _ _ _ b hb)
section
variable {w : World} {g : Nat} {f : Nat → Int} {A : Option Addr} {n c : Nat} {B : Option Addr} {m d : Nat} {C : Option Addr} {k e : Nat}
theorem blk_d1 (h : Blk w g 33 (dfaC f A n c B m d C k e)) : w.cell? ⟨g, 256, none⟩ = some (.slice A n c) := h.cellv (dfaC_1 _ _ _ _ _ _ _ _ _ _)
theorem blk_d2 (h : Blk w g 33 (dfaC f A n c B m d C k e)) : w.cell? ⟨g, 257, none⟩ = some (.slice B m d) := h.cellv (dfaC_2 _ _ _ _ _ _ _ _ _ _)
theorem blk_d3 (h : Blk w g 33 (dfaC f A n c B m d C k e)) : w.cell? ⟨g, 258, none⟩ = some (.slice C k e) := h.cellv (dfaC_3 _ _ _ _ _ _ _ _ _ _)
end
theorem under_rows : Tryd.prog.underlying 31 = some (.slice (Tryd.prog.elem 31)) := by kernel_rfl
theorem size_rowE (w : World) : (sizeOf (Tryd.prog.elem 31)).run Tryd.prog w = .ok 1 w := by kernel_rfl
structure TV where
  f : Nat → Int
  rs : List RV
  A : Option Addr
  c : Nat
  fo : List Nat
  B : Option Addr
  d : Nat
  en : List Nat
  C : Option Addr
  e : Nat
def TV.T (x : TV) : Tb := ⟨x.f, x.rs.map (·.l), x.fo, x.en⟩
def TV.C' (x : TV) : Array Value := dfaC x.f x.A x.rs.length x.c x.B x.fo.length x.d x.C x.en.length x.e
structure TabIn (w : World) (N : Nat) (x : TV) : Prop where
  rows : SliceOf w N 1 rowC x.A x.rs
  row : ∀ r ∈ x.rs, SliceOf w N 1 encZ r.a r.l
  fo : SliceOf w N 1 encR x.B x.fo
  en : SliceOf w N 1 encR x.C x.en
  nb : x.rs.length ≤ 2199023255552
  rb : ∀ r ∈ x.rs, r.l.length ≤ 2199023255552
  fb : x.fo.length ≤ 2199023255552
  eb : x.en.length ≤ 2199023255552
  f32 : ∀ y ∈ x.fo, y < 4294967296
  e32 : ∀ y ∈ x.en, y < 4294967296
section
variable {w w' : World} {N : Nat} {x : TV}
theorem TabIn.below (h : TabIn w N x) (hb : Below N w w') : TabIn w' N x := ⟨h.rows.below hb, fun r hr => (h.row r hr).below hb, h.fo.below hb, h.en.below hb, h.nb, h.rb, h.fb, h.eb, h.f32, h.e32⟩
theorem TabIn.more {N' : Nat} (h : TabIn w N x) (hN : N ≤ N') : TabIn w N' x := ⟨h.rows.more hN, fun r hr => (h.row r hr).more hN, h.fo.more hN, h.en.more hN, h.nb, h.rb, h.fb, h.eb, h.f32, h.e32⟩
theorem TabIn.then_ (h : TabIn w w.heap.size x) (hb : Below w.heap.size w w') : TabIn w' w'.heap.size x := (h.below hb).more hb.size
theorem TabIn.rowAt (h : TabIn w N x) {s : Nat} (hs : s < x.rs.length) : ∃ b off, x.A = some ⟨b, off, none⟩ ∧ b < N ∧ w.cell? ⟨b, off + s * 1, none⟩ = some (.slice x.rs[s].a x.rs[s].l.length x.rs[s].c) := by
  obtain ⟨b, off, e, hb, hr⟩ := h.rows.at_ (by omega)
  exact ⟨b, off, e, hb, hr s hs 0 _ rfl⟩
theorem slice_cell {α : Type} {enc : α → Array Value} {A : Option Addr} {l : List α} (h : SliceOf w N 1 enc A l) {s : Nat} (hs : s < l.length) {v : Value} (hv : (enc l[s])[0]? = some v) : ∃ b off, A = some ⟨b, off, none⟩ ∧ b < N ∧ w.cell? ⟨b, off + s * 1, none⟩ = some v := by
  obtain ⟨b, off, e, hb, hr⟩ := h.at_ (by omega)
  exact ⟨b, off, e, hb, hr s hs 0 _ hv⟩
theorem cell_keep {b off : Nat} {v : Value} (h : w.cell? ⟨b, off, none⟩ = some v) (hb : b < N) (hB : Below N w w') : w'.cell? ⟨b, off, none⟩ = some v := (World.cell?_of_block (w := w) (hB.block b hb)).trans h
end
section
variable {ops : Array Oper} {rest : List Oper} {o : Oper} {a : Act} {w : World} {Q : Exit → Act → World → Prop}
theorem wl_load_dfa (hgd : o.guard = none) (x : Operand) (ho : o.op = .load 33 x)
    (g : Nat) (hx : a.eval x = .pointer (some ⟨g, 0, none⟩)) {f : Nat → Int} {A : Option Addr} {n c : Nat} {B : Option Addr} {m d : Nat} {C : Option Addr} {k e : Nat} (hb : Blk w g 33 (dfaC f A n c B m d C k e))
    (h : wpList Tryd.prog ops Q rest (a.put o.dst (.agg (dfaC f A n c B m d C k e))) w) : wpList Tryd.prog ops Q (o :: rest) a w :=
  wpList_load_row hgd _ x ho g hx _ _ _ _ hb Tryd.underlying33 rfl (info_dfa.trans (by rw [dfaC_size])) h
theorem wl_store_dfa (hgd : o.guard = none) (x y : Operand) (ho : o.op = .store 33 x y)
    (g : Nat) {f : Nat → Int} {A : Option Addr} {n c : Nat} {B : Option Addr} {m d : Nat} {C : Option Addr} {k e : Nat} (hx : a.eval x = .pointer (some ⟨g, 0, none⟩)) (hy : a.eval y = .agg (dfaC f A n c B m d C k e))
    {f0 : Nat → Int} {A0 : Option Addr} {n0 c0 : Nat} {B0 : Option Addr} {m0 d0 : Nat} {C0 : Option Addr} {k0 e0 : Nat} (hb : Blk w g 33 (dfaC f0 A0 n0 c0 B0 m0 d0 C0 k0 e0))
    (h : ∀ w', Blk w' g 33 (dfaC f A n c B m d C k e) → w.grownBy w' (some g) → wpList Tryd.prog ops Q rest (a.put o.dst undef) w') : wpList Tryd.prog ops Q (o :: rest) a w :=
  wpList_store_row hgd _ x y ho g _ hx hy _ _ hb (info_dfa.trans (by rw [dfaC_size])) (by rw [dfaC_size, dfaC_size]) (dfaC_one _ _ _ _ _ _ _ _ _ _) (h _ (hb.setRow_same _) (only_setRow (only_refl _ _) _))
theorem s_wl_load_cls (hgd : o.guard = none) (x : Operand) (ho : o.op = .load 30 x)
    (g : Nat) (hx : a.eval x = .pointer (some ⟨g, 0, none⟩)) (y : Nat → Int) (hr : RowAt w g 0 (clsC y))
    (h : wpList Tryd.prog ops Q rest (a.put o.dst (.agg (clsC y))) w) : wpList Tryd.prog ops Q (o :: rest) a w :=
  wpList_load_at hgd _ x ho g 0 hx _ _ hr Tryd.underlying30 rfl (info_cls.trans (by rw [clsC_size])) h
end
section
variable {ops : Array Oper} {S : Nat → GSpec} {Q : Exit → Act → World → Prop} {i : Nat} {o : Oper} {a : Act} {w : World}
theorem gs_load_dfa (hw : Region.wanted o (yielded ops a.tmps) = true) (x : Operand) (ho : o.op = .load 33 x) (g : Nat) (hx : a.eval x = .pointer (some ⟨g, 0, none⟩))
    {f : Nat → Int} {A : Option Addr} {n c : Nat} {B : Option Addr} {m d : Nat} {C : Option Addr} {k e : Nat} (hg : Blk w g 33 (dfaC f A n c B m d C k e))
    (hp : (S i).p (.agg (dfaC f A n c B m d C k e)) w) : GStep Tryd.prog ops S Q i o a w :=
  gs_load hw _ x ho g hx _ _ hg _ Tryd.underlying33 rfl (info_dfa.trans (by rw [dfaC_size])) hp
theorem gs_index_arr (hw : Region.wanted o (yielded ops a.tmps) = true) (t : TypeId) (x ix : Operand) (ho : o.op = .indexAddr t x ix) (b off m : Nat) (hx : a.eval x = .pointer (some ⟨b, off, none⟩)) (hi : a.eval ix = .int .i64 m)
    (hr : ∀ w, (Instr.indexAt t (.pointer (some ⟨b, off, none⟩)) (.int .i64 m)).run Tryd.prog w = .ok (.pointer (some ⟨b, off + m * 1, none⟩)) w) (hp : (S i).p (.pointer (some ⟨b, off + m * 1, none⟩)) w) : GStep Tryd.prog ops S Q i o a w :=
  gs_run hw (v := .pointer (some ⟨b, off + m * 1, none⟩)) (by unfold execOp; simp only [ho, hx, hi, Sem.run_bind, hr, Result.andThen_ok, Sem.run_pure]) (Below.refl _ _) hp
theorem gs_andnot_u32 (hw : Region.wanted o (yielded ops a.tmps) = true) (t t2 : TypeId) (x y : Operand) (ho : o.op = .binOp .andNot t x y t2) (p q : Nat) (hx : a.eval x = .int .u32 p) (hy : a.eval y = .int .u32 q) (hp1 : p < 4294967296) (hq1 : q < 4294967296)
    (hp : (S i).p (.int .u32 ((p &&& (4294967295 - q) : Nat) : Int)) w) : GStep Tryd.prog ops S Q i o a w :=
  gs_bin hw _ _ _ x y ho _ _ _ hx hy (by rw [eqGuard_at_int]; rfl) (by rw [← u32_andNot_nat p q hp1 hq1]; rfl) hp
end
theorem andnot_zero (a b : Nat) (ha : a < 4294967296) (hb : b < 4294967296) : a &&& (4294967295 - b) = 0 ↔ a &&& b = a := by
  have ht : ∀ i, (4294967295 - b).testBit i = (decide (i < 32) && !b.testBit i) := by
    intro i
    have := Nat.testBit_two_pow_sub_succ (x := b) (n := 32) (by omega) i
    rw [← this]
    congr 1
    omega
  constructor
  · intro h
    apply Nat.eq_of_testBit_eq
    intro i
    have h1 := congrArg (fun n => n.testBit i) h
    simp only [Nat.testBit_and, ht, Nat.zero_testBit] at h1 ⊢
    by_cases hi : i < 32
    · simp [hi] at h1
      cases hA : a.testBit i
      · simp
      · simp [h1 hA]
    · have : a.testBit i = false := Nat.testBit_lt_two_pow (Nat.lt_of_lt_of_le ha (by have := Nat.pow_le_pow_right (show 0 < 2 by omega) (show 32 ≤ i by omega); omega))
      simp [this]
  · intro h
    apply Nat.eq_of_testBit_eq
    intro i
    have h1 := congrArg (fun n => n.testBit i) h
    simp only [Nat.testBit_and, ht, Nat.zero_testBit] at h1 ⊢
    cases hA : a.testBit i
    · simp
    · rw [hA] at h1
      simp at h1
      simp [h1]
attribute [irreducible] dfaC
end Go.Proofs.YtkedgombccdamaaDoor
namespace Go.Proofs.YtkedgombccdamaaDoor
open Go.RowKit
set_option linter.unusedVariables false
set_option linter.unusedSimpArgs false
def takes (c : Nat) (d : Edg) : Bool := d.kd == 2 && d.st.getLsbD c
end Go.Proofs.YtkedgombccdamaaDoor
namespace Go.Proofs.YtkedgombccdamaaDoor
open Go.RowKit Go.Shelf Go.Maps
set_option linter.unusedVariables false
set_option linter.unusedSimpArgs false
theorem run_makeMap (w : World) : (Instr.makeMap 144 none).run Tryd.prog w = .ok (.map (some w.heap.size)) (w.alloc (.map #[] 0)) := by kernel_rfl
section
variable {ops : Array Oper} {S : Nat → GSpec} {Q : Exit → Act → World → Prop} {i : Nat} {o : Oper} {a : Act} {w : World}
end
end Go.Proofs.YtkedgombccdamaaDoor
namespace Go.Proofs.YtkedgombccdamaaDoor
open Go.RowKit Go.Shelf Go.Maps
set_option linter.unusedVariables false
set_option linter.unusedSimpArgs false
theorem right_fits {s : Int} {E : List Edg} {R : List Nat} (h : rightB s E R.length = true) : ∃ N : Nat, s = N ∧ Fits N E R := by
  unfold rightB at h
  simp only [Bool.and_eq_true, decide_eq_true_eq, List.all_eq_true] at h
  obtain ⟨⟨h1, h2⟩, h3⟩ := h
  refine ⟨R.length, h2.symm, ⟨by omega, rfl, fun d hd => ?_, fun d hd => ?_, fun d hd => ?_, fun d hd hk => ?_⟩⟩
  all_goals
    have h4 := h3 d hd
    unfold badE inS at h4
    simp only [Bool.not_or, Bool.not_and, Bool.and_eq_true, Bool.or_eq_true, Bool.not_eq_true', Bool.not_not, decide_eq_true_eq, decide_eq_false_iff_not, bne_iff_ne, bne_eq_false_iff_eq, Bool.not_eq_false'] at h4
  · omega
  · omega
  · omega
  · rcases h4.2 with h5 | h5
    · exact absurd h5 hk
    · exact h5
end Go.Proofs.YtkedgombccdamaaDoor
namespace Go.Proofs.YtkedgombccdamaaDoor
open Go.RowKit
set_option linter.unusedVariables false
set_option linter.unusedSimpArgs false
theorem spread_none {E : List Edg} {N x : Nat} {b e : Bool} (hE : ∀ d ∈ E, 0 ≤ d.tt ∧ d.tt < N) (hm : ∀ d ∈ E, may b e d = false) (hx : below x N) : spreadN E N b e x = x := by
  apply bits_ext
  intro i
  rw [spread_bit hE hx]
  constructor
  · intro h
    cases h with
    | base h => exact h
    | step hd h1 _ => rw [hm _ hd] at h1; cases h1
  · exact fun h => .base h
end Go.Proofs.YtkedgombccdamaaDoor
namespace Go.Proofs.YtkedgombccdamaaDoor
open Go.RowKit
set_option linter.unusedVariables false
set_option linter.unusedSimpArgs false
set_option linter.unnecessarySimpa false
def waitsB (ops : Array Oper) (i0 : Nat) (D : List Nat) : Bool := D.all fun j => j == i0 || (match ops[j]? with | some o => o.after.any fun e => Region.binds .any e && (D.contains e.on && decide (e.on < j)) | none => false)
section
variable {G : Type} {i0 : Nat}
def exS (S : G → Nat → GSpec) (i0 : Nat) : GSpec := ⟨fun v w => ∃ g, (S g i0).p v w, fun v w w' ⟨g, h⟩ hb => ⟨g, (S g i0).st v w w' h hb⟩⟩
def ghoS (S : G → Nat → GSpec) (i0 : Nat) (g : G) (k : Nat) : GSpec := cond (Nat.beq k i0) (exS S i0) (S g k)
theorem getD_set_sameE {l : Array Bool} {i : Nat} (h : i < l.size) : (l.setIfInBounds i true).getD i false = true := by simp [h]
structure GInvE (i0 : Nat) (ops : Array Oper) (n : Nat) (S : G → Nat → GSpec) (a0 : Act) (W0 : World) (listed : Array Bool) (a : Act) (w : World) : Prop where
  head : HeadInv .any ops n listed
  base : GBase ops n a0 a
  below : Below W0.heap.size W0 w
  done : ∃ g, ∀ j, j < n → listed.getD j false = true → opOk ops (S g) a w j
  deps : ∀ j o, j < n → ops[j]? = some o → listed.getD j false = true → ∀ e ∈ o.after, Region.binds .any e = true → listed.getD e.on false = true
theorem waits_listed {ops : Array Oper} {n : Nat} {D : List Nat} {listed : Array Bool} (hD : waitsB ops i0 D = true) (hn : n ≤ ops.size)
    (deps : ∀ j o, j < n → ops[j]? = some o → listed.getD j false = true → ∀ e ∈ o.after, Region.binds .any e = true → listed.getD e.on false = true) : ∀ j, j < n → D.contains j = true → listed.getD j false = true → listed.getD i0 false = true := by
  intro j
  induction j using Nat.strongRecOn with
  | _ j ih =>
  intro hj hm hl
  unfold waitsB at hD
  have h1 := List.all_eq_true.1 hD j (by simpa [List.contains_eq_mem] using hm)
  rw [Bool.or_eq_true] at h1
  rcases h1 with h1 | h1
  · rw [beq_iff_eq] at h1
    rw [← h1]; exact hl
  · cases ho : ops[j]? with
    | none => rw [ho] at h1; cases h1
    | some o =>
      rw [ho] at h1
      simp only [Array.any_eq_true, Bool.and_eq_true, decide_eq_true_eq] at h1
      obtain ⟨q, hq, h2, h3, h4⟩ := h1
      exact ih _ h4 (by omega) h3 (deps j o hj ho hl _ (Array.getElem_mem hq) h2)
theorem wpAny_growE {P : Program} {ops : Array Oper} {n : Nat} {D : List Nat} {S : G → Nat → GSpec} (hD : waitsB ops i0 D = true) (hind : ∀ g g' j, D.contains j = false → S g j = S g' j) {Q : Exit → Act → World → Prop} {a0 : Act} {W0 : World} (hB : growB ops n a0.tmps.size = true)
    (hstep : ∀ i o, i < n → ops[i]? = some o → ∀ g a w, GBase ops n a0 a → Below W0.heap.size W0 w → (∀ e ∈ o.after, Region.binds .any e = true → opOk ops (S g) a w e.on) → GStep P ops (ghoS S i0 g) Q i o a w)
    (hend : ∀ g a w, GBase ops n a0 a → Below W0.heap.size W0 w → (∀ j, j < n → opOk ops (S g) a w j) → wpList P ops Q (ops.toList.drop n) a w) :
    ∀ (m : Nat) (listed : Array Bool) (a : Act) (w : World), GInvE i0 ops n S a0 W0 listed a w → unl n listed = m → wpAny P .any ops Q (m + (ops.size - n)) listed a w := by
  simp only [growB, Bool.and_eq_true, Bool.or_eq_true, decide_eq_true_eq] at hB
  obtain ⟨⟨⟨⟨⟨hn, hdup⟩, hlt⟩, hedge⟩, htail⟩, hseq⟩ := hB
  have hedge' : ∀ i o, i < n → ops[i]? = some o → ∀ e ∈ o.after, Region.binds .any e = true → e.on < i := by
    intro i o hi ho e he hb
    have h1 := List.all_eq_true.1 hedge i (List.mem_range.2 hi)
    simp only [ho] at h1
    have h2 := (Array.all_eq_true_iff_forall_mem.1 h1) e he
    simpa [hb] using h2
  have hready : ∀ (listed : Array Bool) (a : Act) (w : World), GInvE i0 ops n S a0 W0 listed a w → 0 < unl n listed → ∀ j ∈ Region.ready .any ops listed, j < n := by
    intro listed a w inv hpos j hj
    rcases htail with he | ⟨hs, hc⟩
    · obtain ⟨_, o, ho, _⟩ := mem_ready.1 hj
      have := (Array.getElem?_eq_some_iff.1 ho).1
      omega
    · rcases Nat.lt_or_ge n ops.size with hlt' | hge
      · unfold unl at hpos
        obtain ⟨i, hi⟩ := List.exists_mem_of_length_pos hpos
        simp only [List.mem_filter, List.mem_range, Bool.not_eq_true'] at hi
        have hun : listed.getD i true = false := getD_in (by rw [inv.head.size]; omega) hi.2
        rcases Nat.lt_or_ge j n with h | h
        · exact h
        · exact absurd hj (tail_waits hs hc hlt' inv.head _ i rfl hi.1 hun j h)
      · obtain ⟨_, o, ho, _⟩ := mem_ready.1 hj
        have := (Array.getElem?_eq_some_iff.1 ho).1
        omega
  have hne : ∀ (listed : Array Bool) (a : Act) (w : World), GInvE i0 ops n S a0 W0 listed a w → 0 < unl n listed → Region.ready .any ops listed ≠ [] := by
    intro listed a w inv hpos hnil
    have hex : ∃ i, i < n ∧ listed.getD i false = false := by
      unfold unl at hpos
      obtain ⟨i, hi⟩ := List.exists_mem_of_length_pos hpos
      simp only [List.mem_filter, List.mem_range, Bool.not_eq_true'] at hi
      exact ⟨i, hi.1, hi.2⟩
    have hmin : ∃ i, i < n ∧ listed.getD i false = false ∧ ∀ k, k < i → listed.getD k false = true := by
      obtain ⟨i, hi, hf⟩ := hex
      clear hpos
      induction i using Nat.strongRecOn with
      | _ i ih =>
        by_cases h : ∃ k, k < i ∧ listed.getD k false = false
        · obtain ⟨k, hk, hkf⟩ := h
          exact ih k hk (by omega) hkf
        · refine ⟨i, hi, hf, fun k hk => ?_⟩
          cases hc : listed.getD k false with
          | true => rfl
          | false => exact absurd ⟨k, hk, hc⟩ h
    obtain ⟨i, hi, hf, hall⟩ := hmin
    have ho : ops[i]? = some ops[i] := Array.getElem?_eq_getElem (by omega)
    have hmem : i ∈ Region.ready .any ops listed := mem_ready.2 ⟨getD_in (by rw [inv.head.size]; omega) hf, _, ho, fun e he hb => hall _ (hedge' i _ hi ho e he hb)⟩
    rw [hnil] at hmem
    cases hmem
  intro m
  induction m with
  | zero =>
    intro listed a w inv hm
    have hall : ∀ j, j < n → listed.getD j false = true := by
      intro j hj
      cases hc : listed.getD j false with
      | true => rfl
      | false => have := unl_pos hj hc; omega
    have hlist : listed = headTrue n (ops.size - n) := by
      have hsz := inv.head.size
      apply Array.ext
      · simp [headTrue, hsz]; omega
      · intro j h1 h2
        have hj : j < ops.size := by rw [← hsz]; exact h1
        simp only [headTrue, List.getElem_toArray, List.getElem_append, List.length_replicate, List.getElem_replicate]
        by_cases hjn : j < n
        · have := hall j hjn
          simp [h1] at this
          simp [hjn, this]
        · have := inv.head.tail j (by omega) hj
          simp [h1] at this
          simp [hjn, this]
    obtain ⟨g, hdone⟩ := inv.done
    have hw := hend g a w inv.base inv.below (fun j hj => hdone j hj (hall j hj))
    have hdl : (ops.toList.drop n).length = ops.size - n := by simp
    have := wpAny_of_seq (md := .any) (Q' := Q) (ops.toList.drop n) n listed a w (fun j => by simp [List.getElem?_drop]) (by rw [hdl, hlist]; exact hseq) hw
    rw [hdl] at this
    rw [Nat.zero_add]
    exact this
  | succ m ih =>
    intro listed a w inv hm
    rw [show m + 1 + (ops.size - n) = (m + (ops.size - n)) + 1 by omega]
    refine ⟨fun h => absurd h (hne listed a w inv (by omega)), fun i hi => ?_⟩
    have hin := hready listed a w inv (by omega) i hi
    obtain ⟨hun, o, ho, hall⟩ := mem_ready.1 hi
    have hlisted : listed.getD i false = false := getD_both hun
    obtain ⟨g, hdone⟩ := inv.done
    have hg := hstep i o hin ho g a w inv.base inv.below (fun e he hb => hdone e.on (by have := hedge' i o hin ho e he hb; omega) (hall e he hb))
    have hsz : i < listed.size := by rw [inv.head.size]; omega
    have hnext : ∀ a' w', GK (ghoS S i0 g) i o a w a' w' → wpAny P .any ops Q (m + (ops.size - n)) (listed.setIfInBounds i true) a' w' := by
      rintro a' w' ⟨v, rfl, hb, hp⟩
      obtain ⟨g2, hp2, hsame⟩ : ∃ g2, (S g2 i).p v w' ∧ ∀ j, j < n → listed.getD j false = true → S g2 j = S g j := by
        by_cases hi0 : i = i0
        · subst hi0
          unfold ghoS at hp
          rw [show Nat.beq i i = true from Nat.beq_refl i] at hp
          obtain ⟨g2, hp⟩ := hp
          refine ⟨g2, hp, fun j hj hl => hind g2 g j ?_⟩
          cases hc : D.contains j with
          | false => rfl
          | true =>
            have := waits_listed hD hn inv.deps j hj hc hl
            rw [hlisted] at this
            cases this
        · have hb0 : Nat.beq i i0 = false := by
            cases h : Nat.beq i i0 with
            | false => rfl
            | true => exact absurd (Nat.eq_of_beq_eq_true h) hi0
          unfold ghoS at hp
          rw [hb0] at hp
          exact ⟨g, hp, fun j _ _ => rfl⟩
      refine ih _ _ _ ⟨inv.head.set hi hin, ⟨by rw [put_defers]; exact inv.base.defers, by rw [put_size]; exact inv.base.size, fun t ht => ?_⟩, inv.below.trans (hb.mono inv.below.size), ⟨g2, fun j hj hl d hd => ?_⟩, fun j oj hj hoj hl e he hbd => ?_⟩ (by have := unl_set hin hsz hlisted; omega)
      · cases hd : o.dst with
        | none => exact inv.base.other t ht
        | some d =>
          have hmem : d ∈ headDsts ops n := List.mem_filterMap.2 ⟨o, by
            rw [List.mem_iff_getElem?]
            exact ⟨i, by rw [List.getElem?_take]; simp [hin, ho]⟩, hd⟩
          have hne : d ≠ t := by
            rintro rfl
            rw [List.contains_eq_mem] at ht
            simp [hmem] at ht
          rw [put_getD_ne hne]
          exact inv.base.other t ht
      · by_cases hij : i = j
        · subst hij
          rw [ho] at hd
          simp only [Option.bind_some] at hd
          rw [hd]
          have hmem : d ∈ headDsts ops n := List.mem_filterMap.2 ⟨o, by
            rw [List.mem_iff_getElem?]
            exact ⟨i, by rw [List.getElem?_take]; simp [hin, ho]⟩, hd⟩
          have hdl : d < a.tmps.size := by
            have := List.all_eq_true.1 hlt d hmem
            rw [inv.base.size]; simpa using this
          rw [put_getD_same hdl]
          exact hp2
        · rw [getD_set_ne false hij] at hl
          have hold := hdone j hj hl d hd
          have hkeep : (a.put o.dst v).tmps.getD d undef = a.tmps.getD d undef := by
            cases hod : o.dst with
            | none => rfl
            | some e =>
              apply put_getD_ne
              rintro rfl
              cases hoj : ops[j]? with
              | none => rw [hoj] at hd; cases hd
              | some oj =>
                rw [hoj] at hd
                simp only [Option.bind_some] at hd
                exact hij (noDup_spec _ hdup i j o oj e (by rw [List.getElem?_take]; simp [hin, ho]) (by rw [List.getElem?_take]; simp [hj, hoj]) hod hd)
          rw [hkeep]
          rw [hsame j hj hl]
          exact (S g j).st _ _ _ hold hb
      · by_cases hij : i = j
        · subst hij
          rw [ho] at hoj
          injection hoj with hoj
          subst hoj
          have h5 := hall e he hbd
          by_cases h6 : i = e.on
          · rw [← h6]; exact getD_set_sameE hsz
          · rw [getD_set_ne false h6]; exact h5
        · rw [getD_set_ne false hij] at hl
          have h5 := inv.deps j oj hj hoj hl e he hbd
          by_cases h6 : i = e.on
          · rw [← h6]; exact getD_set_sameE hsz
          · rw [getD_set_ne false h6]; exact h5
    unfold wpOp
    simp only [ho]
    unfold GStep at hg
    split
    · rename_i hw
      rw [if_pos hw] at hg
      exact .inl (Oper.wp_mono hnext hg)
    · rename_i hw
      rw [if_neg hw] at hg
      exact hnext _ _ ⟨undef, rfl, Below.refl _ _, hg⟩
theorem wp_region_growE {P : Program} {id : Nat} {l : List Oper} {Q : Exit → Act → World → Prop} {a : Act} {w : World} (n : Nat) (D : List Nat) (S : G → List GSpec) (g0 : G) (hm : P.follows .mixedOrders = true) (hB : growB l.toArray n a.tmps.size = true) (hD : waitsB l.toArray i0 D = true) (hind : ∀ g g' j, D.contains j = false → specAt (S g) j = specAt (S g') j)
    (hstep : ∀ i o, i < n → l[i]? = some o → ∀ g a' w', GBase l.toArray n a a' → Below w.heap.size w w' → (∀ e ∈ o.after, Region.binds .any e = true → opOk l.toArray (specAt (S g)) a' w' e.on) → GStep P l.toArray (ghoS (fun g => specAt (S g)) i0 g) Q i o a' w')
    (hend : ∀ g (u : Nat → Value) w', Below w.heap.size w w' → (∀ j d, j < n → (l[j]?).bind (·.dst) = some d → (specAt (S g) j).p (u d) w') → wpList P l.toArray Q (l.drop n) (putAll a (headDsts l.toArray n) u) w') :
    (Code.region id l.toArray true).wp P Q a w := by
  refine wp_region_any hm ?_
  have hdr : ∀ {x : World}, Below w.heap.size w x → Below w.heap.size w.drew x := fun h => ⟨h.os, h.tape, h.output, h.size, h.block⟩
  have hrd : ∀ {x : World}, Below w.heap.size w.drew x → Below w.heap.size w x := fun h => ⟨h.os, h.tape, h.output, h.size, h.block⟩
  have hn : n ≤ l.length := by
    simp only [growB, Bool.and_eq_true, decide_eq_true_eq] at hB
    simpa using hB.1.1.1.1.1
  have key := wpAny_growE (i0 := i0) (P := P) (ops := l.toArray) (n := n) (D := D) (S := fun g => specAt (S g)) hD hind (Q := Q) (a0 := a) (W0 := w.drew) hB
    (fun i o hi ho g a' w' hb hw hd => hstep i o hi (by simpa using ho) g a' w' hb (hrd hw) hd)
    (fun g a' w' hb hw hd => by
      rw [act_eq hb]
      have := hend g (fun d => a'.tmps.getD d undef) w' (hrd hw) (fun j d hj hd' => hd j hj d (by simpa using hd'))
      simpa using this)
    n (Array.replicate l.toArray.size false) a w.drew
    ⟨⟨by simp, fun j oj _ hl => (by rw [getD_replicate_false] at hl; cases hl), fun t _ ht => getD_in (by simpa using ht) (getD_replicate_false _ _)⟩, ⟨rfl, rfl, fun _ _ => rfl⟩, Below.refl _ _, ⟨g0, fun j _ hl => (by rw [getD_replicate_false] at hl; cases hl)⟩, fun j _ _ _ hl => (by rw [getD_replicate_false] at hl; cases hl)⟩
    (by
      unfold unl
      rw [List.filter_eq_self.2 (fun j _ => by rw [getD_replicate_false]; rfl), List.length_range])
  rw [show n + (l.toArray.size - n) = l.toArray.size by simp; omega] at key
  exact key
def StepsE (i0 : Nat) (P : Program) (ops : Array Oper) (S : G → Nat → GSpec) (Q : Exit → Act → World → Prop) (n : Nat) (a : Act) (w : World) : List Oper → Nat → Prop
  | [], _ => True
  | o :: l, i => (∀ g a' w', GBase ops n a a' → Below w.heap.size w w' → (∀ j, (o.after.toList.any fun e => Region.binds .any e && e.on == j) = true → opOk ops (S g) a' w' j) → GStep P ops (ghoS S i0 g) Q i o a' w') ∧ StepsE i0 P ops S Q n a w l (i + 1)
theorem StepsE.nil {P : Program} {ops : Array Oper} {S : G → Nat → GSpec} {Q : Exit → Act → World → Prop} {n : Nat} {a : Act} {w : World} {i : Nat} : StepsE i0 P ops S Q n a w [] i := trivial
theorem StepsE.cons {P : Program} {ops : Array Oper} {S : G → Nat → GSpec} {Q : Exit → Act → World → Prop} {n : Nat} {a : Act} {w : World} {o : Oper} {l : List Oper} {i : Nat}
    (h : ∀ g a' w', GBase ops n a a' → Below w.heap.size w w' → (∀ j, (o.after.toList.any fun e => Region.binds .any e && e.on == j) = true → opOk ops (S g) a' w' j) → GStep P ops (ghoS S i0 g) Q i o a' w')
    (hl : StepsE i0 P ops S Q n a w l (i + 1)) : StepsE i0 P ops S Q n a w (o :: l) i := ⟨h, hl⟩
theorem StepsE.at_ {P : Program} {ops : Array Oper} {S : G → Nat → GSpec} {Q : Exit → Act → World → Prop} {n : Nat} {a : Act} {w : World} : ∀ {l : List Oper} {i : Nat}, StepsE i0 P ops S Q n a w l i → ∀ (k : Nat) (o : Oper), l[k]? = some o →
    ∀ g a' w', GBase ops n a a' → Below w.heap.size w w' → (∀ j, (o.after.toList.any fun e => Region.binds .any e && e.on == j) = true → opOk ops (S g) a' w' j) → GStep P ops (ghoS S i0 g) Q (i + k) o a' w'
  | [], _, _, k, o, hk => by simp at hk
  | o' :: l, i, h, k, o, hk => by
    rcases k with _ | k
    · simp only [List.getElem?_cons_zero, Option.some.injEq] at hk
      subst hk
      exact h.1
    · rw [List.getElem?_cons_succ] at hk
      have := StepsE.at_ h.2 k o hk
      rw [show i + (k + 1) = i + 1 + k by omega]
      exact this
theorem wp_region_stepsE {P : Program} {id : Nat} {l : List Oper} {Q : Exit → Act → World → Prop} {a : Act} {w : World} (n i0 : Nat) (D : List Nat) (S : G → List GSpec) (g0 : G) (ds : List Nat) (hm : P.follows .mixedOrders = true) (hB : growB l.toArray n a.tmps.size = true) (hD : waitsB l.toArray i0 D = true) (hind : ∀ g g' j, D.contains j = false → specAt (S g) j = specAt (S g') j)
    (hds : headDsts l.toArray n = ds) (hstep : StepsE i0 P l.toArray (fun g => specAt (S g)) Q n a w (l.take n) 0)
    (hend : ∀ g (u : Nat → Value) w', Below w.heap.size w w' → (∀ j d, j < n → (l[j]?).bind (·.dst) = some d → (specAt (S g) j).p (u d) w') → wpList P l.toArray Q (l.drop n) (putAll a ds u) w') :
    (Code.region id l.toArray true).wp P Q a w := by
  subst hds
  refine wp_region_growE (i0 := i0) n D S g0 hm hB hD hind (fun i o hi ho g a' w' hb hw hd => ?_) hend
  have := hstep.at_ i o (by rw [List.getElem?_take, if_pos hi]; exact ho) g a' w' hb hw (fun j hj => by
    obtain ⟨e, he, hh⟩ := List.any_eq_true.1 hj
    simp only [Bool.and_eq_true, beq_iff_eq] at hh
    rw [← hh.2]
    exact hd e (Array.mem_toList_iff.1 he) hh.1)
  rw [Nat.zero_add] at this
  exact this
end
end Go.Proofs.YtkedgombccdamaaDoor
namespace Go.Proofs.YtkedgombccdamaaDoor
open Go.RowKit Go.Shelf Go.Maps
set_option linter.unusedVariables false
set_option linter.unusedSimpArgs false
attribute [local go_sem] Oper.semAt_some
theorem gs_extract {ops : Array Oper} {S : Nat → GSpec} {Q : Exit → Act → World → Prop} {i : Nat} {o : Oper} {a : Act} {w : World} (hw : Region.wanted o (yielded ops a.tmps) = true) (x : Operand) (k : Nat) (ho : o.op = .extract x k) (vs : Array Value) (hx : a.eval x = .tuple vs) (u : Value) (hk : vs[k]? = some u)
    (hp : (S i).p u w) : GStep Tryd.prog ops S Q i o a w :=
  gs_run hw (v := u) (by unfold execOp; simp only [ho, hx, Instr.extract, hk, Sem.run_bind, Sem.run_pure, Result.andThen_ok]) (Below.refl _ _) hp
end Go.Proofs.YtkedgombccdamaaDoor
namespace Go.Proofs.YtkedgombccdamaaDoor
open Go.RowKit Go.Shelf Go.Maps
set_option linter.unusedVariables false
set_option linter.unusedSimpArgs false
attribute [local go_sem] Oper.semAt_some
def okS (s : List UInt8) : Prop := s.length ≤ maxLen
def litK (s : List UInt8) : Lit := .string s
theorem keyStr : KeyEnc Tryd.prog 9 (List UInt8) okS (fun s => .string (bs s)) litK where
  law := string_keyed Tryd.underlying9
  key s hs := by
    have := Go.WideMaps.keyOf_string_mk (s := bs s) Tryd.underlying9 (by rw [bs_size]; exact hs)
    simpa [bs, litK] using this
  inj x y h := bs_inj (by injection h)
def idxM (l : List (List UInt8)) (s : List UInt8) : Option Int := if s ∈ l then some (l.idxOf s : Int) else none
theorem idxM_nil : idxM [] = fun _ => none := by funext s; simp [idxM]
theorem idxM_old {l : List (List UInt8)} {s : List UInt8} (h : s ∈ l) : idxM l s = some (l.idxOf s : Int) := by simp [idxM, h]
theorem idxM_new {l : List (List UInt8)} {s : List UInt8} (h : s ∉ l) : idxM l s = none := by simp [idxM, h]
theorem idxM_put {l : List (List UInt8)} {s : List UInt8} (h : s ∉ l) : putM (idxM l) s (l.length : Int) = idxM (l ++ [s]) := by
  funext y
  unfold putM idxM
  by_cases e : y = s
  · subst e
    rw [List.idxOf_append, if_neg h]
    simp [h]
  · by_cases h2 : y ∈ l
    · rw [List.idxOf_append, if_pos h2]; simp [e, h2]
    · simp [e, h2]
structure MoOk (N K : Nat) (m : Mo) : Prop where
  lo : below m.at_ N
  nk : N ≤ 64 * K
  met : m.met < 4294967296
  en : m.end_ < 4294967296
def keyMo (K : Nat) (m : Mo) : List UInt8 := keyL m.met m.end_ (wordsN m.at_ K)
theorem wordsN_lt (x K : Nat) : ∀ u ∈ wordsN x K, u < 18446744073709551616 := by
  intro u hu
  unfold wordsN at hu
  obtain ⟨i, _, rfl⟩ := List.mem_map.1 hu
  exact wordN_lt' x i
theorem keyMo_inj {N K : Nat} {a b : Mo} (ha : MoOk N K a) (hb : MoOk N K b) (h : keyMo K a = keyMo K b) : a = b := by
  have h1 := ha.met; have h2 := hb.met; have h3 := ha.en; have h4 := hb.en
  obtain ⟨e1, e2, e3⟩ := keyL_inj (by omega) (by omega) (by
    intro u hu
    rcases List.mem_cons.1 hu with rfl | hu
    · omega
    · exact wordsN_lt _ _ u hu) (by
    intro u hu
    rcases List.mem_cons.1 hu with rfl | hu
    · omega
    · exact wordsN_lt _ _ u hu) h
  have e4 := wordsN_inj (Nat.lt_of_lt_of_le (below_lt ha.lo) (Nat.pow_le_pow_right (by decide) ha.nk)) (Nat.lt_of_lt_of_le (below_lt hb.lo) (Nat.pow_le_pow_right (by decide) hb.nk)) e3
  cases a; cases b
  simp only at e1 e2 e4
  subst e1; subst e2; subst e4
  rfl
theorem keys_mem {N K : Nat} {Q : List Mo} {x : Mo} (hQ : ∀ y ∈ Q, MoOk N K y) (hx : MoOk N K x) : keyMo K x ∈ Q.map (keyMo K) ↔ x ∈ Q := by
  constructor
  · intro h
    obtain ⟨y, hy, e⟩ := List.mem_map.1 h
    rw [← keyMo_inj (hQ y hy) hx e]
    exact hy
  · exact fun h => List.mem_map.2 ⟨x, h, rfl⟩
theorem keys_idx {N K : Nat} {x : Mo} (hx : MoOk N K x) : ∀ {Q : List Mo}, (∀ y ∈ Q, MoOk N K y) → (Q.map (keyMo K)).idxOf (keyMo K x) = Q.idxOf x
  | [], _ => rfl
  | y :: Q, hQ => by
    rw [List.map_cons, List.idxOf_cons, List.idxOf_cons, keys_idx hx fun z hz => hQ z (List.mem_cons_of_mem _ hz)]
    by_cases e : y = x
    · subst e; simp
    · have e2 : ¬ keyMo K y = keyMo K x := fun h => e (keyMo_inj (hQ y (List.mem_cons_self ..)) hx h)
      have b1 : (y == x) = false := by simpa using e
      have b2 : (keyMo K y == keyMo K x) = false := by simpa using e2
      rw [b1, b2]
theorem keyMo_ok {K : Nat} {m : Mo} (hK : K ≤ 1048576) : okS (keyMo K m) := by
  unfold okS keyMo maxLen keyL
  rw [List.length_append]
  have h1 := dig36_len m.met
  have h2 := join36_len (m.end_ :: wordsN m.at_ K)
  rw [List.length_cons, wordsN_length] at h2
  omega
structure MQ where
  g : Nat
  c : Nat
  mo : Mo
def encM (K : Nat) (x : MQ) : Array Value := momC (some ⟨x.g, 0, none⟩) K x.c x.mo.met x.mo.end_
theorem encM_size (K : Nat) (x : MQ) : (encM K x).size = 3 := rfl
theorem encM_one (K : Nat) (x : MQ) : (encM K x).all (·.oneCell') = true := momC_one _ _ _ _ _
def addM (L : List MQ) (x : MQ) : List MQ := if x.mo ∈ L.map MQ.mo then L else L ++ [x]
theorem addM_old {L : List MQ} {x : MQ} (h : x.mo ∈ L.map MQ.mo) : addM L x = L := by simp [addM, h]
theorem addM_new {L : List MQ} {x : MQ} (h : x.mo ∉ L.map MQ.mo) : addM L x = L ++ [x] := by simp [addM, h]
structure FQ (b0 gd bm gq : Nat) (W W' : World) : Prop where
  os : W'.os = W.os
  tape : W'.tape = W.tape
  output : W'.output = W.output
  size : W.heap.size ≤ W'.heap.size
  block : ∀ k, k < W.heap.size → k ≠ gd → k ≠ bm → k ≠ gq → (k < b0 ∨ ∃ t cs, Blk W k t cs ∧ t ≠ 92 ∧ t ≠ 43) → W'.heap[k]? = W.heap[k]?
section
variable {b0 gd bm gq : Nat} {W W' W2 : World}
theorem FQ.of_below (h : Below W.heap.size W W') : FQ b0 gd bm gq W W' := ⟨h.os, h.tape, h.output, h.size, fun k hk _ _ _ _ => h.block k hk⟩
theorem FQ.trans (h : FQ b0 gd bm gq W W') (k : FQ b0 gd bm gq W' W2) : FQ b0 gd bm gq W W2 :=
  ⟨k.os.trans h.os, k.tape.trans h.tape, k.output.trans h.output, Nat.le_trans h.size k.size, fun i hi h1 h2 h3 h4 => by
    have e := h.block i hi h1 h2 h3 h4
    refine (k.block i (Nat.lt_of_lt_of_le hi h.size) h1 h2 h3 ?_).trans e
    rcases h4 with h4 | ⟨t, cs, hb, ht⟩
    · exact .inl h4
    · exact .inr ⟨t, cs, e.trans hb, ht⟩⟩
theorem FQ.then_ (h : FQ b0 gd bm gq W W') (k : Below W'.heap.size W' W2) : FQ b0 gd bm gq W W2 := h.trans (.of_below k)
theorem FQ.one {r : Nat} (hg : W.grownBy W' (some r)) (hr : r = gd ∨ r = bm ∨ r = gq) : FQ b0 gd bm gq W W' :=
  ⟨hg.os, hg.tape, hg.output, hg.size, fun i hi h1 h2 h3 _ => hg.block i hi (fun e => by injection e with e; omega)⟩
theorem FQ.own {α : Type} {enc : α → Array Value} {size : Nat} {e : TypeId} {v : Value} {ys : List α} (ho : Own W b0 e size enc v ys) (he : e = 92 ∨ e = 43) (hg : W.grownBy W' v.ownBlock) : FQ b0 gd bm gq W W' :=
  ⟨hg.os, hg.tape, hg.output, hg.size, fun i hi _ _ _ h4 => hg.block i hi (by
    intro e1
    rcases ho.2 with ⟨hv, _⟩ | ⟨g', cap, cur, hv, hge, hh, _⟩
    · rw [hv] at e1; cases e1
    · rw [hv] at e1
      have a1 : g' = i := by simpa [Value.ownBlock] using e1.symm
      subst a1
      rcases h4 with h4 | ⟨t, cs, hb, h5, h6⟩
      · omega
      · have h2 : some (Obj.cells cs t) = some _ := hb.symm.trans hh
        injection h2 with h2
        injection h2 with _ h3
        rcases he with he | he
        · exact h5 (h3.trans he)
        · exact h6 (h3.trans he))⟩
theorem blk_fq {g : Nat} {t : TypeId} {cs : Array Value} (h : Blk W g t cs) (hf : FQ b0 gd bm gq W W') (h1 : g ≠ gd) (h2 : g ≠ bm) (h3 : g ≠ gq) (ht : g < b0 ∨ (t ≠ 92 ∧ t ≠ 43)) : Blk W' g t cs :=
  (hf.block g h.lt h1 h2 h3 (ht.imp id fun h4 => ⟨t, cs, h, h4⟩)).trans h
theorem Own.fq {α : Type} {enc : α → Array Value} {size base : Nat} {e : TypeId} {v : Value} {ys : List α} (h : Own W base e size enc v ys) (hf : FQ b0 gd bm gq W W') (hb : ∀ k, v.ownBlock = some k → k ≠ gd ∧ k ≠ bm ∧ k ≠ gq) (he : e ≠ 92 ∧ e ≠ 43) : Own W' base e size enc v ys :=
  own_block h (fun j e1 => by
    have h1 := hb j e1
    have hl := (h.lt j e1).2
    rcases h.2 with ⟨hv, _⟩ | ⟨g', cap, cur, hv, hge, hh, _⟩
    · rw [hv] at e1; cases e1
    · rw [hv] at e1
      have a1 : g' = j := by simpa [Value.ownBlock] using e1
      subst a1
      exact hf.block g' hl h1.1 h1.2.1 h1.2.2 (.inr ⟨e, _, hh, he⟩))
theorem SMach.fq {nb gk N : Nat} {E : List Edg} {R : List Nat} (h : SMach nb W gk N E R) (hf : FQ b0 gd bm gq W W') (h1 : nb ≤ gd) (h2 : nb ≤ bm) (h3 : nb ≤ gq) (h4 : nb ≤ b0) : SMach nb W' gk N E R :=
  h.keep (fun k hk => hf.block k (by have := h.low; omega) (by omega) (by omega) (by omega) (.inl (by omega))) hf.size
end
structure QSt (N K b0 gd bm gm gq : Nat) (f : Nat → Int) (AN : Option Addr) (nN cN : Nat) (L : List MQ) (W : World) : Prop where
  ord : gd < bm ∧ bm < gm ∧ gm < gq ∧ gq < b0 ∧ b0 ≤ W.heap.size
  m : Blk W gm 87 #[.map (some bm)]
  im : IntMap Tryd.prog 9 3 okS litK W bm L.length (idxM (L.map fun x => keyMo K x.mo)) L.length
  q : ∃ A c, Blk W gq 88 #[.slice A L.length c] ∧ Own W b0 92 3 (encM K) (.slice A L.length c) L
  ins : ∀ x ∈ L, Own W b0 50 1 encU (.slice (some ⟨x.g, 0, none⟩) K x.c) (wordsN x.mo.at_ K)
  d : ∃ AF cF AE cE, Blk W gd 33 (dfaC f AN nN cN AF L.length cF AE L.length cE) ∧ Own W b0 43 1 encR (.slice AF L.length cF) (L.map (·.mo.met)) ∧ Own W b0 43 1 encR (.slice AE L.length cE) (L.map (·.mo.end_)) ∧ ∀ a b, AF = some a → AE = some b → a.block ≠ b.block
  ok : ∀ x ∈ L, MoOk N K x.mo
theorem QSt.then_ {N K b0 gd bm gm gq : Nat} {f : Nat → Int} {AN : Option Addr} {nN cN : Nat} {L : List MQ} {W W' : World} (h : QSt N K b0 gd bm gm gq f AN nN cN L W) (hb : Below W.heap.size W W') : QSt N K b0 gd bm gm gq f AN nN cN L W' := by
  obtain ⟨A, c, q1, q2⟩ := h.q
  obtain ⟨AF, cF, AE, cE, d1, d2, d3, d4⟩ := h.d
  have o := h.ord
  exact ⟨⟨o.1, o.2.1, o.2.2.1, o.2.2.2.1, Nat.le_trans o.2.2.2.2 hb.size⟩, blk_then h.m hb, h.im.then_ hb, ⟨A, c, blk_then q1 hb, q2.then_ hb⟩, fun x hx => (h.ins x hx).then_ hb, ⟨AF, cF, AE, cE, blk_then d1 hb, d2.then_ hb, d3.then_ hb, d4⟩, h.ok⟩
end Go.Proofs.YtkedgombccdamaaDoor
namespace Go.Proofs.YtkedgombccdamaaDoor
open Go.RowKit Go.Maps Go.WideMaps
set_option linter.unusedVariables false
set_option linter.unusedSimpArgs false
section
variable {P : Program} {ops : Array Oper} {S : Nat → GSpec} {Q : Exit → Act → World → Prop} {i : Nat} {o : Oper} {a : Act} {w : World}
end
section
variable {ops : Array Oper} {S : Nat → GSpec} {Q : Exit → Act → World → Prop} {i : Nat} {o : Oper} {a : Act} {w : World}
end
theorem eqNI {p q : Int} (h : ¬ p = q) : Value.bool (p == q) = .bool false := by rw [beq_eq_false_iff_ne.2 h]
theorem arrK_set : ArrKey Tryd.prog 52 50 4 := ⟨Tryd.underlying52, by kernel_rfl, by kernel_rfl, by kernel_rfl⟩
theorem wf_word (x : BSet) (k : Nat) : (Lit.int .u64 (word x k : Int)).wf = true := by
  have h := word_lt' x k
  have h2 : IntKind.u64.min = 0 := by decide
  have h3 : IntKind.u64.max = 18446744073709551615 := by decide
  simp only [Lit.wf, Bool.and_eq_true, decide_eq_true_eq]
  exact ⟨by omega, by omega⟩
def litS (x : BSet) : Lit := .string (keyBytes ((words x).map (Lit.int .u64)))
theorem keySet : KeyEnc Tryd.prog 52 BSet (fun _ => True) (fun x => .agg (setC x)) litS where
  law := Keyed.of_law (deep_law_laid laid_out (m := 2) (by omega) (of_decide_eq_true (by kernel_rfl)) (by kernel_rfl) (by rw [Tryd.underlying52]))
  key y _ := keyOf_ints arrK_set Tryd.underlying50 types_pos (words y) rfl (fun x hx => by
    simp only [words, List.mem_cons, List.not_mem_nil, or_false] at hx
    rcases hx with rfl | rfl | rfl | rfl <;> exact wf_word _ _)
  inj x y h := setC_inj (by injection h)
def mapSt (xs : List BSet) (x : BSet) : Option Int := if x ∈ xs then some 1 else none
theorem mapSt_nil : mapSt [] = fun _ => none := by funext x; simp [mapSt]
theorem mapSt_old {xs : List BSet} {x : BSet} (h : x ∈ xs) : (mapSt xs x).getD 0 = 1 := by simp [mapSt, h]
theorem mapSt_new {xs : List BSet} {x : BSet} (h : x ∉ xs) : (mapSt xs x).getD 0 = 0 := by simp [mapSt, h]
theorem mapSt_none {xs : List BSet} {x : BSet} (h : x ∉ xs) : (mapSt xs x).isSome = false := by simp [mapSt, h]
theorem mapSt_put {xs : List BSet} {x : BSet} : putM (mapSt xs) x 1 = mapSt (xs ++ [x]) := by
  funext y
  unfold putM mapSt
  by_cases h : y = x <;> by_cases h2 : y ∈ xs <;> simp [h, h2]
theorem IntMap.grown' {P : Program} {k e : TypeId} {κ : Type} {ok : κ → Prop} {lit : κ → Lit} {w w' : World} {b n cnt : Nat} {m : κ → Option Int} {row : Option Nat} (h : IntMap P k e ok lit w b n m cnt) (hg : w.grownBy w' row) (hne : some b ≠ row) : IntMap P k e ok lit w' b n m cnt := by
  obtain ⟨D, h1, h2⟩ := h
  exact ⟨D, h1.kept hg hne, h2⟩
abbrev SMap (w : World) (b n : Nat) (xs : List BSet) : Prop := IntMap Tryd.prog 52 3 (fun _ => True) litS w b n (mapSt xs) xs.length
section
variable {ops : Array Oper} {S : Nat → GSpec} {Q : Exit → Act → World → Prop} {i : Nat} {o : Oper} {a : Act} {w : World}
theorem gs_lookup_set (hw : Region.wanted o (yielded ops a.tmps) = true) (m x : Operand) (ho : o.op = .lookup 136 m x false) (b n : Nat) (xs : List BSet) (h : SMap w b n xs) (hm : a.eval m = .map (some b)) (y : BSet) (hx : a.eval x = .agg (setC y))
    (z : Int) (hz : (mapSt xs y).getD 0 = z) (hp : (S i).p (.int .i64 z) w) : GStep Tryd.prog ops S Q i o a w := by
  obtain ⟨D, h1, h2, h3, h4⟩ := h
  obtain ⟨c, hrun, hat, _⟩ := h1.lookup_int keySet.law Tryd.underlying136 Tryd.underlying3 (zero_int w) (keySet.key y trivial)
  rw [h3 y trivial, hz] at hat
  injection hat with hat
  injection hat with _ hat
  subst hat
  exact gs_run hw (v := .int .i64 z) (by unfold execOp; simp only [ho, hm, hx, Sem.run_bind, hrun, Result.andThen_ok, Sem.run_pure]) (Below.refl _ _) hp
end
end Go.Proofs.YtkedgombccdamaaDoor
