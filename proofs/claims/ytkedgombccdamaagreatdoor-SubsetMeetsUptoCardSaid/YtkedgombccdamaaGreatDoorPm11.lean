/- Part 11 of a proof; packed: the texts that it was made of follow one another. No condition beyond those named in each lemma. -/
import Derived.Test.YtkedgombccdamaaGreatDoorPm1
import Derived.Test.YtkedgombccdamaaGreatDoorPm10
import Derived.Test.YtkedgombccdamaaGreatDoorPm4
import Derived.Test.YtkedgombccdamaaGreatDoorPm9
import Derived.Laws.BitsAllLaws
namespace Go.Proofs.YtkedgombccdamaaGreatDoor
open Go.RowKit Go.Shelf Go.Maps
set_option linter.unusedVariables false
set_option linter.unusedSimpArgs false
attribute [local go_sem] Oper.semAt_some
structure Mo where
 at_ : Nat
 met : Nat
 end_ : Nat
deriving DecidableEq
noncomputable def moN (E : List Edg) (N : Nat) (R : List Nat) (x met : Nat) (b : Bool) : Mo :=
 ⟨zzf E N b false (x ||| 1), met ||| metN R (zzf E N b false (x ||| 1)) N, (met ||| metN R (zzf E N b false (x ||| 1)) N) ||| metN R (zzf E N b true (zzf E N b false (x ||| 1))) N⟩
theorem info_mom : (Tryz.prog.info? 81).map (·.size) = some 3 := by kernel_rfl
theorem build_mom (A : Option Addr) (k c r : Nat) (w : World) : (Instr.build 81 #[(0, .slice A k c), (1, .int .u32 (r : Int))]).run Tryz.prog w = .ok (.agg (momC A k c r 0)) w := by kernel_rfl
theorem enter_krules (args : Array Value) (w : World) : (callFunc 47 args).run Tryz.prog w = .ok (.enter 47 args) w := by kernel_rfl
theorem momC_one (A : Option Addr) (k c r e : Nat) : (momC A k c r e).all (·.oneCell') = true := by simp [momC, Value.oneCell']
section
variable {ops : Array Oper} {rest : List Oper} {o : Oper} {a : Act} {w : World} {Q : Exit → Act → World → Prop}
theorem wl_store_mom (hgd : o.guard = none) (x y : Operand) (ho : o.op = .store 81 x y) (g : Nat) (A : Option Addr) (k c r e : Nat) (hx : a.eval x = .pointer (some ⟨g, 0, none⟩)) (hy : a.eval y = .agg (momC A k c r e)) (old : Array Value) (ho2 : old.size = 3) (hb : Blk w g 81 old)
  (h : ∀ w', Blk w' g 81 (momC A k c r e) → w.grownBy w' (some g) → wpList Tryz.prog ops Q rest (a.put o.dst undef) w') : wpList Tryz.prog ops Q (o :: rest) a w :=
 wpList_store_row hgd _ x y ho g _ hx hy _ _ hb (info_mom.trans rfl) (by rw [ho2]; rfl) (momC_one _ _ _ _ _) (h _ (hb.setRow_same _) (zxs (zzk _ _) _))
theorem wl_load_mom (hgd : o.guard = none) (x : Operand) (ho : o.op = .load 81 x) (g : Nat) (hx : a.eval x = .pointer (some ⟨g, 0, none⟩)) (A : Option Addr) (k c r e : Nat) (hb : Blk w g 81 (momC A k c r e))
  (h : wpList Tryz.prog ops Q rest (a.put o.dst (.agg (momC A k c r e))) w) : wpList Tryz.prog ops Q (o :: rest) a w :=
 wpList_load_row hgd _ x ho g hx _ _ _ _ hb Tryz.underlying81 rfl (info_mom.trans rfl) h
theorem wl_build_mom (hgd : o.guard = none) (x y : Operand) (ho : o.op = .build 81 #[(0, x), (1, y)]) (A : Option Addr) (k c r : Nat) (hx : a.eval x = .slice A k c) (hy : a.eval y = .int .u32 (r : Int))
  (h : wpList Tryz.prog ops Q rest (a.put o.dst (.agg (momC A k c r 0))) w) : wpList Tryz.prog ops Q (o :: rest) a w :=
 wl_run hgd (v := .agg (momC A k c r 0)) (by unfold execOp; simp only [ho, List.map_toArray, List.map_cons, List.map_nil, hx, hy, Sem.run_bind, build_mom, Result.andThen_ok, Sem.run_pure]) h
end
set_option maxRecDepth 100000 in
set_option maxHeartbeats 8000000 in
theorem kmoment_any (nb gk N base g c x met : Nat) (E : List Edg) (R : List Nat) (beg : Bool) (hx : below x N) (hm : met < 4294967296) (w : World) (hM : SMach nb w gk N E R) (hS : Own w base 51 1 encU (.slice (some ⟨g, 0, none⟩) (zqe N) c) (zqu x (zqe N))) (hgn : nb ≤ g) :
  Calls Tryz.prog 25 #[.pointer (some ⟨gk, 0, none⟩), .slice (some ⟨g, 0, none⟩) (zqe N) c, .int .u32 (met : Int), .bool beg] w fun e w' => e = .returned (.agg (momC (some ⟨g, 0, none⟩) (zqe N) c (moN E N R x met beg).met (moN E N R x met beg).end_)) ∧ Own w' base 51 1 encU (.slice (some ⟨g, 0, none⟩) (zqe N) c) (zqu (moN E N R x met beg).at_ (zqe N)) ∧ Turn g (g + 1) w w' := by
 have hN := hM.lN
 have hone := hM.fits.one
 have hkb : zqe N ≤ 1099511627776 := by unfold zqe; omega
 have hk1 : 0 < zqe N := by unfold zqe; omega
 have hkI := zzh N
 have hgl := (hS.lt g rfl).2
 have HMt := Lib.hid (fun W (hW : Turn g (g + 1) w W) => hM.turn hW hgn)
 have Hlt := Lib.hid (fun y => met_lt (fun r hr => hM.lt r hr) y N)
 obtain ⟨y, hy⟩ : ∃ y, y = zzf E N beg false (x ||| 1) := ⟨_, rfl⟩
 obtain ⟨r0, hr0⟩ : ∃ r, r = metN R y N := ⟨_, rfl⟩
 obtain ⟨r1, hr1⟩ : ∃ r, r = met ||| r0 := ⟨_, rfl⟩
 obtain ⟨y2, hy2⟩ : ∃ z, z = zzf E N beg true y := ⟨_, rfl⟩
 obtain ⟨r2, hr2⟩ : ∃ r, r = metN R y2 N := ⟨_, rfl⟩
 obtain ⟨e2, he2⟩ : ∃ r, r = r1 ||| r2 := ⟨_, rfl⟩
 have hmo : moN E N R x met beg = ⟨y, r1, e2⟩ := by rw [he2, hr2, hy2, hr1, hr0, hy]; rfl
 rw [hmo]
 have hx1 : below (x ||| 2 ^ 0) N := below_or hx (below_pow (by omega))
 have hy0 : y = zzf E N beg false (x ||| 2 ^ 0) := hy
 have hyN : below y N := by rw [hy]; exact spread_below _ _ _ _ _
 have hr0l : r0 < 4294967296 := by rw [hr0]; exact Hlt.out _
 have hr1l : r1 < 4294967296 := by rw [hr1]; exact Nat.or_lt_two_pow (n := 32) hm hr0l
 have hr2l : r2 < 4294967296 := by rw [hr2]; exact Hlt.out _
 have hor1 := u32_or_nat met r0 hm hr0l
 have hor2 := u32_or_nat r1 r2 hr1l hr2l
 rw [← hr1] at hor1
 rw [← he2] at hor2
 have Hy := Lib.hid hy0
 have Hr0 := Lib.hid hr0
 have Hy2 := Lib.hid hy2
 have Hr2 := Lib.hid hr2
 have Hx1 := Lib.hid hx1
 have HyN := Lib.hid hyN
 have Hor2 := Lib.hid hor2
 have hT0 := Turn.refl g (g + 1) w
 clear hy hr0 hr1 hy2 hr2 he2 hmo hx1 hy0 hyN hx hM hor2 hone
 go_enter Tryz.func25, Tryz.ntmps25
 go_upto_region 1 with (fail)
 have hBa : Below w.heap.size w (w.alloc (.cells #[.slice none 0 0, .int .u32 0, .int .u32 0] 81)) := zqc (Below.refl _ _) _
 have k8 : Blk (w.alloc (.cells #[.slice none 0 0, .int .u32 0, .int .u32 0] 81)) w.heap.size 81 (momC none 0 0 0 0) := Blk.new w 81 (momC none 0 0 0 0)
 obtain ⟨W1, hW1⟩ : ∃ y, y = w.alloc (.cells #[.slice none 0 0, .int .u32 0, .int .u32 0] 81) := ⟨_, rfl⟩
 obtain ⟨g8, hg8⟩ : ∃ y, y = w.heap.size := ⟨_, rfl⟩
 have hg8w : w.heap.size ≤ g8 := by omega
 rw [← hW1, ← hg8] at k8 ⊢
 rw [← hW1] at hBa
 have hg8g : g8 ≠ g := by omega
 replace hS := hS.then_ hBa
 have hT1 := hT0.then_ hBa
 clear hg8 hW1 hBa hT0
 go_upto_region 2 with (go_at_call 45; refine (kadd_any g (zqe N) c x 0 base (by omega) hkb _ hS).mono ?_; rintro en w2 ⟨rfl, hS2, hg2⟩)
 have hT2 := hT1.grown hg2 (fun r e => by injection e with e; omega)
 have k8' := zqk k8 hg2 hg8g
 clear hS hT1 k8 hg2
 have kS := kspread_any nb gk N base g c (x ||| 2 ^ 0) E R beg false Hx1.out w2 (HMt.out w2 hT2) hS2 hgn
 rw [← Hy.out] at kS
 go_upto_region 3 with (go_at_call 46; refine kS.mono ?_; rintro en w3 ⟨rfl, hS3, hTs⟩)
 have hT3 := hT2.trans hTs
 have k83 := zzg k8' hTs (by omega)
 clear hS2 hT2 k8' hTs kS
 have kR := krules_any nb gk N w3.heap.size g c y E R w3 (HMt.out w3 hT3) (hS3.slice_all zzu)
 rw [← Hr0.out] at kR
 go_upto_region 4 with (first
  | (go_at_call 47; refine kR.mono ?_; rintro en w4 ⟨rfl, rfl⟩)
  | (refine wl_build_mom rfl _ _ rfl (some ⟨g, 0, none⟩) (zqe N) c r1 rfl rfl ?_)
  | (refine wl_store_mom rfl _ _ rfl _ (some ⟨g, 0, none⟩) (zqe N) c r1 0 rfl rfl (momC none 0 0 0 0) rfl (Blk.new _ _ _) ?_; intro w5 k9 hg5))
 have hB5 : Below w4.heap.size w4 w5 := zqh (zqc (Below.refl _ _) _) hg5 (Nat.le_refl _)
 obtain ⟨g9, hg9⟩ : ∃ y, y = w4.heap.size := ⟨_, rfl⟩
 have hg9w : w.heap.size ≤ g9 := by have := hT3.size; omega
 have hg8l := k83.lt
 have hgl3 := (hS3.lt g rfl).2
 have hg98 : g9 ≠ g8 := by omega
 have hg9g : g9 ≠ g := by omega
 rw [← hg9] at k9 ⊢
 have hT5 := hT3.then_ hB5
 have hS5 := hS3.then_ hB5
 have k85 := zqb k83 hB5
 obtain ⟨i0, hi0, hz0, hz1, hz2⟩ := info_parts info_u64z
 have hB6 : Below w5.heap.size w5 (w5.alloc (.cells #[] 51)) := zqc (Below.refl _ _) _
 have hk2 : zqe N ≤ 549755813889 := by unfold zqe; omega
 have hs5 := hT5.size
 clear hg5 hB5 hg9 hS3 k83 hT3 kR hor1
 go_upto_region 5 with (at_builtin; refine zxh (enc := encU) _ rfl _ _ 79 rfl w.heap.size 51 i0 _ 1 8 Tryz.underlying79 hi0 hz0 hz1 hz2 rfl (by decide) zzu encU_one _ _ rfl (own_empty (w := w5) (e := 51) (size := 1) (base := w.heap.size) hs5) _ _ _ _ (zqu y (zqe N)) rfl (zqz _ _).symm ((hS5.then_ hB6).slice_all zzu) (by simp only [List.length_nil]; unfold maxLen; omega) (by simp only [List.length_nil]; omega) (by simp; omega) ?_; intro v6 w6 hs6 hg6 hv6)
 rw [List.nil_append] at hs6
 obtain ⟨gl, cl, hv1, hgb1, hgb2, _⟩ := hs6.form (by rw [zqz]; exact hk1)
 rw [zqz] at hv1
 subst hv1
 have hB56 : Below w5.heap.size w5 w6 := zqh hB6 hg6 (Nat.le_refl _)
 have hglw : w5.heap.size ≤ gl := by
  rcases hv6 with h | h
  ·injection h with h; simp only at h; omega
  ·injection h with h; simp at h; omega
 have k9' := zqb k9 hB56
 have hg9l := k9.lt
 have hg8l5 := k85.lt
 replace hS5 := hS5.then_ hB56
 replace hT5 := hT5.then_ hB56
 replace k85 := zqb k85 hB56
 have hgl5 : g < w5.heap.size := by omega
 have hnbl : nb ≤ gl := by have := (HMt.out w (Turn.refl _ _ _)).low; omega
 clear hB6 hB56 hg6 hv6 hi0 hz0 hz1 hz2 k9
 have kS2 := kspread_any nb gk N w.heap.size gl cl y E R beg true HyN.out w6 (HMt.out w6 hT5) hs6 hnbl
 rw [← Hy2.out] at kS2
 go_upto_region 6 with (go_at_call 46; refine kS2.mono ?_; rintro en w7 ⟨rfl, hS7, hTl⟩)
 have hT7 := hT5.above hTl (by omega)
 have hSg := own_turn hS5 hTl (by omega)
 have k9 := zzg k9' hTl (by omega)
 have k87 := zzg k85 hTl (by omega)
 clear hS5 hT5 k85 k9' hTl kS2 hs6
 have kR2 : ∀ W, Below w7.heap.size w7 W → Calls Tryz.prog 47 #[.pointer (some ⟨gk, 0, none⟩), .slice (some ⟨gl, 0, none⟩) (zqe N) cl] W fun e w' => e = .returned (.int .u32 ((r2 : Nat) : Int)) ∧ Below W.heap.size W w' := fun W hW => by
  have := krules_any nb gk N W.heap.size gl cl y2 E R W (HMt.out W (hT7.then_ hW)) ((hS7.then_ hW).slice_all zzu)
  rw [← Hr2.out] at this
  exact this.mono fun e w' h => ⟨h.1, by rw [h.2]; exact Below.refl _ _⟩
 have hor2 := Hor2.out
 refine zql 7 [eqS (.pointer (some ⟨g9, 1, none⟩)), eqS (.int .u32 (((r1 : Nat) : Int))), eqS (.pointer (some ⟨gk, 0, none⟩)), eqS (.slice (some ⟨gl, 0, none⟩) (zqe N) cl), eqS (.int .u32 (((r2 : Nat) : Int))), eqS (.int .u32 (((e2 : Nat) : Int))), eqS (.pointer (some ⟨g9, 2, none⟩))] [31, 32, 33, 34, 35, 36, 37] zqp (by kernel_rfl) (by kernel_rfl) ?_ ?_
 ·skip
  refine Steps.cons (fun a' w' hG hB dep => zqn (zqa rfl) _ _ _ rfl g9 (0) (1) (hG.other 9 rfl) (fun wz => field_mom_1 g9 (0) wz) rfl) ?_
  refine Steps.cons (fun a' w' hG hB dep => zqj (zqa rfl) _ _ rfl g9 (1) (dep 0 rfl 31 rfl) (.int .u32 (((r1 : Nat) : Int))) ((zqb k9 hB).cellv (i := 1) rfl) _ Tryz.underlying42 rfl rfl) ?_
  refine Steps.cons (fun a' w' hG hB dep => zqi (zqa rfl) _ rfl (id (hG.other 0 rfl))) ?_
  refine Steps.cons (fun a' w' hG hB dep => zqi (zqa rfl) _ rfl (id (hG.other 10 rfl))) ?_
  refine Steps.cons (fun a' w' hG hB dep => zze (zqa rfl) _ _ _ rfl enter_krules #[(.pointer (some ⟨gk, 0, none⟩)), (.slice (some ⟨gl, 0, none⟩) (zqe N) cl)] (map2 (dep 2 rfl 33 rfl) (dep 3 rfl 34 rfl)) (ret_step (kR2 _ hB) (fun _ => rfl))) ?_
  refine Steps.cons (fun a' w' hG hB dep => gs_or_u32 (zqa rfl) _ _ _ _ rfl _ _ (dep 1 rfl 32 rfl) (dep 4 rfl 35 rfl) _ hor2 rfl) ?_
  refine Steps.cons (fun a' w' hG hB dep => zqn (zqa rfl) _ _ _ rfl g9 (0) (2) (hG.other 9 rfl) (fun wz => field_mom_2 g9 (0) wz) rfl) ?_
  exact Steps.nil
 intro uu w8 hB8 ans
 have u36 : uu 36 = .int .u32 ((e2 : Nat) : Int) := ans 5 36 (by decide) rfl
 have u37 : uu 37 = .pointer (some ⟨g9, 2, none⟩) := ans 6 37 (by decide) rfl
 clear ans
 simp only [zqr, List.foldl_cons, List.foldl_nil, Act.put, List.setIfInBounds_toArray, List.set_cons_zero, List.set_cons_succ, u36, u37]
 clear u36 u37 kR2 hor2
 simp only [List.drop]
 replace hT7 := hT7.then_ hB8
 replace hSg := hSg.then_ hB8
 replace k9 := zqb k9 hB8
 replace k87 := zqb k87 hB8
 clear hB8 hS7
 refine zqt rfl _ _ _ rfl g9 2 rfl 81 _ (momC (some ⟨g, 0, none⟩) (zqe N) c r1 e2) k9 (by show 2 < 3; omega) (by kernel_rfl) rfl rfl rfl ?_
 intro w9 k99 hg99
 refine wpList_nil ?_
 have hT9 := hT7.grown hg99 (fun r e => by injection e with e; omega)
 have hSg9 := own_grown' hSg hg99 (fun h => hg9g h.symm)
 have k89 := zqk k87 hg99 (fun h => hg98 h.symm)
 clear hT7 hSg k9 k87 hg99
 go_wp2_with (first
  | (refine wl_load_mom rfl _ rfl g9 rfl (some ⟨g, 0, none⟩) (zqe N) c r1 e2 k99 ?_)
  | (refine wl_store_mom rfl _ _ rfl g8 (some ⟨g, 0, none⟩) (zqe N) c r1 e2 rfl rfl (momC none 0 0 0 0) rfl k89 ?_; intro wa ka hga))
 refine ret_cell rfl _ rfl ka Tryz.underlying81 rfl (info_mom.trans rfl) rfl ?_
 exact ⟨rfl, own_grown' hSg9 hga (fun h => hg8g h.symm), hT9.grown hga (fun r e => by injection e with e; omega)⟩
def hopP (E : List Edg) (x cb n i : Nat) : Prop := ∃ d ∈ E, d.kd = 2 ∧ d.fr.toNat < n ∧ x.testBit d.fr.toNat = true ∧ d.st.getLsbD cb = true ∧ d.tt.toNat = i
def hopQ (E : List Edg) (cb n j i : Nat) : Prop := ∃ d ∈ (zqq E n).take j, d.kd = 2 ∧ d.st.getLsbD cb = true ∧ d.tt.toNat = i
theorem hopP_skip {E : List Edg} {x cb n : Nat} (hE : ∀ d ∈ E, 0 ≤ d.fr) (h : x.testBit n = false) (i : Nat) : hopP E x cb (n + 1) i ↔ hopP E x cb n i := by
 constructor
 ·rintro ⟨d, h1, h2, h3, h4, h5⟩
  by_cases e : d.fr.toNat = n
  ·rw [e, h] at h4; cases h4
  ·exact ⟨d, h1, h2, by omega, h4, h5⟩
 ·rintro ⟨d, h1, h2, h3, h4⟩
  exact ⟨d, h1, h2, by omega, h4⟩
theorem hopP_step {E : List Edg} {x cb n : Nat} (hE : ∀ d ∈ E, 0 ≤ d.fr) (h : x.testBit n = true) (j : Nat) (hj : (zqq E n).length ≤ j) (i : Nat) : hopP E x cb (n + 1) i ↔ hopP E x cb n i ∨ hopQ E cb n j i := by
 unfold hopQ
 rw [List.take_of_length_le hj]
 constructor
 ·rintro ⟨d, h1, h2, h3, h4, h5, h6⟩
  by_cases e : d.fr.toNat = n
  ·exact .inr ⟨d, mem_edgesAt.2 ⟨h1, by have := hE d h1; omega⟩, h2, h5, h6⟩
  ·exact .inl ⟨d, h1, h2, by omega, h4, h5, h6⟩
 ·rintro (⟨d, h1, h2, h3, h4⟩ | ⟨d, h1, h2, h5, h6⟩)
  ·exact ⟨d, h1, h2, by omega, h4⟩
  ·obtain ⟨h1, h7⟩ := mem_edgesAt.1 h1
   have e : d.fr.toNat = n := by omega
   exact ⟨d, h1, h2, by omega, by rw [e]; exact h, h5, h6⟩
theorem hopQ_succ {E : List Edg} {cb n j : Nat} (hj : j < (zqq E n).length) (i : Nat) : hopQ E cb n (j + 1) i ↔ hopQ E cb n j i ∨ ((zqq E n)[j].kd = 2 ∧ (zqq E n)[j].st.getLsbD cb = true ∧ (zqq E n)[j].tt.toNat = i) := by
 unfold hopQ
 rw [List.take_succ_eq_append_getElem hj]
 constructor
 ·rintro ⟨d, h1, h2⟩
  rcases List.mem_append.1 h1 with h1 | h1
  ·exact .inl ⟨d, h1, h2⟩
  ·rw [List.mem_singleton] at h1
   subst h1
   exact .inr h2
 ·rintro (⟨d, h1, h2⟩ | h2)
  ·exact ⟨d, List.mem_append_left _ h1, h2⟩
  ·exact ⟨_, List.mem_append_right _ (List.mem_singleton.2 rfl), h2⟩
theorem hop_byte {E : List Edg} {N x cb y : Nat} (hN : 1 ≤ N) (hE : ∀ d ∈ E, (0 ≤ d.fr ∧ d.fr < N) ∧ 0 ≤ d.tt ∧ d.tt < N) (h : ∀ i, y.testBit i = true ↔ hopP E x cb N i) : y ||| 1 = byteN E N x cb ||| 1 := by
 apply bits_ext
 intro i
 have h1 : Nat.testBit 1 i = decide (0 = i) := by rw [show (1 : Nat) = 2 ^ 0 from rfl, Nat.testBit_two_pow]
 rw [Nat.testBit_or, Nat.testBit_or, Bool.or_eq_true, Bool.or_eq_true, h, byte_bit, h1, decide_eq_true_eq]
 constructor
 ·rintro (⟨d, h1, h2, h3, h4, h5, h6⟩ | h)
  ·exact .inl ⟨by have := hE d h1; omega, .inr ⟨d, h1, h2, h4, h5, h6⟩⟩
  ·exact .inr h
 ·rintro (⟨_, h | ⟨d, h1, h2, h4, h5, h6⟩⟩ | h)
  ·exact .inr h.symm
  ·exact .inl ⟨d, h1, h2, by have := hE d h1; omega, h4, h5, h6⟩
  ·exact .inr h
theorem moN_or {E : List Edg} {N : Nat} {R : List Nat} {x y met : Nat} {b : Bool} (h : x ||| 1 = y ||| 1) : moN E N R x met b = moN E N R y met b := by unfold moN; rw [h]
set_option maxRecDepth 100000 in
set_option maxHeartbeats 8000000 in
theorem kbehind_any (nb gk N B K c x r e0 cb : Nat) (A : Option Addr) (E : List Edg) (R : List Nat) (hK : K = zqe N) (hr : r < 4294967296) (hcb : cb < 256) (w : World) (hM : SMach nb w gk N E R) (hB : B ≤ w.heap.size) (hS : SliceOf w B 1 encU A (zqu x K)) :
  Calls Tryz.prog 27 #[.pointer (some ⟨gk, 0, none⟩), .agg (momC A K c r e0), .int .u8 cb] w fun e w' => ∃ g, e = .returned (.agg (momC (some ⟨g, 0, none⟩) (zqe N) (zqe N) (moN E N R (byteN E N x cb) r false).met (moN E N R (byteN E N x cb) r false).end_)) ∧ w.heap.size ≤ g ∧ Own w' w.heap.size 51 1 encU (.slice (some ⟨g, 0, none⟩) (zqe N) (zqe N)) (zqu (moN E N R (byteN E N x cb) r false).at_ (zqe N)) ∧ Below w.heap.size w w' := by
 subst hK
 have hN := hM.lN
 have hone := hM.fits.one
 have HF := Lib.hid hM.fits
 have hkb : zqe N ≤ 1099511627776 := by unfold zqe; omega
 have hkI := zzh N
 have hlow := hM.low
 have hEb : ∀ d ∈ E, (0 ≤ d.fr ∧ d.fr < N) ∧ 0 ≤ d.tt ∧ d.tt < N := fun d hd => ⟨HF.out.fr d hd, HF.out.tt d hd⟩
 have Hby := Lib.hid (fun (y : Nat) (h : ∀ i, y.testBit i = true ↔ hopP E x cb N i) => (moN_or (E := E) (N := N) (R := R) (met := r) (b := false) (hop_byte hone hEb h)))
 have HMt := Lib.hid (fun W (hW : Below w.heap.size w W) => hM.below hW hlow)
 have HSl := Lib.hid (fun W (hW : Below w.heap.size w W) => (hS.keep (w' := W) fun k hk => hW.block k (by omega)))
 have c0 : w.cell? ⟨gk, 0, none⟩ = some (.int .i64 (N : Int)) := by
  obtain ⟨h1, A, n, c, B, d, bf, cF, hb, h3, h4, h5⟩ := hM.mem
  exact hb.cellv rfl
 have HEb := Lib.hid hEb
 clear hM hS hEb
 go_enter Tryz.func27, Tryz.ntmps27
 go_upto_region 1 with (fail)
 have h1 : Blk (w.alloc (.cells (momC A (zqe N) c r e0) 81)) w.heap.size 81 (momC A (zqe N) c r e0) := Blk.new w _ _
 have hB1 : Below w.heap.size w (w.alloc (.cells (momC A (zqe N) c r e0) 81)) := zqc (Below.refl _ _) _
 obtain ⟨w1, hw1⟩ : ∃ y, y = w.alloc (.cells (momC A (zqe N) c r e0) 81) := ⟨_, rfl⟩
 have hs1 : w1.heap.size = w.heap.size + 1 := by rw [hw1]; exact Array.size_push ..
 rw [← hw1] at h1 hB1 ⊢
 clear hw1
 have h16 : Blk (w1.alloc (.cells #[.slice none 0 0, .int .u32 0, .int .u32 0] 81)) w1.heap.size 81 (momC none 0 0 0 0) := Blk.new w1 81 (momC none 0 0 0 0)
 have hB2 : Below w.heap.size w (w1.alloc (.cells #[.slice none 0 0, .int .u32 0, .int .u32 0] 81)) := zqc hB1 _
 have h12 := zqb h1 (zqc (Below.refl w1.heap.size w1) (.cells #[.slice none 0 0, .int .u32 0, .int .u32 0] 81))
 obtain ⟨w2, hw2⟩ : ∃ y, y = w1.alloc (.cells #[.slice none 0 0, .int .u32 0, .int .u32 0] 81) := ⟨_, rfl⟩
 have hs2 : w2.heap.size = w.heap.size + 2 := by rw [hw2, show w.heap.size + 2 = w1.heap.size + 1 by omega]; exact Array.size_push ..
 rw [← hw2, hs1] at h16
 rw [← hw2] at hB2 h12 ⊢
 obtain ⟨gx, hgx⟩ : ∃ y, y = w.heap.size := ⟨_, rfl⟩
 rw [← hgx] at h16 h12 ⊢
 have Hgx := Lib.hid hgx
 clear hw2 hs1 h1 hB1 hgx
 go_upto_region 2 with (go_at_call 26; refine (knone_any nb gk N E R _ (HMt.out w2 hB2)).mono ?_; rintro e w3 ⟨g, rfl, hgl, hS3, hB3⟩)
 have hgw : w.heap.size + 2 ≤ g := by omega
 replace hS3 := hS3.mono (base' := w.heap.size) (by omega)
 have hB03 := zqd hB2 hB3
 have h13 := zqb h12 hB3
 have h63 := zqb h16 hB3
 have c03 := (World.cell?_of_block (w := w) (hB03.block gk (Nat.lt_of_lt_of_le (HMt.out w (Below.refl _ _)).mem.1 hlow))).trans c0
 clear hB3 hB2 h12 h16 c0 hgl
 have hi0 : ∀ i, Nat.testBit 0 i = true ↔ hopP E x cb 0 i := fun i => by
  constructor
  ·intro h; simp at h
  ·rintro ⟨d, _, _, h, _⟩; omega
 go_wp2_with (fail)
 go_loopw [18] (fun iv wr => ∃ n y : Nat, n ≤ N ∧ iv = .int .i64 n ∧ below y N ∧ (∀ i, y.testBit i = true ↔ hopP E x cb n i) ∧ Own wr w.heap.size 51 1 encU (.slice (some ⟨g, 0, none⟩) (zqe N) (zqe N)) (zqu y (zqe N)) ∧ Below w.heap.size w wr ∧ Blk wr gx 81 (momC A (zqe N) c r e0) ∧ Blk wr (gx + 1) 81 (momC none 0 0 0 0)) (fun iv _ => N - (intOf iv).toNat)
 case atStart => exact ⟨0, 0, by omega, rfl, below_zero N, hi0, hS3, hB03, h13, h63⟩
 case round =>
  clear hi0 hS3 hB03 h13 h63 c03
  obtain ⟨n, y, hn, rfl, hy, hi, hS, hBw, hx, h6⟩ := hrel
  by_cases hnl : n < N
  ·have hnI : (n : Int) < N := by omega
   have hnb : n < 1099511628000 := by omega
   have cx : wr.cell? ⟨gx, 0, none⟩ = some (.slice A (zqe N) c) := hx.cellv (i := 0) rfl
   have hh := khas_any A (zqe N) c x n (by omega) hkb B wr (HSl.out wr hBw)
   obtain ⟨b, hbt⟩ : ∃ b, x.testBit n = b := ⟨_, rfl⟩
   rw [hbt] at hh
   have Hb := Lib.hid hbt
   have Hi := Lib.hid hi
   have Hy := Lib.hid hy
   clear hbt hi hy
   cases b with
   | false =>
     have hi1 : ∀ i, y.testBit i = true ↔ hopP E x cb (n + 1) i := fun i => (Hi.out i).trans (hopP_skip (fun d hd => (HEb.out d hd).1.1) Hb.out i).symm
     have Hi1 := Lib.hid hi1
     clear hi1
     go_wp2_with (go_at_call 48; refine hh.mono ?_; rintro e w5 ⟨rfl, rfl⟩)
     exact ⟨⟨n + 1, y, by omega, rfl, Hy.out, Hi1.out, hS, hBw, hx, h6⟩, by simp only [intOf]; omega⟩
   | true =>
     obtain ⟨hgk, A1, n1, c1, B1, d1, bf, cF, hbk, hR1, hbf, hfr⟩ := (HMt.out wr hBw).mem
     obtain ⟨As, cs, ce, hAs⟩ := hfr n hnl
     have cF1 : wr.cell? ⟨gk, 3, none⟩ = some (.slice (some ⟨bf, 0, none⟩) N cF) := hbk.cellv (i := 3) rfl
     have hElen : (zqq E n).length ≤ 1099511627776 := Nat.le_trans (List.length_filter_le _ _) (HMt.out wr hBw).lE
     have HAs := Lib.hid (fun W (hW : Below w.heap.size w W) => (hAs.keep (w' := W) fun k hk => (hW.block k (by omega)).trans (hBw.block k (by omega)).symm))
     obtain ⟨el, hel⟩ : ∃ el, el = (zqq E n).length := ⟨_, rfl⟩
     rw [← hel] at ce hElen
     have Hel := Lib.hid hel
     clear hbk hR1 hfr hAs hel
     go_wp2_with (go_at_call 48; refine hh.mono ?_; rintro e w5 ⟨rfl, rfl⟩)
     go_loopw [34] (fun iv wi => ∃ j z : Nat, j ≤ el ∧ iv = .int .i64 j ∧ below z N ∧ (∀ i, z.testBit i = true ↔ hopP E x cb n i ∨ hopQ E cb n j i) ∧ Own wi w.heap.size 51 1 encU (.slice (some ⟨g, 0, none⟩) (zqe N) (zqe N)) (zqu z (zqe N)) ∧ Below w.heap.size w wi ∧ Blk wi gx 81 (momC A (zqe N) c r e0) ∧ Blk wi (gx + 1) 81 (momC none 0 0 0 0)) (fun iv _ => el - (intOf iv).toNat)
     case atStart => exact ⟨0, y, by omega, rfl, Hy.out, fun i => (Hi.out i).trans ⟨.inl, fun h => h.elim id (fun ⟨d, h, _⟩ => by simp at h)⟩, hS, hBw, hx, h6⟩
     case round =>
      have hBw0 := hBw
      clear hS hBw hx h6 cx hh cF1 ce
      obtain ⟨j, z, hj, rfl, hz, hi, hS, hBw, hx, h6⟩ := hrel
      by_cases hjl : j < el
      ·have hjI : (j : Int) < el := by omega
       have hjb : j < 1099511628000 := by omega
       have hjl2 : j < (zqq E n).length := by rw [← Hel.out]; exact hjl
       obtain ⟨ba, off, rfl, hba, hrows⟩ := (HAs.out wr hBw).at_ (by omega)
       have hr7 := hrows j hjl2
       have hmem := List.getElem_mem hjl2
       rw [mem_edgesAt] at hmem
       have hq := hopQ_succ (E := E) (cb := cb) hjl2
       obtain ⟨dd, hd⟩ : ∃ d, d = (zqq E n)[j] := ⟨_, rfl⟩
       rw [← hd] at hr7 hmem hq
       have htt := HF.out.tt dd hmem.1
       obtain ⟨t, ht⟩ : ∃ t : Nat, dd.tt = (t : Int) := ⟨dd.tt.toNat, by omega⟩
       have htn : dd.tt.toNat = t := by omega
       have Htn := Lib.hid (And.intro ht htn)
       have htN : t < N := by omega
       have Hq := Lib.hid hq
       have Hi2 := Lib.hid hi
       have Hz := Lib.hid hz
       clear hd hmem htt hrows ht htn hq hi hz
       go_upto_region 9 with (first | (refine zzs rfl _ rfl _ _ rfl _ hr7 ?_) | (refine zxm rfl _ _ rfl _ _ rfl rfl edge0 (Blk.new _ _ _) ?_; intro w4 h12 hg3))
       have hB4 := zqh (zqc (Below.refl _ wr) (.cells #[.int .i64 0, .int .i64 0, .int .i64 0, .int .u64 0, .int .u64 0, .int .u64 0, .int .u64 0] 69)) hg3 (Nat.le_refl _)
       obtain ⟨ge, hge⟩ : ∃ y, y = wr.heap.size := ⟨_, rfl⟩
       rw [← hge] at h12 ⊢
       have hglr := (hS.lt g rfl).2
       have hgeg : ge ≠ g := by omega
       replace hS := hS.then_ hB4
       replace hBw := zqd hBw hB4
       replace hx := zqb hx hB4
       replace h6 := zqb h6 hB4
       clear hg3 hr7 hB4 hge hglr
       have c2 : w4.cell? ⟨ge, 2, none⟩ = some (.int .i64 (t : Int)) := by rw [← Htn.out.1]; exact h12.cellv (i := 2) rfl
       simp only [Act.put]
       go_cut [46] from 38 to 47 (fun v wx => Below w4.heap.size w4 wx ∧ v = .bool (decide (dd.kd = 2) && dd.st.getLsbD cb))
       case first =>
        have c1 : w4.cell? ⟨ge, 0, none⟩ = some (.int .i64 dd.kd) := h12.cellv (i := 0) rfl
        have hhas := fun w => has_any dd.st cb hcb w
        clear hS hBw hx h6 c2 Htn HF HMt HSl Hby HEb Hq Hi2 Hz HAs
        by_cases hk : dd.kd = 2
        ·rw [hk] at c1
         go_wp2_with (first | (refine wl_load_set_g (zzb rfl rfl rfl) _ rfl _ _ rfl _ h12.st ?_) | (go_at_call 34; refine (hhas _).mono ?_; rintro e w8 ⟨rfl, hB8⟩))
         all_goals go_meet
         exact ⟨hB8, congrArg Value.bool (by rw [decide_eq_true hk, Bool.true_and]; rfl)⟩
        ·have hk2 : (dd.kd == 2) = false := by simpa using hk
         go_wp2_with (fail)
         all_goals go_meet
         exact ⟨Below.refl _ _, by simp [hk]⟩
       obtain ⟨hBc, rfl⟩ := hcut
       replace hS := hS.then_ hBc
       replace hBw := zqd hBw hBc
       replace hx := zqb hx hBc
       replace h6 := zqb h6 hBc
       replace c2 : wc.cell? ⟨ge, 2, none⟩ = some (.int .i64 (t : Int)) := by rw [← Htn.out.1]; exact (zqb h12 hBc).cellv (i := 2) rfl
       replace h12 := zqb h12 hBc
       clear hBc
       obtain ⟨f, hf⟩ : ∃ f, (decide (dd.kd = 2) && dd.st.getLsbD cb) = f := ⟨_, rfl⟩
       rw [hf]
       have Hf := Lib.hid hf
       clear hf
       cases f with
       | false =>
         have hno : ∀ i, ¬ (dd.kd = 2 ∧ dd.st.getLsbD cb = true ∧ dd.tt.toNat = i) := fun i ⟨a, b, _⟩ => by
          have := Hf.out
          rw [b, decide_eq_true a] at this
          exact absurd this (by decide)
         have Hno := Lib.hid hno
         clear hno
         go_wp2_with (fail)
         refine ⟨⟨j + 1, z, by omega, rfl, Hz.out, fun i => (Hi2.out i).trans (or_congr Iff.rfl ⟨fun h => (Hq.out i).2 (.inl h), fun h => ((Hq.out i).1 h).elim id (fun h => (Hno.out i h).elim)⟩), hS, hBw, hx, h6⟩, by simp only [intOf]; omega⟩
       | true =>
         have hk := (Bool.and_eq_true _ _ ▸ Hf.out : _ ∧ _)
         have hk1 : dd.kd = 2 := of_decide_eq_true hk.1
         have hk2 := hk.2
         have hadd : ∀ i, (z ||| 2 ^ t).testBit i = true ↔ hopP E x cb n i ∨ hopQ E cb n (j + 1) i := fun i => by
          rw [zzc, Bool.or_eq_true, decide_eq_true_eq, Hi2.out i, Hq.out i, Htn.out.2]
          constructor
          ·rintro ((h | h) | h)
           ·exact .inl h
           ·exact .inr (.inl h)
           ·exact .inr (.inr ⟨hk1, hk2, by omega⟩)
          ·rintro (h | h | ⟨_, _, h⟩)
           ·exact .inl (.inl h)
           ·exact .inl (.inr h)
           ·exact .inr (by omega)
         have Hadd := Lib.hid (And.intro hadd (below_or Hz.out (below_pow htN)))
         clear hk hk1 hk2 hadd
         go_wp2_with (go_at_call 45; refine (kadd_any g (zqe N) (zqe N) z t w.heap.size (by omega) hkb _ hS).mono ?_; rintro e w6 ⟨rfl, hS6, hg6⟩)
         exact ⟨⟨j + 1, z ||| 2 ^ t, by omega, rfl, Hadd.out.2, Hadd.out.1, hS6, zqh hBw hg6 (by omega), zqk hx hg6 (by have := Hgx.out; omega), zqk h6 hg6 (by have := Hgx.out; omega)⟩, by simp only [intOf]; omega⟩
      ·have hjI : ¬ (j : Int) < el := by omega
       have hst : ∀ i, z.testBit i = true ↔ hopP E x cb (n + 1) i := fun i => (hi i).trans (hopP_step (fun d hd => (HEb.out d hd).1.1) Hb.out j (by rw [← Hel.out]; omega) i).symm
       have Hst := Lib.hid hst
       have Hz := Lib.hid hz
       clear hst hz hi
       go_wp2_with (fail)
       exact ⟨⟨n + 1, z, by omega, rfl, Hz.out, Hst.out, hS, hBw, hx, h6⟩, by simp only [intOf]; omega⟩
  ·have hnI : ¬ (n : Int) < N := by omega
   obtain rfl : N = n := by omega
   have cx : wr.cell? ⟨gx, 1, none⟩ = some (.int .u32 (r : Int)) := hx.cellv (i := 1) rfl
   have kM := kmoment_any nb gk N w.heap.size g (zqe N) y r E R false hy hr wr (HMt.out wr hBw) hS (by omega)
   rw [Hby.out y hi] at kM
   obtain ⟨M, hMo⟩ : ∃ M, M = moN E N R (byteN E N x cb) r false := ⟨_, rfl⟩
   rw [← hMo] at kM
   have HMo := Lib.hid hMo
   clear hMo hi hy hnI hn
   go_wp2_with (first
    | (go_at_call 25; refine kM.mono ?_; rintro e w6 ⟨rfl, hS6, hT6⟩; have h66 := zzg h6 hT6 (by have := Hgx.out; omega))
    | (refine wl_store_mom rfl _ _ rfl (gx + 1) (some ⟨g, 0, none⟩) (zqe N) (zqe N) M.met M.end_ rfl rfl (momC none 0 0 0 0) rfl h66 ?_; intro wa ka hga))
   refine ret_cell rfl _ rfl ka Tryz.underlying81 rfl (info_mom.trans rfl) rfl ?_
   have hgx := Hgx.out
   rw [← HMo.out]
   refine ⟨g, rfl, by omega, own_grown' hS6 hga (by omega), ?_⟩
   exact zqh (hBw.trans (Turn.below (N := w.heap.size) hT6 (by omega) hBw.size)) hga (by omega)
end Go.Proofs.YtkedgombccdamaaGreatDoor
namespace Go.Proofs.YtkedgombccdamaaGreatDoor
open Go.RowKit Go.Maps Go.WideMaps
set_option linter.unusedVariables false
set_option linter.unusedSimpArgs false
section
variable {P : Program} {k e : TypeId} {κ : Type} {ok : κ → Prop} {kv : κ → Value} {lit : κ → Lit}
variable {ops : Array Oper} {rest : List Oper} {o : Oper} {a : Act} {Q : Exit → Act → World → Prop} {w : World} {t : TypeId} {b n cnt : Nat} {mf : κ → Option Int}
theorem wl_map_hit (K : KeyEnc P k κ ok kv lit) (ht : P.underlying t = some (.map k e)) (he : P.underlying e = some (.int .i64)) (hz : (zeroValue e).run P w = .ok (.int .i64 0) w)
  (h : IntMap P k e ok lit w b n mf cnt) (hg : o.guard = none) (m x : Operand) (hop : o.op = Op.lookup t m x true) (hm : a.eval m = .map (some b)) (y : κ) (hy : ok y) (hx : a.eval x = kv y) (v : Int) (hv : mf y = some v)
  (hK : wpList P ops Q rest (a.put o.dst (.tuple #[.int .i64 v, .bool true])) w) : wpList P ops Q (o :: rest) a w :=
 wl_map_ok K ht he hz h hg m x hop hm y hy hx (by rw [hv]; exact hK)
theorem wl_map_miss (K : KeyEnc P k κ ok kv lit) (ht : P.underlying t = some (.map k e)) (he : P.underlying e = some (.int .i64)) (hz : (zeroValue e).run P w = .ok (.int .i64 0) w)
  (h : IntMap P k e ok lit w b n mf cnt) (hg : o.guard = none) (m x : Operand) (hop : o.op = Op.lookup t m x true) (hm : a.eval m = .map (some b)) (y : κ) (hy : ok y) (hx : a.eval x = kv y) (hv : mf y = none)
  (hK : wpList P ops Q rest (a.put o.dst (.tuple #[.int .i64 0, .bool false])) w) : wpList P ops Q (o :: rest) a w :=
 wl_map_ok K ht he hz h hg m x hop hm y hy hx (by rw [hv]; exact hK)
end
theorem clsC_put (new old : Nat → Int) (n : Nat) (v : Int) (h : v = new n) : (clsC (upto n new old)).setIfInBounds n (.int .i64 v) = clsC (upto (n + 1) new old) := by
 rw [clsC_set, upto_put new old n v h]
theorem info_cls : (Tryz.prog.info? 30).map (·.size) = some 256 := by kernel_rfl
theorem info_pair : (Tryz.prog.info? 121).map (·.size) = some 2 := by kernel_rfl
theorem zero_cls (w : World) : (zeroValue 30).run Tryz.prog w = .ok (.agg (clsC fun _ => 0)) w := by kernel_rfl
def pairC (y : Int × Bool) : Array Value := intsC .i64 [y.1, if y.2 then 1 else 0]
theorem pairC_size (y : Int × Bool) : (pairC y).size = 2 := rfl
theorem pairC_set (c : Int) : (pairC (c, false)).setIfInBounds 1 (.int .i64 1) = pairC (c, true) := rfl
theorem pairC_inj {x y : Int × Bool} (h : pairC x = pairC y) : x = y := by
 have := intsC_inj h
 obtain ⟨a, b⟩ := x
 obtain ⟨c, d⟩ := y
 simp only [List.cons.injEq] at this
 obtain ⟨rfl, h2, _⟩ := this
 cases b <;> cases d <;> simp_all
theorem pairC_one (y : Int × Bool) : (pairC y).all (·.oneCell') = true := by
 obtain ⟨a, b⟩ := y
 simp [pairC, intsC, Value.oneCell']
theorem arr_pair : ArrKey Tryz.prog 121 3 2 := ⟨Tryz.underlying121, by kernel_rfl, by kernel_rfl, by kernel_rfl⟩
theorem wf_bit (b : Bool) : (Lit.int .i64 (if b then 1 else 0)).wf = true := by cases b <;> decide
def okP (y : Int × Bool) : Prop := (Lit.int .i64 y.1).wf = true
def litP (y : Int × Bool) : Lit := .string (keyBytes ([y.1, if y.2 then 1 else 0].map (Lit.int .i64)))
theorem keyPair : KeyEnc Tryz.prog 121 (Int × Bool) okP (fun y => .agg (pairC y)) litP where
 law := Keyed.of_law (deep_law_laid laid_out (m := 2) (by omega) (of_decide_eq_true (by kernel_rfl)) (by kernel_rfl) (by rw [Tryz.underlying121]))
 key y hy := keyOf_ints arr_pair Tryz.underlying3 types_pos _ rfl (fun x hx => by
  simp only [List.mem_cons, List.not_mem_nil, or_false] at hx
  rcases hx with rfl | rfl
  ·exact hy
  ·exact wf_bit _)
 inj x y h := pairC_inj (by injection h)
theorem wf_small {c : Int} (h0 : 0 ≤ c) (h1 : c < 65536) : (Lit.int .i64 c).wf = true := by
 have h2 : IntKind.i64.min = -9223372036854775808 := by decide
 have h3 : IntKind.i64.max = 9223372036854775807 := by decide
 simp only [Lit.wf, Bool.and_eq_true, decide_eq_true_eq]
 exact ⟨by omega, by omega⟩
def mapAt {α : Type} [DecidableEq α] (f : Nat → α) (j : Nat) (x : α) : Option Int := if x ∈ zza f j then some ((zza f j).idxOf x : Int) else none
section
variable {α : Type} [DecidableEq α] (f : Nat → α) (j : Nat)
theorem mapAt_zero : mapAt f 0 = fun _ => none := by funext x; simp [mapAt, zza]
theorem mapAt_old (h : f j ∈ zza f j) : mapAt f j (f j) = some (num f j : Int) := by rw [num_old f j h]; simp [mapAt, h]
theorem mapAt_new (h : ¬ f j ∈ zza f j) : mapAt f j (f j) = none := by simp [mapAt, h]
theorem mapAt_same (h : f j ∈ zza f j) : mapAt f (j + 1) = mapAt f j := by
 funext x
 unfold mapAt
 rw [zxc, if_pos h]
theorem mapAt_put (h : ¬ f j ∈ zza f j) : putM (mapAt f j) (f j) ((zza f j).length : Int) = mapAt f (j + 1) := by
 funext x
 unfold putM mapAt
 rw [zxc, if_neg h]
 by_cases e : x = f j
 ·subst e
  simp [idx_not h]
 ·rw [if_neg e]
  by_cases hx : x ∈ zza f j
  ·simp [hx, idx_mem hx]
  ·simp [hx, e]
theorem len_old (h : f j ∈ zza f j) : (zza f (j + 1)).length = (zza f j).length := by rw [zxc, if_pos h]
theorem len_new (h : ¬ f j ∈ zza f j) : (zza f (j + 1)).length = (zza f j).length + 1 := by rw [zxc, if_neg h]; simp
end
section
variable {ops : Array Oper} {rest : List Oper} {o : Oper} {a : Act} {w : World} {Q : Exit → Act → World → Prop}
theorem wl_load_cls (hgd : o.guard = none) (x : Operand) (ho : o.op = .load 30 x)
  (g : Nat) (hx : a.eval x = .pointer (some ⟨g, 0, none⟩)) (y : Nat → Int) (hb : Blk w g 30 (clsC y))
  (h : wpList Tryz.prog ops Q rest (a.put o.dst (.agg (clsC y))) w) : wpList Tryz.prog ops Q (o :: rest) a w :=
 wpList_load_row hgd _ x ho g hx _ _ _ _ hb Tryz.underlying30 rfl (info_cls.trans (by rw [zzz])) h
theorem wl_store_cls (hgd : o.guard = none) (x y : Operand) (ho : o.op = .store 30 x y)
  (g : Nat) (new : Nat → Int) (hx : a.eval x = .pointer (some ⟨g, 0, none⟩)) (hy : a.eval y = .agg (clsC new)) (old : Nat → Int) (hb : Blk w g 30 (clsC old))
  (h : ∀ w', Blk w' g 30 (clsC new) → w.grownBy w' (some g) → wpList Tryz.prog ops Q rest (a.put o.dst undef) w') : wpList Tryz.prog ops Q (o :: rest) a w :=
 wpList_store_row hgd _ x y ho g _ hx hy _ _ hb (info_cls.trans (by rw [zzz])) (by rw [zzz, zzz]) (clsC_oneCell new) (h _ (hb.setRow_same _) (zxs (zzk _ _) _))
theorem wl_put_cls (hgd : o.guard = none) (x y : Operand) (ho : o.op = .store 3 x y)
  (g i : Nat) (hx : a.eval x = .pointer (some ⟨g, i, none⟩)) (v : Int) (hy : a.eval y = .int .i64 v) (new old : Nat → Int) (hb : Blk w g 30 (clsC (upto i new old))) (hi : i < 256) (hv : v = new i)
  (h : ∀ w', Blk w' g 30 (clsC (upto (i + 1) new old)) → w.grownBy w' (some g) → wpList Tryz.prog ops Q rest (a.put o.dst undef) w') : wpList Tryz.prog ops Q (o :: rest) a w :=
 zqt hgd _ x y ho g i hx _ _ _ hb (by rw [zzz]; exact hi) info_int (by rw [hy]; rfl) (by rw [hy]; rfl) (by rw [hy]; exact clsC_put new old i v hv) h
theorem wl_load_pair (hgd : o.guard = none) (x : Operand) (ho : o.op = .load 121 x)
  (g : Nat) (hx : a.eval x = .pointer (some ⟨g, 0, none⟩)) (y : Int × Bool) (hb : Blk w g 121 (pairC y))
  (h : wpList Tryz.prog ops Q rest (a.put o.dst (.agg (pairC y))) w) : wpList Tryz.prog ops Q (o :: rest) a w :=
 wpList_load_row hgd _ x ho g hx _ _ _ _ hb Tryz.underlying121 rfl (info_pair.trans (by rw [pairC_size])) h
theorem wl_store_pair (hgd : o.guard = none) (x y : Operand) (ho : o.op = .store 121 x y)
  (g : Nat) (new : Int × Bool) (hx : a.eval x = .pointer (some ⟨g, 0, none⟩)) (hy : a.eval y = .agg (pairC new)) (old : Int × Bool) (hb : Blk w g 121 (pairC old))
  (h : ∀ w', Blk w' g 121 (pairC new) → w.grownBy w' (some g) → wpList Tryz.prog ops Q rest (a.put o.dst undef) w') : wpList Tryz.prog ops Q (o :: rest) a w :=
 wpList_store_row hgd _ x y ho g _ hx hy _ _ hb (info_pair.trans (by rw [pairC_size])) (by rw [pairC_size, pairC_size]) (pairC_one new) (h _ (hb.setRow_same _) (zxs (zzk _ _) _))
theorem ret_cls {fn : Func} {p u : Tmp} {g : Nat} {y : Nat → Int} (hres : fn.results = #[.cell p 30, .tmp u])
  (hp : a.tmps.getD p undef = .pointer (some ⟨g, 0, none⟩)) (hb : Blk w g 30 (clsC y))
  (hdf : a.defers = []) {R : Ending → World → Prop} (hR : R (.returned (.tuple #[.agg (clsC y), a.tmps.getD u undef])) w) : bodyPost Tryz.prog fn R .ret a w :=
 ret_cell2 hres _ hp hb Tryz.underlying30 rfl (info_cls.trans (by rw [zzz])) hdf hR
end
abbrev PMap (w : World) (b n : Nat) (m : Int × Bool → Option Int) (cnt : Nat) : Prop := IntMap Tryz.prog 121 3 okP litP w b n m cnt
set_option maxHeartbeats 1000000 in
set_option maxRecDepth 100000 in
theorem classes_any (A : Option Addr) (n c : Nat) (l : List BSet) (w : World) (hn : n = l.length) (hm : n ≤ maxLen) (hs : SliceOf w w.heap.size 4 setC A l) :
  Calls Tryz.prog 20 #[.slice A n c] w fun e w' => e = .returned (.tuple #[.agg (clsC (cls l)), .int .i64 (many l)]) ∧ Below w.heap.size w w' := by
 have Hn := Lib.hid hn
 clear hn
 unfold maxLen at hm
 have hz := zero_cls
 have hmm := @Go.RowKit.run_makeMap Tryz.prog
 have hs2 : w.heap.size ≤ w.heap.size + 1 := by omega
 go_enter Tryz.func20, Tryz.ntmps20
 go_wp2
 go_loopw [15, 5] (fun i m wr => ∃ k : Nat, k ≤ n ∧ i = .int .i64 k ∧ m = .int .i64 (many (l.take k)) ∧ Blk wr (w.heap.size + 1) 30 (clsC (cls (l.take k))) ∧ Blk wr w.heap.size 30 (clsC fun _ => 0) ∧ Below w.heap.size w wr) (fun i _ _ => n - (intOf i).toNat)
 case atStart =>
  refine ⟨0, by omega, rfl, ?_, ?_, ?_, ?_⟩
  ·rw [List.take_zero, many_nil]; rfl
  ·rw [List.take_zero, clsC_ext (g := cls []) (h := fun _ => 0) fun b _ => cls_nil b]
   exact Blk.new' _ _ _ (World.size_alloc _ _).symm
  ·exact (Blk.new _ _ _).alloc _
  ·exact ((Below.refl _ _).alloc (Nat.le_refl _) _).alloc (by simp) _
 case round =>
  obtain ⟨k, hk, rfl, rfl, hb1, hb2, hB⟩ := hrel
  by_cases hlt : k < n
  ·have hlt' : k < l.length := by have := Hn.out; omega
   obtain ⟨b, off, rfl, hbl, hrow⟩ := (hs.below hB).at_ (by omega)
   have hr := hrow k hlt'
   clear hrow
   have hlt5 : w.heap.size + 1 < wr.heap.size := hb1.lt
   go_wp2_with (first | (refine zqo rfl _ rfl _ _ rfl _ hr ?_) | (refine zqm rfl _ _ rfl _ _ rfl rfl 0 (Blk.new _ _ _) ?_; intro w1 hbs hg5))
   have hb1' := (hb1.alloc (.cells (setC 0) 53)).grown hg5 (by simp; omega)
   have hb2' := (hb2.alloc (.cells (setC 0) 53)).grown hg5 (by simp; omega)
   have hB' := (hB.alloc hB.size (.cells (setC 0) 53)).grown hg5 (by simp; omega) (by rintro k ⟨⟩; omega)
   have hM := IntMap.new (P := Tryz.prog) (e := 3) keyPair w1 rfl
   obtain ⟨gs, hgs⟩ : ∃ g, g = wr.heap.size := ⟨_, rfl⟩
   obtain ⟨gm, hgm⟩ : ∃ g, g = w1.heap.size := ⟨_, rfl⟩
   rw [← hgs] at hbs ⊢
   rw [← hgm] at hM ⊢
   have hgw : w.heap.size + 1 < gs := by omega
   have hgsm : gs < gm := by have := hbs.lt; omega
   replace hbs := hbs.alloc (.map #[] 0)
   replace hb1' := hb1'.alloc (.map #[] 0)
   replace hb2' := hb2'.alloc (.map #[] 0)
   replace hB' := zqc hB' (.map #[] 0)
   rw [show (fun _ : Int × Bool => (none : Option Int)) = mapAt (keyN (cls (l.take k)) l[k]) 0 from (mapAt_zero _).symm] at hM
   clear hgs hgm hg5 hb1 hb2 hB hr hlt5
   obtain ⟨wo, rfl⟩ : ∃ wo : World, wo = wr := ⟨_, rfl⟩
   obtain ⟨f, hf⟩ : ∃ f, f = keyN (cls (l.take k)) l[k] := ⟨_, rfl⟩
   rw [← hf] at hM
   replace hf := Lib.hid hf
   go_loopw [20] (fun i wr => ∃ j : Nat, j ≤ 256 ∧ i = .int .i64 j ∧ Blk wr (w.heap.size + 1) 30 (clsC (upto j (fun b => (num f b : Int)) (cls (l.take k)))) ∧ Blk wr gs 53 (setC l[k]) ∧ PMap wr gm j (mapAt f j) (zza f j).length ∧ Blk wr w.heap.size 30 (clsC fun _ => 0) ∧ Below w.heap.size w wr) (fun i _ => 256 - (intOf i).toNat)
   case atStart => exact ⟨0, by omega, rfl, by rw [upto_zero]; exact hb1', hbs, hM, hb2', hB'⟩
   case round =>
    obtain ⟨j, hj, rfl, hb1, hbs, hM, hb2, hB⟩ := hrel
    by_cases hjt : j < 256
    ·have hjj := upto_ge (fun b => (num f b : Int)) (cls (l.take k)) (Nat.le_refl j)
     have c1 := hb1.cellv (clsC_at _ j hjt)
     rw [hjj] at c1
     have hC := Below.refl wr.heap.size wr
     have hgr : gm < wr.heap.size := hM.lt
     obtain ⟨v, hv⟩ : ∃ v, v = cls (l.take k) j := ⟨_, rfl⟩
     rw [← hv] at c1
     have hbit : ∃ bv, bv = l[k].getLsbD j := ⟨_, rfl⟩
     obtain ⟨bv, hbv⟩ := hbit
     have hfj : f j = (v, bv) := by rw [hf.out, hv, hbv]; rfl
     have hok : okP (v, bv) := by
      have h0 := cls_ge (l.take k) j
      have h1 := cls_lt (l.take k) hjt
      have h2 := many_le (l.take k)
      exact wf_small (by show 0 ≤ v; omega) (by show v < 65536; omega)
     have hmap : f j ∈ zza f j ∨ ¬ f j ∈ zza f j := Classical.em _
     have hlen := firsts_length_le f j
     have hnw := num_lt f (Nat.lt_succ_self j)
     replace hfj := Lib.hid hfj
     clear hjj hv
     rcases hmap with hmap | hmap
     ·have hmo := Lib.hid (mapAt_old f j hmap)
      rw [hfj.out] at hmo
      cases bv with
      | true =>
        have hx := Lib.hid hbv.symm
        clear hbv
        go_wp2_with (first
         | (refine zqv rfl _ rfl _ rfl _ (zqb hbs hC) ?_)
         | (refine wl_store_pair rfl _ _ rfl _ (v, false) rfl rfl (0, false) (Blk.new _ _ _) ?_; intro w2 hk2 hg2; replace hC := zqh (zqc hC (.cells (pairC (0, false)) 121)) hg2 (Nat.le_refl _))
         | (go_at_call 34; refine (has_any _ j hjt _).mono ?_; rw [hx.out]; rintro e w3 ⟨rfl, hB3⟩; replace hC := zqd hC hB3; replace hk2 := zqb hk2 hB3)
         | (refine zqt rfl _ _ _ rfl _ _ rfl _ _ (pairC (v, true)) hk2 (by rw [pairC_size]; omega) info_int rfl rfl (pairC_set v) ?_; intro w4 hk4 hg4; replace hC := zqh hC hg4 (Nat.le_refl _))
         | (refine wl_load_pair rfl _ rfl _ rfl _ hk4 ?_)
         | (at_lookup; refine wl_map_hit keyPair Tryz.underlying120 Tryz.underlying3 (zero_int _) (IntMap.then_ hM hC) rfl _ _ rfl rfl (v, true) hok rfl _ hmo.out ?_)
         | (refine wl_put_cls rfl _ _ rfl _ _ rfl _ rfl _ _ (zqb hb1 hC) hjt rfl ?_; intro w5 hb5 hg5))
        go_roundw
        case rel =>
         refine ⟨j + 1, by omega, by go_num, hb5, zqk (zqb hbs hC) hg5 (by omega), ?_, zqk (zqb hb2 hC) hg5 (by omega), zqh (zqd hB hC) hg5 hs2⟩
         rw [mapAt_same f j hmap, len_old f j hmap]
         exact IntMap.more ((IntMap.then_ hM hC).grown hg5 (by omega)) (Nat.le_succ j)
        case measure => simp [intOf]; omega
      | false =>
        have hx := Lib.hid hbv.symm
        clear hbv
        go_wp2_with (first
         | (refine zqv rfl _ rfl _ rfl _ (zqb hbs hC) ?_)
         | (refine wl_store_pair rfl _ _ rfl _ (v, false) rfl rfl (0, false) (Blk.new _ _ _) ?_; intro w2 hk2 hg2; replace hC := zqh (zqc hC (.cells (pairC (0, false)) 121)) hg2 (Nat.le_refl _))
         | (go_at_call 34; refine (has_any _ j hjt _).mono ?_; rw [hx.out]; rintro e w3 ⟨rfl, hB3⟩; replace hC := zqd hC hB3; replace hk2 := zqb hk2 hB3)
         | (refine wl_load_pair rfl _ rfl _ rfl _ hk2 ?_)
         | (at_lookup; refine wl_map_hit keyPair Tryz.underlying120 Tryz.underlying3 (zero_int _) (IntMap.then_ hM hC) rfl _ _ rfl rfl (v, false) hok rfl _ hmo.out ?_)
         | (refine wl_put_cls rfl _ _ rfl _ _ rfl _ rfl _ _ (zqb hb1 hC) hjt rfl ?_; intro w5 hb5 hg5))
        go_roundw
        case rel =>
         refine ⟨j + 1, by omega, by go_num, hb5, zqk (zqb hbs hC) hg5 (by omega), ?_, zqk (zqb hb2 hC) hg5 (by omega), zqh (zqd hB hC) hg5 hs2⟩
         rw [mapAt_same f j hmap, len_old f j hmap]
         exact IntMap.more ((IntMap.then_ hM hC).grown hg5 (by omega)) (Nat.le_succ j)
        case measure => simp [intOf]; omega
     ·have hmo := Lib.hid (mapAt_new f j hmap)
      rw [hfj.out] at hmo
      have hnum : Hid (((zza f j).length : Int) = (num f j : Int)) := Lib.hid (by rw [num_new f j hmap])
      cases bv with
      | true =>
        have hx := Lib.hid hbv.symm
        clear hbv
        go_wp2_with (first
         | (refine zqv rfl _ rfl _ rfl _ (zqb hbs hC) ?_)
         | (refine wl_store_pair rfl _ _ rfl _ (v, false) rfl rfl (0, false) (Blk.new _ _ _) ?_; intro w2 hk2 hg2; replace hC := zqh (zqc hC (.cells (pairC (0, false)) 121)) hg2 (Nat.le_refl _))
         | (go_at_call 34; refine (has_any _ j hjt _).mono ?_; rw [hx.out]; rintro e w3 ⟨rfl, hB3⟩; replace hC := zqd hC hB3; replace hk2 := zqb hk2 hB3)
         | (refine zqt rfl _ _ _ rfl _ _ rfl _ _ (pairC (v, true)) hk2 (by rw [pairC_size]; omega) info_int rfl rfl (pairC_set v) ?_; intro w4 hk4 hg4; replace hC := zqh hC hg4 (Nat.le_refl _))
         | (refine wl_load_pair rfl _ rfl _ rfl _ hk4 ?_)
         | (at_lookup; refine wl_map_miss keyPair Tryz.underlying120 Tryz.underlying3 (zero_int _) (IntMap.then_ hM hC) rfl _ _ rfl rfl (v, true) hok rfl hmo.out ?_)
         | (at_len; refine wl_map_len Tryz.underlying120 (IntMap.then_ hM hC) rfl _ rfl rfl ?_)
         | (at_mapUpdate; refine wl_map_put keyPair Tryz.underlying120 Tryz.underlying3 (IntMap.then_ hM hC) (by unfold maxLen; omega) rfl _ _ _ rfl rfl (v, true) hok rfl _ rfl (wf_small (by omega) (by omega)) ?_; intro w6 hM6 hg6)
         | (refine wl_put_cls rfl _ _ rfl _ _ rfl _ rfl _ _ (zqk (zqb hb1 hC) hg6 (by omega)) hjt hnum.out ?_; intro w5 hb5 hg5))
        go_roundw
        case rel =>
         refine ⟨j + 1, by omega, by go_num, hb5, zqk (zqk (zqb hbs hC) hg6 (by omega)) hg5 (by omega), ?_, zqk (zqk (zqb hb2 hC) hg6 (by omega)) hg5 (by omega), zqh (zqh (zqd hB hC) hg6 (by omega)) hg5 hs2⟩
         rw [hmo.out, ← hfj.out, mapAt_put f j hmap] at hM6
         rw [len_new f j hmap]
         exact hM6.grown hg5 (by omega)
        case measure => simp [intOf]; omega
      | false =>
        have hx := Lib.hid hbv.symm
        clear hbv
        go_wp2_with (first
         | (refine zqv rfl _ rfl _ rfl _ (zqb hbs hC) ?_)
         | (refine wl_store_pair rfl _ _ rfl _ (v, false) rfl rfl (0, false) (Blk.new _ _ _) ?_; intro w2 hk2 hg2; replace hC := zqh (zqc hC (.cells (pairC (0, false)) 121)) hg2 (Nat.le_refl _))
         | (go_at_call 34; refine (has_any _ j hjt _).mono ?_; rw [hx.out]; rintro e w3 ⟨rfl, hB3⟩; replace hC := zqd hC hB3; replace hk2 := zqb hk2 hB3)
         | (refine wl_load_pair rfl _ rfl _ rfl _ hk2 ?_)
         | (at_lookup; refine wl_map_miss keyPair Tryz.underlying120 Tryz.underlying3 (zero_int _) (IntMap.then_ hM hC) rfl _ _ rfl rfl (v, false) hok rfl hmo.out ?_)
         | (at_len; refine wl_map_len Tryz.underlying120 (IntMap.then_ hM hC) rfl _ rfl rfl ?_)
         | (at_mapUpdate; refine wl_map_put keyPair Tryz.underlying120 Tryz.underlying3 (IntMap.then_ hM hC) (by unfold maxLen; omega) rfl _ _ _ rfl rfl (v, false) hok rfl _ rfl (wf_small (by omega) (by omega)) ?_; intro w6 hM6 hg6)
         | (refine wl_put_cls rfl _ _ rfl _ _ rfl _ rfl _ _ (zqk (zqb hb1 hC) hg6 (by omega)) hjt hnum.out ?_; intro w5 hb5 hg5))
        go_roundw
        case rel =>
         refine ⟨j + 1, by omega, by go_num, hb5, zqk (zqk (zqb hbs hC) hg6 (by omega)) hg5 (by omega), ?_, zqk (zqk (zqb hb2 hC) hg6 (by omega)) hg5 (by omega), zqh (zqh (zqd hB hC) hg6 (by omega)) hg5 hs2⟩
         rw [hmo.out, ← hfj.out, mapAt_put f j hmap] at hM6
         rw [len_new f j hmap]
         exact hM6.grown hg5 (by omega)
        case measure => simp [intOf]; omega
    ·obtain rfl : j = 256 := by omega
     rw [upto_all] at hb1
     have hM1 := hM
     have hcl := Lib.hid (clsC_ext (g := fun b => (num f b : Int)) (h := cls (l.take (k + 1))) fun b _ => by rw [take_snoc' l k hlt', cls_snoc, hf.out])
     have hmy := Lib.hid (show (zza f 256).length = many (l.take (k + 1)) by rw [take_snoc' l k hlt', many_snoc, hf.out])
     rw [hmy.out] at hM
     rw [hcl.out] at hb1
     go_wp2_with (first | (at_len; refine wl_map_len Tryz.underlying120 hM rfl _ rfl rfl ?_))
     go_roundw
     case rel => exact ⟨k + 1, by omega, by go_num, rfl, hb1, hb2, hB⟩
     case measure => simp [intOf]; omega
  ·have hkk : l.take k = l := List.take_of_length_le (by have := Hn.out; omega)
   rw [hkk] at hb1
   go_wp2_with (first | (refine wl_load_cls rfl _ rfl _ rfl _ hb1 ?_) | (refine wl_store_cls rfl _ _ rfl _ _ rfl rfl _ hb2 ?_; intro w1 hb4 hg4))
   refine ret_cls rfl rfl hb4 rfl ⟨?_, hB.grown hg4 hB.size (by rintro k ⟨⟩; exact Nat.le_refl _)⟩
   rw [← hkk]
   rfl
end Go.Proofs.YtkedgombccdamaaGreatDoor
namespace Go.Proofs.YtkedgombccdamaaGreatDoor
open Go.RowKit Go.Shelf Go.Maps
set_option linter.unusedVariables false
set_option linter.unusedSimpArgs false
attribute [local go_sem] Oper.semAt_some
def encY (n : Nat) : Array Value := #[.int .u8 (n : Int)]
theorem encY_size (n : Nat) : (encY n).size = 1 := rfl
theorem info_u8one : (Tryz.prog.info? 5).map (·.size) = some 1 := by kernel_rfl
def repAt (f : Nat → Int) (i : Nat) (c : Nat) : Nat := ((List.range' i (256 - i)).find? (fun b => decide (f b = (c : Int)))).getD 0
def repL (f : Nat → Int) (m i : Nat) : List Nat := (List.range m).map (repAt f i)
theorem repL_length (f : Nat → Int) (m i : Nat) : (repL f m i).length = m := by simp [repL]
theorem repAt_top (f : Nat → Int) (c : Nat) : repAt f 256 c = 0 := by simp [repAt]
theorem repL_top (f : Nat → Int) (m : Nat) : repL f m 256 = List.replicate m 0 := by
 apply List.ext_getElem
 ·simp [repL]
 ·intro i h1 h2
  simp [repL, repAt_top]
theorem repAt_step (f : Nat → Int) {i : Nat} (c : Nat) (hi : i < 256) : repAt f i c = if f i = (c : Int) then i else repAt f (i + 1) c := by
 unfold repAt
 rw [show 256 - i = (256 - (i + 1)) + 1 by omega, List.range'_succ, List.find?_cons]
 by_cases h : f i = (c : Int)
 ·simp [h]
 ·simp [h]
theorem repL_step (f : Nat → Int) (m : Nat) {i n : Nat} (hi : i < 256) (hn : f i = (n : Int)) : (repL f m (i + 1)).set n i = repL f m i := by
 apply List.ext_getElem
 ·simp [repL]
 ·intro j h1 h2
  rw [List.getElem_set]
  simp only [repL, List.getElem_map, List.getElem_range]
  rw [repAt_step f j hi]
  by_cases e : n = j
  ·subst e; rw [if_pos rfl, if_pos hn]
  ·rw [if_neg e, if_neg (by omega)]
theorem repAt_of (f : Nat → Int) (i c b : Nat) (h1 : i ≤ b) (h2 : b < 256) (h : f b = (c : Int)) : f (repAt f i c) = (c : Int) ∧ repAt f i c < 256 := by
 unfold repAt
 cases hf : (List.range' i (256 - i)).find? (fun b => decide (f b = (c : Int))) with
 | none =>
   rw [List.find?_eq_none] at hf
   exact absurd (hf b (by rw [List.mem_range'_1]; omega)) (by simp [h])
 | some x =>
   have := List.find?_some hf
   have hm := List.mem_of_find?_eq_some hf
   rw [List.mem_range'_1] at hm
   simp at this
   exact ⟨this, by simp; omega⟩
theorem repL_lt (f : Nat → Int) (m i : Nat) : ∀ b ∈ repL f m i, b < 256 := by
 intro b hb
 unfold repL at hb
 obtain ⟨c, _, rfl⟩ := List.mem_map.1 hb
 unfold repAt
 cases hf : (List.range' i (256 - i)).find? (fun b => decide (f b = (c : Int))) with
 | none => simp
 | some x =>
   have hm := List.mem_of_find?_eq_some hf
   rw [List.mem_range'_1] at hm
   simp; omega
set_option maxRecDepth 100000 in
set_option maxHeartbeats 2000000 in
theorem kfirst_any (f : Nat → Int) (m : Nat) (hm : m ≤ 256) (hf : ∀ b, b < 256 → 0 ≤ f b ∧ f b < m) (w : World) :
  Calls Tryz.prog 22 #[.agg (clsC f), .int .i64 m] w fun e w' => ∃ g, e = .returned (.slice (some ⟨g, 0, none⟩) m m) ∧ w.heap.size ≤ g ∧ Own w' w.heap.size 5 1 encY (.slice (some ⟨g, 0, none⟩) m m) (repL f m 0) ∧ Below w.heap.size w w' := by
 obtain ⟨i0, hi0, hz0, hz1, hz2⟩ := info_parts info_b3
 have Hf := Lib.hid hf
 clear hf
 go_enter Tryz.func22, Tryz.ntmps22
 go_upto_region 1 with (fail)
 have h2 : Blk (w.alloc (.cells (clsC f) 30)) w.heap.size 30 (clsC f) := Blk.new w _ _
 have hB1 : Below w.heap.size w (w.alloc (.cells (clsC f) 30)) := zqc (Below.refl _ _) _
 obtain ⟨w1, hw1⟩ : ∃ y, y = w.alloc (.cells (clsC f) 30) := ⟨_, rfl⟩
 have hs1 : w1.heap.size = w.heap.size + 1 := by rw [hw1]; exact Array.size_push ..
 rw [← hw1] at h2 hB1 ⊢
 obtain ⟨gx, hgx⟩ : ∃ y, y = w.heap.size := ⟨_, rfl⟩
 rw [← hgx] at h2 ⊢
 have Hgx := Lib.hid hgx
 clear hw1 hgx
 go_upto_region 2 with (at_make; refine wpList_make_full _ rfl _ _ 74 rfl w1.heap.size 5 i0 _ 1 Tryz.underlying74 hi0 hz0 hz1 _ _ _ _ m rfl rfl rfl rfl (by rw [hz2]; omega) (by unfold maxLen; omega) (Nat.le_refl _) ?_; intro w2 hown hg)
 have e1 : (madeCells (Value.int .u8 0).cells (m * 1)).toList = flat encY (repL f m 256) := by
  rw [repL_top]
  apply List.ext_getElem
  ·rw [Array.length_toList, size_madeCells]
   simp [flat, encY]
  ·intro j h1 h2
   simp [madeCells, Value.cells, flat, encY, List.flatMap_replicate]
   rw [Nat.mod_one]
   rfl
 have hS2 : Own w2 w.heap.size 5 1 encY (.slice (some ⟨w.heap.size + 1, 0, none⟩) m m) (repL f m 256) := by
  rw [e1] at hown
  rw [hs1] at hown
  have : Own w2 (w.heap.size + 1) 5 1 encY (.slice (some ⟨w.heap.size + 1, 0, none⟩) m m) (repL f m 256) := by
   unfold Own
   rw [repL_length]
   exact hown
  exact this.mono (by omega)
 have hBg : Below w1.heap.size w1 w2 := ⟨hg.os, hg.tape, hg.output, hg.size, fun k hk => hg.block k hk (by simp)⟩
 have hB2 := zqd hB1 hBg
 have h22 := zqb h2 hBg
 obtain ⟨g, hgd⟩ : ∃ y, y = w.heap.size + 1 := ⟨_, rfl⟩
 rw [← hgd] at hS2 ⊢
 have Hgd := Lib.hid hgd
 clear e1 hown hg hBg hB1 h2 hs1 hi0 hz0 hz1 hz2 hgd
 go_wp2_with (fail)
 go_loopw [6] (fun iv wr => ∃ i : Nat, i ≤ 256 ∧ iv = .int .i64 ((i : Int) - 1) ∧ Own wr w.heap.size 5 1 encY (.slice (some ⟨g, 0, none⟩) m m) (repL f m i) ∧ Blk wr gx 30 (clsC f) ∧ Below w.heap.size w wr) (fun iv _ => (intOf iv + 1).toNat)
 case atStart => exact ⟨256, by omega, rfl, hS2, h22, hB2⟩
 case round =>
  clear hS2 h22 hB2
  obtain ⟨i, hi, rfl, hS, hx, hB⟩ := hrel
  rcases i with _ | j
  ·rw [show (((0 : Nat) : Int) - 1) = -1 by omega]
   go_wp2_with (fail)
   go_ret
   exact ⟨g, rfl, by have := Hgd.out; omega, hS, hB⟩
  ·rw [show ((j + 1 : Nat) : Int) - 1 = (j : Int) by omega]
   have hj : j < 256 := by omega
   have hc := Hf.out j hj
   obtain ⟨n, hn⟩ : ∃ n : Nat, f j = (n : Int) := ⟨(f j).toNat, by omega⟩
   have hnm : n < m := by omega
   have hnI : (n : Int) < m := by omega
   have cx : wr.cell? ⟨gx, j, none⟩ = some (.int .i64 (n : Int)) := by rw [← hn]; exact hx.cellv (clsC_at _ j hj)
   have Hn := Lib.hid hn
   clear hc hn
   go_wp2_with (refine wl_store_one (enc := encY) encY_size rfl _ info_u8one _ _ rfl g n m m rfl j rfl rfl rfl hS (by rw [repL_length]; exact hnm) ?_; intro w7 hS7 hg7)
   rw [repL_step f m hj Hn.out] at hS7
   have h1 := Hgx.out
   have h2 := Hgd.out
   exact ⟨⟨j, by omega, rfl, hS7, zqk hx hg7 (by omega), zqh hB hg7 (by omega)⟩, by simp only [intOf]; omega⟩
end Go.Proofs.YtkedgombccdamaaGreatDoor
namespace Go.Proofs.YtkedgombccdamaaGreatDoor
set_option linter.unusedVariables false
set_option linter.unusedSimpArgs false
structure Au where
 n : Nat
 go : Nat → Nat → Nat
 out : Nat → Nat × Nat
structure Au.Ok (A : Au) : Prop where
 pos : 0 < A.n
 lt : ∀ s b, s < A.n → b < 256 → A.go s b < A.n
def Au.run (A : Au) : Nat → List Nat → Nat
 | s, [] => s
 | s, b :: w => A.run (A.go s b) w
section
variable {α β : Type} [DecidableEq α] [DecidableEq β]
end
section
variable {A : Au} {k : Nat → Int} {rs : List Nat}
end
structure Tb where
 cls : Nat → Int
 nx : List (List Int)
 fo : List Nat
 en : List Nat
def Tb.nxt (T : Tb) (s : Nat) (c : Int) : Int := (T.nx.getD s []).getD c.toNat 0
def Tb.many (T : Tb) : Nat := (T.nx.getD 0 []).length
def Tb.au (T : Tb) : Au := ⟨T.nx.length, fun s b => (T.nxt s (T.cls b)).toNat, fun s => (T.fo.getD s 0, T.en.getD s 0)⟩
structure s_Fits (T : Tb) : Prop where
 n1 : 1 ≤ T.nx.length
 n2 : T.nx.length ≤ 4096
 nf : T.fo.length = T.nx.length
 ne : T.en.length = T.nx.length
 m1 : 1 ≤ T.many
 m2 : T.many ≤ 256
 cl : ∀ b, b < 256 → 0 ≤ T.cls b ∧ T.cls b < T.many
 row : ∀ s, s < T.nx.length → (T.nx.getD s []).length = T.many
 fe : ∀ s, s < T.nx.length → T.fo.getD s 0 &&& T.en.getD s 0 = T.fo.getD s 0
 tr : ∀ s c, s < T.nx.length → c < T.many → 0 ≤ T.nxt s (c : Nat) ∧ T.nxt s (c : Nat) < T.nx.length ∧ T.fo.getD s 0 &&& T.fo.getD (T.nxt s (c : Nat)).toNat 0 = T.fo.getD s 0
theorem s_Fits.ok {T : Tb} (h : s_Fits T) : T.au.Ok := ⟨h.n1, fun s b hs hb => by
 obtain ⟨c0, c1⟩ := h.cl b hb
 have := h.tr s (T.cls b).toNat hs (by omega)
 rw [Int.toNat_of_nonneg c0] at this
 show (T.nxt s (T.cls b)).toNat < T.nx.length
 omega⟩
section
variable {A B : Au} {k q : Nat → Int}
end
end Go.Proofs.YtkedgombccdamaaGreatDoor
namespace Go.Proofs.YtkedgombccdamaaGreatDoor
open Go.RowKit Go.Maps Go.WideMaps
set_option linter.unusedVariables false
set_option linter.unusedSimpArgs false
def encZ (z : Int) : Array Value := #[.int .i64 z]
theorem encZ_size (z : Int) : (encZ z).size = 1 := rfl
structure RV where
 a : Option Addr
 c : Nat
 l : List Int
def rowC (r : RV) : Array Value := #[.slice r.a r.l.length r.c]
theorem rowC_size (r : RV) : (rowC r).size = 1 := rfl
def dfaC (f : Nat → Int) (A : Option Addr) (n c : Nat) (B : Option Addr) (m d : Nat) (C : Option Addr) (k e : Nat) : Array Value := clsC f ++ #[.slice A n c, .slice B m d, .slice C k e]
section
variable (f : Nat → Int) (A : Option Addr) (n c : Nat) (B : Option Addr) (m d : Nat) (C : Option Addr) (k e : Nat)
theorem dfaC_size : (dfaC f A n c B m d C k e).size = 259 := by simp [dfaC, zzz]
theorem dfaC_lo (i : Nat) (h : i < 256) : (dfaC f A n c B m d C k e)[i]? = some (.int .i64 (f i)) := by
 unfold dfaC
 rw [Array.getElem?_append_left (by rw [zzz]; exact h), clsC_at f i h]
theorem dfaC_1 : (dfaC f A n c B m d C k e)[256]? = some (.slice A n c) := by
 unfold dfaC
 rw [Array.getElem?_append_right (by rw [zzz]; omega), zzz]
 rfl
theorem dfaC_2 : (dfaC f A n c B m d C k e)[257]? = some (.slice B m d) := by
 unfold dfaC
 rw [Array.getElem?_append_right (by rw [zzz]; omega), zzz]
 rfl
theorem dfaC_3 : (dfaC f A n c B m d C k e)[258]? = some (.slice C k e) := by
 unfold dfaC
 rw [Array.getElem?_append_right (by rw [zzz]; omega), zzz]
 rfl
theorem dfaC_one : (dfaC f A n c B m d C k e).all (·.oneCell') = true := by
 unfold dfaC
 rw [Array.all_append, clsC_oneCell]
 simp [Value.oneCell']
theorem set_app3 {α : Type} (l : Array α) (x y z u : α) (h : l.size = 256) : (l ++ #[x, y, z]).setIfInBounds 256 u = l ++ #[u, y, z] ∧ (l ++ #[x, y, z]).setIfInBounds 257 u = l ++ #[x, u, z] ∧ (l ++ #[x, y, z]).setIfInBounds 258 u = l ++ #[x, y, u] := by
 have key : ∀ j v, j < 3 → (l ++ #[x, y, z]).setIfInBounds (256 + j) v = l ++ (#[x, y, z].setIfInBounds j v) := by
  intro j v hj
  rw [← h]
  apply Array.ext
  ·simp
  ·intro i h1 h2
   simp only [Array.size_setIfInBounds, Array.size_append] at h1
   rw [Array.getElem_setIfInBounds (by simpa using h1)]
   by_cases e : i < l.size
   ·rw [if_neg (by omega), Array.getElem_append_left e, Array.getElem_append_left e]
   ·rw [Array.getElem_append_right (by omega), Array.getElem_append_right (by omega), Array.getElem_setIfInBounds]
    by_cases e2 : l.size + j = i
    ·rw [if_pos e2, if_pos (by omega)]
    ·rw [if_neg e2, if_neg (by omega)]
 exact ⟨key 0 u (by omega), key 1 u (by omega), key 2 u (by omega)⟩
theorem dfaC_set1 (A' : Option Addr) (n' c' : Nat) : (dfaC f A n c B m d C k e).setIfInBounds 256 (.slice A' n' c') = dfaC f A' n' c' B m d C k e := (set_app3 _ _ _ _ _ (zzz f)).1
theorem dfaC_set2 (A' : Option Addr) (n' c' : Nat) : (dfaC f A n c B m d C k e).setIfInBounds 257 (.slice A' n' c') = dfaC f A n c A' n' c' C k e := (set_app3 _ _ _ _ _ (zzz f)).2.1
theorem dfaC_set3 (A' : Option Addr) (n' c' : Nat) : (dfaC f A n c B m d C k e).setIfInBounds 258 (.slice A' n' c') = dfaC f A n c B m d A' n' c' := (set_app3 _ _ _ _ _ (zzz f)).2.2
theorem dfaC_cls {w : World} {b off : Nat} (h : RowAt w b off (dfaC f A n c B m d C k e)) : RowAt w b off (clsC f) := fun j v hv => h j v (by
 unfold dfaC
 rw [Array.getElem?_append_left]
 ·exact hv
 ·rcases Nat.lt_or_ge j (clsC f).size with h1 | h1
  ·exact h1
  ·rw [Array.getElem?_eq_none h1] at hv; cases hv)
end
theorem info_dfa : (Tryz.prog.info? 33).map (·.size) = some 259 := by kernel_rfl
theorem build_dfa0 (w : World) : (Instr.build 33 #[]).run Tryz.prog w = .ok (.agg (dfaC (fun _ => 0) none 0 0 none 0 0 none 0 0)) w := by kernel_rfl
theorem field_dfa_0 (b off : Nat) (w : World) : (Instr.fieldAt 33 (.pointer (some ⟨b, off, none⟩)) 0).run Tryz.prog w = .ok (.pointer (some ⟨b, off, none⟩)) w := by kernel_rfl
theorem field_dfa_1 (b off : Nat) (w : World) : (Instr.fieldAt 33 (.pointer (some ⟨b, off, none⟩)) 1).run Tryz.prog w = .ok (.pointer (some ⟨b, off + 256, none⟩)) w := by kernel_rfl
theorem field_dfa_2 (b off : Nat) (w : World) : (Instr.fieldAt 33 (.pointer (some ⟨b, off, none⟩)) 2).run Tryz.prog w = .ok (.pointer (some ⟨b, off + 257, none⟩)) w := by kernel_rfl
theorem field_dfa_3 (b off : Nat) (w : World) : (Instr.fieldAt 33 (.pointer (some ⟨b, off, none⟩)) 3).run Tryz.prog w = .ok (.pointer (some ⟨b, off + 258, none⟩)) w := by kernel_rfl
theorem under_cls : Tryz.prog.underlying 30 = some (.array (Tryz.prog.arrayLen 30) (Tryz.prog.elem 30)) := by kernel_rfl
theorem len_cls : Tryz.prog.arrayLen 30 = 256 := by kernel_rfl
theorem size_clsE (w : World) : (sizeOf (Tryz.prog.elem 30)).run Tryz.prog w = .ok 1 w := by kernel_rfl
theorem index_cls (b off m : Nat) (hm : m < 256) (w : World) : (Instr.indexAt 30 (.pointer (some ⟨b, off, none⟩)) (.int .i64 m)).run Tryz.prog w = .ok (.pointer (some ⟨b, off + m * 1, none⟩)) w := by
 have e := run_indexAt_array (P := Tryz.prog) w 30 ⟨b, off, none⟩ .i64 (m : Int) under_cls
 rw [if_pos ⟨by omega, by rw [len_cls]; omega⟩, size_clsE] at e
 simp only [Int.toNat_natCast, Result.andThen_ok, addr_add] at e
 exact e
theorem run_size_int (w : World) : (sizeOf 3).run Tryz.prog w = .ok 1 w := by kernel_rfl
theorem run_index_cls (w : World) (g : Nat → Int) (b : Nat) (h : b < 256) : (Instr.index 30 (.agg (clsC g)) (.int .i64 (b : Int))).run Tryz.prog w = .ok (.int .i64 (g b)) w := by
 have hn : (0 : Int) ≤ b ∧ (b : Int) < 256 := by omega
 have hp := run_part_plain (P := Tryz.prog) w (e := 3) (by kernel_rfl) (xs := clsC g) (off := b * 1) (by rw [Nat.mul_one]; exact clsC_at g b h)
 simp [Instr.index, run_underlying Tryz.underlying30, asIntOf, hn, run_size_int]
 rw [if_pos h]
 simpa using hp
theorem blk_cls {w : World} {g b : Nat} {f : Nat → Int} {A : Option Addr} {n c : Nat} {B : Option Addr} {m d : Nat} {C : Option Addr} {k e : Nat} (h : Blk w g 33 (dfaC f A n c B m d C k e)) (hb : b < 256) : w.cell? ⟨g, 0 + b * 1, none⟩ = some (.int .i64 (f b)) := by
 rw [show 0 + b * 1 = b by omega]
 exact h.cellv (dfaC_lo _ _ _ _ _ _ _ _ _ _ b hb)
section
variable {w : World} {g : Nat} {f : Nat → Int} {A : Option Addr} {n c : Nat} {B : Option Addr} {m d : Nat} {C : Option Addr} {k e : Nat}
theorem blk_d1 (h : Blk w g 33 (dfaC f A n c B m d C k e)) : w.cell? ⟨g, 256, none⟩ = some (.slice A n c) := h.cellv (dfaC_1 _ _ _ _ _ _ _ _ _ _)
theorem blk_d2 (h : Blk w g 33 (dfaC f A n c B m d C k e)) : w.cell? ⟨g, 257, none⟩ = some (.slice B m d) := h.cellv (dfaC_2 _ _ _ _ _ _ _ _ _ _)
theorem blk_d3 (h : Blk w g 33 (dfaC f A n c B m d C k e)) : w.cell? ⟨g, 258, none⟩ = some (.slice C k e) := h.cellv (dfaC_3 _ _ _ _ _ _ _ _ _ _)
end
theorem under_rows : Tryz.prog.underlying 31 = some (.slice (Tryz.prog.elem 31)) := by kernel_rfl
theorem size_rowE (w : World) : (sizeOf (Tryz.prog.elem 31)).run Tryz.prog w = .ok 1 w := by kernel_rfl
structure TV where
 f : Nat → Int
 rs : List RV
 A : Option Addr
 c : Nat
 fo : List Nat
 B : Option Addr
 d : Nat
 en : List Nat
 C : Option Addr
 e : Nat
def TV.T (x : TV) : Tb := ⟨x.f, x.rs.map (·.l), x.fo, x.en⟩
def TV.C' (x : TV) : Array Value := dfaC x.f x.A x.rs.length x.c x.B x.fo.length x.d x.C x.en.length x.e
structure TabIn (w : World) (N : Nat) (x : TV) : Prop where
 rows : SliceOf w N 1 rowC x.A x.rs
 row : ∀ r ∈ x.rs, SliceOf w N 1 encZ r.a r.l
 fo : SliceOf w N 1 encR x.B x.fo
 en : SliceOf w N 1 encR x.C x.en
 nb : x.rs.length ≤ 2199023255552
 rb : ∀ r ∈ x.rs, r.l.length ≤ 2199023255552
 fb : x.fo.length ≤ 2199023255552
 eb : x.en.length ≤ 2199023255552
 f32 : ∀ y ∈ x.fo, y < 4294967296
 e32 : ∀ y ∈ x.en, y < 4294967296
section
variable {w w' : World} {N : Nat} {x : TV}
theorem TabIn.below (h : TabIn w N x) (hb : Below N w w') : TabIn w' N x := ⟨h.rows.below hb, fun r hr => (h.row r hr).below hb, h.fo.below hb, h.en.below hb, h.nb, h.rb, h.fb, h.eb, h.f32, h.e32⟩
theorem TabIn.more {N' : Nat} (h : TabIn w N x) (hN : N ≤ N') : TabIn w N' x := ⟨h.rows.more hN, fun r hr => (h.row r hr).more hN, h.fo.more hN, h.en.more hN, h.nb, h.rb, h.fb, h.eb, h.f32, h.e32⟩
theorem TabIn.then_ (h : TabIn w w.heap.size x) (hb : Below w.heap.size w w') : TabIn w' w'.heap.size x := (h.below hb).more hb.size
theorem TabIn.rowAt (h : TabIn w N x) {s : Nat} (hs : s < x.rs.length) : ∃ b off, x.A = some ⟨b, off, none⟩ ∧ b < N ∧ w.cell? ⟨b, off + s * 1, none⟩ = some (.slice x.rs[s].a x.rs[s].l.length x.rs[s].c) := by
 obtain ⟨b, off, e, hb, hr⟩ := h.rows.at_ (by omega)
 exact ⟨b, off, e, hb, hr s hs 0 _ rfl⟩
theorem slice_cell {α : Type} {enc : α → Array Value} {A : Option Addr} {l : List α} (h : SliceOf w N 1 enc A l) {s : Nat} (hs : s < l.length) {v : Value} (hv : (enc l[s])[0]? = some v) : ∃ b off, A = some ⟨b, off, none⟩ ∧ b < N ∧ w.cell? ⟨b, off + s * 1, none⟩ = some v := by
 obtain ⟨b, off, e, hb, hr⟩ := h.at_ (by omega)
 exact ⟨b, off, e, hb, hr s hs 0 _ hv⟩
theorem cell_keep {b off : Nat} {v : Value} (h : w.cell? ⟨b, off, none⟩ = some v) (hb : b < N) (hB : Below N w w') : w'.cell? ⟨b, off, none⟩ = some v := (World.cell?_of_block (w := w) (hB.block b hb)).trans h
end
section
variable {ops : Array Oper} {rest : List Oper} {o : Oper} {a : Act} {w : World} {Q : Exit → Act → World → Prop}
theorem wl_load_dfa (hgd : o.guard = none) (x : Operand) (ho : o.op = .load 33 x)
  (g : Nat) (hx : a.eval x = .pointer (some ⟨g, 0, none⟩)) {f : Nat → Int} {A : Option Addr} {n c : Nat} {B : Option Addr} {m d : Nat} {C : Option Addr} {k e : Nat} (hb : Blk w g 33 (dfaC f A n c B m d C k e))
  (h : wpList Tryz.prog ops Q rest (a.put o.dst (.agg (dfaC f A n c B m d C k e))) w) : wpList Tryz.prog ops Q (o :: rest) a w :=
 wpList_load_row hgd _ x ho g hx _ _ _ _ hb Tryz.underlying33 rfl (info_dfa.trans (by rw [dfaC_size])) h
theorem zyg (hgd : o.guard = none) (x y : Operand) (ho : o.op = .store 33 x y)
  (g : Nat) {f : Nat → Int} {A : Option Addr} {n c : Nat} {B : Option Addr} {m d : Nat} {C : Option Addr} {k e : Nat} (hx : a.eval x = .pointer (some ⟨g, 0, none⟩)) (hy : a.eval y = .agg (dfaC f A n c B m d C k e))
  {f0 : Nat → Int} {A0 : Option Addr} {n0 c0 : Nat} {B0 : Option Addr} {m0 d0 : Nat} {C0 : Option Addr} {k0 e0 : Nat} (hb : Blk w g 33 (dfaC f0 A0 n0 c0 B0 m0 d0 C0 k0 e0))
  (h : ∀ w', Blk w' g 33 (dfaC f A n c B m d C k e) → w.grownBy w' (some g) → wpList Tryz.prog ops Q rest (a.put o.dst undef) w') : wpList Tryz.prog ops Q (o :: rest) a w :=
 wpList_store_row hgd _ x y ho g _ hx hy _ _ hb (info_dfa.trans (by rw [dfaC_size])) (by rw [dfaC_size, dfaC_size]) (dfaC_one _ _ _ _ _ _ _ _ _ _) (h _ (hb.setRow_same _) (zxs (zzk _ _) _))
theorem s_wl_load_cls (hgd : o.guard = none) (x : Operand) (ho : o.op = .load 30 x)
  (g : Nat) (hx : a.eval x = .pointer (some ⟨g, 0, none⟩)) (y : Nat → Int) (hr : RowAt w g 0 (clsC y))
  (h : wpList Tryz.prog ops Q rest (a.put o.dst (.agg (clsC y))) w) : wpList Tryz.prog ops Q (o :: rest) a w :=
 wpList_load_at hgd _ x ho g 0 hx _ _ hr Tryz.underlying30 rfl (info_cls.trans (by rw [zzz])) h
end
section
variable {ops : Array Oper} {S : Nat → GSpec} {Q : Exit → Act → World → Prop} {i : Nat} {o : Oper} {a : Act} {w : World}
theorem gs_load_dfa (hw : Region.wanted o (yielded ops a.tmps) = true) (x : Operand) (ho : o.op = .load 33 x) (g : Nat) (hx : a.eval x = .pointer (some ⟨g, 0, none⟩))
  {f : Nat → Int} {A : Option Addr} {n c : Nat} {B : Option Addr} {m d : Nat} {C : Option Addr} {k e : Nat} (hg : Blk w g 33 (dfaC f A n c B m d C k e))
  (hp : (S i).p (.agg (dfaC f A n c B m d C k e)) w) : GStep Tryz.prog ops S Q i o a w :=
 gs_load hw _ x ho g hx _ _ hg _ Tryz.underlying33 rfl (info_dfa.trans (by rw [dfaC_size])) hp
theorem gs_index_arr (hw : Region.wanted o (yielded ops a.tmps) = true) (t : TypeId) (x ix : Operand) (ho : o.op = .indexAddr t x ix) (b off m : Nat) (hx : a.eval x = .pointer (some ⟨b, off, none⟩)) (hi : a.eval ix = .int .i64 m)
  (hr : ∀ w, (Instr.indexAt t (.pointer (some ⟨b, off, none⟩)) (.int .i64 m)).run Tryz.prog w = .ok (.pointer (some ⟨b, off + m * 1, none⟩)) w) (hp : (S i).p (.pointer (some ⟨b, off + m * 1, none⟩)) w) : GStep Tryz.prog ops S Q i o a w :=
 zzx hw (v := .pointer (some ⟨b, off + m * 1, none⟩)) (by unfold execOp; simp only [ho, hx, hi, Sem.run_bind, hr, Result.andThen_ok, Sem.run_pure]) (Below.refl _ _) hp
theorem gs_andnot_u32 (hw : Region.wanted o (yielded ops a.tmps) = true) (t t2 : TypeId) (x y : Operand) (ho : o.op = .binOp .andNot t x y t2) (p q : Nat) (hx : a.eval x = .int .u32 p) (hy : a.eval y = .int .u32 q) (hp1 : p < 4294967296) (hq1 : q < 4294967296)
  (hp : (S i).p (.int .u32 ((p &&& (4294967295 - q) : Nat) : Int)) w) : GStep Tryz.prog ops S Q i o a w :=
 gs_bin hw _ _ _ x y ho _ _ _ hx hy (by rw [eqGuard_at_int]; rfl) (by rw [← u32_andNot_nat p q hp1 hq1]; rfl) hp
end
theorem andnot_zero (a b : Nat) (ha : a < 4294967296) (hb : b < 4294967296) : a &&& (4294967295 - b) = 0 ↔ a &&& b = a := by
 have ht : ∀ i, (4294967295 - b).testBit i = (decide (i < 32) && !b.testBit i) := by
  intro i
  have := Nat.testBit_two_pow_sub_succ (x := b) (n := 32) (by omega) i
  rw [← this]
  congr 1
  omega
 constructor
 ·intro h
  apply Nat.eq_of_testBit_eq
  intro i
  have h1 := congrArg (fun n => n.testBit i) h
  simp only [Nat.testBit_and, ht, Nat.zero_testBit] at h1 ⊢
  by_cases hi : i < 32
  ·simp [hi] at h1
   cases hA : a.testBit i
   ·simp
   ·simp [h1 hA]
  ·have : a.testBit i = false := Nat.testBit_lt_two_pow (Nat.lt_of_lt_of_le ha (by have := Nat.pow_le_pow_right (show 0 < 2 by omega) (show 32 ≤ i by omega); omega))
   simp [this]
 ·intro h
  apply Nat.eq_of_testBit_eq
  intro i
  have h1 := congrArg (fun n => n.testBit i) h
  simp only [Nat.testBit_and, ht, Nat.zero_testBit] at h1 ⊢
  cases hA : a.testBit i
  ·simp
  ·rw [hA] at h1
   simp at h1
   simp [h1]
attribute [irreducible] dfaC
end Go.Proofs.YtkedgombccdamaaGreatDoor
namespace Go.Proofs.YtkedgombccdamaaGreatDoor
open Go.RowKit Go.Shelf Go.Maps
set_option linter.unusedVariables false
set_option linter.unusedSimpArgs false
attribute [local go_sem] Oper.semAt_some
set_option maxRecDepth 100000 in
set_option maxHeartbeats 2000000 in
theorem s_end_any (lo nb gw gm N : Nat) (E : List Edg) (R : List Nat) (k : Wk) (w : World) (h : WalkOk lo nb w gw gm N E R k) (hT : TabOk w) :
  Calls Tryz.prog 11 #[.pointer (some ⟨gw, 0, none⟩)] w fun e w' => e = .returned (.int .u32 (endW E N R k : Nat)) ∧ Below w.heap.size w w' := by
 obtain ⟨hMI, hnw, hr, hx, g, c, hne, hw, hs⟩ := h
 obtain ⟨x, r, b⟩ := k
 simp only at hr hx hw hs
 have hM := hMI.ok
 clear hMI
 have hN := hM.2.1
 have hone := hM.1.one
 have hnb0 := hM.2.2.2.2.1
 have hnb2 := hM.2.2.2.2.2.1
 have hkb : zqe N ≤ 549755813889 := by unfold zqe; omega
 have hk1 : 0 < zqe N := by unfold zqe; omega
 have hgb := hs.lt g rfl
 obtain ⟨y, hy⟩ : ∃ y, y = zzf E N b true x := ⟨_, rfl⟩
 have hyN : below y N := by rw [hy]; exact spread_below _ _ _ _ _
 have hend : endW E N R ⟨x, r, b⟩ = r ||| metN R y N := by rw [hy]; rfl
 rw [hend]
 have Hy := Lib.hid hy
 clear hy hend
 obtain ⟨i0, hi0, hz0, hz1, hz2⟩ := info_parts info_u64z
 have c1 : (w.alloc (.cells #[] 51)).cell? ⟨gw, 1, none⟩ = some (.slice (some ⟨g, 0, none⟩) (zqe N) c) := (hw.alloc _).cellv (i := 1) rfl
 go_enter Tryz.func11, Tryz.ntmps11
 go_upto_region 2 with (at_builtin; refine zxh (enc := encU) _ rfl _ _ 92 rfl w.heap.size 51 i0 _ 1 8 Tryz.underlying92 hi0 hz0 hz1 hz2 rfl (by decide) zzu encU_one _ _ rfl (own_empty (w := w) (e := 51) (size := 1) (base := w.heap.size) (Nat.le_refl _)) _ _ _ _ (zqu x (zqe N)) rfl (zqz _ _).symm ((hs.alloc _).slice_all zzu) (by simp only [List.length_nil]; unfold maxLen; omega) (by simp only [List.length_nil]; omega) (by simp) ?_; intro v1 w1 hs1 hg1 _)
 rw [List.nil_append] at hs1
 obtain ⟨g1, cap, hv1, hgb1, hgb2, _⟩ := hs1.form (by rw [zqz]; exact hk1)
 rw [zqz] at hv1
 subst hv1
 have hB1 : Below w.heap.size w w1 := zqh (zqc (Below.refl _ w) (.cells #[] 51)) hg1 (Nat.le_refl _)
 have hw1 := zqb hw hB1
 have hM1 := hM.below hB1 hnb2
 have hT1 := hT.then_ hT.size hB1
 clear hs hw hg1 c1 hi0 hz0 hz1 hz2 hM hT
 refine zql 9 [eqS (.pointer (some ⟨gw, 0, none⟩)), eqS (.pointer (some ⟨gw, 0, none⟩)), eqS (.pointer (some ⟨gw, 0, none⟩)), eqS (.pointer (some ⟨gm, 0, none⟩)), eqS (.slice (some ⟨g1, 0, none⟩) (zqe N) cap), eqS (.pointer (some ⟨gw, 0, none⟩)), eqS (.pointer (some ⟨gw, 0, none⟩)), eqS (.pointer (some ⟨gw, 3, none⟩)), eqS (.bool b)] [10, 11, 12, 13, 14, 15, 16, 17, 18] rfl (by kernel_rfl) rfl ?_ ?_
 ·refine Steps.cons (fun a' w' hG hB dep => zqi (zqa rfl) _ rfl (hG.other 0 rfl)) ?_
  refine Steps.cons (fun a' w' hG hB dep => gs_nil (zqa rfl) _ rfl _ (dep 0 rfl 10 rfl) rfl) ?_
  refine Steps.cons (fun a' w' hG hB dep => zqn (zqa rfl) _ _ _ rfl gw 0 0 (dep 1 rfl 11 rfl) (field_walk_0 gw) rfl) ?_
  refine Steps.cons (fun a' w' hG hB dep => zqj (zqa rfl) _ _ rfl gw 0 (dep 2 rfl 12 rfl) _ ((zqb hw1 hB).cellv (i := 0) rfl) _ Tryz.underlying88 rfl rfl) ?_
  refine Steps.cons (fun a' w' hG hB dep => zqi (zqa rfl) _ rfl (hG.other 3 rfl)) ?_
  refine Steps.cons (fun a' w' hG hB dep => zqi (zqa rfl) _ rfl (hG.other 0 rfl)) ?_
  refine Steps.cons (fun a' w' hG hB dep => gs_nil (zqa rfl) _ rfl _ (dep 5 rfl 15 rfl) rfl) ?_
  refine Steps.cons (fun a' w' hG hB dep => zqn (zqa rfl) _ _ _ rfl gw 0 3 (dep 6 rfl 16 rfl) (field_walk_3 gw) rfl) ?_
  refine Steps.cons (fun a' w' hG hB dep => zqj (zqa rfl) _ _ rfl gw 3 (dep 7 rfl 17 rfl) _ ((zqb hw1 hB).cellv (i := 3) rfl) _ Tryz.underlying4 rfl rfl) ?_
  exact Steps.nil
 intro u w2 hB2 ans
 have u13 : u 13 = .pointer (some ⟨gm, 0, none⟩) := ans 3 13 (by decide) rfl
 have u14 : u 14 = (.slice (some ⟨g1, 0, none⟩) (zqe N) cap) := ans 4 14 (by decide) rfl
 have u18 : u 18 = .bool b := ans 8 18 (by decide) rfl
 clear ans
 simp only [zqr, List.foldl_cons, List.foldl_nil, Act.put, List.setIfInBounds_toArray, List.set_cons_zero, List.set_cons_succ, u13, u14, u18]
 clear u13 u14 u18
 simp only [List.drop]
 have hs2 := hs1.then_ hB2
 have hM2 := hM1.below hB2 hM1.2.2.2.2.2.1
 have hT2 := hT1.then_ hT1.size hB2
 have hw2 := zqb hw1 hB2
 refine wl_call rfl _ _ _ rfl enter_goes _ (map4 rfl rfl rfl rfl) ((goes_any nb gm N E R w.heap.size g1 cap x b true hx w2 hM2 hs2 hnb2 hT2).mono ?_)
 rintro e w3 ⟨rfl, hs3, hg3⟩
 refine ⟨_, rfl, ?_⟩
 simp only [Act.put, List.setIfInBounds_toArray, List.set_cons_zero, List.set_cons_succ]
 refine wpList_nil ?_
 rw [← Hy.out] at hs3
 have hlw := hw2.lt
 have hlw1 := hw1.lt
 have hw3 := zqk hw2 hg3 (fun e => by
  subst e
  have h1 := (hs3.2)
  rcases hs2.2 with ⟨hv, _⟩ | ⟨g', cap', cur, hv, _, hh, _⟩
  ·cases hv
  ·injection hv with hv _ _
   injection hv with hv
   injection hv with hv
   subst hv
   unfold Blk at hw2
   rw [hh] at hw2
   injection hw2 with hw2
   injection hw2 with _ hw2
   cases hw2)
 have hM3 := hM2.grown hg3 (by omega)
 have hT3 := tab_grown hT2 hg3 (by omega)
 have hB3 : Below w.heap.size w w3 := zqh (zqd hB1 hB2) hg3 hgb1
 clear hs1 hs2 hw2 hw1 hM1 hM2 hT1 hT2 hg3 hB2 hB1
 have hgb3 := hs3.lt g1 rfl
 have hrw : ∀ {w' : World}, Below w3.heap.size w3 w' → ∀ i (h : i < (zqu y (zqe N)).length), RowAt w' g1 (0 + i) (encU (zqu y (zqe N))[i]) := fun hB i h => by
  have := (hs3.then_ hB).row zzu i h
  rw [Nat.mul_one] at this
  rw [Nat.zero_add]
  exact this
 have hmet : metN R y N < 4294967296 := met_lt hM3.2.2.2.1 y N
 have hor := u32_or_nat r (metN R y N) hr hmet
 go_upto_region 3 with (fail)
 refine zql 12 [eqS (.pointer (some ⟨gw, 0, none⟩)), eqS (.pointer (some ⟨gw, 0, none⟩)), eqS (.pointer (some ⟨gw, 2, none⟩)), eqS (.int .u32 (r : Int)), eqS (.pointer (some ⟨gw, 0, none⟩)), eqS (.pointer (some ⟨gw, 0, none⟩)), eqS (.pointer (some ⟨gw, 0, none⟩)), eqS (.pointer (some ⟨gm, 0, none⟩)), eqS (.slice (some ⟨g1, 0, none⟩) (zqe N) cap), eqS (.int .u32 (metN R y N : Nat)), eqS (.int .u32 (r ||| metN R y N : Nat)), eqS (.int .u32 (r ||| metN R y N : Nat))] [20, 21, 22, 23, 24, 25, 26, 27, 28, 29, 30, 2] rfl (by kernel_rfl) rfl ?_ ?_
 ·refine Steps.cons (fun a' w' hG hB dep => zqi (zqa rfl) _ rfl (hG.other 0 rfl)) ?_
  refine Steps.cons (fun a' w' hG hB dep => gs_nil (zqa rfl) _ rfl _ (dep 0 rfl 20 rfl) rfl) ?_
  refine Steps.cons (fun a' w' hG hB dep => zqn (zqa rfl) _ _ _ rfl gw 0 2 (dep 1 rfl 21 rfl) (field_walk_2 gw) rfl) ?_
  refine Steps.cons (fun a' w' hG hB dep => zqj (zqa rfl) _ _ rfl gw 2 (dep 2 rfl 22 rfl) _ ((zqb hw3 hB).cellv (i := 2) rfl) _ Tryz.underlying42 rfl rfl) ?_
  refine Steps.cons (fun a' w' hG hB dep => zqi (zqa rfl) _ rfl (hG.other 0 rfl)) ?_
  refine Steps.cons (fun a' w' hG hB dep => gs_nil (zqa rfl) _ rfl _ (dep 4 rfl 24 rfl) rfl) ?_
  refine Steps.cons (fun a' w' hG hB dep => zqn (zqa rfl) _ _ _ rfl gw 0 0 (dep 5 rfl 25 rfl) (field_walk_0 gw) rfl) ?_
  refine Steps.cons (fun a' w' hG hB dep => zqj (zqa rfl) _ _ rfl gw 0 (dep 6 rfl 26 rfl) _ ((zqb hw3 hB).cellv (i := 0) rfl) _ Tryz.underlying88 rfl rfl) ?_
  refine Steps.cons (fun a' w' hG hB dep => zqi (zqa rfl) _ rfl (hG.other 3 rfl)) ?_
  refine Steps.cons (fun a' w' hG hB dep => zze (zqa rfl) _ _ _ rfl enter_met _ (map2 (dep 7 rfl 27 rfl) (dep 8 rfl 28 rfl)) ((met_any nb gm N E R g1 0 cap y hyN w' (hM3.below hB hM3.2.2.2.2.2.1) (hrw hB) (Nat.lt_of_lt_of_le hgb3.2 hB.size) (hT3.then_ hT3.size hB)).mono fun e w2 ⟨he, hb⟩ => ⟨_, he, hb, rfl⟩)) ?_
  refine Steps.cons (fun a' w' hG hB dep => gs_or_u32 (zqa rfl) _ _ _ _ rfl _ _ (dep 3 rfl 23 rfl) (dep 9 rfl 29 rfl) _ hor rfl) ?_
  refine Steps.cons (fun a' w' hG hB dep => zxl (zqa rfl) _ rfl (dep 10 rfl 30 rfl)) ?_
  exact Steps.nil
 intro u w5 hB5 ans
 have u2 : u 2 = .int .u32 (r ||| metN R y N : Nat) := ans 11 2 (by decide) rfl
 clear ans
 simp only [zqr, List.foldl_cons, List.foldl_nil, Act.put, List.setIfInBounds_toArray, List.set_cons_zero, List.set_cons_succ, u2]
 clear u2
 simp only [List.drop]
 refine wpList_nil ?_
 have hB6 := zqd hB3 hB5
 clear hw3 hs3 hM3 hT3 hB3 hB5 hrw hor
 go_wp2_with (fail)
 go_ret
 exact ⟨rfl, hB6⟩
end Go.Proofs.YtkedgombccdamaaGreatDoor
namespace Go.Proofs.YtkedgombccdamaaGreatDoor
open Go.RowKit
set_option linter.unusedVariables false
set_option linter.unusedSimpArgs false
def takes (c : Nat) (d : Edg) : Bool := d.kd == 2 && d.st.getLsbD c
def hop1 (c y : Nat) (d : Edg) : Nat := if takes c d then y ||| 2 ^ d.tt.toNat else y
theorem hop1_no {c y : Nat} {d : Edg} (h : takes c d = false) : hop1 c y d = y := by unfold hop1; rw [h]; rfl
theorem hop1_yes {c y : Nat} {d : Edg} (h : takes c d = true) : hop1 c y d = y ||| 2 ^ d.tt.toNat := by unfold hop1; rw [h]; rfl
def hopE (l : List Edg) (c y : Nat) : Nat := l.foldl (hop1 c) y
def hopL (E : List Edg) (c : Nat) (ns : List Nat) (y : Nat) : Nat := ns.foldl (fun y n => hopE (zqq E n) c y) y
theorem hopE_take (l : List Edg) (c y j : Nat) (hj : j < l.length) : hopE (l.take (j + 1)) c y = hop1 c (hopE (l.take j) c y) l[j] := by
 unfold hopE
 rw [List.take_succ_eq_append_getElem hj, List.foldl_append]
 rfl
theorem hopL_snoc (E : List Edg) (c : Nat) (ns : List Nat) (n y : Nat) : hopL E c (ns ++ [n]) y = hopE (zqq E n) c (hopL E c ns y) := by simp [hopL]
theorem hop1_bit (c y i : Nat) (d : Edg) : (hop1 c y d).testBit i = (y.testBit i || (takes c d && decide (d.tt.toNat = i))) := by
 unfold hop1
 cases h : takes c d
 ·simp
 ·rw [if_pos rfl, zzc, Bool.true_and]
theorem hopE_bit (c i : Nat) : ∀ (l : List Edg) (y : Nat), (hopE l c y).testBit i = true ↔ y.testBit i = true ∨ ∃ d ∈ l, takes c d = true ∧ d.tt.toNat = i
 | [], y => by simp [hopE]
 | d :: l, y => by
   have ih := hopE_bit c i l (hop1 c y d)
   unfold hopE at ih ⊢
   rw [List.foldl_cons, ih, hop1_bit]
   simp only [Bool.or_eq_true, Bool.and_eq_true, decide_eq_true_eq, List.mem_cons, exists_eq_or_imp]
   constructor
   ·rintro ((h | h) | h)
    ·exact .inl h
    ·exact .inr (.inl h)
    ·exact .inr (.inr h)
   ·rintro (h | h | h)
    ·exact .inl (.inl h)
    ·exact .inl (.inr h)
    ·exact .inr h
theorem hopL_bit (E : List Edg) (c i : Nat) : ∀ (ns : List Nat) (y : Nat), (hopL E c ns y).testBit i = true ↔ y.testBit i = true ∨ ∃ n ∈ ns, ∃ d ∈ zqq E n, takes c d = true ∧ d.tt.toNat = i
 | [], y => by simp [hopL]
 | n :: ns, y => by
   have ih := hopL_bit E c i ns (hopE (zqq E n) c y)
   unfold hopL at ih ⊢
   rw [List.foldl_cons, ih, hopE_bit]
   simp only [List.mem_cons, exists_eq_or_imp]
   constructor
   ·rintro ((h | h) | h)
    ·exact .inl h
    ·exact .inr (.inl h)
    ·exact .inr (.inr h)
   ·rintro (h | h | h)
    ·exact .inl (.inl h)
    ·exact .inl (.inr h)
    ·exact .inr h
theorem hopL_byte {E : List Edg} {N x c : Nat} (hN : 1 ≤ N) (hE : ∀ d ∈ E, (0 ≤ d.fr ∧ d.fr < N) ∧ 0 ≤ d.tt ∧ d.tt < N) : hopL E c (zzj x N) 0 ||| 1 = byteN E N x c := by
 apply bits_ext
 intro i
 rw [show (1 : Nat) = 2 ^ 0 from rfl, zzc, Bool.or_eq_true, hopL_bit, decide_eq_true_eq, byte_bit]
 simp only [Nat.zero_testBit, Bool.false_eq_true, false_or]
 constructor
 ·rintro (⟨n, hn, d, hd, h2, h3⟩ | rfl)
  ·rw [mem_bitsTo] at hn
   rw [mem_edgesAt] at hd
   have hb := hE d hd.1
   unfold takes at h2
   rw [Bool.and_eq_true, beq_iff_eq] at h2
   refine ⟨by omega, .inr ⟨d, hd.1, h2.1, ?_, h2.2, h3⟩⟩
   rw [hd.2]
   exact hn.2
  ·exact ⟨hN, .inl rfl⟩
 ·rintro ⟨hi, rfl | ⟨d, hd, h2, h3, h4, h5⟩⟩
  ·exact .inr rfl
  ·have hb := hE d hd
   refine .inl ⟨d.fr.toNat, ?_, d, ?_, ?_, h5⟩
   ·rw [mem_bitsTo]
    exact ⟨by omega, h3⟩
   ·rw [mem_edgesAt]
    exact ⟨hd, by omega⟩
   ·unfold takes
    rw [h2, h4]
    rfl
end Go.Proofs.YtkedgombccdamaaGreatDoor
namespace Go.Proofs.YtkedgombccdamaaGreatDoor
open Go.RowKit Go.Shelf Go.Maps
set_option linter.unusedVariables false
set_option linter.unusedSimpArgs false
attribute [local go_sem] Oper.semAt_some
def byI (nb gm gw N : Nat) (E : List Edg) (R : List Nat) (cb base g1 c1 y bs : Nat) (vw : Array Value) (w W3 W : World) : Prop :=
 Blk W w.heap.size 38 #[.pointer (some ⟨gw, 0, none⟩)] ∧ Blk W (w.heap.size + 1) 5 #[.int .u8 (cb : Int)] ∧ Blk W bs 92 #[.slice (some ⟨g1, 0, none⟩) (zqe N) c1] ∧ Blk W gw 94 vw ∧
  Own W base 51 1 encU (.slice (some ⟨g1, 0, none⟩) (zqe N) c1) (zqu y (zqe N)) ∧ MachOk nb W gm N E R ∧ TabOk W ∧ Below w.heap.size w W ∧ W3.heap.size ≤ W.heap.size
set_option maxRecDepth 100000 in
set_option maxHeartbeats 4000000 in
theorem s_byte_any (lo nb gw gm N : Nat) (E : List Edg) (R : List Nat) (k : Wk) (cb : Nat) (hcb : cb < 256) (w : World) (h : WalkOk lo nb w gw gm N E R k) (hT : TabOk w) :
  Calls Tryz.prog 14 #[.pointer (some ⟨gw, 0, none⟩), .int .u8 (cb : Int)] w fun e w' => e = .returned (.tuple #[]) ∧ WalkOk lo nb w' gw gm N E R (byteW E N R k cb) ∧ w.grownBy w' (some gw) := by
 refine (callsIn_wide (n := 6)).1 ?_
 refine callsIn_of_wp_marks Tryz.func14 rfl trivial ?_ rfl
 simp only [Tryz.ntmps14, List.size_toArray, List.length_cons, List.length_nil, Nat.reduceAdd, Nat.reduceSub, Array.replicate_succ, Array.replicate_zero, List.push_toArray, List.append_toArray, List.nil_append, List.cons_append]
 obtain ⟨hMI, hnw, hr, hx, g, c, hne, hw, hs⟩ := h
 obtain ⟨x, r, b⟩ := k
 simp only at hr hx hw hs
 have hM := hMI.ok
 have hN := hM.2.1
 have hone := hM.1.one
 have hnb0 := hM.2.2.2.2.1
 have hnb2 := hM.2.2.2.2.2.1
 have hkb : zqe N ≤ 1099511627776 := by unfold zqe; omega
 have hk1 : 0 < zqe N := by unfold zqe; omega
 have hx64 : below x (64 * zqe N) := fun i hi => Nat.lt_of_lt_of_le (hx i hi) (zzh N)
 have hgb := hs.lt g rfl
 have hlw := hw.lt
 gi_upto_region 1 with (fail)
 have b2 := (Blk.new w 38 #[.pointer (some ⟨gw, 0, none⟩)]).alloc (.cells #[.int .u8 (cb : Int)] 5)
 have b3 := Blk.new' (n := w.heap.size + 1) (w.alloc (.cells #[.pointer (some ⟨gw, 0, none⟩)] 38)) 5 #[.int .u8 (cb : Int)] (by simp)
 have hB0 := zqc (zqc (Below.refl w.heap.size w) (.cells #[.pointer (some ⟨gw, 0, none⟩)] 38)) (.cells #[.int .u8 (cb : Int)] 5)
 have hz0 : ((w.alloc (.cells #[.pointer (some ⟨gw, 0, none⟩)] 38)).alloc (.cells #[.int .u8 (cb : Int)] 5)).heap.size = w.heap.size + 1 + 1 := by simp
 obtain ⟨W0, hW0⟩ : ∃ y, y = (w.alloc (.cells #[.pointer (some ⟨gw, 0, none⟩)] 38)).alloc (.cells #[.int .u8 (cb : Int)] 5) := ⟨_, rfl⟩
 rw [← hW0] at b2 b3 hB0 hz0 ⊢
 clear hW0
 have hw0 := zqb hw hB0
 have hM0 := hM.below hB0 hnb2
 have a2 : W0.cell? ⟨w.heap.size, 0, none⟩ = some (.pointer (some ⟨gw, 0, none⟩)) := b2.cellv rfl
 have aw : W0.cell? ⟨gw, 0, none⟩ = some (.pointer (some ⟨gm, 0, none⟩)) := hw0.cellv (i := 0) rfl
 gi_upto_region 2 with (refine ⟨trivial, ?_⟩; gi_at_call 29; refine (callsIn_wide.2 (none_any nb gm N E R W0 hM0)).mono ?_; rintro e w5 ⟨g1, c1, rfl, hg1, hs1, hB1⟩)
 have c2 := (zqb b2 hB1).alloc (.cells #[.slice (some ⟨g1, 0, none⟩) (zqe N) c1] 92)
 have c3 := (zqb b3 hB1).alloc (.cells #[.slice (some ⟨g1, 0, none⟩) (zqe N) c1] 92)
 have c4 := Blk.new w5 92 #[.slice (some ⟨g1, 0, none⟩) (zqe N) c1]
 have cw := (zqb hw0 hB1).alloc (.cells #[.slice (some ⟨g1, 0, none⟩) (zqe N) c1] 92)
 have hs2 := hs1.alloc (.cells #[.slice (some ⟨g1, 0, none⟩) (zqe N) c1] 92)
 have hB2 := zqc (zqd hB0 hB1) (.cells #[.slice (some ⟨g1, 0, none⟩) (zqe N) c1] 92)
 have hz1 := hB1.size
 have hz2 : (w5.alloc (.cells #[.slice (some ⟨g1, 0, none⟩) (zqe N) c1] 92)).heap.size = w5.heap.size + 1 := by simp
 obtain ⟨bs, hbs⟩ : ∃ y, y = w5.heap.size := ⟨_, rfl⟩
 rw [← hbs] at c4 hz2 hz1 ⊢
 obtain ⟨W2, hW2⟩ : ∃ y, y = w5.alloc (.cells #[.slice (some ⟨g1, 0, none⟩) (zqe N) c1] 92) := ⟨_, rfl⟩
 rw [← hW2] at c2 c3 c4 cw hs2 hB2 hz2 ⊢
 rw [hz0] at hs2
 clear hW2 hbs hs1 hB1 b2 b3 hw0 hB0 hM0 a2 aw
 have hT2 := hT.then_ hT.size hB2
 have hM2 := hM.below hB2 hnb2
 have a2 : W2.cell? ⟨w.heap.size, 0, none⟩ = some (.pointer (some ⟨gw, 0, none⟩)) := c2.cellv rfl
 have aw : W2.cell? ⟨gw, 1, none⟩ = some (.slice (some ⟨g, 0, none⟩) (zqe N) c) := cw.cellv (i := 1) rfl
 gi_wp2_with (refine ⟨trivial, ?_⟩; gi_at_call 33; refine (callsIn_wide.2 (each_any _ _ _ _)).mono ?_; rintro e w5 ⟨rfl, rfl⟩)
 clear a2 aw
 have e2 := c2.alloc (.cells #[.slice (some ⟨g, 0, none⟩) (zqe N) c] 92)
 have e3 := c3.alloc (.cells #[.slice (some ⟨g, 0, none⟩) (zqe N) c] 92)
 have e4 := c4.alloc (.cells #[.slice (some ⟨g, 0, none⟩) (zqe N) c] 92)
 have ew := cw.alloc (.cells #[.slice (some ⟨g, 0, none⟩) (zqe N) c] 92)
 have ex := Blk.new' (n := bs + 1) W2 92 #[.slice (some ⟨g, 0, none⟩) (zqe N) c] hz2.symm
 have hs3 := hs2.alloc (.cells #[.slice (some ⟨g, 0, none⟩) (zqe N) c] 92)
 have hB3 := zqc hB2 (.cells #[.slice (some ⟨g, 0, none⟩) (zqe N) c] 92)
 obtain ⟨W3, hW3⟩ : ∃ y, y = W2.alloc (.cells #[.slice (some ⟨g, 0, none⟩) (zqe N) c] 92) := ⟨_, rfl⟩
 rw [← hW3] at e2 e3 e4 ew ex hs3 hB3 ⊢
 clear hW3 c2 c3 c4 cw hs2 hB2 hT2 hM2
 have hM3 := hM.below hB3 hnb2
 have hT3 := hT.then_ hT.size hB3
 have hs0 := hs.then_ hB3
 have hgl := ex.lt
 have hg1b := hs3.lt g1 rfl
 have hrow : ∀ i (h : i < (zqu x (zqe N)).length), RowAt W3 g (0 + i) (encU (zqu x (zqe N))[i]) := fun i h => by
  have := hs0.row zzu i h
  rw [Nat.mul_one] at this
  rw [Nat.zero_add]
  exact this
 refine wpIn_rangeFunc_ownF (n := 6) rfl (by decide) (gf := 50) (lb := #[.pointer (some ⟨bs + 1, 0, none⟩)]) rfl trivial (enters_of Tryz.func50 (by kernel_rfl) rfl)
  (each_stops x (zqe N) c g 0 5 (bs + 1) W3 hkb hx64 ex (by omega) hrow hT3) KpS.trans (fun W l o o' hl _ _ _ => ⟨World.putObj_heap_other (by omega), World.putObj_heap_other (by omega)⟩) (Below.refl _ _) (fun _ => rfl)
  (fun pre W => byI nb gm gw N E R cb (w.heap.size + 1 + 1) g1 c1 (hopL E cb (numsI pre) 0) bs (walkC gm (.slice (some ⟨g, 0, none⟩) (zqe N) c) r b) w W3 W) (fun _ _ _ => False) (fun pre X Y row hi hg hr => ?turn) (fun _ => fun _ _ _ _ hs _ _ => hs)
  ⟨e2, e3, e4, ew, hs3, hM3, hT3, hB3, Nat.le_refl _⟩
  (fun r => { tmps := #[.pointer (some ⟨gw, 0, none⟩), .int .u8 (cb : Int), .pointer (some ⟨w.heap.size, 0, none⟩), .pointer (some ⟨w.heap.size + 1, 0, none⟩), .pointer (some ⟨bs, 0, none⟩), .int .i64 (r.1 : Int), undef, undef, .pointer (some ⟨gw, 0, none⟩), .pointer (some ⟨gw, 0, none⟩), .pointer (some ⟨gw, 0, none⟩), .pointer (some ⟨gm, 0, none⟩), .slice (some ⟨g1, 0, none⟩) (zqe N) c1, .pointer (some ⟨gw, 0, none⟩), .pointer (some ⟨gw, 0, none⟩), .pointer (some ⟨gw, 1, none⟩), .slice (some ⟨g, 0, none⟩) (zqe N) c, .func (.func 50) #[] #[.pointer (some ⟨bs + 1, 0, none⟩)], .int .i64 (r.1 : Int), undef, undef, undef, undef, undef, undef, undef, undef, undef, undef, undef, undef, undef, undef, undef, undef, undef, undef, undef, undef, undef, undef, undef, undef, undef, undef, undef, undef, undef, undef, undef, undef, undef, undef], defers := [] }) ?assign ?body ?done ?stop
 case turn =>
  obtain ⟨h1, h2, h3, h4, h5, h6, h7, h8, h9⟩ := hi
  exact ⟨blk_turn' h1 hg hr, blk_turn' h2 hg hr, blk_turn' h3 hg hr, blk_turn' h4 hg hr, s_own_turn h5 hg hr, mach_turn h6 hg hr (by omega), fun i hi => (World.cell?_of_block (w := X) (hg.block 0 (by omega) (fun e => by have := (hr 0 e.symm).1; omega))).trans (h7 i hi), h8.grown hg h8.size (fun k e => by have := (hr k e).1; omega), Nat.le_trans h9 hg.size⟩
 case assign =>
  intro l r W K hK
  unfold encI
  gi_wp2
  exact hK
 case body =>
  rintro l pre ⟨n, hn⟩ W I0 hlen
  have hnN := hx n hn
  obtain ⟨h2, h3, h4, h5, hS, hMW, hTW, hBW, hlt⟩ := id I0
  obtain ⟨hgE, _, _, _, _, _, hgm, bm, nm, B, mR, dR, mf, hbm, hbl, _, _, hvm, hed⟩ := id hMW
  obtain ⟨A, le, cA, hmf, rfl, hAs⟩ := hed n hnN
  have hEl : (zqq E n).length ≤ 1099511627776 := Nat.le_trans (List.length_filter_le _ _) hMW.2.2.1
  have a2 : W.cell? ⟨w.heap.size, 0, none⟩ = some (.pointer (some ⟨gw, 0, none⟩)) := h2.cellv rfl
  have aw : W.cell? ⟨gw, 0, none⟩ = some (.pointer (some ⟨gm, 0, none⟩)) := h5.cellv (i := 0) rfl
  have am : W.cell? ⟨gm, 1, none⟩ = some (.map (some bm)) := hbl.cellv rfl
  obtain ⟨y0, hy0⟩ : ∃ y, y = hopL E cb (numsI pre) 0 := ⟨_, rfl⟩
  have hy1 : hopL E cb (numsI (pre ++ [⟨n, hn⟩])) 0 = hopE (zqq E n) cb y0 := by rw [numsI_snoc, hopL_snoc, hy0]
  rw [← hy0] at I0
  have Hy1 := Lib.hid hy1
  clear hy0 hy1
  gi_upto_region 4 with (fail)
  refine region_in (by kernel_rfl) ?_
  go_wp2_with (at_lookup; refine wl_vmap_to hvm _ _ hmf rfl _ _ rfl rfl (wf_of_nat (by omega)) rfl ?_)
  refine zyh ?_
  have hBW0 := hBW
  clear h2 h3 h4 h5 hS hMW hTW hBW hlt hbl hvm hed hmf a2 aw am
  gi_wp2
  gi_loopw [29] (fun i wi => ∃ j, j ≤ (zqq E n).length ∧ i = .int .i64 j ∧ byI nb gm gw N E R cb (w.heap.size + 1 + 1) g1 c1 (hopE ((zqq E n).take j) cb y0) bs (walkC gm (.slice (some ⟨g, 0, none⟩) (zqe N) c) r b) w W3 wi ∧ KeepsOthers W wi ∧ W.heap.size ≤ wi.heap.size) (fun i _ => (zqq E n).length - (intOf i).toNat)
  case atStart => exact ⟨0, by omega, rfl, I0, KeepsOthers.refl _, Nat.le_refl _⟩
  case round =>
   obtain ⟨j, hj, rfl, I1, hko, hsz⟩ := hrel
   by_cases hjl : j < (zqq E n).length
   ·have hjI : (j : Int) < ((zqq E n).length : Nat) := by omega
    obtain ⟨h2, h3, h4, h5, hS, hMW, hTW, hBW, hlt⟩ := id I1
    obtain ⟨bE, off, rfl, hbE, hrows⟩ := hAs.at_ (by omega)
    have hr0 := (hrows j hjl).keep ((hBW.block bE (by omega)).trans (hBW0.block bE (by omega)).symm)
    obtain ⟨dd, hd⟩ : ∃ d, d = (zqq E n)[j] := ⟨_, rfl⟩
    rw [← hd] at hr0
    have hstep := hopE_take (zqq E n) cb y0 j hjl
    rw [← hd] at hstep
    have hmem := List.getElem_mem hjl
    rw [mem_edgesAt, ← hd] at hmem
    obtain ⟨hdE, hdn⟩ := hmem
    clear hd
    have hjb : j < 1099511628000 := by omega
    obtain ⟨y1, hy1⟩ : ∃ y, y = hopE ((zqq E n).take j) cb y0 := ⟨_, rfl⟩
    rw [← hy1] at hS hstep
    have Hst := Lib.hid hstep
    clear hy1 hstep
    clear I1
    gi_upto_region 6 with (fail)
    refine region_in (by kernel_rfl) ?_
    go_wp2_with (first | (refine zzs rfl _ rfl _ _ rfl _ hr0 ?_) | (refine zxm rfl _ _ rfl _ _ rfl rfl edge0 (Blk.new _ _ _) ?_; intro w6 h7 hg6))
    refine zyh ?_
    have hB6 := zqh (zqc (Below.refl _ wr) (.cells #[.int .i64 0, .int .i64 0, .int .i64 0, .int .u64 0, .int .u64 0, .int .u64 0, .int .u64 0] 69)) hg6 (Nat.le_refl _)
    clear hr0 hg6
    have htt := hgE.tt dd hdE
    obtain ⟨t, ht⟩ : ∃ t : Nat, dd.tt = (t : Int) := ⟨dd.tt.toNat, by omega⟩
    have htn : dd.tt.toNat = t := by omega
    have htN : t < 64 * zqe N := by have := zzh N; omega
    replace h2 := zqb h2 hB6
    replace h3 := zqb h3 hB6
    replace h4 := zqb h4 hB6
    replace h5 := zqb h5 hB6
    replace hS := hS.then_ hB6
    replace hMW := hMW.below hB6 hMW.2.2.2.2.2.1
    replace hTW := hTW.then_ hTW.size hB6
    replace hBW := zqd hBW hB6
    replace hko := hko.trans (KeepsOthers.of_grownBy (zzq hB6 none) (fun j o e _ => by cases e))
    have hs6 := hB6.size
    by_cases hk : dd.kd = 2
    ·have c0 : w6.cell? ⟨wr.heap.size, 0, none⟩ = some (.int .i64 2) := by rw [← hk]; exact h7.cellv (i := 0) rfl
     have a3 : w6.cell? ⟨w.heap.size + 1, 0, none⟩ = some (.int .u8 (cb : Int)) := h3.cellv rfl
     gi_upto_region 7 with (fail)
     refine region_in (by kernel_rfl) ?_
     have hhas := fun w => has_any dd.st cb hcb w
     cases hst : dd.st.getLsbD cb
     ·rw [hst] at hhas
      go_wp2_with (first | (refine wl_load_set_g (zzb rfl rfl rfl) _ rfl _ _ rfl _ h7.st ?_) | (go_at_call 34; refine (hhas _).mono ?_; rintro e w8 ⟨rfl, hB8⟩))
      refine zyh ?_
      clear hhas c0 a3 h7
      replace h2 := zqb h2 hB8
      replace h3 := zqb h3 hB8
      replace h4 := zqb h4 hB8
      replace h5 := zqb h5 hB8
      replace hS := hS.then_ hB8
      replace hMW := hMW.below hB8 hMW.2.2.2.2.2.1
      replace hTW := hTW.then_ hTW.size hB8
      replace hBW := zqd hBW hB8
      replace hko := hko.trans (KeepsOthers.of_grownBy (zzq hB8 none) (fun j o e _ => by cases e))
      have hs8 := hB8.size
      gi_wp2
      exact ⟨⟨j + 1, by omega, rfl, by rw [Hst.out, hop1_no (by unfold takes; rw [hst]; simp)]; exact ⟨h2, h3, h4, h5, hS, hMW, hTW, hBW, by omega⟩, hko, by omega⟩, by simp only [intOf]; omega⟩
     ·rw [hst] at hhas
      go_wp2_with (first | (refine wl_load_set_g (zzb rfl rfl rfl) _ rfl _ _ rfl _ h7.st ?_) | (go_at_call 34; refine (hhas _).mono ?_; rintro e w8 ⟨rfl, hB8⟩))
      refine zyh ?_
      have c2 : w8.cell? ⟨wr.heap.size, 2, none⟩ = some (.int .i64 (t : Int)) := by rw [← ht]; exact (zqb h7 hB8).cellv (i := 2) rfl
      clear hhas c0 a3 h7
      replace h2 := zqb h2 hB8
      replace h3 := zqb h3 hB8
      replace h4 := zqb h4 hB8
      replace h5 := zqb h5 hB8
      replace hS := hS.then_ hB8
      replace hMW := hMW.below hB8 hMW.2.2.2.2.2.1
      replace hTW := hTW.then_ hTW.size hB8
      replace hBW := zqd hBW hB8
      replace hko := hko.trans (KeepsOthers.of_grownBy (zzq hB8 none) (fun j o e _ => by cases e))
      have hs8 := hB8.size
      have a4 : w8.cell? ⟨bs, 0, none⟩ = some (.slice (some ⟨g1, 0, none⟩) (zqe N) c1) := h4.cellv rfl
      gi_upto_region 8 with (fail)
      refine region_in (by kernel_rfl) ?_
      go_wp2_with (go_at_call 35; refine (sadd_any g1 (zqe N) c1 y1 t (w.heap.size + 1 + 1) htN hkb _ hS).mono ?_; rintro e w9 ⟨rfl, hS9, hg9⟩)
      refine zyh ?_
      have hlt8 := hS.lt g1 rfl
      clear a4 c2
      replace h2 := zqk h2 hg9 (by omega)
      replace h3 := zqk h3 hg9 (by omega)
      replace h4 := h4.grown hg9 (fun e => by
       injection e with e
       subst e
       exact absurd rfl ((zzm hS h4 (by decide)) ))
      replace h5 := zqk h5 hg9 (by omega)
      replace hMW := hMW.grown hg9 (by omega)
      replace hTW := tab_grown hTW hg9 (by omega)
      replace hBW := zqh hBW hg9 (by omega)
      replace hko := hko.trans (others_own hS hg9)
      have hs9 := hg9.size
      gi_wp2
      exact ⟨⟨j + 1, by omega, rfl, by rw [Hst.out, hop1_yes (by unfold takes; rw [hst, hk]; rfl), htn]; exact ⟨h2, h3, h4, h5, hS9, hMW, hTW, hBW, by omega⟩, hko, by omega⟩, by simp only [intOf]; omega⟩
    ·have c0 : w6.cell? ⟨wr.heap.size, 0, none⟩ = some (.int .i64 dd.kd) := h7.cellv (i := 0) rfl
     have hk2 : (dd.kd == 2) = false := by simpa using hk
     gi_upto_region 7 with (fail)
     refine region_in (by kernel_rfl) ?_
     go_wp2_with (fail)
     refine zyh ?_
     clear c0
     gi_wp2
     exact ⟨⟨j + 1, by omega, rfl, by rw [Hst.out, hop1_no (by unfold takes; rw [hk2]; rfl)]; exact ⟨h2, h3, h4, h5, hS, hMW, hTW, hBW, by omega⟩, hko, by omega⟩, by simp only [intOf]; omega⟩
   ·have hjI : ¬ (j : Int) < ((zqq E n).length : Nat) := by omega
    gi_wp2
    obtain ⟨h2, h3, h4, h5, hS, hMW, hTW, hBW, hlt⟩ := id I1
    have hsame : ∀ k, k < w.heap.size → wr.heap[k]? = W.heap[k]? := fun k hk => (hBW.block k hk).trans (hBW0.block k hk).symm
    refine ⟨hko, ⟨hsame g hgb.2, hsame 0 (by omega)⟩, ?_⟩
    show byI nb gm gw N E R cb (w.heap.size + 1 + 1) g1 c1 (hopL E cb (numsI (pre ++ [⟨n, hn⟩])) 0) bs _ w W3 wr
    rw [Hy1.out]
    rw [List.take_of_length_le (by omega)] at I1
    exact I1
 case done =>
  rintro D xs W hD hxs ⟨h2, h3, h4, h5, hS, hMW, hTW, hBW, hlt⟩ hK
  rw [hxs, bits_all hx (zzh N)] at hS
  have hEb : ∀ d ∈ E, (0 ≤ d.fr ∧ d.fr < N) ∧ 0 ≤ d.tt ∧ d.tt < N := fun d hd => ⟨hM.1.fr d hd, hM.1.tt d hd⟩
  have hby := hopL_byte (c := cb) (x := x) hone hEb
  have hbb : below (hopL E cb (zzj x N) 0) N := fun i hi => by
   have h1 : (hopL E cb (zzj x N) 0 ||| 2 ^ 0).testBit i = true := by rw [zzc, hi]; rfl
   rw [show (2 ^ 0 : Nat) = 1 from rfl, hby] at h1
   exact byte_below _ _ _ _ i h1
  obtain ⟨y, hy⟩ : ∃ y, y = hopL E cb (zzj x N) 0 := ⟨_, rfl⟩
  rw [← hy] at hS hby hbb
  clear hy hxs xs hrow hs0 hM3 hT3 e2 e3 e4 ew ex hs3
  have a2 : W.cell? ⟨w.heap.size, 0, none⟩ = some (.pointer (some ⟨gw, 0, none⟩)) := h2.cellv rfl
  gi_upto_region 10 with (fail)
  refine wpIn_wide.2 ?_
  go_wp2_with (refine zqt rfl _ _ _ rfl _ _ rfl _ _ (walkC gm (.slice (some ⟨g, 0, none⟩) (zqe N) c) r false) h5 (by simp [walkC]) info_bool1 rfl rfl rfl ?_; intro w4 h54 hg4)
  clear a2
  have k2 := zqk h2 hg4 (by omega)
  have k4 := zqk h4 hg4 (by omega)
  have kS := zxb hS h5 hg4 (by decide)
  have kM := hMW.grown hg4 hnw
  have kT := tab_grown hTW hg4 (by omega)
  have kK := deferred_blk hK h5 hg4
  have a2 : w4.cell? ⟨w.heap.size, 0, none⟩ = some (.pointer (some ⟨gw, 0, none⟩)) := k2.cellv rfl
  have a4 : w4.cell? ⟨bs, 0, none⟩ = some (.slice (some ⟨g1, 0, none⟩) (zqe N) c1) := k4.cellv rfl
  gi_upto_region 11 with (fail)
  refine wpIn_wide.2 ?_
  go_wp2_with (go_at_call 28; refine (at_any nb gm N E R (w.heap.size + 1 + 1) gw g1 c1 y r false _ hbb hr w4 kM h54 hnw kS (by omega) (by omega) kT).mono ?_; rintro e w6 ⟨rfl, h56, hS6, hG6⟩)
  gi_wp2
  have kK6 : w6.heap[D]? = some (Obj.deferred (some [])) := (hG6.block D (Array.getElem?_eq_some_iff.1 kK).1 (by omega) (by omega)).trans kK
  refine ⟨by simp, .inl ⟨_, _, rfl, run_takeDeferred kK6, ?_⟩⟩
  have hg' := grownBy_putObj' w6 D (.deferred none)
  have hGf : w.grownBy (w6.putObj D (.deferred none)) (some gw) := by
   refine ⟨hg'.os.trans (hG6.os.trans (hg4.os.trans hBW.os)), hg'.tape.trans (hG6.tape.trans (hg4.tape.trans hBW.tape)), hg'.output.trans (hG6.output.trans (hg4.output.trans hBW.output)), Nat.le_trans hBW.size (Nat.le_trans hg4.size (Nat.le_trans hG6.size hg'.size)), fun i hi hne => ?_⟩
   have hne' : i ≠ gw := fun e => hne (by rw [e])
   have z1 := hBW.size
   have z4 := hg4.size
   have z6 := hG6.size
   exact (hg'.block i (by omega) (by simp; omega)).trans ((hG6.block i (by omega) hne' (by omega)).trans ((hg4.block i (by omega) hne).trans (hBW.block i hi)))
  refine ⟨_, results_none rfl _ _ _, rfl, ?_, hGf⟩
  have hx1 : y ||| 1 = byteN E N x cb := hby
  rw [hx1] at h56 hS6
  refine ⟨hMI.grown hGf (.inr hnw), hnw, or_lt32 hr (met_lt hM.2.2.2.1 _ _), spread_below _ _ _ _ _, g1, c1, by omega, zqk h56 hg' (by omega), (hS6.mono (by omega)).kept_ hg' (fun j e1 e2 => ?_)⟩
  have e3 : g1 = j := by simpa [Value.ownBlock] using e1
  injection e2 with e2
  omega
 case stop =>
  rintro D c pre W _ _ h _
  exact h.elim
end Go.Proofs.YtkedgombccdamaaGreatDoor
