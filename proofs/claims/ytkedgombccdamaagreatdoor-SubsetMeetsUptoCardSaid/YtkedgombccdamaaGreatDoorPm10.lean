/- Part 10 of a proof; packed: the texts that it was made of follow one another. No condition beyond those named in each lemma. -/
import Derived.Test.YtkedgombccdamaaGreatDoorPm1
import Derived.Test.YtkedgombccdamaaGreatDoorPm5
import Derived.Test.YtkedgombccdamaaGreatDoorPm7
import Derived.Test.YtkedgombccdamaaGreatDoorPm8
import Derived.Test.YtkedgombccdamaaGreatDoorPm9
import Derived.Maps.OwnSet
namespace Go.Proofs.YtkedgombccdamaaGreatDoor
open Go.RowKit Go.Shelf Go.Maps
set_option linter.unusedVariables false
set_option linter.unusedSimpArgs false
attribute [local go_sem] Oper.semAt_some
def ValMap (w : World) (b n : Nat) (m : Int → Option Value) : Prop :=
 ∃ D : DataW Value, w.ownsMap Tryz.prog 3 (fun v => some (.held v, [])) b n D ∧ ∀ x, (Lit.int .i64 x).wf = true → ∀ z, D.atKey (.int .i64 x) (.held z) = .held ((m x).getD z)
theorem keyed_int : Keyed Tryz.prog 3 := int_keyed Tryz.underlying3
theorem ValMap.new (w : World) {g : Nat} (hg : g = w.heap.size) : ValMap (w.alloc (.map #[] 0)) g 0 (fun _ => none) := by
 subst hg
 exact ⟨_, World.ownsMap_made w _ _ _, fun x _ z => rfl⟩
theorem ValMap.lt {w : World} {b n : Nat} {m : Int → Option Value} (h : ValMap w b n m) : b < w.heap.size := by
 obtain ⟨D, h1, _⟩ := h; exact h1.lt
theorem ValMap.keep {w w' : World} {b n : Nat} {m : Int → Option Value} (h : ValMap w b n m) (hk : w'.heap[b]? = w.heap[b]?) : ValMap w' b n m := by
 obtain ⟨D, ⟨es, clock, hb, r⟩, h2⟩ := h
 exact ⟨D, ⟨es, clock, hk.trans hb, r⟩, h2⟩
theorem zero_edges (w : World) : (zeroValue 23).run Tryz.prog w = .ok (.slice none 0 0) w := by kernel_rfl
theorem wf_of_nat {n : Nat} (h : n < 9223372036854775808) : (Lit.int .i64 (n : Int)).wf = true := by
 have h2 : IntKind.i64.min = -9223372036854775808 := by decide
 have h3 : IntKind.i64.max = 9223372036854775807 := by decide
 simp only [Lit.wf, Bool.and_eq_true, decide_eq_true_eq]
 exact ⟨by omega, by omega⟩
section
variable {ops : Array Oper} {rest : List Oper} {o : Oper} {a : Act} {Q : Exit → Act → World → Prop} {w : World} {b n : Nat} {mf : Int → Option Value}
set_option maxRecDepth 100000 in
theorem run_vmap (h : ValMap w b n mf) (y : Int) (hy : (Lit.int .i64 y).wf = true) : (Instr.lookup 89 (.map (some b)) (.int .i64 y) false).run Tryz.prog w = .ok ((mf y).getD (.slice none 0 0)) w := by
 obtain ⟨D, h1, h2⟩ := h
 obtain ⟨v, ps, hrun, hv⟩ := h1.lookup keyed_int Tryz.underlying89 (zero_edges w) (zd := .held (.slice none 0 0)) (zp := []) rfl (keyOf_int_mk Tryz.underlying3 hy)
 rw [h2 y hy] at hv
 injection hv with hv
 injection hv with hv _
 injection hv with hv
 rw [hrun, hv]
theorem wl_vmap_at (h : ValMap w b n mf) (hg : o.guard = none) (m x : Operand) (hop : o.op = Op.lookup 89 m x false) (hm : a.eval m = .map (some b)) (y : Int) (hy : (Lit.int .i64 y).wf = true) (hx : a.eval x = .int .i64 y)
  (hK : wpList Tryz.prog ops Q rest (a.put o.dst ((mf y).getD (.slice none 0 0))) w) : wpList Tryz.prog ops Q (o :: rest) a w := by
 refine wpList_plain hg fun K' hK' => ?_
 unfold Oper.wp
 simp [execOp, hop, hm, hx, run_vmap h y hy, Result.andThen]
 exact hK' _ _ hK
theorem wl_vmap_put (h : ValMap w b n mf) (hn : n < maxLen) (hg : o.guard = none) (m x v : Operand) (hop : o.op = Op.mapUpdate 89 m x v) (hm : a.eval m = .map (some b)) (y : Int) (hy : (Lit.int .i64 y).wf = true) (hx : a.eval x = .int .i64 y)
  (c : Value) (hv : a.eval v = c)
  (hK : ∀ w', ValMap w' b (n + 1) (fun z => if z = y then some c else mf z) → w.grownBy w' (some b) → wpList Tryz.prog ops Q rest (a.put o.dst undef) w') : wpList Tryz.prog ops Q (o :: rest) a w := by
 obtain ⟨D, h1, h2⟩ := h
 have hk := keyOf_int_mk Tryz.underlying3 hy
 refine wpList_mapUpdate_own w hg m x v _ hop _ _ keyed_int Tryz.underlying89 _ b n D hm h1 hn (.int .i64 y) c (.int .i64 y) hx hv hk (.held c) [] rfl fun w' h5 h6 => hK w' ⟨_, h5, fun z hz q => ?_⟩ h6
 by_cases e1 : z = y
 ·subst e1
  rw [Maps.atKey_put_same h1.isMap (keyed_int.key hk)]
  simp
 ·rw [Maps.atKey_put_other (by intro e; injection e with _ e; exact e1 e), h2 z hz]
  simp [e1]
end
def zqq (E : List Edg) (n : Nat) : List Edg := E.filter fun d => d.fr == (n : Int)
theorem mem_edgesAt {E : List Edg} {n : Nat} {d : Edg} : d ∈ zqq E n ↔ d ∈ E ∧ d.fr = n := by simp [zqq]
def MachOk (nb : Nat) (W : World) (gm N : Nat) (E : List Edg) (R : List Nat) : Prop :=
 Fits N E R ∧ N ≤ 1099511627776 ∧ E.length ≤ 1099511627776 ∧ (∀ r ∈ R, r < 4294967296) ∧ 0 < nb ∧ nb ≤ W.heap.size ∧ gm < nb ∧ ∃ bm nm B m d mf, bm < nb ∧ Blk W gm 91 #[.int .i64 (N : Int), .map (some bm), .slice B m d] ∧ m = R.length ∧ SliceOf W nb 1 encR B R ∧ ValMap W bm nm mf ∧
  ∀ n, n < N → ∃ A l c, (mf (n : Int)).getD (.slice none 0 0) = .slice A l c ∧ l = (zqq E n).length ∧ SliceOf W nb 7 edgC A (zqq E n)
theorem MachOk.keep {nb : Nat} {W W' : World} {gm N : Nat} {E : List Edg} {R : List Nat} (h : MachOk nb W gm N E R) (hk : ∀ k, k < nb → W'.heap[k]? = W.heap[k]?) (hs : W.heap.size ≤ W'.heap.size) : MachOk nb W' gm N E R := by
 obtain ⟨h1, h2, h3, h4, h5, h6, h7, bm, nm, B, m, d, mf, g1, g2, g3, g4, g5, g6⟩ := h
 refine ⟨h1, h2, h3, h4, h5, Nat.le_trans h6 hs, h7, bm, nm, B, m, d, mf, g1, (hk gm h7).trans g2, g3, g4.keep hk, g5.keep (hk bm g1), fun n hn => ?_⟩
 obtain ⟨A, l, c, e1, e2, e3⟩ := g6 n hn
 exact ⟨A, l, c, e1, e2, e3.keep hk⟩
theorem MachOk.below {nb n : Nat} {W W' : World} {gm N : Nat} {E : List Edg} {R : List Nat} (h : MachOk nb W gm N E R) (hb : Below n W W') (hn : nb ≤ n) : MachOk nb W' gm N E R := h.keep (fun k hk => hb.block k (by omega)) hb.size
theorem MachOk.grown {nb r : Nat} {W W' : World} {gm N : Nat} {E : List Edg} {R : List Nat} (h : MachOk nb W gm N E R) (hg : W.grownBy W' (some r)) (hr : nb ≤ r) : MachOk nb W' gm N E R := h.keep (fun k hk => hg.block k (by have := h.2.2.2.2.2.1; omega) (by intro e; injection e; omega)) hg.size
def zqe (N : Nat) : Nat := (N + 63) / 64
theorem info_u64z : (Tryz.prog.info? 51).map (fun i => (i.zero, i.size, i.bytes)) = some (some (.int .u64 0), 1, 8) := by kernel_rfl
set_option maxHeartbeats 400000 in
theorem none_any (nb gm N : Nat) (E : List Edg) (R : List Nat) (w : World) (h : MachOk nb w gm N E R) :
  Calls Tryz.prog 29 #[.pointer (some ⟨gm, 0, none⟩)] w fun e w' => ∃ g c, e = .returned (.slice (some ⟨g, 0, none⟩) (zqe N) c) ∧ w.heap.size ≤ g ∧ Own w' w.heap.size 51 1 encU (.slice (some ⟨g, 0, none⟩) (zqe N) c) (zqu 0 (zqe N)) ∧ Below w.heap.size w w' := by
 obtain ⟨hf, hN, _, _, _, _, _, bm, nm, B, m, d, mf, _, hb, _⟩ := h
 have c0 : w.cell? ⟨gm, 0, none⟩ = some (.int .i64 (N : Int)) := hb.cellv rfl
 obtain ⟨i0, hi0, hz0, hz1, hz2⟩ := info_parts info_u64z
 have hkI : ((N : Int) + 63) / 64 = ((zqe N : Nat) : Int) := by unfold zqe; omega
 have hk2 : zqe N ≤ 549755813889 := by unfold zqe; omega
 clear hf hb
 go_enter Tryz.func29, Tryz.ntmps29
 go_wp2_with (at_make; refine wpList_make_full _ rfl _ _ 92 rfl w.heap.size 51 i0 _ 1 Tryz.underlying92 hi0 hz0 hz1 _ _ _ _ (zqe N) rfl rfl hkI hkI (by rw [hz2]; omega) (by unfold maxLen; omega) (Nat.le_refl _) ?_; intro w1 hown hg)
 go_ret
 refine ⟨w.heap.size, zqe N, rfl, Nat.le_refl _, ?_, ⟨hg.os, hg.tape, hg.output, hg.size, fun k hk => hg.block k hk (by simp)⟩⟩
 have e1 : (madeCells (Value.int .u64 0).cells (zqe N * 1)).toList = flat encU (zqu 0 (zqe N)) := by
  rw [wordsN_zero]
  apply List.ext_getElem
  ·rw [Array.length_toList, size_madeCells]
   simp [flat, encU]
  ·intro j h1 h2
   simp [madeCells, Value.cells, flat, encU, List.flatMap_replicate]
   rw [Nat.mod_one]
   rfl
 rw [e1] at hown
 unfold Own
 rw [zqz]
 exact hown
theorem bits_all {x N M : Nat} (hx : below x N) (h : N ≤ M) : zzj x M = zzj x N := by
 have e : M = N + (M - N) := by omega
 rw [e]
 refine bitsTo_skip x N (M - N) fun i h1 h2 => ?_
 cases hb : x.testBit i with
 | false => rfl
 | true => have := hx i hb; omega
theorem zzh (N : Nat) : N ≤ 64 * zqe N := by unfold zqe; omega
theorem blk_other' {W W' : World} {g r : Nat} {t : TypeId} {cs : Array Value} (h : Blk W g t cs) (hg : W.grownBy W' (some r)) (hr : g ≠ r) : Blk W' g t cs :=
 h.grown hg (fun e => by injection e with e; exact hr e)
theorem cells_of_blk' {W : World} {g : Nat} {t : TypeId} {cs : Array Value} {o : Obj} (h : Blk W g t cs) (e : W.heap[g]? = some o) : o.isCells = true := by
 unfold Blk at h
 rw [h] at e
 injection e with e
 subst e
 rfl
theorem blk_turn' {W W' : World} {g B : Nat} {t : TypeId} {cs : Array Value} {row : Option Nat} (h : Blk W g t cs) (hg : W.grownBy W' row) (hr : ∀ r, row = some r → B ≤ r ∧ ∃ o : Obj, W.heap[r]? = some o ∧ o.isCells = false) : Blk W' g t cs :=
 h.grown hg (fun e => by
  obtain ⟨_, o, h1, h2⟩ := hr g e.symm
  have := cells_of_blk' h h1
  rw [h2] at this
  cases this)
theorem mach_turn {nb B gm N : Nat} {E : List Edg} {R : List Nat} {W W' : World} {row : Option Nat} (h : MachOk nb W gm N E R) (hg : W.grownBy W' row) (hr : ∀ r, row = some r → B ≤ r ∧ ∃ o : Obj, W.heap[r]? = some o ∧ o.isCells = false) (hB : nb ≤ B) : MachOk nb W' gm N E R :=
 h.keep (fun k hk => hg.block k (by have := h.2.2.2.2.2.1; omega) (fun e => by have := (hr k e.symm).1; omega)) hg.size
def metI (nb gm N : Nat) (E : List Edg) (R : List Nat) (w : World) {x : Nat} (pre : List (InS x)) (W : World) : Prop :=
 Blk W w.heap.size 88 #[.pointer (some ⟨gm, 0, none⟩)] ∧ Blk W (w.heap.size + 1) 42 #[.int .u32 (orL R (numsI pre) : Nat)] ∧ MachOk nb W gm N E R ∧ Below w.heap.size w W ∧ w.heap.size + 1 + 1 < W.heap.size
set_option maxRecDepth 100000 in
set_option maxHeartbeats 2000000 in
theorem met_any (nb gm N : Nat) (E : List Edg) (R : List Nat) (b off c x : Nat) (hx : below x N) (w : World) (hM : MachOk nb w gm N E R) (hs : ∀ i (h : i < (zqu x (zqe N)).length), RowAt w b (off + i) (encU (zqu x (zqe N))[i])) (hb : b < w.heap.size) (hT : TabOk w) :
  Calls Tryz.prog 32 #[.pointer (some ⟨gm, 0, none⟩), .slice (some ⟨b, off, none⟩) (zqe N) c] w fun e w' => e = .returned (.int .u32 (metN R x N : Nat)) ∧ Below w.heap.size w w' := by
 refine (callsIn_wide (n := 6)).1 ?_
 refine callsIn_of_wp_marks Tryz.func32 rfl trivial ?_ rfl
 simp only [Tryz.ntmps32, List.size_toArray, List.length_cons, List.length_nil, Nat.reduceAdd, Nat.reduceSub, Array.replicate_succ, Array.replicate_zero, List.push_toArray, List.append_toArray, List.nil_append, List.cons_append]
 gi_wp2_with (refine ⟨trivial, ?_⟩; gi_at_call 33; refine (callsIn_wide.2 (each_any _ _ _ _)).mono ?_; rintro e w5 ⟨rfl, rfl⟩)
 have e2 := ((Blk.new w 88 #[.pointer (some ⟨gm, 0, none⟩)]).alloc (.cells #[.int .u32 0] 42)).alloc (.cells #[.slice (some ⟨b, off, none⟩) (zqe N) c] 92)
 have e5 := (Blk.new' (n := w.heap.size + 1) (w.alloc (.cells #[.pointer (some ⟨gm, 0, none⟩)] 88)) 42 #[.int .u32 0] (by simp)).alloc (.cells #[.slice (some ⟨b, off, none⟩) (zqe N) c] 92)
 have ex := Blk.new' (n := w.heap.size + 1 + 1) ((w.alloc (.cells #[.pointer (some ⟨gm, 0, none⟩)] 88)).alloc (.cells #[.int .u32 0] 42)) 92 #[.slice (some ⟨b, off, none⟩) (zqe N) c] (by simp)
 have hB := zqc (zqc (zqc (Below.refl w.heap.size w) (.cells #[.pointer (some ⟨gm, 0, none⟩)] 88)) (.cells #[.int .u32 0] 42)) (.cells #[.slice (some ⟨b, off, none⟩) (zqe N) c] 92)
 obtain ⟨W1, hW1⟩ : ∃ y, y = ((w.alloc (.cells #[.pointer (some ⟨gm, 0, none⟩)] 88)).alloc (.cells #[.int .u32 0] 42)).alloc (.cells #[.slice (some ⟨b, off, none⟩) (zqe N) c] 92) := ⟨_, rfl⟩
 rw [← hW1] at e2 e5 ex hB ⊢
 clear hW1
 have hnb := hM.2.2.2.2.2.1
 have hM1 := hM.below hB hnb
 have hlW := ex.lt
 have hkb : zqe N ≤ 1099511627776 := by have := hM.2.1; unfold zqe; omega
 have hx64 : below x (64 * zqe N) := fun i hi => Nat.lt_of_lt_of_le (hx i hi) (zzh N)
 refine wpIn_rangeFunc_ownF (n := 6) rfl (by decide) (gf := 50) (lb := #[.pointer (some ⟨w.heap.size + 1 + 1, 0, none⟩)]) rfl trivial (enters_of Tryz.func50 (by kernel_rfl) rfl)
  (each_stops x (zqe N) c b off 5 (w.heap.size + 1 + 1) W1 hkb hx64 ex (Nat.lt_of_lt_of_le hb hB.size) (fun i h => (hs i h).keep (hB.block b hb)) (hT.then_ hT.size hB)) KpS.trans (fun W l o o' hl _ _ _ => ⟨World.putObj_heap_other (by omega), World.putObj_heap_other (by omega)⟩) (Below.refl _ _) (fun _ => rfl)
  (metI nb gm N E R w) (fun _ _ _ => False) (fun pre X Y row hs hg hr => by
   obtain ⟨h1, h2, h3, h4, h5⟩ := hs
   exact ⟨blk_turn' h1 hg hr, blk_turn' h2 hg hr, mach_turn h3 hg hr (by omega), h4.grown hg h4.size (fun k e => by have := (hr k e).1; omega), Nat.lt_of_lt_of_le h5 hg.size⟩) (fun _ => fun _ _ _ _ hs _ _ => hs)
  ⟨e2, e5, hM1, hB, hlW⟩
  (fun r => { tmps := #[.pointer (some ⟨gm, 0, none⟩), .slice (some ⟨b, off, none⟩) (zqe N) c, .pointer (some ⟨w.heap.size, 0, none⟩), undef, .int .u32 0, .pointer (some ⟨w.heap.size + 1, 0, none⟩), .int .i64 (r.1 : Int), .slice (some ⟨b, off, none⟩) (zqe N) c, .func (.func 50) #[] #[.pointer (some ⟨w.heap.size + 1 + 1, 0, none⟩)], .int .i64 (r.1 : Int), undef, undef, undef, undef, undef, undef, undef, undef, undef, undef], defers := [] }) ?assign ?body ?done ?stop
 case assign =>
  intro l r W K hK
  unfold encI
  gi_wp2
  exact hK
 case body =>
  rintro l pre ⟨n, hn⟩ W ⟨h2, h5, hMW, hBW, hlt⟩ hlen
  have hnN := hx n hn
  have hMM := hMW
  obtain ⟨hf, hN, hE, hR32, hnb0, _, hgm, bm, nm, B, m, d, mf, hbm, hbl, rfl, hrs, hvm, hed⟩ := hMM
  have hnm : n < R.length := by rw [hf.rules]; exact hnN
  obtain ⟨bR, offR, rfl, hbR, hrow⟩ := hrs.at_ (by omega)
  have hc : RowAt W bR (offR + n * 1) (encR R[n]) := hrow n hnm
  have hr0 : R.getD n 0 = R[n] := by rw [List.getD_eq_getElem?_getD, List.getElem?_eq_getElem hnm, Option.getD_some]
  obtain ⟨v, hv⟩ : ∃ v, v = orL R (numsI pre) := ⟨_, rfl⟩
  have hvlt := orL_lt hR32 (numsI pre)
  rw [← hv] at h5 hvlt
  have Hv := Lib.hid hv
  clear hv
  have hor := u32_or_nat v R[n] hvlt (hR32 _ (List.getElem_mem hnm))
  gi_upto_region 4 with (fail)
  refine regionIn_steps 9 [eqS (.int .u32 (v : Int)), eqS (.pointer (some ⟨gm, 0, none⟩)), eqS (.pointer (some ⟨gm, 0, none⟩)), eqS (.pointer (some ⟨gm, 2, none⟩)), eqS (.slice (some ⟨bR, offR, none⟩) R.length d), eqS (.int .i64 (n : Int)), eqS (.pointer (some ⟨bR, offR + n * 1, none⟩)), eqS (.int .u32 (R[n] : Nat)), eqS (.int .u32 (v ||| R[n] : Nat))] [10, 11, 12, 13, 14, 15, 16, 17, 18] rfl (by kernel_rfl) (by kernel_rfl) rfl ?_ ?_
  ·refine Steps.cons (fun a' w' hG hB dep => zqj (zqa rfl) _ _ rfl (w.heap.size + 1) 0 (hG.other 5 rfl) _ ((zqb h5 hB).cellv rfl) _ Tryz.underlying42 rfl rfl) ?_
   refine Steps.cons (fun a' w' hG hB dep => zqj (zqa rfl) _ _ rfl w.heap.size 0 (hG.other 2 rfl) _ ((zqb h2 hB).cellv rfl) _ Tryz.underlying88 rfl rfl) ?_
   refine Steps.cons (fun a' w' hG hB dep => gs_nil (zqa rfl) _ rfl _ (dep 1 rfl 11 rfl) rfl) ?_
   refine Steps.cons (fun a' w' hG hB dep => zqn (zqa rfl) _ _ _ rfl gm 0 2 (dep 2 rfl 12 rfl) (field_mach_2 gm) rfl) ?_
   refine Steps.cons (fun a' w' hG hB dep => zqj (zqa rfl) _ _ rfl gm 2 (dep 3 rfl 13 rfl) _ ((zqb hbl hB).cellv (i := 2) rfl) _ Tryz.underlying24 rfl rfl) ?_
   refine Steps.cons (fun a' w' hG hB dep => zqi (zqa rfl) _ rfl (hG.other 6 rfl)) ?_
   refine Steps.cons (fun a' w' hG hB dep => zxu (zqa rfl) _ _ _ rfl zxa 1 size_ruleE bR offR R.length d n (dep 4 rfl 14 rfl) (dep 5 rfl 15 rfl) hnm rfl) ?_
   refine Steps.cons (fun a' w' hG hB dep => zqj (zqa rfl) _ _ rfl bR (offR + n * 1) (dep 6 rfl 16 rfl) _ ((hc.keep (hB.block bR (by omega))) 0 _ rfl) _ Tryz.underlying42 rfl rfl) ?_
   refine Steps.cons (fun a' w' hG hB dep => gs_or_u32 (zqa rfl) _ _ _ _ rfl _ _ (dep 0 rfl 10 rfl) (dep 7 rfl 17 rfl) _ hor rfl) ?_
   exact Steps.nil
  intro u W3 hB3 ans
  have u8 : u 18 = .int .u32 (v ||| R[n] : Nat) := ans 8 18 (by decide) rfl
  clear ans
  simp only [zqr, List.foldl_cons, List.foldl_nil, Act.put, List.setIfInBounds_toArray, List.set_cons_zero, List.set_cons_succ, u8]
  clear u8
  simp only [List.drop]
  refine zqt rfl _ _ _ rfl _ _ rfl _ _ #[.int .u32 (v ||| R[n] : Nat)] (zqb h5 hB3) (by simp) info_u32 rfl rfl rfl ?_
  intro W4 h54 hg4
  refine wpList_nil ?_
  refine zyh ?_
  gi_wp2
  have hl3 := hB3.size
  refine ⟨(KeepsOthers.of_grownBy (zzq hB3 none) (fun j o e _ => by cases e)).trans (KeepsOthers.of_grownBy hg4 (fun j o e1 e2 => by injection e1 with e1; subst e1; exact cells_of_blk' (zqb h5 hB3) e2)),
   ⟨(hg4.block b (by have := hBW.size; omega) (by simp; omega)).trans (hB3.block b (by have := hBW.size; omega)), (hg4.block 0 (by omega) (by simp)).trans (hB3.block 0 (by omega))⟩,
   blk_other' (zqb h2 hB3) hg4 (by omega), ?_, (hMW.below hB3 (by omega)).grown hg4 (by omega), (zqd hBW hB3).grown hg4 (zqd hBW hB3).size (fun k e => by injection e with e; omega), Nat.lt_of_lt_of_le (Nat.lt_of_lt_of_le hlt hB3.size) hg4.size⟩
  rw [numsI_snoc, orL_snoc, ← Hv.out, hr0]
  exact h54
 case done =>
  rintro D xs W hD hxs ⟨h2, h5, hMW, hBW, hlt⟩ hK
  rw [hxs, bits_all hx (zzh N)] at h5
  have c5 : W.cell? ⟨w.heap.size + 1, 0, none⟩ = some (.int .u32 (metN R x N : Nat)) := h5.cellv rfl
  gi_wp2
  refine ⟨by simp, .inl ⟨_, _, rfl, run_takeDeferred hK, ?_⟩⟩
  exact ⟨_, results_tmp rfl _ _ _, rfl, hBW.trans (belowK_b (w := w) (Nat.le_refl _) W D _ _ (by omega) hK rfl rfl)⟩
 case stop =>
  rintro D c pre W _ _ h _
  exact h.elim
section
variable {α β : Type} {enc : α → Array Value} {enc2 : β → Array Value} {size size2 base base2 B g r : Nat} {e e2 t : TypeId} {W W' : World} {v v2 : Value} {ys : List α} {zs : List β} {cs : Array Value} {row : Option Nat}
theorem s_own_turn (h : Own W base e size enc v ys) (hg : W.grownBy W' row) (hr : ∀ r, row = some r → B ≤ r ∧ ∃ o : Obj, W.heap[r]? = some o ∧ o.isCells = false) : Own W' base e size enc v ys :=
 h.kept_ hg (fun j e1 e2 => by
  obtain ⟨_, o, h1, h2⟩ := hr j e2
  rcases h.2 with ⟨hv, _⟩ | ⟨g', cap, cur, hv, _, hh, _⟩
  ·rw [hv] at e1; cases e1
  ·rw [hv] at e1
   have : g' = j := by simpa [Value.ownBlock] using e1
   subst this
   rw [hh] at h1
   injection h1 with h1
   subst h1
   cases h2)
theorem others_own (h : Own W base e size enc v ys) (hg : W.grownBy W' v.ownBlock) : KeepsOthers W W' :=
 KeepsOthers.of_grownBy hg (fun j o e1 e2 => by
  rcases h.2 with ⟨hv, _⟩ | ⟨g', cap, cur, hv, hge, hh, _⟩
  ·rw [hv] at e1; cases e1
  ·rw [hv] at e1
   have a1 : g' = j := by simpa [Value.ownBlock] using e1
   subst a1
   rw [hh] at e2
   injection e2 with e2
   subst e2
   rfl)
theorem own_pop (hs : ∀ y, (enc y).size = size) {A : Option Addr} {n c : Nat} (h : Own W base e size enc (.slice A n c) ys) (hn : 0 < ys.length) : Own W base e size enc (.slice A (n - 1) c) ys.dropLast := by
 rcases h.2 with ⟨hv, h0⟩ | ⟨g', cap, cur, hv, hge, hh, hc, hm, hcs, ht⟩
 ·omega
 ·injection hv with hA hn2 hc2
  subst hA hn2 hc2
  have hlen : ys.dropLast.length = ys.length - 1 := List.length_dropLast
  unfold Own
  rw [hlen]
  refine ⟨by rw [zyn hs, hlen], .inr ⟨g', c, cur, rfl, hge, hh, by omega, hm, hcs, ?_⟩⟩
  have e1 : flat enc ys.dropLast = (flat enc ys).take ((ys.length - 1) * size) := by
   rw [List.dropLast_eq_take]
   have e2 : flat enc ys = flat enc (ys.take (ys.length - 1)) ++ flat enc (ys.drop (ys.length - 1)) := by
    unfold flat
    rw [← List.flatMap_append, List.take_append_drop]
   rw [e2, List.take_left']
   rw [zyn hs, List.length_take]
   congr 1
   omega
  rw [e1, ← ht, List.take_take, Nat.min_eq_left]
  exact Nat.mul_le_mul_right _ (by omega)
theorem own_same {v : Value} {xs ys : List α} (h : Own W base e size enc v xs) (h' : Own W base e size enc v ys) : flat enc xs = flat enc ys := by
 rcases h.2 with ⟨hv, h0⟩ | ⟨g', cap, cur, hv, hge, hh, hc, hm, hcs, ht⟩
 ·rcases h'.2 with ⟨_, h1⟩ | ⟨g2, cap2, cur2, hv2, _⟩
  ·rw [List.eq_nil_of_length_eq_zero h0, List.eq_nil_of_length_eq_zero h1]
  ·rw [hv] at hv2; cases hv2
 ·rcases h'.2 with ⟨hv2, _⟩ | ⟨g2, cap2, cur2, hv2, _, hh2, _, _, _, ht2⟩
  ·rw [hv] at hv2; cases hv2
  ·rw [hv] at hv2
   injection hv2 with e1 e2 e3
   injection e1 with e1
   injection e1 with e1
   subst e1
   rw [hh] at hh2
   injection hh2 with hh2
   injection hh2 with hh2
   subst hh2
   rw [← ht, ← ht2, e2]
end
def encN (n : Nat) : Array Value := #[.int .i64 (n : Int)]
theorem encN_size (v : Nat) : (encN v).size = 1 := rfl
theorem encN_one (v : Nat) : (encN v).all (·.oneCell') = true := by simp [encN, Value.oneCell']
theorem flat_encU_inj : ∀ {xs ys : List Nat}, flat encU xs = flat encU ys → xs = ys
 | [], [], _ => rfl
 | [], y :: ys, h => by simp [flat, encU] at h
 | x :: xs, [], h => by simp [flat, encU] at h
 | x :: xs, y :: ys, h => by
   have e1 : flat encU (x :: xs) = .int .u64 x :: flat encU xs := rfl
   have e2 : flat encU (y :: ys) = .int .u64 y :: flat encU ys := rfl
   rw [e1, e2] at h
   injection h with h1 h2
   injection h1 with _ h1
   rw [flat_encU_inj h2, Int.ofNat.inj h1]
end Go.Proofs.YtkedgombccdamaaGreatDoor
namespace Go.Proofs.YtkedgombccdamaaGreatDoor
open Go.RowKit
set_option linter.unusedVariables false
set_option linter.unusedSimpArgs false
structure GoInv (E : List Edg) (N : Nat) (b e : Bool) (x y : Nat) (L : List Nat) : Prop where
 sub : ∀ i, x.testBit i = true → y.testBit i = true
 bel : below y N
 rch : ∀ i, y.testBit i = true → Reach E b e x i
 inL : ∀ n ∈ L, y.testBit n = true
 cls : ∀ d ∈ E, may b e d = true → y.testBit d.fr.toNat = true → d.fr.toNat ∉ L → y.testBit d.tt.toNat = true
 cnt : L.length ≤ (zzj y N).length
structure GoIn (E : List Edg) (N : Nat) (b e : Bool) (x M n j y : Nat) (L : List Nat) : Prop where
 sub : ∀ i, x.testBit i = true → y.testBit i = true
 bel : below y N
 rch : ∀ i, y.testBit i = true → Reach E b e x i
 inL : ∀ n ∈ L, y.testBit n = true
 cls : ∀ d ∈ E, may b e d = true → y.testBit d.fr.toNat = true → d.fr.toNat ∉ L → d.fr.toNat ≠ n → y.testBit d.tt.toNat = true
 gone : ∀ d ∈ (zqq E n).take j, may b e d = true → y.testBit d.tt.toNat = true
 cur : y.testBit n = true
 cnt : L.length + 1 ≤ (zzj y N).length
 mu : 2 * (N - (zzj y N).length) + L.length < M
theorem GoInv.start {E : List Edg} {N x : Nat} {b e : Bool} (hx : below x N) : GoInv E N b e x x (zzj x N) :=
 ⟨fun _ h => h, hx, fun _ h => .base h, fun n hn => ((mem_bitsTo _ _ _).1 hn).2, fun d _ _ h1 h2 => (h2 ((mem_bitsTo _ _ _).2 ⟨hx _ h1, h1⟩)).elim, Nat.le_refl _⟩
theorem GoInv.end_ {E : List Edg} {N x y : Nat} {b e : Bool} (hE : ∀ d ∈ E, 0 ≤ d.tt ∧ d.tt < N) (hx : below x N) (h : GoInv E N b e x y []) : y = zzf E N b e x :=
 spread_is hE hx h.sub (fun d hd hm h1 => h.cls d hd hm h1 (by simp)) h.rch
theorem GoInv.pop {E : List Edg} {N x y : Nat} {b e : Bool} {L : List Nat} {n : Nat} (h : GoInv E N b e x y (L ++ [n])) : GoIn E N b e x (2 * (N - (zzj y N).length) + (L.length + 1)) n 0 y L :=
 ⟨h.sub, h.bel, h.rch, fun m hm => h.inL m (by simp [hm]), fun d hd hm h1 h2 h3 => h.cls d hd hm h1 (by simp [h2, h3]), by simp, h.inL n (by simp), by have := h.cnt; simpa using this, by omega⟩
theorem GoIn.finish {E : List Edg} {N x M n j y : Nat} {b e : Bool} {L : List Nat} (hE : ∀ d ∈ E, 0 ≤ d.fr ∧ d.fr < N) (h : GoIn E N b e x M n j y L) (hj : (zqq E n).length ≤ j) : GoInv E N b e x y L :=
 ⟨h.sub, h.bel, h.rch, h.inL, fun d hd hm h1 h2 => by
  by_cases e1 : d.fr.toNat = n
  ·refine h.gone d ?_ hm
   rw [List.take_of_length_le hj, mem_edgesAt]
   have := hE d hd
   exact ⟨hd, by omega⟩
  ·exact h.cls d hd hm h1 h2 e1, by have := h.cnt; omega⟩
theorem GoIn.skip {E : List Edg} {N x M n j y : Nat} {b e : Bool} {L : List Nat} (h : GoIn E N b e x M n j y L) (hj : j < (zqq E n).length) (hd : may b e (zqq E n)[j] = true → y.testBit ((zqq E n)[j]).tt.toNat = true) : GoIn E N b e x M n (j + 1) y L :=
 ⟨h.sub, h.bel, h.rch, h.inL, h.cls, fun d hd2 hm => by
  rw [List.take_succ_eq_append_getElem hj, List.mem_append, List.mem_singleton] at hd2
  rcases hd2 with hd2 | rfl
  ·exact h.gone d hd2 hm
  ·exact hd hm, h.cur, h.cnt, h.mu⟩
theorem GoIn.add {E : List Edg} {N x M n j y : Nat} {b e : Bool} {L : List Nat} (hE : ∀ d ∈ E, 0 ≤ d.tt ∧ d.tt < N) (h : GoIn E N b e x M n j y L) (hj : j < (zqq E n).length) (hm : may b e (zqq E n)[j] = true) (hn : y.testBit ((zqq E n)[j]).tt.toNat = false) :
  GoIn E N b e x M n (j + 1) (y ||| 2 ^ ((zqq E n)[j]).tt.toNat) (L ++ [((zqq E n)[j]).tt.toNat]) := by
 have hmem := List.getElem_mem hj
 rw [mem_edgesAt] at hmem
 obtain ⟨d, hd⟩ : ∃ d, d = (zqq E n)[j] := ⟨_, rfl⟩
 rw [← hd] at hm hn hmem ⊢
 have htt := hE d hmem.1
 have htN : d.tt.toNat < N := by omega
 have hadd := bits_add htN hn
 have hlen := bitsTo_length (y ||| 2 ^ d.tt.toNat) N
 have up : ∀ i, y.testBit i = true → (y ||| 2 ^ d.tt.toNat).testBit i = true := fun i hi => by rw [zzc, hi]; rfl
 refine ⟨fun i hi => up i (h.sub i hi), below_or h.bel (below_pow htN), fun i hi => ?_, fun m hm2 => ?_, fun d2 hd2 hm2 h1 h2 h3 => ?_, fun d2 hd2 hm2 => ?_, up n h.cur, ?_, ?_⟩
 ·rw [zzc, Bool.or_eq_true, decide_eq_true_eq] at hi
  rcases hi with hi | rfl
  ·exact h.rch i hi
  ·refine .step hmem.1 hm ?_
   rw [hmem.2]
   exact h.rch n h.cur
 ·rw [List.mem_append, List.mem_singleton] at hm2
  rcases hm2 with hm2 | rfl
  ·exact up m (h.inL m hm2)
  ·rw [zzc]; simp
 ·rw [zzc, Bool.or_eq_true, decide_eq_true_eq] at h1
  rw [List.mem_append, List.mem_singleton, not_or] at h2
  rcases h1 with h1 | h1
  ·exact up _ (h.cls d2 hd2 hm2 h1 h2.1 h3)
  ·exact (h2.2 h1.symm).elim
 ·rw [List.take_succ_eq_append_getElem hj, List.mem_append, List.mem_singleton] at hd2
  rcases hd2 with hd2 | hd2
  ·exact up _ (h.gone d2 hd2 hm2)
  ·rw [hd2, ← hd, zzc]; simp
 ·have := h.cnt
  rw [List.length_append, hadd]
  simp only [List.length_singleton]
  omega
 ·have := h.mu
  rw [hadd] at hlen ⊢
  rw [List.length_append]
  simp only [List.length_singleton]
  omega
section
open Classical
noncomputable def goLeft (N base g c : Nat) (w wr : World) : Nat :=
 if h : ∃ p : Nat × Nat, (∃ A k, Blk wr w.heap.size 47 #[.slice A p.2 k]) ∧ Own wr base 51 1 encU (.slice (some ⟨g, 0, none⟩) (zqe N) c) (zqu p.1 (zqe N)) ∧ below p.1 N then 2 * (N - (zzj (Classical.choose h).1 N).length) + (Classical.choose h).2 else 0
end
theorem goLeft_eq {N base g c n y k : Nat} {w wr : World} {A : Option Addr} (h1 : Blk wr w.heap.size 47 #[.slice A n k]) (h2 : Own wr base 51 1 encU (.slice (some ⟨g, 0, none⟩) (zqe N) c) (zqu y (zqe N))) (h3 : below y N) :
  goLeft N base g c w wr = 2 * (N - (zzj y N).length) + n := by
 have hex : ∃ p : Nat × Nat, (∃ A k, Blk wr w.heap.size 47 #[.slice A p.2 k]) ∧ Own wr base 51 1 encU (.slice (some ⟨g, 0, none⟩) (zqe N) c) (zqu p.1 (zqe N)) ∧ below p.1 N := ⟨(y, n), ⟨A, k, h1⟩, h2, h3⟩
 unfold goLeft
 rw [dif_pos hex]
 obtain ⟨⟨A', k', e1⟩, e2, e3⟩ := Classical.choose_spec hex
 have ey : (Classical.choose hex).1 = y := wordsN_inj (Nat.lt_of_lt_of_le (below_lt e3) (Nat.pow_le_pow_right (by decide) (zzh N))) (Nat.lt_of_lt_of_le (below_lt h3) (Nat.pow_le_pow_right (by decide) (zzh N))) (flat_encU_inj (own_same e2 h2))
 have en : (Classical.choose hex).2 = n := by
  have h4 := Eq.trans (Eq.symm e1) h1
  simp at h4
  exact h4.2.1
 rw [ey, en]
end Go.Proofs.YtkedgombccdamaaGreatDoor
namespace Go.Proofs.YtkedgombccdamaaGreatDoor
open Go.RowKit Go.Shelf Go.Maps
set_option linter.unusedVariables false
set_option linter.unusedSimpArgs false
attribute [local go_sem] Oper.semAt_some
def goI (nb gm N : Nat) (E : List Edg) (R : List Nat) (base g c y : Nat) (w : World) (L : List Nat) (W : World) : Prop :=
 ∃ v, Blk W w.heap.size 47 #[v] ∧ Own W (w.heap.size + 1) 3 1 encN v L ∧ Own W base 51 1 encU (.slice (some ⟨g, 0, none⟩) (zqe N) c) (zqu y (zqe N)) ∧ MachOk nb W gm N E R ∧ TabOk W ∧ w.grownBy W (some g) ∧ w.heap.size < W.heap.size
theorem goI_from (nb gm N : Nat) (E : List Edg) (R : List Nat) (base g c y : Nat) (w W5 : World) (hp : 0 < nb) (hn : nb ≤ W5.heap.size) (hw : w.heap.size ≤ W5.heap.size) : OwnFrom W5.heap.size (goI nb gm N E R base g c y w) := by
 rintro L W W' row ⟨v, h1, h2, h3, h4, h5, h6, h7⟩ hg hr
 refine ⟨v, blk_turn' h1 hg hr, s_own_turn h2 hg hr, s_own_turn h3 hg hr, mach_turn h4 hg hr hn, fun i hi => (World.cell?_of_block (w := W) (hg.block 0 (by omega) (fun e => by have := (hr 0 e.symm).1; omega))).trans (h5 i hi), ?_, Nat.lt_of_lt_of_le h7 hg.size⟩
 exact ⟨hg.os.trans h6.os, hg.tape.trans h6.tape, hg.output.trans h6.output, Nat.le_trans h6.size hg.size, fun k hk hne => (hg.block k (Nat.lt_of_lt_of_le hk h6.size) (fun e => by have := (hr k e.symm).1; omega)).trans (h6.block k hk hne)⟩
theorem grown_more {w W W' : World} {g : Nat} {row : Option Nat} (h : w.grownBy W (some g)) (hg : W.grownBy W' row) (hr : ∀ r, row = some r → w.heap.size ≤ r) : w.grownBy W' (some g) :=
 ⟨hg.os.trans h.os, hg.tape.trans h.tape, hg.output.trans h.output, Nat.le_trans h.size hg.size, fun k hk hne => (hg.block k (Nat.lt_of_lt_of_le hk h.size) (fun e => by have := hr k e.symm; omega)).trans (h.block k hk hne)⟩
theorem wl_vmap_to {ops : Array Oper} {rest : List Oper} {o : Oper} {a : Act} {Q : Exit → Act → World → Prop} {w : World} {b n : Nat} {mf : Int → Option Value} (h : ValMap w b n mf) (v : Value) (y : Int) (hv : (mf y).getD (.slice none 0 0) = v) (hg : o.guard = none) (m x : Operand) (hop : o.op = Op.lookup 89 m x false) (hm : a.eval m = .map (some b)) (hy : (Lit.int .i64 y).wf = true) (hx : a.eval x = .int .i64 y)
  (hK : wpList Tryz.prog ops Q rest (a.put o.dst v) w) : wpList Tryz.prog ops Q (o :: rest) a w :=
 wl_vmap_at h hg m x hop hm y hy hx (hv ▸ hK)
theorem deferred_then {W W' : World} {D : Nat} {x : Option (List Deferred)} (h : W.heap[D]? = some (.deferred x)) (hb : Below W.heap.size W W') : W'.heap[D]? = some (.deferred x) :=
 (hb.block D (Array.getElem?_eq_some_iff.1 h).1).trans h
theorem deferred_blk {W W' : World} {D r : Nat} {x : Option (List Deferred)} {t : TypeId} {cs : Array Value} (h : W.heap[D]? = some (.deferred x)) (hb : Blk W r t cs) (hg : W.grownBy W' (some r)) : W'.heap[D]? = some (.deferred x) :=
 (hg.block D (Array.getElem?_eq_some_iff.1 h).1 (fun e => by
  injection e with e
  subst e
  unfold Blk at hb
  rw [h] at hb
  injection hb with hb
  cases hb)).trans h
theorem deferred_own {W W' : World} {D base size : Nat} {x : Option (List Deferred)} {e : TypeId} {α : Type} {enc : α → Array Value} {v : Value} {ys : List α} (h : W.heap[D]? = some (.deferred x)) (ho : Own W base e size enc v ys) (hg : W.grownBy W' v.ownBlock) : W'.heap[D]? = some (.deferred x) :=
 (hg.block D (Array.getElem?_eq_some_iff.1 h).1 (fun e => by
  rcases ho.2 with ⟨hv, _⟩ | ⟨g', cap, cur, hv, _, hh, _⟩
  ·rw [hv] at e; cases e
  ·rw [hv] at e
   have a1 : D = g' := by simpa [Value.ownBlock] using e
   subst a1
   rw [h] at hh
   injection hh with hh
   cases hh)).trans h
set_option maxRecDepth 100000 in
set_option maxHeartbeats 4000000 in
theorem goes_any (nb gm N : Nat) (E : List Edg) (R : List Nat) (base g c x : Nat) (beg en : Bool) (hx : below x N) (w : World) (hM : MachOk nb w gm N E R) (hs : Own w base 51 1 encU (.slice (some ⟨g, 0, none⟩) (zqe N) c) (zqu x (zqe N))) (hnb : nb ≤ base) (hT : TabOk w) :
  Calls Tryz.prog 31 #[.pointer (some ⟨gm, 0, none⟩), .slice (some ⟨g, 0, none⟩) (zqe N) c, .bool beg, .bool en] w fun e w' => e = .returned (.tuple #[]) ∧ Own w' base 51 1 encU (.slice (some ⟨g, 0, none⟩) (zqe N) c) (zqu (zzf E N beg en x) (zqe N)) ∧ w.grownBy w' (some g) := by
 refine (callsIn_wide (n := 6)).1 ?_
 refine callsIn_of_wp_marks Tryz.func31 rfl trivial ?_ rfl
 simp only [Tryz.ntmps31, List.size_toArray, List.length_cons, List.length_nil, Nat.reduceAdd, Nat.reduceSub, Array.replicate_succ, Array.replicate_zero, List.push_toArray, List.append_toArray, List.nil_append, List.cons_append]
 have hgb : base ≤ g ∧ g < w.heap.size := hs.lt g rfl
 gi_wp2_with (refine ⟨trivial, ?_⟩; gi_at_call 33; refine (callsIn_wide.2 (each_any _ _ _ _)).mono ?_; rintro e w5 ⟨rfl, rfl⟩)
 have e8 := (Blk.new w 47 #[.slice none 0 0]).alloc (.cells #[.slice (some ⟨g, 0, none⟩) (zqe N) c] 92)
 have ex := Blk.new' (n := w.heap.size + 1) (w.alloc (.cells #[.slice none 0 0] 47)) 92 #[.slice (some ⟨g, 0, none⟩) (zqe N) c] (by simp)
 have hB := zqc (zqc (Below.refl w.heap.size w) (.cells #[.slice none 0 0] 47)) (.cells #[.slice (some ⟨g, 0, none⟩) (zqe N) c] 92)
 obtain ⟨W1, hW1⟩ : ∃ y, y = (w.alloc (.cells #[.slice none 0 0] 47)).alloc (.cells #[.slice (some ⟨g, 0, none⟩) (zqe N) c] 92) := ⟨_, rfl⟩
 rw [← hW1] at e8 ex hB ⊢
 clear hW1
 have hnb2 := hM.2.2.2.2.2.1
 have hnb0 := hM.2.2.2.2.1
 have hN := hM.2.1
 have hM1 := hM.below hB hnb2
 have hs1 := hs.then_ hB
 have hT1 := hT.then_ hT.size hB
 have hlW := ex.lt
 have hkb : zqe N ≤ 1099511627776 := by unfold zqe; omega
 have hx64 : below x (64 * zqe N) := fun i hi => Nat.lt_of_lt_of_le (hx i hi) (zzh N)
 have hrow : ∀ i (h : i < (zqu x (zqe N)).length), RowAt W1 g (0 + i) (encU (zqu x (zqe N))[i]) := fun i h => by
  have := hs1.row zzu i h
  rw [Nat.mul_one] at this
  rw [Nat.zero_add]
  exact this
 have hgr1 : w.grownBy W1 (some g) := zzq hB (some g)
 refine wpIn_rangeFunc_ownF (n := 6) rfl (by decide) (gf := 50) (lb := #[.pointer (some ⟨w.heap.size + 1, 0, none⟩)]) rfl trivial (enters_of Tryz.func50 (by kernel_rfl) rfl)
  (each_stops x (zqe N) c g 0 5 (w.heap.size + 1) W1 hkb hx64 ex (by omega) hrow hT1) KpS.trans (fun W l o o' hl _ _ _ => ⟨World.putObj_heap_other (by omega), World.putObj_heap_other (by omega)⟩) (Below.refl _ _) (fun _ => rfl)
  (fun pre W => goI nb gm N E R base g c x w (numsI pre) W) (fun _ _ _ => False) (fun pre X Y row hs hg hr => goI_from nb gm N E R base g c x w W1 hnb0 (by omega) (by omega) (numsI pre) X Y row hs hg hr) (fun _ => fun _ _ _ _ hs _ _ => hs)
  ⟨_, e8, Own.nil_ _ _ _ _ _, hs1, hM1, hT1, hgr1, by omega⟩
  (fun r => { tmps := #[.pointer (some ⟨gm, 0, none⟩), .slice (some ⟨g, 0, none⟩) (zqe N) c, .bool beg, .bool en, undef, undef, undef, undef, .pointer (some ⟨w.heap.size, 0, none⟩), .int .i64 (r.1 : Int), undef, undef, undef, undef, .slice (some ⟨g, 0, none⟩) (zqe N) c, .func (.func 50) #[] #[.pointer (some ⟨w.heap.size + 1, 0, none⟩)], .int .i64 (r.1 : Int), undef, undef, undef, undef, undef, undef, undef, undef, undef, undef, undef, undef, undef, undef, undef, undef, undef, undef, undef, undef, undef, undef, undef, undef, undef, undef, undef, undef, undef, undef, undef, undef, undef, undef, undef, undef, undef, undef, undef, undef, undef, undef, undef, undef, undef, undef, undef, undef, undef, undef, undef, undef, undef, undef, undef, undef, undef, undef, undef, undef, undef, undef, undef, undef, undef, undef], defers := [] }) ?assign ?body ?done ?stop
 case assign =>
  intro l r W K hK
  unfold encI
  gi_wp2
  exact hK
 case body =>
  rintro l pre ⟨n, hn⟩ W ⟨v, h8, hL, hS, hMW, hTW, hgr, hlt⟩ hlen
  have hnN := hx n hn
  have hlen2 : (numsI pre).length ≤ 64 * zqe N := by rw [numsI_length]; omega
  have hwf : 64 * zqe N ≤ 1099511628000 := by unfold zqe; omega
  obtain ⟨L, hLe⟩ : ∃ L, L = numsI pre := ⟨_, rfl⟩
  rw [← hLe] at hL hlen2
  have HL := Lib.hid hLe
  clear hLe
  obtain ⟨A7, k7, rfl, _, _⟩ := hL.shape
  have c8 : W.cell? ⟨w.heap.size, 0, none⟩ = some (.slice A7 L.length k7) := h8.cellv rfl
  obtain ⟨i1, hi1, hy0, hy1, hy2⟩ := info_parts info_int3
  gi_upto_region 3 with (fail)
  refine region_in (by kernel_rfl) ?_
  go_wp2_with (at_builtin; refine park ?_)
  refine Parked.mk ?_
  have hone := zxk (enc := encN) (size := 1) (y := n) (w := W.alloc (.cells #[.int .i64 (n : Int)] 3)) (g := W.heap.size) (t := 3) (Blk.new _ _ _)
  have hB7 : Below W.heap.size W (W.alloc (.cells #[.int .i64 (n : Int)] 3)) := zqc (Below.refl _ _) _
  have hL7 := hL.then_ hB7
  have h87 := zqb h8 hB7
  have hS7 := hS.then_ hB7
  have hM7 := hMW.below hB7 (hMW.2.2.2.2.2.1)
  have hT7 := hTW.then_ hTW.size hB7
  have hsz7 := hB7.size
  refine zxh _ rfl _ _ 47 rfl (w.heap.size + 1) 3 i1 _ 1 8 Tryz.underlying47 hi1 hy0 hy1 hy2 rfl (by decide) encN_size encN_one (.slice A7 _ k7) _ rfl hL7 _ _ 1 1 [n] rfl rfl hone (by unfold maxLen; omega) (by omega) (by omega) ?_
  intro v8 w8 hL8 hg8 hat8
  obtain ⟨A8, k8, rfl, _, _⟩ := hL8.shape
  simp only [Act.put, List.setIfInBounds_toArray, List.set_cons_zero, List.set_cons_succ]
  refine zqt rfl _ _ _ rfl _ _ rfl _ _ #[.slice A8 _ k8] (zyc h87 hL7 hg8 (by omega)) (by simp) info_ints1 rfl rfl rfl ?_
  intro w9 h89 hg9
  refine wpList_nil ?_
  refine zyh ?_
  gi_wp2
  have hz8 := hg8.size
  have hlow8 : ∀ r, (Value.slice A7 L.length k7).ownBlock = some r → w.heap.size ≤ r := fun r e => by have := (hL7.lt r e).1; omega
  have hko : KeepsOthers W w9 := (KeepsOthers.of_grownBy (zzq hB7 none) (fun j o e _ => by cases e)).trans ((others_own hL7 hg8).trans (KeepsOthers.of_grownBy hg9 (fun j o e1 e2 => by injection e1 with e1; subst e1; exact cells_of_blk' (zyc h87 hL7 hg8 (by omega)) e2)))
  have hne0 : ∀ k, k < w.heap.size → w9.heap[k]? = W.heap[k]? := fun k hk => (hg9.block k (by omega) (by simp; omega)).trans ((hg8.block k (by omega) (fun e => by have := hlow8 k e.symm; omega)).trans (hB7.block k (by omega)))
  refine ⟨hko, ⟨hne0 g (by omega), hne0 0 (by omega)⟩, _, h89, ?_, ?_, hMW.keep (fun k hk => hne0 k (by omega)) (by have := hg9.size; omega), fun i hi => (World.cell?_of_block (w := W) (hne0 0 (by omega))).trans (hTW i hi), grown_more (grown_more (grown_more hgr (zzq hB7 none) (fun r e => by cases e)) hg8 hlow8) hg9 (fun r e => by injection e with e; omega), by have := hg9.size; omega⟩
  ·rw [numsI_snoc, ← HL.out]
   exact zxr hL8 hg9 (by omega)
  ·exact zxb (zxw hS7 hL7 hg8 (by decide)) (zyc h87 hL7 hg8 (by omega)) hg9 (by decide)
 case done =>
  rintro D xs W hD hxs hI hK
  rw [hxs, bits_all hx (zzh N)] at hI
  clear hxs xs
  gi_wp2
  gi_loopw [] (fun wr => ∃ y L, GoInv E N beg en x y L ∧ goI nb gm N E R base g c y w L wr ∧ wr.heap[D]? = some (Obj.deferred (some []))) (fun wr => goLeft N base g c w wr)
  case atStart => exact ⟨x, zzj x N, GoInv.start hx, hI, hK⟩
  case round =>
   clear hI hK
   obtain ⟨y, L, hG, ⟨v, h8, hL, hS, hMW, hTW, hgr, hlt⟩, hK⟩ := hrel
   obtain ⟨A7, k7, rfl, hk7, _⟩ := hL.shape
   rcases List.eq_nil_or_concat L with rfl | ⟨L, n, rfl⟩
   ·have c8 : wr.cell? ⟨w.heap.size, 0, none⟩ = some (.slice A7 0 k7) := h8.cellv rfl
    gi_wp2
    refine ⟨by simp, .inl ⟨_, _, rfl, run_takeDeferred hK, ?_⟩⟩
    have hy := hG.end_ hM.1.tt hx
    subst hy
    have hg' := grownBy_putObj' wr D (.deferred none)
    refine ⟨_, results_none rfl _ _ _, rfl, hS.kept_ hg' (fun j e1 e2 => ?_), grown_more hgr hg' (fun r e => by injection e with e; omega)⟩
    have e3 : g = j := by simpa [Value.ownBlock] using e1
    injection e2 with e2
    omega
   ·rw [List.concat_eq_append] at hG h8 hL hk7
    have hf : L.length + 1 = (L ++ [n]).length := by simp
    obtain ⟨gt, cap, hv, hgt1, hgt2, _⟩ := hL.form (by omega)
    injection hv with hA _ hcap
    subst hA; subst hcap
    have hrow : RowAt wr gt L.length (encN n) := by
     have := hL.row encN_size L.length (by omega)
     simpa only [Nat.mul_one, List.getElem_concat_length] using this
    have hpop := own_pop encN_size hL (by omega)
    rw [List.dropLast_concat] at hpop
    rw [← hf] at h8 hk7 hpop hL
    have hbn := hG.inL n (by simp)
    have hnN := hG.bel n hbn
    have hin := hG.pop
    obtain ⟨m, hm⟩ : ∃ m, m = L.length := ⟨_, rfl⟩
    rw [← hm] at h8 hk7 hpop hrow hin hL
    have c8 : wr.cell? ⟨w.heap.size, 0, none⟩ = some (.slice (some ⟨gt, 0, none⟩) (m + 1) k7) := h8.cellv rfl
    have ct : wr.cell? ⟨gt, m, none⟩ = some (.int .i64 (n : Int)) := hrow 0 _ rfl
    have hmI : (m : Int) ≤ k7 := by omega
    have hmb : m < 1099511628000 := by
     have h1 := hin.cnt
     have h2 := bitsTo_length y N
     omega
    rw [Nat.add_sub_cancel] at hpop
    have Hm := Lib.hid hm
    clear hm hf hrow
    have f8 := h8.frozen 0
    gi_upto_region 7 with (fail)
    obtain ⟨w2, hw2⟩ : ∃ z, z = wr.setCell ⟨w.heap.size, 0, none⟩ (.slice (some ⟨gt, 0, none⟩) m k7) := ⟨_, rfl⟩
    have h82 : Blk w2 w.heap.size 47 #[.slice (some ⟨gt, 0, none⟩) m k7] := by rw [hw2]; exact h8.set_eq rfl
    have hg2 : wr.grownBy w2 (some w.heap.size) := by rw [hw2]; exact zzi (zzk _ _) (.inl rfl) _
    rw [← hw2]
    clear hw2 f8 c8 ct
    have hmu := goLeft_eq h8 hS hG.bel
    have hgE := hM.1
    have I2 : goI nb gm N E R base g c y w L w2 := ⟨_, h82, zxr hpop hg2 (by omega), zxb hS h8 hg2 (by decide), hMW.grown hg2 (by omega), fun i hi => (World.cell?_of_block (w := wr) (hg2.block 0 (by omega) (by simp; omega))).trans (hTW i hi), grown_more hgr hg2 (fun r e => by injection e with e; omega), by have := hg2.size; omega⟩
    have hK2 := deferred_blk hK h8 hg2
    clear h82 hg2 hpop hL hS hMW hTW hgr h8 hK hG
    obtain ⟨v2, h82, hL2, hS2, hM2, hT2, hgr2, hlt2⟩ := id I2
    obtain ⟨_, _, _, _, _, _, hgm, bm, nm, B, mR, dR, mf, hbm, hbl, _, _, hvm, hed⟩ := id hM2
    obtain ⟨A, l, cA, hmf, rfl, hAs⟩ := hed n hnN
    have cm : w2.cell? ⟨gm, 1, none⟩ = some (.map (some bm)) := hbl.cellv rfl
    have hEl : (zqq E n).length ≤ 1099511627776 := Nat.le_trans (List.length_filter_le _ _) hM2.2.2.1
    refine wpIn_wide.2 ?_
    go_wp2_with (at_lookup; refine wl_vmap_to hvm _ _ hmf rfl _ _ rfl rfl (wf_of_nat (by omega)) rfl ?_)
    clear cm
    obtain ⟨M, hMd⟩ : ∃ M, M = 2 * (N - (zzj y N).length) + (m + 1) := ⟨_, rfl⟩
    rw [← hMd] at hin hmu
    clear hMd hvm hmf hbl h82 hL2 hS2 hM2 hT2 hgr2 hlt2 hed
    gi_wp2
    gi_loopw [42] (fun i wi => ∃ j z L, j ≤ (zqq E n).length ∧ i = .int .i64 j ∧ GoIn E N beg en x M n j z L ∧ goI nb gm N E R base g c z w L wi ∧ (∀ k, k < nb → wi.heap[k]? = w2.heap[k]?) ∧ wi.heap[D]? = some (Obj.deferred (some []))) (fun i _ => (zqq E n).length - (intOf i).toNat)
    case atStart => exact ⟨0, y, L, by omega, rfl, hin, I2, fun _ _ => rfl, hK2⟩
    case round =>
     clear hin I2 hK2 Hm hbn hnN hmI hmb hk7 hgt1 hgt2
     obtain ⟨j, z, L, hj, rfl, hG, ⟨v8, h8, hL, hS, hMW, hTW, hgr, hlt⟩, hkeep, hK⟩ := hrel
     by_cases hjl : j < (zqq E n).length
     ·have hjI : (j : Int) < ((zqq E n).length : Nat) := by omega
      obtain ⟨b, off, rfl, hb, hrows⟩ := hAs.at_ (by omega)
      have hr := (hrows j hjl).keep (hkeep b hb)
      obtain ⟨dd, hd⟩ : ∃ d, d = (zqq E n)[j] := ⟨_, rfl⟩
      rw [← hd] at hr
      have Hd := Lib.hid hd
      clear hd
      have hjb : j < 1099511628000 := by omega
      gi_upto_region 9 with (fail)
      refine wpIn_wide.2 ?_
      go_wp2_with (first | (refine zzs rfl _ rfl _ _ rfl _ hr ?_) | (refine zxm rfl _ _ rfl _ _ rfl rfl edge0 (Blk.new _ _ _) ?_; intro w3 h12 hg3))
      have hB3 := zqh (zqc (Below.refl _ wr) (.cells #[.int .i64 0, .int .i64 0, .int .i64 0, .int .u64 0, .int .u64 0, .int .u64 0, .int .u64 0] 69)) hg3 (Nat.le_refl _)
      obtain ⟨k1, hk1⟩ : ∃ k, (dd.kd == 1) = k := ⟨_, rfl⟩
      obtain ⟨k3, hk3⟩ : ∃ k, (dd.kd == 3) = k := ⟨_, rfl⟩
      obtain ⟨k4, hk4⟩ : ∃ k, (dd.kd == 4) = k := ⟨_, rfl⟩
      have hmay : may beg en dd = ((k1 || (beg && k3)) || (en && k4)) := by unfold may; rw [hk1, hk3, hk4]
      gi_upto_region 10 with (fail)
      refine wpIn_wide.2 ?_
      refine zqs 20 [eqS (.pointer (some ⟨wr.heap.size, 0, none⟩)), eqS (.int .i64 dd.kd), eqS (.bool k1), eqS (.bool k1), eqS (vF (!k1) (.bool beg)), eqS (vF (!k1) (.bool beg)), eqS (vF (!k1 && beg) (.pointer (some ⟨wr.heap.size, 0, none⟩))), eqS (vF (!k1 && beg) (.int .i64 dd.kd)), eqS (vF (!k1 && beg) (.bool k3)), eqS (vF (!k1) (.bool (beg && k3))), eqS (.bool (k1 || (beg && k3))), eqS (.bool (k1 || (beg && k3))), eqS (vF (!(k1 || (beg && k3))) (.bool en)), eqS (vF (!(k1 || (beg && k3))) (.bool en)), eqS (vF (!(k1 || (beg && k3)) && en) (.pointer (some ⟨wr.heap.size, 0, none⟩))), eqS (vF (!(k1 || (beg && k3)) && en) (.int .i64 dd.kd)), eqS (vF (!(k1 || (beg && k3)) && en) (.bool k4)), eqS (vF (!(k1 || (beg && k3))) (.bool (en && k4))), eqS (.bool ((k1 || (beg && k3)) || (en && k4))), eqS (.bool ((k1 || (beg && k3)) || (en && k4)))] [46, 47, 48, 49, 50, 51, 52, 53, 54, 55, 56, 57, 58, 59, 60, 61, 62, 63, 64, 13] (by kernel_rfl) rfl ?_ ?_
      ·skip
       refine Steps.cons (fun a' w' hG hB dep => zqn (zqa rfl) _ _ _ rfl wr.heap.size 0 0 (hG.other 12 rfl) (zxz _ _) rfl) ?_
       refine Steps.cons (fun a' w' hG hB dep => zqj (zqa rfl) _ _ rfl wr.heap.size 0 (dep 0 rfl 46 rfl) (.int .i64 dd.kd) ((zqb h12 hB).cellv (i := 0) rfl) _ Tryz.underlying3 rfl rfl) ?_
       refine Steps.cons (fun a' w' hG hB dep => zzo (zqa rfl) _ _ _ _ rfl _ _ _ (dep 1 rfl 47 rfl) rfl (congrArg Value.bool hk1)) ?_
       refine Steps.cons (fun a' w' hG hB dep => zqi (zqa rfl) _ rfl (dep 2 rfl 48 rfl)) ?_
       refine Steps.cons (fun a' w' hG hB dep => zqf (c := true) rfl rfl (dep 3 rfl 49 rfl) (fun _ e hw => zqi hw _ rfl (Eq.trans (hG.other 2 rfl) (zqg (zzt e) _).symm)) (fun e => vF_no (zxn e) _)) ?_
       refine Steps.cons (fun a' w' hG hB dep => zqf (c := true) rfl rfl (dep 3 rfl 49 rfl) (fun _ e hw => zqi hw _ rfl (dep 4 rfl 50 rfl)) (fun e => vF_no (zxn e) _)) ?_
       refine Steps.cons (fun a' w' hG hB dep => zqf (c := !k1) rfl rfl (dep 5 rfl 51 rfl) (fun c e hw => zqn hw _ _ _ rfl wr.heap.size 0 0 (hG.other 12 rfl) (zxz _ _) (vF_and c e _).symm) (fun e => vF_no (off_and e) _)) ?_
       refine Steps.cons (fun a' w' hG hB dep => zqf (c := !k1) rfl rfl (dep 5 rfl 51 rfl) (fun c e hw => zqj hw _ _ rfl wr.heap.size 0 (Eq.trans (dep 6 rfl 52 rfl) (vF_and c e _)) (.int .i64 dd.kd) ((zqb h12 hB).cellv (i := 0) rfl) _ Tryz.underlying3 rfl (vF_and c e _).symm) (fun e => vF_no (off_and e) _)) ?_
       refine Steps.cons (fun a' w' hG hB dep => zqf (c := !k1) rfl rfl (dep 5 rfl 51 rfl) (fun c e hw => zzo hw _ _ _ _ rfl _ _ _ (Eq.trans (dep 7 rfl 53 rfl) (vF_and c e _)) rfl ((congrArg Value.bool hk3).trans (vF_and c e _).symm)) (fun e => vF_no (off_and e) _)) ?_
       refine Steps.cons (fun a' w' hG hB dep => zqf (c := true) rfl rfl (dep 3 rfl 49 rfl) (fun _ e hw => zqy hw _ _ _ rfl beg (Eq.trans (dep 5 rfl 51 rfl) (zqg (zzt e) _)) ((pick_and ((dep 8 rfl 54 rfl).trans (congrArg (fun q => vF (q && beg) (.bool k3)) (zzt e)))).trans (zqg (zzt e) _).symm)) (fun e => vF_no (zxn e) _)) ?_
       refine Steps.cons (fun a' w' hG hB dep => zqy (zqa rfl) _ _ _ rfl k1 (dep 3 rfl 49 rfl) (pick_or (dep 9 rfl 55 rfl))) ?_
       refine Steps.cons (fun a' w' hG hB dep => zqi (zqa rfl) _ rfl (dep 10 rfl 56 rfl)) ?_
       refine Steps.cons (fun a' w' hG hB dep => zqf (c := true) rfl rfl (dep 11 rfl 57 rfl) (fun _ e hw => zqi hw _ rfl (Eq.trans (hG.other 3 rfl) (zqg (zzt e) _).symm)) (fun e => vF_no (zxn e) _)) ?_
       refine Steps.cons (fun a' w' hG hB dep => zqf (c := true) rfl rfl (dep 11 rfl 57 rfl) (fun _ e hw => zqi hw _ rfl (dep 12 rfl 58 rfl)) (fun e => vF_no (zxn e) _)) ?_
       refine Steps.cons (fun a' w' hG hB dep => zqf (c := !(k1 || (beg && k3))) rfl rfl (dep 13 rfl 59 rfl) (fun c e hw => zqn hw _ _ _ rfl wr.heap.size 0 0 (hG.other 12 rfl) (zxz _ _) (vF_and c e _).symm) (fun e => vF_no (off_and e) _)) ?_
       refine Steps.cons (fun a' w' hG hB dep => zqf (c := !(k1 || (beg && k3))) rfl rfl (dep 13 rfl 59 rfl) (fun c e hw => zqj hw _ _ rfl wr.heap.size 0 (Eq.trans (dep 14 rfl 60 rfl) (vF_and c e _)) (.int .i64 dd.kd) ((zqb h12 hB).cellv (i := 0) rfl) _ Tryz.underlying3 rfl (vF_and c e _).symm) (fun e => vF_no (off_and e) _)) ?_
       refine Steps.cons (fun a' w' hG hB dep => zqf (c := !(k1 || (beg && k3))) rfl rfl (dep 13 rfl 59 rfl) (fun c e hw => zzo hw _ _ _ _ rfl _ _ _ (Eq.trans (dep 15 rfl 61 rfl) (vF_and c e _)) rfl ((congrArg Value.bool hk4).trans (vF_and c e _).symm)) (fun e => vF_no (off_and e) _)) ?_
       refine Steps.cons (fun a' w' hG hB dep => zqf (c := true) rfl rfl (dep 11 rfl 57 rfl) (fun _ e hw => zqy hw _ _ _ rfl en (Eq.trans (dep 13 rfl 59 rfl) (zqg (zzt e) _)) ((pick_and ((dep 16 rfl 62 rfl).trans (congrArg (fun q => vF (q && en) (.bool k4)) (zzt e)))).trans (zqg (zzt e) _).symm)) (fun e => vF_no (zxn e) _)) ?_
       refine Steps.cons (fun a' w' hG hB dep => zqy (zqa rfl) _ _ _ rfl (k1 || (beg && k3)) (dep 11 rfl 57 rfl) (pick_or (dep 17 rfl 63 rfl))) ?_
       refine Steps.cons (fun a' w' hG hB dep => zxl (zqa rfl) _ rfl (dep 18 rfl 64 rfl)) ?_
       exact Steps.nil
      clear hk1 hk3 hk4
      rw [← hmay]
      intro u W4 hB4 ans
      have u13 : u 13 = .bool (may beg en dd) := (ans 19 13 (by decide) rfl)
      clear ans hmay
      obtain ⟨f, hmay⟩ : ∃ f, may beg en dd = f := ⟨_, rfl⟩
      rw [hmay] at u13
      simp only [zqr, List.foldl_cons, List.foldl_nil, Act.put, List.setIfInBounds_toArray, List.set_cons_zero, List.set_cons_succ, u13]
      clear u13
      simp only [List.drop]
      refine wpList_nil ?_
      have hB4 := zqd hB3 hB4
      have h12 := zqb h12 (‹Below w3.heap.size w3 W4›)
      have hmem := List.getElem_mem hjl
      rw [mem_edgesAt, ← Hd.out] at hmem
      have htt := hgE.tt dd hmem.1
      obtain ⟨t, ht⟩ : ∃ t : Nat, dd.tt = (t : Int) := ⟨dd.tt.toNat, by omega⟩
      have htn : dd.tt.toNat = t := by omega
      have c2 : W4.cell? ⟨wr.heap.size, 2, none⟩ = some (.int .i64 (t : Int)) := by rw [← ht]; exact h12.cellv (i := 2) rfl
      have I4 : goI nb gm N E R base g c z w L W4 := ⟨v8, zqb h8 hB4, hL.then_ hB4, hS.then_ hB4, hMW.below hB4 hMW.2.2.2.2.2.1, hTW.then_ hTW.size hB4, grown_more hgr (zzq hB4 none) (fun r e => by cases e), Nat.lt_of_lt_of_le hlt hB4.size⟩
      have hK4 := deferred_then hK hB4
      have hkeep4 : ∀ k, k < nb → W4.heap[k]? = w2.heap[k]? := fun k hk => (hB4.block k (by have := hMW.2.2.2.2.2.1; omega)).trans (hkeep k hk)
      have htN : t < 64 * zqe N := by have := zzh N; omega
      have hlr := hlt
      clear hB3 hg3 h8 hL hS hMW hTW hgr hlt hK hkeep hr
      cases f
      ·gi_upto_region 11 with (fail)
       refine wpIn_wide.2 ?_
       go_wp2_with (fail)
       gi_wp2
       exact ⟨⟨j + 1, z, L, by omega, rfl, hG.skip hjl (by rw [← Hd.out, hmay]; exact fun h => (Bool.false_ne_true h).elim), I4, hkeep4, hK4⟩, by simp only [intOf]; omega⟩
      ·obtain ⟨v8, h8, hL, hS, hMW, hTW, hgr, hlt⟩ := I4
       gi_upto_region 11 with (fail)
       refine wpIn_wide.2 ?_
       have hhas := shas_any _ _ c z t htN hkb _ _ (hS.slice_all zzu)
       cases hzt : z.testBit t
       ·rw [hzt] at hhas
        go_wp2_with (go_at_call 49; refine hhas.mono ?_; rintro e w5 ⟨rfl, rfl⟩)
        clear hhas
        gi_upto_region 12 with (fail)
        refine wpIn_wide.2 ?_
        go_wp2_with (go_at_call 35; refine (sadd_any g (zqe N) c z t base htN hkb _ hS).mono ?_; rintro e w6 ⟨rfl, hS6, hg6⟩)
        replace h12 := zqk h12 hg6 (by omega)
        replace h8 := zqk h8 hg6 (by omega)
        replace hL := zxr hL hg6 (by omega)
        replace hMW := hMW.grown hg6 (by omega)
        replace hTW : TabOk w6 := fun i hi => (World.cell?_of_block (hg6.block 0 (by omega) (by simp; omega))).trans (hTW i hi)
        replace hgr := hgr.trans hg6
        replace hK4 := deferred_own hK4 hS hg6
        replace hkeep4 : ∀ k, k < nb → w6.heap[k]? = w2.heap[k]? := fun k hk => (hg6.block k (by omega) (by simp; omega)).trans (hkeep4 k hk)
        replace c2 : w6.cell? ⟨wr.heap.size, 2, none⟩ = some (.int .i64 (t : Int)) := by rw [← ht]; exact h12.cellv (i := 2) rfl
        have hlt6 := Nat.lt_of_lt_of_le hlt hg6.size
        clear hS hlt hg6
        have hLN : L.length + 1 ≤ N := by
         have h1 := hG.cnt
         have h2 := bitsTo_length z N
         omega
        have hGa := hG.add (fun d hd => hgE.tt d hd) hjl (by rw [← Hd.out]; exact hmay) (by rw [← Hd.out, htn]; exact hzt)
        rw [← Hd.out, htn] at hGa
        obtain ⟨A7, k7', rfl, _, _⟩ := hL.shape
        have c8 : w6.cell? ⟨w.heap.size, 0, none⟩ = some (.slice A7 L.length k7') := h8.cellv rfl
        obtain ⟨i1, hi1, hy0, hy1, hy2⟩ := info_parts info_int3
        gi_upto_region 13 with (fail)
        refine wpIn_wide.2 ?_
        go_wp2_with (at_builtin; refine park ?_)
        refine Parked.mk ?_
        have hone := zxk (enc := encN) (size := 1) (y := t) (w := w6.alloc (.cells #[.int .i64 (t : Int)] 3)) (g := w6.heap.size) (t := 3) (Blk.new _ _ _)
        have hB7 : Below w6.heap.size w6 (w6.alloc (.cells #[.int .i64 (t : Int)] 3)) := zqc (Below.refl _ _) _
        have hL7 := hL.then_ hB7
        have h87 := zqb h8 hB7
        have hsz7 := hB7.size
        refine zxh _ rfl _ _ 47 rfl (w.heap.size + 1) 3 i1 _ 1 8 Tryz.underlying47 hi1 hy0 hy1 hy2 rfl (by decide) encN_size encN_one (.slice A7 _ k7') _ rfl hL7 _ _ 1 1 [t] rfl rfl hone (by unfold maxLen; omega) (by omega) (by omega) ?_
        intro v9 w8 hL8 hg8 hat8
        obtain ⟨A8, k8, rfl, _, _⟩ := hL8.shape
        simp only [Act.put, List.setIfInBounds_toArray, List.set_cons_zero, List.set_cons_succ]
        refine zqt rfl _ _ _ rfl _ _ rfl _ _ #[.slice A8 _ k8] (zyc h87 hL7 hg8 (by omega)) (by simp) info_ints1 rfl rfl rfl ?_
        intro w9 h89 hg9
        refine wpList_nil ?_
        have hz8 := hg8.size
        have hz9 := hg9.size
        have hlow8 : ∀ r, (Value.slice A7 L.length k7').ownBlock = some r → w.heap.size ≤ r := fun r e => by have := (hL7.lt r e).1; omega
        have hne0 : ∀ k, k < w.heap.size → w9.heap[k]? = w6.heap[k]? := fun k hk => (hg9.block k (by omega) (by simp; omega)).trans ((hg8.block k (by omega) (fun e => by have := hlow8 k e.symm; omega)).trans (hB7.block k (by omega)))
        have I9 : goI nb gm N E R base g c (z ||| 2 ^ t) w (L ++ [t]) w9 := ⟨_, h89, zxr hL8 hg9 (by omega), zxb (zxw (hS6.then_ hB7) hL7 hg8 (by decide)) (zyc h87 hL7 hg8 (by omega)) hg9 (by decide), hMW.keep (fun k hk => hne0 k (by omega)) (by omega), fun i hi => (World.cell?_of_block (w := w6) (hne0 0 (by omega))).trans (hTW i hi), grown_more (grown_more (grown_more hgr (zzq hB7 none) (fun r e => by cases e)) hg8 hlow8) hg9 (fun r e => by injection e with e; omega), by omega⟩
        have hK9 := deferred_blk (deferred_own (deferred_then hK4 hB7) hL7 hg8) (zyc h87 hL7 hg8 (by omega)) hg9
        clear hgr hg8 hg9 h89 hL8 hL7 h87 hone hB7 hi1 hy0 hy1 hy2 h12 h8 hL hS6 hMW hTW hK4 c8 c2
        gi_wp2
        exact ⟨⟨j + 1, z ||| 2 ^ t, L ++ [t], by omega, rfl, hGa, I9, fun k hk => (hne0 k (by omega)).trans (hkeep4 k hk), hK9⟩, by simp only [intOf]; omega⟩
       ·rw [hzt] at hhas
        go_wp2_with (go_at_call 49; refine hhas.mono ?_; rintro e w5 ⟨rfl, rfl⟩)
        gi_wp2
        exact ⟨⟨j + 1, z, L, by omega, rfl, hG.skip hjl (by rw [← Hd.out, htn]; exact fun _ => hzt), ⟨v8, h8, hL, hS, hMW, hTW, hgr, hlt⟩, hkeep4, hK4⟩, by simp only [intOf]; omega⟩
     ·have hjI : ¬ (j : Int) < ((zqq E n).length : Nat) := by omega
      gi_wp2
      obtain ⟨A8, k8, rfl, _, _⟩ := hL.shape
      have hGf := hG.finish (fun d hd => hgE.fr d hd) (by omega)
      refine ⟨⟨z, L, hGf, ⟨_, h8, hL, hS, hMW, hTW, hgr, hlt⟩, hK⟩, ?_⟩
      rw [hmu, goLeft_eq h8 hS hG.bel]
      exact hG.mu
 case stop =>
  rintro D c pre W _ _ h _
  exact h.elim
structure Grown2 (W W' : World) (a b : Nat) : Prop where
 os : W'.os = W.os
 tape : W'.tape = W.tape
 output : W'.output = W.output
 size : W.heap.size ≤ W'.heap.size
 block : ∀ k, k < W.heap.size → k ≠ a → k ≠ b → W'.heap[k]? = W.heap[k]?
theorem Grown2.fst {W W' : World} {a b : Nat} (h : W.grownBy W' (some a)) : Grown2 W W' a b := ⟨h.os, h.tape, h.output, h.size, fun k hk h1 _ => h.block k hk (by simpa using h1)⟩
theorem Grown2.snd {W W' : World} {a b : Nat} (h : W.grownBy W' (some b)) : Grown2 W W' a b := ⟨h.os, h.tape, h.output, h.size, fun k hk _ h1 => h.block k hk (by simpa using h1)⟩
theorem Grown2.below {W W' : World} {a b : Nat} (h : Below W.heap.size W W') : Grown2 W W' a b := ⟨h.os, h.tape, h.output, h.size, fun k hk _ _ => h.block k hk⟩
theorem Grown2.trans {W W' W2 : World} {a b : Nat} (h : Grown2 W W' a b) (k : Grown2 W' W2 a b) : Grown2 W W2 a b := ⟨k.os.trans h.os, k.tape.trans h.tape, k.output.trans h.output, Nat.le_trans h.size k.size, fun i hi h1 h2 => (k.block i (Nat.lt_of_lt_of_le hi h.size) h1 h2).trans (h.block i hi h1 h2)⟩
def walkC (gm : Nat) (v : Value) (r : Nat) (b : Bool) : Array Value := #[.pointer (some ⟨gm, 0, none⟩), v, .int .u32 (r : Int), .bool b]
theorem info_states1 : (Tryz.prog.info? 92).map (·.size) = some 1 := by kernel_rfl
theorem enter_met (args : Array Value) (w : World) : (callFunc 32 args).run Tryz.prog w = .ok (.enter 32 args) w := by kernel_rfl
theorem tab_grown {W W' : World} {r : Nat} (h : TabOk W) (hg : W.grownBy W' (some r)) (hr : 0 < r) : TabOk W' := fun i hi => (World.cell?_of_block (hg.block 0 h.size (by simp; omega))).trans (h i hi)
theorem enter_goes (args : Array Value) (w : World) : (callFunc 31 args).run Tryz.prog w = .ok (.enter 31 args) w := by kernel_rfl
set_option maxRecDepth 100000 in
set_option maxHeartbeats 2000000 in
theorem at_any (nb gm N : Nat) (E : List Edg) (R : List Nat) (base gw g c x r : Nat) (b : Bool) (old : Value) (hx : below x N) (hr : r < 4294967296) (w : World) (hM : MachOk nb w gm N E R) (hw : Blk w gw 94 (walkC gm old r b)) (hnw : nb ≤ gw)
  (hs : Own w base 51 1 encU (.slice (some ⟨g, 0, none⟩) (zqe N) c) (zqu x (zqe N))) (hnb : nb ≤ base) (hne : gw ≠ g) (hT : TabOk w) :
  Calls Tryz.prog 28 #[.pointer (some ⟨gw, 0, none⟩), .slice (some ⟨g, 0, none⟩) (zqe N) c] w fun e w' => e = .returned (.tuple #[]) ∧
   Blk w' gw 94 (walkC gm (.slice (some ⟨g, 0, none⟩) (zqe N) c) (r ||| metN R (zzf E N b false (x ||| 1)) N) b) ∧
   Own w' base 51 1 encU (.slice (some ⟨g, 0, none⟩) (zqe N) c) (zqu (zzf E N b false (x ||| 1)) (zqe N)) ∧ Grown2 w w' gw g := by
 have hN := hM.2.1
 have hone := hM.1.one
 have hnb0 := hM.2.2.2.2.1
 have hkb : zqe N ≤ 1099511627776 := by unfold zqe; omega
 have h64 : 0 < 64 * zqe N := Nat.lt_of_lt_of_le hone (zzh N)
 have hgb := hs.lt g rfl
 have hx1 : below (x ||| 1) N := below_or hx (below_pow (show 0 < N from hone))
 obtain ⟨y, hy⟩ : ∃ y, y = zzf E N b false (x ||| 1) := ⟨_, rfl⟩
 have hyN : below y N := by rw [hy]; exact spread_below _ _ _ _ _
 rw [← hy]
 have Hy := Lib.hid hy
 clear hy
 go_enter Tryz.func28, Tryz.ntmps28
 go_upto_region 1 with (go_at_call 35; refine (sadd_any g (zqe N) c x 0 base h64 hkb w hs).mono ?_; rintro e w1 ⟨rfl, hs1, hg1⟩)
 have hw1 := zqk hw hg1 hne
 have hM1 := hM.grown hg1 (by omega)
 have hT1 := tab_grown hT hg1 (by omega)
 refine zql 9 [eqS (.pointer (some ⟨gw, 0, none⟩)), eqS (.pointer (some ⟨gw, 0, none⟩)), eqS (.pointer (some ⟨gw, 0, none⟩)), eqS (.pointer (some ⟨gm, 0, none⟩)), eqS (.slice (some ⟨g, 0, none⟩) (zqe N) c), eqS (.pointer (some ⟨gw, 0, none⟩)), eqS (.pointer (some ⟨gw, 0, none⟩)), eqS (.pointer (some ⟨gw, 3, none⟩)), eqS (.bool b)] [6, 7, 8, 9, 10, 11, 12, 13, 14] rfl (by kernel_rfl) rfl ?_ ?_
 ·refine Steps.cons (fun a' w' hG hB dep => zqi (zqa rfl) _ rfl (hG.other 0 rfl)) ?_
  refine Steps.cons (fun a' w' hG hB dep => gs_nil (zqa rfl) _ rfl _ (dep 0 rfl 6 rfl) rfl) ?_
  refine Steps.cons (fun a' w' hG hB dep => zqn (zqa rfl) _ _ _ rfl gw 0 0 (dep 1 rfl 7 rfl) (field_walk_0 gw) rfl) ?_
  refine Steps.cons (fun a' w' hG hB dep => zqj (zqa rfl) _ _ rfl gw 0 (dep 2 rfl 8 rfl) _ ((zqb hw1 hB).cellv (i := 0) rfl) _ Tryz.underlying88 rfl rfl) ?_
  refine Steps.cons (fun a' w' hG hB dep => zqi (zqa rfl) _ rfl (hG.other 1 rfl)) ?_
  refine Steps.cons (fun a' w' hG hB dep => zqi (zqa rfl) _ rfl (hG.other 0 rfl)) ?_
  refine Steps.cons (fun a' w' hG hB dep => gs_nil (zqa rfl) _ rfl _ (dep 5 rfl 11 rfl) rfl) ?_
  refine Steps.cons (fun a' w' hG hB dep => zqn (zqa rfl) _ _ _ rfl gw 0 3 (dep 6 rfl 12 rfl) (field_walk_3 gw) rfl) ?_
  refine Steps.cons (fun a' w' hG hB dep => zqj (zqa rfl) _ _ rfl gw 3 (dep 7 rfl 13 rfl) _ ((zqb hw1 hB).cellv (i := 3) rfl) _ Tryz.underlying4 rfl rfl) ?_
  exact Steps.nil
 intro u w2 hB2 ans
 have u9 : u 9 = .pointer (some ⟨gm, 0, none⟩) := ans 3 9 (by decide) rfl
 have u10 : u 10 = .slice (some ⟨g, 0, none⟩) (zqe N) c := ans 4 10 (by decide) rfl
 have u14 : u 14 = .bool b := ans 8 14 (by decide) rfl
 clear ans
 simp only [zqr, List.foldl_cons, List.foldl_nil, Act.put, List.setIfInBounds_toArray, List.set_cons_zero, List.set_cons_succ, u9, u10, u14]
 clear u9 u10 u14
 simp only [List.drop]
 have hs2 := hs1.then_ hB2
 refine wl_call rfl _ _ _ rfl enter_goes _ (map4 rfl rfl rfl rfl) ((goes_any nb gm N E R base g c (x ||| 1) b false hx1 w2 (hM1.below hB2 hM1.2.2.2.2.2.1) hs2 hnb (hT1.then_ hT1.size hB2)).mono ?_)
 rintro e w3 ⟨rfl, hs3, hg3⟩
 refine ⟨_, rfl, ?_⟩
 simp only [Act.put, List.setIfInBounds_toArray, List.set_cons_zero, List.set_cons_succ]
 refine wpList_nil ?_
 have hw3 := zqk (zqb hw1 hB2) hg3 hne
 have hM3 := (hM1.below hB2 hM1.2.2.2.2.2.1).grown hg3 (by omega)
 have hT3 := tab_grown (hT1.then_ hT1.size hB2) hg3 (by omega)
 have G3 : Grown2 w w3 gw g := (Grown2.snd hg1).trans ((Grown2.below hB2).trans (Grown2.snd hg3))
 clear hs hs1 hs2 hw hw1 hM hM1 hT hT1 hg1 hB2 hg3
 rw [← Hy.out] at hs3
 go_upto_region 3 with (refine zqt rfl _ _ _ rfl _ _ rfl _ _ (walkC gm (.slice (some ⟨g, 0, none⟩) (zqe N) c) r b) hw3 (by simp [walkC]) info_states1 rfl rfl rfl ?_; intro w4 hw4 hg4)
 simp only [Act.put]
 have hs4 := zxb hs3 hw3 hg4 (by decide)
 have hM4 := hM3.grown hg4 hnw
 have hT4 := tab_grown hT3 hg4 (by omega)
 have G4 : Grown2 w w4 gw g := G3.trans (Grown2.fst hg4)
 clear hs3 hM3 hT3 G3 hw3
 have hgb4 := hs4.lt g rfl
 have hrw : ∀ {w' : World}, Below w4.heap.size w4 w' → ∀ i (h : i < (zqu y (zqe N)).length), RowAt w' g (0 + i) (encU (zqu y (zqe N))[i]) := fun hB i h => by
  have := (hs4.then_ hB).row zzu i h
  rw [Nat.mul_one] at this
  rw [Nat.zero_add]
  exact this
 have hmet : metN R y N < 4294967296 := met_lt hM4.2.2.2.1 y N
 have hor := u32_or_nat r (metN R y N) hr hmet
 refine zql 13 [eqS (.pointer (some ⟨gw, 0, none⟩)), eqS (.pointer (some ⟨gw, 0, none⟩)), eqS (.pointer (some ⟨gw, 2, none⟩)), eqS (.int .u32 (r : Int)), eqS (.pointer (some ⟨gw, 0, none⟩)), eqS (.pointer (some ⟨gw, 0, none⟩)), eqS (.pointer (some ⟨gw, 0, none⟩)), eqS (.pointer (some ⟨gm, 0, none⟩)), eqS (.slice (some ⟨g, 0, none⟩) (zqe N) c), eqS (.int .u32 (metN R y N : Nat)), eqS (.int .u32 (r ||| metN R y N : Nat)), eqS (.pointer (some ⟨gw, 0, none⟩)), eqS (.pointer (some ⟨gw, 2, none⟩))] [20, 21, 22, 23, 24, 25, 26, 27, 28, 29, 30, 31, 32] rfl (by kernel_rfl) rfl ?_ ?_
 ·refine Steps.cons (fun a' w' hG hB dep => zqi (zqa rfl) _ rfl (hG.other 0 rfl)) ?_
  refine Steps.cons (fun a' w' hG hB dep => gs_nil (zqa rfl) _ rfl _ (dep 0 rfl 20 rfl) rfl) ?_
  refine Steps.cons (fun a' w' hG hB dep => zqn (zqa rfl) _ _ _ rfl gw 0 2 (dep 1 rfl 21 rfl) (field_walk_2 gw) rfl) ?_
  refine Steps.cons (fun a' w' hG hB dep => zqj (zqa rfl) _ _ rfl gw 2 (dep 2 rfl 22 rfl) _ ((zqb hw4 hB).cellv (i := 2) rfl) _ Tryz.underlying42 rfl rfl) ?_
  refine Steps.cons (fun a' w' hG hB dep => zqi (zqa rfl) _ rfl (hG.other 0 rfl)) ?_
  refine Steps.cons (fun a' w' hG hB dep => gs_nil (zqa rfl) _ rfl _ (dep 4 rfl 24 rfl) rfl) ?_
  refine Steps.cons (fun a' w' hG hB dep => zqn (zqa rfl) _ _ _ rfl gw 0 0 (dep 5 rfl 25 rfl) (field_walk_0 gw) rfl) ?_
  refine Steps.cons (fun a' w' hG hB dep => zqj (zqa rfl) _ _ rfl gw 0 (dep 6 rfl 26 rfl) _ ((zqb hw4 hB).cellv (i := 0) rfl) _ Tryz.underlying88 rfl rfl) ?_
  refine Steps.cons (fun a' w' hG hB dep => zqi (zqa rfl) _ rfl (hG.other 1 rfl)) ?_
  refine Steps.cons (fun a' w' hG hB dep => zze (zqa rfl) _ _ _ rfl enter_met _ (map2 (dep 7 rfl 27 rfl) (dep 8 rfl 28 rfl)) ((met_any nb gm N E R g 0 c y hyN w' (hM4.below hB hM4.2.2.2.2.2.1) (hrw hB) (Nat.lt_of_lt_of_le hgb4.2 hB.size) (hT4.then_ hT4.size hB)).mono fun e w2 ⟨he, hb⟩ => ⟨_, he, hb, rfl⟩)) ?_
  refine Steps.cons (fun a' w' hG hB dep => gs_or_u32 (zqa rfl) _ _ _ _ rfl _ _ (dep 3 rfl 23 rfl) (dep 9 rfl 29 rfl) _ hor rfl) ?_
  refine Steps.cons (fun a' w' hG hB dep => gs_nil (zqa rfl) _ rfl _ (dep 0 rfl 20 rfl) rfl) ?_
  refine Steps.cons (fun a' w' hG hB dep => zqn (zqa rfl) _ _ _ rfl gw 0 2 (dep 11 rfl 31 rfl) (field_walk_2 gw) rfl) ?_
  exact Steps.nil
 intro u w5 hB5 ans
 have u30 : u 30 = .int .u32 (r ||| metN R y N : Nat) := ans 10 30 (by decide) rfl
 have u32 : u 32 = .pointer (some ⟨gw, 2, none⟩) := ans 12 32 (by decide) rfl
 clear ans
 simp only [zqr, List.foldl_cons, List.foldl_nil, Act.put, List.setIfInBounds_toArray, List.set_cons_zero, List.set_cons_succ, u30, u32]
 clear u30 u32
 simp only [List.drop]
 have hw5 := zqb hw4 hB5
 refine zqt rfl _ _ _ rfl _ _ rfl _ _ (walkC gm (.slice (some ⟨g, 0, none⟩) (zqe N) c) (r ||| metN R y N) b) hw5 (by simp [walkC]) info_u32 rfl rfl rfl ?_
 intro w6 hw6 hg6
 refine wpList_nil ?_
 have hs6 := zxb (hs4.then_ hB5) hw5 hg6 (by decide)
 have G6 : Grown2 w w6 gw g := G4.trans ((Grown2.below hB5).trans (Grown2.fst hg6))
 clear hw4 hw5 hs4 hM4 hT4 hg4 hB5 hg6 hrw
 go_wp2_with (fail)
 first | (refine bodyPost_end (results_none rfl _ _ _) rfl ?_) | (refine bodyPost_ret (results_none rfl _ _ _) rfl ?_)
 exact ⟨rfl, hw6, hs6, G6⟩
def MachIn (lo nb : Nat) (W : World) (gm N : Nat) (E : List Edg) (R : List Nat) : Prop :=
 ∀ W', (∀ k, lo ≤ k → k < nb → W'.heap[k]? = W.heap[k]?) → W.heap.size ≤ W'.heap.size → MachOk nb W' gm N E R
theorem MachIn.ok {lo nb gm N : Nat} {W : World} {E : List Edg} {R : List Nat} (h : MachIn lo nb W gm N E R) : MachOk nb W gm N E R := h W (fun _ _ _ => rfl) (Nat.le_refl _)
theorem MachIn.keep {lo nb gm N : Nat} {W W' : World} {E : List Edg} {R : List Nat} (h : MachIn lo nb W gm N E R) (hk : ∀ k, lo ≤ k → k < nb → W'.heap[k]? = W.heap[k]?) (hs : W.heap.size ≤ W'.heap.size) : MachIn lo nb W' gm N E R :=
 fun W2 h1 h2 => h W2 (fun k a b => (h1 k a b).trans (hk k a b)) (Nat.le_trans hs h2)
theorem MachIn.grown {lo nb gm N r : Nat} {W W' : World} {E : List Edg} {R : List Nat} (h : MachIn lo nb W gm N E R) (hg : W.grownBy W' (some r)) (hr : r < lo ∨ nb ≤ r) : MachIn lo nb W' gm N E R :=
 h.keep (fun k h1 h2 => hg.block k (by have := h.ok.2.2.2.2.2.1; omega) (by intro e; injection e with e; omega)) hg.size
def WalkOk (lo nb : Nat) (W : World) (gw gm N : Nat) (E : List Edg) (R : List Nat) (k : Wk) : Prop :=
 MachIn lo nb W gm N E R ∧ nb ≤ gw ∧ k.met < 4294967296 ∧ below k.at_ N ∧ ∃ g c, gw ≠ g ∧ Blk W gw 94 (walkC gm (.slice (some ⟨g, 0, none⟩) (zqe N) c) k.met k.first) ∧
  Own W nb 51 1 encU (.slice (some ⟨g, 0, none⟩) (zqe N) c) (zqu k.at_ (zqe N))
theorem WalkOk.lt {lo nb gw gm N : Nat} {W : World} {E : List Edg} {R : List Nat} {k : Wk} (h : WalkOk lo nb W gw gm N E R k) : gw < W.heap.size := by
 obtain ⟨_, _, _, _, g, c, _, h5, _⟩ := h
 exact h5.lt
theorem WalkOk.then_ {lo nb gw gm N : Nat} {W W' : World} {E : List Edg} {R : List Nat} {k : Wk} (h : WalkOk lo nb W gw gm N E R k) (hb : Below W.heap.size W W') : WalkOk lo nb W' gw gm N E R k := by
 obtain ⟨h1, h2, h3, h4, g, c, h5, h6, h7⟩ := h
 exact ⟨h1.keep (fun i _ hi => hb.block i (by have := h1.ok.2.2.2.2.2.1; omega)) hb.size, h2, h3, h4, g, c, h5, zqb h6 hb, h7.then_ hb⟩
theorem rules_any (lo nb gw gm N : Nat) (E : List Edg) (R : List Nat) (k : Wk) (w : World) (h : WalkOk lo nb w gw gm N E R k) :
  Calls Tryz.prog 10 #[.pointer (some ⟨gw, 0, none⟩)] w fun e w' => e = .returned (.int .u32 (k.met : Nat)) ∧ w' = w := by
 obtain ⟨_, _, _, _, g, c, _, h6, _⟩ := h
 have c2 : w.cell? ⟨gw, 2, none⟩ = some (.int .u32 (k.met : Nat)) := h6.cellv (i := 2) rfl
 go_enter Tryz.func10, Tryz.ntmps10
 go_wp2_with (fail)
 go_ret
 exact ⟨rfl, rfl⟩
end Go.Proofs.YtkedgombccdamaaGreatDoor
namespace Go.Proofs.YtkedgombccdamaaGreatDoor
open Go.RowKit Go.Maps
set_option linter.unusedVariables false
set_option linter.unusedSimpArgs false
attribute [local go_sem] Oper.semAt_some
def bs (l : List UInt8) : ByteArray := ⟨l.toArray⟩
theorem bs_size (l : List UInt8) : (bs l).size = l.length := by simp [bs, ByteArray.size]
theorem bs_app (l m : List UInt8) : bs l ++ bs m = bs (l ++ m) := by
 apply ByteArray.ext
 rw [ByteArray.data_append]
 simp [bs]
theorem bs_inj {l m : List UInt8} (h : bs l = bs m) : l = m := by
 have := congrArg (fun b => b.data.toList) h
 simpa [bs] using this
theorem run_add_str (l m : List UInt8) (h : l.length + m.length ≤ 1099511627776) (w : World) : (binOp .add 9 (.string (bs l)) (.string (bs m))).run Tryz.prog w = .ok (.string (bs (l ++ m))) w := by
 rw [binOp_string_add]
 have h1 := bs_size l
 have h2 := bs_size m
 have h3 : ¬ ((((bs l).size + (bs m).size : Nat) : Int) > IntKind.i64.max) := by
  rw [h1, h2]
  have : IntKind.i64.max = 9223372036854775807 := by decide
  omega
 unfold Op.stringOp
 simp only [h3, if_false, bs_app]
 rfl
theorem conv_u32_u64 (r : Nat) (h : r < 4294967296) (w : World) : (Go.convert 42 51 (.int .u32 (r : Int))).run Tryz.prog w = .ok (.int .u64 (r : Int)) w := by
 have e : (Go.convert 42 51 (.int .u32 (r : Int))).run Tryz.prog w = .ok (.int .u64 (IntKind.u64.wrap (r : Int))) w := by kernel_rfl
 rw [e]
 have : IntKind.u64.wrap (r : Int) = (r : Int) := by simp [IntKind.wrap, IntKind.bits, IntKind.signed]; omega
 rw [this]
theorem enter_fu (args : Array Value) (w : World) : (callFunc 44 args).run Tryz.prog w = .ok (.enter 44 args) w := by kernel_rfl
section
variable {ops : Array Oper} {S : Nat → GSpec} {Q : Exit → Act → World → Prop} {i : Nat} {o : Oper} {a : Act} {w : World} {rest : List Oper}
theorem gs_add_str (hw : Region.wanted o (yielded ops a.tmps) = true) (x y : Operand) (t2 : TypeId) (ho : o.op = .binOp .add 9 x y t2) (l m : List UInt8) (hx : a.eval x = .string (bs l)) (hy : a.eval y = .string (bs m)) (h : l.length + m.length ≤ 1099511627776) (hp : (S i).p (.string (bs (l ++ m))) w) : GStep Tryz.prog ops S Q i o a w :=
 gs_bin hw _ _ _ x y ho _ _ _ hx hy (by rfl) (run_add_str l m h w) hp
theorem wl_add_str (hgd : o.guard = none) (x y : Operand) (t2 : TypeId) (ho : o.op = .binOp .add 9 x y t2) (l m : List UInt8) (hx : a.eval x = .string (bs l)) (hy : a.eval y = .string (bs m)) (h : l.length + m.length ≤ 1099511627776) (hK : wpList Tryz.prog ops Q rest (a.put o.dst (.string (bs (l ++ m)))) w) : wpList Tryz.prog ops Q (o :: rest) a w :=
 wl_bin hgd _ _ _ x y ho _ _ _ hx hy (by rfl) (run_add_str l m h w) hK
theorem gs_u32_u64 (hw : Region.wanted o (yielded ops a.tmps) = true) (x : Operand) (ho : o.op = .convert 42 51 x) (r : Nat) (hx : a.eval x = .int .u32 (r : Int)) (h : r < 4294967296) (hp : (S i).p (.int .u64 (r : Int)) w) : GStep Tryz.prog ops S Q i o a w :=
 zzx hw (v := .int .u64 (r : Int)) (by unfold execOp; simp only [ho, hx, Sem.run_bind, conv_u32_u64 r h, Result.andThen_ok, Sem.run_pure]) (Below.refl _ _) hp
end
def momC (A : Option Addr) (k c r e : Nat) : Array Value := #[.slice A k c, .int .u32 (r : Int), .int .u32 (e : Int)]
theorem field_mom_1 (b off : Nat) (w : World) : (Instr.fieldAt 81 (.pointer (some ⟨b, off, none⟩)) 1).run Tryz.prog w = .ok (.pointer (some ⟨b, off + 1, none⟩)) w := by kernel_rfl
theorem field_mom_2 (b off : Nat) (w : World) : (Instr.fieldAt 81 (.pointer (some ⟨b, off, none⟩)) 2).run Tryz.prog w = .ok (.pointer (some ⟨b, off + 2, none⟩)) w := by kernel_rfl
theorem join36_len (l : List Nat) : (join36 l).length ≤ 15 * l.length := by
 induction l with
 | nil => simp [join36]
 | cons u l ih =>
   have := dig36_len u
   simp [join36]
   omega
set_option maxRecDepth 100000 in
set_option maxHeartbeats 4000000 in
theorem key_any (A : Option Addr) (k c r e : Nat) (ws : List Nat) (hk : k = ws.length) (hkl : k ≤ 1048576) (hr : r < 4294967296) (he : e < 4294967296) (hws : ∀ u ∈ ws, u < 18446744073709551616) (w : World) (hs : SliceOf w w.heap.size 1 encU A ws) :
  Calls Tryz.prog 24 #[.agg (momC A k c r e)] w fun en w' => en = .returned (.string (bs (keyL r e ws))) ∧ Below w.heap.size w w' := by
 have Hk := Lib.hid hk
 have Hws := Lib.hid hws
 clear hk hws
 go_enter Tryz.func24, Tryz.ntmps24
 have hM := Blk.new w 81 (momC A k c r e)
 have hB1 : Below w.heap.size w (w.alloc (.cells (momC A k c r e) 81)) := zqc (Below.refl _ _) _
 go_upto_region 1 with (fail)
 obtain ⟨W1, hW1⟩ : ∃ y, y = w.alloc (.cells (momC A k c r e) 81) := ⟨_, rfl⟩
 rw [← hW1] at hM hB1 ⊢
 clear hW1
 obtain ⟨gm, hgm⟩ : ∃ y, y = w.heap.size := ⟨_, rfl⟩
 rw [← hgm] at hM ⊢
 clear hgm
 refine zql 11 [eqS (.pointer (some ⟨gm, 1, none⟩)), eqS (.int .u32 (((r : Nat) : Int))), eqS (.int .u64 (((r : Nat) : Int))), eqS (.string (bs (dig36 r))), eqS (.string (bs (dig36 r ++ [32]))), eqS (.pointer (some ⟨gm, 2, none⟩)), eqS (.int .u32 (((e : Nat) : Int))), eqS (.int .u64 (((e : Nat) : Int))), eqS (.string (bs (dig36 e))), eqS (.string (bs (dig36 r ++ [32] ++ dig36 e))), eqS (.string (bs (dig36 r ++ [32] ++ dig36 e)))] [6, 7, 8, 9, 10, 11, 12, 13, 14, 15, 3] zqp (by kernel_rfl) (by kernel_rfl) ?_ ?_
 ·skip
  refine Steps.cons (fun a' w' hG hB dep => zqn (zqa rfl) _ _ _ rfl gm (0) (1) (hG.other 1 rfl) (fun wz => field_mom_1 gm (0) wz) rfl) ?_
  refine Steps.cons (fun a' w' hG hB dep => zqj (zqa rfl) _ _ rfl gm (1) (dep 0 rfl 6 rfl) (.int .u32 (((r : Nat) : Int))) ((zqb hM hB).cellv (i := 1) rfl) _ Tryz.underlying42 rfl rfl) ?_
  refine Steps.cons (fun a' w' hG hB dep => gs_u32_u64 (zqa rfl) _ rfl r (dep 1 rfl 7 rfl) hr rfl) ?_
  refine Steps.cons (fun a' w' hG hB dep => zze (zqa rfl) _ _ _ rfl enter_fu #[(.int .u64 (((r : Nat) : Int))), .int .i64 36] (map2 (dep 2 rfl 8 rfl) rfl) (ret_step (uint36_any r (by omega) _) (fun _ => rfl))) ?_
  refine Steps.cons (fun a' w' hG hB dep => gs_add_str (zqa rfl) _ _ _ rfl (dig36 r) ([32]) (dep 3 rfl 9 rfl) rfl (by have := dig36_len r; have := dig36_len e; simp [bs_size]; omega) rfl) ?_
  refine Steps.cons (fun a' w' hG hB dep => zqn (zqa rfl) _ _ _ rfl gm (0) (2) (hG.other 1 rfl) (fun wz => field_mom_2 gm (0) wz) rfl) ?_
  refine Steps.cons (fun a' w' hG hB dep => zqj (zqa rfl) _ _ rfl gm (2) (dep 5 rfl 11 rfl) (.int .u32 (((e : Nat) : Int))) ((zqb hM hB).cellv (i := 2) rfl) _ Tryz.underlying42 rfl rfl) ?_
  refine Steps.cons (fun a' w' hG hB dep => gs_u32_u64 (zqa rfl) _ rfl e (dep 6 rfl 12 rfl) he rfl) ?_
  refine Steps.cons (fun a' w' hG hB dep => zze (zqa rfl) _ _ _ rfl enter_fu #[(.int .u64 (((e : Nat) : Int))), .int .i64 36] (map2 (dep 7 rfl 13 rfl) rfl) (ret_step (uint36_any e (by omega) _) (fun _ => rfl))) ?_
  refine Steps.cons (fun a' w' hG hB dep => gs_add_str (zqa rfl) _ _ _ rfl (dig36 r ++ [32]) (dig36 e) (dep 4 rfl 10 rfl) (dep 8 rfl 14 rfl) (by have := dig36_len r; have := dig36_len e; simp [bs_size]; omega) rfl) ?_
  refine Steps.cons (fun a' w' hG hB dep => zxl (zqa rfl) _ rfl (id (dep 9 rfl 15 rfl))) ?_
  exact Steps.nil
 intro uu w2 hB2 ans
 have u3 : uu 3 = .string (bs ((dig36 r ++ [32]) ++ dig36 e)) := ans 10 3 (by decide) rfl
 clear ans
 simp only [zqr, List.foldl_cons, List.foldl_nil, Act.put, List.setIfInBounds_toArray, List.set_cons_zero, List.set_cons_succ, u3]
 clear u3
 simp only [List.drop]
 refine wpList_nil ?_
 have e0 : (dig36 r ++ [32]) ++ dig36 e = keyL r e (ws.take 0) := by simp [keyL, join36]
 rw [e0]
 replace hM := zqb hM hB2
 replace hB1 := zqd hB1 hB2
 have c0 : w2.cell? ⟨gm, 0, none⟩ = some (.slice A k c) := hM.cellv (i := 0) rfl
 clear e0 hB2
 go_wp2_with (fail)
 go_loopw [3, 19] (fun sv iv wr => ∃ j : Nat, j ≤ k ∧ iv = .int .i64 j ∧ sv = .string (bs (keyL r e (ws.take j))) ∧ Below w.heap.size w wr) (fun _ iv _ => k - (intOf iv).toNat)
 case atStart => exact ⟨0, by omega, rfl, rfl, hB1⟩
 case round =>
  clear hB1 c0 hM
  obtain ⟨j, hj, rfl, rfl, hB⟩ := hrel
  by_cases hjk : j < k
  ·have hjI : (j : Int) < k := by omega
   have hjb : j < 1099511628000 := by omega
   have hjl : j < ws.length := by rw [← Hk.out]; exact hjk
   obtain ⟨ba, off, rfl, hba, hrows⟩ := hs.at_ (by omega)
   obtain ⟨u, hu⟩ : ∃ u, u = ws[j] := ⟨_, rfl⟩
   have hul : u < 18446744073709551616 := by rw [hu]; exact Hws.out _ (List.getElem_mem hjl)
   have hc : wr.cell? ⟨ba, off + j, none⟩ = some (.int .u64 (u : Int)) := by
    have := ((hrows j hjl).keep (hB.block ba (by omega))) 0 _ rfl
    rw [Nat.mul_one, Nat.add_zero, ← hu] at this
    exact this
   have hkey : keyL r e (ws.take (j + 1)) = keyL r e (ws.take j) ++ ([32] ++ dig36 u) := by
    rw [List.take_succ_eq_append_getElem hjl, ← hu]
    unfold keyL
    rw [← List.cons_append, join36_snoc]
    simp
   have hlen : (keyL r e (ws.take j)).length ≤ 15 * k + 29 := by
    have h1 := dig36_len r
    have h2 := join36_len (e :: ws.take j)
    unfold keyL
    rw [List.length_append]
    simp only [List.length_cons, List.length_take] at h2
    omega
   have hlu := dig36_len u
   have Hkey := Lib.hid hkey
   obtain ⟨K, hK⟩ : ∃ K, K = keyL r e (ws.take j) := ⟨_, rfl⟩
   rw [← hK] at hlen ⊢
   have HK := Lib.hid hK
   have Hlen := Lib.hid (And.intro hlen hlu)
   clear hkey hlen hlu hK hu hrows
   go_wp2_with (first
    | (go_at_call 44; refine (uint36_any u hul _).mono ?_; rintro en w3 ⟨rfl, hB3⟩)
    | (refine wl_add_str rfl _ _ _ rfl [32] (dig36 u) rfl rfl (by have := Hlen.out; simp; omega) ?_)
    | (refine wl_add_str rfl _ _ _ rfl K ([32] ++ dig36 u) rfl rfl (by have := Hlen.out; simp; omega) ?_))
   exact ⟨⟨j + 1, by omega, rfl, by rw [Hkey.out, ← HK.out]; rfl, zqd hB hB3⟩, by simp only [intOf]; omega⟩
  ·have hjI : ¬ (j : Int) < k := by omega
   have ht : ws.take j = ws := List.take_of_length_le (by have := Hk.out; omega)
   rw [ht]
   go_wp2_with (fail)
   go_ret
   exact ⟨rfl, hB⟩
end Go.Proofs.YtkedgombccdamaaGreatDoor
namespace Go.Proofs.YtkedgombccdamaaGreatDoor
open Go.RowKit Go.Maps
theorem Turn.above {lo hi lo2 hi2 : Nat} {w w' w2 : World} (h : Turn lo hi w w') (k : Turn lo2 hi2 w' w2) (hl : w.heap.size ≤ lo2) : Turn lo hi w w2 :=
 ⟨k.os.trans h.os, k.tape.trans h.tape, k.output.trans h.output, Nat.le_trans h.size k.size, fun j hj hh => (k.block j (by have := h.size; omega) (.inl (by omega))).trans (h.block j hj hh)⟩
end Go.Proofs.YtkedgombccdamaaGreatDoor
namespace Go.Proofs.YtkedgombccdamaaGreatDoor
open Go.RowKit Go.Shelf Go.Maps
set_option linter.unusedVariables false
set_option linter.unusedSimpArgs false
attribute [local go_sem] Oper.semAt_some
set_option maxHeartbeats 400000 in
theorem khas_any (A : Option Addr) (k c x n : Nat) (hn : n < 64 * k) (hkb : k ≤ 1099511627776) (B : Nat) (w : World) (hs : SliceOf w B 1 encU A (zqu x k)) :
  Calls Tryz.prog 48 #[.slice A k c, .int .i64 n] w fun e w' => e = .returned (.bool (x.testBit n)) ∧ w' = w := by
 have hj : n / 64 < (zqu x k).length := by rw [zqz]; omega
 obtain ⟨b, off, rfl, hb, hrow⟩ := hs.at_ (by omega)
 have hc := hrow (n / 64) hj 0 _ rfl
 rw [wordsN_get] at hc
 have hc' : w.cell? ⟨b, off + n / 64, none⟩ = some (.int .u64 (wordN x (n / 64) : Nat)) := by rw [Nat.mul_one] at hc; exact hc
 have hk : n / 64 < k := by omega
 have hbit := u64_bit (n := n % 64) (wordN_lt' x (n / 64))
 rw [has_word] at hbit
 clear hc hrow hs
 go_enter Tryz.func48, Tryz.ntmps48
 go_wp2
 go_ret
 exact ⟨rfl, rfl⟩
set_option maxHeartbeats 400000 in
theorem kadd_any (g k c x n base : Nat) (hn : n < 64 * k) (hkb : k ≤ 1099511627776) (w : World) (hs : Own w base 51 1 encU (.slice (some ⟨g, 0, none⟩) k c) (zqu x k)) :
  Calls Tryz.prog 45 #[.slice (some ⟨g, 0, none⟩) k c, .int .i64 n] w fun e w' => e = .returned (.tuple #[]) ∧ Own w' base 51 1 encU (.slice (some ⟨g, 0, none⟩) k c) (zqu (x ||| 2 ^ n) k) ∧ w.grownBy w' (some g) := by
 have hj : n / 64 < (zqu x k).length := by rw [zqz]; omega
 have hc := hs.row zzu (n / 64) hj 0 _ rfl
 rw [wordsN_get, Nat.mul_one] at hc
 have hc' : w.cell? ⟨g, n / 64, none⟩ = some (.int .u64 (wordN x (n / 64) : Nat)) := hc
 have f1 := hs.frozen (n / 64)
 have hk : n / 64 < k := by omega
 have hor := u64_or_pow (n := n % 64) (wordN_lt' x (n / 64)) (by omega)
 clear hc
 go_enter Tryz.func45, Tryz.ntmps45
 go_region
 go_end0
 refine ⟨rfl, ?_, only_drew (zzi (zzk _ _) (.inl rfl) _)⟩
 have o1 := hs.setCell (i := n / 64) (q := 0) (y' := wordN x (n / 64) ||| 2 ^ (n % 64)) (u := .int .u64 ((wordN x (n / 64) ||| 2 ^ (n % 64) : Nat) : Int)) zzu hj (by omega) rfl
 rw [words_add, Nat.mul_one, Nat.add_zero] at o1
 exact o1.drew
def kmC (N : Nat) (A : Option Addr) (n c : Nat) (B : Option Addr) (m d bf cF : Nat) : Array Value := #[.int .i64 (N : Int), .slice A n c, .slice B m d, .slice (some ⟨bf, 0, none⟩) N cF]
structure SMach (nb : Nat) (W : World) (gk N : Nat) (E : List Edg) (R : List Nat) : Prop where
 fits : Fits N E R
 lN : N ≤ 1048576
 lE : E.length ≤ 1099511627776
 lt : ∀ r ∈ R, r < 4294967296
 low : nb ≤ W.heap.size
 mem : gk < nb ∧ ∃ A n c B d bf cF, Blk W gk 67 (kmC N A n c B R.length d bf cF) ∧ SliceOf W nb 1 encR B R ∧ bf < nb ∧
  ∀ s, s < N → ∃ As cs, W.cell? ⟨bf, s, none⟩ = some (.slice As (zqq E s).length cs) ∧ SliceOf W nb 7 edgC As (zqq E s)
theorem SMach.keep {nb : Nat} {W W' : World} {gk N : Nat} {E : List Edg} {R : List Nat} (h : SMach nb W gk N E R) (hk : ∀ k, k < nb → W'.heap[k]? = W.heap[k]?) (hs : W.heap.size ≤ W'.heap.size) : SMach nb W' gk N E R := by
 obtain ⟨h1, A, n, c, B, d, bf, cF, h2, h3, h4, h5⟩ := h.mem
 refine ⟨h.fits, h.lN, h.lE, h.lt, Nat.le_trans h.low hs, h1, A, n, c, B, d, bf, cF, (hk gk h1).trans h2, h3.keep hk, h4, fun s hs => ?_⟩
 obtain ⟨As, cs, e1, e2⟩ := h5 s hs
 exact ⟨As, cs, (World.cell?_of_block (w := W) (hk bf h4)).trans e1, e2.keep hk⟩
theorem SMach.below {nb n : Nat} {W W' : World} {gk N : Nat} {E : List Edg} {R : List Nat} (h : SMach nb W gk N E R) (hb : Below n W W') (hn : nb ≤ n) : SMach nb W' gk N E R := h.keep (fun k hk => hb.block k (by omega)) hb.size
theorem SMach.turn {nb lo hi : Nat} {W W' : World} {gk N : Nat} {E : List Edg} {R : List Nat} (h : SMach nb W gk N E R) (hb : Turn lo hi W W') (hn : nb ≤ lo) : SMach nb W' gk N E R := h.keep (fun k hk => hb.block k (by have := h.low; omega) (.inl (by omega))) hb.size
theorem kwords (N : Nat) : ((N : Int) + 63) / 64 = ((zqe N : Nat) : Int) := by unfold zqe; omega
set_option maxHeartbeats 400000 in
theorem knone_any (nb gk N : Nat) (E : List Edg) (R : List Nat) (w : World) (h : SMach nb w gk N E R) :
  Calls Tryz.prog 26 #[.pointer (some ⟨gk, 0, none⟩)] w fun e w' => ∃ g, e = .returned (.slice (some ⟨g, 0, none⟩) (zqe N) (zqe N)) ∧ w.heap.size ≤ g ∧ Own w' w.heap.size 51 1 encU (.slice (some ⟨g, 0, none⟩) (zqe N) (zqe N)) (zqu 0 (zqe N)) ∧ Below w.heap.size w w' := by
 have hN := h.lN
 obtain ⟨h1, A, n, c, B, d, bf, cF, hb, h3, h4, h5⟩ := h.mem
 have c0 : w.cell? ⟨gk, 0, none⟩ = some (.int .i64 (N : Int)) := hb.cellv rfl
 obtain ⟨i0, hi0, hz0, hz1, hz2⟩ := info_parts info_u64z
 have hkI := kwords N
 have hk2 : zqe N ≤ 549755813889 := by unfold zqe; omega
 clear hb h h5
 go_enter Tryz.func26, Tryz.ntmps26
 go_wp2_with (at_make; refine wpList_make_full _ rfl _ _ 79 rfl w.heap.size 51 i0 _ 1 Tryz.underlying79 hi0 hz0 hz1 _ _ _ _ (zqe N) rfl rfl hkI hkI (by rw [hz2]; omega) (by unfold maxLen; omega) (Nat.le_refl _) ?_; intro w1 hown hg)
 go_ret
 refine ⟨w.heap.size, rfl, Nat.le_refl _, ?_, ⟨hg.os, hg.tape, hg.output, hg.size, fun k hk => hg.block k hk (by simp)⟩⟩
 have e1 : (madeCells (Value.int .u64 0).cells (zqe N * 1)).toList = flat encU (zqu 0 (zqe N)) := by
  rw [wordsN_zero]
  apply List.ext_getElem
  ·rw [Array.length_toList, size_madeCells]
   simp [flat, encU]
  ·intro j h1 h2
   simp [madeCells, Value.cells, flat, encU, List.flatMap_replicate]
   rw [Nat.mod_one]
   rfl
 rw [e1] at hown
 unfold Own
 rw [zqz]
 exact hown
theorem met_succ (R : List Nat) (x n : Nat) : metN R x (n + 1) = if x.testBit n = true then metN R x n ||| R.getD n 0 else metN R x n := by
 unfold metN
 rw [zyd]
 split <;> simp
set_option maxRecDepth 100000 in
set_option maxHeartbeats 2000000 in
theorem krules_any (nb gk N B g c x : Nat) (E : List Edg) (R : List Nat) (w : World) (h : SMach nb w gk N E R) (hs : SliceOf w B 1 encU (some ⟨g, 0, none⟩) (zqu x (zqe N))) :
  Calls Tryz.prog 47 #[.pointer (some ⟨gk, 0, none⟩), .slice (some ⟨g, 0, none⟩) (zqe N) c] w fun e w' => e = .returned (.int .u32 (metN R x N : Nat)) ∧ w' = w := by
 have hN := h.lN
 have hlt := h.lt
 have hlr := h.fits.rules
 obtain ⟨h1, A, n, c2, B2, d, bf, cF, hb, hR, h4, h5⟩ := h.mem
 rw [hlr] at hb
 have c2 : w.cell? ⟨gk, 2, none⟩ = some (.slice B2 N d) := hb.cellv (i := 2) rfl
 have hkb : zqe N ≤ 1099511627776 := by unfold zqe; omega
 have Hlt := Lib.hid hlt
 have Hlr := Lib.hid hlr
 have Hs := Lib.hid hs
 clear hb h h5 hlt hlr hs
 go_enter Tryz.func47, Tryz.ntmps47
 go_wp2_with (fail)
 go_loopw [5, 14] (fun rv iv wr => ∃ j : Nat, j ≤ N ∧ iv = .int .i64 j ∧ rv = .int .u32 ((metN R x j : Nat) : Int) ∧ wr = w) (fun _ iv _ => N - (intOf iv).toNat)
 case atStart => exact ⟨0, by omega, rfl, by simp [metN, zzj], rfl⟩
 case round =>
  obtain ⟨j, hj, rfl, rfl, rfl⟩ := hrel
  by_cases hjl : j < N
  ·have hjI : (j : Int) < N := by omega
   have hjb : j < 1099511628000 := by omega
   have hjr : j < R.length := by rw [Hlr.out]; exact hjl
   obtain ⟨ba, off, rfl, hba, hrows⟩ := hR.at_ (by omega)
   obtain ⟨v, hv⟩ : ∃ v, v = R[j] := ⟨_, rfl⟩
   have hc : wr.cell? ⟨ba, off + j, none⟩ = some (.int .u32 (v : Int)) := by
    have := (hrows j hjr) 0 _ rfl
    rw [Nat.mul_one, Nat.add_zero, ← hv] at this
    exact this
   have hvl : v < 4294967296 := by rw [hv]; exact Hlt.out _ (List.getElem_mem hjr)
   have hml : metN R x j < 4294967296 := met_lt (fun r hr => Hlt.out r hr) x j
   have hst := met_succ R x j
   rw [show R.getD j 0 = v by rw [List.getD_eq_getElem?_getD, List.getElem?_eq_getElem hjr, Option.getD_some, hv]] at hst
   obtain ⟨m0, hm0⟩ : ∃ m, m = metN R x j := ⟨_, rfl⟩
   rw [← hm0] at hml hst ⊢
   have hor := u32_or_nat m0 v hml hvl
   have hh := khas_any (some ⟨g, 0, none⟩) (zqe N) c x j (by have := zzh N; omega) hkb B wr Hs.out
   obtain ⟨b, hbt⟩ : ∃ b, x.testBit j = b := ⟨_, rfl⟩
   rw [hbt] at hh hst
   have Hst := Lib.hid hst
   clear hst hm0 hv hrows hbt hml hvl
   cases b with
   | true =>
     go_wp2_with (go_at_call 48; refine hh.mono ?_; rintro e w5 ⟨rfl, rfl⟩)
     exact ⟨⟨j + 1, by omega, rfl, by rw [Hst.out]; rfl, trivial⟩, by simp only [intOf]; omega⟩
   | false =>
     go_wp2_with (go_at_call 48; refine hh.mono ?_; rintro e w5 ⟨rfl, rfl⟩)
     exact ⟨⟨j + 1, by omega, rfl, by rw [Hst.out]; rfl, trivial⟩, by simp only [intOf]; omega⟩
  ·have hjI : ¬ (j : Int) < N := by omega
   obtain rfl : j = N := by omega
   go_wp2_with (fail)
   go_ret
   exact ⟨rfl, rfl⟩
theorem under_intsK : Tryz.prog.underlying 47 = some (.slice (Tryz.prog.elem 47)) := by kernel_rfl
theorem size_intK (w : World) : (sizeOf (Tryz.prog.elem 47)).run Tryz.prog w = .ok 1 w := by kernel_rfl
section
variable {ops : Array Oper} {rest : List Oper} {o : Oper} {a : Act} {w : World} {Q : Exit → Act → World → Prop}
theorem wl_pushI (hgd : o.guard = none) (s x : Operand) (ho : o.op = .call { callee := .builtin .append, args := #[s, x], argTypes := #[47, 47] })
  (base : Nat) (l : List Nat) (z : Nat) {A : Option Addr} {n c g : Nat} (hs : a.eval s = .slice A n c) (hx : a.eval x = .slice (some ⟨g, 0, none⟩) 1 1) (hb1 : Blk w g 3 (encN z)) (hown : Own w base 3 1 encN (.slice A n c) l) (hn : n = l.length) (hl : l.length ≤ 1099511627776) (hbase : base ≤ w.heap.size)
  (h : ∀ A' c' w', Own w' base 3 1 encN (.slice A' (n + 1) c') (l ++ [z]) → w.grownBy w' (Value.slice A n c).ownBlock → wpList Tryz.prog ops Q rest (a.put o.dst (.slice A' (n + 1) c')) w') : wpList Tryz.prog ops Q (o :: rest) a w := by
 obtain ⟨ii, hii, hz0, hz1, hz2⟩ := info_parts info_int3
 subst hn
 refine zxh _ hgd _ _ 47 ho base 3 ii _ 1 8 Tryz.underlying47 hii hz0 hz1 hz2 rfl (by decide) encN_size encN_one (.slice A l.length c) l hs hown _ _ 1 1 [z] hx rfl (zxk (enc := encN) hb1) (by unfold maxLen; omega) (by omega) hbase ?_
 intro v' w' ho' hg hv
 obtain ⟨A', c', rfl, _, _⟩ := ho'.shape
 have hl8 : (l ++ [z]).length = l.length + 1 := by simp
 rw [hl8] at ho' hv ⊢
 exact h _ _ _ ho' hg
end
def lenV : Value → Nat
 | .slice _ n _ => n
 | _ => 0
section
open Classical
noncomputable def subLeft (N base g c : Nat) (v : Value) (wr : World) : Nat :=
 if h : ∃ y : Nat, Own wr base 51 1 encU (.slice (some ⟨g, 0, none⟩) (zqe N) c) (zqu y (zqe N)) ∧ below y N then 2 * (N - (zzj (Classical.choose h) N).length) + lenV v else 0
end
theorem subLeft_eq {N base g c y n k : Nat} {A : Option Addr} {wr : World} (h2 : Own wr base 51 1 encU (.slice (some ⟨g, 0, none⟩) (zqe N) c) (zqu y (zqe N))) (h3 : below y N) :
  subLeft N base g c (.slice A n k) wr = 2 * (N - (zzj y N).length) + n := by
 have hex : ∃ y : Nat, Own wr base 51 1 encU (.slice (some ⟨g, 0, none⟩) (zqe N) c) (zqu y (zqe N)) ∧ below y N := ⟨y, h2, h3⟩
 unfold subLeft
 rw [dif_pos hex]
 obtain ⟨e2, e3⟩ := Classical.choose_spec hex
 have ey : Classical.choose hex = y := wordsN_inj (Nat.lt_of_lt_of_le (below_lt e3) (Nat.pow_le_pow_right (by decide) (zzh N))) (Nat.lt_of_lt_of_le (below_lt h3) (Nat.pow_le_pow_right (by decide) (zzh N))) (flat_encU_inj (own_same e2 h2))
 rw [ey]
 rfl
set_option maxRecDepth 100000 in
set_option maxHeartbeats 8000000 in
theorem kspread_any (nb gk N base g c x : Nat) (E : List Edg) (R : List Nat) (beg en : Bool) (hx : below x N) (w : World) (hM : SMach nb w gk N E R) (hS : Own w base 51 1 encU (.slice (some ⟨g, 0, none⟩) (zqe N) c) (zqu x (zqe N))) (hgn : nb ≤ g) :
  Calls Tryz.prog 46 #[.pointer (some ⟨gk, 0, none⟩), .slice (some ⟨g, 0, none⟩) (zqe N) c, .bool beg, .bool en] w fun e w' => e = .returned (.tuple #[]) ∧ Own w' base 51 1 encU (.slice (some ⟨g, 0, none⟩) (zqe N) c) (zqu (zzf E N beg en x) (zqe N)) ∧ Turn g (g + 1) w w' := by
 have hN := hM.lN
 have HF := Lib.hid hM.fits
 have hkb : zqe N ≤ 1099511627776 := by unfold zqe; omega
 have hgl := (hS.lt g rfl).2
 have hkI := zzh N
 have hMt := fun W (hW : Turn g (g + 1) w W) => hM.turn hW hgn
 have HMt := Lib.hid hMt
 have c0 : w.cell? ⟨gk, 0, none⟩ = some (.int .i64 (N : Int)) := by
  obtain ⟨h1, A, n, c, B, d, bf, cF, hb, h3, h4, h5⟩ := hM.mem
  exact hb.cellv rfl
 have hT0 := Turn.refl g (g + 1) w
 have Hx := Lib.hid hx
 have HT0 := Lib.hid hM.low
 clear hMt hM hx
 go_enter Tryz.func46, Tryz.ntmps46
 go_wp2_with (fail)
 go_loopw [8, 19] (fun v8 iv wr => ∃ (j : Nat) (A : Option Addr) (m k : Nat) (L : List Nat), j ≤ N ∧ iv = .int .i64 j ∧ v8 = .slice A m k ∧ Hid (L = zzj x j ∧ m = L.length) ∧ m ≤ j ∧ Own wr w.heap.size 3 1 encN (.slice A m k) L ∧ Below w.heap.size w wr) (fun _ iv _ => N - (intOf iv).toNat)
 case atStart => exact ⟨0, none, 0, 0, [], by omega, rfl, rfl, Lib.hid ⟨by simp [zzj], rfl⟩, by omega, Own.nil_ _ _ _ _ _, Below.refl _ _⟩
 case round =>
  obtain ⟨j, A, m, k, L, hj, rfl, rfl, HL, hmj, hL, hB⟩ := hrel
  by_cases hjl : j < N
  ·have hjI : (j : Int) < N := by omega
   have hjb : j < 1099511628000 := by omega
   have hh := khas_any (some ⟨g, 0, none⟩) (zqe N) c x j (by omega) hkb _ wr ((hS.then_ hB).slice_all zzu)
   obtain ⟨b, hbt⟩ : ∃ b, x.testBit j = b := ⟨_, rfl⟩
   rw [hbt] at hh
   have Hb := Lib.hid hbt
   clear hbt
   cases b with
   | true =>
     go_wp2_with (first
      | (go_at_call 48; refine hh.mono ?_; rintro e w5 ⟨rfl, rfl⟩)
      | (at_builtin; refine wl_pushI rfl _ _ rfl w.heap.size L j rfl rfl (Blk.new _ _ _) (hL.then_ (zqc (Below.refl _ _) _)) HL.out.2 (by have := HL.out.2; omega) (by have := hB.size; simp; omega) ?_; intro A' c' w6 hL6 hg6))
     refine ⟨⟨j + 1, A', m + 1, c', L ++ [j], by omega, rfl, rfl, Lib.hid ⟨?_, ?_⟩, by omega, hL6, ?_⟩, by simp only [intOf]; omega⟩
     ·rw [zyd, if_pos Hb.out, HL.out.1]
     ·have := HL.out.2; simp; omega
     ·exact (zqc hB _).grown hg6 (by have := hB.size; simp; omega) (fun r e => by have := hL.lt r e; omega)
   | false =>
     go_wp2_with (go_at_call 48; refine hh.mono ?_; rintro e w5 ⟨rfl, rfl⟩)
     exact ⟨⟨j + 1, A, m, k, L, by omega, rfl, rfl, Lib.hid ⟨by rw [zyd, Hb.out, HL.out.1]; simp, HL.out.2⟩, by omega, hL, hB⟩, by simp only [intOf]; omega⟩
  ·have hjI : ¬ (j : Int) < N := by omega
   obtain rfl : N = j := by omega
   have hG : GoInv E N beg en x x L := by rw [HL.out.1]; exact GoInv.start Hx.out
   have hm2 := HL.out.2
   subst hm2
   have hS2 := hS.then_ hB
   have hT2 : Turn g (g + 1) w wr := Turn.of_below hB
   clear hmj hj HL c0 hT0
   go_wp2_with (fail)
   go_loopw [8] (fun v8 wr => ∃ (y : Nat) (L : List Nat) (A : Option Addr) (k : Nat), v8 = .slice A L.length k ∧ GoInv E N beg en x y L ∧ Own wr w.heap.size 3 1 encN (.slice A L.length k) L ∧ Own wr base 51 1 encU (.slice (some ⟨g, 0, none⟩) (zqe N) c) (zqu y (zqe N)) ∧ Turn g (g + 1) w wr) (fun v8 wr => subLeft N base g c v8 wr)
   case atStart => exact ⟨x, L, A, k, rfl, hG, hL, hS2, hT2⟩
   case round =>
    clear hG hL hS2 hT2 hB
    obtain ⟨y, L, A, k, rfl, hG, hL, hS, hT⟩ := hrel
    rcases List.eq_nil_or_concat L with rfl | ⟨L, n, rfl⟩
    ·have hy : y = zzf E N beg en x := hG.end_ (fun d hd => HF.out.tt d hd) Hx.out
     have Hy := Lib.hid hy
     clear hy hG hL
     go_wp2_with (fail)
     first | (refine bodyPost_end (results_none rfl _ _ _) rfl ?_) | (refine bodyPost_ret (results_none rfl _ _ _) rfl ?_)
     rw [← Hy.out]
     exact ⟨rfl, hS, hT⟩
    ·rw [List.concat_eq_append] at hG hL
     have hf : (L ++ [n]).length = L.length + 1 := by simp
     obtain ⟨gt, cap, hv, hgt1, hgt2, hk7, _⟩ := hL.form (by omega)
     injection hv with hA _ hcap
     subst hA; subst hcap
     have hrow : RowAt wr gt L.length (encN n) := by
      have := hL.row encN_size L.length (by omega)
      simpa only [Nat.mul_one, List.getElem_concat_length] using this
     have hpop := own_pop encN_size hL (by omega)
     rw [List.dropLast_concat] at hpop
     rw [hf] at hpop hL hk7
     rw [List.concat_eq_append, hf]
     have hbn := hG.inL n (by simp)
     have hnN := hG.bel n hbn
     have hin := hG.pop
     have hmu := subLeft_eq (A := some ⟨gt, 0, none⟩) (n := L.length + 1) (k := k) hS hG.bel
     obtain ⟨m, hm⟩ : ∃ m, m = L.length := ⟨_, rfl⟩
     rw [← hm] at hpop hrow hin hL hk7 hmu ⊢
     have ct : wr.cell? ⟨gt, m, none⟩ = some (.int .i64 (n : Int)) := hrow 0 _ rfl
     have hmI : (m : Int) ≤ k := by omega
     have hmb : m < 1099511628000 := by
      have h1 := hin.cnt
      have h2 := bitsTo_length y N
      omega
     rw [Nat.add_sub_cancel] at hpop
     have hMw := HMt.out wr hT
     obtain ⟨hgk, A1, n1, c1, B1, d1, bf, cF, hbk, hR1, hbf, hfr⟩ := hMw.mem
     obtain ⟨As, cs, ce, hAs⟩ := hfr n hnN
     have cF1 : wr.cell? ⟨gk, 3, none⟩ = some (.slice (some ⟨bf, 0, none⟩) N cF) := hbk.cellv (i := 3) rfl
     have hElen : (zqq E n).length ≤ 1099511627776 := Nat.le_trans (List.length_filter_le _ _) hMw.lE
     have hnI : (n : Int) < N := by omega
     have hnb : n < 1099511628000 := by omega
     have hlow := hMw.low
     obtain ⟨M, hMd⟩ : ∃ M, M = 2 * (N - (zzj y N).length) + (m + 1) := ⟨_, rfl⟩
     rw [← hMd] at hin hmu
     obtain ⟨el, hel⟩ : ∃ el, el = (zqq E n).length := ⟨_, rfl⟩
     rw [← hel] at ce hElen
     have Hel := Lib.hid hel
     have Hm := Lib.hid hm
     have Hmu := Lib.hid hmu
     clear hMd hm hf hrow hG hL hbk hR1 hfr hMw hel hmu hbn
     go_wp2_with (refine wl_front rfl 47 _ _ rfl under_intsK 1 size_intK (some ⟨gt, 0, none⟩) (m + 1) k m rfl (congrArg (Value.int .i64) (by omega)) (by omega) ?_)
     go_loopw [8, 52] (fun v8 iv wi => ∃ (j z : Nat) (L : List Nat) (A : Option Addr) (k2 : Nat), j ≤ el ∧ iv = .int .i64 j ∧ v8 = .slice A L.length k2 ∧ GoIn E N beg en x M n j z L ∧ Own wi w.heap.size 3 1 encN (.slice A L.length k2) L ∧ Own wi base 51 1 encU (.slice (some ⟨g, 0, none⟩) (zqe N) c) (zqu z (zqe N)) ∧ Turn g (g + 1) w wi) (fun _ iv _ => el - (intOf iv).toNat)
     case atStart => exact ⟨0, y, L, some ⟨gt, 0, none⟩, k, by omega, rfl, by rw [Hm.out], hin, by rw [← Hm.out]; exact hpop, hS, hT⟩
     case round =>
      clear hin hpop hS ct cF1 ce hgt1 hgt2 hk7 hmI hmb
      obtain ⟨j, z, L, A, k2, hj, rfl, rfl, hG, hL, hS, hTi⟩ := hrel
      by_cases hjl : j < el
      ·have hjI : (j : Int) < el := by omega
       have hjb : j < 1099511628000 := by omega
       have hjl2 : j < (zqq E n).length := by rw [← Hel.out]; exact hjl
       obtain ⟨ba, off, rfl, hba, hrows⟩ := hAs.at_ (by omega)
       have hwl := HT0.out
       have hr := (hrows j hjl2).keep ((hTi.block ba (by omega) (.inl (by omega))).trans (hT.block ba (by omega) (.inl (by omega))).symm)
       have hmem := List.getElem_mem hjl2
       rw [mem_edgesAt] at hmem
       obtain ⟨dd, hd⟩ : ∃ d, d = (zqq E n)[j] := ⟨_, rfl⟩
       rw [← hd] at hr hmem
       have htt := HF.out.tt dd hmem.1
       have hkd := HF.out.kinds dd hmem.1
       obtain ⟨t, ht⟩ : ∃ t : Nat, dd.tt = (t : Int) := ⟨dd.tt.toNat, by omega⟩
       have htn : dd.tt.toNat = t := by omega
       have Hd := Lib.hid hd
       have Htn := Lib.hid (And.intro ht htn)
       have htN : t < 64 * zqe N := by omega
       have hkd4 : dd.kd = 1 ∨ dd.kd = 2 ∨ dd.kd = 3 ∨ dd.kd = 4 := by omega
       clear hd hmem htt hkd hrows ht htn hnI hT
       go_upto_region 13 with (first | (refine zzs rfl _ rfl _ _ rfl _ hr ?_) | (refine zxm rfl _ _ rfl _ _ rfl rfl edge0 (Blk.new _ _ _) ?_; intro w3 h12 hg3))
       have hB3 := zqh (zqc (Below.refl _ wr) (.cells #[.int .i64 0, .int .i64 0, .int .i64 0, .int .u64 0, .int .u64 0, .int .u64 0, .int .u64 0] 69)) hg3 (Nat.le_refl _)
       obtain ⟨ge, hge⟩ : ∃ y, y = wr.heap.size := ⟨_, rfl⟩
       rw [← hge] at h12 ⊢
       have hglr := (hS.lt g rfl).2
       have hgeg : ge ≠ g := by omega
       replace hL := hL.then_ hB3
       replace hS := hS.then_ hB3
       replace hTi := hTi.then_ hB3
       have c2 : w3.cell? ⟨ge, 2, none⟩ = some (.int .i64 (t : Int)) := by rw [← Htn.out.1]; exact h12.cellv (i := 2) rfl
       clear hg3 hr hB3 hge hglr
       simp only [Act.put]
       go_cut [13] from 56 to 75 (fun v wx => wx = w3 ∧ v = .bool (may beg en dd))
       case first =>
        have c1 : w3.cell? ⟨ge, 0, none⟩ = some (.int .i64 dd.kd) := h12.cellv (i := 0) rfl
        clear hS hL hTi h12 c2 Hd Htn HF Hx Hel Hm Hmu HMt hAs
        rcases hkd4 with h | h | h | h
        all_goals rw [h] at c1
        all_goals cases beg
        all_goals cases en
        all_goals go_wp2_with (fail)
        all_goals go_meet
        all_goals exact ⟨rfl, congrArg Value.bool (by simp [may, h])⟩
       obtain ⟨hwc, rfl⟩ := hcut
       subst hwc
       obtain ⟨f, hmay⟩ : ∃ f, may beg en dd = f := ⟨_, rfl⟩
       rw [hmay]
       have Hmay := Lib.hid hmay
       clear hmay hkd4
       cases f with
       | false =>
         go_wp2_with (fail)
         exact ⟨⟨j + 1, z, L, A, k2, by omega, rfl, rfl, hG.skip hjl2 (by rw [← Hd.out, Hmay.out]; exact fun h => (Bool.false_ne_true h).elim), hL, hS, hTi⟩, by simp only [intOf]; omega⟩
       | true =>
         have hhas := khas_any (some ⟨g, 0, none⟩) (zqe N) c z t htN hkb _ wc (hS.slice_all zzu)
         obtain ⟨zt, hzt⟩ : ∃ b, z.testBit t = b := ⟨_, rfl⟩
         rw [hzt] at hhas
         have Hzt := Lib.hid hzt
         clear hzt
         cases zt with
         | true =>
           go_wp2_with (go_at_call 48; refine hhas.mono ?_; rintro e w5 ⟨rfl, rfl⟩)
           exact ⟨⟨j + 1, z, L, A, k2, by omega, rfl, rfl, hG.skip hjl2 (by rw [← Hd.out, Htn.out.2]; exact fun _ => Hzt.out), hL, hS, hTi⟩, by simp only [intOf]; omega⟩
         | false =>
           have hLN : L.length + 1 ≤ N := by
            have h1 := hG.cnt
            have h2 := bitsTo_length z N
            omega
           have hGa := hG.add (fun d hd => HF.out.tt d hd) hjl2 (by rw [← Hd.out]; exact Hmay.out) (by rw [← Hd.out, Htn.out.2]; exact Hzt.out)
           rw [← Hd.out, Htn.out.2] at hGa
           have hAne : ∀ r, (Value.slice A L.length k2).ownBlock = some r → r ≠ g := fun r e h => by
            subst h
            have := (hL.lt r e).1
            omega
           have hLlt := fun r e => (hL.lt r e).1
           go_upto_region 16 with (first
            | (go_at_call 48; refine hhas.mono ?_; rintro e w5 ⟨rfl, rfl⟩)
            | (go_at_call 45; refine (kadd_any g (zqe N) c z t base htN hkb _ hS).mono ?_; rintro e w6 ⟨rfl, hS6, hg6⟩))
           replace h12 := zqk h12 hg6 hgeg
           replace hL := own_row hL hg6 (fun r e h => hAne r e (by injection h with h; exact h.symm))
           replace hTi := hTi.grown hg6 (fun r e => by injection e with e; omega)
           replace c2 : w6.cell? ⟨ge, 2, none⟩ = some (.int .i64 (t : Int)) := by rw [← Htn.out.1]; exact h12.cellv (i := 2) rfl
           clear hS hg6 hhas
           obtain ⟨m2, hm2⟩ : ∃ m, m = L.length := ⟨_, rfl⟩
           have Hm2 := Lib.hid hm2
           rw [← hm2] at hL hLN hLlt hAne ⊢
           clear hm2
           have hsz6 := hTi.size
           go_upto_region 17 with (at_builtin; refine wl_pushI rfl _ _ rfl w.heap.size L t rfl rfl (Blk.new _ _ _) (hL.then_ (zqc (Below.refl _ _) _)) Hm2.out (by have := Hm2.out; omega) (by simp; omega) ?_; intro A' c' w7 hL7 hg7)
           have hBa : Below w6.heap.size w6 (w6.alloc (.cells (encN t) 3)) := zqc (Below.refl _ _) _
           have hS7 := zxw (hS6.then_ hBa) (hL.then_ hBa) hg7 (by decide)
           have hTi7 := (hTi.then_ hBa).grown hg7 (fun r e => .inr (hLlt r e))
           clear hg7 hBa hS6 hL hTi
           rw [Hm2.out] at hL7 ⊢
           have hl1 : (L ++ [t]).length = L.length + 1 := by simp
           rw [← hl1] at hL7 ⊢
           go_wp2_with (fail)
           exact ⟨⟨j + 1, z ||| 2 ^ t, L ++ [t], A', c', by omega, rfl, by simp, hGa, hL7, hS7, hTi7⟩, by simp only [intOf]; omega⟩
      ·have hjI : ¬ (j : Int) < el := by omega
       have hGf := hG.finish (fun d hd => HF.out.fr d hd) (by have := Hel.out; omega)
       go_wp2_with (fail)
       refine ⟨⟨z, L, A, k2, rfl, hGf, hL, hS, hTi⟩, ?_⟩
       rw [Hmu.out, subLeft_eq hS hG.bel]
       exact hG.mu
end Go.Proofs.YtkedgombccdamaaGreatDoor
