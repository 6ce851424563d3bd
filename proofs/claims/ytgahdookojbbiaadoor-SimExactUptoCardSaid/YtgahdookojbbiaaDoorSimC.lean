/- sim's machine in memory: its map of edges, its rules; the empty set; what is met. No condition beyond those named in each lemma. -/
import Derived.Test.YtgahdookojbbiaaDoorSimB
import Derived.Test.YtgahdookojbbiaaDoorGs
import Derived.Test.YtgahdookojbbiaaDoorMap
import Derived.Maps.OwnSet
namespace Go.Proofs.YtgahdookojbbiaaDoor
open Go.RowKit Go.Shelf Go.Maps
set_option linter.unusedVariables false
set_option linter.unusedSimpArgs false
attribute [local go_sem] Oper.semAt_some

/-- a map of the call's own from ints to values of one cell -/
def ValMap (w : World) (b n : Nat) (m : Int → Option Value) : Prop :=
  ∃ D : DataW Value, w.ownsMap Tryd.prog 3 (fun v => some (.held v, [])) b n D ∧ ∀ x, (Lit.int .i64 x).wf = true → ∀ z, D.atKey (.int .i64 x) (.held z) = .held ((m x).getD z)
theorem keyed_int : Keyed Tryd.prog 3 := int_keyed Tryd.underlying3
theorem ValMap.new (w : World) {g : Nat} (hg : g = w.heap.size) : ValMap (w.alloc (.map #[] 0)) g 0 (fun _ => none) := by
  subst hg
  exact ⟨_, World.ownsMap_made w _ _ _, fun x _ z => rfl⟩
theorem ValMap.lt {w : World} {b n : Nat} {m : Int → Option Value} (h : ValMap w b n m) : b < w.heap.size := by
  obtain ⟨D, h1, _⟩ := h; exact h1.lt
theorem ValMap.keep {w w' : World} {b n : Nat} {m : Int → Option Value} (h : ValMap w b n m) (hk : w'.heap[b]? = w.heap[b]?) : ValMap w' b n m := by
  obtain ⟨D, ⟨es, clock, hb, r⟩, h2⟩ := h
  exact ⟨D, ⟨es, clock, hk.trans hb, r⟩, h2⟩
theorem zero_edges (w : World) : (zeroValue 22).run Tryd.prog w = .ok (.slice none 0 0) w := by kernel_rfl
theorem wf_of_nat {n : Nat} (h : n < 9223372036854775808) : (Lit.int .i64 (n : Int)).wf = true := by
  have h2 : IntKind.i64.min = -9223372036854775808 := by decide
  have h3 : IntKind.i64.max = 9223372036854775807 := by decide
  simp only [Lit.wf, Bool.and_eq_true, decide_eq_true_eq]
  exact ⟨by omega, by omega⟩
section
variable {ops : Array Oper} {rest : List Oper} {o : Oper} {a : Act} {Q : Exit → Act → World → Prop} {w : World} {b n : Nat} {mf : Int → Option Value}
theorem run_vmap (h : ValMap w b n mf) (y : Int) (hy : (Lit.int .i64 y).wf = true) : (Instr.lookup 65 (.map (some b)) (.int .i64 y) false).run Tryd.prog w = .ok ((mf y).getD (.slice none 0 0)) w := by
  obtain ⟨D, h1, h2⟩ := h
  obtain ⟨v, ps, hrun, hv⟩ := h1.lookup keyed_int Tryd.underlying65 (zero_edges w) (zd := .held (.slice none 0 0)) (zp := []) rfl (keyOf_int_mk Tryd.underlying3 hy)
  rw [h2 y hy] at hv
  injection hv with hv
  injection hv with hv _
  injection hv with hv
  rw [hrun, hv]
theorem wl_vmap_at (h : ValMap w b n mf) (hg : o.guard = none) (m x : Operand) (hop : o.op = Op.lookup 65 m x false) (hm : a.eval m = .map (some b)) (y : Int) (hy : (Lit.int .i64 y).wf = true) (hx : a.eval x = .int .i64 y)
    (hK : wpList Tryd.prog ops Q rest (a.put o.dst ((mf y).getD (.slice none 0 0))) w) : wpList Tryd.prog ops Q (o :: rest) a w := by
  refine wpList_plain hg fun K' hK' => ?_
  unfold Oper.wp
  simp [execOp, hop, hm, hx, run_vmap h y hy, Result.andThen]
  exact hK' _ _ hK
theorem wl_vmap_put (h : ValMap w b n mf) (hn : n < maxLen) (hg : o.guard = none) (m x v : Operand) (hop : o.op = Op.mapUpdate 65 m x v) (hm : a.eval m = .map (some b)) (y : Int) (hy : (Lit.int .i64 y).wf = true) (hx : a.eval x = .int .i64 y)
    (c : Value) (hv : a.eval v = c)
    (hK : ∀ w', ValMap w' b (n + 1) (fun z => if z = y then some c else mf z) → w.grownBy w' (some b) → wpList Tryd.prog ops Q rest (a.put o.dst undef) w') : wpList Tryd.prog ops Q (o :: rest) a w := by
  obtain ⟨D, h1, h2⟩ := h
  have hk := keyOf_int_mk Tryd.underlying3 hy
  refine wpList_mapUpdate_own w hg m x v _ hop _ _ keyed_int Tryd.underlying65 _ b n D hm h1 hn (.int .i64 y) c (.int .i64 y) hx hv hk (.held c) [] rfl fun w' h5 h6 => hK w' ⟨_, h5, fun z hz q => ?_⟩ h6
  by_cases e1 : z = y
  · subst e1
    rw [Maps.atKey_put_same h1.isMap (keyed_int.key hk)]
    simp
  · rw [Maps.atKey_put_other (by intro e; injection e with _ e; exact e1 e), h2 z hz]
    simp [e1]
end

def encR (v : Nat) : Array Value := #[.int .u32 (v : Int)]
theorem encR_size (v : Nat) : (encR v).size = 1 := rfl
theorem encR_one (v : Nat) : (encR v).all (·.oneCell') = true := by simp [encR, Value.oneCell']
/-- the edges that leave a state, in their order -/
def edgesAt (E : List Edg) (n : Nat) : List Edg := E.filter fun d => d.fr == (n : Int)
theorem mem_edgesAt {E : List Edg} {n : Nat} {d : Edg} : d ∈ edgesAt E n ↔ d ∈ E ∧ d.fr = n := by simp [edgesAt]
/-- sim's copy of a machine, all of it below block nb -/
def MachOk (nb : Nat) (W : World) (gm N : Nat) (E : List Edg) (R : List Nat) : Prop :=
  Fits N E R ∧ N ≤ 1099511627776 ∧ E.length ≤ 1099511627776 ∧ (∀ r ∈ R, r < 4294967296) ∧ 0 < nb ∧ nb ≤ W.heap.size ∧ gm < nb ∧ ∃ bm nm B m d mf, bm < nb ∧ Blk W gm 67 #[.int .i64 (N : Int), .map (some bm), .slice B m d] ∧ m = R.length ∧ SliceOf W nb 1 encR B R ∧ ValMap W bm nm mf ∧
    ∀ n, n < N → ∃ A l c, (mf (n : Int)).getD (.slice none 0 0) = .slice A l c ∧ l = (edgesAt E n).length ∧ SliceOf W nb 7 edgC A (edgesAt E n)
theorem MachOk.keep {nb : Nat} {W W' : World} {gm N : Nat} {E : List Edg} {R : List Nat} (h : MachOk nb W gm N E R) (hk : ∀ k, k < nb → W'.heap[k]? = W.heap[k]?) (hs : W.heap.size ≤ W'.heap.size) : MachOk nb W' gm N E R := by
  obtain ⟨h1, h2, h3, h4, h5, h6, h7, bm, nm, B, m, d, mf, g1, g2, g3, g4, g5, g6⟩ := h
  refine ⟨h1, h2, h3, h4, h5, Nat.le_trans h6 hs, h7, bm, nm, B, m, d, mf, g1, (hk gm h7).trans g2, g3, g4.keep hk, g5.keep (hk bm g1), fun n hn => ?_⟩
  obtain ⟨A, l, c, e1, e2, e3⟩ := g6 n hn
  exact ⟨A, l, c, e1, e2, e3.keep hk⟩
theorem MachOk.below {nb n : Nat} {W W' : World} {gm N : Nat} {E : List Edg} {R : List Nat} (h : MachOk nb W gm N E R) (hb : Below n W W') (hn : nb ≤ n) : MachOk nb W' gm N E R := h.keep (fun k hk => hb.block k (by omega)) hb.size
theorem MachOk.grown {nb r : Nat} {W W' : World} {gm N : Nat} {E : List Edg} {R : List Nat} (h : MachOk nb W gm N E R) (hg : W.grownBy W' (some r)) (hr : nb ≤ r) : MachOk nb W' gm N E R := h.keep (fun k hk => hg.block k (by have := h.2.2.2.2.2.1; omega) (by intro e; injection e; omega)) hg.size

/-- how many words a set of N states takes -/
def wordsFor (N : Nat) : Nat := (N + 63) / 64
theorem info_u64z : (Tryd.prog.info? 49).map (fun i => (i.zero, i.size, i.bytes)) = some (some (.int .u64 0), 1, 8) := by kernel_rfl
set_option maxHeartbeats 400000 in
theorem none_any (nb gm N : Nat) (E : List Edg) (R : List Nat) (w : World) (h : MachOk nb w gm N E R) :
    Calls Tryd.prog 28 #[.pointer (some ⟨gm, 0, none⟩)] w fun e w' => ∃ g c, e = .returned (.slice (some ⟨g, 0, none⟩) (wordsFor N) c) ∧ w.heap.size ≤ g ∧ Own w' w.heap.size 49 1 encU (.slice (some ⟨g, 0, none⟩) (wordsFor N) c) (wordsN 0 (wordsFor N)) ∧ Below w.heap.size w w' := by
  obtain ⟨hf, hN, _, _, _, _, _, bm, nm, B, m, d, mf, _, hb, _⟩ := h
  have c0 : w.cell? ⟨gm, 0, none⟩ = some (.int .i64 (N : Int)) := hb.cellv rfl
  obtain ⟨i0, hi0, hz0, hz1, hz2⟩ := info_parts info_u64z
  have hkI : ((N : Int) + 63) / 64 = ((wordsFor N : Nat) : Int) := by unfold wordsFor; omega
  have hk2 : wordsFor N ≤ 549755813889 := by unfold wordsFor; omega
  clear hf hb
  go_enter Tryd.func28, Tryd.ntmps28
  go_wp2_with (at_make; refine wpList_make_full _ rfl _ _ 69 rfl w.heap.size 49 i0 _ 1 Tryd.underlying69 hi0 hz0 hz1 _ _ _ _ (wordsFor N) rfl rfl hkI hkI (by rw [hz2]; omega) (by unfold maxLen; omega) (Nat.le_refl _) ?_; intro w1 hown hg)
  go_ret
  refine ⟨w.heap.size, wordsFor N, rfl, Nat.le_refl _, ?_, ⟨hg.os, hg.tape, hg.output, hg.size, fun k hk => hg.block k hk (by simp)⟩⟩
  have e1 : (madeCells (Value.int .u64 0).cells (wordsFor N * 1)).toList = flat encU (wordsN 0 (wordsFor N)) := by
    rw [wordsN_zero]
    apply List.ext_getElem
    · rw [Array.length_toList, size_madeCells]
      simp [flat, encU]
    · intro j h1 h2
      simp [madeCells, Value.cells, flat, encU, List.flatMap_replicate]
      rw [Nat.mod_one]
      rfl
  rw [e1] at hown
  unfold Own
  rw [wordsN_length]
  exact hown

theorem bits_all {x N M : Nat} (hx : below x N) (h : N ≤ M) : bitsTo x M = bitsTo x N := by
  have e : M = N + (M - N) := by omega
  rw [e]
  refine bitsTo_skip x N (M - N) fun i h1 h2 => ?_
  cases hb : x.testBit i with
  | false => rfl
  | true => have := hx i hb; omega
theorem words_room (N : Nat) : N ≤ 64 * wordsFor N := by unfold wordsFor; omega
def orL (R : List Nat) (l : List Nat) : Nat := l.foldl (fun r n => r ||| R.getD n 0) 0
theorem orL_snoc (R l : List Nat) (n : Nat) : orL R (l ++ [n]) = orL R l ||| R.getD n 0 := by simp [orL]
theorem ruleD_lt {R : List Nat} (hR : ∀ r ∈ R, r < 4294967296) (n : Nat) : R.getD n 0 < 4294967296 := by
  rw [List.getD_eq_getElem?_getD]
  by_cases h : n < R.length
  · rw [List.getElem?_eq_getElem h]
    exact hR _ (List.getElem_mem h)
  · rw [List.getElem?_eq_none (Nat.le_of_not_lt h)]
    decide
theorem or_lt32 {a b : Nat} (ha : a < 4294967296) (hb : b < 4294967296) : a ||| b < 4294967296 := Nat.or_lt_two_pow (n := 32) ha hb
theorem orL_lt {R : List Nat} (hR : ∀ r ∈ R, r < 4294967296) (l : List Nat) : orL R l < 4294967296 := by
  have key : ∀ (l : List Nat) (r : Nat), r < 4294967296 → l.foldl (fun r n => r ||| R.getD n 0) r < 4294967296 := by
    intro l
    induction l with
    | nil => intro r h; exact h
    | cons n l ih => intro r h; exact ih _ (or_lt32 h (ruleD_lt hR n))
  exact key l 0 (by decide)
theorem info_u32 : (Tryd.prog.info? 28).map (·.size) = some 1 := by kernel_rfl
theorem blk_other' {W W' : World} {g r : Nat} {t : TypeId} {cs : Array Value} (h : Blk W g t cs) (hg : W.grownBy W' (some r)) (hr : g ≠ r) : Blk W' g t cs :=
  h.grown hg (fun e => by injection e with e; exact hr e)
theorem cells_of_blk' {W : World} {g : Nat} {t : TypeId} {cs : Array Value} {o : Obj} (h : Blk W g t cs) (e : W.heap[g]? = some o) : o.isCells = true := by
  unfold Blk at h
  rw [h] at e
  injection e with e
  subst e
  rfl
theorem blk_turn' {W W' : World} {g B : Nat} {t : TypeId} {cs : Array Value} {row : Option Nat} (h : Blk W g t cs) (hg : W.grownBy W' row) (hr : ∀ r, row = some r → B ≤ r ∧ ∃ o : Obj, W.heap[r]? = some o ∧ o.isCells = false) : Blk W' g t cs :=
  h.grown hg (fun e => by
    obtain ⟨_, o, h1, h2⟩ := hr g e.symm
    have := cells_of_blk' h h1
    rw [h2] at this
    cases this)
theorem mach_turn {nb B gm N : Nat} {E : List Edg} {R : List Nat} {W W' : World} {row : Option Nat} (h : MachOk nb W gm N E R) (hg : W.grownBy W' row) (hr : ∀ r, row = some r → B ≤ r ∧ ∃ o : Obj, W.heap[r]? = some o ∧ o.isCells = false) (hB : nb ≤ B) : MachOk nb W' gm N E R :=
  h.keep (fun k hk => hg.block k (by have := h.2.2.2.2.2.1; omega) (fun e => by have := (hr k e.symm).1; omega)) hg.size
/-- what met's boxes hold -/
def metI (nb gm N : Nat) (E : List Edg) (R : List Nat) (w : World) {x : Nat} (pre : List (InS x)) (W : World) : Prop :=
  Blk W w.heap.size 64 #[.pointer (some ⟨gm, 0, none⟩)] ∧ Blk W (w.heap.size + 1) 28 #[.int .u32 (orL R (numsI pre) : Nat)] ∧ MachOk nb W gm N E R ∧ Below w.heap.size w W ∧ w.heap.size + 1 + 1 < W.heap.size
set_option maxRecDepth 100000 in
set_option maxHeartbeats 2000000 in
theorem met_any (nb gm N : Nat) (E : List Edg) (R : List Nat) (b off c x : Nat) (hx : below x N) (w : World) (hM : MachOk nb w gm N E R) (hs : ∀ i (h : i < (wordsN x (wordsFor N)).length), RowAt w b (off + i) (encU (wordsN x (wordsFor N))[i])) (hb : b < w.heap.size) (hT : TabOk w) :
    Calls Tryd.prog 37 #[.pointer (some ⟨gm, 0, none⟩), .slice (some ⟨b, off, none⟩) (wordsFor N) c] w fun e w' => e = .returned (.int .u32 (metN R x N : Nat)) ∧ Below w.heap.size w w' := by
  refine (callsIn_wide (n := 6)).1 ?_
  refine callsIn_of_wp_marks Tryd.func37 rfl trivial ?_ rfl
  simp only [Tryd.ntmps37, List.size_toArray, List.length_cons, List.length_nil, Nat.reduceAdd, Nat.reduceSub, Array.replicate_succ, Array.replicate_zero, List.push_toArray, List.append_toArray, List.nil_append, List.cons_append]
  gi_wp2_with (refine ⟨trivial, ?_⟩; gi_at_call 31; refine (callsIn_wide.2 (each_any _ _ _ _)).mono ?_; rintro e w5 ⟨rfl, rfl⟩)
  have e2 := ((Blk.new w 64 #[.pointer (some ⟨gm, 0, none⟩)]).alloc (.cells #[.int .u32 0] 28)).alloc (.cells #[.slice (some ⟨b, off, none⟩) (wordsFor N) c] 69)
  have e5 := (Blk.new' (n := w.heap.size + 1) (w.alloc (.cells #[.pointer (some ⟨gm, 0, none⟩)] 64)) 28 #[.int .u32 0] (by simp)).alloc (.cells #[.slice (some ⟨b, off, none⟩) (wordsFor N) c] 69)
  have ex := Blk.new' (n := w.heap.size + 1 + 1) ((w.alloc (.cells #[.pointer (some ⟨gm, 0, none⟩)] 64)).alloc (.cells #[.int .u32 0] 28)) 69 #[.slice (some ⟨b, off, none⟩) (wordsFor N) c] (by simp)
  have hB := below_alloc (below_alloc (below_alloc (Below.refl w.heap.size w) (.cells #[.pointer (some ⟨gm, 0, none⟩)] 64)) (.cells #[.int .u32 0] 28)) (.cells #[.slice (some ⟨b, off, none⟩) (wordsFor N) c] 69)
  obtain ⟨W1, hW1⟩ : ∃ y, y = ((w.alloc (.cells #[.pointer (some ⟨gm, 0, none⟩)] 64)).alloc (.cells #[.int .u32 0] 28)).alloc (.cells #[.slice (some ⟨b, off, none⟩) (wordsFor N) c] 69) := ⟨_, rfl⟩
  rw [← hW1] at e2 e5 ex hB ⊢
  clear hW1
  have hnb := hM.2.2.2.2.2.1
  have hM1 := hM.below hB hnb
  have hlW := ex.lt
  have hkb : wordsFor N ≤ 1099511627776 := by have := hM.2.1; unfold wordsFor; omega
  have hx64 : below x (64 * wordsFor N) := fun i hi => Nat.lt_of_lt_of_le (hx i hi) (words_room N)
  refine wpIn_rangeFunc_ownF (n := 6) rfl (by decide) (gf := 38) (lb := #[.pointer (some ⟨w.heap.size + 1 + 1, 0, none⟩)]) rfl trivial (enters_of Tryd.func38 (by kernel_rfl) rfl)
    (each_stops x (wordsFor N) c b off 5 (w.heap.size + 1 + 1) W1 hkb hx64 ex (Nat.lt_of_lt_of_le hb hB.size) (fun i h => (hs i h).keep (hB.block b hb)) (hT.then_ hT.size hB)) KpS.trans (fun W l o o' hl _ _ _ => ⟨World.putObj_heap_other (by omega), World.putObj_heap_other (by omega)⟩) (Below.refl _ _) (fun _ => rfl)
    (metI nb gm N E R w) (fun _ _ _ => False) (fun pre X Y row hs hg hr => by
      obtain ⟨h1, h2, h3, h4, h5⟩ := hs
      exact ⟨blk_turn' h1 hg hr, blk_turn' h2 hg hr, mach_turn h3 hg hr (by omega), h4.grown hg h4.size (fun k e => by have := (hr k e).1; omega), Nat.lt_of_lt_of_le h5 hg.size⟩) (fun _ => fun _ _ _ _ hs _ _ => hs)
    ⟨e2, e5, hM1, hB, hlW⟩
    (fun r => { tmps := #[.pointer (some ⟨gm, 0, none⟩), .slice (some ⟨b, off, none⟩) (wordsFor N) c, .pointer (some ⟨w.heap.size, 0, none⟩), undef, .int .u32 0, .pointer (some ⟨w.heap.size + 1, 0, none⟩), .int .i64 (r.1 : Int), .slice (some ⟨b, off, none⟩) (wordsFor N) c, .func (.func 38) #[] #[.pointer (some ⟨w.heap.size + 1 + 1, 0, none⟩)], .int .i64 (r.1 : Int), undef, undef, undef, undef, undef, undef, undef, undef, undef, undef], defers := [] }) ?assign ?body ?done ?stop
  case assign =>
    intro l r W K hK
    unfold encI
    gi_wp2
    exact hK
  case body =>
    rintro l pre ⟨n, hn⟩ W ⟨h2, h5, hMW, hBW, hlt⟩ hlen
    have hnN := hx n hn
    have hMM := hMW
    obtain ⟨hf, hN, hE, hR32, hnb0, _, hgm, bm, nm, B, m, d, mf, hbm, hbl, rfl, hrs, hvm, hed⟩ := hMM
    have hnm : n < R.length := by rw [hf.rules]; exact hnN
    obtain ⟨bR, offR, rfl, hbR, hrow⟩ := hrs.at_ (by omega)
    have hc : RowAt W bR (offR + n * 1) (encR R[n]) := hrow n hnm
    have hr0 : R.getD n 0 = R[n] := by rw [List.getD_eq_getElem?_getD, List.getElem?_eq_getElem hnm, Option.getD_some]
    obtain ⟨v, hv⟩ : ∃ v, v = orL R (numsI pre) := ⟨_, rfl⟩
    have hvlt := orL_lt hR32 (numsI pre)
    rw [← hv] at h5 hvlt
    have Hv := Lib.hid hv
    clear hv
    have hor := u32_or_nat v R[n] hvlt (hR32 _ (List.getElem_mem hnm))
    gi_upto_region 4 with (fail)
    refine regionIn_steps 9 [eqS (.int .u32 (v : Int)), eqS (.pointer (some ⟨gm, 0, none⟩)), eqS (.pointer (some ⟨gm, 0, none⟩)), eqS (.pointer (some ⟨gm, 2, none⟩)), eqS (.slice (some ⟨bR, offR, none⟩) R.length d), eqS (.int .i64 (n : Int)), eqS (.pointer (some ⟨bR, offR + n * 1, none⟩)), eqS (.int .u32 (R[n] : Nat)), eqS (.int .u32 (v ||| R[n] : Nat))] [10, 11, 12, 13, 14, 15, 16, 17, 18] rfl (by kernel_rfl) (by kernel_rfl) rfl ?_ ?_
    · refine Steps.cons (fun a' w' hG hB dep => gs_load1 (want_none rfl) _ _ rfl (w.heap.size + 1) 0 (hG.other 5 rfl) _ ((blk_then h5 hB).cellv rfl) _ Tryd.underlying28 rfl rfl) ?_
      refine Steps.cons (fun a' w' hG hB dep => gs_load1 (want_none rfl) _ _ rfl w.heap.size 0 (hG.other 2 rfl) _ ((blk_then h2 hB).cellv rfl) _ Tryd.underlying64 rfl rfl) ?_
      refine Steps.cons (fun a' w' hG hB dep => gs_nil (want_none rfl) _ rfl _ (dep 1 rfl 11 rfl) rfl) ?_
      refine Steps.cons (fun a' w' hG hB dep => gs_field (want_none rfl) _ _ _ rfl gm 0 2 (dep 2 rfl 12 rfl) (field_mach_2 gm) rfl) ?_
      refine Steps.cons (fun a' w' hG hB dep => gs_load1 (want_none rfl) _ _ rfl gm 2 (dep 3 rfl 13 rfl) _ ((blk_then hbl hB).cellv (i := 2) rfl) _ Tryd.underlying23 rfl rfl) ?_
      refine Steps.cons (fun a' w' hG hB dep => gs_move (want_none rfl) _ rfl (hG.other 6 rfl)) ?_
      refine Steps.cons (fun a' w' hG hB dep => gs_index (want_none rfl) _ _ _ rfl under_rules 1 size_ruleE bR offR R.length d n (dep 4 rfl 14 rfl) (dep 5 rfl 15 rfl) hnm rfl) ?_
      refine Steps.cons (fun a' w' hG hB dep => gs_load1 (want_none rfl) _ _ rfl bR (offR + n * 1) (dep 6 rfl 16 rfl) _ ((hc.keep (hB.block bR (by omega))) 0 _ rfl) _ Tryd.underlying28 rfl rfl) ?_
      refine Steps.cons (fun a' w' hG hB dep => gs_or_u32 (want_none rfl) _ _ _ _ rfl _ _ (dep 0 rfl 10 rfl) (dep 7 rfl 17 rfl) _ hor rfl) ?_
      exact Steps.nil
    intro u W3 hB3 ans
    have u8 : u 18 = .int .u32 (v ||| R[n] : Nat) := ans 8 18 (by decide) rfl
    clear ans
    simp only [putAll, List.foldl_cons, List.foldl_nil, Act.put, List.setIfInBounds_toArray, List.set_cons_zero, List.set_cons_succ, u8]
    clear u8
    simp only [List.drop]
    refine wl_store_cell rfl _ _ _ rfl _ _ rfl _ _ #[.int .u32 (v ||| R[n] : Nat)] (blk_then h5 hB3) (by simp) info_u32 rfl rfl rfl ?_
    intro W4 h54 hg4
    refine wpList_nil ?_
    refine onlyN_normal ?_
    gi_wp2
    have hl3 := hB3.size
    refine ⟨(KeepsOthers.of_grownBy (only_of_below hB3 none) (fun j o e _ => by cases e)).trans (KeepsOthers.of_grownBy hg4 (fun j o e1 e2 => by injection e1 with e1; subst e1; exact cells_of_blk' (blk_then h5 hB3) e2)),
      ⟨(hg4.block b (by have := hBW.size; omega) (by simp; omega)).trans (hB3.block b (by have := hBW.size; omega)), (hg4.block 0 (by omega) (by simp)).trans (hB3.block 0 (by omega))⟩,
      blk_other' (blk_then h2 hB3) hg4 (by omega), ?_, (hMW.below hB3 (by omega)).grown hg4 (by omega), (below_then hBW hB3).grown hg4 (below_then hBW hB3).size (fun k e => by injection e with e; omega), Nat.lt_of_lt_of_le (Nat.lt_of_lt_of_le hlt hB3.size) hg4.size⟩
    rw [numsI_snoc, orL_snoc, ← Hv.out, hr0]
    exact h54
  case done =>
    rintro D xs W hD hxs ⟨h2, h5, hMW, hBW, hlt⟩ hK
    rw [hxs, bits_all hx (words_room N)] at h5
    have c5 : W.cell? ⟨w.heap.size + 1, 0, none⟩ = some (.int .u32 (metN R x N : Nat)) := h5.cellv rfl
    gi_wp2
    refine ⟨by simp, .inl ⟨_, _, rfl, run_takeDeferred hK, ?_⟩⟩
    exact ⟨_, results_tmp rfl _ _ _, rfl, hBW.trans (belowK_b (w := w) (Nat.le_refl _) W D _ _ (by omega) hK rfl rfl)⟩
  case stop =>
    rintro D c pre W _ _ h _
    exact h.elim
end Go.Proofs.YtgahdookojbbiaaDoor
