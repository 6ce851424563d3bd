/- The walk of script's read. No condition beyond those named in each lemma. -/
import Derived.Test.YtjplgcmfifoefaaDoorQtQ
import Derived.Deep.CutRange
namespace Go.Proofs.YtjplgcmfifoefaaDoor
open Go.RowKit Go.Maps
set_option linter.unusedVariables false
set_option linter.unusedSimpArgs false
attribute [local go_sem] Oper.semAt_some

theorem readG_len : ∀ (cs : Bs) (ws : List Bs) (e : Ev), cs.length ≠ ws.length → readG cs ws e = none
  | [], [], _, h => absurd rfl h
  | [], _ :: _, _, _ => rfl
  | _ :: _, [], _, _ => rfl
  | c :: cs, w :: ws, e, h => by
    rw [readG]
    cases takeC' c w e with
    | none => rfl
    | some e' => exact readG_len cs ws e' (by simpa using h)
def evK (k : Int) : EvV := ⟨k, ⟨#[]⟩, ⟨#[]⟩, ⟨#[]⟩, 0, false, none, 0, 0⟩
theorem evK_ev (k : Int) : (evK k).ev [] = ev0 k := rfl
theorem run_build_ev (k : Int) (w : World) : (Instr.build 24 #[(0, .int .i64 k)]).run Tryd.prog w = .ok (.agg (evK k).C) w := by kernel_rfl
section
variable {ops : Array Oper} {rest : List Oper} {o : Oper} {a : Act} {w : World} {Q : Exit → Act → World → Prop}
theorem wl_build_ev (hgd : o.guard = none) (x : Operand) (ho : o.op = .build 24 #[(0, x)]) (k : Int) (hx : a.eval x = .int .i64 k)
    (h : wpList Tryd.prog ops Q rest (a.put o.dst (.agg (evK k).C)) w) : wpList Tryd.prog ops Q (o :: rest) a w :=
  wpList_plain hgd fun _ hK => by
    unfold Oper.wp execOp
    simp only [ho, List.map_toArray, List.map_cons, List.map_nil, hx, Sem.run_bind, run_build_ev, Result.andThen_ok, Sem.run_pure]
    exact hK _ _ h
theorem wl_store_ev (hgd : o.guard = none) (x y : Operand) (ho : o.op = .store 24 x y)
    (g : Nat) (u v : EvV) (hx : a.eval x = .pointer (some ⟨g, 0, none⟩)) (hy : a.eval y = .agg u.C) (hb : Blk w g 24 v.C)
    (h : ∀ w', Blk w' g 24 u.C → w.grownBy w' (some g) → wpList Tryd.prog ops Q rest (a.put o.dst undef) w') : wpList Tryd.prog ops Q (o :: rest) a w :=
  wpList_store_row hgd _ x y ho g _ hx hy _ _ hb (info_ev.trans rfl) rfl (by simp [EvV.C, Value.oneCell']) (h _ (hb.setRow_same _) (only_setRow (only_refl _ _) _))
end
theorem repeat_107 : ∀ n, Lib.repeatL [107] n = List.replicate n 107
  | 0 => rfl
  | n + 1 => by rw [Lib.repeatL, repeat_107 n]; rfl
theorem repeat_any (n : Nat) (hn : n ≤ 1099511627776) (w : World) : Calls Tryd.prog 28 #[.string ⟨#[107]⟩, .int .i64 n] w fun e w' => e = .returned (strV (List.replicate n 107)) ∧ Below w.heap.size w w' := by
  have h := Tryd.strings_Repeat ⟨#[107]⟩ n w (by omega) (by show 1 * n ≤ _; omega)
  rw [show (⟨#[107]⟩ : ByteArray).data.toList = [107] from rfl, repeat_107] at h
  exact h
theorem TK.below {ge base r : Nat} {a b : World} (h : TK ge base a b) (h1 : r ≤ ge) (h2 : r ≤ base) : Below r a b := ⟨h.os, h.tape, h.output, h.size, fun k hk => h.block k (by omega) (by omega)⟩
theorem lets_ascii (k n : Nat) (hk : k < 13) : ∀ b ∈ letsOf k n, b.toNat < 128 := by
  intro b hb
  unfold letsOf at hb
  split at hb
  · have := (List.mem_replicate.1 hb).2
    subst this
    decide
  · exact (letters_ascii k hk).1 b hb
theorem own_base {α : Type} {enc : α → Array Value} {size base base' : Nat} {e : TypeId} {w : World} {v : Value} {ys : List α} (h : Own w base e size enc v ys) (hb : base' ≤ base) : Own w base' e size enc v ys :=
  ⟨h.1, h.2.imp id fun ⟨g, cap, cur, h1, h2, h3⟩ => ⟨g, cap, cur, h1, Nat.le_trans hb h2, h3⟩⟩
/-- what read answers -/
structure RdR (k : Nat) (ps : List ByteArray) (lim : Nat) (base : Nat) (ok : Bool) (x : EvV) (ks : List Int) (w : World) : Prop where
  yes : ∀ e', readE k (ps.map tl) = some e' → ok = true ∧ x.ev ks = e'
  no : readE k (ps.map tl) = none → ok = false
  own : Own w base 3 1 encZ (.slice x.A x.m x.c) ks
  len : x.m = ks.length
  n1 : x.name.size ≤ lim
  n2 : x.other.size ≤ lim
  n3 : x.data.size ≤ lim
  few : ks.length ≤ ps.length
  ints : intsOk (x.ev ks)
set_option maxRecDepth 100000 in
set_option maxHeartbeats 8000000 in
theorem read_any (k : Nat) (hk1 : 1 ≤ k) (hk2 : k ≤ 12) (A : Option Addr) (n c : Nat) (ps : List ByteArray) (hn : n = ps.length) (hn2 : n ≤ 1073741824) (lim : Nat) (hlim : ∀ p ∈ ps, p.size ≤ lim) (hl2 : lim ≤ 1099511627776) (w : World) (hs : SliceOf w w.heap.size 1 encQ A ps) (hS : SOk w) :
    Calls Tryd.prog 17 #[.int .i64 k, .slice A n c] w fun e w' => (∃ ok x ks, e = .returned (.tuple #[.agg x.C, .bool ok]) ∧ RdR k ps lim w.heap.size ok x ks w') ∧ Below w.heap.size w w' := by
  have h7 := hS.size
  replace hS := Lib.hid hS
  replace hn := Lib.hid hn
  replace hlim := Lib.hid hlim
  go_enter Tryd.func17, Tryd.ntmps17
  go_upto_region 1 with (fail)
  obtain ⟨w1, hw1⟩ : ∃ y, y = w.alloc (.cells #[.int .i64 0, .string ⟨#[]⟩, .string ⟨#[]⟩, .string ⟨#[]⟩, .int .i64 0, .bool false, .slice none 0 0] 24) := ⟨_, rfl⟩
  have hb0 : Blk w1 w.heap.size 24 (evK 0).C := by rw [hw1]; exact Blk.new w _ _
  have hB1 : Below w.heap.size w w1 := by rw [hw1]; exact below_alloc (Below.refl w.heap.size w) _
  rw [← hw1]
  clear hw1
  have hz := Blk.new w1 24 (evK 0).C
  have hgl0 := hb0.lt
  go_upto_region 2 with (first
    | (refine wl_build_ev rfl _ rfl (k : Int) rfl ?_)
    | (refine wl_store_ev rfl _ _ rfl w1.heap.size (evK k) (evK 0) rfl rfl hz ?_; intro w2 hbe hg2))
  have hB12 := below_grown (below_alloc (Below.refl w1.heap.size w1) _) hg2 (Nat.le_refl _)
  obtain ⟨ge, hge⟩ : ∃ y, y = w1.heap.size := ⟨_, rfl⟩
  obtain ⟨r0, hr0⟩ : ∃ y, y = w.heap.size := ⟨_, rfl⟩
  have hsr : SliceOf w r0 1 encQ A ps := by rw [hr0]; exact hs
  have h0g : r0 < ge := by rw [hr0, hge]; exact hgl0
  rw [← hge] at hbe ⊢
  rw [← hr0] at hb0 hB1 h7 ⊢
  have hb2 := blk_then hb0 hB12
  have hB2 : Below r0 w w2 := hB1.trans (hB12.mono (by rw [hr0]; omega))
  replace hge := Lib.hid hge
  replace hr0 := Lib.hid hr0
  clear hg2 hz hb0 hB1 hB12 hs hgl0
  have hS2 := hS.out.then_ h7 hB2
  obtain ⟨L0, hL0⟩ : ∃ L0, letters.getD k [] = L0 := ⟨_, rfl⟩
  obtain ⟨LS, hLS⟩ : ∃ LS : ByteArray, ⟨L0.toArray⟩ = LS := ⟨_, rfl⟩
  have hLt : tl LS = L0 := by rw [← hLS]
  have q2 : w2.cell? ⟨0, k * 2 + 1, none⟩ = some (.string LS) := by
    have h9 := hS2.rows _ _ (rows_at k (by omega)).2
    rw [hL0] at h9
    unfold strV at h9
    rw [hLS, Nat.zero_add, Nat.mul_comm] at h9
    exact h9
  have hla := letters_ascii k (by omega)
  rw [hL0] at hla
  obtain ⟨b, hbb⟩ : ∃ b, (LS.toList == [107]) = b := ⟨_, rfl⟩
  have hlets : letsOf k n = if b then List.replicate n 107 else L0 := by
    unfold letsOf
    rw [hL0, ← hbb, Lib.toList_data]
    show _ = if (tl LS == [107]) = true then _ else _
    rw [hLt]
    simp only [beq_iff_eq]
  have f3 : ((k : Nat) : Int) < 13 := by omega
  have f4 : ¬ ((k : Nat) : Int) < 0 := by omega
  replace hlets := Lib.hid hlets
  replace hS2 := Lib.hid hS2
  have hLt2 := Lib.hid hLt
  have hla2 := Lib.hid hla
  have kR := repeat_any n (by omega) w2
  clear hLS hL0 hLt hla
  go_upto_if 17 with (fail)
  go_cut [7] from 18 to 20 (fun v wx => ∃ L7 : ByteArray, v = .string L7 ∧ Hid (tl L7 = letsOf k n) ∧ Below w2.heap.size w2 wx)
  case first =>
    cases b with
    | true =>
      go_wp2_with (go_at_call 28; refine kR.mono ?_; clear kR; rintro e w3 ⟨rfl, hB3⟩; unfold strV)
      go_meet
      exact ⟨_, rfl, Lib.hid (by rw [hlets.out]; simp [tl]), hB3⟩
    | false =>
      go_wp2_with (fail)
      go_meet
      exact ⟨LS, rfl, Lib.hid (by rw [hlets.out, if_neg (by decide)]; exact hLt2.out), Below.refl _ _⟩
  case rest =>
    obtain ⟨L7, rfl, hL7, hBc⟩ := hcut
    have hbe2 := blk_then hbe hBc
    have hb02 := blk_then hb2 hBc
    have hgw := hbe2.lt
    have hr0w := hb02.lt
    have hBw : Below r0 w wc := hB2.trans (hBc.mono (by have := hb2.lt; omega))
    have hLz : L7.size = (letsOf k n).length := by rw [← hL7.out]; simp [tl]
    have hpl := hn.out
    clear hbe hb2 hB2 hBc q2 kR hbb hlets f3 f4
    by_cases hm : (letsOf k n).length = n
    case neg =>
      have f1 : (((n : Nat) : Int) != (L7.size : Int)) = true := bne_iff_ne.2 (by rw [hLz]; omega)
      have hnone : Hid (readE k (ps.map tl) = none) := Lib.hid (by
        unfold readE
        rw [List.length_map, ← hpl]
        exact readG_len _ _ _ (by rw [List.length_map, ← hpl]; exact hm))
      clear hm hLz hpl
      go_wp2_with (first
        | (refine wpList_load_row rfl _ _ rfl ge rfl _ _ _ _ hbe2 Tryd.underlying24 rfl (info_ev.trans rfl) ?_)
        | (refine wl_store_ev rfl _ _ rfl r0 (evK k) (evK 0) rfl rfl hb02 ?_; intro w5 h5 hg5))
      refine ret_cell2 rfl _ rfl h5 Tryd.underlying24 rfl (info_ev.trans rfl) rfl ?_
      refine ⟨⟨false, evK k, [], rfl, ?_⟩, ?_⟩
      · exact ⟨fun e' h => (by rw [hnone.out] at h; cases h), fun _ => rfl, Own.nil_ _ _ _ _ _, rfl, by show (0 : Nat) ≤ _; omega, by show (0 : Nat) ≤ _; omega, by show (0 : Nat) ≤ _; omega, by simp, ⟨by show i64z 0; unfold i64z; omega, fun z hz => by cases hz⟩⟩
      · rw [← hr0.out]
        exact hBw.grown hg5 (Nat.le_of_lt hr0w) (by rintro k ⟨⟩; exact Nat.le_refl _)
    case pos =>
      have f1 : (((n : Nat) : Int) != (L7.size : Int)) = false := Bool.eq_false_iff.2 (fun h => bne_iff_ne.1 h (by rw [hLz]; omega))
      have HM := Lib.hid (And.intro hm hLz)
      replace hpl := Lib.hid hpl
      have hbe3 := blk_then hbe2 (below_alloc (Below.refl wc.heap.size wc) (.stringIter L7 0))
      have hb03 := blk_then hb02 (below_alloc (Below.refl wc.heap.size wc) (.stringIter L7 0))
      have hBw3 := hBw.alloc (Nat.le_of_lt hr0w) (.stringIter L7 0)
      clear hm hLz hbe2 hb02
      go_wp2_with (fail)
      obtain ⟨it, hit0⟩ : ∃ y, y = wc.heap.size := ⟨_, rfl⟩
      have hiter : (wc.alloc (.stringIter L7 0)).heap[it]? = some (.stringIter L7 0) := by
        have := World.iter_heap wc L7 0
        rw [hit0]
        exact this
      have hgi : ge < it := by rw [hit0]; exact hgw
      have hzc : (wc.alloc (.stringIter L7 0)).heap.size = it + 1 := by rw [World.size_alloc, hit0]
      rw [← hit0]
      replace hit0 := Lib.hid hit0
      go_loopw [8] (fun _ wr => ∃ (pos : Nat) (x : EvV) (ks : List Int), EvM wr ge (it + 1) x ks ∧ Blk wr r0 24 (evK 0).C ∧ wr.heap[it]? = some (.stringIter L7 pos) ∧ Below r0 w wr ∧ pos ≤ n ∧ Hid (readE k (ps.map tl) = readG ((letsOf k n).drop pos) ((ps.map tl).drop pos) (x.ev ks)) ∧ x.name.size ≤ lim ∧ x.other.size ≤ lim ∧ x.data.size ≤ lim ∧ ks.length ≤ pos ∧ Hid (intsOk (x.ev ks))) (fun _ wr => n - wr.iterPos it)
      case atStart =>
        refine ⟨0, evK k, [], ⟨hbe3, Own.nil_ _ _ _ _ _, rfl, by omega, Nat.le_of_eq hzc.symm⟩, hb03, hiter, hBw3, by omega, Lib.hid ?_, by show (0 : Nat) ≤ _; omega, by show (0 : Nat) ≤ _; omega, by show (0 : Nat) ≤ _; omega, by simp, Lib.hid ⟨by show i64z 0; unfold i64z; omega, fun z hz => by cases hz⟩⟩
        unfold readE
        rw [List.length_map, ← hpl.out, List.drop_zero, List.drop_zero, evK_ev]
      case round =>
        clear hbe3 hb03 hiter hBw3
        obtain ⟨pos, x, ks, hM, hb0, hit, hB, hpn, hrd, hx1, hx2, hx3, hkl, hio⟩ := hrel
        have hiw : it < wr.heap.size := (Array.getElem?_eq_some_iff.1 hit).1
        have hip : wr.iterPos it = pos := by simp [World.iterPos, hit]
        obtain ⟨hmm, hLz⟩ := HM.out
        by_cases hp : pos < n
        · have hpS : pos < L7.size := by omega
          have hpl2 : pos < (letsOf k n).length := by omega
          have hpps : pos < ps.length := by rw [← hpl.out]; exact hp
          obtain ⟨c0, hc0⟩ : ∃ c0, (letsOf k n)[pos] = c0 := ⟨_, rfl⟩
          have hL72 : L7[pos] = c0 := by
            rw [← hc0]
            have h9 : L7[pos] = (tl L7)[pos]'(by rw [hL7.out]; exact hpl2) := rfl
            rw [h9]
            simp [hL7.out]
          have hca : c0.toNat < 128 := lets_ascii k n (by omega) c0 (by rw [← hc0]; exact List.getElem_mem _)
          have hnx : ∀ ty, (Instr.next (.pointer (some ⟨it, 0, none⟩)) true ty).run Tryd.prog wr = .ok (.tuple #[.bool true, .int .i64 pos, .int .i32 (c0.toNat : Nat)]) (wr.iterAt it L7 (pos + 1)) := fun ty => by
            have h9 := Lib.run_next_ascii_at (P := Tryd.prog) wr it L7 pos ty hit hpS (by rw [hL72]; exact hca)
            rw [hL72] at h9
            exact h9
          have hM3 : EvM (wr.iterAt it L7 (pos + 1)) ge (it + 1) x ks := ⟨(Lib.iterAt_other wr it ge L7 (pos + 1) (by omega)).trans hM.blk, own_iterAt hM.own hit (pos + 1), hM.len, hM.lt, by rw [Lib.iterAt_size]; exact hM.bs⟩
          have hb3 : Blk (wr.iterAt it L7 (pos + 1)) r0 24 (evK 0).C := (Lib.iterAt_other wr it r0 L7 (pos + 1) (by omega)).trans hb0
          have hit3 := Lib.iterAt_heap wr it L7 pos (pos + 1) hit
          have hB3 := Lib.below_iterAt hB (k := it) (by omega) L7 (pos + 1)
          obtain ⟨w3, hw3⟩ : ∃ y, y = wr.iterAt it L7 (pos + 1) := ⟨_, rfl⟩
          rw [← hw3] at hnx hM3 hb3 hit3 hB3
          clear hw3 hM hb0 hit hB
          obtain ⟨bA, offA, hA, hbA, hrowA⟩ := hsr.at_ (by omega)
          obtain ⟨p, hpp⟩ : ∃ p, ps[pos] = p := ⟨_, rfl⟩
          have hpsz : p.size ≤ lim := hlim.out p (by rw [← hpp]; exact List.getElem_mem _)
          have cW : w3.cell? ⟨bA, offA + pos * 1, none⟩ = some (.string p) := by
            have h9 := hrowA pos hpps 0 _ rfl
            rw [hpp] at h9
            exact (hB3.cell (p := ⟨bA, offA + pos * 1 + 0, none⟩) hbA).trans h9
          have hbl3 : bA < w3.heap.size := by have := hM3.bs; omega
          have hS3 := hS.out.then_ h7 hB3
          have hrd2 : readE k (ps.map tl) = (takeC' c0 (tl p) (x.ev ks)).bind (readG ((letsOf k n).drop (pos + 1)) ((ps.map tl).drop (pos + 1))) := by
            rw [hrd.out, List.drop_eq_getElem_cons hpl2, List.drop_eq_getElem_cons (l := ps.map tl) (i := pos) (by rw [List.length_map]; exact hpps), readG, hc0, List.getElem_map, hpp]
          replace hrd2 := Lib.hid hrd2
          clear hrd hc0 hL72 hca hpS hpl2 hrowA hpp hmm hLz
          rw [hA]
          go_upto_region 10 with (fail)
          refine wp_region_steps 6 [eqS (.int .i32 ((c0.toNat : Nat) : Int)), fnS c0 ge w3.heap.size, eqS (.slice (some ⟨bA, offA, none⟩) n c), eqS (.int .i64 ((pos : Nat) : Int)), eqS (.pointer (some ⟨bA, offA + pos * 1, none⟩)), eqS (.string p)] [33, 34, 35, 36, 37, 38] follows_mixed (by kernel_rfl) (by kernel_rfl) ?_ ?_
          · skip
            refine Steps.cons (fun a' w' hG hB dep => gs_move (want_none rfl) _ rfl (hG.other 9 rfl)) ?_
            refine Steps.cons (fun a' w' hG hB dep => gs_call (want_none rfl) _ _ _ rfl enter_take _ (map2 (dep 0 rfl 33 rfl) (hG.other 6 rfl)) ((take_any c0 _ rfl ge w').mono fun e w2 ⟨⟨pb, h1, h2, h3, T, h4, h5⟩, h6⟩ => ⟨_, h1, h6, pb, T, rfl, Nat.le_trans hB.size h2, h4, h5⟩)) ?_
            refine Steps.cons (fun a' w' hG hB dep => gs_move (want_none rfl) _ rfl (hG.other 1 rfl)) ?_
            refine Steps.cons (fun a' w' hG hB dep => gs_move (want_none rfl) _ rfl (hG.other 8 rfl)) ?_
            refine Steps.cons (fun a' w' hG hB dep => gs_index (want_none rfl) _ _ _ rfl under_strs 1 size_strE bA offA n c pos (dep 2 rfl 35 rfl) (dep 3 rfl 36 rfl) hp rfl) ?_
            refine Steps.cons (fun a' w' hG hB dep => gs_load1 (want_none rfl) _ _ rfl bA (offA + pos * 1) (dep 4 rfl 37 rfl) (.string p) ((hB.cell hbl3).trans cW) _ Tryd.underlying9 rfl rfl) ?_
            exact Steps.nil
          intro u w8 hw8 ans
          have hu38 : u 38 = .string p := ans 5 38 (by decide) rfl
          obtain ⟨pb, T, hu34, hpb, hP8, hT8⟩ := ans 1 34 (by decide) rfl
          clear ans
          simp only [putAll, List.foldl_cons, List.foldl_nil, Act.put, List.setIfInBounds_toArray, List.set_cons_zero, List.set_cons_succ, hu38, hu34]
          clear hu38 hu34
          simp only [List.drop]
          have hM8 := hM3.then_ hw8
          have hB8 : Below r0 w w8 := hB3.trans (hw8.mono (by have := hM3.bs; omega))
          have hb8 := blk_then hb3 hw8
          have hit8 : w8.heap[it]? = some (.stringIter L7 (pos + 1)) := (hw8.block it (by have := hM3.bs; omega)).trans hit3
          refine wl_callv rfl (fnOf c0) _ #[.pointer (some ⟨pb, 0, none⟩)] _ _ rfl rfl (enter_fnOf c0) #[.string p, .pointer (some ⟨pb, 0, none⟩)] (by kernel_rfl) ?_
          refine (clos_any c0 p (by omega) ge (it + 1) pb (by omega) T hT8 x ks (by omega) w8 hM8 hP8 (hS3.then_ h7 (hw8.mono (by have := hM3.bs; omega)))).mono ?_
          rintro e w9 ⟨bb, x', ks', rfl, hM9, hTK, hR⟩
          refine ⟨_, rfl, ?_⟩
          have hB9 := hB8.trans (hTK.below (r := r0) (by omega) (by omega))
          have hb9 : Blk w9 r0 24 (evK 0).C := (hTK.block r0 (by omega) (by omega)).trans hb8
          have hit9 : w9.heap[it]? = some (.stringIter L7 (pos + 1)) := (hTK.block it (by omega) (by omega)).trans hit8
          have hn1 := hR.n1
          have hn2 := hR.n2
          have hn3 := hR.n3
          have hfw := hR.few
          have hio9 := Lib.hid (hR.ints hio.out)
          have hyes := Lib.hid hR.yes
          have hno := Lib.hid hR.no
          clear hM3 hb3 hit3 hB3 hM8 hP8 hB8 hb8 hit8 hTK hR hw8 cW hio hnx
          cases bb with
          | true =>
            have hsome : Hid (readE k (ps.map tl) = readG ((letsOf k n).drop (pos + 1)) ((ps.map tl).drop (pos + 1)) (x'.ev ks')) := Lib.hid (by
              rw [hrd2.out]
              cases ht : takeC' c0 (tl p) (x.ev ks) with
              | none => exact absurd (hno.out ht) (by decide)
              | some e' => rw [(hyes.out e' ht).2]; rfl)
            clear hno hyes hrd2
            go_wp2_with (fail)
            have hip9 : w9.iterPos it = pos + 1 := by simp [World.iterPos, hit9]
            refine ⟨⟨pos + 1, x', ks', hM9, hb9, hit9, hB9, by omega, hsome, by omega, by omega, by omega, by omega, hio9⟩, ?_⟩
            rw [hip9, hip]
            omega
          | false =>
            have hnone : Hid (readE k (ps.map tl) = none) := Lib.hid (by
              rw [hrd2.out]
              cases ht : takeC' c0 (tl p) (x.ev ks) with
              | none => rfl
              | some e' => exact absurd (hyes.out e' ht).1 (by decide))
            clear hno hyes hrd2
            have hbx := hM9.blk
            go_wp2_with (first
              | (refine wpList_load_row rfl _ _ rfl ge rfl _ _ _ _ hbx Tryd.underlying24 rfl (info_ev.trans rfl) ?_)
              | (refine wl_store_ev rfl _ _ rfl r0 x' (evK 0) rfl rfl hb9 ?_; intro w5 h5 hg5))
            refine ret_cell2 rfl _ rfl h5 Tryd.underlying24 rfl (info_ev.trans rfl) rfl ?_
            refine ⟨⟨false, x', ks', rfl, ?_⟩, ?_⟩
            · refine ⟨fun e' h => (by rw [hnone.out] at h; cases h), fun _ => rfl, ?_, hM9.len, by omega, by omega, by omega, by omega, hio9.out⟩
              exact (own_base (hM9.own.kept_ hg5 (fun j h1 h2 => by
                have h3 := (hM9.own.lt j h1).1
                injection h2 with h2
                omega)) (by rw [← hr0.out]; omega))
            · rw [← hr0.out]
              exact hB9.grown hg5 (Nat.le_of_lt hb9.lt) (by rintro k ⟨⟩; exact Nat.le_refl _)
        · have hpS : ¬ pos < L7.size := by omega
          have hnx : ∀ ty, (Instr.next (.pointer (some ⟨it, 0, none⟩)) true ty).run Tryd.prog wr = .ok (.tuple #[.bool false]) wr := fun ty => Lib.run_next_end_at (P := Tryd.prog) wr it L7 pos ty hit hpS
          have hfin : Hid (readE k (ps.map tl) = some (x.ev ks)) := Lib.hid (by
            rw [hrd.out, List.drop_eq_nil_of_le (by omega), List.drop_eq_nil_of_le (by rw [List.length_map, ← hpl.out]; omega)]
            rfl)
          have hbx := hM.blk
          clear hrd hmm hLz hit hpS
          go_wp2_with (first
            | (refine wpList_load_row rfl _ _ rfl ge rfl _ _ _ _ hbx Tryd.underlying24 rfl (info_ev.trans rfl) ?_)
            | (refine wl_store_ev rfl _ _ rfl r0 x (evK 0) rfl rfl hb0 ?_; intro w5 h5 hg5))
          refine ret_cell2 rfl _ rfl h5 Tryd.underlying24 rfl (info_ev.trans rfl) rfl ?_
          refine ⟨⟨true, x, ks, rfl, ?_⟩, ?_⟩
          · refine ⟨fun e' h => ⟨rfl, by rw [hfin.out] at h; injection h⟩, fun h => (by rw [hfin.out] at h; cases h), ?_, hM.len, hx1, hx2, hx3, by rw [← hpl.out]; omega, hio.out⟩
            exact (own_base (hM.own.kept_ hg5 (fun j h1 h2 => by
              have h3 := (hM.own.lt j h1).1
              injection h2 with h2
              omega)) (by rw [← hr0.out]; omega))
          · rw [← hr0.out]
            exact hB.grown hg5 (Nat.le_of_lt hb0.lt) (by rintro k ⟨⟩; exact Nat.le_refl _)
theorem enter_read (args : Array Value) (w : World) : (callFunc 17 args).run Tryd.prog w = .ok (.enter 17 args) w := by kernel_rfl
end Go.Proofs.YtjplgcmfifoefaaDoor
