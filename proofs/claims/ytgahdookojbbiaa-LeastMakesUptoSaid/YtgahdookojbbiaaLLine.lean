/- least.line: the line that leads to a pair. No condition beyond those named in each lemma. -/
import Derived.Test.YtgahdookojbbiaaLTop
import Derived.Test.YtgahdookojbbiaaPairs
import Derived.Laws.IdiomStrings
import Derived.Laws.BytesString
namespace Go.Proofs.Ytgahdookojbbiaa
open Go.RowKit Go.Maps
set_option linter.unusedVariables false
set_option linter.unusedSimpArgs false
attribute [local go_sem] Oper.semAt_some

/-- a pair's cells -/
def encP (p : PR) : Array Value := #[.int .i64 (p.a : Int), .int .i64 (p.b : Int), .int .i64 p.bef, .int .u8 (p.by_ : Int)]
theorem encP_size (p : PR) : (encP p).size = 4 := rfl
def encB (b : UInt8) : Array Value := #[.int .u8 (b.toNat : Int)]
theorem encB_size (b : UInt8) : (encB b).size = 1 := rfl
theorem encB_one (b : UInt8) : (encB b).all (·.oneCell') = true := by simp [encB, Value.oneCell']
theorem info_b3 : (Try.prog.info? 5).map (fun i => (i.zero, i.size, i.bytes)) = some (some (.int .u8 0), 1, 1) := by kernel_rfl
theorem info_bS : (Try.prog.info? 5).map (·.size) = some 1 := by kernel_rfl
theorem run_bs1 (w : World) (y : Int) : (Instr.buildSlice 112 1 #[(0, .int .u8 y)]).run Try.prog w = .ok (.slice (some ⟨w.heap.size, 0, none⟩) 1 1) (w.alloc (.cells #[.int .u8 y] 5)) := by kernel_rfl
theorem under_bytes : Try.prog.underlying 112 = some (.slice (Try.prog.elem 112)) := by kernel_rfl
theorem size_byteE (w : World) : (sizeOf (Try.prog.elem 112)).run Try.prog w = .ok 1 w := by kernel_rfl
def bytesU (u : List Nat) : List UInt8 := u.map UInt8.ofNat
theorem bytesU_nat {b : Nat} (h : b < 256) : (UInt8.ofNat b).toNat = b := by simp; omega
section
variable {ops : Array Oper} {rest : List Oper} {o : Oper} {a : Act} {w : World} {Q : Exit → Act → World → Prop}
theorem wl_bs1 (hgd : o.guard = none) (x : Operand) (ho : o.op = .buildSlice 112 1 #[(0, x)]) (y : UInt8) (hx : a.eval x = .int .u8 (y.toNat : Int))
    (h : wpList Try.prog ops Q rest (a.put o.dst (.slice (some ⟨w.heap.size, 0, none⟩) 1 1)) (w.alloc (.cells (encB y) 5))) : wpList Try.prog ops Q (o :: rest) a w :=
  wpList_plain hgd fun _ hK => by
    unfold Oper.wp execOp
    simp only [ho, List.map_toArray, List.map_cons, List.map_nil, hx, Sem.run_bind, run_bs1, Result.andThen_ok, Sem.run_pure]
    exact hK _ _ h
/-- one byte appended to a row of the call's own -/
theorem wl_pushB (hgd : o.guard = none) (s x : Operand) (ho : o.op = .call { callee := .builtin .append, args := #[s, x], argTypes := #[112, 112] })
    (base : Nat) (l : List UInt8) (z : UInt8) {A : Option Addr} {n c g : Nat} (hs : a.eval s = .slice A n c) (hx : a.eval x = .slice (some ⟨g, 0, none⟩) 1 1) (hb1 : Blk w g 5 (encB z)) (hown : Own w base 5 1 encB (.slice A n c) l) (hn : n = l.length) (hl : l.length ≤ 1099511627776) (hbase : base ≤ w.heap.size)
    (h : ∀ A' c' w', Own w' base 5 1 encB (.slice A' (n + 1) c') (l ++ [z]) → w.grownBy w' (Value.slice A n c).ownBlock → wpList Try.prog ops Q rest (a.put o.dst (.slice A' (n + 1) c')) w') : wpList Try.prog ops Q (o :: rest) a w := by
  obtain ⟨ii, hii, hz0, hz1, hz2⟩ := info_parts info_b3
  subst hn
  refine wl_append _ hgd _ _ 112 ho base 5 ii _ 1 1 Try.underlying112 hii hz0 hz1 hz2 rfl (by decide) encB_size encB_one (.slice A l.length c) l hs hown _ _ 1 1 [z] hx rfl (slice_one (enc := encB) hb1) (by unfold maxLen; omega) (by omega) hbase ?_
  intro v' w' ho' hg hv
  obtain ⟨A', c', rfl, _, _⟩ := ho'.shape
  have hl8 : (l ++ [z]).length = l.length + 1 := by simp
  rw [hl8] at ho' hv ⊢
  exact h _ _ _ ho' hg
/-- one cell stored into a row of the call's own -/
theorem wl_store_own1 {α : Type} {enc : α → Array Value} {base : Nat} {e : TypeId} {ys : List α} (hgd : o.guard = none) (ty : TypeId) (x y : Operand) (ho : o.op = .store ty x y)
    (g k n cap : Nat) (hx : a.eval x = .pointer (some ⟨g, k, none⟩)) (z : α) (v : Value) (hz : enc z = #[v]) (hy : a.eval y = v) (hs : ∀ y, (enc y).size = 1) (h1 : v.oneCell' = true) (hvc : v.cells = #[v]) (hsz : (Try.prog.info? ty).map (·.size) = some 1) (hown : Own w base e 1 enc (.slice (some ⟨g, 0, none⟩) n cap) ys) (hk : k < ys.length)
    (h : ∀ w', Own w' base e 1 enc (.slice (some ⟨g, 0, none⟩) n cap) (ys.set k z) → w.grownBy w' (some g) → wpList Try.prog ops Q rest (a.put o.dst undef) w') : wpList Try.prog ops Q (o :: rest) a w := by
  obtain ⟨u, hu⟩ : ∃ u, (enc ys[k])[0]? = some u := ⟨(enc ys[k])[0]'(by rw [hs]; omega), Array.getElem?_eq_getElem _⟩
  have hcell : w.cell? ⟨g, k, none⟩ = some u := by
    have := hown.row hs k hk 0 _ hu
    rw [Nat.mul_one] at this
    exact this
  have hfr := hown.frozen k
  have hrun : (storeVar ty ⟨g, k, none⟩ v).run Try.prog w = .ok () (w.setCell ⟨g, k, none⟩ v) := by
    cases hq : Try.prog.info? ty with
    | none => rw [hq] at hsz; cases hsz
    | some j =>
      have hj : j.size = 1 := by rw [hq] at hsz; simpa using hsz
      have e := run_store Try.prog w ⟨g, k, none⟩ v .plain h1
      simp only [hcell, hfr, Bool.false_eq_true, if_false] at e
      have e0 : (⟨g, k, none⟩ : Addr).add 0 = ⟨g, k, none⟩ := rfl
      simp [storeVar, sizeOf, typeInfo, hq, hj, hvc, storeCells, e0, e]
  refine wpList_plain hgd fun _ hK => ?_
  unfold Oper.wp execOp
  simp only [ho, hx, hy, Instr.storeAt, Instr.sureAddr, Sem.run_bind, Sem.run_pure, Result.andThen_ok, hrun]
  have o1 := hown.setCell (i := k) (q := 0) (y' := z) (u := v) hs hk (by decide) (by
    have h2 : (enc ys[k]).toList.length = 1 := by rw [Array.length_toList, hs]
    rw [hz]
    match hh : (enc ys[k]).toList, h2 with
    | [_], _ => rfl)
  rw [Nat.mul_one, Nat.add_zero] at o1
  exact hK _ _ (h _ o1 (only_setCell (only_refl _ _) (.inl rfl) _))
theorem str_of {A : Option Addr} {n c B : Nat} {l : List UInt8} (hn : n = l.length) (hs : SliceOf w B 1 encB A l) : (Go.convert 112 9 (.slice A n c)).run Try.prog w = .ok (.string ⟨l.toArray⟩) w := by
  subst hn
  rcases A with _ | a
  · have hl : l = [] := by
      rcases hs with h | ⟨b, off, h, _⟩
      · exact h
      · cases h
    subst hl
    rw [run_convert_bytes_string w _ _ 5 none _ c Try.underlying112 Try.underlying5 Try.underlying9]
    rfl
  · refine run_convert_bytes_back w _ _ 5 a c l Try.underlying112 Try.underlying5 Try.underlying9 fun j hj => ?_
    obtain ⟨b, off, e, _, hrow⟩ := hs.at_ (by omega)
    injection e with e
    subst e
    have := hrow j hj 0 _ rfl
    rw [Nat.mul_one] at this
    rw [addr_add]
    exact this
end
theorem wl_conv_str {ops : Array Oper} {rest : List Oper} {o : Oper} {a : Act} {w : World} {Q : Exit → Act → World → Prop} (hgd : o.guard = none) (x : Operand) (ho : o.op = .convert 112 9 x) {A : Option Addr} {n c B : Nat} (l : List UInt8) (hx : a.eval x = .slice A n c) (hn : n = l.length) (hs : SliceOf w B 1 encB A l)
    (h : wpList Try.prog ops Q rest (a.put o.dst (.string ⟨l.toArray⟩)) w) : wpList Try.prog ops Q (o :: rest) a w :=
  wpList_plain hgd fun _ hK => by
    unfold Oper.wp execOp
    simp only [ho, hx, Sem.run_bind, str_of hn hs, Result.andThen_ok, Sem.run_pure]
    exact hK _ _ h
/-- i steps of turning a row about -/
def revF (o : List UInt8) (i : Nat) : List UInt8 := (List.range o.length).map fun p => if p < i ∨ o.length ≤ p + i then o.getD (o.length - 1 - p) 0 else o.getD p 0
theorem revF_len (o : List UInt8) (i : Nat) : (revF o i).length = o.length := by simp [revF]
theorem revF_zero (o : List UInt8) : revF o 0 = o := by
  apply List.ext_getElem
  · simp [revF]
  · intro i h1 h2
    simp only [revF, List.getElem_map, List.getElem_range]
    rw [if_neg (by omega), getD_at _ _ h2]
theorem revF_at {o : List UInt8} {i p : Nat} (h : p < o.length) (h2 : p < (revF o i).length) : (revF o i)[p] = if p < i ∨ o.length ≤ p + i then o.getD (o.length - 1 - p) 0 else o.getD p 0 := by simp [revF]
theorem revF_step {o : List UInt8} {i : Nat} (h : 2 * i + 1 < o.length) : ((revF o i).set i (o.getD (o.length - 1 - i) 0)).set (o.length - 1 - i) (o.getD i 0) = revF o (i + 1) := by
  apply List.ext_getElem
  · simp [revF]
  · intro p h1 h2
    have hp : p < o.length := by simpa [revF] using h2
    rw [List.getElem_set, List.getElem_set, revF_at hp, revF_at hp]
    by_cases e1 : o.length - 1 - i = p
    · rw [if_pos e1, if_pos (by omega)]
      congr 1
      omega
    · rw [if_neg e1]
      by_cases e2 : i = p
      · rw [if_pos e2, if_pos (by omega), e2]
      · rw [if_neg e2]
        by_cases e3 : p < i ∨ o.length ≤ p + i
        · rw [if_pos e3, if_pos (by omega)]
        · rw [if_neg e3, if_neg (by omega)]
theorem revF_done {o : List UInt8} {i : Nat} (h : o.length ≤ 2 * i + 1) : revF o i = o.reverse := by
  apply List.ext_getElem
  · simp [revF]
  · intro p h1 h2
    have hp : p < o.length := by simpa [revF] using h1
    rw [revF_at hp, List.getElem_reverse]
    by_cases e : p < i ∨ o.length ≤ p + i
    · rw [if_pos e, getD_at _ _ (by omega)]
    · rw [if_neg e, getD_at _ _ hp]
      congr 1
      omega
set_option maxRecDepth 100000 in
set_option maxHeartbeats 4000000 in
theorem line_any (l : List PR) (ws : List (List Nat)) (hTr : Tr l ws) (k : Nat) (hk : k < l.length) (hl : l.length ≤ 1048576) (A : Option Addr) (cp : Nat) (w : World) (hS : SliceOf w w.heap.size 4 encP A l) :
    Calls Try.prog 57 #[.slice A l.length cp, .int .i64 (k : Nat)] w fun e w' => e = .returned (.string ⟨(bytesU (ws.getD k [])).toArray⟩) ∧ Below w.heap.size w w' := by
  obtain ⟨bL, oL, rfl, hbL, hrL⟩ := hS.at_ (by omega)
  clear hS
  have hwl := hTr.len
  obtain ⟨W, hW⟩ : ∃ W, ws.getD k [] = W := ⟨_, rfl⟩
  rw [hW]
  replace hTr := Lib.hid hTr
  replace hwl := Lib.hid hwl
  go_enter Try.func57, Try.ntmps57
  go_wp2_with (fail)
  go_loopw [1, 5] (fun jv rv wr => ∃ (j : Nat) (suf : List Nat) (A : Option Addr) (c : Nat), j < l.length ∧ jv = .int .i64 j ∧ rv = .slice A suf.length c ∧ W = ws.getD j [] ++ suf ∧ j + suf.length ≤ k ∧ Below w.heap.size w wr ∧ Own wr w.heap.size 5 1 encB (.slice A suf.length c) (bytesU suf.reverse)) (fun jv _ _ => (intOf jv).toNat)
  case atStart => exact ⟨k, [], none, 0, hk, rfl, rfl, by rw [hW]; simp, by simp, Below.refl _ _, Own.nil_ _ _ _ _ _⟩
  case round =>
    obtain ⟨j, suf, A, c, hj, rfl, rfl, hWj, hjs, hB1, ho⟩ := hrel
    have hjw : j < ws.length := by rw [hwl.out]; exact hj
    have hjI : (j : Int) < l.length := by omega
    have cb : wr.cell? ⟨bL, oL + j * 4 + 2, none⟩ = some (.int .i64 l[j].bef) := cell_keep (hrL j hj 2 _ rfl) hbL hB1
    have cy : wr.cell? ⟨bL, oL + j * 4 + 3, none⟩ = some (.int .u8 (l[j].by_ : Nat)) := cell_keep (hrL j hj 3 _ rfl) hbL hB1
    rcases hTr.out.bef j hj hjw with ⟨h0, h1⟩ | ⟨i, h3, h4, h5, h6, h7⟩
    · rw [h1] at cb
      have hWs : W = suf := by rw [hWj, getD_at _ _ hjw, h0]; rfl
      clear cy hWj h0 h1 hjw
      replace hWs := Lib.hid hWs
      have hbl : (bytesU suf.reverse).length = suf.length := by simp [bytesU]
      obtain ⟨o, hoo⟩ : ∃ o, bytesU suf.reverse = o := ⟨_, rfl⟩
      rw [hoo] at ho hbl
      have hrev : bytesU suf = o.reverse := by rw [← hoo]; simp [bytesU]
      replace hrev := Lib.hid hrev
      obtain ⟨m, hm⟩ : ∃ m, suf.length = m := ⟨_, rfl⟩
      rw [hm] at ho hbl hjs ⊢
      rw [← revF_zero o] at ho
      replace hoo := Lib.hid hoo
      replace hm := Lib.hid hm
      replace hbl := Lib.hid hbl
      have hmI : (m : Int) ≤ 1048576 := by omega
      go_upto_region 6 with (fail)
      clear cb
      have hfin : ∀ i, m ≤ 2 * i + 1 → (⟨(revF o i).toArray⟩ : ByteArray) = ⟨(bytesU W).toArray⟩ := fun i hi => by
        rw [revF_done (by rw [hbl.out]; exact hi), hWs.out, hrev.out]
      replace hfin := Lib.hid hfin
      rcases Nat.eq_zero_or_pos m with h0 | hp
      · go_loopw [6, 7] (fun iv jv wr => iv = .int .i64 (0 : Nat) ∧ jv = .int .i64 (-1) ∧ Below w.heap.size w wr ∧ Own wr w.heap.size 5 1 encB (.slice A m c) (revF o 0)) (fun _ _ _ => 0)
        case atStart => exact ⟨rfl, by rw [h0]; rfl, hB1, ho⟩
        case round =>
          clear hB1 ho
          obtain ⟨rfl, rfl, hB1, ho⟩ := hrel
          have hsl := ho.slice_all encB_size
          have hlr : m = (revF o 0).length := by rw [revF_len, hbl.out]
          replace hlr := Lib.hid hlr
          go_wp2_with (refine wl_conv_str rfl _ rfl (revF o 0) rfl hlr.out hsl ?_)
          go_ret
          exact ⟨by rw [← hfin.out 0 (by omega)]; rfl, hB1⟩
      · obtain ⟨gb, cap, hv, hgb, _, _, _⟩ := ho.form (by rw [revF_len, hbl.out]; exact hp)
        have hA : A = some ⟨gb, 0, none⟩ := by injection hv
        subst hA
        clear hv
        go_loopw [6, 7] (fun iv jv wr => ∃ (i : Nat) (jz : Int), iv = .int .i64 i ∧ jv = .int .i64 jz ∧ jz = (m : Int) - 1 - i ∧ i ≤ m ∧ Below w.heap.size w wr ∧ Own wr w.heap.size 5 1 encB (.slice (some ⟨gb, 0, none⟩) m c) (revF o i)) (fun iv _ _ => m - (intOf iv).toNat)
        case atStart => exact ⟨0, _, rfl, rfl, by simp, by omega, hB1, ho⟩
        case round =>
          clear hB1 ho
          obtain ⟨i, jz, rfl, rfl, hjz, him, hB1, ho⟩ := hrel
          by_cases hlt : 2 * i + 1 < m
          · obtain ⟨q, rfl⟩ : ∃ q : Nat, jz = (q : Int) := ⟨m - 1 - i, by omega⟩
            have hqe : q = m - 1 - i := by omega
            have hiq : (i : Int) < q := by omega
            have hqm : q < m := by omega
            have him2 : i < m := by omega
            have hll : (revF o i).length = m := by rw [revF_len, hbl.out]
            have gi : (revF o i)[i]'(by rw [hll]; exact him2) = o.getD i 0 := by rw [revF_at (by rw [hbl.out]; exact him2), if_neg (by rw [hbl.out]; omega)]
            have gq : (revF o i)[q]'(by rw [hll]; exact hqm) = o.getD q 0 := by rw [revF_at (by rw [hbl.out]; exact hqm), if_neg (by rw [hbl.out]; omega)]
            obtain ⟨x, hx⟩ : ∃ x, o.getD i 0 = x := ⟨_, rfl⟩
            obtain ⟨y, hy⟩ : ∃ y, o.getD q 0 = y := ⟨_, rfl⟩
            have ci : ∀ {X : World}, Below wr.heap.size wr X → X.cell? ⟨gb, 0 + i * 1, none⟩ = some (.int .u8 (x.toNat : Int)) := fun hB => by
              have h3 := (ho.then_ hB).row encB_size i (by rw [hll]; exact him2) 0 _ rfl
              rw [gi, hx] at h3
              rw [show 0 + i * 1 = i * 1 + 0 by omega]
              exact h3
            have cq : ∀ {X : World}, Below wr.heap.size wr X → X.cell? ⟨gb, 0 + q * 1, none⟩ = some (.int .u8 (y.toNat : Int)) := fun hB => by
              have h3 := (ho.then_ hB).row encB_size q (by rw [hll]; exact hqm) 0 _ rfl
              rw [gq, hy] at h3
              rw [show 0 + q * 1 = q * 1 + 0 by omega]
              exact h3
            have hstep : ((revF o i).set i y).set q x = revF o (i + 1) := by
              have h9 := revF_step (o := o) (i := i) (by rw [hbl.out]; exact hlt)
              rw [hbl.out, ← hqe, hx, hy] at h9
              exact h9
            replace hstep := Lib.hid hstep
            replace hll := Lib.hid hll
            have hqv := Lib.hid hqe
            clear gi gq hx hy hjz hqe hlt
            go_upto_region 8 with (fail)
            have ci2 : wr.cell? ⟨gb, i, none⟩ = some (.int .u8 (x.toNat : Int)) := by have := ci (Below.refl _ _); rwa [show 0 + i * 1 = i by omega] at this
            have cq2 : wr.cell? ⟨gb, q, none⟩ = some (.int .u8 (y.toNat : Int)) := by have := cq (Below.refl _ _); rwa [show 0 + q * 1 = q by omega] at this
            have fi2 := ho.frozen i
            have fq2 := ho.frozen q
            have hiI : (i : Int) < m := by omega
            have hqI : (q : Int) < m := by omega
            have hne : i ≠ q := by omega
            clear ci cq
            go_big_region
            have o1 := ho.setCell (i := i) (q := 0) (y' := y) (u := .int .u8 (y.toNat : Int)) encB_size (by rw [hll.out]; exact him2) (by decide) rfl
            rw [show i * 1 + 0 = i by omega] at o1
            have o2 := o1.setCell (i := q) (q := 0) (y' := x) (u := .int .u8 (x.toNat : Int)) encB_size (by rw [List.length_set, hll.out]; exact hqm) (by decide) rfl
            rw [show q * 1 + 0 = q by omega] at o2
            have ho6 := o2.drew
            have hG6 : wr.grownBy ((wr.setCell ⟨gb, i, none⟩ (.int .u8 (y.toNat : Int))).setCell ⟨gb, q, none⟩ (.int .u8 (x.toNat : Int))).drew (some gb) := by
              have k1 : wr.grownBy (wr.setCell ⟨gb, i, none⟩ (.int .u8 (y.toNat : Int))) (some gb) := only_setCell (p := ⟨gb, i, none⟩) (only_refl _ _) (.inl rfl) _
              exact only_drew (only_setCell (p := ⟨gb, q, none⟩) k1 (.inl rfl) _)
            rw [hstep.out] at ho6
            obtain ⟨w6, hw6⟩ : ∃ ww, ww = ((wr.setCell ⟨gb, i, none⟩ (.int .u8 (y.toNat : Int))).setCell ⟨gb, q, none⟩ (.int .u8 (x.toNat : Int))).drew := ⟨_, rfl⟩
            rw [← hw6] at ho6 hG6 ⊢
            replace hB1 := below_grown hB1 hG6 hgb
            clear hw6 hG6 o1 o2 ho ci2 cq2 fi2 fq2
            have hjz : (q : Int) - 1 = (m : Int) - 1 - ((i + 1 : Nat) : Int) := by have := hqv.out; omega
            replace hjz := Lib.hid hjz
            go_wp2_with (fail)
            exact ⟨⟨i + 1, _, rfl, rfl, hjz.out, by omega, hB1, ho6⟩, by simp only [intOf]; omega⟩
          · have hge : ¬ (i : Int) < jz := by omega
            have hsl := ho.slice_all encB_size
            have hlr : m = (revF o i).length := by rw [revF_len, hbl.out]
            replace hlr := Lib.hid hlr
            have hfi := Lib.hid (hfin.out i (by omega))
            clear hjz
            go_wp2_with (refine wl_conv_str rfl _ rfl (revF o i) rfl hlr.out hsl ?_)
            go_ret
            exact ⟨by rw [← hfi.out]; rfl, hB1⟩
    · rw [h5] at cb
      have hbI : (0 : Int) ≤ (i : Int) := by omega
      obtain ⟨z, hz⟩ : ∃ z, UInt8.ofNat l[j].by_ = z := ⟨_, rfl⟩
      have hzn : ((l[j].by_ : Nat) : Int) = (z.toNat : Int) := by rw [← hz, bytesU_nat h7]
      rw [hzn] at cy
      have hW2 : W = ws.getD i [] ++ (l[j].by_ :: suf) := by rw [hWj, getD_at _ _ hjw, h6, getD_at _ _ h3, List.append_assoc]; rfl
      obtain ⟨suf2, hs2⟩ : ∃ s2, l[j].by_ :: suf = s2 := ⟨_, rfl⟩
      have hb2 : bytesU suf.reverse ++ [z] = bytesU suf2.reverse := by rw [← hs2, ← hz]; simp [bytesU]
      have hl2 : suf.length + 1 = suf2.length := by rw [← hs2]; rfl
      rw [hs2] at hW2
      have hbl : (bytesU suf.reverse).length = suf.length := by simp [bytesU]
      replace hb2 := Lib.hid hb2
      replace hW2 := Lib.hid hW2
      replace hl2 := Lib.hid hl2
      replace hbl := Lib.hid hbl
      have hil : i < l.length := by omega
      replace h5 := h5
      clear hs2 hz hzn hWj h6 h7 h3
      go_upto_region 3 with (first | (refine wl_bs1 rfl _ rfl z rfl ?_) | (refine wl_pushB rfl _ _ rfl w.heap.size _ z rfl rfl (Blk.new _ _ _) (ho.alloc _) hbl.out.symm (by rw [hbl.out]; omega) (by have := hB1.size; rw [World.size_alloc]; omega) ?_; intro A8 c8 w8 ho8 hg8))
      rw [hb2.out] at ho8
      have hB8 := below_own (below_alloc hB1 (.cells (encB z) 5)) hg8 (fun k e => (ho.lt k e).1)
      have cb2 : w8.cell? ⟨bL, oL + j * 4 + 2, none⟩ = some (.int .i64 l[j].bef) := cell_keep (hrL j hj 2 _ rfl) hbL hB8
      rw [h5] at cb2
      rw [hl2.out] at ho8 ⊢
      have hl3 := hl2.out
      replace hl3 := Lib.hid hl3
      clear hg8 ho hB1 cb cy h5
      go_wp2_with (fail)
      exact ⟨⟨i, suf2, A8, c8, hil, rfl, rfl, hW2.out, by have := hl3.out; omega, hB8, ho8⟩, by simp only [intOf]; omega⟩
theorem enter_line (args : Array Value) (w : World) : (callFunc 57 args).run Try.prog w = .ok (.enter 57 args) w := by kernel_rfl
end Go.Proofs.Ytgahdookojbbiaa
