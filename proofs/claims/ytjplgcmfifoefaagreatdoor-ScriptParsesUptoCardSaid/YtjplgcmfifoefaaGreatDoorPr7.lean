/- Part 7 of a proof; packed: the texts that it was made of follow one another. No condition beyond those named in each lemma. -/
import Derived.Test.YtjplgcmfifoefaaGreatDoorPr4
import Derived.Test.YtjplgcmfifoefaaGreatDoorPr5
import Derived.Test.YtjplgcmfifoefaaGreatDoorPr6
namespace Go.Proofs.YtjplgcmfifoefaaGreatDoor
open Go.RowKit Go.Shelf Go.Maps
set_option linter.unusedVariables false
set_option linter.unusedSimpArgs false
attribute [local go_sem] Oper.semAt_some

section
variable {ops : Array Oper} {S : Nat → GSpec} {Q : Exit → Act → World → Prop} {i : Nat} {o : Oper} {a : Act} {w : World}
theorem gs_cat2 (hw : Region.wanted o (yielded ops a.tmps) = true) (t t2 : TypeId) (x y : Operand) (ho : o.op = .binOp .add t x y t2) (p q : ByteArray) (hx : a.eval x = .string p) (hy : a.eval y = .string q) (hlen : p.size + q.size ≤ 9223372036854775807) (r : ByteArray) (hr : p ++ q = r)
    (hp : (S i).p (.string r) w) : GStep Tryz.prog ops S Q i o a w := gs_cat hw _ _ x y ho p q hx hy hlen (by rw [hr]; exact hp)
theorem gs_sub (hw : Region.wanted o (yielded ops a.tmps) = true) (x y z : Operand) (ho : o.op = .slice 9 x (some y) (some z) none) (q : ByteArray) (m n : Nat) (hx : a.eval x = .string q) (hy : a.eval y = .int .i64 (m : Int)) (hz : a.eval z = .int .i64 (n : Int)) (hm : m ≤ n) (hn : n ≤ q.size)
    (hp : (S i).p (.string (q.extract m n)) w) : GStep Tryz.prog ops S Q i o a w :=
  gs_run hw (v := .string (q.extract m n)) (by
    unfold execOp
    have e := run_slice_string_if (P := Tryz.prog) w 9 q .i64 .i64 (m : Int) (n : Int) Tryz.underlying9
    rw [if_pos ⟨by omega, by omega⟩, if_pos ⟨by omega, by omega⟩, Int.toNat_natCast, Int.toNat_natCast] at e
    simp only [ho, Option.map_none, Option.map_some, hx, hy, hz, Sem.run_bind, run_sliceAt_string (P := Tryz.prog) w 9 _ _ _ _ Tryz.underlying9, e, Result.andThen_ok, Sem.run_pure]) (Below.refl _ _) hp
end
theorem enter_digits (args : Array Value) (w : World) : (callFunc 40 args).run Tryz.prog w = .ok (.enter 40 args) w := by kernel_rfl
theorem enter_escaped (args : Array Value) (w : World) : (callFunc 41 args).run Tryz.prog w = .ok (.enter 41 args) w := by kernel_rfl
/-- one turn of Quote -/
def qOneR (l : Bs) : Bs := if wideL l = 0 then byN (l.getD 0 0) else if wideL l = 1 then escR (l.getD 0 0) else l.take (wideL l)
theorem head_take (l : Bs) (h : l ≠ []) : l.take 1 = [l.getD 0 0] := by
  cases l with
  | nil => exact absurd rfl h
  | cons a t => rfl
theorem qOne_R (l : Bs) (h : l ≠ []) : qOne l = qOneR l ∧ (Lib.decodeL l).2 = max 1 (wideL l) ∧ wideL l ≤ l.length := by
  have hl : 0 < l.length := List.length_pos_iff.2 h
  have hN := Lib.decodeL_N l
  rcases wide_dec l.length (l.getD 0 0).toNat (l.getD 1 0).toNat (l.getD 2 0).toNat (l.getD 3 0).toNat (l.getD 0 0).toNat_lt (l.getD 1 0).toNat_lt (l.getD 2 0).toNat_lt (l.getD 3 0).toNat_lt with ⟨c, w, d⟩ | ⟨c, w, d⟩ | ⟨c, w1, w2, d1, d2⟩
  · rw [← hN] at d
    have w' : wideL l = 1 := w
    rw [w', d]
    refine ⟨?_, rfl, by omega⟩
    have e : UInt8.ofNat (l.getD 0 0).toNat = l.getD 0 0 := ofNat_toNat _
    have hq : qOneR l = escR (l.getD 0 0) := by unfold qOneR; rw [w', if_neg (show ¬ (1 : Nat) = 0 by decide), if_pos rfl]
    rw [hq]
    unfold qOne escR
    rw [d]
    simp only
    rw [head_take l h, e]
    by_cases h1 : (l.getD 0 0).toNat = 34 ∨ (l.getD 0 0).toNat = 92
    · rw [if_pos h1, if_pos h1]
    · rw [if_neg h1, if_neg h1]
      by_cases h2 : (l.getD 0 0).toNat = 10
      · rw [if_pos h2, if_pos h2]
      · rw [if_neg h2, if_neg h2]
        by_cases h3 : (l.getD 0 0).toNat = 9
        · rw [if_pos h3, if_pos h3]
        · rw [if_neg h3, if_neg h3]
          by_cases h4 : (l.getD 0 0).toNat < 32 ∨ (l.getD 0 0).toNat = 127
          · rw [if_pos h4, if_pos (by omega)]
          · rw [if_neg h4, if_neg (by omega)]
  · rw [← hN] at d
    have w' : wideL l = 0 := w
    rw [w', d]
    refine ⟨?_, rfl, by omega⟩
    unfold qOne qOneR
    rw [w', if_pos rfl, d, if_neg (by decide), if_neg (by decide), if_neg (by decide), if_pos (by decide)]
  · rw [← hN] at d1 d2
    have w1' : 2 ≤ wideL l := w1
    have w2' : wideL l ≤ l.length := w2
    have d2' : (Lib.decodeL l).2 = wideL l := d2
    refine ⟨?_, by omega, w2'⟩
    unfold qOne qOneR
    rw [if_neg (by omega), if_neg (by omega), if_neg (by omega), if_neg (by omega), if_neg (by omega), if_neg (by omega), d2']
theorem qGo_step (f : Nat) (l : Bs) (h : l ≠ []) : qGo (f + 1) l = qOneR l ++ qGo f (l.drop (max 1 (wideL l))) := by
  show (if l = [] then [] else qOne l ++ qGo f (l.drop (Lib.decodeL l).2)) = _
  rw [if_neg h, (qOne_R l h).1, (qOne_R l h).2.1]
theorem escR_len (b : UInt8) : (escR b).length ≤ 4 := by
  unfold escR
  repeat' split
  all_goals simp [byN]
theorem bytes_cat (p q : Bs) : (⟨p.toArray⟩ ++ ⟨q.toArray⟩ : ByteArray) = ⟨(p ++ q).toArray⟩ := by
  apply ByteArray.ext
  simp [ByteArray.data_append]
theorem bytes_eta (q : ByteArray) : q = ⟨(tl q).toArray⟩ := by
  apply ByteArray.ext
  simp [tl]
theorem bytes_size (l : Bs) : (⟨l.toArray⟩ : ByteArray).size = l.length := rfl
theorem bytes_sub (q : ByteArray) (m n : Nat) (hn : n ≤ q.size) : q.extract m n = ⟨(((tl q).drop m).take (n - m)).toArray⟩ := by
  rw [bytes_eta (q.extract m n)]
  show (⟨((q.extract m n).data.toList).toArray⟩ : ByteArray) = _
  rw [extract_bytes q m n hn, List.drop_take]
set_option maxRecDepth 100000 in
set_option maxHeartbeats 4000000 in
theorem rquote_any (q : ByteArray) (hq : q.size ≤ 1099511627776) (w : World) : Calls Tryz.prog 23 #[.string q] w fun e w' => e = .returned (strV (quo (tl q))) ∧ Below w.heap.size w w' := by
  have hlen : (tl q).length = q.size := by simp [tl]
  have kP := rplain_any q hq w
  obtain ⟨pl, hpl⟩ : ∃ pl, isPl (tl q) = pl := ⟨_, rfl⟩
  rw [hpl] at kP
  cases pl with
  | true =>
    have hv : Hid (strV (quo (tl q)) = .string q) := Lib.hid (by rw [quo_pl hpl]; unfold strV; rw [← bytes_eta])
    clear hpl hlen
    go_enter Tryz.func23, Tryz.ntmps23
    go_wp2_with (go_at_call 30; refine kP.mono ?_; clear kP; rintro e w3 ⟨rfl, hB3⟩)
    go_ret
    exact ⟨by rw [hv.out]; rfl, hB3⟩
  | false =>
    have hv : Hid (strV (quo (tl q)) = .string ⟨(34 :: (qGo (tl q).length (tl q) ++ [34])).toArray⟩) := Lib.hid (by rw [quo_no hpl]; rfl)
    obtain ⟨V, hV⟩ : ∃ V, strV (quo (tl q)) = V := ⟨_, rfl⟩
    rw [hV] at hv ⊢
    clear hpl hV
    replace hlen := Lib.hid hlen
    go_enter Tryz.func23, Tryz.ntmps23
    go_wp2_with (go_at_call 30; refine kP.mono ?_; clear kP; rintro e w3 ⟨rfl, hB3⟩)
    go_loopw [4, 5, 6] (fun sv iv nv wr => ∃ (i : Nat) (P : Bs), i ≤ q.size ∧ sv = .string ⟨(34 :: P).toArray⟩ ∧ iv = .int .i64 i ∧ P.length ≤ 4 * i ∧ Hid (∃ f, q.size - i ≤ f ∧ qGo (tl q).length (tl q) = P ++ qGo f ((tl q).drop i)) ∧ Below w.heap.size w wr) (fun _ iv _ _ => q.size - (intOf iv).toNat)
    case atStart => exact ⟨0, [], by omega, rfl, rfl, by simp, Lib.hid ⟨(tl q).length, by have := hlen.out; omega, by simp⟩, hB3⟩
    case round =>
      clear hB3
      obtain ⟨i, P, hi, rfl, rfl, hPl, hg, hB⟩ := hrel
      by_cases hl : i < q.size
      · have hI : (i : Int) < q.size := by omega
        have hI0 : ¬ (i : Int) < 0 := by omega
        have kW := wide_any q hq i hl wr
        have hne : (tl q).drop i ≠ [] := by
          intro e
          have h1 : ((tl q).drop i).length = 0 := by rw [e]; rfl
          rw [List.length_drop, hlen.out] at h1
          omega
        have hR := qOne_R _ hne
        have hstep : Hid (∃ f, q.size - (i + max 1 (wideL ((tl q).drop i))) ≤ f ∧ qGo (tl q).length (tl q) = (P ++ qOneR ((tl q).drop i)) ++ qGo f ((tl q).drop (i + max 1 (wideL ((tl q).drop i))))) := Lib.hid (by
          obtain ⟨f, hf, he⟩ := hg.out
          cases f with
          | zero => omega
          | succ f =>
            refine ⟨f, by omega, ?_⟩
            rw [he, qGo_step f _ hne, List.append_assoc, List.drop_drop])
        have hW2 := hR.2.2
        rw [List.length_drop, hlen.out] at hW2
        have hb : q.data.toList[i]? = some (((tl q).drop i).getD 0 0) := by
          have h2 : i < q.data.toList.length := by simpa using hl
          rw [List.getD_eq_getElem?_getD, List.getElem?_drop, Nat.add_zero]
          show _ = some ((q.data.toList[i]?).getD 0)
          rw [List.getElem?_eq_getElem h2]
          rfl
        obtain ⟨b, hbD⟩ : ∃ b, ((tl q).drop i).getD 0 0 = b := ⟨_, rfl⟩
        rw [hbD] at hb
        replace hb := Lib.hid hb
        unfold qOneR at hstep
        rw [hbD] at hstep
        obtain ⟨n, hn⟩ : ∃ n, wideL ((tl q).drop i) = n := ⟨_, rfl⟩
        rw [hn] at kW hstep hW2
        clear hR hne hg hbD hn
        by_cases c0 : n = 0
        · have f0 : ((n : Int) == 0) = true := beq_iff_eq.2 (by omega)
          have hs2 : Hid (∃ f, q.size - (i + 1) ≤ f ∧ qGo (tl q).length (tl q) = (P ++ byN b) ++ qGo f ((tl q).drop (i + 1))) := Lib.hid (by
            have h := hstep.out
            rw [c0, if_pos rfl] at h
            exact h)
          clear hstep c0 hW2
          go_upto_region 12 with (go_at_call 39; refine kW.mono ?_; clear kW; rintro e w4 ⟨rfl, hB4⟩)
          have hb := hb.out
          refine wp_region_text 7 [eqS (.string ⟨(34 :: P).toArray⟩), eqS (.string ⟨(34 :: (P ++ [92, 120])).toArray⟩), eqS (.string q), eqS (.int .i64 (((i : Nat) : Int))), eqS (.int .u8 (((b.toNat : Nat) : Int))), eqS (.string ⟨[hexD (b.toNat / 16), hexD (b.toNat % 16)].toArray⟩), eqS (.string ⟨(34 :: (P ++ byN b)).toArray⟩)] [32, 33, 34, 35, 36, 37, 38] (by kernel_rfl) (by kernel_rfl) ?_ ?_
          · skip
            refine Steps.cons (fun a' w' hG hB dep => gs_move (want_none rfl) _ rfl (id (hG.other 4 rfl))) ?_
            refine Steps.cons (fun a' w' hG hB dep => gs_cat2 (want_none rfl) _ _ _ _ rfl ⟨(34 :: P).toArray⟩ ⟨#[92, 120]⟩ (dep 0 rfl 32 rfl) rfl (by rw [bytes_size, bytes_size]; simp only [List.length_cons, List.length_nil]; omega) ⟨(34 :: (P ++ [92, 120])).toArray⟩ (by rw [bytes_cat]; simp) rfl) ?_
            refine Steps.cons (fun a' w' hG hB dep => gs_move (want_none rfl) _ rfl (id (hG.other 0 rfl))) ?_
            refine Steps.cons (fun a' w' hG hB dep => gs_move (want_none rfl) _ rfl (id (hG.other 5 rfl))) ?_
            refine Steps.cons (fun a' w' hG hB dep => gs_istr (want_none rfl) _ _ rfl q i b (dep 2 rfl 34 rfl) (dep 3 rfl 35 rfl) hb rfl) ?_
            refine Steps.cons (fun a' w' hG hB dep => gs_call (want_none rfl) _ _ _ rfl enter_digits _ (map1 (dep 4 rfl 36 rfl)) ((digits_any b _).mono fun e w2 ⟨hq9, hb9⟩ => ⟨_, hq9, hb9, rfl⟩)) ?_
            refine Steps.cons (fun a' w' hG hB dep => gs_cat2 (want_none rfl) _ _ _ _ rfl ⟨(34 :: (P ++ [92, 120])).toArray⟩ ⟨[hexD (b.toNat / 16), hexD (b.toNat % 16)].toArray⟩ (dep 1 rfl 33 rfl) (dep 5 rfl 37 rfl) (by rw [bytes_size, bytes_size]; simp only [List.length_append, List.length_cons, List.length_nil]; omega) ⟨(34 :: (P ++ byN b)).toArray⟩ (by rw [bytes_cat]; unfold byN; simp) rfl) ?_
            exact Steps.nil
          intro u w5 hw5 ans
          have hus38 : u 38 = (.string ⟨(34 :: (P ++ byN b)).toArray⟩) := ans 6 38 (by decide) rfl
          clear ans
          simp only [putAll, List.foldl_cons, List.foldl_nil, Act.put, List.setIfInBounds_toArray, List.set_cons_zero, List.set_cons_succ, hus38]
          clear hus38
          simp only [List.drop]
          clear hb
          go_wp2_with (fail)
          exact ⟨⟨i + 1, P ++ byN b, by omega, rfl, rfl, by rw [List.length_append, show (byN b).length = 4 from rfl]; omega, hs2, (hB.trans (hB4.mono hB.size)).trans (hw5.mono (hB.trans (hB4.mono hB.size)).size)⟩, by simp only [intOf]; omega⟩
        have f0 : ((n : Int) == 0) = false := beq_eq_false_iff_ne.2 (by omega)
        by_cases c1 : n = 1
        · have f1 : ((n : Int) == 1) = true := beq_iff_eq.2 (by omega)
          have hs2 : Hid (∃ f, q.size - (i + 1) ≤ f ∧ qGo (tl q).length (tl q) = (P ++ escR b) ++ qGo f ((tl q).drop (i + 1))) := Lib.hid (by
            have h := hstep.out
            rw [c1, if_neg (by decide), if_pos rfl] at h
            exact h)
          clear hstep c0 c1 hW2
          go_upto_region 15 with (go_at_call 39; refine kW.mono ?_; clear kW; rintro e w4 ⟨rfl, hB4⟩)
          have hb := hb.out
          refine wp_region_text 6 [eqS (.string ⟨(34 :: P).toArray⟩), eqS (.string q), eqS (.int .i64 (((i : Nat) : Int))), eqS (.int .u8 (((b.toNat : Nat) : Int))), eqS (.string ⟨(escR b).toArray⟩), eqS (.string ⟨(34 :: (P ++ escR b)).toArray⟩)] [43, 44, 45, 46, 47, 48] (by kernel_rfl) (by kernel_rfl) ?_ ?_
          · skip
            refine Steps.cons (fun a' w' hG hB dep => gs_move (want_none rfl) _ rfl (id (hG.other 4 rfl))) ?_
            refine Steps.cons (fun a' w' hG hB dep => gs_move (want_none rfl) _ rfl (id (hG.other 0 rfl))) ?_
            refine Steps.cons (fun a' w' hG hB dep => gs_move (want_none rfl) _ rfl (id (hG.other 5 rfl))) ?_
            refine Steps.cons (fun a' w' hG hB dep => gs_istr (want_none rfl) _ _ rfl q i b (dep 1 rfl 44 rfl) (dep 2 rfl 45 rfl) hb rfl) ?_
            refine Steps.cons (fun a' w' hG hB dep => gs_call (want_none rfl) _ _ _ rfl enter_escaped _ (map1 (dep 3 rfl 46 rfl)) ((escaped_any b _).mono fun e w2 ⟨hq9, hb9⟩ => ⟨_, hq9, hb9, rfl⟩)) ?_
            refine Steps.cons (fun a' w' hG hB dep => gs_cat2 (want_none rfl) _ _ _ _ rfl ⟨(34 :: P).toArray⟩ ⟨(escR b).toArray⟩ (dep 0 rfl 43 rfl) (dep 4 rfl 47 rfl) (by have := escR_len b; rw [bytes_size, bytes_size]; simp only [List.length_cons]; omega) ⟨(34 :: (P ++ escR b)).toArray⟩ (by rw [bytes_cat]; simp) rfl) ?_
            exact Steps.nil
          intro u w5 hw5 ans
          have hus48 : u 48 = (.string ⟨(34 :: (P ++ escR b)).toArray⟩) := ans 5 48 (by decide) rfl
          clear ans
          simp only [putAll, List.foldl_cons, List.foldl_nil, Act.put, List.setIfInBounds_toArray, List.set_cons_zero, List.set_cons_succ, hus48]
          clear hus48
          simp only [List.drop]
          clear hb
          go_wp2_with (fail)
          have hel := escR_len b
          exact ⟨⟨i + 1, P ++ escR b, by omega, rfl, rfl, by rw [List.length_append]; omega, hs2, (hB.trans (hB4.mono hB.size)).trans (hw5.mono (hB.trans (hB4.mono hB.size)).size)⟩, by simp only [intOf]; omega⟩
        have f1 : ((n : Int) == 1) = false := beq_eq_false_iff_ne.2 (by omega)
        have hin : i + n ≤ q.size := by omega
        have hn2 : 2 ≤ n := by omega
        have hs2 : Hid (∃ f, q.size - (i + n) ≤ f ∧ qGo (tl q).length (tl q) = (P ++ ((tl q).drop i).take n) ++ qGo f ((tl q).drop (i + n))) := Lib.hid (by
          have h := hstep.out
          rw [if_neg c0, if_neg c1, show max 1 n = n by omega] at h
          exact h)
        clear hstep c0 c1 hW2 hb
        go_upto_region 9 with (go_at_call 39; refine kW.mono ?_; clear kW; rintro e w4 ⟨rfl, hB4⟩)
        refine wp_region_text 8 [eqS (.string ⟨(34 :: P).toArray⟩), eqS (.string q), eqS (.int .i64 (((i : Nat) : Int))), eqS (.int .i64 (((i : Nat) : Int))), eqS (.int .i64 (((n : Nat) : Int))), eqS (.int .i64 ((((i + n) : Nat) : Int))), eqS (.string (q.extract i (i + n))), eqS (.string ⟨(34 :: (P ++ ((tl q).drop i).take n)).toArray⟩)] [19, 20, 21, 22, 23, 24, 25, 26] (by kernel_rfl) (by kernel_rfl) ?_ ?_
        · skip
          refine Steps.cons (fun a' w' hG hB dep => gs_move (want_none rfl) _ rfl (id (hG.other 4 rfl))) ?_
          refine Steps.cons (fun a' w' hG hB dep => gs_move (want_none rfl) _ rfl (id (hG.other 0 rfl))) ?_
          refine Steps.cons (fun a' w' hG hB dep => gs_move (want_none rfl) _ rfl (id (hG.other 5 rfl))) ?_
          refine Steps.cons (fun a' w' hG hB dep => gs_move (want_none rfl) _ rfl (id (hG.other 5 rfl))) ?_
          refine Steps.cons (fun a' w' hG hB dep => gs_move (want_none rfl) _ rfl (id (hG.other 6 rfl))) ?_
          refine Steps.cons (fun a' w' hG hB dep => gs_add_nat (want_none rfl) _ _ _ _ rfl i n (i + n) (dep 3 rfl 22 rfl) (dep 4 rfl 23 rfl) rfl (by omega) rfl) ?_
          refine Steps.cons (fun a' w' hG hB dep => gs_sub (want_none rfl) _ _ _ rfl q i (i + n) (dep 1 rfl 20 rfl) (dep 2 rfl 21 rfl) (dep 5 rfl 24 rfl) (by omega) hin rfl) ?_
          refine Steps.cons (fun a' w' hG hB dep => gs_cat2 (want_none rfl) _ _ _ _ rfl ⟨(34 :: P).toArray⟩ (q.extract i (i + n)) (dep 0 rfl 19 rfl) (dep 6 rfl 25 rfl) (by rw [bytes_size, ByteArray.size_extract]; simp only [List.length_cons]; omega) ⟨(34 :: (P ++ ((tl q).drop i).take n)).toArray⟩ (by rw [bytes_sub q i (i + n) hin, bytes_cat, show i + n - i = n by omega]; rfl) rfl) ?_
          exact Steps.nil
        intro u w5 hw5 ans
        have hus26 : u 26 = (.string ⟨(34 :: (P ++ ((tl q).drop i).take n)).toArray⟩) := ans 7 26 (by decide) rfl
        clear ans
        simp only [putAll, List.foldl_cons, List.foldl_nil, Act.put, List.setIfInBounds_toArray, List.set_cons_zero, List.set_cons_succ, hus26]
        clear hus26
        simp only [List.drop]
        go_wp2_with (fail)
        exact ⟨⟨i + n, P ++ ((tl q).drop i).take n, hin, rfl, rfl, by rw [List.length_append, List.length_take]; omega, hs2, (hB.trans (hB4.mono hB.size)).trans (hw5.mono (hB.trans (hB4.mono hB.size)).size)⟩, by simp only [intOf]; omega⟩
      · have hI : ¬ (i : Int) < q.size := by omega
        have hv2 : Hid (V = .string ⟨(34 :: (P ++ [34])).toArray⟩) := Lib.hid (by
          obtain ⟨f, hf, he⟩ := hg.out
          rw [hv.out, he, List.drop_of_length_le (by rw [hlen.out]; omega)]
          have h0 : qGo f [] = [] := by cases f <;> simp [qGo]
          rw [h0, List.append_nil])
        clear hg hv
        go_upto_region 17 with (fail)
        refine wp_region_text 3 [eqS (.string ⟨(34 :: P).toArray⟩), eqS (.string ⟨(34 :: (P ++ [34])).toArray⟩), eqS (.string ⟨(34 :: (P ++ [34])).toArray⟩)] [51, 52, 2] (by kernel_rfl) (by kernel_rfl) ?_ ?_
        · skip
          refine Steps.cons (fun a' w' hG hB dep => gs_move (want_none rfl) _ rfl (id (hG.other 4 rfl))) ?_
          refine Steps.cons (fun a' w' hG hB dep => gs_cat2 (want_none rfl) _ _ _ _ rfl ⟨(34 :: P).toArray⟩ ⟨#[34]⟩ (dep 0 rfl 51 rfl) rfl (by rw [bytes_size, bytes_size]; simp only [List.length_cons, List.length_nil]; omega) ⟨(34 :: (P ++ [34])).toArray⟩ (by rw [bytes_cat]; simp) rfl) ?_
          refine Steps.cons (fun a' w' hG hB dep => gs_assign (want_none rfl) _ rfl (id (dep 1 rfl 52 rfl))) ?_
          exact Steps.nil
        intro u w5 hw5 ans
        have hus2 : u 2 = (.string ⟨(34 :: (P ++ [34])).toArray⟩) := ans 2 2 (by decide) rfl
        clear ans
        simp only [putAll, List.foldl_cons, List.foldl_nil, Act.put, List.setIfInBounds_toArray, List.set_cons_zero, List.set_cons_succ, hus2]
        clear hus2
        simp only [List.drop]
        refine wpList_nil ?_
        go_wp2_with (fail)
        go_ret
        exact ⟨by rw [hv2.out]; rfl, hB.trans (hw5.mono hB.size)⟩
end Go.Proofs.YtjplgcmfifoefaaGreatDoor
namespace Go.Proofs.YtjplgcmfifoefaaGreatDoor
open Go.RowKit Go.Shelf Go.Maps
set_option linter.unusedVariables false
set_option linter.unusedSimpArgs false
attribute [local go_sem] Oper.semAt_some

section
variable {ops : Array Oper} {S : Nat → GSpec} {Q : Exit → Act → World → Prop} {i : Nat} {o : Oper} {a : Act} {w : World}
theorem gs_conv_b (hw : Region.wanted o (yielded ops a.tmps) = true) (x : Operand) (ho : o.op = .convert 3 5 x) (n : Nat) (b : UInt8) (hb : b.toNat = n) (hx : a.eval x = .int .i64 (n : Nat))
    (hp : (S i).p (.int .u8 ((b.toNat : Nat) : Int)) w) : GStep Tryz.prog ops S Q i o a w :=
  gs_conv_u8 hw x ho n (by rw [← hb]; exact b.toNat_lt) hx (by rw [← hb]; exact hp)
end
end Go.Proofs.YtjplgcmfifoefaaGreatDoor
namespace Go.Proofs.YtjplgcmfifoefaaGreatDoor
open Go.RowKit Go.Shelf Go.Maps
set_option linter.unusedVariables false
set_option linter.unusedSimpArgs false
attribute [local go_sem] Oper.semAt_some

section
variable {ops : Array Oper} {S : Nat → GSpec} {Q : Exit → Act → World → Prop} {i : Nat} {o : Oper} {a : Act} {w : World}
theorem gs_quo_nat (hw : Region.wanted o (yielded ops a.tmps) = true) (t t2 : TypeId) (x y : Operand) (ho : o.op = .binOp .quo t x y t2) (p q r : Nat) (hx : a.eval x = .int .i64 (p : Nat)) (hy : a.eval y = .int .i64 (q : Nat)) (hp8 : p < 9223372036854775808) (hq : 1 ≤ q) (hr : p / q = r)
    (hp : (S i).p (.int .i64 (r : Nat)) w) : GStep Tryz.prog ops S Q i o a w :=
  gs_bin hw _ _ _ x y ho _ _ _ hx hy (by rw [eqGuard_at_int]; rfl) (by
    have e : IntKind.i64.wrap ((p : Int).tdiv (q : Int)) = (p : Int) / q := IntWalk.i64_quo _ _ (by omega)
    have e2 : ((p : Int) / (q : Int)) = (r : Int) := by rw [← hr]; simp
    have e3 : IntKind.i64.wrap ((r : Int)) = r := by
      have : r < 9223372036854775808 := by rw [← hr]; exact Nat.lt_of_le_of_lt (Nat.div_le_self _ _) hp8
      rw [IntKind.wrap_i64]; omega
    have h0 : ¬ ((q : Int) = 0) := by omega
    have h1 : ¬ (q = 0) := by omega
    unfold binOp
    simp [Op.intArith, Op.intDiv, e, e2, e3, h0, h1, Sem.run]) hp
theorem gs_quo_i (hw : Region.wanted o (yielded ops a.tmps) = true) (t t2 : TypeId) (x y : Operand) (ho : o.op = .binOp .quo t x y t2) (p q r : Int) (hx : a.eval x = .int .i64 p) (hy : a.eval y = .int .i64 q) (hp8 : -9223372036854775808 ≤ p ∧ p ≤ 9223372036854775807) (hq : 1 ≤ q) (hr : p.tdiv q = r)
    (hp : (S i).p (.int .i64 r) w) : GStep Tryz.prog ops S Q i o a w :=
  gs_bin hw _ _ _ x y ho _ _ _ hx hy (by rw [eqGuard_at_int]; rfl) (by
    have e : IntKind.i64.wrap (p.tdiv q) = p.tdiv q := IntWalk.i64_quo' _ _ ⟨hp8.1, hp8.2, hq⟩
    have h0 : ¬ (q = 0) := by omega
    rw [hr] at e
    unfold binOp
    simp [Op.intArith, Op.intDiv, e, hr, h0, Sem.run]) hp
theorem gs_rem_nat (hw : Region.wanted o (yielded ops a.tmps) = true) (t t2 : TypeId) (x y : Operand) (ho : o.op = .binOp .rem t x y t2) (p q r : Nat) (hx : a.eval x = .int .i64 (p : Nat)) (hy : a.eval y = .int .i64 (q : Nat)) (hp8 : p < 9223372036854775808) (hq : 1 ≤ q) (hr : p % q = r)
    (hp : (S i).p (.int .i64 (r : Nat)) w) : GStep Tryz.prog ops S Q i o a w :=
  gs_bin hw _ _ _ x y ho _ _ _ hx hy (by rw [eqGuard_at_int]; rfl) (by
    have e : (p : Int).tmod (q : Int) = (p : Int) % q := IntWalk.rem_in _ _ (by omega)
    have e2 : ((p : Int) % (q : Int)) = (r : Int) := by rw [← hr]; simp
    have e3 : IntKind.i64.wrap ((r : Int)) = r := by
      have : r < 9223372036854775808 := by rw [← hr]; exact Nat.lt_of_le_of_lt (Nat.mod_le _ _) hp8
      rw [IntKind.wrap_i64]; omega
    have h0 : ¬ ((q : Int) = 0) := by omega
    have h1 : ¬ (q = 0) := by omega
    unfold binOp
    simp [Op.intArith, Op.intDiv, e, e2, e3, h0, h1, Sem.run]) hp
end
theorem dec_len (u : Nat) : u < 9223372036854775809 → (Lib.decDigits u).length ≤ 20 := by
  intro h
  have h1 := Lib.itoa_length_le (-(u : Int)) (by omega) (by omega)
  unfold Lib.itoa at h1
  split at h1
  · rw [List.length_cons, show (-(u : Int)).natAbs = u by omega] at h1
    omega
  · have : u = 0 := by omega
    rw [this, Lib.decDigits, dif_pos (by decide)]
    decide
/-- one digit -/
def dB (n : Nat) : UInt8 := UInt8.ofNat (48 + n)
set_option maxRecDepth 100000 in
set_option maxHeartbeats 4000000 in
theorem dec_any (N : Nat) (hN : N < 9223372036854775808) (w : World) : Calls Tryz.prog 38 #[.int .i64 (N : Nat)] w fun e w' => e = .returned (strV (Lib.decDigits N)) ∧ Below w.heap.size w w' := by
  obtain ⟨V, hV⟩ : ∃ V, Lib.decDigits N = V := ⟨_, rfl⟩
  have hVl : V.length ≤ 20 := by rw [← hV]; exact dec_len N (by omega)
  rw [hV]
  replace hV := Lib.hid hV
  go_enter Tryz.func38, Tryz.ntmps38
  go_wp2_with (fail)
  go_loopw [0, 3] (fun nv sv wr => ∃ (n : Nat) (T : Bs), n < 9223372036854775808 ∧ nv = .int .i64 n ∧ sv = .string ⟨T.toArray⟩ ∧ T.length ≤ 20 ∧ Hid (V = Lib.decDigits n ++ T) ∧ Below w.heap.size w wr) (fun nv _ _ => (intOf nv).toNat)
  case atStart => exact ⟨N, [], hN, rfl, rfl, by simp, Lib.hid (by rw [← hV.out]; simp), Below.refl _ _⟩
  case round =>
    obtain ⟨n, T, hn, rfl, rfl, hT, hg, hB⟩ := hrel
    by_cases h9 : 9 < n
    · have hI : (9 : Int) < n := by omega
      have hs : Hid (V = Lib.decDigits (n / 10) ++ (dB (n % 10) :: T)) := Lib.hid (by
        rw [hg.out]
        conv => lhs; rw [Lib.decDigits]
        rw [dif_neg (by omega), List.append_assoc]
        rfl)
      have hT2 : T.length + 1 ≤ 20 := by
        have h1 := congrArg List.length hs.out
        rw [List.length_append, List.length_cons] at h1
        omega
      clear hg h9
      go_upto_region 3 with (fail)
      refine wp_region_text 7 [eqS (.int .i64 (((n : Nat) : Int))), eqS (.int .i64 ((((n % 10) : Nat) : Int))), eqS (.int .i64 ((((48 + n % 10) : Nat) : Int))), eqS (.int .u8 ((((dB (n % 10)).toNat : Nat) : Int))), eqS (.string ⟨[dB (n % 10)].toArray⟩), eqS (.string ⟨T.toArray⟩), eqS (.string ⟨(dB (n % 10) :: T).toArray⟩)] [6, 7, 8, 9, 10, 11, 12] (by kernel_rfl) (by kernel_rfl) ?_ ?_
      · skip
        refine Steps.cons (fun a' w' hG hB dep => gs_move (want_none rfl) _ rfl (id (hG.other 0 rfl))) ?_
        refine Steps.cons (fun a' w' hG hB dep => gs_rem_nat (want_none rfl) _ _ _ _ rfl n 10 (n % 10) (dep 0 rfl 6 rfl) rfl (by omega) (by decide) rfl rfl) ?_
        refine Steps.cons (fun a' w' hG hB dep => gs_add_nat (want_none rfl) _ _ _ _ rfl 48 (n % 10) (48 + n % 10) rfl (dep 1 rfl 7 rfl) rfl (by omega) rfl) ?_
        refine Steps.cons (fun a' w' hG hB dep => gs_conv_b (want_none rfl) _ rfl (48 + n % 10) (dB (n % 10)) (byte_dig (Nat.mod_lt _ (by decide))) (dep 2 rfl 8 rfl) rfl) ?_
        refine Steps.cons (fun a' w' hG hB dep => gs_call (want_none rfl) _ _ _ rfl enter_one _ (map1 (dep 3 rfl 9 rfl)) ((one_any (dB (n % 10)) _).mono fun e w2 ⟨hq9, hb9⟩ => ⟨_, hq9, hb9, rfl⟩)) ?_
        refine Steps.cons (fun a' w' hG hB dep => gs_move (want_none rfl) _ rfl (id (hG.other 3 rfl))) ?_
        refine Steps.cons (fun a' w' hG hB dep => gs_cat2 (want_none rfl) _ _ _ _ rfl ⟨[dB (n % 10)].toArray⟩ ⟨T.toArray⟩ (dep 4 rfl 10 rfl) (dep 5 rfl 11 rfl) (by rw [bytes_size, bytes_size]; simp only [List.length_cons, List.length_nil]; omega) ⟨(dB (n % 10) :: T).toArray⟩ (by rw [bytes_cat]; rfl) rfl) ?_
        exact Steps.nil
      intro u w4 hw4 ans
      have hus12 : u 12 = (.string ⟨(dB (n % 10) :: T).toArray⟩) := ans 6 12 (by decide) rfl
      clear ans
      simp only [putAll, List.foldl_cons, List.foldl_nil, Act.put, List.setIfInBounds_toArray, List.set_cons_zero, List.set_cons_succ, hus12]
      clear hus12
      simp only [List.drop]
      go_upto_region 4 with (fail)
      refine wp_region_text 2 [eqS (.int .i64 (((n : Nat) : Int))), eqS (.int .i64 ((((n / 10) : Nat) : Int)))] [13, 14] (by kernel_rfl) (by kernel_rfl) ?_ ?_
      · skip
        refine Steps.cons (fun a' w' hG hB dep => gs_move (want_none rfl) _ rfl (id (hG.other 0 rfl))) ?_
        refine Steps.cons (fun a' w' hG hB dep => gs_quo_nat (want_none rfl) _ _ _ _ rfl n 10 (n / 10) (dep 0 rfl 13 rfl) rfl (by omega) (by decide) rfl rfl) ?_
        exact Steps.nil
      intro u w5 hw5 ans
      have hus14 : u 14 = (.int .i64 ((((n / 10) : Nat) : Int))) := ans 1 14 (by decide) rfl
      clear ans
      simp only [putAll, List.foldl_cons, List.foldl_nil, Act.put, List.setIfInBounds_toArray, List.set_cons_zero, List.set_cons_succ, hus14]
      clear hus14
      simp only [List.drop]
      go_wp2_with (fail)
      exact ⟨⟨n / 10, dB (n % 10) :: T, by omega, rfl, rfl, by simpa using hT2, hs, (hB.trans (hw4.mono hB.size)).trans (hw5.mono (hB.trans (hw4.mono hB.size)).size)⟩, by simp only [intOf]; omega⟩
    · have hI : ¬ (9 : Int) < n := by omega
      have hv : Hid (V = dB n :: T) := Lib.hid (by
        rw [hg.out, Lib.decDigits, dif_pos (by omega)]
        rfl)
      clear hg
      go_upto_region 5 with (fail)
      refine wp_region_text 7 [eqS (.int .i64 (((n : Nat) : Int))), eqS (.int .i64 ((((48 + n) : Nat) : Int))), eqS (.int .u8 ((((dB n).toNat : Nat) : Int))), eqS (.string ⟨[dB n].toArray⟩), eqS (.string ⟨T.toArray⟩), eqS (.string ⟨(dB n :: T).toArray⟩), eqS (.string ⟨(dB n :: T).toArray⟩)] [15, 16, 17, 18, 19, 20, 2] (by kernel_rfl) (by kernel_rfl) ?_ ?_
      · skip
        refine Steps.cons (fun a' w' hG hB dep => gs_move (want_none rfl) _ rfl (id (hG.other 0 rfl))) ?_
        refine Steps.cons (fun a' w' hG hB dep => gs_add_nat (want_none rfl) _ _ _ _ rfl 48 n (48 + n) rfl (dep 0 rfl 15 rfl) rfl (by omega) rfl) ?_
        refine Steps.cons (fun a' w' hG hB dep => gs_conv_b (want_none rfl) _ rfl (48 + n) (dB n) (byte_dig (by omega)) (dep 1 rfl 16 rfl) rfl) ?_
        refine Steps.cons (fun a' w' hG hB dep => gs_call (want_none rfl) _ _ _ rfl enter_one _ (map1 (dep 2 rfl 17 rfl)) ((one_any (dB n) _).mono fun e w2 ⟨hq9, hb9⟩ => ⟨_, hq9, hb9, rfl⟩)) ?_
        refine Steps.cons (fun a' w' hG hB dep => gs_move (want_none rfl) _ rfl (id (hG.other 3 rfl))) ?_
        refine Steps.cons (fun a' w' hG hB dep => gs_cat2 (want_none rfl) _ _ _ _ rfl ⟨[dB n].toArray⟩ ⟨T.toArray⟩ (dep 3 rfl 18 rfl) (dep 4 rfl 19 rfl) (by rw [bytes_size, bytes_size]; simp only [List.length_cons, List.length_nil]; omega) ⟨(dB n :: T).toArray⟩ (by rw [bytes_cat]; rfl) rfl) ?_
        refine Steps.cons (fun a' w' hG hB dep => gs_assign (want_none rfl) _ rfl (id (dep 5 rfl 20 rfl))) ?_
        exact Steps.nil
      intro u w5 hw5 ans
      have hus2 : u 2 = (.string ⟨(dB n :: T).toArray⟩) := ans 6 2 (by decide) rfl
      clear ans
      simp only [putAll, List.foldl_cons, List.foldl_nil, Act.put, List.setIfInBounds_toArray, List.set_cons_zero, List.set_cons_succ, hus2]
      clear hus2
      simp only [List.drop]
      refine wpList_nil ?_
      go_wp2_with (fail)
      go_ret
      exact ⟨by rw [hv.out]; rfl, hB.trans (hw5.mono hB.size)⟩
theorem enter_dec (args : Array Value) (w : World) : (callFunc 38 args).run Tryz.prog w = .ok (.enter 38 args) w := by kernel_rfl
theorem enter_written (args : Array Value) (w : World) : (callFunc 22 args).run Tryz.prog w = .ok (.enter 22 args) w := by kernel_rfl
set_option maxRecDepth 100000 in
set_option maxHeartbeats 4000000 in
theorem written_any : ∀ (m : Nat) (n : Int), n.natAbs = m → i64z n → ∀ w : World, Calls Tryz.prog 22 #[.int .i64 n] w fun e w' => e = .returned (strV (Lib.itoa n)) ∧ Below w.heap.size w w' := by
  intro m
  induction m using Nat.strongRecOn with
  | _ m ih =>
    intro n hm hn w
    obtain ⟨hn1, hn2⟩ := hn
    by_cases h0 : 0 ≤ n
    · obtain ⟨N, rfl⟩ : ∃ N : Nat, n = N := ⟨n.toNat, by omega⟩
      have kD := dec_any N (by omega) w
      have hv : Lib.itoa (N : Int) = Lib.decDigits N := by unfold Lib.itoa; rw [if_neg (by omega)]; rfl
      rw [hv]
      clear ih hm hv
      go_enter Tryz.func22, Tryz.ntmps22
      go_wp2_with (go_at_call 38; refine kD.mono ?_; clear kD; rintro e w4 ⟨rfl, hB4⟩)
      go_ret
      exact ⟨rfl, hB4⟩
    · obtain ⟨r, hr⟩ : ∃ r, n.natAbs % 10 = r := ⟨_, rfl⟩
      have hr9 : r < 10 := by omega
      have hmod : n.tmod 10 = -(r : Int) := by
        obtain ⟨k, rfl⟩ : ∃ k : Nat, n = -(k : Int) := ⟨n.natAbs, by omega⟩
        rw [Int.neg_tmod, Int.tmod_eq_emod_of_nonneg (by omega)]
        omega
      have hit : Lib.itoa n = 45 :: Lib.decDigits n.natAbs := by unfold Lib.itoa; rw [if_pos (by omega)]
      obtain ⟨U, hU⟩ : ∃ U, Lib.itoa n = U := ⟨_, rfl⟩
      rw [hU]
      rw [hU] at hit
      clear hU
      by_cases h10 : -10 < n
      · have hrm : n.natAbs = r := by omega
        rw [hrm] at hit
        replace hit := Lib.hid hit
        clear ih hm hr hrm
        go_enter Tryz.func22, Tryz.ntmps22
        go_upto_region 5 with (fail)
        clear hmod
        refine wp_region_text 4 [eqS (.int .i64 (((r : Nat) : Int))), eqS (.string ⟨(Lib.decDigits r).toArray⟩), eqS (.string ⟨(45 :: Lib.decDigits r).toArray⟩), eqS (.string ⟨(45 :: Lib.decDigits r).toArray⟩)] [13, 14, 15, 2] (by kernel_rfl) (by kernel_rfl) ?_ ?_
        · skip
          refine Steps.cons (fun a' w' hG hB dep => gs_move (want_none rfl) _ rfl (id (hG.other 3 rfl))) ?_
          refine Steps.cons (fun a' w' hG hB dep => gs_call (want_none rfl) _ _ _ rfl enter_dec _ (map1 (dep 0 rfl 13 rfl)) ((dec_any r (by omega) _).mono fun e w2 ⟨hq9, hb9⟩ => ⟨_, hq9, hb9, rfl⟩)) ?_
          refine Steps.cons (fun a' w' hG hB dep => gs_cat2 (want_none rfl) _ _ _ _ rfl ⟨#[45]⟩ ⟨(Lib.decDigits r).toArray⟩ rfl (dep 1 rfl 14 rfl) (by have := dec_len r (by omega); rw [bytes_size, bytes_size]; simp only [List.length_cons, List.length_nil]; omega) ⟨(45 :: Lib.decDigits r).toArray⟩ (by rw [bytes_cat]; rfl) rfl) ?_
          refine Steps.cons (fun a' w' hG hB dep => gs_assign (want_none rfl) _ rfl (id (dep 2 rfl 15 rfl))) ?_
          exact Steps.nil
        intro u w5 hw5 ans
        have hus2 : u 2 = (.string ⟨(45 :: Lib.decDigits r).toArray⟩) := ans 3 2 (by decide) rfl
        clear ans
        simp only [putAll, List.foldl_cons, List.foldl_nil, Act.put, List.setIfInBounds_toArray, List.set_cons_zero, List.set_cons_succ, hus2]
        clear hus2
        simp only [List.drop]
        refine wpList_nil ?_
        go_wp2_with (fail)
        go_ret
        exact ⟨by rw [hit.out]; rfl, hw5⟩
      · obtain ⟨z, hz⟩ : ∃ z, n.tdiv 10 = z := ⟨_, rfl⟩
        have hzk : z = -((n.natAbs / 10 : Nat) : Int) := by
          rw [← hz]
          obtain ⟨k, rfl⟩ : ∃ k : Nat, n = -(k : Int) := ⟨n.natAbs, by omega⟩
          rw [Int.neg_tdiv, Int.tdiv_eq_ediv_of_nonneg (by omega)]
          omega
        have kW := fun W => ih z.natAbs (by omega) z rfl ⟨by omega, by omega⟩ W
        have kD := fun W => dec_any r (by omega) W
        have hz0 : z < 0 := by omega
        have hU2 : U = Lib.itoa z ++ Lib.decDigits r := by
          have e1 : Lib.itoa z = 45 :: Lib.decDigits (n.natAbs / 10) := by unfold Lib.itoa; rw [if_pos hz0, show z.natAbs = n.natAbs / 10 by omega]
          have e2 : Lib.decDigits r = [UInt8.ofNat (48 + r)] := by rw [Lib.decDigits, dif_pos hr9]
          rw [e1, e2, hit]
          conv => lhs; rw [Lib.decDigits]
          rw [dif_neg (by omega), hr]
          rfl
        have hl1 : (Lib.itoa z).length ≤ 21 := Lib.itoa_length_le z (by omega) (by omega)
        have hl2 := dec_len r (by omega)
        obtain ⟨A, hA⟩ : ∃ A : ByteArray, ⟨(Lib.itoa z).toArray⟩ = A := ⟨_, rfl⟩
        obtain ⟨D, hD⟩ : ∃ D : ByteArray, ⟨(Lib.decDigits r).toArray⟩ = D := ⟨_, rfl⟩
        unfold strV at kW kD
        rw [hA] at kW
        rw [hD] at kD
        have hAs : A.size ≤ 21 := by rw [← hA]; exact hl1
        have hDs : D.size ≤ 20 := by rw [← hD]; exact hl2
        have hcat : ¬ 9223372036854775807 < A.size + D.size := by omega
        have hv : Hid (strV U = .string (A ++ D)) := Lib.hid (by rw [hU2, ← hA, ← hD, bytes_cat]; rfl)
        replace hmod := Lib.hid hmod
        replace hz := Lib.hid hz
        clear ih hm hr hit hzk hz0 hU2 hl1 hl2 hA hD
        have hmod := hmod.out
        go_enter Tryz.func22, Tryz.ntmps22
        go_upto_region 6 with (fail)
        clear hmod
        have hz := hz.out
        refine wp_region_text 7 [eqS (.int .i64 (n)), eqS (.int .i64 (z)), eqS (.string A), eqS (.int .i64 (((r : Nat) : Int))), eqS (.string D), eqS (.string (A ++ D)), eqS (.string (A ++ D))] [16, 17, 18, 19, 20, 21, 2] (by kernel_rfl) (by kernel_rfl) ?_ ?_
        · skip
          refine Steps.cons (fun a' w' hG hB dep => gs_move (want_none rfl) _ rfl (id (hG.other 0 rfl))) ?_
          refine Steps.cons (fun a' w' hG hB dep => gs_quo_i (want_none rfl) _ _ _ _ rfl n 10 z (dep 0 rfl 16 rfl) rfl ⟨hn1, hn2⟩ (by decide) hz rfl) ?_
          refine Steps.cons (fun a' w' hG hB dep => gs_call (want_none rfl) _ _ _ rfl enter_written _ (map1 (dep 1 rfl 17 rfl)) ((kW _).mono fun e w2 ⟨hq9, hb9⟩ => ⟨_, hq9, hb9, rfl⟩)) ?_
          refine Steps.cons (fun a' w' hG hB dep => gs_move (want_none rfl) _ rfl (id (hG.other 3 rfl))) ?_
          refine Steps.cons (fun a' w' hG hB dep => gs_call (want_none rfl) _ _ _ rfl enter_dec _ (map1 (dep 3 rfl 19 rfl)) ((kD _).mono fun e w2 ⟨hq9, hb9⟩ => ⟨_, hq9, hb9, rfl⟩)) ?_
          refine Steps.cons (fun a' w' hG hB dep => gs_cat (want_none rfl) _ _ _ _ rfl A D (dep 2 rfl 18 rfl) (dep 4 rfl 20 rfl) (by omega) rfl) ?_
          refine Steps.cons (fun a' w' hG hB dep => gs_assign (want_none rfl) _ rfl (id (dep 5 rfl 21 rfl))) ?_
          exact Steps.nil
        intro u w5 hw5 ans
        have hus2 : u 2 = (.string (A ++ D)) := ans 6 2 (by decide) rfl
        clear ans
        simp only [putAll, List.foldl_cons, List.foldl_nil, Act.put, List.setIfInBounds_toArray, List.set_cons_zero, List.set_cons_succ, hus2]
        clear hus2
        simp only [List.drop]
        refine wpList_nil ?_
        go_wp2_with (fail)
        go_ret
        exact ⟨by rw [hv.out]; rfl, hw5⟩
end Go.Proofs.YtjplgcmfifoefaaGreatDoor
namespace Go.Proofs.YtjplgcmfifoefaaGreatDoor
open Go.RowKit Go.Shelf Go.Maps
set_option linter.unusedVariables false
set_option linter.unusedSimpArgs false
attribute [local go_sem] Oper.semAt_some

section
variable {ops : Array Oper} {rest : List Oper} {o : Oper} {a : Act} {w : World} {Q : Exit → Act → World → Prop}
theorem wl_pushZ (hgd : o.guard = none) (s x : Operand) (ho : o.op = .call { callee := .builtin .append, args := #[s, x], argTypes := #[23, 23] })
    (base : Nat) (l : List Int) (z : Int) {A : Option Addr} {n c g : Nat} (hs : a.eval s = .slice A n c) (hx : a.eval x = .slice (some ⟨g, 0, none⟩) 1 1) (hb1 : Blk w g 3 (encZ z)) (hown : Own w base 3 1 encZ (.slice A n c) l) (hn : n = l.length) (hl : l.length + 1 ≤ 1099511627776) (hbase : base ≤ w.heap.size)
    (h : ∀ A' c' w', Own w' base 3 1 encZ (.slice A' (n + 1) c') (l ++ [z]) → w.grownBy w' (Value.slice A n c).ownBlock → wpList Tryz.prog ops Q rest (a.put o.dst (.slice A' (n + 1) c')) w') : wpList Tryz.prog ops Q (o :: rest) a w := by
  obtain ⟨ii, hii, hz0, hz1, hz2⟩ := info_parts info_int3
  subst hn
  refine wl_append _ hgd _ _ 23 ho base 3 ii _ 1 8 Tryz.underlying23 hii hz0 hz1 hz2 rfl (by decide) encZ_size encZ_one (.slice A l.length c) l hs hown w.heap.size _ 1 1 [z] hx rfl (slice_one (enc := encZ) hb1) (by unfold maxLen; omega) (by omega) hbase ?_
  intro v' w' ho' hg hv
  obtain ⟨A', c', rfl, _, _⟩ := ho'.shape
  have hl8 : (l ++ [z]).length = l.length + 1 := by simp
  rw [hl8] at ho' hv ⊢
  exact h _ _ _ ho' hg
end
def letR (k wd : Nat) (many : Bool) (i : Nat) : UInt8 := if wd ≤ i then (if many then 107 else 105) else if i = 0 then 110 else if k = 2 then 100 else 111
/-- a row of the document's kinds -/
structure KdOk (k wd : Nat) (wh : Int) (many : Bool) : Prop where
  k1 : 1 ≤ k
  k2 : k ≤ 12
  wd2 : wd ≤ 2
  wh1 : -1 ≤ wh
  wh2 : wh ≤ 1
  mny : many = decide (wh < 0)
  letters : ∀ m : Nat, (wh < 0 ∨ (m : Int) = wd + wh) → letsOf k m = (List.range m).map (letR k wd many)
  other : ∀ m : Nat, 0 ≤ wh → (m : Int) ≠ wd + wh → (letsOf k m).length ≠ m
def kdC (s : ByteArray) (k wd : Nat) (wh : Int) : Array Value := #[.string s, .int .i64 (k : Nat), .int .i64 (wd : Nat), .int .i64 wh]
/-- what event answers -/
structure EtR (k : Nat) (ps : List ByteArray) (lim : Nat) (base : Nat) (er : Int) (x : EvV) (ks : List Int) (w : World) : Prop where
  yes : ∀ e', readE k (ps.map tl) = some e' → er = 0 ∧ x.ev ks = e'
  no : readE k (ps.map tl) = none → er = 260 ∧ x = evK 0 ∧ ks = []
  own : Own w base 3 1 encZ (.slice x.A x.m x.c) ks
  len : x.m = ks.length
  n1 : x.name.size ≤ lim
  n2 : x.other.size ≤ lim
  n3 : x.data.size ≤ lim
  few : ks.length ≤ ps.length
  ints : intsOk (x.ev ks)
def EtE (k : Nat) (ps : List ByteArray) (lim : Nat) (base : Nat) (e : Ending) (w : World) : Prop := ∃ er x ks, e = .returned (.tuple #[.agg x.C, .int .i64 er]) ∧ EtR k ps lim base er x ks w
theorem EtE.of {k : Nat} {ps : List ByteArray} {lim base : Nat} {e : Ending} {w : World} (er : Int) (x : EvV) (ks : List Int) (h : e = .returned (.tuple #[.agg x.C, .int .i64 er])) (h2 : EtR k ps lim base er x ks w) : EtE k ps lim base e w := ⟨er, x, ks, h, h2⟩
theorem isz_int : (Tryz.prog.info? 3).map (·.size) = some 1 := by kernel_rfl
theorem isz_ints : (Tryz.prog.info? 23).map (·.size) = some 1 := by kernel_rfl
end Go.Proofs.YtjplgcmfifoefaaGreatDoor
namespace Go.Proofs.YtjplgcmfifoefaaGreatDoor
open Go.RowKit Go.Shelf Go.Maps
set_option linter.unusedVariables false
set_option linter.unusedSimpArgs false
attribute [local go_sem] Oper.semAt_some

structure KdV where
  word : Bs
  k : Nat
  wd : Nat
  wh : Int
def KdV.C (x : KdV) : Array Value := kdC ⟨x.word.toArray⟩ x.k x.wd x.wh
theorem KdV.C_size (x : KdV) : x.C.size = 4 := rfl
/-- the document's kinds, all but answer -/
def kindsL : List KdV := [⟨[99, 114, 101, 97, 116, 101], 1, 1, 0⟩, ⟨[97, 112, 112, 101, 110, 100], 2, 2, 0⟩, ⟨[99, 117, 116], 3, 1, 0⟩, ⟨[114, 101, 110, 97, 109, 101], 4, 2, 0⟩, ⟨[114, 101, 109, 111, 118, 101], 5, 1, 0⟩, ⟨[115, 121, 110, 99], 6, 1, 0⟩, ⟨[112, 111, 108, 108], 7, 0, 1⟩, ⟨[115, 101, 110, 100], 8, 0, 0⟩, ⟨[116, 105, 99, 107], 10, 0, 1⟩, ⟨[99, 104, 101, 99, 107], 11, 0, 0⟩, ⟨[99, 114, 97, 115, 104], 12, 0, -1⟩]
def kindsC : Array Value := #[.string ⟨#[99, 114, 101, 97, 116, 101]⟩, .int .i64 1, .int .i64 1, .int .i64 (0), .string ⟨#[97, 112, 112, 101, 110, 100]⟩, .int .i64 2, .int .i64 2, .int .i64 (0), .string ⟨#[99, 117, 116]⟩, .int .i64 3, .int .i64 1, .int .i64 (0), .string ⟨#[114, 101, 110, 97, 109, 101]⟩, .int .i64 4, .int .i64 2, .int .i64 (0), .string ⟨#[114, 101, 109, 111, 118, 101]⟩, .int .i64 5, .int .i64 1, .int .i64 (0), .string ⟨#[115, 121, 110, 99]⟩, .int .i64 6, .int .i64 1, .int .i64 (0), .string ⟨#[112, 111, 108, 108]⟩, .int .i64 7, .int .i64 0, .int .i64 (1), .string ⟨#[115, 101, 110, 100]⟩, .int .i64 8, .int .i64 0, .int .i64 (0), .string ⟨#[116, 105, 99, 107]⟩, .int .i64 10, .int .i64 0, .int .i64 (1), .string ⟨#[99, 104, 101, 99, 107]⟩, .int .i64 11, .int .i64 0, .int .i64 (0), .string ⟨#[99, 114, 97, 115, 104]⟩, .int .i64 12, .int .i64 0, .int .i64 (-1)]
theorem kd_lets (k wd : Nat) (many : Bool) (L : Bs) (hL : letters.getD k [] = L) (h1 : many = true → L = [107] ∧ wd = 0) (h2 : many = false → L ≠ [107] ∧ L = (List.range L.length).map (letR k wd many)) (m : Nat) (h : many = true ∨ m = L.length) : letsOf k m = (List.range m).map (letR k wd many) := by
  unfold letsOf
  rw [hL]
  cases many with
  | true =>
    obtain ⟨e1, e2⟩ := h1 rfl
    rw [if_pos e1, e2]
    apply List.ext_getElem
    · simp
    · intro i h3 h4
      simp only [List.getElem_replicate, List.getElem_map, List.getElem_range]
      unfold letR
      rw [if_pos (Nat.zero_le _), if_pos rfl]
  | false =>
    obtain ⟨e1, e2⟩ := h2 rfl
    rw [if_neg e1]
    rcases h with h | h
    · cases h
    · rw [h]
      exact e2
theorem kd_ok : ∀ x ∈ kindsL, KdOk x.k x.wd x.wh (decide (x.wh < 0)) := by
  intro x hx
  have key : ∀ (k wd : Nat) (wh : Int) (L : Bs), letters.getD k [] = L → 1 ≤ k → k ≤ 12 → wd ≤ 2 → -1 ≤ wh → wh ≤ 1 → (wh < 0 → L = [107] ∧ wd = 0) → (0 ≤ wh → L ≠ [107] ∧ (L.length : Int) = wd + wh ∧ L = (List.range L.length).map (letR k wd false)) → KdOk k wd wh (decide (wh < 0)) := by
    intro k wd wh L hL a1 a2 a3 a4 a5 a6 a7
    refine ⟨a1, a2, a3, a4, a5, rfl, fun m hm => ?_, fun m h0 hm => ?_⟩
    · refine kd_lets k wd _ L hL (fun h => a6 (of_decide_eq_true h)) (fun h => ?_) m ?_
      · obtain ⟨b1, b2, b3⟩ := a7 (by have := of_decide_eq_false h; omega)
        exact ⟨b1, by rw [h]; exact b3⟩
      · by_cases h : wh < 0
        · exact .inl (decide_eq_true h)
        · obtain ⟨b1, b2, b3⟩ := a7 (by omega)
          exact .inr (by omega)
    · obtain ⟨b1, b2, b3⟩ := a7 h0
      unfold letsOf
      rw [hL, if_neg b1]
      omega
  simp only [kindsL, List.mem_cons, List.not_mem_nil, or_false] at hx
  rcases hx with rfl | rfl | rfl | rfl | rfl | rfl | rfl | rfl | rfl | rfl | rfl
  all_goals exact key _ _ _ _ rfl (by decide) (by decide) (by decide) (by decide) (by decide) (by decide) (by decide)
theorem kd_first : ∀ x ∈ kindsL, x.word = firsts.getD x.k [] ∧ x.k ≠ 9 := by decide
theorem wl_run_bs {P : Program} {ops : Array Oper} {rest : List Oper} {o : Oper} {a : Act} {w : World} {Q : Exit → Act → World → Prop} {v : Value} {w' : World} (hgd : o.guard = none) (t : TypeId) (n : Nat) (xs : Array (Nat × Operand)) (ho : o.op = .buildSlice t n xs) (hr : (execOp a.eval o).run P w = .ok (.value v) w') (h : wpList P ops Q rest (a.put o.dst v) w') : wpList P ops Q (o :: rest) a w := wl_run hgd hr h
set_option maxRecDepth 100000 in
set_option maxHeartbeats 16000000 in
theorem kinds_any (w : World) : Calls Tryz.prog 17 #[] w fun e w' => (e = .returned (.slice (some ⟨w.heap.size, 0, none⟩) 11 11) ∧ Blk w' w.heap.size 53 kindsC) ∧ Below w.heap.size w w' := by
  go_enter Tryz.func17, Tryz.ntmps17
  go_wp2_with (refine wl_run_bs rfl (v := .slice (some ⟨w.heap.size, 0, none⟩) 11 11) (w' := w.alloc (.cells kindsC 53)) _ _ _ rfl (by kernel_rfl) ?_)
  go_ret
  exact ⟨⟨rfl, Blk.new _ _ _⟩, below_alloc (Below.refl _ _) _⟩
/-- a row of the kinds -/
theorem kinds_row {w : World} {g : Nat} (h : Blk w g 53 kindsC) (i : Nat) (hi : i < kindsL.length) : RowAt w g (i * 4) (kindsL[i]).C := fun j v hj => by
  have hj4 : j < 4 := by
    have := (Array.getElem?_eq_some_iff.1 hj).1
    simpa [KdV.C_size] using this
  have e : kindsC[i * 4 + j]? = some v := by
    rw [← hj]
    have hi11 : i < 11 := hi
    rcases (by omega : i = 0 ∨ i = 1 ∨ i = 2 ∨ i = 3 ∨ i = 4 ∨ i = 5 ∨ i = 6 ∨ i = 7 ∨ i = 8 ∨ i = 9 ∨ i = 10) with rfl | rfl | rfl | rfl | rfl | rfl | rfl | rfl | rfl | rfl | rfl <;> rcases (by omega : j = 0 ∨ j = 1 ∨ j = 2 ∨ j = 3) with rfl | rfl | rfl | rfl <;> rfl
  exact h.cellv e
end Go.Proofs.YtjplgcmfifoefaaGreatDoor
namespace Go.Proofs.YtjplgcmfifoefaaGreatDoor
open Go.RowKit Go.Shelf Go.Maps
set_option linter.unusedVariables false
set_option linter.unusedSimpArgs false
attribute [local go_sem] Oper.semAt_some

/-- words with blanks between, as a text -/
def JB (ws : List Bs) : ByteArray := ⟨(joinW (ws.map quo)).toArray⟩
theorem JB_snoc {ws : List Bs} (h : ws ≠ []) (t : Bs) : JB ws ++ ⟨#[32]⟩ ++ ⟨(quo t).toArray⟩ = JB (ws ++ [t]) := by
  cases ws with
  | nil => exact absurd rfl h
  | cons a l =>
    unfold JB
    rw [bytes_cat, bytes_cat]
    congr 1
    congr 1
    show (joinW (quo a :: l.map quo) ++ [32]) ++ quo t = joinW (quo a :: (l ++ [t]).map quo)
    rw [joinW_cons, joinW_cons, List.map_append, lineW_app]
    show quo a ++ lineW (l.map quo) ++ [32] ++ quo t = quo a ++ (lineW (l.map quo) ++ (32 :: (quo t ++ [])))
    simp
theorem JB_snoc_size {ws : List Bs} (h : ws ≠ []) (t : Bs) : (JB (ws ++ [t])).size = (JB ws).size + 1 + (quo t).length := by
  rw [← JB_snoc h t, ByteArray.size_append, ByteArray.size_append]
  rfl
theorem enter_rquote (args : Array Value) (w : World) : (callFunc 23 args).run Tryz.prog w = .ok (.enter 23 args) w := by kernel_rfl
theorem info_kd : (Tryz.prog.info? 53).map (·.size) = some 4 := by kernel_rfl
theorem wl_store_kd {ops : Array Oper} {rest : List Oper} {o : Oper} {a : Act} {w : World} {Q : Exit → Act → World → Prop} (hgd : o.guard = none) (x y : Operand) (ho : o.op = .store 53 x y)
    (g : Nat) (u v : KdV) (hx : a.eval x = .pointer (some ⟨g, 0, none⟩)) (hy : a.eval y = .agg u.C) (hb : Blk w g 53 v.C)
    (h : ∀ w', Blk w' g 53 u.C → w.grownBy w' (some g) → wpList Tryz.prog ops Q rest (a.put o.dst undef) w') : wpList Tryz.prog ops Q (o :: rest) a w :=
  wpList_store_row hgd _ x y ho g _ hx hy _ _ hb (info_kd.trans rfl) rfl (by simp [KdV.C, kdC, Value.oneCell']) (h _ (hb.setRow_same _) (only_setRow (only_refl _ _) _))
theorem field_evx_1 (b : Nat) (w : World) : (Instr.fieldAt 25 (.pointer (some ⟨b, 0, none⟩)) 1).run Tryz.prog w = .ok (.pointer (some ⟨b, 1, none⟩)) w := by kernel_rfl
theorem field_evx_2 (b : Nat) (w : World) : (Instr.fieldAt 25 (.pointer (some ⟨b, 0, none⟩)) 2).run Tryz.prog w = .ok (.pointer (some ⟨b, 2, none⟩)) w := by kernel_rfl
theorem field_evx_3 (b : Nat) (w : World) : (Instr.fieldAt 25 (.pointer (some ⟨b, 0, none⟩)) 3).run Tryz.prog w = .ok (.pointer (some ⟨b, 3, none⟩)) w := by kernel_rfl
theorem field_evx_4 (b : Nat) (w : World) : (Instr.fieldAt 25 (.pointer (some ⟨b, 0, none⟩)) 4).run Tryz.prog w = .ok (.pointer (some ⟨b, 4, none⟩)) w := by kernel_rfl
theorem field_evx_6 (b : Nat) (w : World) : (Instr.fieldAt 25 (.pointer (some ⟨b, 0, none⟩)) 6).run Tryz.prog w = .ok (.pointer (some ⟨b, 6, none⟩)) w := by kernel_rfl
/-- what a row tells of an event -/
def rowT (r : KdV) (e : Ev) : List Bs := ((((r.word :: (if 0 < r.wd then [e.name] else [])) ++ (if r.k = 2 then [e.data] else [])) ++ (if r.k = 4 then [e.other] else [])) ++ (if 0 < r.wh then [Lib.itoa e.n] else [])) ++ (if r.wh < 0 then e.keep.map Lib.itoa else [])
theorem rowT_eq (e : Ev) : ∀ r ∈ kindsL, e.kind = (r.k : Int) → rowT r e = textsE e := by
  intro r hr
  obtain ⟨kind, name, other, data, n, yes, keep⟩ := e
  intro hk
  simp only at hk
  subst hk
  simp only [kindsL, List.mem_cons, List.not_mem_nil, or_false] at hr
  rcases hr with rfl | rfl | rfl | rfl | rfl | rfl | rfl | rfl | rfl | rfl | rfl <;> simp [rowT, textsE, firsts, letters, tellC]
theorem kd_none (k : Int) (h9 : k ≠ 9) (h : ∀ r ∈ kindsL, k ≠ (r.k : Int)) : ¬ kindOk k := by
  intro hk
  unfold kindOk at hk
  simp only [kindsL, List.forall_mem_cons] at h
  obtain ⟨h1, h2, h3, h4, h5, h6, h7, h8, h10, h11, h12, -⟩ := h
  omega
theorem kd_kind : ∀ r ∈ kindsL, kindOk (r.k : Int) := by
  intro r hr
  have h := kd_ok r hr
  have h1 := h.k1
  have h2 := h.k2
  unfold kindOk
  omega
set_option maxRecDepth 100000 in
set_option maxHeartbeats 16000000 in
theorem rprint_any (x : EvV) (ks : List Int) (w : World) (hx : EvOk w x ks) :
    Calls Tryz.prog 10 #[.agg x.C] w fun e w' => e = .returned (.tuple #[strV (printL (x.ev ks)), .int .i64 (printE (x.ev ks))]) ∧ Below w.heap.size w w' := by
  obtain ⟨V, hV⟩ : ∃ V, strV (printL (x.ev ks)) = V := ⟨_, rfl⟩
  obtain ⟨E, hE0⟩ : ∃ E, printE (x.ev ks) = E := ⟨_, rfl⟩
  rw [hV, hE0]
  replace hV := Lib.hid hV
  replace hE0 := Lib.hid hE0
  have n1 := hx.n1
  have n2 := hx.n2
  have n3 := hx.n3
  have hfew := hx.few
  have hmk := Lib.hid hx.len
  have hin := hx.ints
  have hiH := Lib.hid hx.ints
  have hsl := hx.sl
  clear hx
  go_enter Tryz.func10, Tryz.ntmps10
  go_upto_region 1 with (fail)
  have hE : Blk (w.alloc (.cells x.C 25)) w.heap.size 25 x.C := Blk.new w _ _
  have hBw := below_alloc (Below.refl w.heap.size w) (.cells x.C 25)
  obtain ⟨w1, hw1⟩ : ∃ y, y = w.alloc (.cells x.C 25) := ⟨_, rfl⟩
  rw [← hw1] at hE hBw ⊢
  clear hw1
  obtain ⟨gE, hgE⟩ : ∃ y, y = w.heap.size := ⟨_, rfl⟩
  have hslg : SliceOf w gE 1 encZ x.A ks := by rw [hgE]; exact hsl
  rw [← hgE] at hE hBw ⊢
  replace hgE := Lib.hid hgE
  clear hsl
  have hgl := hE.lt
  have cK : w1.cell? ⟨gE, 0, none⟩ = some (.int .i64 x.kind) := hE.cellv rfl
  have cY : w1.cell? ⟨gE, 5, none⟩ = some (.bool x.yes) := hE.cellv rfl
  have cN : w1.cell? ⟨gE, 4, none⟩ = some (.int .i64 x.n) := hE.cellv rfl
  have kWn := fun W => written_any x.n.natAbs x.n rfl hin.1 W
  have hnl := Lib.itoa_length_le x.n hin.1.1 hin.1.2
  by_cases h9 : x.kind = 9
  · have hT : textsE (x.ev ks) = firsts.getD 9 [] :: [if x.yes then yesW else noW, Lib.itoa x.n] := by
      unfold textsE
      rw [show (x.ev ks).kind = 9 from h9]
      rfl
    have hk9 : kindOk (x.ev ks).kind := by show kindOk x.kind; rw [h9]; unfold kindOk; omega
    have hE9 : Hid (E = 0) := Lib.hid (by rw [← hE0.out]; unfold printE; exact if_pos hk9)
    have hV9 : V = strV (joinW ((textsE (x.ev ks)).map quo)) := by rw [← hV.out]; unfold printL; rw [if_pos hk9]
    rw [hT] at hV9
    rw [h9] at cK
    obtain ⟨I, hI⟩ : ∃ I : ByteArray, ⟨(Lib.itoa x.n).toArray⟩ = I := ⟨_, rfl⟩
    have hIs : I.size ≤ 21 := by rw [← hI]; exact hnl
    unfold strV at kWn
    rw [hI] at kWn
    cases hy : x.yes with
    | true =>
      rw [hy] at cY hV9
      have hv : Hid (V = .string (⟨#[97, 110, 115, 119, 101, 114, 32, 121, 101, 115, 32]⟩ ++ I)) := Lib.hid (by
        rw [hV9, ← hI]
        show strV (quo _ ++ (32 :: (quo yesW ++ (32 :: (quo (Lib.itoa x.n) ++ []))))) = _
        rw [quo_itoa]
        unfold strV
        rw [show (⟨#[97, 110, 115, 119, 101, 114, 32, 121, 101, 115, 32]⟩ : ByteArray) = ⟨([97, 110, 115, 119, 101, 114, 32, 121, 101, 115, 32] : Bs).toArray⟩ from rfl, bytes_cat]
        rw [show quo (firsts.getD 9 []) = [97, 110, 115, 119, 101, 114] by decide, show quo yesW = [121, 101, 115] by decide]
        simp)
      have fl : ¬ 9223372036854775807 < 11 + I.size := by omega
      clear h9 hT hk9 hV9 hI hnl hy
      go_wp2_with (go_at_call 22; refine (kWn _).mono ?_; clear kWn; rintro e w3 ⟨rfl, hB3⟩)
      go_ret2
      exact ⟨by rw [hv.out, hE9.out]; rfl, by rw [← hgE.out]; exact hBw.trans (hB3.mono (by omega))⟩
    | false =>
      rw [hy] at cY hV9
      have hv : Hid (V = .string (⟨#[97, 110, 115, 119, 101, 114, 32, 110, 111, 32]⟩ ++ I)) := Lib.hid (by
        rw [hV9, ← hI]
        show strV (quo _ ++ (32 :: (quo noW ++ (32 :: (quo (Lib.itoa x.n) ++ []))))) = _
        rw [quo_itoa]
        unfold strV
        rw [show (⟨#[97, 110, 115, 119, 101, 114, 32, 110, 111, 32]⟩ : ByteArray) = ⟨([97, 110, 115, 119, 101, 114, 32, 110, 111, 32] : Bs).toArray⟩ from rfl, bytes_cat]
        rw [show quo (firsts.getD 9 []) = [97, 110, 115, 119, 101, 114] by decide, show quo noW = [110, 111] by decide]
        simp)
      have fl : ¬ 9223372036854775807 < 10 + I.size := by omega
      clear h9 hT hk9 hV9 hI hnl hy
      go_wp2_with (go_at_call 22; refine (kWn _).mono ?_; clear kWn; rintro e w3 ⟨rfl, hB3⟩)
      go_ret2
      exact ⟨by rw [hv.out, hE9.out]; rfl, by rw [← hgE.out]; exact hBw.trans (hB3.mono (by omega))⟩
  have f9 : (x.kind == 9) = false := beq_eq_false_iff_ne.2 h9
  have h9H := Lib.hid h9
  rw [← quo_itoa] at kWn
  have kKd := kinds_any w1
  clear h9 cY cN
  go_upto_region 6 with (go_at_call 17; refine kKd.mono ?_; clear kKd; rintro e w2 ⟨⟨rfl, hKb⟩, hB2⟩)
  obtain ⟨gK, hgK⟩ : ∃ y, y = w1.heap.size := ⟨_, rfl⟩
  rw [← hgK] at hKb ⊢
  have hgEK : gE < gK := by omega
  replace hgK := Lib.hid hgK
  have hE2 := blk_then hE hB2
  have hBw2 := hBw.trans (hB2.mono (Nat.le_of_lt hgl))
  clear hE hBw hB2 cK f9 hgl
  go_wp2_with (fail)
  go_loopw [5] (fun iv wr => ∃ i : Nat, i ≤ 11 ∧ iv = .int .i64 i ∧ Blk wr gE 25 x.C ∧ Blk wr gK 53 kindsC ∧ Below gE w wr ∧ Hid (∀ r ∈ kindsL.take i, x.kind ≠ (r.k : Int))) (fun iv _ => 11 - (intOf iv).toNat)
  case atStart => exact ⟨0, by omega, rfl, hE2, hKb, hBw2, Lib.hid (by simp)⟩
  case round =>
    clear hE2 hKb hBw2
    obtain ⟨i, hi, rfl, hE, hK, hBw, hno⟩ := hrel
    by_cases hl : i < 11
    case neg =>
      have hI : ¬ (i : Int) < 11 := by omega
      have hnk : ¬ kindOk x.kind := kd_none x.kind h9H.out (by
        have h := hno.out
        rw [List.take_of_length_le (by show (11 : Nat) ≤ i; omega)] at h
        exact h)
      have hv : Hid (V = .string ⟨#[]⟩ ∧ E = 260) := Lib.hid ⟨by rw [← hV.out]; unfold printL; rw [if_neg (show ¬ kindOk (x.ev ks).kind from hnk)]; rfl, by rw [← hE0.out]; unfold printE; exact if_neg hnk⟩
      clear hnk hno
      go_wp2_with (fail)
      go_ret2
      exact ⟨by rw [hv.out.1, hv.out.2]; rfl, by rw [← hgE.out]; exact hBw⟩
    have hI : (i : Int) < 11 := by omega
    have hI0 : ¬ (i : Int) < 0 := by omega
    have hll : i < kindsL.length := hl
    have hrow := kinds_row hK i hll
    obtain ⟨r, hr⟩ : ∃ r, kindsL[i] = r := ⟨_, rfl⟩
    have hmem : r ∈ kindsL := by rw [← hr]; exact List.getElem_mem _
    have hok := kd_ok r hmem
    have q3 := hok.wd2
    have q4 := hok.wh1
    have q5 := hok.wh2
    have hkk := kd_kind r hmem
    have hwd := kd_first r hmem
    have hrt := rowT_eq (x.ev ks) r hmem
    have hno2 : x.kind ≠ (r.k : Int) → ∀ r ∈ kindsL.take (i + 1), x.kind ≠ (r.k : Int) := fun h r' hr' => by
      rw [List.take_add_one, List.getElem?_eq_getElem hll, hr] at hr'
      rcases List.mem_append.1 hr' with h1 | h1
      · exact hno.out r' h1
      · obtain rfl : r' = r := by simpa using h1
        exact h
    rw [hr] at hrow
    replace hno2 := Lib.hid hno2
    replace hrt := Lib.hid hrt
    replace hwd := Lib.hid hwd
    replace hkk := Lib.hid hkk
    clear hr hmem hok hno
    go_upto_region 10 with (first
      | (refine wpList_load_at rfl _ _ rfl gK (i * 4) rfl _ _ hrow Tryz.underlying53 rfl (info_kd.trans rfl) ?_)
      | (refine wl_store_kd rfl _ _ rfl wr.heap.size r ⟨[], 0, 0, 0⟩ rfl rfl (Blk.new _ _ _) ?_; intro w4 hR hg4))
    have hB4 := below_grown (below_alloc (Below.refl wr.heap.size wr) _) hg4 (Nat.le_refl _)
    have hE4 := blk_then hE hB4
    have hK4 := blk_then hK hB4
    have hBw4 := hBw.trans (hB4.mono (by have := hE.lt; omega))
    obtain ⟨g6, hg6⟩ : ∃ y, y = wr.heap.size := ⟨_, rfl⟩
    rw [← hg6] at hR ⊢
    replace hg6 := Lib.hid hg6
    clear hE hK hBw hrow hB4 hg4
    have cE0 : w4.cell? ⟨gE, 0, none⟩ = some (.int .i64 x.kind) := hE4.cellv rfl
    have cR1 : w4.cell? ⟨g6, 1, none⟩ = some (.int .i64 (r.k : Nat)) := hR.cellv rfl
    by_cases hkx : x.kind = (r.k : Int)
    case neg =>
      have fk : ((r.k : Int) != x.kind) = true := bne_iff_ne.2 (fun h => hkx h.symm)
      have hno3 := Lib.hid (hno2.out hkx)
      clear hkx hno2
      go_wp2_with (fail)
      exact ⟨⟨i + 1, by omega, rfl, hE4, hK4, hBw4, hno3⟩, by simp only [intOf]; omega⟩
    have fk : ((r.k : Int) != x.kind) = false := by rw [hkx]; simp
    have hE9 : Hid (E = 0) := Lib.hid (by rw [← hE0.out]; unfold printE; rw [if_pos (by show kindOk x.kind; rw [hkx]; exact hkk.out)])
    have hv : Hid (V = .string (JB (rowT r (x.ev ks)))) := Lib.hid (by
      rw [← hV.out, hrt.out hkx]
      unfold printL
      rw [if_pos (by show kindOk x.kind; rw [hkx]; exact hkk.out)]
      rfl)
    have hwq : quo r.word = r.word := by rw [hwd.out.1]; exact quo_pl (firsts_pl r.k (by have h1 := hkk.out; unfold kindOk at h1; omega) (by have h1 := hkk.out; unfold kindOk at h1; omega))
    have hwl : r.word.length ≤ 6 := by rw [hwd.out.1]; exact firsts_len r.k (by have h1 := hkk.out; unfold kindOk at h1; omega)
    have hJ : (⟨r.word.toArray⟩ : ByteArray) = JB [r.word] := by
      unfold JB
      show _ = (⟨(quo r.word ++ []).toArray⟩ : ByteArray)
      rw [hwq, List.append_nil]
    have cR0 : w4.cell? ⟨g6, 0, none⟩ = some (.string (JB [r.word])) := by rw [← hJ]; exact hR.cellv rfl
    have hsz0 : (JB [r.word]).size ≤ 6 := by rw [← hJ]; exact hwl
    obtain ⟨ws0, hws0⟩ : ∃ y, y = [r.word] := ⟨_, rfl⟩
    rw [← hws0] at cR0 hsz0
    have hne : ws0 ≠ [] := by rw [hws0]; simp
    have hszN : (JB ws0).size ≤ 6 := hsz0
    replace hws0 := Lib.hid hws0
    have hE := hE4
    have hBw := hBw4
    have cR2 : w4.cell? ⟨g6, 2, none⟩ = some (.int .i64 (r.wd : Nat)) := hR.cellv rfl
    have cR3 : w4.cell? ⟨g6, 3, none⟩ = some (.int .i64 r.wh) := hR.cellv rfl
    obtain ⟨wq0, hq0⟩ : ∃ y, y = w4 := ⟨_, rfl⟩
    subst hq0
    clear hkx hno2 hE4 hK4 hBw4 hwq hwl hJ hsz0
    go_upto_region 12 with (fail)
    clear cE0 fk
    go_upto_if 42 with (fail)
    obtain ⟨b, hb⟩ : ∃ b, decide (0 < r.wd) = b := ⟨_, rfl⟩
    rw [hb]
    replace hb := Lib.hid hb
    go_cut [7] from 43 to 48 (fun v wx => ∃ wsN : List Bs, v = .string (JB wsN) ∧ Hid (wsN = ws0 ++ (if 0 < r.wd then [(tl x.name)] else [])) ∧ wsN ≠ [] ∧ (JB wsN).size ≤ (JB ws0).size + 4194307 ∧ Below wq0.heap.size wq0 wx)
    case first =>
      have hsq := quo_len (tl x.name)
      cases b with
      | true =>
        have hc : 0 < r.wd := of_decide_eq_true hb.out
        have hws : Hid (ws0 ++ [(tl x.name)] = ws0 ++ (if 0 < r.wd then [(tl x.name)] else [])) := Lib.hid (by rw [if_pos hc])
        have hss := JB_snoc_size hne (tl x.name)
        have hqt : (quo (tl x.name)).length ≤ 4194306 := by
          have h0 : (tl x.name).length = x.name.size := by simp [tl]
          omega
        clear hc hsq
        go_upto_region 13 with (fail)
        refine wp_region_text 6 [eqS (.string (JB ws0)), eqS (.string ((JB ws0) ++ (⟨#[32]⟩ : ByteArray))), eqS (.pointer (some ⟨gE, 1, none⟩)), eqS (.string x.name), eqS (.string ⟨(quo (tl x.name)).toArray⟩), eqS (.string (JB (ws0 ++ [(tl x.name)])))] [43, 44, 45, 46, 47, 48] (by kernel_rfl) (by kernel_rfl) ?_ ?_
        · skip
          refine Steps.cons (fun a' w' hG hB dep => gs_move (want_none rfl) _ rfl (id (hG.other 7 rfl))) ?_
          refine Steps.cons (fun a' w' hG hB dep => gs_cat (want_none rfl) _ _ _ _ rfl (JB ws0) (⟨#[32]⟩ : ByteArray) (dep 0 rfl 43 rfl) rfl (by show (JB ws0).size + 1 ≤ _; omega) rfl) ?_
          refine Steps.cons (fun a' w' hG hB dep => gs_field (want_none rfl) _ _ _ rfl gE (0) (1) (hG.other 1 rfl) (fun wz => field_evx_1 gE wz) rfl) ?_
          refine Steps.cons (fun a' w' hG hB dep => gs_load1 (want_none rfl) _ _ rfl gE (1) (dep 2 rfl 45 rfl) (.string x.name) ((blk_then hE hB).cellv (i := 1) rfl) _ Tryz.underlying9 rfl rfl) ?_
          refine Steps.cons (fun a' w' hG hB dep => gs_call (want_none rfl) _ _ _ rfl enter_rquote _ (map1 (dep 3 rfl 46 rfl)) ((rquote_any x.name (by omega) _).mono fun e w2 ⟨hq9, hb9⟩ => ⟨_, hq9, hb9, rfl⟩)) ?_
          refine Steps.cons (fun a' w' hG hB dep => gs_cat2 (want_none rfl) _ _ _ _ rfl ((JB ws0) ++ (⟨#[32]⟩ : ByteArray)) ⟨(quo (tl x.name)).toArray⟩ (dep 1 rfl 44 rfl) (dep 4 rfl 47 rfl) (by rw [ByteArray.size_append]; show (JB ws0).size + 1 + (quo (tl x.name)).length ≤ _; omega) (JB (ws0 ++ [(tl x.name)])) (JB_snoc hne _) rfl) ?_
          exact Steps.nil
        intro u w7 hw7 ans
        have hus48 : u 48 = (.string (JB (ws0 ++ [(tl x.name)]))) := ans 5 48 (by decide) rfl
        clear ans
        simp only [putAll, List.foldl_cons, List.foldl_nil, Act.put, List.setIfInBounds_toArray, List.set_cons_zero, List.set_cons_succ, hus48]
        clear hus48
        simp only [List.drop]
        go_wp2_with (fail)
        go_meet
        exact ⟨ws0 ++ [(tl x.name)], rfl, hws, by simp, by omega, hw7⟩
      | false =>
        have hc : ¬ (0 < r.wd) := of_decide_eq_false hb.out
        have hws : Hid (ws0 = ws0 ++ (if 0 < r.wd then [(tl x.name)] else [])) := Lib.hid (by rw [if_neg hc, List.append_nil])
        clear hc hsq
        go_wp2_with (fail)
        go_meet
        exact ⟨ws0, rfl, hws, hne, by omega, Below.refl _ _⟩
    case rest =>
      obtain ⟨ws1, rfl, h_ws1, hne2, hsz2, hBq⟩ := hcut
      obtain ⟨wq1, hq2⟩ : ∃ y, y = wc := ⟨_, rfl⟩
      subst hq2
      have hE2 := blk_then hE hBq
      have hR2 := blk_then hR hBq
      have hBw2 := hBw.trans (hBq.mono (by have := hE.lt; omega))
      have hsz3 := Nat.le_trans hsz2 (Nat.add_le_add_right hszN 4194307)
      clear hb hE hR hBw hBq hne hsz2 hszN cR0 cR1 cR2 cR3
      have hE := hE2
      have hR := hR2
      have hBw := hBw2
      have hne := hne2
      have hszN := hsz3
      have cR1 : wq1.cell? ⟨g6, 1, none⟩ = some (.int .i64 (r.k : Nat)) := hR.cellv rfl
      have cR2 : wq1.cell? ⟨g6, 2, none⟩ = some (.int .i64 (r.wd : Nat)) := hR.cellv rfl
      have cR3 : wq1.cell? ⟨g6, 3, none⟩ = some (.int .i64 r.wh) := hR.cellv rfl
      have cR0 := cR1
      clear hE2 hR2 hBw2 hne2 hsz3
      go_upto_if 51 with (fail)
      obtain ⟨b, hb⟩ : ∃ b, ((r.k : Int) == 2) = b := ⟨_, rfl⟩
      rw [hb]
      replace hb := Lib.hid hb
      go_cut [7] from 52 to 57 (fun v wx => ∃ wsN : List Bs, v = .string (JB wsN) ∧ Hid (wsN = ws1 ++ (if r.k = 2 then [(tl x.data)] else [])) ∧ wsN ≠ [] ∧ (JB wsN).size ≤ (JB ws1).size + 4194307 ∧ Below wq1.heap.size wq1 wx)
      case first =>
        have hsq := quo_len (tl x.data)
        cases b with
        | true =>
          have hc : r.k = 2 := by have := beq_iff_eq.1 hb.out; omega
          have hws : Hid (ws1 ++ [(tl x.data)] = ws1 ++ (if r.k = 2 then [(tl x.data)] else [])) := Lib.hid (by rw [if_pos hc])
          have hss := JB_snoc_size hne (tl x.data)
          have hqt : (quo (tl x.data)).length ≤ 4194306 := by
            have h0 : (tl x.data).length = x.data.size := by simp [tl]
            omega
          clear hc hsq
          go_upto_region 15 with (fail)
          refine wp_region_text 6 [eqS (.string (JB ws1)), eqS (.string ((JB ws1) ++ (⟨#[32]⟩ : ByteArray))), eqS (.pointer (some ⟨gE, 3, none⟩)), eqS (.string x.data), eqS (.string ⟨(quo (tl x.data)).toArray⟩), eqS (.string (JB (ws1 ++ [(tl x.data)])))] [52, 53, 54, 55, 56, 57] (by kernel_rfl) (by kernel_rfl) ?_ ?_
          · skip
            refine Steps.cons (fun a' w' hG hB dep => gs_move (want_none rfl) _ rfl (id (hG.other 7 rfl))) ?_
            refine Steps.cons (fun a' w' hG hB dep => gs_cat (want_none rfl) _ _ _ _ rfl (JB ws1) (⟨#[32]⟩ : ByteArray) (dep 0 rfl 52 rfl) rfl (by show (JB ws1).size + 1 ≤ _; omega) rfl) ?_
            refine Steps.cons (fun a' w' hG hB dep => gs_field (want_none rfl) _ _ _ rfl gE (0) (3) (hG.other 1 rfl) (fun wz => field_evx_3 gE wz) rfl) ?_
            refine Steps.cons (fun a' w' hG hB dep => gs_load1 (want_none rfl) _ _ rfl gE (3) (dep 2 rfl 54 rfl) (.string x.data) ((blk_then hE hB).cellv (i := 3) rfl) _ Tryz.underlying9 rfl rfl) ?_
            refine Steps.cons (fun a' w' hG hB dep => gs_call (want_none rfl) _ _ _ rfl enter_rquote _ (map1 (dep 3 rfl 55 rfl)) ((rquote_any x.data (by omega) _).mono fun e w2 ⟨hq9, hb9⟩ => ⟨_, hq9, hb9, rfl⟩)) ?_
            refine Steps.cons (fun a' w' hG hB dep => gs_cat2 (want_none rfl) _ _ _ _ rfl ((JB ws1) ++ (⟨#[32]⟩ : ByteArray)) ⟨(quo (tl x.data)).toArray⟩ (dep 1 rfl 53 rfl) (dep 4 rfl 56 rfl) (by rw [ByteArray.size_append]; show (JB ws1).size + 1 + (quo (tl x.data)).length ≤ _; omega) (JB (ws1 ++ [(tl x.data)])) (JB_snoc hne _) rfl) ?_
            exact Steps.nil
          intro u w7 hw7 ans
          have hus57 : u 57 = (.string (JB (ws1 ++ [(tl x.data)]))) := ans 5 57 (by decide) rfl
          clear ans
          simp only [putAll, List.foldl_cons, List.foldl_nil, Act.put, List.setIfInBounds_toArray, List.set_cons_zero, List.set_cons_succ, hus57]
          clear hus57
          simp only [List.drop]
          go_wp2_with (fail)
          go_meet
          exact ⟨ws1 ++ [(tl x.data)], rfl, hws, by simp, by omega, hw7⟩
        | false =>
          have hc : ¬ (r.k = 2) := by have := beq_eq_false_iff_ne.1 hb.out; omega
          have hws : Hid (ws1 = ws1 ++ (if r.k = 2 then [(tl x.data)] else [])) := Lib.hid (by rw [if_neg hc, List.append_nil])
          clear hc hsq
          go_wp2_with (fail)
          go_meet
          exact ⟨ws1, rfl, hws, hne, by omega, Below.refl _ _⟩
      case rest =>
        obtain ⟨ws2, rfl, h_ws2, hne2, hsz2, hBq⟩ := hcut
        obtain ⟨wq2, hq2⟩ : ∃ y, y = wc := ⟨_, rfl⟩
        subst hq2
        have hE2 := blk_then hE hBq
        have hR2 := blk_then hR hBq
        have hBw2 := hBw.trans (hBq.mono (by have := hE.lt; omega))
        have hsz3 := Nat.le_trans hsz2 (Nat.add_le_add_right hszN 4194307)
        clear hb hE hR hBw hBq hne hsz2 hszN cR0 cR1 cR2 cR3
        have hE := hE2
        have hR := hR2
        have hBw := hBw2
        have hne := hne2
        have hszN := hsz3
        have cR1 : wq2.cell? ⟨g6, 1, none⟩ = some (.int .i64 (r.k : Nat)) := hR.cellv rfl
        have cR2 : wq2.cell? ⟨g6, 2, none⟩ = some (.int .i64 (r.wd : Nat)) := hR.cellv rfl
        have cR3 : wq2.cell? ⟨g6, 3, none⟩ = some (.int .i64 r.wh) := hR.cellv rfl
        have cR0 := cR1
        clear hE2 hR2 hBw2 hne2 hsz3
        go_upto_if 60 with (fail)
        obtain ⟨b, hb⟩ : ∃ b, ((r.k : Int) == 4) = b := ⟨_, rfl⟩
        rw [hb]
        replace hb := Lib.hid hb
        go_cut [7] from 61 to 66 (fun v wx => ∃ wsN : List Bs, v = .string (JB wsN) ∧ Hid (wsN = ws2 ++ (if r.k = 4 then [(tl x.other)] else [])) ∧ wsN ≠ [] ∧ (JB wsN).size ≤ (JB ws2).size + 4194307 ∧ Below wq2.heap.size wq2 wx)
        case first =>
          have hsq := quo_len (tl x.other)
          cases b with
          | true =>
            have hc : r.k = 4 := by have := beq_iff_eq.1 hb.out; omega
            have hws : Hid (ws2 ++ [(tl x.other)] = ws2 ++ (if r.k = 4 then [(tl x.other)] else [])) := Lib.hid (by rw [if_pos hc])
            have hss := JB_snoc_size hne (tl x.other)
            have hqt : (quo (tl x.other)).length ≤ 4194306 := by
              have h0 : (tl x.other).length = x.other.size := by simp [tl]
              omega
            clear hc hsq
            go_upto_region 17 with (fail)
            refine wp_region_text 6 [eqS (.string (JB ws2)), eqS (.string ((JB ws2) ++ (⟨#[32]⟩ : ByteArray))), eqS (.pointer (some ⟨gE, 2, none⟩)), eqS (.string x.other), eqS (.string ⟨(quo (tl x.other)).toArray⟩), eqS (.string (JB (ws2 ++ [(tl x.other)])))] [61, 62, 63, 64, 65, 66] (by kernel_rfl) (by kernel_rfl) ?_ ?_
            · skip
              refine Steps.cons (fun a' w' hG hB dep => gs_move (want_none rfl) _ rfl (id (hG.other 7 rfl))) ?_
              refine Steps.cons (fun a' w' hG hB dep => gs_cat (want_none rfl) _ _ _ _ rfl (JB ws2) (⟨#[32]⟩ : ByteArray) (dep 0 rfl 61 rfl) rfl (by show (JB ws2).size + 1 ≤ _; omega) rfl) ?_
              refine Steps.cons (fun a' w' hG hB dep => gs_field (want_none rfl) _ _ _ rfl gE (0) (2) (hG.other 1 rfl) (fun wz => field_evx_2 gE wz) rfl) ?_
              refine Steps.cons (fun a' w' hG hB dep => gs_load1 (want_none rfl) _ _ rfl gE (2) (dep 2 rfl 63 rfl) (.string x.other) ((blk_then hE hB).cellv (i := 2) rfl) _ Tryz.underlying9 rfl rfl) ?_
              refine Steps.cons (fun a' w' hG hB dep => gs_call (want_none rfl) _ _ _ rfl enter_rquote _ (map1 (dep 3 rfl 64 rfl)) ((rquote_any x.other (by omega) _).mono fun e w2 ⟨hq9, hb9⟩ => ⟨_, hq9, hb9, rfl⟩)) ?_
              refine Steps.cons (fun a' w' hG hB dep => gs_cat2 (want_none rfl) _ _ _ _ rfl ((JB ws2) ++ (⟨#[32]⟩ : ByteArray)) ⟨(quo (tl x.other)).toArray⟩ (dep 1 rfl 62 rfl) (dep 4 rfl 65 rfl) (by rw [ByteArray.size_append]; show (JB ws2).size + 1 + (quo (tl x.other)).length ≤ _; omega) (JB (ws2 ++ [(tl x.other)])) (JB_snoc hne _) rfl) ?_
              exact Steps.nil
            intro u w7 hw7 ans
            have hus66 : u 66 = (.string (JB (ws2 ++ [(tl x.other)]))) := ans 5 66 (by decide) rfl
            clear ans
            simp only [putAll, List.foldl_cons, List.foldl_nil, Act.put, List.setIfInBounds_toArray, List.set_cons_zero, List.set_cons_succ, hus66]
            clear hus66
            simp only [List.drop]
            go_wp2_with (fail)
            go_meet
            exact ⟨ws2 ++ [(tl x.other)], rfl, hws, by simp, by omega, hw7⟩
          | false =>
            have hc : ¬ (r.k = 4) := by have := beq_eq_false_iff_ne.1 hb.out; omega
            have hws : Hid (ws2 = ws2 ++ (if r.k = 4 then [(tl x.other)] else [])) := Lib.hid (by rw [if_neg hc, List.append_nil])
            clear hc hsq
            go_wp2_with (fail)
            go_meet
            exact ⟨ws2, rfl, hws, hne, by omega, Below.refl _ _⟩
        case rest =>
          obtain ⟨ws3, rfl, h_ws3, hne2, hsz2, hBq⟩ := hcut
          obtain ⟨wq3, hq2⟩ : ∃ y, y = wc := ⟨_, rfl⟩
          subst hq2
          have hE2 := blk_then hE hBq
          have hR2 := blk_then hR hBq
          have hBw2 := hBw.trans (hBq.mono (by have := hE.lt; omega))
          have hsz3 := Nat.le_trans hsz2 (Nat.add_le_add_right hszN 4194307)
          clear hb hE hR hBw hBq hne hsz2 hszN cR0 cR1 cR2 cR3
          have hE := hE2
          have hR := hR2
          have hBw := hBw2
          have hne := hne2
          have hszN := hsz3
          have cR1 : wq3.cell? ⟨g6, 1, none⟩ = some (.int .i64 (r.k : Nat)) := hR.cellv rfl
          have cR2 : wq3.cell? ⟨g6, 2, none⟩ = some (.int .i64 (r.wd : Nat)) := hR.cellv rfl
          have cR3 : wq3.cell? ⟨g6, 3, none⟩ = some (.int .i64 r.wh) := hR.cellv rfl
          have cR0 := cR1
          clear hE2 hR2 hBw2 hne2 hsz3
          go_upto_if 69 with (fail)
          obtain ⟨b, hb⟩ : ∃ b, decide (0 < r.wh) = b := ⟨_, rfl⟩
          rw [hb]
          replace hb := Lib.hid hb
          go_cut [7] from 70 to 75 (fun v wx => ∃ wsN : List Bs, v = .string (JB wsN) ∧ Hid (wsN = ws3 ++ (if 0 < r.wh then [(Lib.itoa x.n)] else [])) ∧ wsN ≠ [] ∧ (JB wsN).size ≤ (JB ws3).size + 4194307 ∧ Below wq3.heap.size wq3 wx)
          case first =>
            have hsq := quo_len (Lib.itoa x.n)
            cases b with
            | true =>
              have hc : 0 < r.wh := of_decide_eq_true hb.out
              have hws : Hid (ws3 ++ [(Lib.itoa x.n)] = ws3 ++ (if 0 < r.wh then [(Lib.itoa x.n)] else [])) := Lib.hid (by rw [if_pos hc])
              have hss := JB_snoc_size hne (Lib.itoa x.n)
              have hqt : (quo (Lib.itoa x.n)).length ≤ 4194306 := by rw [quo_itoa]; omega
              clear hc hsq
              go_upto_region 19 with (fail)
              refine wp_region_text 6 [eqS (.string (JB ws3)), eqS (.string ((JB ws3) ++ (⟨#[32]⟩ : ByteArray))), eqS (.pointer (some ⟨gE, 4, none⟩)), eqS (.int .i64 (x.n)), eqS (.string ⟨(quo (Lib.itoa x.n)).toArray⟩), eqS (.string (JB (ws3 ++ [(Lib.itoa x.n)])))] [70, 71, 72, 73, 74, 75] (by kernel_rfl) (by kernel_rfl) ?_ ?_
              · skip
                refine Steps.cons (fun a' w' hG hB dep => gs_move (want_none rfl) _ rfl (id (hG.other 7 rfl))) ?_
                refine Steps.cons (fun a' w' hG hB dep => gs_cat (want_none rfl) _ _ _ _ rfl (JB ws3) (⟨#[32]⟩ : ByteArray) (dep 0 rfl 70 rfl) rfl (by show (JB ws3).size + 1 ≤ _; omega) rfl) ?_
                refine Steps.cons (fun a' w' hG hB dep => gs_field (want_none rfl) _ _ _ rfl gE (0) (4) (hG.other 1 rfl) (fun wz => field_evx_4 gE wz) rfl) ?_
                refine Steps.cons (fun a' w' hG hB dep => gs_load1 (want_none rfl) _ _ rfl gE (4) (dep 2 rfl 72 rfl) (.int .i64 (x.n)) ((blk_then hE hB).cellv (i := 4) rfl) _ Tryz.underlying3 rfl rfl) ?_
                refine Steps.cons (fun a' w' hG hB dep => gs_call (want_none rfl) _ _ _ rfl enter_written _ (map1 (dep 3 rfl 73 rfl)) ((kWn _).mono fun e w2 ⟨hq9, hb9⟩ => ⟨_, hq9, hb9, rfl⟩)) ?_
                refine Steps.cons (fun a' w' hG hB dep => gs_cat2 (want_none rfl) _ _ _ _ rfl ((JB ws3) ++ (⟨#[32]⟩ : ByteArray)) ⟨(quo (Lib.itoa x.n)).toArray⟩ (dep 1 rfl 71 rfl) (dep 4 rfl 74 rfl) (by rw [ByteArray.size_append]; show (JB ws3).size + 1 + (quo (Lib.itoa x.n)).length ≤ _; omega) (JB (ws3 ++ [(Lib.itoa x.n)])) (JB_snoc hne _) rfl) ?_
                exact Steps.nil
              intro u w7 hw7 ans
              have hus75 : u 75 = (.string (JB (ws3 ++ [(Lib.itoa x.n)]))) := ans 5 75 (by decide) rfl
              clear ans
              simp only [putAll, List.foldl_cons, List.foldl_nil, Act.put, List.setIfInBounds_toArray, List.set_cons_zero, List.set_cons_succ, hus75]
              clear hus75
              simp only [List.drop]
              go_wp2_with (fail)
              go_meet
              exact ⟨ws3 ++ [(Lib.itoa x.n)], rfl, hws, by simp, by omega, hw7⟩
            | false =>
              have hc : ¬ (0 < r.wh) := of_decide_eq_false hb.out
              have hws : Hid (ws3 = ws3 ++ (if 0 < r.wh then [(Lib.itoa x.n)] else [])) := Lib.hid (by rw [if_neg hc, List.append_nil])
              clear hc hsq
              go_wp2_with (fail)
              go_meet
              exact ⟨ws3, rfl, hws, hne, by omega, Below.refl _ _⟩
          case rest =>
            obtain ⟨ws4, rfl, h_ws4, hne2, hsz2, hBq⟩ := hcut
            obtain ⟨wq4, hq2⟩ : ∃ y, y = wc := ⟨_, rfl⟩
            subst hq2
            have hE2 := blk_then hE hBq
            have hR2 := blk_then hR hBq
            have hBw2 := hBw.trans (hBq.mono (by have := hE.lt; omega))
            have hsz3 := Nat.le_trans hsz2 (Nat.add_le_add_right hszN 4194307)
            clear hb hE hR hBw hBq hne hsz2 hszN cR0 cR1 cR2 cR3
            have hE := hE2
            have hR := hR2
            have hBw := hBw2
            have hne := hne2
            have hszN := hsz3
            have cR1 : wq4.cell? ⟨g6, 1, none⟩ = some (.int .i64 (r.k : Nat)) := hR.cellv rfl
            have cR2 : wq4.cell? ⟨g6, 2, none⟩ = some (.int .i64 (r.wd : Nat)) := hR.cellv rfl
            have cR3 : wq4.cell? ⟨g6, 3, none⟩ = some (.int .i64 r.wh) := hR.cellv rfl
            have cR0 := cR1
            clear hE2 hR2 hBw2 hne2 hsz3
            have hE := hE
            obtain ⟨bw, hbw⟩ : ∃ b, decide (r.wh < 0) = b := ⟨_, rfl⟩
            have hfin : Hid (rowT r (x.ev ks) = ws4 ++ (if bw = true then ks.map Lib.itoa else [])) := Lib.hid (by
              rw [h_ws4.out, h_ws3.out, h_ws2.out, h_ws1.out, hws0.out, ← hbw]
              unfold rowT
              simp only [decide_eq_true_eq]
              rfl)
            have cS : wq4.cell? ⟨gE, 6, none⟩ = some (.slice x.A x.m x.c) := hE.cellv rfl
            replace hbw := Lib.hid hbw
            clear h_ws4 h_ws3 h_ws2 h_ws1 hws0 cR1 cR2 cR0
            go_wp2_with (fail)
            go_loopw [7, 8] (fun sv jv wr => ∃ j : Nat, sv = .string (JB (ws4 ++ (ks.map Lib.itoa).take j)) ∧ jv = .int .i64 j ∧ j ≤ x.m ∧ (bw = true ∨ j = 0) ∧ (JB (ws4 ++ (ks.map Lib.itoa).take j)).size ≤ 16777300 + 23 * j ∧ Blk wr gE 25 x.C ∧ Blk wr g6 53 r.C ∧ Below gE w wr) (fun _ jv _ => x.m - (intOf jv).toNat)
            case atStart => exact ⟨0, by simp, rfl, by omega, .inr rfl, by simp; omega, hE, hR, hBw⟩
            case round =>
              clear hE hR hBw cS cR3 hszN
              obtain ⟨j, rfl, rfl, hjm, hj0, hjs, hE, hR, hBw⟩ := hrel
              have cR3 : wr.cell? ⟨g6, 3, none⟩ = some (.int .i64 r.wh) := hR.cellv rfl
              have cS : wr.cell? ⟨gE, 6, none⟩ = some (.slice x.A x.m x.c) := hE.cellv rfl
              by_cases hj : j < x.m ∧ bw = true
              · obtain ⟨hjm2, rfl⟩ := hj
                have hJI : (j : Int) < x.m := by omega
                have fw : r.wh < 0 := of_decide_eq_true hbw.out
                have hjk : j < ks.length := by rw [← hmk.out]; exact hjm2
                obtain ⟨bA, offA, hA, hbA, hrowA⟩ := hslg.at_ (by omega)
                obtain ⟨z, hz⟩ : ∃ z, ks[j] = z := ⟨_, rfl⟩
                have hzi : i64z z := hiH.out.2 z (by rw [← hz]; exact List.getElem_mem _)
                have kWz : ∀ W, Calls Tryz.prog 22 #[.int .i64 z] W fun e w' => e = .returned (strV (quo (Lib.itoa z))) ∧ Below W.heap.size W w' := fun W => by
                  have h := written_any z.natAbs z rfl hzi W
                  rw [← quo_itoa] at h
                  exact h
                have hzl : (quo (Lib.itoa z)).length ≤ 21 := by rw [quo_itoa]; exact Lib.itoa_length_le z hzi.1 hzi.2
                have cZ : wr.cell? ⟨bA, offA + j * 1, none⟩ = some (.int .i64 z) := by
                  have h9 := hrowA j hjk 0 _ rfl
                  rw [hz] at h9
                  exact (hBw.cell (p := ⟨bA, offA + j * 1 + 0, none⟩) hbA).trans h9
                have hbl : bA < wr.heap.size := Nat.lt_trans hbA hE.lt
                have hcA : x.C[6]? = some (.slice (some ⟨bA, offA, none⟩) x.m x.c) := by rw [← hA]; rfl
                have hjt : ws4 ++ (ks.map Lib.itoa).take (j + 1) = ws4 ++ (ks.map Lib.itoa).take j ++ [Lib.itoa z] := by
                  rw [List.take_add_one, List.getElem?_map, List.getElem?_eq_getElem hjk, hz, List.append_assoc]
                  rfl
                have hss := JB_snoc_size (ws := ws4 ++ (ks.map Lib.itoa).take j) (by simp [hne]) (Lib.itoa z)
                have hcAH := Lib.hid hcA
                have cZH := Lib.hid cZ
                replace hjt := Lib.hid hjt
                replace hss := Lib.hid hss
                clear cZ hcA hrowA hz hA
                go_upto_region 23 with (fail)
                have hcA := hcAH.out
                have cZ := cZH.out
                refine wp_region_text 9 [eqS (.string (JB (ws4 ++ (ks.map Lib.itoa).take j))), eqS (.string ((JB (ws4 ++ (ks.map Lib.itoa).take j)) ++ (⟨#[32]⟩ : ByteArray))), eqS (.pointer (some ⟨gE, 6, none⟩)), eqS (.slice (some ⟨bA, offA, none⟩) x.m x.c), eqS (.int .i64 (((j : Nat) : Int))), eqS (.pointer (some ⟨bA, offA + j * 1, none⟩)), eqS (.int .i64 (z)), eqS (.string ⟨(quo (Lib.itoa z)).toArray⟩), eqS (.string (JB (ws4 ++ (ks.map Lib.itoa).take j ++ [Lib.itoa z])))] [88, 89, 90, 91, 92, 93, 94, 95, 96] (by kernel_rfl) (by kernel_rfl) ?_ ?_
                · skip
                  refine Steps.cons (fun a' w' hG hB dep => gs_move (want_none rfl) _ rfl (id (hG.other 7 rfl))) ?_
                  refine Steps.cons (fun a' w' hG hB dep => gs_cat (want_none rfl) _ _ _ _ rfl (JB (ws4 ++ (ks.map Lib.itoa).take j)) (⟨#[32]⟩ : ByteArray) (dep 0 rfl 88 rfl) rfl (by show (JB (ws4 ++ (ks.map Lib.itoa).take j)).size + 1 ≤ _; omega) rfl) ?_
                  refine Steps.cons (fun a' w' hG hB dep => gs_field (want_none rfl) _ _ _ rfl gE (0) (6) (hG.other 1 rfl) (fun wz => field_evx_6 gE wz) rfl) ?_
                  refine Steps.cons (fun a' w' hG hB dep => gs_load1 (want_none rfl) _ _ rfl gE (6) (dep 2 rfl 90 rfl) (.slice (some ⟨bA, offA, none⟩) x.m x.c) ((blk_then hE hB).cellv (i := 6) (hcA.trans rfl)) _ Tryz.underlying23 rfl rfl) ?_
                  refine Steps.cons (fun a' w' hG hB dep => gs_move (want_none rfl) _ rfl (id (hG.other 8 rfl))) ?_
                  refine Steps.cons (fun a' w' hG hB dep => gs_index (want_none rfl) _ _ _ rfl under_ints 1 size_intE bA offA x.m x.c (j) (dep 3 rfl 91 rfl) (dep 4 rfl 92 rfl) hjm2 rfl) ?_
                  refine Steps.cons (fun a' w' hG hB dep => gs_load1 (want_none rfl) _ _ rfl bA (offA + j * 1) (dep 5 rfl 93 rfl) (.int .i64 (z)) ((hB.cell hbl).trans cZ) _ Tryz.underlying3 rfl rfl) ?_
                  refine Steps.cons (fun a' w' hG hB dep => gs_call (want_none rfl) _ _ _ rfl enter_written _ (map1 (dep 6 rfl 94 rfl)) ((kWz _).mono fun e w2 ⟨hq9, hb9⟩ => ⟨_, hq9, hb9, rfl⟩)) ?_
                  refine Steps.cons (fun a' w' hG hB dep => gs_cat2 (want_none rfl) _ _ _ _ rfl ((JB (ws4 ++ (ks.map Lib.itoa).take j)) ++ (⟨#[32]⟩ : ByteArray)) ⟨(quo (Lib.itoa z)).toArray⟩ (dep 1 rfl 89 rfl) (dep 7 rfl 95 rfl) (by rw [ByteArray.size_append]; show (JB (ws4 ++ (ks.map Lib.itoa).take j)).size + 1 + (quo (Lib.itoa z)).length ≤ _; omega) (JB (ws4 ++ (ks.map Lib.itoa).take j ++ [Lib.itoa z])) (JB_snoc (by simp [hne]) _) rfl) ?_
                  exact Steps.nil
                intro u w7 hw7 ans
                have hus96 : u 96 = (.string (JB (ws4 ++ (ks.map Lib.itoa).take j ++ [Lib.itoa z]))) := ans 8 96 (by decide) rfl
                clear ans
                simp only [putAll, List.foldl_cons, List.foldl_nil, Act.put, List.setIfInBounds_toArray, List.set_cons_zero, List.set_cons_succ, hus96]
                clear hus96
                simp only [List.drop]
                clear hcA cZ
                go_wp2_with (fail)
                refine ⟨⟨j + 1, by rw [hjt.out], rfl, by omega, by simp, by rw [hjt.out]; have := hss.out; omega, blk_then hE hw7, blk_then hR hw7, hBw.trans (hw7.mono (Nat.le_of_lt hE.lt))⟩, by simp only [intOf]; omega⟩
              · have hfin2 : Hid (V = .string (JB (ws4 ++ (ks.map Lib.itoa).take j))) := Lib.hid (by
                  rw [hv.out, hfin.out]
                  congr 3
                  cases bw with
                  | true =>
                    have : j = x.m := Classical.byContradiction fun h => hj ⟨by omega, rfl⟩
                    rw [if_pos rfl, List.take_of_length_le (by rw [List.length_map, ← hmk.out]; omega)]
                  | false =>
                    rcases hj0 with h | h
                    · cases h
                    · rw [h]; rfl)
                have key : (¬ (j : Int) < x.m) ∨ ((j : Int) < x.m ∧ ¬ r.wh < 0) := by
                  by_cases h : (j : Int) < x.m
                  · exact .inr ⟨h, fun h2 => hj ⟨by omega, by rw [← hbw.out]; exact decide_eq_true h2⟩⟩
                  · exact .inl h
                clear hj hj0
                rcases key with hJI | ⟨hJI, fw⟩
                · go_wp2_with (fail)
                  go_ret2
                  exact ⟨by rw [hfin2.out, hE9.out]; rfl, by rw [← hgE.out]; exact hBw⟩
                · go_wp2_with (fail)
                  go_ret2
                  exact ⟨by rw [hfin2.out, hE9.out]; rfl, by rw [← hgE.out]; exact hBw⟩
end Go.Proofs.YtjplgcmfifoefaaGreatDoor
