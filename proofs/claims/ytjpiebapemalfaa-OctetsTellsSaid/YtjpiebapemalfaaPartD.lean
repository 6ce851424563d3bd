/- The inner functions of heronlaw09: known, small, sameSets. -/
import Derived.Test.YtjpiebapemalfaaPartC
namespace Go.Proofs.Ytjpiebapemalfaa
open Go.RowKit Go.Maps Go.WideMaps
set_option linter.unusedVariables false
set_option linter.unusedSimpArgs false

def k1 : BSet := setTo (inB 97 109) 256
def k2 : BSet := setTo (inB 103 122) 256
theorem k_many : (many [k1, k2] : Int) = 4 := by decide +kernel
theorem k_0 : cls [k1, k2] 0 = 0 := by decide +kernel
theorem k_97 : cls [k1, k2] 97 = 1 := by decide +kernel
theorem k_109 : cls [k1, k2] 109 = 2 := by decide +kernel
theorem k_122 : cls [k1, k2] 122 = 3 := by decide +kernel
theorem k_255 : cls [k1, k2] 255 = 0 := by decide +kernel

set_option maxRecDepth 100000 in
set_option maxHeartbeats 1000000 in
theorem known9_any (w : World) : Calls Try.prog 12 #[] w fun e w' => e = .returned (.bool true) ∧ Below w.heap.size w w' := by
  have hz := zero_cls
  have hbs := build_sets2
  go_enter Try.func12, Try.ntmps12
  have hC := Below.refl w.heap.size w
  go_upto_region 2 with (first
    | (go_at_call 41; refine (rspan_any _ _ _).mono ?_; rintro e w1 ⟨rfl, hB1⟩; replace hC := below_then hC hB1)
    | (go_at_call 19; refine (classes_any _ _ _ [k1, k2] _ rfl (by decide) (sets2_of k1 k2 _)).mono ?_; rw [k_many]; rintro e w2 ⟨rfl, hB2⟩; replace hC := below_then (below_alloc hC _) hB2)
    | (refine wl_store_cls rfl _ _ rfl _ _ rfl rfl _ (Blk.new _ _ _) ?_; intro w3 hb3 hg3))
  have hC2 := below_grown (below_alloc hC (.cells (clsC fun _ => 0) 39)) hg3 hC.size
  have c0 := hb3.cellv (clsC_at _ 0 (by decide))
  have c1 := hb3.cellv (clsC_at _ 97 (by decide))
  have c2 := hb3.cellv (clsC_at _ 109 (by decide))
  have c3 := hb3.cellv (clsC_at _ 122 (by decide))
  have c4 := hb3.cellv (clsC_at _ 255 (by decide))
  rw [k_0] at c0
  rw [k_97] at c1
  rw [k_109] at c2
  rw [k_122] at c3
  rw [k_255] at c4
  go_wp2
  go_ret
  exact ⟨rfl, hC2⟩

set_option maxHeartbeats 1000000 in
theorem small_any (a : Addr) (n c N : Nat) (w : World) (hm : n ≤ maxLen) (hN : N ≤ maxLen) (hc : n ≤ c) :
    Calls Try.prog 17 #[.slice (some a) n c, .int .i64 N] w fun e w' => e = .returned (.slice (some a) (min n N) c) ∧ w' = w := by
  unfold maxLen at hm hN
  by_cases h : n > N
  · have e := Lib.hid (Nat.min_eq_right (by omega) : min n N = N)
    rw [e.out]
    have hNc : N ≤ c := by omega
    have hsz := size_setE
    go_enter Try.func17, Try.ntmps17
    go_wp2
    go_ret
    exact ⟨rfl, rfl⟩
  · have e := Lib.hid (Nat.min_eq_left (by omega) : min n N = n)
    rw [e.out]
    go_enter Try.func17, Try.ntmps17
    go_wp2
    go_ret
    exact ⟨rfl, rfl⟩
theorem small_nil (c N : Nat) (w : World) (hN : N ≤ maxLen) :
    Calls Try.prog 17 #[.slice none 0 c, .int .i64 N] w fun e w' => e = .returned (.slice none 0 c) ∧ w' = w := by
  unfold maxLen at hN
  go_enter Try.func17, Try.ntmps17
  go_wp2
  go_ret
  exact ⟨rfl, rfl⟩

theorem neT {p q : BSet} (h : ¬ p = q) : Value.bool (!decide (p = q)) = .bool true := by rw [decide_eq_false h]; rfl
set_option maxHeartbeats 1000000 in
theorem same_any (A B : Option Addr) (n c m d : Nat) (l1 l2 : List BSet) (w : World) (hn : n = l1.length) (hm : n ≤ maxLen) (hn2 : m = l2.length) (hm2 : m ≤ maxLen) (hs1 : SliceOf w w.heap.size 4 setC A l1) (hs2 : SliceOf w w.heap.size 4 setC B l2) :
    Calls Try.prog 15 #[.slice A n c, .slice B m d] w fun e w' => e = .returned (.bool (decide (l1 = l2))) ∧ Below w.heap.size w w' := by
  have Hn := Lib.hid hn
  have Hm := Lib.hid hn2
  clear hn hn2
  unfold maxLen at hm hm2
  by_cases hnm : n = m
  · subst hnm
    go_enter Try.func15, Try.ntmps15
    go_wp2
    go_loopw [13] (fun i wr => ∃ k : Nat, k ≤ n ∧ i = .int .i64 k ∧ Hid (l1.take k = l2.take k) ∧ Below w.heap.size w wr) (fun i _ => n - (intOf i).toNat)
    case atStart => exact ⟨0, by omega, rfl, Lib.hid rfl, Below.refl _ _⟩
    case round =>
      obtain ⟨k, hk, rfl, heq, hB⟩ := hrel
      by_cases hlt : k < n
      · have hl1 : k < l1.length := by have := Hn.out; omega
        have hl2 : k < l2.length := by have := Hm.out; omega
        obtain ⟨b1, o1, rfl, hbl1, hrow1⟩ := ((hs1.below hB).more hB.size).at_ (by omega)
        obtain ⟨b2, o2, rfl, hbl2, hrow2⟩ := ((hs2.below hB).more hB.size).at_ (by omega)
        have hr1 := hrow1 k hl1
        have hr2 := hrow2 k hl2
        clear hrow1 hrow2
        go_upto_region 6 with (fail)
        by_cases hx : l1[k] = l2[k]
        · have hX := Lib.hid hx
          clear hx
          refine wp_region_steps 9 [eqS (.slice (some ⟨b1, o1, none⟩) n c), eqS (.int .i64 (k : Int)), eqS (.pointer (some ⟨b1, o1 + k * 4, none⟩)), eqS (.agg (setC l1[k])), eqS (.slice (some ⟨b2, o2, none⟩) n d), eqS (.int .i64 (k : Int)), eqS (.pointer (some ⟨b2, o2 + k * 4, none⟩)), eqS (.agg (setC l2[k])), eqS (.bool false)] [16, 17, 18, 19, 20, 21, 22, 23, 24] follows_mixed (by kernel_rfl) rfl ?_ ?_
          · refine Steps.cons (fun a' w' hG hB dep => gs_move (want_none rfl) _ rfl (hG.other 0 rfl)) ?_
            refine Steps.cons (fun a' w' hG hB dep => gs_move (want_none rfl) _ rfl (hG.other 5 rfl)) ?_
            refine Steps.cons (fun a' w' hG hB dep => gs_index (want_none rfl) _ _ _ rfl under_sets _ size_setE _ _ _ _ _ (dep 0 rfl 16 rfl) (dep 1 rfl 17 rfl) hlt rfl) ?_
            refine Steps.cons (fun a' w' hG hB dep => gs_load_set_at (want_none rfl) _ rfl _ _ (dep 2 rfl 18 rfl) _ (hr1.keep (hB.block b1 hbl1)) rfl) ?_
            refine Steps.cons (fun a' w' hG hB dep => gs_move (want_none rfl) _ rfl (hG.other 1 rfl)) ?_
            refine Steps.cons (fun a' w' hG hB dep => gs_move (want_none rfl) _ rfl (hG.other 5 rfl)) ?_
            refine Steps.cons (fun a' w' hG hB dep => gs_index (want_none rfl) _ _ _ rfl under_sets _ size_setE _ _ _ _ _ (dep 4 rfl 20 rfl) (dep 5 rfl 21 rfl) hlt rfl) ?_
            refine Steps.cons (fun a' w' hG hB dep => gs_load_set_at (want_none rfl) _ rfl _ _ (dep 6 rfl 22 rfl) _ (hr2.keep (hB.block b2 hbl2)) rfl) ?_
            refine Steps.cons (fun a' w' hG hB dep => gs_neq_set (want_none rfl) _ _ _ rfl _ _ (dep 3 rfl 19 rfl) (dep 7 rfl 23 rfl) (eqF hX.out)) ?_
            exact Steps.nil
          intro u w1 hB1 ans
          have ux : u 24 = .bool false := ans 8 24 (by decide) rfl
          clear ans
          refine wpList_nil ?_
          simp only [putAll, List.foldl_cons, List.foldl_nil, Act.put, List.setIfInBounds_toArray, List.set_cons_zero, List.set_cons_succ, ux]
          clear ux
          go_wp2
          go_roundw
          case rel => exact ⟨k + 1, by omega, by go_num, Lib.hid (by rw [take_snoc' l1 k hl1, take_snoc' l2 k hl2, heq.out, hX.out]), below_then hB hB1⟩
          case measure => simp [intOf]; omega
        · have hX := Lib.hid hx
          clear hx
          refine wp_region_steps 9 [eqS (.slice (some ⟨b1, o1, none⟩) n c), eqS (.int .i64 (k : Int)), eqS (.pointer (some ⟨b1, o1 + k * 4, none⟩)), eqS (.agg (setC l1[k])), eqS (.slice (some ⟨b2, o2, none⟩) n d), eqS (.int .i64 (k : Int)), eqS (.pointer (some ⟨b2, o2 + k * 4, none⟩)), eqS (.agg (setC l2[k])), eqS (.bool true)] [16, 17, 18, 19, 20, 21, 22, 23, 24] follows_mixed (by kernel_rfl) rfl ?_ ?_
          · refine Steps.cons (fun a' w' hG hB dep => gs_move (want_none rfl) _ rfl (hG.other 0 rfl)) ?_
            refine Steps.cons (fun a' w' hG hB dep => gs_move (want_none rfl) _ rfl (hG.other 5 rfl)) ?_
            refine Steps.cons (fun a' w' hG hB dep => gs_index (want_none rfl) _ _ _ rfl under_sets _ size_setE _ _ _ _ _ (dep 0 rfl 16 rfl) (dep 1 rfl 17 rfl) hlt rfl) ?_
            refine Steps.cons (fun a' w' hG hB dep => gs_load_set_at (want_none rfl) _ rfl _ _ (dep 2 rfl 18 rfl) _ (hr1.keep (hB.block b1 hbl1)) rfl) ?_
            refine Steps.cons (fun a' w' hG hB dep => gs_move (want_none rfl) _ rfl (hG.other 1 rfl)) ?_
            refine Steps.cons (fun a' w' hG hB dep => gs_move (want_none rfl) _ rfl (hG.other 5 rfl)) ?_
            refine Steps.cons (fun a' w' hG hB dep => gs_index (want_none rfl) _ _ _ rfl under_sets _ size_setE _ _ _ _ _ (dep 4 rfl 20 rfl) (dep 5 rfl 21 rfl) hlt rfl) ?_
            refine Steps.cons (fun a' w' hG hB dep => gs_load_set_at (want_none rfl) _ rfl _ _ (dep 6 rfl 22 rfl) _ (hr2.keep (hB.block b2 hbl2)) rfl) ?_
            refine Steps.cons (fun a' w' hG hB dep => gs_neq_set (want_none rfl) _ _ _ rfl _ _ (dep 3 rfl 19 rfl) (dep 7 rfl 23 rfl) (neT hX.out)) ?_
            exact Steps.nil
          intro u w1 hB1 ans
          have ux : u 24 = .bool true := ans 8 24 (by decide) rfl
          clear ans
          refine wpList_nil ?_
          simp only [putAll, List.foldl_cons, List.foldl_nil, Act.put, List.setIfInBounds_toArray, List.set_cons_zero, List.set_cons_succ, ux]
          clear ux
          go_wp2
          go_ret
          refine ⟨?_, below_then hB hB1⟩
          rw [decide_eq_false (fun e => hX.out (by subst e; rfl))]
          rfl
      · have hk1 : l1.take k = l1 := List.take_of_length_le (by have := Hn.out; omega)
        have hk2 : l2.take k = l2 := List.take_of_length_le (by have := Hm.out; omega)
        rw [hk1, hk2] at heq
        go_wp2
        go_ret
        refine ⟨?_, hB⟩
        rw [decide_eq_true heq.out]
        rfl
  · go_enter Try.func15, Try.ntmps15
    go_wp2
    go_ret
    refine ⟨?_, Below.refl _ _⟩
    rw [decide_eq_false (fun e => hnm (by have h1 := Hn.out; have h2 := Hm.out; subst e; omega))]
    rfl

end Go.Proofs.Ytjpiebapemalfaa
