/- The walk of PartTells. -/
import Derived.Test.YtjpiebapemalfaaBuild
import Derived.Test.YtjpiebapemalfaaOpen2
import Derived.Test.YtjpiebapemalfaaTells
import Derived.Test.YtjpiebapemalfaaPartClassesWalk
namespace Go.Proofs.Ytjpiebapemalfaa
open Go.RowKit
set_option linter.unusedVariables false
set_option linter.unusedSimpArgs false

set_option maxRecDepth 100000 in
set_option maxHeartbeats 8000000 in
theorem partTells_any (A0 : Option Addr) (n0 c0 : Nat) (l0 : List BSet) (w : World) (hn0 : n0 = l0.length) (hm0 : n0 ≤ maxLen) (hc0 : n0 ≤ c0) (hs0 : SliceOf w w.heap.size 4 setC A0 l0) :
    Calls Try.prog 5 #[.slice A0 n0 c0] w fun e w' => e = .returned (.bool true) ∧ Below w.heap.size w w' := by
  obtain ⟨i0, hi0, hz0, hz1, hz2⟩ := info_parts info_set3
  have hzc := zero_cls
  have hsE := size_setE
  have hsm := small_sets A0 n0 c0 30 l0 w hn0 hm0 (by decide) hc0 hs0
  rw [show ((30 : Nat) : Int) = 30 from rfl] at hsm
  have Hsm := Lib.hid hsm
  have Hn0 := Lib.hid hn0
  clear hsm hn0
  go_enter Try.func5, Try.ntmps5
  go_upto_region 4 with (first | (go_at_call 17; refine Hsm.out.mono ?_; rintro e w1 ⟨rfl, hw1⟩; subst hw1) | (go_at_call 12; refine (known9_any _).mono ?_; rintro e w2 ⟨rfl, hB⟩))
  have hn : min n0 30 = (l0.take 30).length := by rw [List.length_take, ← Hn0.out]; omega
  have hs := hs0.take 30
  have hle : min n0 30 ≤ 30 := Nat.min_le_right _ _
  obtain ⟨n, hnn⟩ : ∃ n, n = min n0 30 := ⟨_, rfl⟩
  obtain ⟨l, hll⟩ : ∃ l, l = l0.take 30 := ⟨_, rfl⟩
  rw [← hnn, ← hll] at hn
  rw [← hll] at hs
  rw [← hnn] at hle ⊢
  have Hn := Lib.hid hn
  have hm : n ≤ maxLen := by unfold maxLen; omega
  obtain ⟨A, hA⟩ : ∃ A, A = A0 := ⟨_, rfl⟩
  rw [← hA] at hs ⊢
  clear hn hnn hll hs0 hm0 hc0 hA
  obtain ⟨w, rfl⟩ : ∃ w : World, w = w1 := ⟨_, rfl⟩
  clear Hsm Hn0

  have hs1 := (hs.below hB).more hB.size
  go_upto_region 5 with (first | (go_at_call 19; refine (classes_any A n c0 l _ Hn.out hm hs1).mono ?_; rintro e w3 ⟨rfl, hB2⟩) | (refine wl_store_cls rfl _ _ rfl _ _ rfl rfl (fun _ => 0) (Blk.new _ _ _) ?_; intro w4 h3 hg; have hK := below_then hB2 (below_grown (below_alloc (Below.refl w3.heap.size w3) (.cells (clsC fun _ => 0) 39)) hg (Nat.le_refl _))))
  have h3w0 : w.heap.size ≤ w3.heap.size := Nat.le_trans hB.size hB2.size
  replace hB := below_then hB hK
  clear hB2 hg hs1 hK
  obtain ⟨g3, hg3⟩ : ∃ g, g = w3.heap.size := ⟨_, rfl⟩
  rw [← hg3] at h3 ⊢
  have h3w : w.heap.size ≤ g3 := by omega
  clear hg3 h3w0
  go_wp2
  go_loopw [6, 5] (fun i t wr => ∃ b : Nat, b ≤ 256 ∧ i = .int .i64 b ∧ t = .int .i64 (top l b) ∧ Blk wr g3 39 (clsC (cls l)) ∧ Below w.heap.size w wr) (fun i _ _ => 256 - (intOf i).toNat)
  case atStart => exact ⟨0, by omega, rfl, rfl, h3, hB⟩
  case round =>
    clear h3 hB
    obtain ⟨b, hb, rfl, rfl, h3, hB⟩ := hrel
    by_cases hlt : b < 256
    · have c1 := h3.cellv (clsC_at _ b hlt)
      have e0 := cls_ge l b
      have e1 := cls_top l b
      have e2 := top_ge l b
      have e3 := top_up l b
      have e4 := top_same l b
      have T1 := Lib.hid e3
      have T2 := Lib.hid e4
      clear e3 e4
      obtain ⟨v, hv⟩ : ∃ v, v = cls l b := ⟨_, rfl⟩
      obtain ⟨t, ht⟩ : ∃ t, t = top l b := ⟨_, rfl⟩
      rw [← hv] at c1 e0 e1 T1 T2
      rw [← ht] at e1 e2 T1 T2 ⊢
      clear hv ht
      by_cases hvt : v > t
      · have T := Lib.hid (T1.out hvt)
        go_wp2
        go_roundw
        case rel => exact ⟨b + 1, by omega, by go_num, by rw [T.out], h3, hB⟩
        case measure => simp [intOf]; omega
      · have T := Lib.hid (T2.out hvt)
        go_wp2
        go_roundw
        case rel => exact ⟨b + 1, by omega, by go_num, by rw [T.out], h3, hB⟩
        case measure => simp [intOf]; omega
    · obtain rfl : b = 256 := by omega
      have htop : top l 256 = (many l : Int) - 1 := by have := top_all l; omega
      have hmle := many_le l
      rw [htop, show ((256 : Nat) : Int) = 256 from rfl]
      clear htop hlt hb
      go_upto_region 15 with (fail)
      clear hmle
      go_wp2
      obtain ⟨wo, rfl⟩ : ∃ wo : World, wo = wr := ⟨_, rfl⟩
      go_loopw [7] (fun i wr => ∃ a : Nat, a ≤ 256 ∧ i = .int .i64 a ∧ Blk wr g3 39 (clsC (cls l)) ∧ Below w.heap.size w wr) (fun i _ => 256 - (intOf i).toNat)
      case atStart => exact ⟨0, by omega, rfl, h3, hB⟩
      case round =>
        clear h3 hB
        obtain ⟨a, ha', rfl, h3, hB⟩ := hrel
        by_cases ha : a < 256
        · have haI : (a : Int) < 256 := by omega
          go_wp2
          obtain ⟨wo2, rfl⟩ : ∃ wo : World, wo = wr := ⟨_, rfl⟩
          go_loopw [8] (fun i wr => ∃ b : Nat, b ≤ a ∧ i = .int .i64 b ∧ Blk wr g3 39 (clsC (cls l)) ∧ Below w.heap.size w wr) (fun i _ => a - (intOf i).toNat)
          case atStart => exact ⟨0, by omega, rfl, h3, hB⟩
          case round =>
            clear h3 hB
            obtain ⟨b, hb', rfl, h3, hB⟩ := hrel
            by_cases hb : b < a
            · have hbt : b < 256 := by omega
              have hbI : (b : Int) < a := by omega
              go_wp2
              obtain ⟨wo3, rfl⟩ : ∃ wo : World, wo = wr := ⟨_, rfl⟩
              go_loopw [65, 9] (fun i s wr => ∃ k : Nat, k ≤ n ∧ i = .int .i64 k ∧ s = .bool true ∧ Hid (sig (l.take k) a = sig (l.take k) b) ∧ Blk wr g3 39 (clsC (cls l)) ∧ Below w.heap.size w wr) (fun i _ _ => n - (intOf i).toNat)
              case atStart => exact ⟨0, by omega, rfl, rfl, Lib.hid rfl, h3, hB⟩
              case round =>
                clear h3 hB
                obtain ⟨k, hk, rfl, rfl, hsig, h3, hB⟩ := hrel
                by_cases hkt : k < n
                · have hkl : k < l.length := by have := Hn.out; omega
                  obtain ⟨b0, off, rfl, hbl, hrow⟩ := (hs.below hB).at_ (by omega)
                  have hr := hrow k hkl
                  clear hrow
                  have hgr := h3.lt
                  go_upto_region 25 with (first | (refine wl_load_set_at rfl _ rfl _ _ rfl _ hr ?_) | (refine wl_store_set rfl _ _ rfl _ _ rfl rfl 0 (Blk.new _ _ _) ?_; intro w1 hbs hg5))
                  replace h3 := (h3.alloc (.cells (setC 0) 31)).grown hg5 (by simp; omega)
                  replace hB := below_grown (below_alloc hB (.cells (setC 0) 31)) hg5 hB.size
                  clear hg5 hgr hr
                  obtain ⟨p, hp⟩ : ∃ p, p = l[k].getLsbD a := ⟨_, rfl⟩
                  obtain ⟨q, hq⟩ : ∃ q, q = l[k].getLsbD b := ⟨_, rfl⟩
                  replace hp := Lib.hid hp.symm
                  replace hq := Lib.hid hq.symm
                  cases p <;> cases q
                  · refine wp_region_steps 9 [eqS (.agg (setC l[k])), eqS (.int .i64 ((a : Int))), eqS (.int .u8 ((a : Int))), eqS (.bool false), eqS (.agg (setC l[k])), eqS (.int .i64 ((b : Int))), eqS (.int .u8 ((b : Int))), eqS (.bool false), eqS (.bool false)] [69, 70, 71, 72, 73, 74, 75, 76, 77] follows_mixed (by kernel_rfl) rfl ?_ ?_
                    · refine Steps.cons (fun a' w' hG hB dep => gs_load_set (want_none rfl) _ rfl _ (hG.other 11 rfl) _ (blk_then hbs hB) rfl) ?_
                      refine Steps.cons (fun a' w' hG hB dep => gs_move (want_none rfl) _ rfl (hG.other 7 rfl)) ?_
                      refine Steps.cons (fun a' w' hG hB dep => gs_byte (want_none rfl) _ rfl _ (by omega) (by omega) (dep 1 rfl 70 rfl) rfl) ?_
                      refine Steps.cons (fun a' w' hG hB dep => gs_has (want_none rfl) _ _ _ rfl _ a ha (dep 0 rfl 69 rfl) (dep 2 rfl 71 rfl) (fun _ => congrArg Value.bool hp.out)) ?_
                      refine Steps.cons (fun a' w' hG hB dep => gs_load_set (want_none rfl) _ rfl _ (hG.other 11 rfl) _ (blk_then hbs hB) rfl) ?_
                      refine Steps.cons (fun a' w' hG hB dep => gs_move (want_none rfl) _ rfl (hG.other 8 rfl)) ?_
                      refine Steps.cons (fun a' w' hG hB dep => gs_byte (want_none rfl) _ rfl _ (by omega) (by omega) (dep 5 rfl 74 rfl) rfl) ?_
                      refine Steps.cons (fun a' w' hG hB dep => gs_has (want_none rfl) _ _ _ rfl _ b hbt (dep 4 rfl 73 rfl) (dep 6 rfl 75 rfl) (fun _ => congrArg Value.bool hq.out)) ?_
                      refine Steps.cons (fun a' w' hG hB dep => gs_neq_bool (want_none rfl) _ _ _ rfl _ _ (dep 3 rfl 72 rfl) (dep 7 rfl 76 rfl) rfl) ?_
                      exact Steps.nil
                    intro u w3 hB3 ans
                    have ux : u 77 = .bool false := ans 8 77 (by decide) rfl
                    clear ans
                    refine wpList_nil ?_
                    simp only [putAll, List.foldl_cons, List.foldl_nil, Act.put, List.setIfInBounds_toArray, List.set_cons_zero, List.set_cons_succ, ux]
                    clear ux
                    have h3' := blk_then h3 hB3
                    have hBn := below_then hB hB3
                    go_wp2
                    go_roundw
                    case rel => exact ⟨k + 1, by omega, by go_num, rfl, Lib.hid ((sig_take l k hkl a b).2 ⟨hsig.out, by rw [hp.out, hq.out]⟩), h3', hBn⟩
                    case measure => simp [intOf]; omega
                  · refine wp_region_steps 9 [eqS (.agg (setC l[k])), eqS (.int .i64 ((a : Int))), eqS (.int .u8 ((a : Int))), eqS (.bool false), eqS (.agg (setC l[k])), eqS (.int .i64 ((b : Int))), eqS (.int .u8 ((b : Int))), eqS (.bool true), eqS (.bool true)] [69, 70, 71, 72, 73, 74, 75, 76, 77] follows_mixed (by kernel_rfl) rfl ?_ ?_
                    · refine Steps.cons (fun a' w' hG hB dep => gs_load_set (want_none rfl) _ rfl _ (hG.other 11 rfl) _ (blk_then hbs hB) rfl) ?_
                      refine Steps.cons (fun a' w' hG hB dep => gs_move (want_none rfl) _ rfl (hG.other 7 rfl)) ?_
                      refine Steps.cons (fun a' w' hG hB dep => gs_byte (want_none rfl) _ rfl _ (by omega) (by omega) (dep 1 rfl 70 rfl) rfl) ?_
                      refine Steps.cons (fun a' w' hG hB dep => gs_has (want_none rfl) _ _ _ rfl _ a ha (dep 0 rfl 69 rfl) (dep 2 rfl 71 rfl) (fun _ => congrArg Value.bool hp.out)) ?_
                      refine Steps.cons (fun a' w' hG hB dep => gs_load_set (want_none rfl) _ rfl _ (hG.other 11 rfl) _ (blk_then hbs hB) rfl) ?_
                      refine Steps.cons (fun a' w' hG hB dep => gs_move (want_none rfl) _ rfl (hG.other 8 rfl)) ?_
                      refine Steps.cons (fun a' w' hG hB dep => gs_byte (want_none rfl) _ rfl _ (by omega) (by omega) (dep 5 rfl 74 rfl) rfl) ?_
                      refine Steps.cons (fun a' w' hG hB dep => gs_has (want_none rfl) _ _ _ rfl _ b hbt (dep 4 rfl 73 rfl) (dep 6 rfl 75 rfl) (fun _ => congrArg Value.bool hq.out)) ?_
                      refine Steps.cons (fun a' w' hG hB dep => gs_neq_bool (want_none rfl) _ _ _ rfl _ _ (dep 3 rfl 72 rfl) (dep 7 rfl 76 rfl) rfl) ?_
                      exact Steps.nil
                    intro u w3 hB3 ans
                    have ux : u 77 = .bool true := ans 8 77 (by decide) rfl
                    clear ans
                    refine wpList_nil ?_
                    simp only [putAll, List.foldl_cons, List.foldl_nil, Act.put, List.setIfInBounds_toArray, List.set_cons_zero, List.set_cons_succ, ux]
                    clear ux
                    have h3' := blk_then h3 hB3
                    have hBn := below_then hB hB3
                    have hne := sig_split l k hkl a b (by rw [hp.out, hq.out]; decide)
                    clear hbs hsig hp hq hB3 hB h3
                    have hcl : ¬ cls l a = cls l b := fun e => hne ((cls_eq l a b).1 e)
                    have d1 := h3'.cellv (clsC_at _ a ha)
                    have d2 := h3'.cellv (clsC_at _ b hbt)
                    obtain ⟨va, hva⟩ : ∃ va, va = cls l a := ⟨_, rfl⟩
                    obtain ⟨vb, hvb⟩ : ∃ vb, vb = cls l b := ⟨_, rfl⟩
                    rw [← hva] at d1 hcl
                    rw [← hvb] at d2 hcl
                    have hcl2 : (va == vb) = false := by simpa using hcl
                    clear hva hvb hcl
                    go_upto_region 28 with (fail)
                    go_region
                    go_wp2
                    go_roundw
                    case rel => exact ⟨b + 1, by omega, by go_num, h3'.drew, ⟨hBn.os, hBn.tape, hBn.output, hBn.size, hBn.block⟩⟩
                    case measure => simp [intOf]; omega
                  · refine wp_region_steps 9 [eqS (.agg (setC l[k])), eqS (.int .i64 ((a : Int))), eqS (.int .u8 ((a : Int))), eqS (.bool true), eqS (.agg (setC l[k])), eqS (.int .i64 ((b : Int))), eqS (.int .u8 ((b : Int))), eqS (.bool false), eqS (.bool true)] [69, 70, 71, 72, 73, 74, 75, 76, 77] follows_mixed (by kernel_rfl) rfl ?_ ?_
                    · refine Steps.cons (fun a' w' hG hB dep => gs_load_set (want_none rfl) _ rfl _ (hG.other 11 rfl) _ (blk_then hbs hB) rfl) ?_
                      refine Steps.cons (fun a' w' hG hB dep => gs_move (want_none rfl) _ rfl (hG.other 7 rfl)) ?_
                      refine Steps.cons (fun a' w' hG hB dep => gs_byte (want_none rfl) _ rfl _ (by omega) (by omega) (dep 1 rfl 70 rfl) rfl) ?_
                      refine Steps.cons (fun a' w' hG hB dep => gs_has (want_none rfl) _ _ _ rfl _ a ha (dep 0 rfl 69 rfl) (dep 2 rfl 71 rfl) (fun _ => congrArg Value.bool hp.out)) ?_
                      refine Steps.cons (fun a' w' hG hB dep => gs_load_set (want_none rfl) _ rfl _ (hG.other 11 rfl) _ (blk_then hbs hB) rfl) ?_
                      refine Steps.cons (fun a' w' hG hB dep => gs_move (want_none rfl) _ rfl (hG.other 8 rfl)) ?_
                      refine Steps.cons (fun a' w' hG hB dep => gs_byte (want_none rfl) _ rfl _ (by omega) (by omega) (dep 5 rfl 74 rfl) rfl) ?_
                      refine Steps.cons (fun a' w' hG hB dep => gs_has (want_none rfl) _ _ _ rfl _ b hbt (dep 4 rfl 73 rfl) (dep 6 rfl 75 rfl) (fun _ => congrArg Value.bool hq.out)) ?_
                      refine Steps.cons (fun a' w' hG hB dep => gs_neq_bool (want_none rfl) _ _ _ rfl _ _ (dep 3 rfl 72 rfl) (dep 7 rfl 76 rfl) rfl) ?_
                      exact Steps.nil
                    intro u w3 hB3 ans
                    have ux : u 77 = .bool true := ans 8 77 (by decide) rfl
                    clear ans
                    refine wpList_nil ?_
                    simp only [putAll, List.foldl_cons, List.foldl_nil, Act.put, List.setIfInBounds_toArray, List.set_cons_zero, List.set_cons_succ, ux]
                    clear ux
                    have h3' := blk_then h3 hB3
                    have hBn := below_then hB hB3
                    have hne := sig_split l k hkl a b (by rw [hp.out, hq.out]; decide)
                    clear hbs hsig hp hq hB3 hB h3
                    have hcl : ¬ cls l a = cls l b := fun e => hne ((cls_eq l a b).1 e)
                    have d1 := h3'.cellv (clsC_at _ a ha)
                    have d2 := h3'.cellv (clsC_at _ b hbt)
                    obtain ⟨va, hva⟩ : ∃ va, va = cls l a := ⟨_, rfl⟩
                    obtain ⟨vb, hvb⟩ : ∃ vb, vb = cls l b := ⟨_, rfl⟩
                    rw [← hva] at d1 hcl
                    rw [← hvb] at d2 hcl
                    have hcl2 : (va == vb) = false := by simpa using hcl
                    clear hva hvb hcl
                    go_upto_region 28 with (fail)
                    go_region
                    go_wp2
                    go_roundw
                    case rel => exact ⟨b + 1, by omega, by go_num, h3'.drew, ⟨hBn.os, hBn.tape, hBn.output, hBn.size, hBn.block⟩⟩
                    case measure => simp [intOf]; omega
                  · refine wp_region_steps 9 [eqS (.agg (setC l[k])), eqS (.int .i64 ((a : Int))), eqS (.int .u8 ((a : Int))), eqS (.bool true), eqS (.agg (setC l[k])), eqS (.int .i64 ((b : Int))), eqS (.int .u8 ((b : Int))), eqS (.bool true), eqS (.bool false)] [69, 70, 71, 72, 73, 74, 75, 76, 77] follows_mixed (by kernel_rfl) rfl ?_ ?_
                    · refine Steps.cons (fun a' w' hG hB dep => gs_load_set (want_none rfl) _ rfl _ (hG.other 11 rfl) _ (blk_then hbs hB) rfl) ?_
                      refine Steps.cons (fun a' w' hG hB dep => gs_move (want_none rfl) _ rfl (hG.other 7 rfl)) ?_
                      refine Steps.cons (fun a' w' hG hB dep => gs_byte (want_none rfl) _ rfl _ (by omega) (by omega) (dep 1 rfl 70 rfl) rfl) ?_
                      refine Steps.cons (fun a' w' hG hB dep => gs_has (want_none rfl) _ _ _ rfl _ a ha (dep 0 rfl 69 rfl) (dep 2 rfl 71 rfl) (fun _ => congrArg Value.bool hp.out)) ?_
                      refine Steps.cons (fun a' w' hG hB dep => gs_load_set (want_none rfl) _ rfl _ (hG.other 11 rfl) _ (blk_then hbs hB) rfl) ?_
                      refine Steps.cons (fun a' w' hG hB dep => gs_move (want_none rfl) _ rfl (hG.other 8 rfl)) ?_
                      refine Steps.cons (fun a' w' hG hB dep => gs_byte (want_none rfl) _ rfl _ (by omega) (by omega) (dep 5 rfl 74 rfl) rfl) ?_
                      refine Steps.cons (fun a' w' hG hB dep => gs_has (want_none rfl) _ _ _ rfl _ b hbt (dep 4 rfl 73 rfl) (dep 6 rfl 75 rfl) (fun _ => congrArg Value.bool hq.out)) ?_
                      refine Steps.cons (fun a' w' hG hB dep => gs_neq_bool (want_none rfl) _ _ _ rfl _ _ (dep 3 rfl 72 rfl) (dep 7 rfl 76 rfl) rfl) ?_
                      exact Steps.nil
                    intro u w3 hB3 ans
                    have ux : u 77 = .bool false := ans 8 77 (by decide) rfl
                    clear ans
                    refine wpList_nil ?_
                    simp only [putAll, List.foldl_cons, List.foldl_nil, Act.put, List.setIfInBounds_toArray, List.set_cons_zero, List.set_cons_succ, ux]
                    clear ux
                    have h3' := blk_then h3 hB3
                    have hBn := below_then hB hB3
                    go_wp2
                    go_roundw
                    case rel => exact ⟨k + 1, by omega, by go_num, rfl, Lib.hid ((sig_take l k hkl a b).2 ⟨hsig.out, by rw [hp.out, hq.out]⟩), h3', hBn⟩
                    case measure => simp [intOf]; omega

                · obtain rfl : k = n := by omega
                  have hkk : l.take k = l := List.take_of_length_le (by have := Hn.out; omega)
                  rw [hkk] at hsig
                  clear hkk
                  have hcl : cls l b = cls l a := ((cls_eq l a b).2 hsig.out).symm
                  have d1 := h3.cellv (clsC_at _ a ha)
                  have d2 := h3.cellv (clsC_at _ b hbt)
                  rw [hcl] at d2
                  clear hcl
                  obtain ⟨va, hva⟩ : ∃ va, va = cls l a := ⟨_, rfl⟩
                  rw [← hva] at d1 d2
                  clear hva
                  go_upto_region 28 with (fail)
                  go_region
                  go_wp2
                  go_roundw
                  case rel => exact ⟨b + 1, by omega, by go_num, h3.drew, ⟨hB.os, hB.tape, hB.output, hB.size, hB.block⟩⟩
                  case measure => simp [intOf]; omega

            · obtain rfl : b = a := by omega
              go_wp2
              go_roundw
              case rel => exact ⟨b + 1, by omega, by go_num, h3, hB⟩
              case measure => simp [intOf]; omega
        · obtain rfl : a = 256 := by omega
          rw [show ((256 : Nat) : Int) = 256 from rfl]
          clear ha ha'
          go_wp2
          obtain ⟨wo, rfl⟩ : ∃ wo : World, wo = wr := ⟨_, rfl⟩
          go_loopw [90] (fun i wr => ∃ k : Nat, k ≤ n ∧ i = .int .i64 k ∧ Blk wr g3 39 (clsC (cls l)) ∧ Below w.heap.size w wr) (fun i _ => n - (intOf i).toNat)
          case atStart => exact ⟨0, by omega, rfl, h3, hB⟩
          case round =>
            clear h3 hB
            obtain ⟨k, hk, rfl, h3, hB⟩ := hrel
            by_cases hkt : k < n
            · have hkI : (k : Int) < n := by omega
              have hkl : k < l.length := by have := Hn.out; omega
              obtain ⟨b0, off, rfl, hbl, hrow⟩ := (hs.below hB).at_ (by omega)
              have hr := hrow k hkl
              clear hrow
              have hgr := h3.lt
              go_upto_region 33 with (first | (refine wl_load_set_at rfl _ rfl _ _ rfl _ hr ?_) | (refine wl_store_set rfl _ _ rfl _ _ rfl rfl 0 (Blk.new _ _ _) ?_; intro w1 hbs hg5))
              replace h3 := (h3.alloc (.cells (setC 0) 31)).grown hg5 (by simp; omega)
              replace hB := below_grown (below_alloc hB (.cells (setC 0) 31)) hg5 hB.size
              have hj := joined l k hkl
              have Hj := Lib.hid hj
              obtain ⟨s, hs'⟩ : ∃ s, s = l[k] := ⟨_, rfl⟩
              rw [← hs'] at Hj hbs ⊢
              obtain ⟨gs, hgs⟩ : ∃ g, g = wr.heap.size := ⟨_, rfl⟩
              rw [← hgs] at hbs ⊢
              clear hj hs' hg5 hr hgr hgs
              obtain ⟨base, hbase⟩ : ∃ base, base = w1.heap.size := ⟨_, rfl⟩
              have hb0 : base ≤ w1.heap.size := by omega
              have hgb : gs < base := by rw [hbase]; exact hbs.lt
              have h3b : g3 < base := by rw [hbase]; exact h3.lt
              have hwb : w.heap.size ≤ base := by rw [hbase]; exact hB.size
              clear hbase
              have hmle := many_le l
              go_wp2
              obtain ⟨wo2, rfl⟩ : ∃ wo : World, wo = w1 := ⟨_, rfl⟩
              go_loopw [15, 14] (fun i v wr => ∃ c : Nat, c ≤ many l ∧ i = .int .i64 c ∧ Own wr base 31 4 setC v (metL l s c) ∧ base ≤ wr.heap.size ∧ Blk wr gs 31 (setC s) ∧ Blk wr g3 39 (clsC (cls l)) ∧ Below w.heap.size w wr) (fun i _ _ => many l - (intOf i).toNat)
              case atStart => exact ⟨0, by omega, rfl, Own.nil_ _ _ _ _ _, hb0, hbs, h3, hB⟩
              case round =>
                clear hbs h3 hB hb0
                obtain ⟨c, hc, rfl, hown, hb0, hbs, h3, hB⟩ := hrel
                obtain ⟨A2, c2, rfl, hc2, hc3⟩ := hown.shape
                have hle2 := metL_length l s c
                by_cases hct : c < many l
                · have hcI : (c : Int) < many l := by omega
                  have hyes := metL_yes l s c
                  have hno := metL_no l s c
                  have Hyes := Lib.hid hyes
                  have Hno := Lib.hid hno
                  clear hyes hno
                  obtain ⟨ys, hys⟩ : ∃ ys, ys = metL l s c := ⟨_, rfl⟩
                  rw [← hys] at hle2 hc2 hown Hyes Hno ⊢
                  obtain ⟨q, hq⟩ : ∃ q, q = ys.length := ⟨_, rfl⟩
                  rw [← hq] at hle2 hc2 hown ⊢
                  have Hq := Lib.hid hq
                  clear hys hq
                  have hC := Below.refl wr.heap.size wr
                  go_upto_region 38 with (first | (refine wl_load_cls rfl _ rfl _ rfl _ h3 ?_) | (go_at_call 20; refine (members_any (cls l) (c : Int) _).mono ?_; rintro e w3 ⟨rfl, hB3⟩; replace hC := below_then hC hB3) | (refine wl_store_set rfl _ _ rfl _ _ rfl rfl 0 (Blk.new _ _ _) ?_; intro w5 hmb hg5; replace hC := below_grown (below_alloc hC (.cells (setC 0) 31)) hg5 hC.size))
                  replace hbs := blk_then hbs hC
                  replace h3 := blk_then h3 hC
                  replace hown := hown.then_ hC
                  replace hB := below_then hB hC
                  replace hb0 := Nat.le_trans hb0 hC.size
                  clear hC hB3 hg5
                  by_cases hz : memB (cls l) c &&& s = 0
                  · have hz' := Lib.hid hz
                    have Hn' := Lib.hid (Hno.out hz)
                    clear hz
                    refine wp_region_text 5 [eqS (.agg (setC (memB (cls l) (c : Int)))), eqS (.agg (setC s)), eqS (.agg (setC ((memB (cls l) (c : Int)) &&& s))), eqS (.agg (setC 0)), eqS (.bool false)] [102, 103, 104, 105, 106] (by kernel_rfl) rfl ?_ ?_
                    · refine Steps.cons (fun a' w' hG hB dep => gs_load_set (want_none rfl) _ rfl _ (hG.other 16 rfl) _ (blk_then hmb hB) rfl) ?_
                      refine Steps.cons (fun a' w' hG hB dep => gs_load_set (want_none rfl) _ rfl _ (hG.other 13 rfl) _ (blk_then hbs hB) rfl) ?_
                      refine Steps.cons (fun a' w' hG hB dep => gs_meet (want_none rfl) _ _ _ rfl _ _ (dep 0 rfl 102 rfl) (dep 1 rfl 103 rfl) (fun _ => rfl)) ?_
                      refine Steps.cons (fun a' w' hG hB dep => gs_build_set (want_none rfl) _ rfl 0 (fun _ => by kernel_rfl) rfl) ?_
                      refine Steps.cons (fun a' w' hG hB dep => gs_neq_set (want_none rfl) _ _ _ rfl _ _ (dep 2 rfl 104 rfl) (dep 3 rfl 105 rfl) (eqF hz'.out)) ?_
                      exact Steps.nil
                    intro u w6 hB6 ans
                    have ux : u 106 = .bool false := ans 4 106 (by decide) rfl
                    clear ans
                    refine wpList_nil ?_
                    simp only [putAll, List.foldl_cons, List.foldl_nil, Act.put, List.setIfInBounds_toArray, List.set_cons_zero, List.set_cons_succ, ux]
                    clear ux

                    go_wp2
                    go_roundw
                    case rel => exact ⟨c + 1, by omega, by go_num, by rw [Hn'.out]; exact hown.then_ hB6, Nat.le_trans hb0 hB6.size, blk_then hbs hB6, blk_then h3 hB6, below_then hB hB6⟩
                    case measure => simp [intOf]; omega
                  · have hz' := Lib.hid hz
                    have Hy' := Lib.hid (Hyes.out hz)
                    clear hz
                    refine wp_region_text 5 [eqS (.agg (setC (memB (cls l) (c : Int)))), eqS (.agg (setC s)), eqS (.agg (setC ((memB (cls l) (c : Int)) &&& s))), eqS (.agg (setC 0)), eqS (.bool true)] [102, 103, 104, 105, 106] (by kernel_rfl) rfl ?_ ?_
                    · refine Steps.cons (fun a' w' hG hB dep => gs_load_set (want_none rfl) _ rfl _ (hG.other 16 rfl) _ (blk_then hmb hB) rfl) ?_
                      refine Steps.cons (fun a' w' hG hB dep => gs_load_set (want_none rfl) _ rfl _ (hG.other 13 rfl) _ (blk_then hbs hB) rfl) ?_
                      refine Steps.cons (fun a' w' hG hB dep => gs_meet (want_none rfl) _ _ _ rfl _ _ (dep 0 rfl 102 rfl) (dep 1 rfl 103 rfl) (fun _ => rfl)) ?_
                      refine Steps.cons (fun a' w' hG hB dep => gs_build_set (want_none rfl) _ rfl 0 (fun _ => by kernel_rfl) rfl) ?_
                      refine Steps.cons (fun a' w' hG hB dep => gs_neq_set (want_none rfl) _ _ _ rfl _ _ (dep 2 rfl 104 rfl) (dep 3 rfl 105 rfl) (neT hz'.out)) ?_
                      exact Steps.nil
                    intro u w6 hB6 ans
                    have ux : u 106 = .bool true := ans 4 106 (by decide) rfl
                    clear ans
                    refine wpList_nil ?_
                    simp only [putAll, List.foldl_cons, List.foldl_nil, Act.put, List.setIfInBounds_toArray, List.set_cons_zero, List.set_cons_succ, ux]
                    clear ux

                    replace hbs := blk_then hbs hB6
                    replace h3 := blk_then h3 hB6
                    replace hown := hown.then_ hB6
                    replace hB := below_then hB hB6
                    replace hb0 := Nat.le_trans hb0 hB6.size
                    replace hmb := blk_then hmb hB6
                    clear hB6 Hyes Hno
                    have hownlt : ∀ j, (Value.slice A2 q c2).ownBlock = some j → base ≤ j := fun j e => (hown.lt j e).1
                    have hone := slice_one (enc := setC) (size := 4) (Blk.new w6 31 (setC (memB (cls l) c)))
                    have hown1 := hown.alloc (.cells (setC (memB (cls l) c)) 31)
                    have hq256 : q ≤ 256 := by omega
                    have hc256 : c < 256 := by omega
                    clear hmle hc hkt hkI hk hkl hle
                    go_wp2_with (first | (refine wl_load_set rfl _ rfl _ rfl _ hmb ?_) | (refine wl_build1 rfl _ rfl _ rfl ?_) | (at_builtin; refine wl_append _ rfl _ _ 27 rfl base 31 i0 _ 4 32 Try.underlying27 hi0 hz0 hz1 hz2 rfl (by decide) setC_size setC_one _ ys rfl hown1 _ _ 1 1 [memB (cls l) c] rfl rfl hone (by rw [← Hq.out]; unfold maxLen; omega) (by rw [← Hq.out]; omega) (by simp; omega) ?_; intro v2 w7 hown2 hg2 hat2))
                    go_roundw
                    case rel => exact ⟨c + 1, by omega, by go_num, by rw [Hy'.out]; exact hown2, by have := hg2.size; simp at this; omega, (hbs.alloc _).grown hg2 (fun e => by have := hownlt _ e.symm; omega), (h3.alloc _).grown hg2 (fun e => by have := hownlt _ e.symm; omega), below_own (below_alloc hB _) hg2 (fun j e => by have := hownlt j e; omega)⟩
                    case measure => simp [intOf]; omega
                · have hcm : c = many l := by omega
                  obtain ⟨ys, hys⟩ : ∃ ys, ys = metL l s c := ⟨_, rfl⟩
                  have hj2 := Hj.out
                  rw [← hcm, ← hys] at hj2
                  rw [← hys] at hle2 hc2 hown ⊢
                  obtain ⟨q, hq⟩ : ∃ q, q = ys.length := ⟨_, rfl⟩
                  rw [← hq] at hle2 hc2 hown ⊢
                  have Hq := Lib.hid hq
                  replace Hj := Lib.hid hj2
                  have hqm : q ≤ maxLen := by unfold maxLen; omega
                  have hsl := hown.slice_all setC_size
                  have hcI : ¬ (c : Int) < many l := by omega
                  clear hys hq hj2 hcm
                  go_upto_region 40 with (fail)
                  refine wp_region_steps 4 [eqS (.slice A2 q c2), eqS (.agg (setC (joinL ys))), eqS (.agg (setC s)), eqS (.bool false)] [111, 112, 113, 114] follows_mixed (by kernel_rfl) rfl ?_ ?_
                  · refine Steps.cons (fun a' w' hG hB dep => gs_move (want_none rfl) _ rfl (hG.other 14 rfl)) ?_
                    refine Steps.cons (fun a' w' hG hB dep => gs_join_at (want_none rfl) _ _ rfl _ _ _ _ (dep 0 rfl 111 rfl) Hq.out hqm ((hsl.below hB).more hB.size) (fun _ => rfl)) ?_
                    refine Steps.cons (fun a' w' hG hB dep => gs_load_set (want_none rfl) _ rfl _ (hG.other 13 rfl) _ (blk_then hbs hB) rfl) ?_
                    refine Steps.cons (fun a' w' hG hB dep => gs_neq_set (want_none rfl) _ _ _ rfl _ _ (dep 1 rfl 112 rfl) (dep 2 rfl 113 rfl) (eqF Hj.out)) ?_
                    exact Steps.nil
                  intro u w8 hB8 ans
                  have ux : u 114 = .bool false := ans 3 114 (by decide) rfl
                  clear ans
                  refine wpList_nil ?_
                  simp only [putAll, List.foldl_cons, List.foldl_nil, Act.put, List.setIfInBounds_toArray, List.set_cons_zero, List.set_cons_succ, ux]
                  clear ux

                  go_wp2
                  go_roundw
                  case rel => exact ⟨k + 1, by omega, by go_num, blk_then h3 hB8, below_then hB hB8⟩
                  case measure => simp [intOf]; omega
            · obtain rfl : k = n := by omega
              go_wp2
              go_ret
              exact ⟨rfl, hB⟩

end Go.Proofs.Ytjpiebapemalfaa
