/- The walk of OctetsMakes. -/
import Derived.Test.YtjpiebapemalfaaClassAll
import Derived.Test.YtjpiebapemalfaaGs9
import Derived.Test.YtjpiebapemalfaaLaw3
import Derived.Test.YtjpiebapemalfaaOctLaws
namespace Go.Proofs.Ytjpiebapemalfaa
open Go.RowKit
set_option linter.unusedVariables false
set_option linter.unusedSimpArgs false

theorem enc165 : enc8 165 = #[.int .u8 165] := by kernel_rfl
set_option maxRecDepth 100000 in
set_option maxHeartbeats 4000000 in
theorem octetsMakes_any (A : Option Addr) (n c : Nat) (l : List UInt8) (fr tt : Nat) (s : ByteArray) (w : World) (hn : n = l.length) (hreach : n ≤ 140737488351232) (hs : SliceOf w w.heap.size 1 enc8 A l) (hf : fr < 256) (ht : tt < 256) :
    Calls Try.prog 11 #[.slice A n c, .int .u8 fr, .int .u8 tt, .string s] w fun e w' => e = .returned (.bool true) ∧ Below w.heap.size w w' := by
  have hm : n ≤ maxLen := by unfold maxLen; omega
  have hmI : n ≤ 9223372036854775807 := by omega
  have Hn := Lib.hid hn
  clear hn
  obtain ⟨i0, hi0, hz0, hz1, hz2⟩ := info_parts info_u83
  go_enter Try.func11, Try.ntmps11
  go_upto_region 3 with (go_at_call 25; refine (known3_any _).mono ?_; rintro e w1 ⟨rfl, hB⟩)
  have hs1 := (hs.below hB).more hB.size
  go_upto_region 4 with (first | (go_at_call 38; refine (rof_any A n c l _ Hn.out hm hs1).mono ?_; rintro e w2 ⟨rfl, hB2⟩) | (refine wl_store_set rfl _ _ rfl _ _ rfl rfl 0 (Blk.new _ _ _) ?_; intro w3 hw hg))
  have hK := below_then hB2 (below_grown (below_alloc (Below.refl w2.heap.size w2) (.cells (setC 0) 31)) hg (Nat.le_refl _))
  have hwl : w.heap.size ≤ w2.heap.size := Nat.le_trans hB.size hB2.size
  replace hB := below_then hB hK
  clear hK hB2 hg hs1
  obtain ⟨base, hbase⟩ : ∃ base, base = w3.heap.size := ⟨_, rfl⟩
  have hs3 := (hs.below hB).more hB.size
  have hb1 : base ≤ w3.heap.size := by omega
  have hbw : w.heap.size ≤ base := by rw [hbase]; exact hB.size
  have hwb : w2.heap.size < base := by rw [hbase]; exact hw.lt
  clear hbase
  go_upto_region 6 with (at_builtin; refine wl_append _ rfl _ _ 58 rfl base 5 i0 _ 1 1 Try.underlying58 hi0 hz0 hz1 hz2 rfl (by decide) enc8_size enc8_one (.slice none 0 0) [] rfl (Own.nil_ _ _ _ _ _) _ A n c l rfl Hn.out hs3 (by rw [List.length_nil, Nat.zero_add]; exact hm) (by rw [List.length_nil, Nat.zero_add]; omega) hb1 ?_; intro v1 w4 hown1 hg1 hat1)
  have hK := below_own (Below.refl w3.heap.size w3) hg1 own_nil_lt
  rw [List.nil_append] at hown1
  replace hw := blk_then hw hK
  have hb2 : base ≤ w4.heap.size := Nat.le_trans hb1 hK.size
  replace hB := below_then hB hK
  clear hK hg1 hat1 hs3
  have hone := slice_one (enc := enc8) (size := 1) (y := 165) (Blk.new w4 5 (enc8 165))
  have hown1' := hown1.alloc (.cells (enc8 165) 5)
  have hBw := below_alloc hB (.cells (enc8 165) 5)
  replace hw := hw.alloc (.cells (enc8 165) 5)
  rw [enc165] at hone hown1' hBw hw
  have hown2lt : ∀ k, v1.ownBlock = some k → base ≤ k := fun k hk => (hown1.lt k hk).1
  go_upto_region 7 with (at_builtin; refine wl_append _ rfl _ _ 58 rfl base 5 i0 _ 1 1 Try.underlying58 hi0 hz0 hz1 hz2 rfl (by decide) enc8_size enc8_one v1 l rfl hown1' _ _ 1 1 [165] rfl rfl hone (by rw [← Hn.out]; unfold maxLen; omega) (by rw [← Hn.out]; omega) (by simp; omega) ?_; intro v2 w5 hown2 hg2 hat2)
  replace hB := below_own hBw hg2 (fun k hk => by have := hown2lt k hk; omega)
  replace hw := hw.grown hg2 (fun e => by have := hown2lt _ e.symm; omega)
  clear hg2 hat2 hBw hown2lt hone hown1' hown1 hb2
  have Htk : Hid ((l ++ [165]).take n = l) := by rw [Hn.out]; exact List.take_left' rfl
  have hlen : (l ++ [(165 : UInt8)]).length = n + 1 := by rw [List.length_append, ← Hn.out]; rfl
  have Hat : Hid (∀ (hk : n < (l ++ [(165 : UInt8)]).length), (l ++ [165])[n] = 165) := fun hk => by
    have h1 := Hn.out
    rw [List.getElem_append_right (by omega)]
    simp [h1]
  obtain ⟨l2, hl2⟩ : ∃ l2, l2 = l ++ [165] := ⟨_, rfl⟩
  rw [← hl2] at hown2 Htk hlen Hat
  clear hl2
  obtain ⟨g, cap, hv2, hgb, hglt, hcap, hcm⟩ := hown2.form (by omega)
  subst hv2
  have hltl : n < l2.length := by omega
  have hncap : n ≤ cap := by omega
  replace Hat := Lib.hid (Hat.out hltl)
  obtain ⟨N, hN⟩ : ∃ N, N = l2.length := ⟨_, rfl⟩
  have hNn : n < N := by omega
  have hN1 : N ≤ 140737488351233 := by omega
  rw [← hN] at hown2 ⊢
  have HN := Lib.hid hN
  clear hN hlen
  have hown := hown2
  have hs7 := (hs.below hB).more hB.size
  clear hown2
  refine wp_region_steps 34 [eqS (.slice (some ⟨g, 0, none⟩) N cap), eqS (.slice A n c), eqS (.int .i64 ((n : Int))), eqS (.slice (some ⟨g, 0, none⟩) n cap), eqS (.agg (setC (ofB l))), eqS (.agg (setC (ofB l))), eqS (.bool false), eqS (.bool false), eqS (.slice (some ⟨g, 0, none⟩) N cap), eqS (.slice A n c), eqS (.int .i64 ((n : Int))), eqS (.slice (some ⟨g, 0, none⟩) n cap), eqS (.agg (setC (ofB l))), eqS (.agg (setC (ofB l))), eqS (.bool false), eqS (.bool false), eqS (.bool false), eqS (.slice (some ⟨g, 0, none⟩) N cap), eqS (.slice A n c), eqS (.int .i64 ((n : Int))), eqS (.slice (some ⟨g, 0, none⟩) n cap), eqS (.string ⟨l.toArray⟩), eqS (.slice A n c), eqS (.string ⟨l.toArray⟩), eqS (.bool false), eqS (.bool false), eqS (.bool false), eqS (.slice (some ⟨g, 0, none⟩) N cap), eqS (.slice A n c), eqS (.int .i64 ((n : Int))), eqS (.pointer (some ⟨g, 0 + n * 1, none⟩)), eqS (.int .u8 (165)), eqS (.bool false), eqS (.bool false)] [26, 27, 28, 29, 30, 31, 32, 33, 34, 35, 36, 37, 38, 39, 40, 41, 42, 43, 44, 45, 46, 47, 48, 49, 50, 51, 52, 53, 54, 55, 56, 57, 58, 59] follows_mixed (by kernel_rfl) rfl ?_ ?_
  · refine Steps.cons (fun a' w' hG hB dep => gs_move (want_none rfl) _ rfl (hG.other 10 rfl)) ?_
    refine Steps.cons (fun a' w' hG hB dep => gs_move (want_none rfl) _ rfl (hG.other 0 rfl)) ?_
    refine Steps.cons (fun a' w' hG hB dep => gs_len (want_none rfl) _ _ rfl under_bytes _ _ _ (dep 1 rfl 27 rfl) rfl) ?_
    refine Steps.cons (fun a' w' hG hB dep => gs_slice_to (want_none rfl) _ _ _ rfl under_bytes _ size_byteE _ _ _ _ (dep 0 rfl 26 rfl) (dep 2 rfl 28 rfl) hncap rfl) ?_
    refine Steps.cons (fun a' w' hG hB dep => gs_of_at (want_none rfl) _ _ rfl _ _ _ _ (dep 3 rfl 29 rfl) Hn.out hm (by have := (hown.then_ hB).slice enc8_size n; rwa [Htk.out] at this) (fun _ => rfl)) ?_
    refine Steps.cons (fun a' w' hG hB dep => gs_load_set (want_none rfl) _ rfl _ (hG.other 9 rfl) _ (blk_then hw hB) rfl) ?_
    refine Steps.cons (fun a' w' hG hB dep => gs_neq_set (want_none rfl) _ _ _ rfl _ _ (dep 4 rfl 30 rfl) (dep 5 rfl 31 rfl) (eqF rfl)) ?_
    refine Steps.cons (fun a' w' hG hB dep => gs_move (want_none rfl) _ rfl (dep 6 rfl 32 rfl)) ?_
    refine Steps.cons (fun a' w' hG hB dep => gs_move (want_yes rfl rfl (dep 7 rfl 33 rfl)) _ rfl (hG.other 10 rfl)) ?_
    refine Steps.cons (fun a' w' hG hB dep => gs_move (want_yes rfl rfl (dep 7 rfl 33 rfl)) _ rfl (hG.other 0 rfl)) ?_
    refine Steps.cons (fun a' w' hG hB dep => gs_len (want_yes rfl rfl (dep 7 rfl 33 rfl)) _ _ rfl under_bytes _ _ _ (dep 9 rfl 35 rfl) rfl) ?_
    refine Steps.cons (fun a' w' hG hB dep => gs_slice_to (want_yes rfl rfl (dep 7 rfl 33 rfl)) _ _ _ rfl under_bytes _ size_byteE _ _ _ _ (dep 8 rfl 34 rfl) (dep 10 rfl 36 rfl) hncap rfl) ?_
    refine Steps.cons (fun a' w' hG hB dep => gs_of_at (want_yes rfl rfl (dep 7 rfl 33 rfl)) _ _ rfl _ _ _ _ (dep 11 rfl 37 rfl) Hn.out hm (by have := (hown.then_ hB).slice enc8_size n; rwa [Htk.out] at this) (fun _ => rfl)) ?_
    refine Steps.cons (fun a' w' hG hB dep => gs_load_set (want_yes rfl rfl (dep 7 rfl 33 rfl)) _ rfl _ (hG.other 9 rfl) _ (blk_then hw hB) rfl) ?_
    refine Steps.cons (fun a' w' hG hB dep => gs_neq_set (want_yes rfl rfl (dep 7 rfl 33 rfl)) _ _ _ rfl _ _ (dep 12 rfl 38 rfl) (dep 13 rfl 39 rfl) (eqF rfl)) ?_
    refine Steps.cons (fun a' w' hG hB dep => gs_pick (want_none rfl) _ _ _ rfl false (dep 7 rfl 33 rfl) (dep 14 rfl 40 rfl)) ?_
    refine Steps.cons (fun a' w' hG hB dep => gs_move (want_none rfl) _ rfl (dep 15 rfl 41 rfl)) ?_
    refine Steps.cons (fun a' w' hG hB dep => gs_move (want_yes rfl rfl (dep 16 rfl 42 rfl)) _ rfl (hG.other 10 rfl)) ?_
    refine Steps.cons (fun a' w' hG hB dep => gs_move (want_yes rfl rfl (dep 16 rfl 42 rfl)) _ rfl (hG.other 0 rfl)) ?_
    refine Steps.cons (fun a' w' hG hB dep => gs_len (want_yes rfl rfl (dep 16 rfl 42 rfl)) _ _ rfl under_bytes _ _ _ (dep 18 rfl 44 rfl) rfl) ?_
    refine Steps.cons (fun a' w' hG hB dep => gs_slice_to (want_yes rfl rfl (dep 16 rfl 42 rfl)) _ _ _ rfl under_bytes _ size_byteE _ _ _ _ (dep 17 rfl 43 rfl) (dep 19 rfl 45 rfl) hncap rfl) ?_
    refine Steps.cons (fun a' w' hG hB dep => gs_str (want_yes rfl rfl (dep 16 rfl 42 rfl)) _ rfl _ _ _ _ _ (dep 20 rfl 46 rfl) Hn.out (by have := (hown.then_ hB).slice enc8_size n; rwa [Htk.out] at this) rfl) ?_
    refine Steps.cons (fun a' w' hG hB dep => gs_move (want_yes rfl rfl (dep 16 rfl 42 rfl)) _ rfl (hG.other 0 rfl)) ?_
    refine Steps.cons (fun a' w' hG hB dep => gs_str (want_yes rfl rfl (dep 16 rfl 42 rfl)) _ rfl _ _ _ _ _ (dep 22 rfl 48 rfl) Hn.out ((hs7.below hB).more hB.size) rfl) ?_
    refine Steps.cons (fun a' w' hG hB dep => gs_neq_str (want_yes rfl rfl (dep 16 rfl 42 rfl)) _ _ _ rfl _ (dep 21 rfl 47 rfl) (dep 23 rfl 49 rfl) rfl) ?_
    refine Steps.cons (fun a' w' hG hB dep => gs_pick (want_none rfl) _ _ _ rfl false (dep 16 rfl 42 rfl) (dep 24 rfl 50 rfl)) ?_
    refine Steps.cons (fun a' w' hG hB dep => gs_move (want_none rfl) _ rfl (dep 25 rfl 51 rfl)) ?_
    refine Steps.cons (fun a' w' hG hB dep => gs_move (want_yes rfl rfl (dep 26 rfl 52 rfl)) _ rfl (hG.other 10 rfl)) ?_
    refine Steps.cons (fun a' w' hG hB dep => gs_move (want_yes rfl rfl (dep 26 rfl 52 rfl)) _ rfl (hG.other 0 rfl)) ?_
    refine Steps.cons (fun a' w' hG hB dep => gs_len (want_yes rfl rfl (dep 26 rfl 52 rfl)) _ _ rfl under_bytes _ _ _ (dep 28 rfl 54 rfl) rfl) ?_
    refine Steps.cons (fun a' w' hG hB dep => gs_index (want_yes rfl rfl (dep 26 rfl 52 rfl)) _ _ _ rfl under_bytes _ size_byteE _ _ _ _ _ (dep 27 rfl 53 rfl) (dep 29 rfl 55 rfl) hNn rfl) ?_
    refine Steps.cons (fun a' w' hG hB dep => gs_load1 (want_yes rfl rfl (dep 26 rfl 52 rfl)) _ _ rfl _ _ (dep 30 rfl 56 rfl) _ (by have := (hown.then_ hB).row enc8_size n hltl; rw [Hat.out] at this; have h2 := this 0 _ rfl; rw [Nat.zero_add]; exact h2) _ Try.underlying5 rfl rfl) ?_
    refine Steps.cons (fun a' w' hG hB dep => gs_neq_int (want_yes rfl rfl (dep 26 rfl 52 rfl)) _ _ _ _ rfl _ _ _ (dep 31 rfl 57 rfl) rfl (eqFI rfl)) ?_
    refine Steps.cons (fun a' w' hG hB dep => gs_pick (want_none rfl) _ _ _ rfl false (dep 26 rfl 52 rfl) (dep 32 rfl 58 rfl)) ?_
    exact Steps.nil
  intro u w7 hB7 ans
  have ux : u 59 = .bool false := ans 33 59 (by decide) rfl
  clear ans
  refine wpList_nil ?_
  simp only [putAll, List.foldl_cons, List.foldl_nil, Act.put, List.setIfInBounds_toArray, List.set_cons_zero, List.set_cons_succ, ux]
  clear ux

  replace hown := hown.then_ hB7
  replace hB := below_then hB hB7
  clear Hat
  clear hB7 hw hwb hs7 hltl
  go_wp2
  go_loopw [62] (fun i wr => ∃ (k : Nat) (ys : List UInt8), k ≤ N ∧ i = .int .i64 k ∧ Own wr base 5 1 enc8 (.slice (some ⟨g, 0, none⟩) N cap) ys ∧ Below w.heap.size w wr) (fun i _ => N - (intOf i).toNat)
  case atStart => exact ⟨0, l2, by omega, rfl, hown, hB⟩
  case round =>
    clear hown hB Htk
    obtain ⟨k, ys, hk, rfl, hown, hB⟩ := hrel
    have hlen := hown.len
    by_cases hlt : k < N
    · have hkI : (k : Int) < N := by omega
      have hkys : k < ys.length := by omega
      have Hlen := Lib.hid hlen
      clear hlen
      have h1 : wr.cell? ⟨g, k, none⟩ = some (.int .u8 (ys[k].toNat)) := by
        have := hown.row enc8_size k hkys 0 _ rfl
        rw [Nat.mul_one] at this
        exact this
      have f1 := hown.frozen k
      have hu : ys[k].toNat < 256 := ys[k].toNat_lt
      obtain ⟨x, hx⟩ : ∃ x, x = ys[k].toNat := ⟨_, rfl⟩
      rw [← hx] at h1 hu
      clear hx
      go_wp2
      go_roundw
      case rel =>
        obtain ⟨y, hy⟩ := byte_any (IntKind.u8.wrap ((x : Int) + 101)) (by simp [IntKind.wrap, IntKind.bits, IntKind.signed]; omega) (by simp [IntKind.wrap, IntKind.bits, IntKind.signed]; omega)
        have o1 := hown.setCell (q := 0) (y' := y) (u := .int .u8 (IntKind.u8.wrap ((x : Int) + 101))) enc8_size hkys (by omega) (by rw [hy]; rfl)
        rw [Nat.add_zero, Nat.mul_one] at o1
        exact ⟨k + 1, _, by omega, by go_num, o1, hB.setCell (by simp; omega) _⟩
      case measure => simp [intOf]; omega
    · have hkI : ¬ (k : Int) < N := by omega
      have hnt : Hid (n = (ys.take n).length) := Lib.hid (by rw [List.length_take]; omega)
      clear hlen
      go_upto_region 14 with (fail)
      refine wp_region_steps 11 [eqS (.slice (some ⟨g, 0, none⟩) N cap), eqS (.slice A n c), eqS (.int .i64 ((n : Int))), eqS (.slice (some ⟨g, 0, none⟩) n cap), eqS (.agg (setC (ofB (ys.take n)))), eqS (.slice (some ⟨g, 0, none⟩) N cap), eqS (.slice A n c), eqS (.int .i64 ((n : Int))), eqS (.slice (some ⟨g, 0, none⟩) n cap), eqS (.agg (setC (ofB (ys.take n)))), eqS (.bool false)] [74, 75, 76, 77, 78, 79, 80, 81, 82, 83, 84] follows_mixed (by kernel_rfl) rfl ?_ ?_
      · refine Steps.cons (fun a' w' hG hB dep => gs_move (want_none rfl) _ rfl (hG.other 10 rfl)) ?_
        refine Steps.cons (fun a' w' hG hB dep => gs_move (want_none rfl) _ rfl (hG.other 0 rfl)) ?_
        refine Steps.cons (fun a' w' hG hB dep => gs_len (want_none rfl) _ _ rfl under_bytes _ _ _ (dep 1 rfl 75 rfl) rfl) ?_
        refine Steps.cons (fun a' w' hG hB dep => gs_slice_to (want_none rfl) _ _ _ rfl under_bytes _ size_byteE _ _ _ _ (dep 0 rfl 74 rfl) (dep 2 rfl 76 rfl) hncap rfl) ?_
        refine Steps.cons (fun a' w' hG hB dep => gs_of_at (want_none rfl) _ _ rfl _ _ _ _ (dep 3 rfl 77 rfl) hnt.out hm ((hown.then_ hB).slice enc8_size n) (fun _ => rfl)) ?_
        refine Steps.cons (fun a' w' hG hB dep => gs_move (want_none rfl) _ rfl (hG.other 10 rfl)) ?_
        refine Steps.cons (fun a' w' hG hB dep => gs_move (want_none rfl) _ rfl (hG.other 0 rfl)) ?_
        refine Steps.cons (fun a' w' hG hB dep => gs_len (want_none rfl) _ _ rfl under_bytes _ _ _ (dep 6 rfl 80 rfl) rfl) ?_
        refine Steps.cons (fun a' w' hG hB dep => gs_slice_to (want_none rfl) _ _ _ rfl under_bytes _ size_byteE _ _ _ _ (dep 5 rfl 79 rfl) (dep 7 rfl 81 rfl) hncap rfl) ?_
        refine Steps.cons (fun a' w' hG hB dep => gs_rof_at (want_none rfl) _ _ rfl _ _ _ _ (dep 8 rfl 82 rfl) hnt.out hm ((hown.then_ hB).slice enc8_size n) (fun _ => rfl)) ?_
        refine Steps.cons (fun a' w' hG hB dep => gs_neq_set (want_none rfl) _ _ _ rfl _ _ (dep 4 rfl 78 rfl) (dep 9 rfl 83 rfl) (eqF rfl)) ?_
        exact Steps.nil
      intro u w8 hB8 ans
      have ux : u 84 = .bool false := ans 10 84 (by decide) rfl
      clear ans
      refine wpList_nil ?_
      simp only [putAll, List.foldl_cons, List.foldl_nil, Act.put, List.setIfInBounds_toArray, List.set_cons_zero, List.set_cons_succ, ux]
      clear ux

      replace hB := below_then hB hB8
      clear hB8 hown
      go_upto_region 17 with (first | (go_at_call 39; refine (class_any s _).mono ?_; rintro e w9 ⟨rfl, hB9⟩) | (refine wl_store_set rfl _ _ rfl _ _ rfl rfl 0 (Blk.new _ _ _) ?_; intro w10 h12 hg10))
      have hK := below_then hB9 (below_grown (below_alloc (Below.refl w9.heap.size w9) (.cells (setC 0) 31)) hg10 (Nat.le_refl _))
      replace hB := below_then hB hK
      clear hK hB9 hg10
      obtain ⟨g12, hg12⟩ : ∃ x, x = w9.heap.size := ⟨_, rfl⟩
      rw [← hg12] at h12 ⊢
      clear hg12
      go_upto_region 18 with (first | (go_at_call 40; refine (rclass_any s _).mono ?_; rintro e w11 ⟨rfl, hB11⟩) | (refine wl_store_set rfl _ _ rfl _ _ rfl rfl 0 (Blk.new _ _ _) ?_; intro w13 h14 hg13))
      have hK := below_then hB11 (below_grown (below_alloc (Below.refl w11.heap.size w11) (.cells (setC 0) 31)) hg13 (Nat.le_refl _))
      replace hB := below_then hB hK
      replace h12 := blk_then h12 hK
      clear hK hB11 hg13
      obtain ⟨g14, hg14⟩ : ∃ x, x = w11.heap.size := ⟨_, rfl⟩
      rw [← hg14] at h14 ⊢
      clear hg14
      refine wp_region_text 20 [eqS (.agg (setC (clsN s))), eqS (.agg (setC (clsN s))), eqS (.bool true), eqS (.bool true), eqS (.int .i64 (clsE s)), eqS (.int .i64 (clsE s)), eqS (.bool true), eqS (.bool true), eqS (.bool true), eqS (.int .u8 ((fr : Int))), eqS (.int .u8 ((tt : Int))), eqS (.agg (setC (spanB fr tt))), eqS (.int .u8 ((fr : Int))), eqS (.int .i64 ((fr : Int))), eqS (.int .u8 ((tt : Int))), eqS (.int .i64 ((tt : Int))), eqS (.agg (setC (spanB fr tt))), eqS (.bool true), eqS (.bool true), eqS (.bool true)] [95, 96, 97, 98, 99, 100, 101, 102, 103, 104, 105, 106, 107, 108, 109, 110, 111, 112, 113, 8] (by kernel_rfl) rfl ?_ ?_
      · refine Steps.cons (fun a' w' hG hB dep => gs_load_set (want_none rfl) _ rfl _ (hG.other 12 rfl) _ (blk_then h12 hB) rfl) ?_
        refine Steps.cons (fun a' w' hG hB dep => gs_load_set (want_none rfl) _ rfl _ (hG.other 14 rfl) _ (blk_then h14 hB) rfl) ?_
        refine Steps.cons (fun a' w' hG hB dep => gs_eql_set (want_none rfl) _ _ _ rfl _ _ (dep 0 rfl 95 rfl) (dep 1 rfl 96 rfl) (eqT rfl)) ?_
        refine Steps.cons (fun a' w' hG hB dep => gs_move (want_none rfl) _ rfl (dep 2 rfl 97 rfl)) ?_
        refine Steps.cons (fun a' w' hG hB dep => gs_move (want_yes rfl rfl (dep 3 rfl 98 rfl)) _ rfl (hG.other 13 rfl)) ?_
        refine Steps.cons (fun a' w' hG hB dep => gs_move (want_yes rfl rfl (dep 3 rfl 98 rfl)) _ rfl (hG.other 15 rfl)) ?_
        refine Steps.cons (fun a' w' hG hB dep => gs_eql_int (want_yes rfl rfl (dep 3 rfl 98 rfl)) _ _ _ _ rfl _ _ _ (dep 4 rfl 99 rfl) (dep 5 rfl 100 rfl) (eqTI rfl)) ?_
        refine Steps.cons (fun a' w' hG hB dep => gs_pick (want_none rfl) _ _ _ rfl true (dep 3 rfl 98 rfl) (dep 6 rfl 101 rfl)) ?_
        refine Steps.cons (fun a' w' hG hB dep => gs_move (want_none rfl) _ rfl (dep 7 rfl 102 rfl)) ?_
        refine Steps.cons (fun a' w' hG hB dep => gs_move (want_yes rfl rfl (dep 8 rfl 103 rfl)) _ rfl (hG.other 1 rfl)) ?_
        refine Steps.cons (fun a' w' hG hB dep => gs_move (want_yes rfl rfl (dep 8 rfl 103 rfl)) _ rfl (hG.other 2 rfl)) ?_
        refine Steps.cons (fun a' w' hG hB dep => gs_span (want_yes rfl rfl (dep 8 rfl 103 rfl)) _ _ _ rfl fr tt (dep 9 rfl 104 rfl) (dep 10 rfl 105 rfl) hf ht (fun _ => rfl)) ?_
        refine Steps.cons (fun a' w' hG hB dep => gs_move (want_yes rfl rfl (dep 8 rfl 103 rfl)) _ rfl (hG.other 1 rfl)) ?_
        refine Steps.cons (fun a' w' hG hB dep => gs_wide (want_yes rfl rfl (dep 8 rfl 103 rfl)) _ rfl fr hf (dep 12 rfl 107 rfl) rfl) ?_
        refine Steps.cons (fun a' w' hG hB dep => gs_move (want_yes rfl rfl (dep 8 rfl 103 rfl)) _ rfl (hG.other 2 rfl)) ?_
        refine Steps.cons (fun a' w' hG hB dep => gs_wide (want_yes rfl rfl (dep 8 rfl 103 rfl)) _ rfl tt ht (dep 14 rfl 109 rfl) rfl) ?_
        refine Steps.cons (fun a' w' hG hB dep => gs_rspan (want_yes rfl rfl (dep 8 rfl 103 rfl)) _ _ _ rfl fr tt (dep 13 rfl 108 rfl) (dep 15 rfl 110 rfl) (fun _ => rfl)) ?_
        refine Steps.cons (fun a' w' hG hB dep => gs_eql_set (want_yes rfl rfl (dep 8 rfl 103 rfl)) _ _ _ rfl _ _ (dep 11 rfl 106 rfl) (dep 16 rfl 111 rfl) (eqT rfl)) ?_
        refine Steps.cons (fun a' w' hG hB dep => gs_pick (want_none rfl) _ _ _ rfl true (dep 8 rfl 103 rfl) (dep 17 rfl 112 rfl)) ?_
        refine Steps.cons (fun a' w' hG hB dep => gs_assign (want_none rfl) _ rfl (dep 18 rfl 113 rfl)) ?_
        exact Steps.nil
      intro u w12 hB12 ans
      have ux : u 8 = .bool true := ans 19 8 (by decide) rfl
      clear ans
      refine wpList_nil ?_
      simp only [putAll, List.foldl_cons, List.foldl_nil, Act.put, List.setIfInBounds_toArray, List.set_cons_zero, List.set_cons_succ, ux]
      clear ux

      go_wp2
      go_ret
      exact ⟨rfl, below_then hB hB12⟩

end Go.Proofs.Ytjpiebapemalfaa
