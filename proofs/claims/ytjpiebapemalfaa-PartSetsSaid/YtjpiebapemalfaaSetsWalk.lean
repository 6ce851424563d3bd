/- The walks of Sets, part's and the document's. -/
import Derived.Test.YtjpiebapemalfaaGs7
import Derived.Test.YtjpiebapemalfaaBuild
import Derived.Test.YtjpiebapemalfaaPartD
namespace Go.Proofs.Ytjpiebapemalfaa
open Go.RowKit Go.Maps Go.WideMaps
set_option linter.unusedVariables false
set_option linter.unusedSimpArgs false

def newB (x : BSet) (l : List BSet) : Bool := !decide (x ∈ l)
theorem newB_snoc (x y : BSet) (l : List BSet) : newB x (l ++ [y]) = (newB x l && !decide (y = x)) := by
  unfold newB
  by_cases h : x ∈ l <;> by_cases h2 : y = x <;> simp [h, h2]
  intro h3; exact absurd h3.symm h2
theorem newB_nil (x : BSet) : newB x [] = true := by simp [newB]
theorem newB_true {x : BSet} {l : List BSet} (h : newB x l = true) : x ∉ l := by simpa [newB] using h
theorem newB_false {x : BSet} {l : List BSet} (h : newB x l = false) : x ∈ l := by simpa [newB] using h
/-- the sets, in memory of their own -/
def SetsR (es : List Edg) (w : World) (e : Ending) (w' : World) : Prop :=
  ∃ A c, e = .returned (.slice A (setsL es).length c) ∧ Own w' (w.heap.size + 1) 31 4 setC (.slice A (setsL es).length c) (setsL es) ∧ Below w.heap.size w w'

set_option maxRecDepth 100000 in
set_option maxHeartbeats 4000000 in
theorem rsets_any (s : Int) (A : Option Addr) (n c : Nat) (B : Option Addr) (m d : Nat) (es : List Edg) (w : World) (hn : n = es.length) (hm : n ≤ 100000) (hs : SliceOf w w.heap.size 7 edgC A es) :
    Calls Try.prog 13 #[.agg (nfaC s A n c B m d)] w (SetsR es w) := by
  have Hn := Lib.hid hn
  clear hn
  have hsE := size_edgeE
  have hsS := size_setE
  obtain ⟨i0, hi0, hz0, hz1, hz2⟩ := info_parts info_set3
  have hb0 := Blk.new w 25 (nfaC s A n c B m d)
  have hBa := below_alloc (Below.refl w.heap.size w) (.cells (nfaC s A n c B m d) 25)
  have hba : w.heap.size + 1 ≤ (w.alloc (.cells (nfaC s A n c B m d) 25)).heap.size := by simp
  go_enter Try.func13, Try.ntmps13
  go_wp2
  go_loopw [4, 3] (fun i v wr => ∃ k : Nat, k ≤ n ∧ i = .int .i64 k ∧ Own wr (w.heap.size + 1) 31 4 setC v (setsL (es.take k)) ∧ w.heap.size + 1 ≤ wr.heap.size ∧ Blk wr w.heap.size 25 (nfaC s A n c B m d) ∧ Below w.heap.size w wr) (fun i _ _ => n - (intOf i).toNat)
  case atStart => exact ⟨0, by omega, rfl, Own.nil_ _ _ _ _ _, hba, hb0, hBa⟩
  case round =>
    clear hb0 hBa hba
    obtain ⟨k, hk, rfl, hown, hb1, hb, hB⟩ := hrel
    have c1 : wr.cell? ⟨w.heap.size, 1, none⟩ = some (.slice A n c) := hb.cellv rfl
    obtain ⟨A2, c2, rfl, hc2, hc3⟩ := hown.shape
    have hle := setsL_length (es.take k)
    rw [List.length_take] at hle
    obtain ⟨xs, hxs⟩ : ∃ xs, xs = setsL (es.take k) := ⟨_, rfl⟩
    rw [← hxs] at hle hc2 hown ⊢
    obtain ⟨q, hq⟩ : ∃ q, q = xs.length := ⟨_, rfl⟩
    rw [← hq] at hle hc2 hown ⊢
    have Hq := Lib.hid hq
    have hqk : q ≤ k := by omega
    clear hq hle
    by_cases hlt : k < n
    · have hkl : k < es.length := by have := Hn.out; omega
      have hkI : (k : Int) < n := by omega
      obtain ⟨b0, off, rfl, hbl, hrow⟩ := (hs.below hB).at_ (by omega)
      have hr := hrow k hkl
      have Hsn : Hid (setsL (es.take (k + 1)) = stepS xs es[k]) := Lib.hid (by rw [take_snoc' es k hkl, setsL_snoc, ← hxs])
      obtain ⟨e, he⟩ : ∃ e, e = es[k] := ⟨_, rfl⟩
      rw [← he] at hr Hsn
      have hkd := hr.kd
      have hr2 := hr.st
      clear hrow hxs he
      by_cases h2 : e.kd = 2
      · rw [h2] at hkd
        have H2 := Lib.hid h2
        clear h2
        go_wp2
        obtain ⟨wo, rfl⟩ : ∃ wo : World, wo = wr := ⟨_, rfl⟩
        go_loopw [6, 5] (fun i v wr => ∃ j : Nat, j ≤ q ∧ i = .int .i64 j ∧ v = .bool (newB e.st (xs.take j)) ∧ Below wo.heap.size wo wr) (fun i _ _ => q - (intOf i).toNat)
        case atStart => exact ⟨0, by omega, rfl, by rw [List.take_zero, newB_nil], Below.refl _ _⟩
        case round =>
          obtain ⟨j, hj, rfl, rfl, hC⟩ := hrel
          have hcw := (blk_then hb hC).cellv (i := 1) (v := .slice (some ⟨b0, off, none⟩) n c) rfl
          have hb2 : b0 < wr.heap.size := by have := hB.size; have := hC.size; omega
          have hr0 := hr
          replace hr2 := hr2.keep (hC.block b0 (by have := hB.size; omega))
          clear c1
          by_cases hjt : j < q
          · have hjx : j < xs.length := by rw [← Hq.out]; exact hjt
            have hjI : (j : Int) < q := by omega
            obtain ⟨g, cap, hv, hg1, hg2, _, _⟩ := hown.form (by rw [← Hq.out]; omega)
            injection hv with hA h1 h2
            subst hA
            clear h1 h2
            have Hsn2 := Lib.hid (newB_snoc e.st xs[j] (xs.take j))
            rw [← take_snoc' xs j hjx] at Hsn2
            cases hnb : newB e.st (xs.take j)
            all_goals
              have Hnb := Lib.hid hnb
              go_upto_region 9 with (fail)
            · have hxe := Lib.hid hnb
              refine wp_region_steps 14 [eqS (.bool false), eqS (.bool false), eqS undef, eqS undef, eqS undef, eqS undef, eqS undef, eqS undef, eqS undef, eqS undef, eqS undef, eqS undef, eqS undef, eqS (.bool false)] [27, 28, 29, 30, 31, 32, 33, 34, 35, 36, 37, 38, 39, 40] follows_mixed (by kernel_rfl) rfl ?_ ?_
              · refine Steps.cons (fun a' w' hG hB dep => gs_move (want_none rfl) _ rfl (hG.other 5 rfl)) ?_
                refine Steps.cons (fun a' w' hG hB dep => gs_move (want_none rfl) _ rfl (dep 0 rfl 27 rfl)) ?_
                refine Steps.cons (fun a' w' hG hB dep => gs_skip (want_no rfl rfl (dep 1 rfl 28 rfl)) rfl) ?_
                refine Steps.cons (fun a' w' hG hB dep => gs_skip (want_no rfl rfl (dep 1 rfl 28 rfl)) rfl) ?_
                refine Steps.cons (fun a' w' hG hB dep => gs_skip (want_no rfl rfl (dep 1 rfl 28 rfl)) rfl) ?_
                refine Steps.cons (fun a' w' hG hB dep => gs_skip (want_no rfl rfl (dep 1 rfl 28 rfl)) rfl) ?_
                refine Steps.cons (fun a' w' hG hB dep => gs_skip (want_no rfl rfl (dep 1 rfl 28 rfl)) rfl) ?_
                refine Steps.cons (fun a' w' hG hB dep => gs_skip (want_no rfl rfl (dep 1 rfl 28 rfl)) rfl) ?_
                refine Steps.cons (fun a' w' hG hB dep => gs_skip (want_no rfl rfl (dep 1 rfl 28 rfl)) rfl) ?_
                refine Steps.cons (fun a' w' hG hB dep => gs_skip (want_no rfl rfl (dep 1 rfl 28 rfl)) rfl) ?_
                refine Steps.cons (fun a' w' hG hB dep => gs_skip (want_no rfl rfl (dep 1 rfl 28 rfl)) rfl) ?_
                refine Steps.cons (fun a' w' hG hB dep => gs_skip (want_no rfl rfl (dep 1 rfl 28 rfl)) rfl) ?_
                refine Steps.cons (fun a' w' hG hB dep => gs_skip (want_no rfl rfl (dep 1 rfl 28 rfl)) rfl) ?_
                refine Steps.cons (fun a' w' hG hB dep => gs_pick (want_none rfl) _ _ _ rfl false (dep 1 rfl 28 rfl) rfl) ?_
                exact Steps.nil
              intro u w3 hB3 ans
              have ux : u 40 = .bool false := ans 13 40 (by decide) rfl
              clear ans
              simp only [putAll, List.foldl_cons, List.foldl_nil, Act.put, List.setIfInBounds_toArray, List.set_cons_zero, List.set_cons_succ, ux]
              clear ux
              go_wp2
              go_roundw
              case rel => exact ⟨j + 1, by omega, by go_num, by rw [Hsn2.out, Hnb.out]; rfl, below_then hC hB3⟩
              case measure => simp [intOf]; omega
            · by_cases hx : xs[j] = e.st
              · have hxe := Lib.hid hx
                clear hx
                refine wp_region_steps 14 [eqS (.bool true), eqS (.bool true), eqS (.slice (some ⟨g, 0, none⟩) q c2), eqS (.int .i64 ((j : Int))), eqS (.pointer (some ⟨g, 0 + j * 4, none⟩)), eqS (.agg (setC xs[j])), eqS (.pointer (some ⟨w.heap.size, 0 + 1, none⟩)), eqS (.slice (some ⟨b0, off, none⟩) n c), eqS (.int .i64 ((k : Int))), eqS (.pointer (some ⟨b0, off + k * 7, none⟩)), eqS (.pointer (some ⟨b0, off + k * 7 + 3, none⟩)), eqS (.agg (setC e.st)), eqS (.bool false), eqS (.bool false)] [27, 28, 29, 30, 31, 32, 33, 34, 35, 36, 37, 38, 39, 40] follows_mixed (by kernel_rfl) rfl ?_ ?_
                · refine Steps.cons (fun a' w' hG hB dep => gs_move (want_none rfl) _ rfl (hG.other 5 rfl)) ?_
                  refine Steps.cons (fun a' w' hG hB dep => gs_move (want_none rfl) _ rfl (dep 0 rfl 27 rfl)) ?_
                  refine Steps.cons (fun a' w' hG hB dep => gs_move (want_yes rfl rfl (dep 1 rfl 28 rfl)) _ rfl (hG.other 3 rfl)) ?_
                  refine Steps.cons (fun a' w' hG hB dep => gs_move (want_yes rfl rfl (dep 1 rfl 28 rfl)) _ rfl (hG.other 6 rfl)) ?_
                  refine Steps.cons (fun a' w' hG hB dep => gs_index (want_yes rfl rfl (dep 1 rfl 28 rfl)) _ _ _ rfl under_sets _ size_setE _ _ _ _ _ (dep 2 rfl 29 rfl) (dep 3 rfl 30 rfl) hjt rfl) ?_
                  refine Steps.cons (fun a' w' hG hB dep => gs_load_set_at (want_yes rfl rfl (dep 1 rfl 28 rfl)) _ rfl _ _ (dep 4 rfl 31 rfl) _ (by rw [Nat.zero_add]; exact ((hown.then_ hC).then_ hB).row setC_size j hjx) rfl) ?_
                  refine Steps.cons (fun a' w' hG hB dep => gs_field (want_yes rfl rfl (dep 1 rfl 28 rfl)) _ _ _ rfl _ _ _ (hG.other 1 rfl) (field_nfa_1 _ _) rfl) ?_
                  refine Steps.cons (fun a' w' hG hB dep => gs_load1 (want_yes rfl rfl (dep 1 rfl 28 rfl)) _ _ rfl _ _ (dep 6 rfl 33 rfl) _ ((blk_then (blk_then hb hC) hB).cellv rfl) _ Try.underlying22 rfl rfl) ?_
                  refine Steps.cons (fun a' w' hG hB dep => gs_move (want_yes rfl rfl (dep 1 rfl 28 rfl)) _ rfl (hG.other 4 rfl)) ?_
                  refine Steps.cons (fun a' w' hG hB dep => gs_index (want_yes rfl rfl (dep 1 rfl 28 rfl)) _ _ _ rfl under_edges _ size_edgeE _ _ _ _ _ (dep 7 rfl 34 rfl) (dep 8 rfl 35 rfl) hlt rfl) ?_
                  refine Steps.cons (fun a' w' hG hB dep => gs_field (want_yes rfl rfl (dep 1 rfl 28 rfl)) _ _ _ rfl _ _ _ (dep 9 rfl 36 rfl) (field_edge_3 _ _) rfl) ?_
                  refine Steps.cons (fun a' w' hG hB dep => gs_load_set_at (want_yes rfl rfl (dep 1 rfl 28 rfl)) _ rfl _ _ (dep 10 rfl 37 rfl) _ (hr2.keep (hB.block b0 hb2)) rfl) ?_
                  refine Steps.cons (fun a' w' hG hB dep => gs_neq_set (want_yes rfl rfl (dep 1 rfl 28 rfl)) _ _ _ rfl _ _ (dep 5 rfl 32 rfl) (dep 11 rfl 38 rfl) (eqF hxe.out)) ?_
                  refine Steps.cons (fun a' w' hG hB dep => gs_pick (want_none rfl) _ _ _ rfl true (dep 1 rfl 28 rfl) (dep 12 rfl 39 rfl)) ?_
                  exact Steps.nil
                intro u w3 hB3 ans
                have ux : u 40 = .bool false := ans 13 40 (by decide) rfl
                clear ans
                simp only [putAll, List.foldl_cons, List.foldl_nil, Act.put, List.setIfInBounds_toArray, List.set_cons_zero, List.set_cons_succ, ux]
                clear ux
                go_wp2
                go_roundw
                case rel => exact ⟨j + 1, by omega, by go_num, by rw [Hsn2.out, Hnb.out]; rw [decide_eq_true hxe.out]; rfl, below_then hC hB3⟩
                case measure => simp [intOf]; omega
              · have hxe := Lib.hid hx
                clear hx
                refine wp_region_steps 14 [eqS (.bool true), eqS (.bool true), eqS (.slice (some ⟨g, 0, none⟩) q c2), eqS (.int .i64 ((j : Int))), eqS (.pointer (some ⟨g, 0 + j * 4, none⟩)), eqS (.agg (setC xs[j])), eqS (.pointer (some ⟨w.heap.size, 0 + 1, none⟩)), eqS (.slice (some ⟨b0, off, none⟩) n c), eqS (.int .i64 ((k : Int))), eqS (.pointer (some ⟨b0, off + k * 7, none⟩)), eqS (.pointer (some ⟨b0, off + k * 7 + 3, none⟩)), eqS (.agg (setC e.st)), eqS (.bool true), eqS (.bool true)] [27, 28, 29, 30, 31, 32, 33, 34, 35, 36, 37, 38, 39, 40] follows_mixed (by kernel_rfl) rfl ?_ ?_
                · refine Steps.cons (fun a' w' hG hB dep => gs_move (want_none rfl) _ rfl (hG.other 5 rfl)) ?_
                  refine Steps.cons (fun a' w' hG hB dep => gs_move (want_none rfl) _ rfl (dep 0 rfl 27 rfl)) ?_
                  refine Steps.cons (fun a' w' hG hB dep => gs_move (want_yes rfl rfl (dep 1 rfl 28 rfl)) _ rfl (hG.other 3 rfl)) ?_
                  refine Steps.cons (fun a' w' hG hB dep => gs_move (want_yes rfl rfl (dep 1 rfl 28 rfl)) _ rfl (hG.other 6 rfl)) ?_
                  refine Steps.cons (fun a' w' hG hB dep => gs_index (want_yes rfl rfl (dep 1 rfl 28 rfl)) _ _ _ rfl under_sets _ size_setE _ _ _ _ _ (dep 2 rfl 29 rfl) (dep 3 rfl 30 rfl) hjt rfl) ?_
                  refine Steps.cons (fun a' w' hG hB dep => gs_load_set_at (want_yes rfl rfl (dep 1 rfl 28 rfl)) _ rfl _ _ (dep 4 rfl 31 rfl) _ (by rw [Nat.zero_add]; exact ((hown.then_ hC).then_ hB).row setC_size j hjx) rfl) ?_
                  refine Steps.cons (fun a' w' hG hB dep => gs_field (want_yes rfl rfl (dep 1 rfl 28 rfl)) _ _ _ rfl _ _ _ (hG.other 1 rfl) (field_nfa_1 _ _) rfl) ?_
                  refine Steps.cons (fun a' w' hG hB dep => gs_load1 (want_yes rfl rfl (dep 1 rfl 28 rfl)) _ _ rfl _ _ (dep 6 rfl 33 rfl) _ ((blk_then (blk_then hb hC) hB).cellv rfl) _ Try.underlying22 rfl rfl) ?_
                  refine Steps.cons (fun a' w' hG hB dep => gs_move (want_yes rfl rfl (dep 1 rfl 28 rfl)) _ rfl (hG.other 4 rfl)) ?_
                  refine Steps.cons (fun a' w' hG hB dep => gs_index (want_yes rfl rfl (dep 1 rfl 28 rfl)) _ _ _ rfl under_edges _ size_edgeE _ _ _ _ _ (dep 7 rfl 34 rfl) (dep 8 rfl 35 rfl) hlt rfl) ?_
                  refine Steps.cons (fun a' w' hG hB dep => gs_field (want_yes rfl rfl (dep 1 rfl 28 rfl)) _ _ _ rfl _ _ _ (dep 9 rfl 36 rfl) (field_edge_3 _ _) rfl) ?_
                  refine Steps.cons (fun a' w' hG hB dep => gs_load_set_at (want_yes rfl rfl (dep 1 rfl 28 rfl)) _ rfl _ _ (dep 10 rfl 37 rfl) _ (hr2.keep (hB.block b0 hb2)) rfl) ?_
                  refine Steps.cons (fun a' w' hG hB dep => gs_neq_set (want_yes rfl rfl (dep 1 rfl 28 rfl)) _ _ _ rfl _ _ (dep 5 rfl 32 rfl) (dep 11 rfl 38 rfl) (neT hxe.out)) ?_
                  refine Steps.cons (fun a' w' hG hB dep => gs_pick (want_none rfl) _ _ _ rfl true (dep 1 rfl 28 rfl) (dep 12 rfl 39 rfl)) ?_
                  exact Steps.nil
                intro u w3 hB3 ans
                have ux : u 40 = .bool true := ans 13 40 (by decide) rfl
                clear ans
                simp only [putAll, List.foldl_cons, List.foldl_nil, Act.put, List.setIfInBounds_toArray, List.set_cons_zero, List.set_cons_succ, ux]
                clear ux
                go_wp2
                go_roundw
                case rel => exact ⟨j + 1, by omega, by go_num, by rw [Hsn2.out, Hnb.out]; rw [decide_eq_false hxe.out]; rfl, below_then hC hB3⟩
                case measure => simp [intOf]; omega

          · have hqI : ¬ (j : Int) < q := by omega
            have hxt : xs.take j = xs := List.take_of_length_le (by rw [← Hq.out]; omega)
            rw [hxt]
            replace hown := hown.then_ hC
            replace hb := blk_then hb hC
            replace hB := below_then hB hC
            replace hb1 := Nat.le_trans hb1 hC.size
            clear hxt hC
            cases hnb : newB e.st xs
            · have hst := Lib.hid (stepS_old (l := xs) (e := e) (newB_false hnb))
              clear hnb
              go_wp2
              go_roundw
              case rel => exact ⟨k + 1, by omega, by go_num, by rw [Hsn.out, hst.out]; exact hown, hb1, hb, hB⟩
              case measure => simp [intOf]; omega
            · have hst := Lib.hid (stepS_yes (l := xs) (e := e) H2.out (newB_true hnb))
              clear hnb
              have hown1 := hown.alloc (.cells (setC e.st) 31)
              have hone := slice_one (enc := setC) (size := 4) (Blk.new wr 31 (setC e.st))
              have hownlt : ∀ j, (Value.slice A2 q c2).ownBlock = some j → w.heap.size + 1 ≤ j := fun j e => (hown.lt j e).1
              go_wp2_with (first | (refine wl_load_set_at rfl _ rfl _ _ rfl _ hr2 ?_) | (refine wl_build1 rfl _ rfl _ rfl ?_) | (at_builtin; refine wl_append _ rfl _ _ 27 rfl (w.heap.size + 1) 31 i0 _ 4 32 Try.underlying27 hi0 hz0 hz1 hz2 rfl (by decide) setC_size setC_one _ xs rfl hown1 _ _ 1 1 [e.st] rfl rfl hone (by rw [← Hq.out]; unfold maxLen; omega) (by rw [← Hq.out]; omega) (by simp; omega) ?_; intro v2 w7 hown2 hg2 hat2))
              go_roundw
              case rel => exact ⟨k + 1, by omega, by go_num, by rw [Hsn.out, hst.out]; exact hown2, by have := hg2.size; simp at this; omega, (hb.alloc _).grown hg2 (fun e => by have := hownlt _ e.symm; omega), below_own (below_alloc hB _) hg2 (fun j e => by have := hownlt j e; omega)⟩
              case measure => simp [intOf]; omega
      · have hst := Lib.hid (stepS_kind (l := xs) h2)
        obtain ⟨z, hz⟩ : ∃ z, z = e.kd := ⟨_, rfl⟩
        rw [← hz] at hkd h2
        have hz2 : (z == 2) = false := by simpa using h2
        clear hz h2
        go_wp2
        obtain ⟨wo, rfl⟩ : ∃ wo : World, wo = wr := ⟨_, rfl⟩
        go_loopw [6, 5] (fun i v wr => ∃ j : Nat, j ≤ q ∧ i = .int .i64 j ∧ v = .bool false ∧ Below wo.heap.size wo wr) (fun i _ _ => q - (intOf i).toNat)
        case atStart => exact ⟨0, by omega, rfl, rfl, Below.refl _ _⟩
        case round =>
          obtain ⟨j, hj, rfl, rfl, hC⟩ := hrel
          have hcw := (blk_then hb hC).cellv (i := 1) (v := .slice (some ⟨b0, off, none⟩) n c) rfl
          clear c1
          by_cases hjt : j < q
          · have hjI : (j : Int) < q := by omega
            go_upto_region 9 with (fail)
            refine wp_region_steps 14 [eqS (.bool false), eqS (.bool false), eqS undef, eqS undef, eqS undef, eqS undef, eqS undef, eqS undef, eqS undef, eqS undef, eqS undef, eqS undef, eqS undef, eqS (.bool false)] [27, 28, 29, 30, 31, 32, 33, 34, 35, 36, 37, 38, 39, 40] follows_mixed (by kernel_rfl) rfl ?_ ?_
            · refine Steps.cons (fun a' w' hG hB dep => gs_move (want_none rfl) _ rfl (hG.other 5 rfl)) ?_
              refine Steps.cons (fun a' w' hG hB dep => gs_move (want_none rfl) _ rfl (dep 0 rfl 27 rfl)) ?_
              refine Steps.cons (fun a' w' hG hB dep => gs_skip (want_no rfl rfl (dep 1 rfl 28 rfl)) rfl) ?_
              refine Steps.cons (fun a' w' hG hB dep => gs_skip (want_no rfl rfl (dep 1 rfl 28 rfl)) rfl) ?_
              refine Steps.cons (fun a' w' hG hB dep => gs_skip (want_no rfl rfl (dep 1 rfl 28 rfl)) rfl) ?_
              refine Steps.cons (fun a' w' hG hB dep => gs_skip (want_no rfl rfl (dep 1 rfl 28 rfl)) rfl) ?_
              refine Steps.cons (fun a' w' hG hB dep => gs_skip (want_no rfl rfl (dep 1 rfl 28 rfl)) rfl) ?_
              refine Steps.cons (fun a' w' hG hB dep => gs_skip (want_no rfl rfl (dep 1 rfl 28 rfl)) rfl) ?_
              refine Steps.cons (fun a' w' hG hB dep => gs_skip (want_no rfl rfl (dep 1 rfl 28 rfl)) rfl) ?_
              refine Steps.cons (fun a' w' hG hB dep => gs_skip (want_no rfl rfl (dep 1 rfl 28 rfl)) rfl) ?_
              refine Steps.cons (fun a' w' hG hB dep => gs_skip (want_no rfl rfl (dep 1 rfl 28 rfl)) rfl) ?_
              refine Steps.cons (fun a' w' hG hB dep => gs_skip (want_no rfl rfl (dep 1 rfl 28 rfl)) rfl) ?_
              refine Steps.cons (fun a' w' hG hB dep => gs_skip (want_no rfl rfl (dep 1 rfl 28 rfl)) rfl) ?_
              refine Steps.cons (fun a' w' hG hB dep => gs_pick (want_none rfl) _ _ _ rfl false (dep 1 rfl 28 rfl) rfl) ?_
              exact Steps.nil
            intro u w3 hB3 ans
            have ux : u 40 = .bool false := ans 13 40 (by decide) rfl
            clear ans
            simp only [putAll, List.foldl_cons, List.foldl_nil, Act.put, List.setIfInBounds_toArray, List.set_cons_zero, List.set_cons_succ, ux]
            clear ux

            go_wp2
            go_roundw
            case rel => exact ⟨j + 1, by omega, by go_num, rfl, below_then hC hB3⟩
            case measure => simp [intOf]; omega
          · have hqI : ¬ (j : Int) < q := by omega
            go_wp2
            go_roundw
            case rel => exact ⟨k + 1, by omega, by go_num, by rw [Hsn.out, hst.out]; exact hown.then_ hC, Nat.le_trans hb1 hC.size, blk_then hb hC, below_then hB hC⟩
            case measure => simp [intOf]; omega
    · have hkI : ¬ (k : Int) < n := by omega
      have hkn : es.take k = es := List.take_of_length_le (by have := Hn.out; omega)
      rw [hkn] at hxs
      have Hxs := Lib.hid hxs
      clear hkn hxs
      go_wp2
      go_ret
      exact ⟨A2, c2, by rw [← Hxs.out, ← Hq.out]; rfl, by rw [← Hxs.out, ← Hq.out]; exact hown, hB⟩

set_option maxRecDepth 100000 in
set_option maxHeartbeats 4000000 in
theorem psets_any (s : Int) (A : Option Addr) (n c : Nat) (B : Option Addr) (m d : Nat) (es : List Edg) (w : World) (hn : n = es.length) (hm : n ≤ 100000) (hs : SliceOf w w.heap.size 7 edgC A es) :
    Calls Try.prog 14 #[.agg (nfaC s A n c B m d)] w (SetsR es w) := by
  have Hn := Lib.hid hn
  clear hn
  have hzE := zero_edge
  have hmm := @run_makeMap Try.prog
  obtain ⟨i0, hi0, hz0, hz1, hz2⟩ := info_parts info_set3
  have hb0 := (Blk.new w 25 (nfaC s A n c B m d)).alloc (.map #[] 0)
  have hc0 : (w.alloc (.cells (nfaC s A n c B m d) 25)).cell? ⟨w.heap.size, 1, none⟩ = some (.slice A n c) := (Blk.new w 25 (nfaC s A n c B m d)).cellv rfl
  have hc1 := hb0.cellv (i := 1) (v := .slice A n c) rfl
  have hBa := below_alloc (below_alloc (Below.refl w.heap.size w) (.cells (nfaC s A n c B m d) 25)) (.map #[] 0)
  have hba : w.heap.size + 1 + 1 ≤ ((w.alloc (.cells (nfaC s A n c B m d) 25)).alloc (.map #[] 0)).heap.size := by simp
  have hM := IntMap.new (P := Try.prog) (e := 3) keySet (w.alloc (.cells (nfaC s A n c B m d) 25)) (g := w.heap.size + 1) (by simp)
  rw [show (fun _ : BSet => (none : Option Int)) = mapS [] from mapS_nil.symm] at hM
  have HM := Lib.hid hM
  have Hba := Lib.hid hba
  have HBa := Lib.hid hBa
  have hn1 : (nfaC s A n c B m d)[1]? = some (.slice A n c) := rfl
  clear hM hba hBa hb0
  go_enter Try.func14, Try.ntmps14
  go_wp2
  go_loopw [11, 3] (fun i v wr => ∃ k : Nat, k ≤ n ∧ i = .int .i64 k ∧ Own wr (w.heap.size + 1 + 1) 31 4 setC v (setsL (es.take k)) ∧ w.heap.size + 1 + 1 ≤ wr.heap.size ∧ SMap wr (w.heap.size + 1) k (setsL (es.take k)) ∧ Below w.heap.size w wr) (fun i _ _ => n - (intOf i).toNat)
  case atStart => exact ⟨0, by omega, rfl, Own.nil_ _ _ _ _ _, Hba.out, HM.out, HBa.out⟩
  case round =>
    clear HBa Hba HM hc0 hc1 hn1
    obtain ⟨k, hk, rfl, hown, hb1, hM, hB⟩ := hrel
    obtain ⟨A2, c2, rfl, hc2, hc3⟩ := hown.shape
    have hle := setsL_length (es.take k)
    rw [List.length_take] at hle
    obtain ⟨xs, hxs⟩ : ∃ xs, xs = setsL (es.take k) := ⟨_, rfl⟩
    rw [← hxs] at hle hc2 hown hM ⊢
    obtain ⟨q, hq⟩ : ∃ q, q = xs.length := ⟨_, rfl⟩
    rw [← hq] at hle hc2 hown ⊢
    have Hq := Lib.hid hq
    have hqk : q ≤ k := by omega
    clear hq hle
    by_cases hlt : k < n
    · have hkl : k < es.length := by have := Hn.out; omega
      have hkI : (k : Int) < n := by omega
      obtain ⟨b0, off, rfl, hbl, hrow⟩ := (hs.below hB).at_ (by omega)
      have hr := hrow k hkl
      have Hsn : Hid (setsL (es.take (k + 1)) = stepS xs es[k]) := Lib.hid (by rw [take_snoc' es k hkl, setsL_snoc, ← hxs])
      obtain ⟨e, he⟩ : ∃ e, e = es[k] := ⟨_, rfl⟩
      rw [← he] at hr Hsn
      clear hrow hxs he
      go_upto_region 6 with (first | (refine wl_load_edge_at rfl _ rfl _ _ rfl _ hr ?_) | (refine wl_store_edge rfl _ _ rfl _ _ rfl rfl edge0 (Blk.new _ _ _) ?_; intro w1 hbe hg5))
      have hK := below_grown (below_alloc (Below.refl wr.heap.size wr) (.cells (edgC edge0) 33)) hg5 (Nat.le_refl _)
      replace hown := hown.then_ hK
      replace hM := hM.then_ hK
      replace hB := below_then hB hK
      obtain ⟨ge, hge⟩ : ∃ g, g = wr.heap.size := ⟨_, rfl⟩
      rw [← hge] at hbe ⊢
      have hge2 : w.heap.size + 1 + 1 ≤ ge := by omega
      replace hb1 : w.heap.size + 1 + 1 ≤ w1.heap.size := Nat.le_trans hb1 hK.size
      have hkd := edgC_0 e
      clear hg5 hK hge hr
      by_cases h2 : e.kd = 2
      · rw [h2] at hkd
        have H2 := Lib.hid h2
        clear h2
        by_cases hx : e.st ∈ xs
        · replace hx := Lib.hid hx
          have hst := Lib.hid (stepS_old (l := xs) (e := e) hx.out)
          refine wp_region_text 10 [eqS (.pointer (some ⟨ge, 0, none⟩)), eqS (.int .i64 (2)), eqS (.bool true), eqS (.bool true), eqS (.map (some (w.heap.size + 1))), eqS (.pointer (some ⟨ge, 0 + 3, none⟩)), eqS (.agg (setC e.st)), eqS (.int .i64 (1)), eqS (.bool false), eqS (.bool false)] [15, 16, 17, 18, 19, 20, 21, 22, 23, 24] (by kernel_rfl) rfl ?_ ?_
          · refine Steps.cons (fun a' w' hG hB dep => gs_field (want_none rfl) _ _ _ rfl _ _ _ (hG.other 6 rfl) (field_edge_0 _ _) rfl) ?_
            refine Steps.cons (fun a' w' hG hB dep => gs_load1 (want_none rfl) _ _ rfl _ _ (dep 0 rfl 15 rfl) _ ((blk_then hbe hB).cellv hkd) _ Try.underlying3 rfl rfl) ?_
            refine Steps.cons (fun a' w' hG hB dep => gs_eql_int (want_none rfl) _ _ _ _ rfl _ _ _ (dep 1 rfl 16 rfl) rfl (eqTI rfl)) ?_
            refine Steps.cons (fun a' w' hG hB dep => gs_move (want_none rfl) _ rfl (dep 2 rfl 17 rfl)) ?_
            refine Steps.cons (fun a' w' hG hB dep => gs_move (want_yes rfl rfl (dep 3 rfl 18 rfl)) _ rfl (hG.other 4 rfl)) ?_
            refine Steps.cons (fun a' w' hG hB dep => gs_field (want_yes rfl rfl (dep 3 rfl 18 rfl)) _ _ _ rfl _ _ _ (hG.other 6 rfl) (field_edge_3 _ _) rfl) ?_
            refine Steps.cons (fun a' w' hG hB dep => gs_load_set_at (want_yes rfl rfl (dep 3 rfl 18 rfl)) _ rfl _ _ (dep 5 rfl 20 rfl) _ (by rw [Nat.zero_add]; exact (blk_then hbe hB).st) rfl) ?_
            refine Steps.cons (fun a' w' hG hB dep => gs_lookup_set (want_yes rfl rfl (dep 3 rfl 18 rfl)) _ _ rfl _ _ _ (hM.then_ hB) (dep 4 rfl 19 rfl) _ (dep 6 rfl 21 rfl) _ (mapS_old hx.out) rfl) ?_
            refine Steps.cons (fun a' w' hG hB dep => gs_eql_int (want_yes rfl rfl (dep 3 rfl 18 rfl)) _ _ _ _ rfl _ _ _ (dep 7 rfl 22 rfl) rfl (eqNI (by decide))) ?_
            refine Steps.cons (fun a' w' hG hB dep => gs_pick (want_none rfl) _ _ _ rfl true (dep 3 rfl 18 rfl) (dep 8 rfl 23 rfl)) ?_
            exact Steps.nil
          intro u w3 hB3 ans
          have ux : u 24 = .bool false := ans 9 24 (by decide) rfl
          clear ans
          refine wpList_nil ?_
          simp only [putAll, List.foldl_cons, List.foldl_nil, Act.put, List.setIfInBounds_toArray, List.set_cons_zero, List.set_cons_succ, ux]
          clear ux

          go_wp2
          go_roundw
          case rel => exact ⟨k + 1, by omega, by go_num, by rw [Hsn.out, hst.out]; exact hown.then_ hB3, Nat.le_trans hb1 hB3.size, by rw [Hsn.out, hst.out]; exact IntMap.more (hM.then_ hB3) (Nat.le_succ k), below_then hB hB3⟩
          case measure => simp [intOf]; omega
        · replace hx := Lib.hid hx
          have hst := Lib.hid (stepS_yes (l := xs) (e := e) H2.out hx.out)
          refine wp_region_text 10 [eqS (.pointer (some ⟨ge, 0, none⟩)), eqS (.int .i64 (2)), eqS (.bool true), eqS (.bool true), eqS (.map (some (w.heap.size + 1))), eqS (.pointer (some ⟨ge, 0 + 3, none⟩)), eqS (.agg (setC e.st)), eqS (.int .i64 (0)), eqS (.bool true), eqS (.bool true)] [15, 16, 17, 18, 19, 20, 21, 22, 23, 24] (by kernel_rfl) rfl ?_ ?_
          · refine Steps.cons (fun a' w' hG hB dep => gs_field (want_none rfl) _ _ _ rfl _ _ _ (hG.other 6 rfl) (field_edge_0 _ _) rfl) ?_
            refine Steps.cons (fun a' w' hG hB dep => gs_load1 (want_none rfl) _ _ rfl _ _ (dep 0 rfl 15 rfl) _ ((blk_then hbe hB).cellv hkd) _ Try.underlying3 rfl rfl) ?_
            refine Steps.cons (fun a' w' hG hB dep => gs_eql_int (want_none rfl) _ _ _ _ rfl _ _ _ (dep 1 rfl 16 rfl) rfl (eqTI rfl)) ?_
            refine Steps.cons (fun a' w' hG hB dep => gs_move (want_none rfl) _ rfl (dep 2 rfl 17 rfl)) ?_
            refine Steps.cons (fun a' w' hG hB dep => gs_move (want_yes rfl rfl (dep 3 rfl 18 rfl)) _ rfl (hG.other 4 rfl)) ?_
            refine Steps.cons (fun a' w' hG hB dep => gs_field (want_yes rfl rfl (dep 3 rfl 18 rfl)) _ _ _ rfl _ _ _ (hG.other 6 rfl) (field_edge_3 _ _) rfl) ?_
            refine Steps.cons (fun a' w' hG hB dep => gs_load_set_at (want_yes rfl rfl (dep 3 rfl 18 rfl)) _ rfl _ _ (dep 5 rfl 20 rfl) _ (by rw [Nat.zero_add]; exact (blk_then hbe hB).st) rfl) ?_
            refine Steps.cons (fun a' w' hG hB dep => gs_lookup_set (want_yes rfl rfl (dep 3 rfl 18 rfl)) _ _ rfl _ _ _ (hM.then_ hB) (dep 4 rfl 19 rfl) _ (dep 6 rfl 21 rfl) _ (mapS_new hx.out) rfl) ?_
            refine Steps.cons (fun a' w' hG hB dep => gs_eql_int (want_yes rfl rfl (dep 3 rfl 18 rfl)) _ _ _ _ rfl _ _ _ (dep 7 rfl 22 rfl) rfl (eqTI rfl)) ?_
            refine Steps.cons (fun a' w' hG hB dep => gs_pick (want_none rfl) _ _ _ rfl true (dep 3 rfl 18 rfl) (dep 8 rfl 23 rfl)) ?_
            exact Steps.nil
          intro u w3 hB3 ans
          have ux : u 24 = .bool true := ans 9 24 (by decide) rfl
          clear ans
          refine wpList_nil ?_
          simp only [putAll, List.foldl_cons, List.foldl_nil, Act.put, List.setIfInBounds_toArray, List.set_cons_zero, List.set_cons_succ, ux]
          clear ux

          have hb1' : w.heap.size + 1 + 1 ≤ w3.heap.size := Nat.le_trans hb1 hB3.size
          replace hown := hown.then_ hB3
          replace hM := hM.then_ hB3
          replace hB := below_then hB hB3
          have hre := (blk_then hbe hB3).st
          have hgl := (blk_then hbe hB3).lt
          have hnone := mapS_none hx.out
          have hownlt : ∀ j, (Value.slice A2 q c2).ownBlock = some j → w.heap.size + 1 + 1 ≤ j := fun j e => (hown.lt j e).1
          clear hB3 hb1 hbe
          go_wp2_with (first
            | (refine wl_load_set_at rfl _ rfl _ _ rfl _ hre ?_)
            | (at_mapUpdate; refine wl_map_put keySet Try.underlying73 Try.underlying3 hM (by unfold maxLen; omega) rfl _ _ _ rfl rfl e.st trivial rfl 1 rfl (by decide) ?_; intro w4 hM4 hg4; replace hre := hre.keep (hg4.block ge hgl (fun e => by injection e; omega)); have hone := slice_one (enc := setC) (size := 4) (Blk.new w4 31 (setC e.st)); have hown1 := (hown.grown hg4 (fun e => by have := hownlt _ e; omega)).alloc (.cells (setC e.st) 31); have hb4 : w.heap.size + 1 + 1 ≤ w4.heap.size := Nat.le_trans hb1' hg4.size)
            | (refine wl_build1 rfl _ rfl _ rfl ?_)
            | (at_builtin; refine wl_append _ rfl _ _ 27 rfl (w.heap.size + 1 + 1) 31 i0 _ 4 32 Try.underlying27 hi0 hz0 hz1 hz2 rfl (by decide) setC_size setC_one _ xs rfl hown1 _ _ 1 1 [e.st] rfl rfl hone (by rw [← Hq.out]; unfold maxLen; omega) (by rw [← Hq.out]; omega) (by simp; omega) ?_; intro v2 w7 hown2 hg2 hat2))
          rw [hnone, mapS_put] at hM4
          have hM5 : SMap w4 (w.heap.size + 1) (k + 1) (xs ++ [e.st]) := by
            have e1 : (xs ++ [e.st]).length = xs.length + 1 := by simp
            have := hM4
            rw [if_neg (by simp), ← e1] at this
            exact this
          go_roundw
          case rel => exact ⟨k + 1, by omega, by go_num, by rw [Hsn.out, hst.out]; exact hown2, by have := hg2.size; simp at this; omega, by rw [Hsn.out, hst.out]; exact (hM5.alloc _).grown' hg2 (fun e => by have := hownlt _ e.symm; omega), below_own (below_alloc (below_grown hB hg4 (by omega)) _) hg2 (fun j e => by have := hownlt j e; omega)⟩
          case measure => simp [intOf]; omega
      · obtain ⟨z, hz⟩ : ∃ z, z = e.kd := ⟨_, rfl⟩
        have hst := Lib.hid (stepS_kind (l := xs) h2)
        rw [← hz] at hkd h2
        clear hz
        refine wp_region_text 10 [eqS (.pointer (some ⟨ge, 0, none⟩)), eqS (.int .i64 (z)), eqS (.bool false), eqS (.bool false), eqS undef, eqS undef, eqS undef, eqS undef, eqS undef, eqS (.bool false)] [15, 16, 17, 18, 19, 20, 21, 22, 23, 24] (by kernel_rfl) rfl ?_ ?_
        · refine Steps.cons (fun a' w' hG hB dep => gs_field (want_none rfl) _ _ _ rfl _ _ _ (hG.other 6 rfl) (field_edge_0 _ _) rfl) ?_
          refine Steps.cons (fun a' w' hG hB dep => gs_load1 (want_none rfl) _ _ rfl _ _ (dep 0 rfl 15 rfl) _ ((blk_then hbe hB).cellv hkd) _ Try.underlying3 rfl rfl) ?_
          refine Steps.cons (fun a' w' hG hB dep => gs_eql_int (want_none rfl) _ _ _ _ rfl _ _ _ (dep 1 rfl 16 rfl) rfl (eqNI h2)) ?_
          refine Steps.cons (fun a' w' hG hB dep => gs_move (want_none rfl) _ rfl (dep 2 rfl 17 rfl)) ?_
          refine Steps.cons (fun a' w' hG hB dep => gs_skip (want_no rfl rfl (dep 3 rfl 18 rfl)) rfl) ?_
          refine Steps.cons (fun a' w' hG hB dep => gs_skip (want_no rfl rfl (dep 3 rfl 18 rfl)) rfl) ?_
          refine Steps.cons (fun a' w' hG hB dep => gs_skip (want_no rfl rfl (dep 3 rfl 18 rfl)) rfl) ?_
          refine Steps.cons (fun a' w' hG hB dep => gs_skip (want_no rfl rfl (dep 3 rfl 18 rfl)) rfl) ?_
          refine Steps.cons (fun a' w' hG hB dep => gs_skip (want_no rfl rfl (dep 3 rfl 18 rfl)) rfl) ?_
          refine Steps.cons (fun a' w' hG hB dep => gs_pick (want_none rfl) _ _ _ rfl false (dep 3 rfl 18 rfl) rfl) ?_
          exact Steps.nil
        intro u w3 hB3 ans
        have ux : u 24 = .bool false := ans 9 24 (by decide) rfl
        clear ans
        refine wpList_nil ?_
        simp only [putAll, List.foldl_cons, List.foldl_nil, Act.put, List.setIfInBounds_toArray, List.set_cons_zero, List.set_cons_succ, ux]
        clear ux

        go_wp2
        go_roundw
        case rel => exact ⟨k + 1, by omega, by go_num, by rw [Hsn.out, hst.out]; exact hown.then_ hB3, Nat.le_trans hb1 hB3.size, by rw [Hsn.out, hst.out]; exact IntMap.more (hM.then_ hB3) (Nat.le_succ k), below_then hB hB3⟩
        case measure => simp [intOf]; omega
    · have hkI : ¬ (k : Int) < n := by omega
      have hkn : es.take k = es := List.take_of_length_le (by have := Hn.out; omega)
      rw [hkn] at hxs
      have Hxs := Lib.hid hxs
      clear hkn hxs
      go_wp2
      go_ret
      exact ⟨A2, c2, by rw [← Hxs.out, ← Hq.out]; rfl, by rw [← Hxs.out, ← Hq.out]; exact hown.mono (by omega), hB⟩

end Go.Proofs.Ytjpiebapemalfaa
