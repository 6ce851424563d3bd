/- The iterator over a set's rows: its contract. -/
import Derived.Test.YtjpiebapemalfaaRound2
import Derived.Test.YtjpiebapemalfaaSpanRows
import Derived.Test.YtjpiebapemalfaaGs8
import Derived.Test.YtjpiebapemalfaaGs2
import Derived.Shelf.Abstract
import Derived.Shelf.RegionOpen
import Derived.WalkKit
import Derived.OwnWalkIn
import Derived.TacticsInMore
import Derived.LoopNIn
import Derived.LoopIn
import Derived.Sort.CutIn
namespace Go.Proofs.Ytjpiebapemalfaa
open Go.RowKit Go.Shelf
set_option linter.unusedVariables false
set_option linter.unusedSimpArgs false
attribute [local go_sem] Oper.semAt_some

/-- a row of a set -/
abbrev Row := { p : Nat × Nat // p.1 ≤ p.2 ∧ p.2 < 256 }
def encR (r : Row) : Array Value := #[.int .u8 (r.1.1 : Int), .int .u8 (r.1.2 : Int)]
def rowsL (pre : List Row) : List (Nat × Nat) := pre.map (·.1)
theorem lss_run (p q : Int) (t : TypeId) (w : World) : (binOp .lss t (.int .i64 p) (.int .i64 q)).run Try.prog w = .ok (.bool (decide (p < q))) w := by rw [binOp_lss]; rfl
section
variable {ops : Array Oper} {S : Nat → GSpec} {Q : Exit → Act → World → Prop} {i : Nat} {o : Oper} {a : Act} {w : World}
theorem gs_lss_int (hw : Region.wanted o (yielded ops a.tmps) = true) (t t2 : TypeId) (x y : Operand) (ho : o.op = .binOp .lss t x y t2) (k : IntKind) (p q : Int) (hx : a.eval x = .int k p) (hy : a.eval y = .int k q) {r : Bool} (hr : decide (p < q) = r)
    (hp : (S i).p (.bool r) w) : GStep Try.prog ops S Q i o a w := by
  subst hr
  exact gs_bin hw _ _ _ x y ho _ _ _ hx hy (by rw [eqGuard_at_int]; rfl) (by rw [binOp_lss]; rfl) hp
end
set_option maxRecDepth 100000 in
set_option maxHeartbeats 2000000 in
theorem iter_any (x : BSet) (n l gx : Nat) (J Jx : List Row → World → Prop) (W : World) (hx : Blk W gx 31 (setC x)) (hJ : AbidesFrom W.heap.size J)
    (hY : ∀ pre r W1, J pre W1 → pre.length < 257 → YieldAt Fence.wide (n - 1) Try.prog l (encR r) W1 fun e W' =>
      (e = .returned (.bool true) ∧ J (pre ++ [r]) W' ∧ W'.heap[gx]? = W1.heap[gx]?) ∨ (e = .returned (.bool false) ∧ Jx (pre ++ [r]) W')) (h0 : J [] W) :
    CallsIn Fence.wide n Try.prog 44 #[.func (.yield l) #[] #[], .pointer (some ⟨gx, 0, none⟩)] W fun e W' => (∃ v, e = .returned v) ∧ ((∃ xs, rowsL xs = rowsOf x ∧ J xs W') ∨ (∃ pre, rowsL pre <+: rowsOf x ∧ Jx pre W')) := by
  refine callsIn_of_wp Try.func44 rfl trivial ?_ rfl
  simp only [Try.ntmps44, List.size_toArray, List.length_cons, List.length_nil, Nat.reduceAdd, Nat.reduceSub, Array.replicate_succ, Array.replicate_zero, List.push_toArray, List.append_toArray, List.nil_append, List.cons_append]
  gi_wp2
  gi_loopw [6, 3] (fun i fr wr => ∃ (b : Nat) (pre : List Row), b ≤ 257 ∧ i = .int .i64 b ∧ fr = .int .i64 (itF x b) ∧ Hid (rowsL pre = itR x b) ∧ J pre wr ∧ Blk wr gx 31 (setC x)) (fun i _ _ => 257 - (intOf i).toNat)
  case atStart => exact ⟨0, [], by omega, rfl, rfl, Lib.hid rfl, h0, hx⟩
  case round =>
    clear hx h0
    obtain ⟨b, pre, hb, rfl, rfl, hpre, hJ0, hx⟩ := hrel
    by_cases hlt : b < 257
    · have hbI : (b : Int) < 257 := by omega
      gi_upto_region 4 with (fail)
      by_cases h256 : b < 256
      · have hlss : decide ((b : Int) < 256) = true := decide_eq_true (by omega)
        have hlt' := h256
        cases hbit : x.getLsbD b
        · have Hbit := Lib.hid hbit
          clear hbit
          refine wpIn_wide.2 ?_
          refine wp_region_text 9 [eqS (.int .i64 ((b : Int))), eqS (.bool true), eqS (.bool true), eqS (.agg (setC x)), eqS (.int .i64 ((b : Int))), eqS (.int .u8 ((b : Int))), eqS (.bool false), eqS (.bool false), eqS (.bool false)] [9, 10, 11, 12, 13, 14, 15, 16, 5] (by kernel_rfl) rfl ?_ ?_
          · refine Steps.cons (fun a' w' hG hB dep => gs_move (want_none rfl) _ rfl (hG.other 4 rfl)) ?_
            refine Steps.cons (fun a' w' hG hB dep => gs_lss_int (want_none rfl) _ _ _ _ rfl _ _ _ (dep 0 rfl 9 rfl) rfl hlss rfl) ?_
            refine Steps.cons (fun a' w' hG hB dep => gs_move (want_none rfl) _ rfl (dep 1 rfl 10 rfl)) ?_
            refine Steps.cons (fun a' w' hG hB dep => gs_load_set (want_yes rfl rfl (dep 2 rfl 11 rfl)) _ rfl _ (hG.other 1 rfl) _ (blk_then hx hB) rfl) ?_
            refine Steps.cons (fun a' w' hG hB dep => gs_move (want_yes rfl rfl (dep 2 rfl 11 rfl)) _ rfl (hG.other 4 rfl)) ?_
            refine Steps.cons (fun a' w' hG hB dep => gs_byte (want_yes rfl rfl (dep 2 rfl 11 rfl)) _ rfl _ (by omega) (by omega) (dep 4 rfl 13 rfl) rfl) ?_
            refine Steps.cons (fun a' w' hG hB dep => gs_has (want_yes rfl rfl (dep 2 rfl 11 rfl)) _ _ _ rfl _ b hlt' (dep 3 rfl 12 rfl) (dep 5 rfl 14 rfl) (fun _ => congrArg Value.bool Hbit.out)) ?_
            refine Steps.cons (fun a' w' hG hB dep => gs_pick (want_none rfl) _ _ _ rfl true (dep 2 rfl 11 rfl) (dep 6 rfl 15 rfl)) ?_
            refine Steps.cons (fun a' w' hG hB dep => gs_assign (want_none rfl) _ rfl (dep 7 rfl 16 rfl)) ?_
            exact Steps.nil
          intro u w3 hB3 ans
          have ux : u 5 = .bool false := ans 8 5 (by decide) rfl
          clear ans
          refine wpList_nil ?_
          simp only [putAll, List.foldl_cons, List.foldl_nil, Act.put, List.setIfInBounds_toArray, List.set_cons_zero, List.set_cons_succ, ux]
          clear ux

          have hJ3 : J pre w3 := hJ _ _ _ none hJ0 (only_of_below hB3 none) (fun r e => by cases e)
          have hx3 := blk_then hx hB3
          clear hJ0 hx hB3
          by_cases hf : itF x b < 0
          · have Hs : Hid (itR x (b + 1) = itR x b) := Lib.hid (by rw [itR_succ, if_neg (by omega)])
            have Hf : Hid (itF x b = itF x (b + 1)) := Lib.hid (by rw [itF_succ, Hbit.out]; simp; have := itF_bounds x b; omega)
            have hbd := itF_bounds x b
            obtain ⟨fz, hfz⟩ : ∃ fz, fz = itF x b := ⟨_, rfl⟩
            rw [← hfz] at hf hbd Hf ⊢
            clear hfz
            gi_wp2
            go_roundw
            case rel => exact ⟨b + 1, pre, by omega, by go_num, by rw [Hf.out], Lib.hid (by rw [Hs.out]; exact hpre.out), hJ3, hx3⟩
            case measure => simp [intOf]; omega
          · have hbd := itF_bounds x b
            have Hs : Hid (itR x (b + 1) = itR x b ++ [((itF x b).toNat, b - 1)]) := Lib.hid (by rw [itR_succ, if_pos ⟨Hbit.out, by omega⟩])
            have Hf : Hid (itF x (b + 1) = -1) := Lib.hid (by rw [itF_succ, Hbit.out]; rfl)
            obtain ⟨fz, hfz⟩ : ∃ fz, fz = itF x b := ⟨_, rfl⟩
            rw [← hfz] at hf hbd Hs ⊢
            clear hfz
            obtain ⟨fN, rfl⟩ := Int.eq_ofNat_of_zero_le (show 0 ≤ fz by omega)
            rw [Int.toNat_natCast] at Hs
            have hlen : pre.length < 257 := by
              have h1 := itR_length x b
              have h2 := congrArg List.length hpre.out
              simp only [rowsL, List.length_map] at h2
              omega
            have hcast : ((b - 1 : Nat) : Int) = (b : Int) - 1 := by omega
            obtain ⟨fn, tmps, assign, body, hy, hR⟩ := hY pre ⟨(fN, b - 1), by simp only; omega⟩ w3 hJ3 hlen
            simp only [encR, hcast] at hy
            have hpre2 : Hid (rowsL (pre ++ [⟨(fN, b - 1), by simp only; omega⟩]) = itR x (b + 1)) := Lib.hid (by rw [Hs.out, ← hpre.out]; simp [rowsL])
            obtain ⟨pre2, hp2⟩ : ∃ pre2, pre2 = pre ++ [(⟨(fN, b - 1), by simp only; omega⟩ : Row)] := ⟨_, rfl⟩
            rw [← hp2] at hR hpre2
            have hbI1 : (1 : Int) ≤ b := by omega
            clear hcast hp2
            gi_wp2
            refine ⟨fun h => by simp [Fence.wide] at h, ?_⟩
            refine hR.mono ?_
            rintro e W3 (⟨rfl, hJ4, hk4⟩ | ⟨rfl, hJx4⟩)
            · gi_wp2
              go_roundw
              case rel => exact ⟨b + 1, pre2, by omega, by go_num, by rw [Hf.out], hpre2, hJ4, hk4.trans hx3⟩
              case measure => simp [intOf]; omega
            · gi_wp2
              refine bodyPost_ret (results_none rfl _ _ _) rfl ?_
              refine ⟨⟨_, rfl⟩, .inr ⟨pre2, ?_, hJx4⟩⟩
              obtain ⟨rr, hrr⟩ := itR_prefix x (show b + 1 ≤ 257 by omega)
              rw [hpre2.out]
              exact ⟨rr, hrr.symm⟩
        · have Hbit := Lib.hid hbit
          clear hbit
          refine wpIn_wide.2 ?_
          refine wp_region_text 9 [eqS (.int .i64 ((b : Int))), eqS (.bool true), eqS (.bool true), eqS (.agg (setC x)), eqS (.int .i64 ((b : Int))), eqS (.int .u8 ((b : Int))), eqS (.bool true), eqS (.bool true), eqS (.bool true)] [9, 10, 11, 12, 13, 14, 15, 16, 5] (by kernel_rfl) rfl ?_ ?_
          · refine Steps.cons (fun a' w' hG hB dep => gs_move (want_none rfl) _ rfl (hG.other 4 rfl)) ?_
            refine Steps.cons (fun a' w' hG hB dep => gs_lss_int (want_none rfl) _ _ _ _ rfl _ _ _ (dep 0 rfl 9 rfl) rfl hlss rfl) ?_
            refine Steps.cons (fun a' w' hG hB dep => gs_move (want_none rfl) _ rfl (dep 1 rfl 10 rfl)) ?_
            refine Steps.cons (fun a' w' hG hB dep => gs_load_set (want_yes rfl rfl (dep 2 rfl 11 rfl)) _ rfl _ (hG.other 1 rfl) _ (blk_then hx hB) rfl) ?_
            refine Steps.cons (fun a' w' hG hB dep => gs_move (want_yes rfl rfl (dep 2 rfl 11 rfl)) _ rfl (hG.other 4 rfl)) ?_
            refine Steps.cons (fun a' w' hG hB dep => gs_byte (want_yes rfl rfl (dep 2 rfl 11 rfl)) _ rfl _ (by omega) (by omega) (dep 4 rfl 13 rfl) rfl) ?_
            refine Steps.cons (fun a' w' hG hB dep => gs_has (want_yes rfl rfl (dep 2 rfl 11 rfl)) _ _ _ rfl _ b hlt' (dep 3 rfl 12 rfl) (dep 5 rfl 14 rfl) (fun _ => congrArg Value.bool Hbit.out)) ?_
            refine Steps.cons (fun a' w' hG hB dep => gs_pick (want_none rfl) _ _ _ rfl true (dep 2 rfl 11 rfl) (dep 6 rfl 15 rfl)) ?_
            refine Steps.cons (fun a' w' hG hB dep => gs_assign (want_none rfl) _ rfl (dep 7 rfl 16 rfl)) ?_
            exact Steps.nil
          intro u w3 hB3 ans
          have ux : u 5 = .bool true := ans 8 5 (by decide) rfl
          clear ans
          refine wpList_nil ?_
          simp only [putAll, List.foldl_cons, List.foldl_nil, Act.put, List.setIfInBounds_toArray, List.set_cons_zero, List.set_cons_succ, ux]
          clear ux

          have hJ3 : J pre w3 := hJ _ _ _ none hJ0 (only_of_below hB3 none) (fun r e => by cases e)
          have hx3 := blk_then hx hB3
          clear hJ0 hx hB3
          have hbd := itF_bounds x b
          have Hs : Hid (itR x (b + 1) = itR x b) := Lib.hid (by rw [itR_succ, Hbit.out]; simp)
          by_cases hf : itF x b < 0
          · have Hf : Hid (itF x (b + 1) = (b : Int)) := Lib.hid (by rw [itF_succ, Hbit.out, if_pos rfl, if_pos hf])
            obtain ⟨fz, hfz⟩ : ∃ fz, fz = itF x b := ⟨_, rfl⟩
            rw [← hfz] at hf hbd ⊢
            clear hfz
            gi_wp2
            go_roundw
            case rel => exact ⟨b + 1, pre, by omega, by go_num, by rw [Hf.out], Lib.hid (by rw [Hs.out]; exact hpre.out), hJ3, hx3⟩
            case measure => simp [intOf]; omega
          · have Hf : Hid (itF x b = itF x (b + 1)) := Lib.hid (by rw [itF_succ, Hbit.out, if_pos rfl, if_neg hf])
            obtain ⟨fz, hfz⟩ : ∃ fz, fz = itF x b := ⟨_, rfl⟩
            rw [← hfz] at hf hbd Hf ⊢
            clear hfz
            gi_wp2
            go_roundw
            case rel => exact ⟨b + 1, pre, by omega, by go_num, by rw [Hf.out], Lib.hid (by rw [Hs.out]; exact hpre.out), hJ3, hx3⟩
            case measure => simp [intOf]; omega
      · have hlss : decide ((b : Int) < 256) = false := decide_eq_false (by omega)
        have hb256 : b = 256 := by omega
        have Hbit : Hid (x.getLsbD b = false) := Lib.hid (by rw [hb256]; exact getLsbD_256 x)
        clear hb256
        refine wpIn_wide.2 ?_
        refine wp_region_text 9 [eqS (.int .i64 ((b : Int))), eqS (.bool false), eqS (.bool false), eqS undef, eqS undef, eqS undef, eqS undef, eqS (.bool false), eqS (.bool false)] [9, 10, 11, 12, 13, 14, 15, 16, 5] (by kernel_rfl) rfl ?_ ?_
        · refine Steps.cons (fun a' w' hG hB dep => gs_move (want_none rfl) _ rfl (hG.other 4 rfl)) ?_
          refine Steps.cons (fun a' w' hG hB dep => gs_lss_int (want_none rfl) _ _ _ _ rfl _ _ _ (dep 0 rfl 9 rfl) rfl hlss rfl) ?_
          refine Steps.cons (fun a' w' hG hB dep => gs_move (want_none rfl) _ rfl (dep 1 rfl 10 rfl)) ?_
          refine Steps.cons (fun a' w' hG hB dep => gs_skip (want_no rfl rfl (dep 2 rfl 11 rfl)) rfl) ?_
          refine Steps.cons (fun a' w' hG hB dep => gs_skip (want_no rfl rfl (dep 2 rfl 11 rfl)) rfl) ?_
          refine Steps.cons (fun a' w' hG hB dep => gs_skip (want_no rfl rfl (dep 2 rfl 11 rfl)) rfl) ?_
          refine Steps.cons (fun a' w' hG hB dep => gs_skip (want_no rfl rfl (dep 2 rfl 11 rfl)) rfl) ?_
          refine Steps.cons (fun a' w' hG hB dep => gs_pick (want_none rfl) _ _ _ rfl false (dep 2 rfl 11 rfl) rfl) ?_
          refine Steps.cons (fun a' w' hG hB dep => gs_assign (want_none rfl) _ rfl (dep 7 rfl 16 rfl)) ?_
          exact Steps.nil
        intro u w3 hB3 ans
        have ux : u 5 = .bool false := ans 8 5 (by decide) rfl
        clear ans
        refine wpList_nil ?_
        simp only [putAll, List.foldl_cons, List.foldl_nil, Act.put, List.setIfInBounds_toArray, List.set_cons_zero, List.set_cons_succ, ux]
        clear ux

        have hJ3 : J pre w3 := hJ _ _ _ none hJ0 (only_of_below hB3 none) (fun r e => by cases e)
        have hx3 := blk_then hx hB3
        clear hJ0 hx hB3
        by_cases hf : itF x b < 0
        · have Hs : Hid (itR x (b + 1) = itR x b) := Lib.hid (by rw [itR_succ, if_neg (by omega)])
          have Hf : Hid (itF x b = itF x (b + 1)) := Lib.hid (by rw [itF_succ, Hbit.out]; simp; have := itF_bounds x b; omega)
          have hbd := itF_bounds x b
          obtain ⟨fz, hfz⟩ : ∃ fz, fz = itF x b := ⟨_, rfl⟩
          rw [← hfz] at hf hbd Hf ⊢
          clear hfz
          gi_wp2
          go_roundw
          case rel => exact ⟨b + 1, pre, by omega, by go_num, by rw [Hf.out], Lib.hid (by rw [Hs.out]; exact hpre.out), hJ3, hx3⟩
          case measure => simp [intOf]; omega
        · have hbd := itF_bounds x b
          have Hs : Hid (itR x (b + 1) = itR x b ++ [((itF x b).toNat, b - 1)]) := Lib.hid (by rw [itR_succ, if_pos ⟨Hbit.out, by omega⟩])
          have Hf : Hid (itF x (b + 1) = -1) := Lib.hid (by rw [itF_succ, Hbit.out]; rfl)
          obtain ⟨fz, hfz⟩ : ∃ fz, fz = itF x b := ⟨_, rfl⟩
          rw [← hfz] at hf hbd Hs ⊢
          clear hfz
          obtain ⟨fN, rfl⟩ := Int.eq_ofNat_of_zero_le (show 0 ≤ fz by omega)
          rw [Int.toNat_natCast] at Hs
          have hlen : pre.length < 257 := by
            have h1 := itR_length x b
            have h2 := congrArg List.length hpre.out
            simp only [rowsL, List.length_map] at h2
            omega
          have hcast : ((b - 1 : Nat) : Int) = (b : Int) - 1 := by omega
          obtain ⟨fn, tmps, assign, body, hy, hR⟩ := hY pre ⟨(fN, b - 1), by simp only; omega⟩ w3 hJ3 hlen
          simp only [encR, hcast] at hy
          have hpre2 : Hid (rowsL (pre ++ [⟨(fN, b - 1), by simp only; omega⟩]) = itR x (b + 1)) := Lib.hid (by rw [Hs.out, ← hpre.out]; simp [rowsL])
          obtain ⟨pre2, hp2⟩ : ∃ pre2, pre2 = pre ++ [(⟨(fN, b - 1), by simp only; omega⟩ : Row)] := ⟨_, rfl⟩
          rw [← hp2] at hR hpre2
          have hbI1 : (1 : Int) ≤ b := by omega
          clear hcast hp2
          gi_wp2
          refine ⟨fun h => by simp [Fence.wide] at h, ?_⟩
          refine hR.mono ?_
          rintro e W3 (⟨rfl, hJ4, hk4⟩ | ⟨rfl, hJx4⟩)
          · gi_wp2
            go_roundw
            case rel => exact ⟨b + 1, pre2, by omega, by go_num, by rw [Hf.out], hpre2, hJ4, hk4.trans hx3⟩
            case measure => simp [intOf]; omega
          · gi_wp2
            refine bodyPost_ret (results_none rfl _ _ _) rfl ?_
            refine ⟨⟨_, rfl⟩, .inr ⟨pre2, ?_, hJx4⟩⟩
            obtain ⟨rr, hrr⟩ := itR_prefix x (show b + 1 ≤ 257 by omega)
            rw [hpre2.out]
            exact ⟨rr, hrr.symm⟩
    · have hbI : ¬ (b : Int) < 257 := by omega
      have hb257 : b = 257 := by omega
      rw [hb257] at hpre
      clear hb257
      gi_wp2
      go_end0
      exact ⟨⟨_, rfl⟩, .inl ⟨pre, hpre.out, hJ0⟩⟩

end Go.Proofs.Ytjpiebapemalfaa
