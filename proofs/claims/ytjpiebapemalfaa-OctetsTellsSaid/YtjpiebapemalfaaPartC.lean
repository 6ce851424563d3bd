/- The walks of Members, part's and the document's. -/
import Derived.Test.YtjpiebapemalfaaPartB
import Derived.Test.YtjpiebapemalfaaGs4
namespace Go.Proofs.Ytjpiebapemalfaa
open Go.RowKit Go.Maps Go.WideMaps
set_option linter.unusedVariables false
set_option linter.unusedSimpArgs false

theorem size_int (w : World) : (sizeOf 3).run Try.prog w = .ok 1 w := by kernel_rfl
theorem run_index_cls (w : World) (g : Nat → Int) (b : Nat) (h : b < 256) : (Instr.index 39 (.agg (clsC g)) (.int .i64 (b : Int))).run Try.prog w = .ok (.int .i64 (g b)) w := by
  have hn : (0 : Int) ≤ b ∧ (b : Int) < 256 := by omega
  have hp := run_part_plain (P := Try.prog) w (e := 3) (by kernel_rfl) (xs := clsC g) (off := b * 1) (by rw [Nat.mul_one]; exact clsC_at g b h)
  simp [Instr.index, run_underlying Try.underlying39, asIntOf, hn, size_int]
  rw [if_pos h]
  simpa using hp
/-- the bytes of class c -/
def memP (g : Nat → Int) (c : Int) (b : Nat) : Bool := decide (g b = c)
def memB (g : Nat → Int) (c : Int) : BSet := setTo (memP g c) 256
theorem memB_get (g : Nat → Int) (c : Int) {b : Nat} (h : b < 256) : (memB g c).getLsbD b = decide (g b = c) := by
  unfold memB
  rw [setTo_get _ _ _ h]
  simp [h, memP]
theorem joinL_one (x : BSet) (b : UInt8) : joinL [x, ofB [b]] = x ||| bit b.toNat := by
  simp [joinL, ofB]

set_option maxRecDepth 100000 in
set_option maxHeartbeats 2000000 in
theorem members_any (g : Nat → Int) (c : Int) (w : World) :
    Calls Try.prog 20 #[.agg (clsC g), .int .i64 c] w fun e w' => e = .returned (.agg (setC (memB g c))) ∧ Below w.heap.size w w' := by
  have hb0 := Blk.new w 39 (clsC g)
  have hs2 : w.heap.size ≤ w.heap.size + 1 + 1 := by omega
  go_enter Try.func20, Try.ntmps20
  go_wp2_with (first | (refine wl_load_cls rfl _ rfl _ rfl _ ((hb0.alloc _).alloc _) ?_))
  go_loopw [9] (fun i wr => ∃ b : Nat, b ≤ 256 ∧ i = .int .i64 b ∧ Blk wr (w.heap.size + 1 + 1) 31 (setC (setTo (memP g c) b)) ∧ Blk wr (w.heap.size + 1) 31 (setC 0) ∧ Below w.heap.size w wr) (fun i _ => 256 - (intOf i).toNat)
  case atStart =>
    refine ⟨0, by omega, rfl, ?_, ?_, ?_⟩
    · rw [show setTo (memP g c) 0 = 0 from rfl]
      exact Blk.new' _ _ _ (by simp)
    · exact (Blk.new' _ _ _ (by simp)).alloc _
    · exact below_alloc (below_alloc (below_alloc (Below.refl _ _) _) _) _
  case round =>
    obtain ⟨b, hb, rfl, hb1, hb2, hB⟩ := hrel
    by_cases hlt : b < 256
    · have hix := fun w => run_index_cls w g b hlt
      obtain ⟨x, rfl⟩ : ∃ x : UInt8, x.toNat = b := ⟨UInt8.ofNat b, by simp; omega⟩
      obtain ⟨v, hv⟩ : ∃ v, v = g x.toNat := ⟨_, rfl⟩
      rw [← hv] at hix
      have hlt5 := hb1.lt
      cases hp : decide (v = c) with
      | true =>
        have hvc : v = c := of_decide_eq_true hp
        have hset := Lib.hid (setTo_succ_pos (p := memP g c) (n := x.toNat) (by unfold memP; rw [← hv]; exact hp))
        clear hp hv
        go_upto_region 6 with (fail)
        refine wp_region_steps 7 [eqS (.agg (setC (setTo (memP g c) x.toNat))), eqS (.int .i64 (x.toNat : Int)), eqS (.int .u8 (x.toNat : Int)), bytesS [x], eqS (.agg (setC (ofB [x]))), setsS [setTo (memP g c) x.toNat, ofB [x]], eqS (.agg (setC (joinL [setTo (memP g c) x.toNat, ofB [x]])))] [16, 17, 18, 19, 20, 21, 22] follows_mixed (by kernel_rfl) rfl ?_ ?_
        · refine Steps.cons (fun a' w' hG hB dep => gs_load_set (want_none rfl) _ rfl _ (hG.other 5 rfl) _ (blk_then hb1 hB) rfl) ?_
          refine Steps.cons (fun a' w' hG hB dep => gs_move (want_none rfl) _ rfl (hG.other 6 rfl)) ?_
          refine Steps.cons (fun a' w' hG hB dep => gs_byte (want_none rfl) _ rfl _ (by omega) (by omega) (dep 1 rfl 17 rfl) rfl) ?_
          refine Steps.cons (fun a' w' hG hB dep => gs_byte1 (want_none rfl) _ rfl x (dep 2 rfl 18 rfl) (fun _ _ h => h)) ?_
          refine Steps.cons (fun a' w' hG hB dep => gs_of (want_none rfl) _ _ rfl _ (dep 3 rfl 19 rfl) (Nat.le_of_ble_eq_true rfl) (fun _ => rfl)) ?_
          refine Steps.cons (fun a' w' hG hB dep => gs_sets2 (want_none rfl) _ _ rfl _ _ (dep 0 rfl 16 rfl) (dep 4 rfl 20 rfl) (fun _ _ h => h)) ?_
          refine Steps.cons (fun a' w' hG hB dep => gs_join (want_none rfl) _ _ rfl _ (dep 5 rfl 21 rfl) (Nat.le_of_ble_eq_true rfl) (fun _ => rfl)) ?_
          exact Steps.nil
        intro u w3 hB3 ans
        have ux : u 22 = .agg (setC (joinL [setTo (memP g c) x.toNat, ofB [x]])) := ans 6 22 (by decide) rfl
        clear ans
        simp only [putAll, List.foldl_cons, List.foldl_nil, Act.put, List.setIfInBounds_toArray, List.set_cons_zero, List.set_cons_succ, ux]
        clear ux
        refine wl_store_set rfl _ _ rfl _ _ rfl rfl _ (blk_then hb1 hB3) ?_
        intro w4 hb4 hg4
        rw [joinL_one, ← hset.out] at hb4
        refine wpList_nil ?_
        go_wp2
        go_roundw
        case rel => exact ⟨x.toNat + 1, by omega, by go_num, hb4, blk_grown (blk_then hb2 hB3) hg4 (by omega), below_grown (below_then hB hB3) hg4 hs2⟩
        case measure => simp [intOf]; omega
      | false =>
        have hvc : ¬ v = c := of_decide_eq_false hp
        have hset := Lib.hid (setTo_succ_neg (p := memP g c) (n := x.toNat) (by unfold memP; rw [← hv]; exact hp))
        clear hp hv
        go_wp2
        go_roundw
        case rel => exact ⟨x.toNat + 1, by omega, by go_num, by rw [hset.out]; exact hb1, hb2, hB⟩
        case measure => simp [intOf]; omega
    · obtain rfl : b = 256 := by omega
      go_wp2_with (first | (refine wl_load_set rfl _ rfl _ rfl _ hb1 ?_) | (refine wl_store_set rfl _ _ rfl _ _ rfl rfl _ hb2 ?_; intro w1 hb4 hg4))
      exact ret_set rfl rfl hb4 rfl ⟨rfl, hB.grown hg4 hB.size (by rintro k ⟨⟩; exact Nat.le_succ _)⟩

def bl (p : Nat → Bool) : Nat → List UInt8
  | 0 => []
  | n + 1 => if p n then bl p n ++ [UInt8.ofNat n] else bl p n
theorem bl_pos {p : Nat → Bool} {x : UInt8} (h : p x.toNat = true) : bl p (x.toNat + 1) = bl p x.toNat ++ [x] := by
  show (if p x.toNat then _ else _) = _
  rw [if_pos h]
  simp
theorem bl_neg {p : Nat → Bool} {n : Nat} (h : p n = false) : bl p (n + 1) = bl p n := by
  show (if p n then _ else _) = _
  rw [if_neg (by simp [h])]
theorem bl_length (p : Nat → Bool) (n : Nat) : (bl p n).length ≤ n := by
  induction n with
  | zero => simp [bl]
  | succ n ih =>
    cases h : p n with
    | true => unfold bl; rw [if_pos h]; simp; omega
    | false => rw [bl_neg h]; omega
theorem ofB_bl (p : Nat → Bool) (n : Nat) (hn : n ≤ 256) : ofB (bl p n) = setTo p n := by
  induction n with
  | zero => rfl
  | succ n ih =>
    cases h : p n with
    | true =>
      unfold bl
      rw [if_pos h, setTo_succ_pos h, ofB_snoc, ih (by omega)]
      congr 2
      simp
      omega
    | false => rw [bl_neg h, setTo_succ_neg h, ih (by omega)]
theorem enc8_size (x : UInt8) : (enc8 x).size = 1 := rfl
theorem enc8_one (x : UInt8) : (enc8 x).all (·.oneCell') = true := by simp [enc8, Value.oneCell']
theorem info_u83 : (Try.prog.info? 5).map (fun i => (i.zero, i.size, i.bytes)) = some (some (.int .u8 0), 1, 1) := by kernel_rfl

set_option maxRecDepth 100000 in
set_option maxHeartbeats 2000000 in
theorem rmembers_any (g : Nat → Int) (c : Int) (w : World) :
    Calls Try.prog 21 #[.agg (clsC g), .int .i64 c] w fun e w' => e = .returned (.agg (setC (memB g c))) ∧ Below w.heap.size w w' := by
  have hs2 : w.heap.size ≤ w.heap.size + 1 := by omega
  obtain ⟨i0, hi0, hz0, hz1, hz2⟩ := info_parts info_u83
  go_enter Try.func21, Try.ntmps21
  go_wp2
  go_loopw [6, 5] (fun i v wr => ∃ b : Nat, b ≤ 256 ∧ i = .int .i64 b ∧ Own wr (w.heap.size + 1 + 1) 5 1 enc8 v (bl (memP g c) b) ∧ Blk wr (w.heap.size + 1) 31 (setC 0) ∧ Blk wr w.heap.size 39 (clsC g) ∧ Below w.heap.size w wr) (fun i _ _ => 256 - (intOf i).toNat)
  case atStart => exact ⟨0, by omega, rfl, Own.nil_ _ _ _ _ _, Blk.new' _ _ _ (by simp), (Blk.new _ _ _).alloc _, below_alloc (below_alloc (Below.refl _ _) _) _⟩
  case round =>
    obtain ⟨b, hb, rfl, hown, hb1, hb2, hB⟩ := hrel
    obtain ⟨A2, c2, rfl, hc2, hc3⟩ := hown.shape
    have hle := bl_length (memP g c) b
    obtain ⟨ys, hys⟩ : ∃ ys, ys = bl (memP g c) b := ⟨_, rfl⟩
    rw [← hys] at hle hc2 hown ⊢
    obtain ⟨m, hm'⟩ : ∃ m, m = ys.length := ⟨_, rfl⟩
    rw [← hm'] at hle hc2 hown ⊢
    replace hys := Lib.hid hys
    replace hm' := Lib.hid hm'
    have hlt0 : w.heap.size + 1 < wr.heap.size := hb1.lt
    by_cases hlt : b < 256
    · obtain ⟨x, rfl⟩ : ∃ x : UInt8, x.toNat = b := ⟨UInt8.ofNat b, by simp; omega⟩
      have hc1 := hb2.cellv (clsC_at g x.toNat hlt)
      obtain ⟨v, hv⟩ : ∃ v, v = g x.toNat := ⟨_, rfl⟩
      rw [← hv] at hc1
      have hownlt := hown.lt
      cases hp : decide (v = c) with
      | true =>
        have hvc : v = c := of_decide_eq_true hp
        have hset := Lib.hid (bl_pos (p := memP g c) (x := x) (by unfold memP; rw [← hv]; exact hp))
        clear hp hv
        go_wp2_with (first
          | (at_builtin; refine wl_append _ rfl _ _ 58 rfl (w.heap.size + 1 + 1) 5 i0 _ 1 1 Try.underlying58 hi0 hz0 hz1 hz2 rfl (by decide) enc8_size enc8_one _ ys rfl (hown.alloc (.cells (enc8 x) 5)) _ _ 1 1 [x] rfl rfl (slice_one (Blk.new _ 5 (enc8 x))) (by rw [← hm'.out]; unfold maxLen; omega) (by rw [← hm'.out]; omega) (by simp; omega) ?_; intro v2 w2 hown2 hg2 hat2))
        go_roundw
        case rel =>
          have hne : ∀ j, (Value.slice A2 m c2).ownBlock = some j → w.heap.size + 1 + 1 ≤ j := fun j e => (hownlt j e).1
          exact ⟨x.toNat + 1, by omega, by go_num, by rw [hset.out, ← hys.out]; exact hown2, (hb1.alloc _).grown hg2 (fun e => by have := hne _ e.symm; omega), (hb2.alloc _).grown hg2 (fun e => by have := hne _ e.symm; omega), below_own (below_alloc hB _) hg2 (fun j e => by have := hne j e; omega)⟩
        case measure => simp [intOf]; omega
      | false =>
        have hvc : ¬ v = c := of_decide_eq_false hp
        have hset := Lib.hid (bl_neg (p := memP g c) (n := x.toNat) (by unfold memP; rw [← hv]; exact hp))
        clear hp hv
        go_wp2
        go_roundw
        case rel => exact ⟨x.toNat + 1, by omega, by go_num, by rw [hset.out, ← hys.out]; exact hown, hb1, hb2, hB⟩
        case measure => simp [intOf]; omega
    · obtain rfl : b = 256 := by omega
      have hset : Hid (ofB ys = memB g c) := Lib.hid (by rw [hys.out, ofB_bl _ _ (Nat.le_refl _)]; rfl)
      have hsl : SliceOf wr wr.heap.size 1 enc8 A2 ys := hown.slice_all enc8_size
      go_wp2_with (first
        | (go_at_call 38; refine (rof_any A2 m c2 ys _ hm'.out (by unfold maxLen; omega) hsl).mono ?_; rw [hset.out]; rintro e w1 ⟨rfl, hB1⟩)
        | (refine wl_store_set rfl _ _ rfl _ _ rfl rfl _ (blk_then hb1 hB1) ?_; intro w2 hb4 hg4))
      exact ret_set rfl rfl hb4 rfl ⟨rfl, below_grown (below_then hB hB1) hg4 hs2⟩
attribute [irreducible] memB

end Go.Proofs.Ytjpiebapemalfaa
