/- The walk of heronref03.Spans: a set's rows. -/
import Derived.Test.YtjpiebapemalfaaRefB
import Derived.Test.YtjpiebapemalfaaSlice
import Derived.Test.YtjpiebapemalfaaSpanRows
namespace Go.Proofs.Ytjpiebapemalfaa
open Go.RowKit
set_option linter.unusedVariables false
set_option linter.unusedSimpArgs false

theorem rfStep_nil (b : Nat) : rfStep [] b = [(b, b)] := rfl
theorem last_of (l : List (Nat × Nat)) (h : l.length - 1 < l.length) : l.getLast? = some l[l.length - 1] := by
  rw [List.getLast?_eq_getElem?, List.getElem?_eq_getElem h]
theorem rfStep_app (l : List (Nat × Nat)) (b : Nat) (h : l.length - 1 < l.length) (e : ¬ l[l.length - 1].2 + 1 = b) : rfStep l b = l ++ [(b, b)] := by
  unfold rfStep
  rw [last_of l h]
  simp only
  rw [if_neg e]
theorem rfStep_ext (l : List (Nat × Nat)) (b : Nat) (h : l.length - 1 < l.length) (e : l[l.length - 1].2 + 1 = b) : rfStep l b = l.set (l.length - 1) (l[l.length - 1].1, b) := by
  unfold rfStep
  rw [last_of l h]
  simp only
  rw [if_pos e]
  apply List.ext_getElem
  · simp; omega
  · intro i h1 h2
    rw [List.getElem_set]
    by_cases hi : l.length - 1 = i
    · rw [if_pos hi, List.getElem_append_right (by simp; omega)]
      simp
    · rw [if_neg hi, List.getElem_append_left (by simp at h2 ⊢; omega)]
      simp
def rowC (p : Nat × Nat) : Array Value := #[.int .i64 (p.1 : Int), .int .i64 (p.2 : Int)]
theorem rowC_size (p : Nat × Nat) : (rowC p).size = 2 := rfl
theorem rowC_one (p : Nat × Nat) : (rowC p).all (·.oneCell') = true := by simp [rowC, Value.oneCell']
theorem info_row3 : (Try.prog.info? 57).map (fun i => (i.zero, i.size, i.bytes)) = some (some (.agg #[.int .i64 0, .int .i64 0]), 2, 16) := by kernel_rfl
theorem build_rows1 (p : Nat × Nat) (w : World) : (Instr.buildSlice 51 1 #[(0, .agg (rowC p))]).run Try.prog w = .ok (.slice (some ⟨w.heap.size, 0, none⟩) 1 1) (w.alloc (.cells (rowC p) 57)) := by kernel_rfl
theorem size_rowE (w : World) : (sizeOf (Try.prog.elem 51)).run Try.prog w = .ok 2 w := by kernel_rfl
theorem wl_build1p {ops : Array Oper} {rest : List Oper} {o : Oper} {a : Act} {w : World} {Q : Exit → Act → World → Prop} (hgd : o.guard = none) (x : Operand) (ho : o.op = .buildSlice 51 1 #[(0, x)]) (y : Nat × Nat) (hx : a.eval x = .agg (rowC y))
    (h : wpList Try.prog ops Q rest (a.put o.dst (.slice (some ⟨w.heap.size, 0, none⟩) 1 1)) (w.alloc (.cells (rowC y) 57))) : wpList Try.prog ops Q (o :: rest) a w :=
  wpList_plain hgd fun _ hK => by
    have e : (#[(0, x)] : Array (Nat × Operand)).map (fun (i, x) => (i, a.eval x)) = #[(0, .agg (rowC y))] := by simp [hx]
    unfold Oper.wp execOp
    simp only [ho, e, Sem.run_bind, build_rows1, Result.andThen_ok, Sem.run_pure]
    exact hK _ _ h
/-- the rows, in memory of their own -/
def RowsR (x : BSet) (w : World) (e : Ending) (w' : World) : Prop :=
  ∃ A c, e = .returned (.slice A (rowsOf x).length c) ∧ Own w' (w.heap.size + 1) 57 2 rowC (.slice A (rowsOf x).length c) (rowsOf x) ∧ Below w.heap.size w w'
theorem rfR_length (a : BSet) (b : Nat) : (rfR a b).length ≤ b := by
  have h := itR_length a b
  rw [rfR_eq]
  split
  · rename_i h0
    have hb := itF_bounds a b
    have : (itR a b).length + 1 ≤ b := by
      have hp : ∀ c, c ≤ b → 0 ≤ itF a b → (itR a b).length ≤ b - 1 := by
        intro c _ _
        cases b with
        | zero => simp [itR]
        | succ b =>
          have h2 := itR_length a b
          rw [itF_succ] at h0
          split at h0
          · rename_i hbit
            rw [itR_succ, if_neg (by simp [hbit])]
            omega
          · omega
      have := hp b (Nat.le_refl _) h0
      omega
    simp; omega
  · simp; omega

set_option maxRecDepth 100000 in
set_option maxHeartbeats 2000000 in
theorem rspans_any (x : BSet) (w : World) : Calls Try.prog 29 #[.agg (setC x)] w (RowsR x w) := by
  obtain ⟨i0, hi0, hz0, hz1, hz2⟩ := info_parts info_row3
  have hsE := size_rowE
  have hb0 := Blk.new w 31 (setC x)
  have hBa := below_alloc (Below.refl w.heap.size w) (.cells (setC x) 31)
  have hba : w.heap.size + 1 ≤ (w.alloc (.cells (setC x) 31)).heap.size := by simp
  go_enter Try.func29, Try.ntmps29
  go_wp2
  go_loopw [4, 3] (fun i v wr => ∃ b : Nat, b ≤ 256 ∧ i = .int .i64 b ∧ Own wr (w.heap.size + 1) 57 2 rowC v (rfR x b) ∧ w.heap.size + 1 ≤ wr.heap.size ∧ Blk wr w.heap.size 31 (setC x) ∧ Below w.heap.size w wr) (fun i _ _ => 256 - (intOf i).toNat)
  case atStart => exact ⟨0, by omega, rfl, Own.nil_ _ _ _ _ _, hba, hb0, hBa⟩
  case round =>
    clear hb0 hBa hba
    obtain ⟨b, hb, rfl, hown, hw1, hx, hB⟩ := hrel
    obtain ⟨A2, c2, rfl, hc2, hc3⟩ := hown.shape
    have hle := rfR_length x b
    by_cases hlt : b < 256
    · have hbI : (b : Int) < 256 := by omega
      have Hsn := Lib.hid (rfR_succ x b)
      obtain ⟨ys, hys⟩ : ∃ ys, ys = rfR x b := ⟨_, rfl⟩
      rw [← hys] at hle hc2 hown Hsn ⊢
      obtain ⟨m, hm⟩ : ∃ m, m = ys.length := ⟨_, rfl⟩
      rw [← hm] at hle hc2 hown ⊢
      have Hm := Lib.hid hm
      clear hys hm
      cases hbit : x.getLsbD b
      · have Hbit := Lib.hid hbit
        have Hs : Hid (rfR x (b + 1) = ys) := Lib.hid (by rw [Hsn.out, hbit]; rfl)
        clear hbit Hsn
        go_wp2_with (first
          | (refine wl_load_set rfl _ rfl _ rfl _ hx ?_)
          | (go_at_call 28; refine (rhas_nat x b hlt _).mono ?_; rw [Hbit.out]; rintro e w3 ⟨rfl, hB3⟩))
        go_roundw
        case rel => exact ⟨b + 1, by omega, by go_num, by rw [Hs.out]; exact hown.then_ hB3, Nat.le_trans hw1 hB3.size, blk_then hx hB3, below_then hB hB3⟩
        case measure => simp [intOf]; omega
      · have Hbit := Lib.hid hbit
        have Hs : Hid (rfR x (b + 1) = rfStep ys b) := Lib.hid (by rw [Hsn.out, hbit]; rfl)
        clear hbit Hsn
        go_upto_region 7 with (first
          | (refine wl_load_set rfl _ rfl _ rfl _ hx ?_)
          | (go_at_call 28; refine (rhas_nat x b hlt _).mono ?_; rw [Hbit.out]; rintro e w3 ⟨rfl, hB3⟩))
        replace hown := hown.then_ hB3
        replace hx := blk_then hx hB3
        replace hB := below_then hB hB3
        replace hw1 := Nat.le_trans hw1 hB3.size
        clear hB3
        have hown1 := hown.alloc (.cells (rowC (b, b)) 57)
        have hone := slice_one (enc := rowC) (size := 2) (Blk.new w3 57 (rowC (b, b)))
        have hownlt : ∀ j, (Value.slice A2 m c2).ownBlock = some j → w.heap.size + 1 ≤ j := fun j e => (hown.lt j e).1
        by_cases h0 : m = 0
        · have hnil : ys = [] := List.eq_nil_of_length_eq_zero (by rw [← Hm.out]; exact h0)
          have Hs2 : Hid (rfR x (b + 1) = ys ++ [(b, b)]) := Lib.hid (by rw [Hs.out, hnil]; rfl)
          have hm0 : ¬ (0 : Int) < m := by omega
          have hmle : m ≤ 0 := by omega
          clear h0 hnil
          go_wp2_with (first
            | (refine wl_build1p rfl _ rfl (b, b) rfl ?_)
            | (at_builtin; refine wl_append _ rfl _ _ 51 rfl (w.heap.size + 1) 57 i0 _ 2 16 Try.underlying51 hi0 hz0 hz1 hz2 rfl (by decide) rowC_size rowC_one _ ys rfl hown1 _ _ 1 1 [(b, b)] rfl rfl hone (by rw [← Hm.out]; unfold maxLen; omega) (by rw [← Hm.out]; omega) (by simp; omega) ?_; intro v2 w7 hown2 hg2 hat2))
          go_roundw
          case rel => exact ⟨b + 1, by omega, by go_num, by rw [Hs2.out]; exact hown2, by have := hg2.size; simp at this; omega, (hx.alloc _).grown hg2 (fun e => by have := hownlt _ e.symm; omega), below_own (below_alloc hB _) hg2 (fun j e => by have := hownlt j e; omega)⟩
          case measure => simp [intOf]; omega
        · have hmI : (0 : Int) < m := by omega
          have hm1 : m - 1 < ys.length := by rw [← Hm.out]; omega
          obtain ⟨g, cap, hv, _⟩ := hown.form (by rw [← Hm.out]; omega)
          injection hv with hA h1 h2
          subst hA
          clear h1 h2
          have hc : w3.cell? ⟨g, (m - 1) * 2 + 1, none⟩ = some (.int .i64 (ys[m - 1].2 : Int)) := hown.row rowC_size (m - 1) hm1 1 _ rfl
          have hf := hown.frozen ((m - 1) * 2 + 1)
          have hE1 : ys[m - 1].2 + 1 = b → rfR x (b + 1) = ys.set (m - 1) (ys[m - 1].1, b) := fun e => by
            have h3 : ys.length - 1 < ys.length := by omega
            have h4 := rfStep_ext ys b h3
            simp only [← Hm.out] at h4
            rw [Hs.out, h4 e]
          have hE2 : ¬ ys[m - 1].2 + 1 = b → rfR x (b + 1) = ys ++ [(b, b)] := fun e => by
            have h3 : ys.length - 1 < ys.length := by omega
            have h4 := rfStep_app ys b h3
            simp only [← Hm.out] at h4
            rw [Hs.out, h4 e]
          have HE1 := Lib.hid hE1
          have HE2 := Lib.hid hE2
          clear hE1 hE2
          obtain ⟨p, hp⟩ : ∃ p, p = ys[m - 1] := ⟨_, rfl⟩
          have Hp := Lib.hid hp
          rw [← hp] at hc HE1 HE2
          obtain ⟨z, hz⟩ : ∃ z, z = p.2 := ⟨_, rfl⟩
          rw [← hz] at hc HE1 HE2
          clear hz hp
          by_cases hzb : z + 1 = b
          · have Hs2 := Lib.hid (HE1.out hzb)
            have hq : ((z : Int) == (b : Int) - 1) = true := by rw [beq_iff_eq]; omega
            have hq2 : z + 1 ≤ b := by omega
            clear hzb h0
            go_wp2
            go_roundw
            case rel =>
              have o1 := hown.setCell (q := 1) (y' := (p.1, b)) (u := .int .i64 (b : Int)) rowC_size hm1 (by omega) (by rw [← Hp.out]; rfl)
              exact ⟨b + 1, by omega, by go_num, by rw [Hs2.out]; have := o1; exact this, (by simp; exact hw1), hx.far (by have := hownlt g rfl; simp; omega) _, hB.setCell (by have := hownlt g rfl; simp; omega) _⟩
            case measure => simp [intOf]; omega
          · have Hs2 := Lib.hid (HE2.out hzb)
            have hq : ((z : Int) == (b : Int) - 1) = false := by rw [beq_eq_false_iff_ne]; omega
            clear hzb h0
            go_wp2_with (first
              | (refine wl_build1p rfl _ rfl (b, b) rfl ?_)
              | (at_builtin; refine wl_append _ rfl _ _ 51 rfl (w.heap.size + 1) 57 i0 _ 2 16 Try.underlying51 hi0 hz0 hz1 hz2 rfl (by decide) rowC_size rowC_one _ ys rfl hown1 _ _ 1 1 [(b, b)] rfl rfl hone (by rw [← Hm.out]; unfold maxLen; omega) (by rw [← Hm.out]; omega) (by simp; omega) ?_; intro v2 w7 hown2 hg2 hat2))
            go_roundw
            case rel => exact ⟨b + 1, by omega, by go_num, by rw [Hs2.out]; exact hown2, by have := hg2.size; simp at this; omega, (hx.alloc _).grown hg2 (fun e => by have := hownlt _ e.symm; omega), below_own (below_alloc hB _) hg2 (fun j e => by have := hownlt j e; omega)⟩
            case measure => simp [intOf]; omega
    · obtain rfl : b = 256 := by omega
      rw [rows_same] at hown hc2 ⊢
      go_wp2
      go_ret
      exact ⟨A2, c2, rfl, hown, hB⟩

end Go.Proofs.Ytjpiebapemalfaa
