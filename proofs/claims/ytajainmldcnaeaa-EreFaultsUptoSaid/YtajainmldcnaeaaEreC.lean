/- ere: up to four digits are read. No condition beyond those named in each lemma. -/
import Derived.Test.YtajainmldcnaeaaEreI
import Derived.Test.YtajainmldcnaeaaMid0
namespace Go.Proofs.Ytajainmldcnaeaa
open Go.RowKit Go.Maps
set_option linter.unusedVariables false
set_option linter.unusedSimpArgs false
attribute [local go_sem] Oper.semAt_some

theorem one_digit (p : ByteArray) (i : Nat) : Ere.oneOf p i [48, 49, 50, 51, 52, 53, 54, 55, 56, 57] = (decide (i < p.size) && decide (48 ≤ Ere.chr p i) && decide (Ere.chr p i ≤ 57)) := by
  unfold Ere.oneOf
  rw [Bool.and_assoc]
  congr 1
  rw [Bool.eq_iff_iff]
  simp only [List.contains_iff_mem, List.mem_cons, List.not_mem_nil, or_false, Bool.and_eq_true, decide_eq_true_eq]
  omega
theorem cnt_end {n j m : Nat} {b : Bool} (h : b = Ere.cntOk (n, j, m)) : Ending.returned (.tuple #[.int .i64 (n : Int), .bool b]) = Ending.returned (.tuple #[.int .i64 (((n, j, m) : Nat × Nat × Nat).1 : Int), .bool (Ere.cntOk (n, j, m))]) := by rw [h]
set_option maxRecDepth 100000 in
set_option maxHeartbeats 2000000 in
theorem rcount_any (g : Nat) (p : ByteArray) (i : Nat) (w : World) (hg : Blk w g 76 (rdC p i)) (hi : i ≤ 4000000000) :
    Calls Try.prog 100 #[.pointer (some ⟨g, 0, none⟩)] w fun e w' => e = .returned (.tuple #[.int .i64 ((Ere.digits p 4 i 0 0).1 : Int), .bool (Ere.cntOk (Ere.digits p 4 i 0 0))]) ∧ Turn g (g + 1) w w' ∧ Blk w' g 76 (rdC p (Ere.digits p 4 i 0 0).2.1) := by
  have hT : Turn g (g + 1) w w := Turn.refl _ _ _
  go_enter Try.func100, Try.ntmps100
  go_wp2_with (fail)
  go_loopw [4, 5] (fun nv mv wr => ∃ n m : Nat, m ≤ 4 ∧ n < 10 ^ m ∧ nv = .int .i64 n ∧ mv = .int .i64 m ∧ Turn g (g + 1) w wr ∧ Blk wr g 76 (rdC p (i + m)) ∧ Ere.digits p 4 i 0 0 = Ere.digits p (4 - m) (i + m) n m) (fun _ mv _ => 4 - (intOf mv).toNat)
  case atStart => exact ⟨0, 0, by omega, by decide, rfl, rfl, hT, hg, rfl⟩
  case round =>
    clear hT hg
    obtain ⟨n, m, hm, hn, rfl, rfl, hT, hg, hd⟩ := hrel
    obtain ⟨q, hq⟩ : ∃ q, Ere.oneOf p (i + m) [48, 49, 50, 51, 52, 53, 54, 55, 56, 57] = q := ⟨_, rfl⟩
    have c1 : wr.cell? ⟨g, 1, none⟩ = some (.int .i64 ((i : Int) + (m : Int))) := hg.cellv (by simp [rdC])
    have ho := one_any g p ⟨#[48, 49, 50, 51, 52, 53, 54, 55, 56, 57]⟩ (i + m) (i + m) wr hg
    rw [show (List.map UInt8.toNat (⟨#[48, 49, 50, 51, 52, 53, 54, 55, 56, 57]⟩ : ByteArray).data.toList) = [48, 49, 50, 51, 52, 53, 54, 55, 56, 57] from rfl, hq, Int.natCast_add] at ho
    have hq2 := one_digit p (i + m)
    rw [hq] at hq2
    clear hq
    cases q with
    | false =>
      have hf : Ere.digits p 4 i 0 0 = (n, i + m, m) := by
        rw [hd]
        cases h4 : 4 - m with
        | zero => rfl
        | succ k => unfold Ere.digits; rw [← hq2]; rfl
      clear hd hq2
      replace hf := Lib.hid hf
      go_wp2_with (go_at_call 81; refine ho.mono ?_; rintro e w2 ⟨rfl, hB⟩)
      all_goals go_ret2
      all_goals rw [hf.out]
      all_goals refine ⟨cnt_end ?_, hT.then_ hB, blk_then hg hB⟩
      all_goals unfold Ere.cntOk
      all_goals (rw [Bool.eq_iff_iff]; simp only [Bool.and_eq_true, decide_eq_true_eq, Bool.false_eq_true, false_iff]; omega)
    | true =>
      simp only [Bool.true_eq, Bool.and_eq_true, decide_eq_true_eq] at hq2
      obtain ⟨⟨hjs, h48⟩, h57⟩ := hq2
      by_cases hm4 : m < 4
      · have hmI : (m : Int) < 4 := by omega
        have c0 : wr.cell? ⟨g, 0, none⟩ = some (.string p) := hg.cellv rfl
        go_wp2_with (go_at_call 81; refine ho.mono ?_; rintro e w2 ⟨rfl, hB⟩)
        obtain ⟨j, hj⟩ : ∃ j, i + m = j := ⟨_, rfl⟩
        have hjI : (i : Int) + (m : Int) = (j : Int) := by omega
        have hgj := blk_then hg hB
        rw [hj] at hgj hjs h48 h57
        have d0 : w2.cell? ⟨g, 0, none⟩ = some (.string p) := hgj.cellv rfl
        have d1 : w2.cell? ⟨g, 1, none⟩ = some (.int .i64 (j : Int)) := hgj.cellv rfl
        have hI : (j : Int) < p.size := by omega
        have hI0 : ¬ (j : Int) < 0 := by omega
        have hch : Ere.chr p j = (p[j]).toNat := by unfold Ere.chr; rw [dif_pos hjs]
        have h48I : 48 ≤ (((p[j]).toNat : Nat) : Int) := by omega
        have h57I : (((p[j]).toNat : Nat) : Int) ≤ 57 := by omega
        have hnb : n < 10000 := Nat.lt_of_lt_of_le hn (Nat.le_trans (Nat.pow_le_pow_right (by decide) hm) (by decide))
        have hnI : (n : Int) < 10000 := by omega
        replace hd := Lib.hid hd
        replace hj := Lib.hid hj
        replace hjI := Lib.hid hjI
        replace hch := Lib.hid hch
        clear c0 c1 ho
        go_big_region
        have hgd : Blk w2.drew g 76 (rdC p j) := hgj.drew
        have hTd : Turn g (g + 1) w w2.drew := (hT.then_ hB).then_ ((Below.refl w2.heap.size w2).drew)
        obtain ⟨w3, hw3⟩ : ∃ y, y = w2.drew := ⟨_, rfl⟩
        rw [← hw3] at hgd hTd ⊢
        clear hw3 d0 d1 hgj hB hT hg
        have e1 : w3.cell? ⟨g, 1, none⟩ = some (.int .i64 (j : Int)) := hgd.cellv rfl
        have f1 := hgd.frozen 1
        have hj9 : (j : Int) ≤ 5000000000 := by have := hj.out; omega
        have hd2 : Ere.digits p 4 i 0 0 = Ere.digits p (4 - (m + 1)) (i + (m + 1)) (10 * n + ((p[j]).toNat - 48)) (m + 1) := by
          rw [hd.out]
          have hk : 4 - m = (4 - (m + 1)) + 1 := by omega
          rw [hk]
          conv => lhs; unfold Ere.digits
          rw [hj.out, if_pos (by simp [hjs, h48, h57]), hch.out, show i + (m + 1) = j + 1 by have := hj.out; omega]
        have hn2 : 10 * n + ((p[j]).toNat - 48) < 10 ^ (m + 1) := by rw [Nat.pow_succ]; omega
        have hG2 : ∀ v, Turn g (g + 1) w (w3.setCell ⟨g, 1, none⟩ v) := fun v => hTd.grown (only_setCell (World.grownBy.refl w3 (some g)) (.inl rfl) v) (fun q e => by injection e with e; omega)
        have hB2 : Blk (w3.setCell ⟨g, 1, none⟩ (.int .i64 ((j : Int) + 1))) g 76 (rdC p (i + (m + 1))) := hgd.set_eq (by simp [rdC]; have := hj.out; omega)
        replace hd2 := Lib.hid hd2
        replace hG2 := Lib.hid hG2
        replace hB2 := Lib.hid hB2
        replace hn2 := Lib.hid hn2
        go_wp2_with (fail)
        exact ⟨⟨10 * n + ((p[j]).toNat - 48), m + 1, by omega, hn2.out, by congr 1; omega, by congr 1, hG2.out _, hB2.out, hd2.out⟩, by simp only [intOf]; omega⟩
      · have hmI : ¬ (m : Int) < 4 := by omega
        have hf : Ere.digits p 4 i 0 0 = (n, i + m, m) := by
          rw [hd, show 4 - m = 0 by omega]
          rfl
        clear hd
        replace hf := Lib.hid hf
        go_wp2_with (go_at_call 81; refine ho.mono ?_; rintro e w2 ⟨rfl, hB⟩)
        all_goals go_ret2
        all_goals rw [hf.out]
        all_goals refine ⟨cnt_end ?_, hT.then_ hB, blk_then hg hB⟩
        all_goals unfold Ere.cntOk
        all_goals (rw [Bool.eq_iff_iff]; simp only [Bool.and_eq_true, decide_eq_true_eq, Bool.false_eq_true, false_iff]; omega)
end Go.Proofs.Ytajainmldcnaeaa
