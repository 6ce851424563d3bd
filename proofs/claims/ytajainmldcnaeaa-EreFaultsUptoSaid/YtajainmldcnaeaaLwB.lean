/- heronlaw04.set: a node of these bytes. No condition beyond those named in each lemma. -/
import Derived.Test.YtajainmldcnaeaaLwA
namespace Go.Proofs.Ytajainmldcnaeaa
open Go.RowKit Go.Maps
set_option linter.unusedVariables false
set_option linter.unusedSimpArgs false
attribute [local go_sem] Oper.semAt_some

set_option maxRecDepth 100000 in
set_option maxHeartbeats 2000000 in
theorem set4_any (s : ByteArray) (w : World) (hs : s.size ≤ 1000000) :
    Calls Try.prog 36 #[.string s] w fun e w' => e = .returned (.agg (NV.mk 2 (ofB s.data.toList) none 0 0 0 0).C) ∧ Below w.heap.size w w' := by
  have hsI : (s.size : Int) ≤ 1000000 := by omega
  obtain ⟨X, hX⟩ : ∃ X, ofB s.data.toList = X := ⟨_, rfl⟩
  rw [hX]
  replace hX := Lib.hid hX
  go_enter Try.func36, Try.ntmps36
  have h2 : Blk ((w.alloc (.cells zeroC 27)).alloc (.cells #[.int .u64 0, .int .u64 0, .int .u64 0, .int .u64 0] 24)) w.heap.size 27 zeroC := (Blk.new _ _ _).alloc _
  have h3 : Blk ((w.alloc (.cells zeroC 27)).alloc (.cells #[.int .u64 0, .int .u64 0, .int .u64 0, .int .u64 0] 24)) (w.heap.size + 1) 24 (setC 0) := by rw [set0_eq]; exact Blk.new' _ _ _ (by simp)
  have hB : Below w.heap.size w ((w.alloc (.cells zeroC 27)).alloc (.cells #[.int .u64 0, .int .u64 0, .int .u64 0, .int .u64 0] 24)) := below_alloc (below_alloc (Below.refl _ _) _) _
  unfold zeroC at h2 h3 hB
  go_upto_region 2 with (fail)
  obtain ⟨w1, hw1⟩ : ∃ y, y = (w.alloc (.cells zeroC 27)).alloc (.cells #[.int .u64 0, .int .u64 0, .int .u64 0, .int .u64 0] 24) := ⟨_, rfl⟩
  unfold zeroC at hw1
  rw [← hw1] at h2 h3 hB ⊢
  clear hw1
  obtain ⟨g2, hg2⟩ : ∃ y, y = w.heap.size := ⟨_, rfl⟩
  obtain ⟨g3, hg3⟩ : ∃ y, y = w.heap.size + 1 := ⟨_, rfl⟩
  have hne := Lib.hid (show g2 ≠ g3 ∧ w.heap.size ≤ g2 ∧ w.heap.size ≤ g3 by omega)
  rw [← hg3] at h3 ⊢
  rw [← hg2] at h2 ⊢
  clear hg2 hg3
  go_wp2_with (fail)
  go_loopw [4] (fun iv wr => ∃ i : Nat, i ≤ s.size ∧ iv = .int .i64 i ∧ Below w.heap.size w wr ∧ Blk wr g2 27 #[.int .i64 0, .int .u64 0, .int .u64 0, .int .u64 0, .int .u64 0, .slice none 0 0, .int .i64 0, .int .i64 0] ∧ Blk wr g3 24 (setC (ofB (s.data.toList.take i)))) (fun iv _ => s.size - (intOf iv).toNat)
  case atStart => exact ⟨0, by omega, rfl, hB, h2, h3⟩
  case round =>
    clear hB h2 h3
    obtain ⟨i, hi, rfl, hB, h2, h3⟩ := hrel
    by_cases hlt : i < s.size
    · have hltI : (i : Int) < s.size := by omega
      have hi0 : ¬ (i : Int) < 0 := by omega
      obtain ⟨b, hb⟩ : ∃ v : Nat, s[i].toNat = v := ⟨_, rfl⟩
      have hb8 : b < 256 := by rw [← hb]; exact s[i].toNat_lt
      have hsn : s.data.toList.take (i + 1) = s.data.toList.take i ++ [s[i]] := by
        have hl : i < s.data.toList.length := by simpa using hlt
        have e : s.data.toList[i] = s[i] := by
          have := Lib.data_getElem? s i hlt
          rw [List.getElem?_eq_getElem hl] at this
          injection this
        rw [← e]
        exact take_snoc' _ i hl
      have hof := ofB_snoc (s.data.toList.take i) s[i]
      rw [← hsn, hb] at hof
      obtain ⟨x, hx⟩ : ∃ x, ofB (s.data.toList.take i) = x := ⟨_, rfl⟩
      rw [hx] at h3 hof
      have c1 := h3.cellv (setC_at _ (b / 64) (by omega))
      have f1 := h3.frozen (b / 64)
      have hbI : (b : Int) < 256 := by omega
      replace hof := Lib.hid hof
      replace hsn := Lib.hid hsn
      replace hx := Lib.hid hx
      go_upto_region 5 with (fail)
      go_big_region
      rw [putB hb8]
      have h3' := (h3.set_eq (put_set hb8)).drew
      have h2' := (h2.far (p := ⟨g3, b / 64, none⟩) (by have := hne.out; simp; omega) (.int .u64 ((word x (b / 64) ||| 2 ^ (b % 64) : Nat) : Int))).drew
      have hB' : Below w.heap.size w ((wr.setCell ⟨g3, b / 64, none⟩ (.int .u64 ((word x (b / 64) ||| 2 ^ (b % 64) : Nat) : Int))).drew) := (hB.setCell (by have := hne.out; exact this.2.2) _).drew
      rw [← hof.out] at h3'
      generalize (wr.setCell ⟨g3, b / 64, none⟩ (.int .u64 ((word x (b / 64) ||| 2 ^ (b % 64) : Nat) : Int))).drew = w5 at h3' h2' hB' ⊢
      clear c1 f1 h3 h2 hB
      go_wp2_with (fail)
      exact ⟨⟨i + 1, by omega, by congr 1, hB', h2', h3'⟩, by simp only [intOf]; omega⟩
    · have hltI : ¬ (i : Int) < s.size := by omega
      have hall : s.data.toList.take i = s.data.toList := List.take_of_length_le (by simp; omega)
      rw [hall, hX.out] at h3
      clear hall
      go_wp2_with (first | (refine wl_load_set rfl _ rfl g3 rfl _ h3 ?_) | (refine wl_build_node rfl _ rfl ⟨2, X, none, 0, 0, 0, 0⟩ #[(0, .int .i64 2), (1, .agg (setC X))] rfl (fun w => build_nset 2 _ w) ?_) | (refine wl_store_nv rfl _ _ rfl g2 ⟨2, X, none, 0, 0, 0, 0⟩ rfl rfl _ rfl h2 ?_; intro wz hz hgz))
      exact ret_nv rfl rfl hz rfl ⟨rfl, below_grown hB hgz hne.out.2.1⟩
end Go.Proofs.Ytajainmldcnaeaa
