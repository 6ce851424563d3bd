/- The walks of heronref03.Class. -/
import Derived.Test.YtjpiebapemalfaaIn
import Derived.Test.YtjpiebapemalfaaStore
namespace Go.Proofs.Ytjpiebapemalfaa
open Go.RowKit
set_option linter.unusedVariables false
set_option linter.unusedSimpArgs false

def bitI (x : Bool) : Int := if x then 1 else 0

set_option maxRecDepth 100000 in
set_option maxHeartbeats 2000000 in
theorem mem_none (s : ByteArray) (b : Nat) (hb : b < 256) (w : World) (h_alnum : ¬ s.toList = [97, 108, 110, 117, 109]) (h_alpha : ¬ s.toList = [97, 108, 112, 104, 97]) (h_lower : ¬ s.toList = [108, 111, 119, 101, 114]) (h_upper : ¬ s.toList = [117, 112, 112, 101, 114]) (h_xdigit : ¬ s.toList = [120, 100, 105, 103, 105, 116]) (h_digit : ¬ s.toList = [100, 105, 103, 105, 116]) (h_space : ¬ s.toList = [115, 112, 97, 99, 101]) (h_blank : ¬ s.toList = [98, 108, 97, 110, 107]) (h_cntrl : ¬ s.toList = [99, 110, 116, 114, 108]) (h_print : ¬ s.toList = [112, 114, 105, 110, 116]) (h_graph : ¬ s.toList = [103, 114, 97, 112, 104]) (h_punct : ¬ s.toList = [112, 117, 110, 99, 116]) : Calls Try.prog 47 #[.string s, .int .i64 b] w fun e w' => e = .returned (.int .i64 (-1)) ∧ w' = w := by
  have q_alpha : (s.toList == [97, 108, 112, 104, 97]) = false := by rw [beq_eq_false_iff_ne]; exact h_alpha
  have q_digit : (s.toList == [100, 105, 103, 105, 116]) = false := by rw [beq_eq_false_iff_ne]; exact h_digit
  have q_alnum : (s.toList == [97, 108, 110, 117, 109]) = false := by rw [beq_eq_false_iff_ne]; exact h_alnum
  have q_upper : (s.toList == [117, 112, 112, 101, 114]) = false := by rw [beq_eq_false_iff_ne]; exact h_upper
  have q_lower : (s.toList == [108, 111, 119, 101, 114]) = false := by rw [beq_eq_false_iff_ne]; exact h_lower
  have q_xdigit : (s.toList == [120, 100, 105, 103, 105, 116]) = false := by rw [beq_eq_false_iff_ne]; exact h_xdigit
  have q_blank : (s.toList == [98, 108, 97, 110, 107]) = false := by rw [beq_eq_false_iff_ne]; exact h_blank
  have q_space : (s.toList == [115, 112, 97, 99, 101]) = false := by rw [beq_eq_false_iff_ne]; exact h_space
  have q_cntrl : (s.toList == [99, 110, 116, 114, 108]) = false := by rw [beq_eq_false_iff_ne]; exact h_cntrl
  have q_graph : (s.toList == [103, 114, 97, 112, 104]) = false := by rw [beq_eq_false_iff_ne]; exact h_graph
  have q_print : (s.toList == [112, 114, 105, 110, 116]) = false := by rw [beq_eq_false_iff_ne]; exact h_print
  have q_punct : (s.toList == [112, 117, 110, 99, 116]) = false := by rw [beq_eq_false_iff_ne]; exact h_punct
  have h_alnum' := Lib.hid h_alnum
  clear h_alnum
  have h_alpha' := Lib.hid h_alpha
  clear h_alpha
  have h_lower' := Lib.hid h_lower
  clear h_lower
  have h_upper' := Lib.hid h_upper
  clear h_upper
  have h_xdigit' := Lib.hid h_xdigit
  clear h_xdigit
  have h_digit' := Lib.hid h_digit
  clear h_digit
  have h_space' := Lib.hid h_space
  clear h_space
  have h_blank' := Lib.hid h_blank
  clear h_blank
  have h_cntrl' := Lib.hid h_cntrl
  clear h_cntrl
  have h_print' := Lib.hid h_print
  clear h_print
  have h_graph' := Lib.hid h_graph
  clear h_graph
  have h_punct' := Lib.hid h_punct
  clear h_punct
  go_enter Try.func47, Try.ntmps47
  go_wp2_with (go_at_call 48; refine (in_any _ _ _ _).mono ?_; rintro e w1 ⟨rfl, hw⟩; subst hw)
  go_ret
  exact ⟨rfl, rfl⟩
set_option maxRecDepth 100000 in
set_option maxHeartbeats 2000000 in
theorem class_none (s : ByteArray) (w : World) (h_alnum : ¬ s.toList = [97, 108, 110, 117, 109]) (h_alpha : ¬ s.toList = [97, 108, 112, 104, 97]) (h_lower : ¬ s.toList = [108, 111, 119, 101, 114]) (h_upper : ¬ s.toList = [117, 112, 112, 101, 114]) (h_xdigit : ¬ s.toList = [120, 100, 105, 103, 105, 116]) (h_digit : ¬ s.toList = [100, 105, 103, 105, 116]) (h_space : ¬ s.toList = [115, 112, 97, 99, 101]) (h_blank : ¬ s.toList = [98, 108, 97, 110, 107]) (h_cntrl : ¬ s.toList = [99, 110, 116, 114, 108]) (h_print : ¬ s.toList = [112, 114, 105, 110, 116]) (h_graph : ¬ s.toList = [103, 114, 97, 112, 104]) (h_punct : ¬ s.toList = [112, 117, 110, 99, 116]) : Calls Try.prog 39 #[.string s] w fun e w' => e = .returned (.tuple #[.agg (setC 0), .int .i64 30]) ∧ Below w.heap.size w w' := by
  have q_alpha : (s.toList == [97, 108, 112, 104, 97]) = false := by rw [beq_eq_false_iff_ne]; exact h_alpha
  have q_digit : (s.toList == [100, 105, 103, 105, 116]) = false := by rw [beq_eq_false_iff_ne]; exact h_digit
  have q_alnum : (s.toList == [97, 108, 110, 117, 109]) = false := by rw [beq_eq_false_iff_ne]; exact h_alnum
  have q_upper : (s.toList == [117, 112, 112, 101, 114]) = false := by rw [beq_eq_false_iff_ne]; exact h_upper
  have q_lower : (s.toList == [108, 111, 119, 101, 114]) = false := by rw [beq_eq_false_iff_ne]; exact h_lower
  have q_xdigit : (s.toList == [120, 100, 105, 103, 105, 116]) = false := by rw [beq_eq_false_iff_ne]; exact h_xdigit
  have q_blank : (s.toList == [98, 108, 97, 110, 107]) = false := by rw [beq_eq_false_iff_ne]; exact h_blank
  have q_space : (s.toList == [115, 112, 97, 99, 101]) = false := by rw [beq_eq_false_iff_ne]; exact h_space
  have q_cntrl : (s.toList == [99, 110, 116, 114, 108]) = false := by rw [beq_eq_false_iff_ne]; exact h_cntrl
  have q_graph : (s.toList == [103, 114, 97, 112, 104]) = false := by rw [beq_eq_false_iff_ne]; exact h_graph
  have q_print : (s.toList == [112, 114, 105, 110, 116]) = false := by rw [beq_eq_false_iff_ne]; exact h_print
  have q_punct : (s.toList == [112, 117, 110, 99, 116]) = false := by rw [beq_eq_false_iff_ne]; exact h_punct
  have h_alnum' := Lib.hid h_alnum
  clear h_alnum
  have h_alpha' := Lib.hid h_alpha
  clear h_alpha
  have h_lower' := Lib.hid h_lower
  clear h_lower
  have h_upper' := Lib.hid h_upper
  clear h_upper
  have h_xdigit' := Lib.hid h_xdigit
  clear h_xdigit
  have h_digit' := Lib.hid h_digit
  clear h_digit
  have h_space' := Lib.hid h_space
  clear h_space
  have h_blank' := Lib.hid h_blank
  clear h_blank
  have h_cntrl' := Lib.hid h_cntrl
  clear h_cntrl
  have h_print' := Lib.hid h_print
  clear h_print
  have h_graph' := Lib.hid h_graph
  clear h_graph
  have h_punct' := Lib.hid h_punct
  clear h_punct
  have hb2 := (Blk.new w 31 (setC 0)).alloc (.cells (setC 0) 31)
  have hb4 := Blk.new' (w.alloc (.cells (setC 0) 31)) 31 (setC 0) (World.size_alloc _ _).symm
  have hB := below_alloc (below_alloc (Below.refl w.heap.size w) (.cells (setC 0) 31)) (.cells (setC 0) 31)
  go_enter Try.func39, Try.ntmps39
  go_wp2_with (first | (refine wl_load_set rfl _ rfl _ rfl _ hb4 ?_) | (refine wl_store_set rfl _ _ rfl _ _ rfl rfl _ hb2 ?_; intro w9 hb9 hg9))
  exact ret_set2 rfl rfl hb9 rfl ⟨rfl, below_grown hB hg9 (Nat.le_refl _)⟩
theorem bitI_t : bitI true = 1 := rfl
theorem bitI_f : bitI false = 0 := rfl
set_option maxRecDepth 100000 in
set_option maxHeartbeats 2000000 in
theorem rclass_of (s : ByteArray) (P : Nat → Bool) (hm : Hid (∀ (b : Nat), b < 256 → ∀ w, Calls Try.prog 47 #[.string s, .int .i64 (b : Int)] w fun e w' => e = .returned (.int .i64 (bitI (P b))) ∧ w' = w)) (w : World) :
    Calls Try.prog 40 #[.string s] w fun e w' => e = .returned (.tuple #[.agg (setC (setTo P 256)), .int .i64 0]) ∧ Below w.heap.size w w' := by
  go_enter Try.func40, Try.ntmps40
  go_wp2
  go_loopw [5] (fun i wr => ∃ k : Nat, k ≤ 256 ∧ i = .int .i64 k ∧ Blk wr (w.heap.size + 1) 31 (setC (setTo P k)) ∧ Blk wr w.heap.size 31 (setC 0) ∧ Below w.heap.size w wr) (fun i _ => 256 - (intOf i).toNat)
  case atStart =>
    refine ⟨0, by omega, rfl, ?_, ?_, ?_⟩
    · rw [show setTo P 0 = 0 from rfl]
      exact Blk.new' _ _ _ (World.size_alloc _ _).symm
    · exact (Blk.new _ _ _).alloc _
    · exact below_alloc (below_alloc (Below.refl _ _) _) _
  case round =>
    obtain ⟨k, hk, rfl, hb1, hb2, hB⟩ := hrel
    by_cases hlt : k < 256
    · have hkI : (k : Int) < 256 := by omega
      cases hP : P k
      · have HP := Lib.hid hP
        clear hP
        go_wp2_with (go_at_call 47; refine (hm.out k hlt _).mono ?_; rw [HP.out, bitI_f]; rintro e w1 ⟨rfl, hw⟩; subst hw)
        go_roundw
        case rel => exact ⟨k + 1, by omega, by go_num, by rw [setTo_succ_neg HP.out]; exact hb1, hb2, hB⟩
        case measure => simp [intOf]; omega
      · have HP := Lib.hid hP
        clear hP
        go_wp2_with (first
          | (go_at_call 47; refine (hm.out k hlt _).mono ?_; rw [HP.out, bitI_t]; rintro e w1 ⟨rfl, hw⟩; subst hw)
          | (refine wl_load_set rfl _ rfl _ rfl _ hb1 ?_)
          | (go_at_call 46; refine (with_nat _ _ hlt _).mono ?_; rintro e w2 ⟨rfl, hB1⟩; have hb11 := blk_then hb1 hB1; have hb21 := blk_then hb2 hB1; have hB2 := below_then hB hB1)
          | (refine wl_store_set rfl _ _ rfl _ _ rfl rfl _ hb11 ?_; intro w3 hb4 hg4))
        go_roundw
        case rel => exact ⟨k + 1, by omega, by go_num, by rw [setTo_succ_pos HP.out]; exact hb4, blk_grown hb21 hg4 (by omega), below_grown hB2 hg4 (by omega)⟩
        case measure => simp [intOf]; omega
    · obtain rfl : k = 256 := by omega
      go_wp2_with (first | (refine wl_load_set rfl _ rfl _ rfl _ hb1 ?_) | (refine wl_store_set rfl _ _ rfl _ _ rfl rfl _ hb2 ?_; intro w1 hb4 hg4))
      exact ret_set2 rfl rfl hb4 rfl ⟨rfl, below_grown hB hg4 (Nat.le_refl _)⟩
set_option maxRecDepth 100000 in
set_option maxHeartbeats 2000000 in
theorem rclass_none (s : ByteArray) (w : World) (hm : Hid (∀ w, Calls Try.prog 47 #[.string s, .int .i64 0] w fun e w' => e = .returned (.int .i64 (-1)) ∧ w' = w)) :
    Calls Try.prog 40 #[.string s] w fun e w' => e = .returned (.tuple #[.agg (setC 0), .int .i64 30]) ∧ Below w.heap.size w w' := by
  have hb2 := (Blk.new w 31 (setC 0)).alloc (.cells (setC 0) 31)
  have hB := below_alloc (below_alloc (Below.refl w.heap.size w) (.cells (setC 0) 31)) (.cells (setC 0) 31)
  go_enter Try.func40, Try.ntmps40
  go_wp2
  go_loopw [5] (fun i wr => i = .int .i64 0 ∧ wr = (w.alloc (.cells (setC 0) 31)).alloc (.cells (setC 0) 31)) (fun _ _ => 0)
  case atStart => exact ⟨rfl, rfl⟩
  case round =>
    obtain ⟨rfl, rfl⟩ := hrel
    go_wp2_with (first
      | (go_at_call 47; refine (hm.out _).mono ?_; rintro e w1 ⟨rfl, rfl⟩)
      | (refine wl_build_set rfl _ rfl 0 (fun _ => by kernel_rfl) ?_)
      | (refine wl_store_set rfl _ _ rfl _ _ rfl rfl _ hb2 ?_; intro w9 hb9 hg9))
    exact ret_set2 rfl rfl hb9 rfl ⟨rfl, below_grown hB hg9 (Nat.le_refl _)⟩

end Go.Proofs.Ytjpiebapemalfaa
