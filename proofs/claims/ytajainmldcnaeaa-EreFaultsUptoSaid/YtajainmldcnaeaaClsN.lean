/- The walk of octets.Class: no name. -/
import Derived.Test.YtajainmldcnaeaaOctG
namespace Go.Proofs.Ytajainmldcnaeaa
open Go.RowKit
set_option linter.unusedVariables false
set_option linter.unusedSimpArgs false

set_option maxRecDepth 100000 in
set_option maxHeartbeats 2000000 in
theorem class_none (s : ByteArray) (w : World) (h_alnum : ¬ s.toList = [97, 108, 110, 117, 109]) (h_alpha : ¬ s.toList = [97, 108, 112, 104, 97]) (h_lower : ¬ s.toList = [108, 111, 119, 101, 114]) (h_upper : ¬ s.toList = [117, 112, 112, 101, 114]) (h_xdigit : ¬ s.toList = [120, 100, 105, 103, 105, 116]) (h_digit : ¬ s.toList = [100, 105, 103, 105, 116]) (h_space : ¬ s.toList = [115, 112, 97, 99, 101]) (h_blank : ¬ s.toList = [98, 108, 97, 110, 107]) (h_cntrl : ¬ s.toList = [99, 110, 116, 114, 108]) (h_print : ¬ s.toList = [112, 114, 105, 110, 116]) (h_graph : ¬ s.toList = [103, 114, 97, 112, 104]) (h_punct : ¬ s.toList = [112, 117, 110, 99, 116]) : Calls Try.prog 105 #[.string s] w fun e w' => e = .returned (.tuple #[.agg (setC 0), .int .i64 30]) ∧ Below w.heap.size w w' := by
  have q_alnum : (s.toList == [97, 108, 110, 117, 109]) = false := by rw [beq_eq_false_iff_ne]; exact h_alnum
  have q_alpha : (s.toList == [97, 108, 112, 104, 97]) = false := by rw [beq_eq_false_iff_ne]; exact h_alpha
  have q_lower : (s.toList == [108, 111, 119, 101, 114]) = false := by rw [beq_eq_false_iff_ne]; exact h_lower
  have q_upper : (s.toList == [117, 112, 112, 101, 114]) = false := by rw [beq_eq_false_iff_ne]; exact h_upper
  have q_xdigit : (s.toList == [120, 100, 105, 103, 105, 116]) = false := by rw [beq_eq_false_iff_ne]; exact h_xdigit
  have q_digit : (s.toList == [100, 105, 103, 105, 116]) = false := by rw [beq_eq_false_iff_ne]; exact h_digit
  have q_space : (s.toList == [115, 112, 97, 99, 101]) = false := by rw [beq_eq_false_iff_ne]; exact h_space
  have q_blank : (s.toList == [98, 108, 97, 110, 107]) = false := by rw [beq_eq_false_iff_ne]; exact h_blank
  have q_cntrl : (s.toList == [99, 110, 116, 114, 108]) = false := by rw [beq_eq_false_iff_ne]; exact h_cntrl
  have q_print : (s.toList == [112, 114, 105, 110, 116]) = false := by rw [beq_eq_false_iff_ne]; exact h_print
  have q_graph : (s.toList == [103, 114, 97, 112, 104]) = false := by rw [beq_eq_false_iff_ne]; exact h_graph
  have q_punct : (s.toList == [112, 117, 110, 99, 116]) = false := by rw [beq_eq_false_iff_ne]; exact h_punct
  have h_alnum' := Lib.hid h_alnum
  clear h_alnum
  have h_alpha' := Lib.hid h_alpha
  clear h_alpha
  have h_lower' := Lib.hid h_lower
  clear h_lower
  have h_upper' := Lib.hid h_upper
  clear h_upper
  have h_xdigit' := Lib.hid h_xdigit
  clear h_xdigit
  have h_digit' := Lib.hid h_digit
  clear h_digit
  have h_space' := Lib.hid h_space
  clear h_space
  have h_blank' := Lib.hid h_blank
  clear h_blank
  have h_cntrl' := Lib.hid h_cntrl
  clear h_cntrl
  have h_print' := Lib.hid h_print
  clear h_print
  have h_graph' := Lib.hid h_graph
  clear h_graph
  have h_punct' := Lib.hid h_punct
  clear h_punct
  have hb2 := (Blk.new w 24 (setC 0)).alloc (.cells (setC 0) 24)
  have hb4 := Blk.new' (w.alloc (.cells (setC 0) 24)) 24 (setC 0) (World.size_alloc _ _).symm
  have hB := below_alloc (below_alloc (Below.refl w.heap.size w) (.cells (setC 0) 24)) (.cells (setC 0) 24)
  go_enter Try.func105, Try.ntmps105
  go_wp2_with (first | (refine wl_load_set rfl _ rfl _ rfl _ hb4 ?_) | (refine wl_store_set rfl _ _ rfl _ _ rfl rfl _ hb2 ?_; intro w9 hb9 hg9))
  exact ret_set2 rfl rfl hb9 rfl ⟨rfl, below_grown hB hg9 (Nat.le_refl _)⟩

end Go.Proofs.Ytajainmldcnaeaa
