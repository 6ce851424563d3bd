/- octets.Class: of any name. No condition beyond those named in each lemma. -/
import Derived.Test.YtajainmldcnaeaaClsA
import Derived.Test.YtajainmldcnaeaaClsB
import Derived.Test.YtajainmldcnaeaaClsC
import Derived.Test.YtajainmldcnaeaaClsD
import Derived.Test.YtajainmldcnaeaaClsN
import Derived.Test.YtajainmldcnaeaaEreP
namespace Go.Proofs.Ytajainmldcnaeaa
open Go.RowKit
set_option linter.unusedVariables false
set_option linter.unusedSimpArgs false

/-- what octets.Class answers of a name -/
def clsV (l : List Nat) : Value := match Ere.nameB l with
  | some x => .tuple #[.agg (setC x), .int .i64 0]
  | none => .tuple #[.agg (setC 0), .int .i64 30]
theorem u8_lit {l : List UInt8} {m : List UInt8} (h : l.map UInt8.toNat = m.map UInt8.toNat) : l = m := by
  induction l generalizing m with
  | nil => cases m <;> simp_all
  | cons a l ih =>
    cases m with
    | nil => simp at h
    | cons b m =>
      simp only [List.map_cons, List.cons.injEq] at h
      rw [UInt8.toNat_inj.1 h.1, ih h.2]
theorem clsV_alnum : clsV (([97, 108, 110, 117, 109] : List UInt8).map UInt8.toNat) = .tuple #[.agg (setC cls_alnum), .int .i64 0] := by kernel_rfl
theorem clsV_alpha : clsV (([97, 108, 112, 104, 97] : List UInt8).map UInt8.toNat) = .tuple #[.agg (setC cls_alpha), .int .i64 0] := by kernel_rfl
theorem clsV_lower : clsV (([108, 111, 119, 101, 114] : List UInt8).map UInt8.toNat) = .tuple #[.agg (setC cls_lower), .int .i64 0] := by kernel_rfl
theorem clsV_upper : clsV (([117, 112, 112, 101, 114] : List UInt8).map UInt8.toNat) = .tuple #[.agg (setC cls_upper), .int .i64 0] := by kernel_rfl
theorem clsV_xdigit : clsV (([120, 100, 105, 103, 105, 116] : List UInt8).map UInt8.toNat) = .tuple #[.agg (setC cls_xdigit), .int .i64 0] := by kernel_rfl
theorem clsV_digit : clsV (([100, 105, 103, 105, 116] : List UInt8).map UInt8.toNat) = .tuple #[.agg (setC cls_digit), .int .i64 0] := by kernel_rfl
theorem clsV_space : clsV (([115, 112, 97, 99, 101] : List UInt8).map UInt8.toNat) = .tuple #[.agg (setC cls_space), .int .i64 0] := by kernel_rfl
theorem clsV_blank : clsV (([98, 108, 97, 110, 107] : List UInt8).map UInt8.toNat) = .tuple #[.agg (setC cls_blank), .int .i64 0] := by kernel_rfl
theorem clsV_cntrl : clsV (([99, 110, 116, 114, 108] : List UInt8).map UInt8.toNat) = .tuple #[.agg (setC cls_cntrl), .int .i64 0] := by kernel_rfl
theorem clsV_print : clsV (([112, 114, 105, 110, 116] : List UInt8).map UInt8.toNat) = .tuple #[.agg (setC cls_print), .int .i64 0] := by kernel_rfl
theorem clsV_graph : clsV (([103, 114, 97, 112, 104] : List UInt8).map UInt8.toNat) = .tuple #[.agg (setC cls_graph), .int .i64 0] := by kernel_rfl
theorem clsV_punct : clsV (([112, 117, 110, 99, 116] : List UInt8).map UInt8.toNat) = .tuple #[.agg (setC cls_punct), .int .i64 0] := by kernel_rfl
theorem nameB_none (l : List UInt8) (h_alnum : ¬ l = [97, 108, 110, 117, 109]) (h_alpha : ¬ l = [97, 108, 112, 104, 97]) (h_lower : ¬ l = [108, 111, 119, 101, 114]) (h_upper : ¬ l = [117, 112, 112, 101, 114]) (h_xdigit : ¬ l = [120, 100, 105, 103, 105, 116]) (h_digit : ¬ l = [100, 105, 103, 105, 116]) (h_space : ¬ l = [115, 112, 97, 99, 101]) (h_blank : ¬ l = [98, 108, 97, 110, 107]) (h_cntrl : ¬ l = [99, 110, 116, 114, 108]) (h_print : ¬ l = [112, 114, 105, 110, 116]) (h_graph : ¬ l = [103, 114, 97, 112, 104]) (h_punct : ¬ l = [112, 117, 110, 99, 116]) : Ere.nameB (l.map UInt8.toNat) = none := by
  unfold Ere.nameB
  rw [if_neg (fun e => h_upper (u8_lit (m := [117, 112, 112, 101, 114]) (by rw [e]; rfl)))]
  rw [if_neg (fun e => h_lower (u8_lit (m := [108, 111, 119, 101, 114]) (by rw [e]; rfl)))]
  rw [if_neg (fun e => h_digit (u8_lit (m := [100, 105, 103, 105, 116]) (by rw [e]; rfl)))]
  rw [if_neg (fun e => h_alpha (u8_lit (m := [97, 108, 112, 104, 97]) (by rw [e]; rfl)))]
  rw [if_neg (fun e => h_alnum (u8_lit (m := [97, 108, 110, 117, 109]) (by rw [e]; rfl)))]
  rw [if_neg (fun e => h_xdigit (u8_lit (m := [120, 100, 105, 103, 105, 116]) (by rw [e]; rfl)))]
  rw [if_neg (fun e => h_blank (u8_lit (m := [98, 108, 97, 110, 107]) (by rw [e]; rfl)))]
  rw [if_neg (fun e => h_space (u8_lit (m := [115, 112, 97, 99, 101]) (by rw [e]; rfl)))]
  rw [if_neg (fun e => h_cntrl (u8_lit (m := [99, 110, 116, 114, 108]) (by rw [e]; rfl)))]
  rw [if_neg (fun e => h_graph (u8_lit (m := [103, 114, 97, 112, 104]) (by rw [e]; rfl)))]
  rw [if_neg (fun e => h_print (u8_lit (m := [112, 114, 105, 110, 116]) (by rw [e]; rfl)))]
  rw [if_neg (fun e => h_punct (u8_lit (m := [112, 117, 110, 99, 116]) (by rw [e]; rfl)))]
theorem class_all (s : ByteArray) (w : World) : Calls Try.prog 105 #[.string s] w fun e w' => e = .returned (clsV (s.toList.map UInt8.toNat)) ∧ Below w.heap.size w w' := by
  by_cases h_alnum : s.toList = [97, 108, 110, 117, 109]
  · rw [h_alnum, clsV_alnum]
    exact class_alnum s w (Lib.hid h_alnum)
  by_cases h_alpha : s.toList = [97, 108, 112, 104, 97]
  · rw [h_alpha, clsV_alpha]
    exact class_alpha s w (Lib.hid h_alpha)
  by_cases h_lower : s.toList = [108, 111, 119, 101, 114]
  · rw [h_lower, clsV_lower]
    exact class_lower s w (Lib.hid h_lower)
  by_cases h_upper : s.toList = [117, 112, 112, 101, 114]
  · rw [h_upper, clsV_upper]
    exact class_upper s w (Lib.hid h_upper)
  by_cases h_xdigit : s.toList = [120, 100, 105, 103, 105, 116]
  · rw [h_xdigit, clsV_xdigit]
    exact class_xdigit s w (Lib.hid h_xdigit)
  by_cases h_digit : s.toList = [100, 105, 103, 105, 116]
  · rw [h_digit, clsV_digit]
    exact class_digit s w (Lib.hid h_digit)
  by_cases h_space : s.toList = [115, 112, 97, 99, 101]
  · rw [h_space, clsV_space]
    exact class_space s w (Lib.hid h_space)
  by_cases h_blank : s.toList = [98, 108, 97, 110, 107]
  · rw [h_blank, clsV_blank]
    exact class_blank s w (Lib.hid h_blank)
  by_cases h_cntrl : s.toList = [99, 110, 116, 114, 108]
  · rw [h_cntrl, clsV_cntrl]
    exact class_cntrl s w (Lib.hid h_cntrl)
  by_cases h_print : s.toList = [112, 114, 105, 110, 116]
  · rw [h_print, clsV_print]
    exact class_print s w (Lib.hid h_print)
  by_cases h_graph : s.toList = [103, 114, 97, 112, 104]
  · rw [h_graph, clsV_graph]
    exact class_graph s w (Lib.hid h_graph)
  by_cases h_punct : s.toList = [112, 117, 110, 99, 116]
  · rw [h_punct, clsV_punct]
    exact class_punct s w (Lib.hid h_punct)
  rw [show clsV (s.toList.map UInt8.toNat) = .tuple #[.agg (setC 0), .int .i64 30] by unfold clsV; rw [nameB_none s.toList h_alnum h_alpha h_lower h_upper h_xdigit h_digit h_space h_blank h_cntrl h_print h_graph h_punct]]
  exact class_none s w h_alnum h_alpha h_lower h_upper h_xdigit h_digit h_space h_blank h_cntrl h_print h_graph h_punct
end Go.Proofs.Ytajainmldcnaeaa
