/- Class, the program's and the document's: of every name the same set and number. -/
import Derived.Test.YtjpiebapemalfaaClassA
import Derived.Test.YtjpiebapemalfaaClassB
import Derived.Test.YtjpiebapemalfaaClassC
import Derived.Test.YtjpiebapemalfaaClassD
import Derived.Test.YtjpiebapemalfaaMemA
import Derived.Test.YtjpiebapemalfaaMemB
import Derived.Test.YtjpiebapemalfaaMemC
namespace Go.Proofs.Ytjpiebapemalfaa
open Go.RowKit
set_option linter.unusedVariables false
set_option linter.unusedSimpArgs false

theorem eqc_alnum : setTo mp_alnum 256 = cls_alnum := by decide +kernel
theorem eqc_alpha : setTo mp_alpha 256 = cls_alpha := by decide +kernel
theorem eqc_lower : setTo mp_lower 256 = cls_lower := by decide +kernel
theorem eqc_upper : setTo mp_upper 256 = cls_upper := by decide +kernel
theorem eqc_xdigit : setTo mp_xdigit 256 = cls_xdigit := by decide +kernel
theorem eqc_digit : setTo mp_digit 256 = cls_digit := by decide +kernel
theorem eqc_space : setTo mp_space 256 = cls_space := by decide +kernel
theorem eqc_blank : setTo mp_blank 256 = cls_blank := by decide +kernel
theorem eqc_cntrl : setTo mp_cntrl 256 = cls_cntrl := by decide +kernel
theorem eqc_print : setTo mp_print 256 = cls_print := by decide +kernel
theorem eqc_graph : setTo mp_graph 256 = cls_graph := by decide +kernel
theorem eqc_punct : setTo mp_punct 256 = cls_punct := by decide +kernel

def clsN (s : ByteArray) : BSet := if s.toList = [97, 108, 110, 117, 109] then cls_alnum else if s.toList = [97, 108, 112, 104, 97] then cls_alpha else if s.toList = [108, 111, 119, 101, 114] then cls_lower else if s.toList = [117, 112, 112, 101, 114] then cls_upper else if s.toList = [120, 100, 105, 103, 105, 116] then cls_xdigit else if s.toList = [100, 105, 103, 105, 116] then cls_digit else if s.toList = [115, 112, 97, 99, 101] then cls_space else if s.toList = [98, 108, 97, 110, 107] then cls_blank else if s.toList = [99, 110, 116, 114, 108] then cls_cntrl else if s.toList = [112, 114, 105, 110, 116] then cls_print else if s.toList = [103, 114, 97, 112, 104] then cls_graph else if s.toList = [112, 117, 110, 99, 116] then cls_punct else 0
def clsE (s : ByteArray) : Int := if s.toList = [97, 108, 110, 117, 109] then 0 else if s.toList = [97, 108, 112, 104, 97] then 0 else if s.toList = [108, 111, 119, 101, 114] then 0 else if s.toList = [117, 112, 112, 101, 114] then 0 else if s.toList = [120, 100, 105, 103, 105, 116] then 0 else if s.toList = [100, 105, 103, 105, 116] then 0 else if s.toList = [115, 112, 97, 99, 101] then 0 else if s.toList = [98, 108, 97, 110, 107] then 0 else if s.toList = [99, 110, 116, 114, 108] then 0 else if s.toList = [112, 114, 105, 110, 116] then 0 else if s.toList = [103, 114, 97, 112, 104] then 0 else if s.toList = [112, 117, 110, 99, 116] then 0 else 30
theorem class_any (s : ByteArray) (w : World) : Calls Try.prog 39 #[.string s] w fun e w' => e = .returned (.tuple #[.agg (setC (clsN s)), .int .i64 (clsE s)]) ∧ Below w.heap.size w w' := by
  by_cases h_alnum : s.toList = [97, 108, 110, 117, 109]
  · have e1 : clsN s = cls_alnum := by unfold clsN; rw [if_pos h_alnum]
    have e2 : clsE s = 0 := by unfold clsE; rw [if_pos h_alnum]
    rw [e1, e2]
    exact class_alnum s w (Lib.hid h_alnum)
  by_cases h_alpha : s.toList = [97, 108, 112, 104, 97]
  · have e1 : clsN s = cls_alpha := by unfold clsN; rw [if_neg h_alnum, if_pos h_alpha]
    have e2 : clsE s = 0 := by unfold clsE; rw [if_neg h_alnum, if_pos h_alpha]
    rw [e1, e2]
    exact class_alpha s w (Lib.hid h_alpha)
  by_cases h_lower : s.toList = [108, 111, 119, 101, 114]
  · have e1 : clsN s = cls_lower := by unfold clsN; rw [if_neg h_alnum, if_neg h_alpha, if_pos h_lower]
    have e2 : clsE s = 0 := by unfold clsE; rw [if_neg h_alnum, if_neg h_alpha, if_pos h_lower]
    rw [e1, e2]
    exact class_lower s w (Lib.hid h_lower)
  by_cases h_upper : s.toList = [117, 112, 112, 101, 114]
  · have e1 : clsN s = cls_upper := by unfold clsN; rw [if_neg h_alnum, if_neg h_alpha, if_neg h_lower, if_pos h_upper]
    have e2 : clsE s = 0 := by unfold clsE; rw [if_neg h_alnum, if_neg h_alpha, if_neg h_lower, if_pos h_upper]
    rw [e1, e2]
    exact class_upper s w (Lib.hid h_upper)
  by_cases h_xdigit : s.toList = [120, 100, 105, 103, 105, 116]
  · have e1 : clsN s = cls_xdigit := by unfold clsN; rw [if_neg h_alnum, if_neg h_alpha, if_neg h_lower, if_neg h_upper, if_pos h_xdigit]
    have e2 : clsE s = 0 := by unfold clsE; rw [if_neg h_alnum, if_neg h_alpha, if_neg h_lower, if_neg h_upper, if_pos h_xdigit]
    rw [e1, e2]
    exact class_xdigit s w (Lib.hid h_xdigit)
  by_cases h_digit : s.toList = [100, 105, 103, 105, 116]
  · have e1 : clsN s = cls_digit := by unfold clsN; rw [if_neg h_alnum, if_neg h_alpha, if_neg h_lower, if_neg h_upper, if_neg h_xdigit, if_pos h_digit]
    have e2 : clsE s = 0 := by unfold clsE; rw [if_neg h_alnum, if_neg h_alpha, if_neg h_lower, if_neg h_upper, if_neg h_xdigit, if_pos h_digit]
    rw [e1, e2]
    exact class_digit s w (Lib.hid h_digit)
  by_cases h_space : s.toList = [115, 112, 97, 99, 101]
  · have e1 : clsN s = cls_space := by unfold clsN; rw [if_neg h_alnum, if_neg h_alpha, if_neg h_lower, if_neg h_upper, if_neg h_xdigit, if_neg h_digit, if_pos h_space]
    have e2 : clsE s = 0 := by unfold clsE; rw [if_neg h_alnum, if_neg h_alpha, if_neg h_lower, if_neg h_upper, if_neg h_xdigit, if_neg h_digit, if_pos h_space]
    rw [e1, e2]
    exact class_space s w (Lib.hid h_space)
  by_cases h_blank : s.toList = [98, 108, 97, 110, 107]
  · have e1 : clsN s = cls_blank := by unfold clsN; rw [if_neg h_alnum, if_neg h_alpha, if_neg h_lower, if_neg h_upper, if_neg h_xdigit, if_neg h_digit, if_neg h_space, if_pos h_blank]
    have e2 : clsE s = 0 := by unfold clsE; rw [if_neg h_alnum, if_neg h_alpha, if_neg h_lower, if_neg h_upper, if_neg h_xdigit, if_neg h_digit, if_neg h_space, if_pos h_blank]
    rw [e1, e2]
    exact class_blank s w (Lib.hid h_blank)
  by_cases h_cntrl : s.toList = [99, 110, 116, 114, 108]
  · have e1 : clsN s = cls_cntrl := by unfold clsN; rw [if_neg h_alnum, if_neg h_alpha, if_neg h_lower, if_neg h_upper, if_neg h_xdigit, if_neg h_digit, if_neg h_space, if_neg h_blank, if_pos h_cntrl]
    have e2 : clsE s = 0 := by unfold clsE; rw [if_neg h_alnum, if_neg h_alpha, if_neg h_lower, if_neg h_upper, if_neg h_xdigit, if_neg h_digit, if_neg h_space, if_neg h_blank, if_pos h_cntrl]
    rw [e1, e2]
    exact class_cntrl s w (Lib.hid h_cntrl)
  by_cases h_print : s.toList = [112, 114, 105, 110, 116]
  · have e1 : clsN s = cls_print := by unfold clsN; rw [if_neg h_alnum, if_neg h_alpha, if_neg h_lower, if_neg h_upper, if_neg h_xdigit, if_neg h_digit, if_neg h_space, if_neg h_blank, if_neg h_cntrl, if_pos h_print]
    have e2 : clsE s = 0 := by unfold clsE; rw [if_neg h_alnum, if_neg h_alpha, if_neg h_lower, if_neg h_upper, if_neg h_xdigit, if_neg h_digit, if_neg h_space, if_neg h_blank, if_neg h_cntrl, if_pos h_print]
    rw [e1, e2]
    exact class_print s w (Lib.hid h_print)
  by_cases h_graph : s.toList = [103, 114, 97, 112, 104]
  · have e1 : clsN s = cls_graph := by unfold clsN; rw [if_neg h_alnum, if_neg h_alpha, if_neg h_lower, if_neg h_upper, if_neg h_xdigit, if_neg h_digit, if_neg h_space, if_neg h_blank, if_neg h_cntrl, if_neg h_print, if_pos h_graph]
    have e2 : clsE s = 0 := by unfold clsE; rw [if_neg h_alnum, if_neg h_alpha, if_neg h_lower, if_neg h_upper, if_neg h_xdigit, if_neg h_digit, if_neg h_space, if_neg h_blank, if_neg h_cntrl, if_neg h_print, if_pos h_graph]
    rw [e1, e2]
    exact class_graph s w (Lib.hid h_graph)
  by_cases h_punct : s.toList = [112, 117, 110, 99, 116]
  · have e1 : clsN s = cls_punct := by unfold clsN; rw [if_neg h_alnum, if_neg h_alpha, if_neg h_lower, if_neg h_upper, if_neg h_xdigit, if_neg h_digit, if_neg h_space, if_neg h_blank, if_neg h_cntrl, if_neg h_print, if_neg h_graph, if_pos h_punct]
    have e2 : clsE s = 0 := by unfold clsE; rw [if_neg h_alnum, if_neg h_alpha, if_neg h_lower, if_neg h_upper, if_neg h_xdigit, if_neg h_digit, if_neg h_space, if_neg h_blank, if_neg h_cntrl, if_neg h_print, if_neg h_graph, if_pos h_punct]
    rw [e1, e2]
    exact class_punct s w (Lib.hid h_punct)
  have e1 : clsN s = 0 := by unfold clsN; rw [if_neg h_alnum, if_neg h_alpha, if_neg h_lower, if_neg h_upper, if_neg h_xdigit, if_neg h_digit, if_neg h_space, if_neg h_blank, if_neg h_cntrl, if_neg h_print, if_neg h_graph, if_neg h_punct]
  have e2 : clsE s = 30 := by unfold clsE; rw [if_neg h_alnum, if_neg h_alpha, if_neg h_lower, if_neg h_upper, if_neg h_xdigit, if_neg h_digit, if_neg h_space, if_neg h_blank, if_neg h_cntrl, if_neg h_print, if_neg h_graph, if_neg h_punct]
  rw [e1, e2]
  exact class_none s w h_alnum h_alpha h_lower h_upper h_xdigit h_digit h_space h_blank h_cntrl h_print h_graph h_punct
theorem rclass_any (s : ByteArray) (w : World) : Calls Try.prog 40 #[.string s] w fun e w' => e = .returned (.tuple #[.agg (setC (clsN s)), .int .i64 (clsE s)]) ∧ Below w.heap.size w w' := by
  by_cases h_alnum : s.toList = [97, 108, 110, 117, 109]
  · have e1 : clsN s = cls_alnum := by unfold clsN; rw [if_pos h_alnum]
    have e2 : clsE s = 0 := by unfold clsE; rw [if_pos h_alnum]
    rw [e1, e2]
    rw [← eqc_alnum]; exact rclass_of s mp_alnum (Lib.hid fun b hb w => mem_alnum s b hb w (Lib.hid h_alnum)) w
  by_cases h_alpha : s.toList = [97, 108, 112, 104, 97]
  · have e1 : clsN s = cls_alpha := by unfold clsN; rw [if_neg h_alnum, if_pos h_alpha]
    have e2 : clsE s = 0 := by unfold clsE; rw [if_neg h_alnum, if_pos h_alpha]
    rw [e1, e2]
    rw [← eqc_alpha]; exact rclass_of s mp_alpha (Lib.hid fun b hb w => mem_alpha s b hb w (Lib.hid h_alpha)) w
  by_cases h_lower : s.toList = [108, 111, 119, 101, 114]
  · have e1 : clsN s = cls_lower := by unfold clsN; rw [if_neg h_alnum, if_neg h_alpha, if_pos h_lower]
    have e2 : clsE s = 0 := by unfold clsE; rw [if_neg h_alnum, if_neg h_alpha, if_pos h_lower]
    rw [e1, e2]
    rw [← eqc_lower]; exact rclass_of s mp_lower (Lib.hid fun b hb w => mem_lower s b hb w (Lib.hid h_lower)) w
  by_cases h_upper : s.toList = [117, 112, 112, 101, 114]
  · have e1 : clsN s = cls_upper := by unfold clsN; rw [if_neg h_alnum, if_neg h_alpha, if_neg h_lower, if_pos h_upper]
    have e2 : clsE s = 0 := by unfold clsE; rw [if_neg h_alnum, if_neg h_alpha, if_neg h_lower, if_pos h_upper]
    rw [e1, e2]
    rw [← eqc_upper]; exact rclass_of s mp_upper (Lib.hid fun b hb w => mem_upper s b hb w (Lib.hid h_upper)) w
  by_cases h_xdigit : s.toList = [120, 100, 105, 103, 105, 116]
  · have e1 : clsN s = cls_xdigit := by unfold clsN; rw [if_neg h_alnum, if_neg h_alpha, if_neg h_lower, if_neg h_upper, if_pos h_xdigit]
    have e2 : clsE s = 0 := by unfold clsE; rw [if_neg h_alnum, if_neg h_alpha, if_neg h_lower, if_neg h_upper, if_pos h_xdigit]
    rw [e1, e2]
    rw [← eqc_xdigit]; exact rclass_of s mp_xdigit (Lib.hid fun b hb w => mem_xdigit s b hb w (Lib.hid h_xdigit)) w
  by_cases h_digit : s.toList = [100, 105, 103, 105, 116]
  · have e1 : clsN s = cls_digit := by unfold clsN; rw [if_neg h_alnum, if_neg h_alpha, if_neg h_lower, if_neg h_upper, if_neg h_xdigit, if_pos h_digit]
    have e2 : clsE s = 0 := by unfold clsE; rw [if_neg h_alnum, if_neg h_alpha, if_neg h_lower, if_neg h_upper, if_neg h_xdigit, if_pos h_digit]
    rw [e1, e2]
    rw [← eqc_digit]; exact rclass_of s mp_digit (Lib.hid fun b hb w => mem_digit s b hb w (Lib.hid h_digit)) w
  by_cases h_space : s.toList = [115, 112, 97, 99, 101]
  · have e1 : clsN s = cls_space := by unfold clsN; rw [if_neg h_alnum, if_neg h_alpha, if_neg h_lower, if_neg h_upper, if_neg h_xdigit, if_neg h_digit, if_pos h_space]
    have e2 : clsE s = 0 := by unfold clsE; rw [if_neg h_alnum, if_neg h_alpha, if_neg h_lower, if_neg h_upper, if_neg h_xdigit, if_neg h_digit, if_pos h_space]
    rw [e1, e2]
    rw [← eqc_space]; exact rclass_of s mp_space (Lib.hid fun b hb w => mem_space s b hb w (Lib.hid h_space)) w
  by_cases h_blank : s.toList = [98, 108, 97, 110, 107]
  · have e1 : clsN s = cls_blank := by unfold clsN; rw [if_neg h_alnum, if_neg h_alpha, if_neg h_lower, if_neg h_upper, if_neg h_xdigit, if_neg h_digit, if_neg h_space, if_pos h_blank]
    have e2 : clsE s = 0 := by unfold clsE; rw [if_neg h_alnum, if_neg h_alpha, if_neg h_lower, if_neg h_upper, if_neg h_xdigit, if_neg h_digit, if_neg h_space, if_pos h_blank]
    rw [e1, e2]
    rw [← eqc_blank]; exact rclass_of s mp_blank (Lib.hid fun b hb w => mem_blank s b hb w (Lib.hid h_blank)) w
  by_cases h_cntrl : s.toList = [99, 110, 116, 114, 108]
  · have e1 : clsN s = cls_cntrl := by unfold clsN; rw [if_neg h_alnum, if_neg h_alpha, if_neg h_lower, if_neg h_upper, if_neg h_xdigit, if_neg h_digit, if_neg h_space, if_neg h_blank, if_pos h_cntrl]
    have e2 : clsE s = 0 := by unfold clsE; rw [if_neg h_alnum, if_neg h_alpha, if_neg h_lower, if_neg h_upper, if_neg h_xdigit, if_neg h_digit, if_neg h_space, if_neg h_blank, if_pos h_cntrl]
    rw [e1, e2]
    rw [← eqc_cntrl]; exact rclass_of s mp_cntrl (Lib.hid fun b hb w => mem_cntrl s b hb w (Lib.hid h_cntrl)) w
  by_cases h_print : s.toList = [112, 114, 105, 110, 116]
  · have e1 : clsN s = cls_print := by unfold clsN; rw [if_neg h_alnum, if_neg h_alpha, if_neg h_lower, if_neg h_upper, if_neg h_xdigit, if_neg h_digit, if_neg h_space, if_neg h_blank, if_neg h_cntrl, if_pos h_print]
    have e2 : clsE s = 0 := by unfold clsE; rw [if_neg h_alnum, if_neg h_alpha, if_neg h_lower, if_neg h_upper, if_neg h_xdigit, if_neg h_digit, if_neg h_space, if_neg h_blank, if_neg h_cntrl, if_pos h_print]
    rw [e1, e2]
    rw [← eqc_print]; exact rclass_of s mp_print (Lib.hid fun b hb w => mem_print s b hb w (Lib.hid h_print)) w
  by_cases h_graph : s.toList = [103, 114, 97, 112, 104]
  · have e1 : clsN s = cls_graph := by unfold clsN; rw [if_neg h_alnum, if_neg h_alpha, if_neg h_lower, if_neg h_upper, if_neg h_xdigit, if_neg h_digit, if_neg h_space, if_neg h_blank, if_neg h_cntrl, if_neg h_print, if_pos h_graph]
    have e2 : clsE s = 0 := by unfold clsE; rw [if_neg h_alnum, if_neg h_alpha, if_neg h_lower, if_neg h_upper, if_neg h_xdigit, if_neg h_digit, if_neg h_space, if_neg h_blank, if_neg h_cntrl, if_neg h_print, if_pos h_graph]
    rw [e1, e2]
    rw [← eqc_graph]; exact rclass_of s mp_graph (Lib.hid fun b hb w => mem_graph s b hb w (Lib.hid h_graph)) w
  by_cases h_punct : s.toList = [112, 117, 110, 99, 116]
  · have e1 : clsN s = cls_punct := by unfold clsN; rw [if_neg h_alnum, if_neg h_alpha, if_neg h_lower, if_neg h_upper, if_neg h_xdigit, if_neg h_digit, if_neg h_space, if_neg h_blank, if_neg h_cntrl, if_neg h_print, if_neg h_graph, if_pos h_punct]
    have e2 : clsE s = 0 := by unfold clsE; rw [if_neg h_alnum, if_neg h_alpha, if_neg h_lower, if_neg h_upper, if_neg h_xdigit, if_neg h_digit, if_neg h_space, if_neg h_blank, if_neg h_cntrl, if_neg h_print, if_neg h_graph, if_pos h_punct]
    rw [e1, e2]
    rw [← eqc_punct]; exact rclass_of s mp_punct (Lib.hid fun b hb w => mem_punct s b hb w (Lib.hid h_punct)) w
  have e1 : clsN s = 0 := by unfold clsN; rw [if_neg h_alnum, if_neg h_alpha, if_neg h_lower, if_neg h_upper, if_neg h_xdigit, if_neg h_digit, if_neg h_space, if_neg h_blank, if_neg h_cntrl, if_neg h_print, if_neg h_graph, if_neg h_punct]
  have e2 : clsE s = 30 := by unfold clsE; rw [if_neg h_alnum, if_neg h_alpha, if_neg h_lower, if_neg h_upper, if_neg h_xdigit, if_neg h_digit, if_neg h_space, if_neg h_blank, if_neg h_cntrl, if_neg h_print, if_neg h_graph, if_neg h_punct]
  rw [e1, e2]
  exact rclass_none s w (Lib.hid fun w => mem_none s 0 (by decide) w h_alnum h_alpha h_lower h_upper h_xdigit h_digit h_space h_blank h_cntrl h_print h_graph h_punct)

end Go.Proofs.Ytjpiebapemalfaa
