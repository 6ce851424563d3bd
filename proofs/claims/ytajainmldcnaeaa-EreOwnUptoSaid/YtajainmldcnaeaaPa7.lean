/- Part 7 of a proof; packed: the texts that it was made of follow one another. No condition beyond those named in each lemma. -/
import Derived.Test.YtajainmldcnaeaaPa6
namespace Go.Proofs.Ytajainmldcnaeaa
open Go.RowKit Go.Maps
set_option linter.unusedVariables false
set_option linter.unusedSimpArgs false
attribute [local go_sem] Oper.semAt_some

theorem rnm_upper : Ere.nameB (([117, 112, 112, 101, 114] : List UInt8).map UInt8.toNat) = some (spanB 65 90) := by kernel_rfl
theorem rnm_lower : Ere.nameB (([108, 111, 119, 101, 114] : List UInt8).map UInt8.toNat) = some (spanB 97 122) := by kernel_rfl
theorem rnm_digit : Ere.nameB (([100, 105, 103, 105, 116] : List UInt8).map UInt8.toNat) = some (spanB 48 57) := by kernel_rfl
theorem rnm_alpha : Ere.nameB (([97, 108, 112, 104, 97] : List UInt8).map UInt8.toNat) = some ((spanB 65 90) ||| spanB 97 122) := by kernel_rfl
theorem rnm_alnum : Ere.nameB (([97, 108, 110, 117, 109] : List UInt8).map UInt8.toNat) = some (((spanB 65 90) ||| spanB 97 122) ||| spanB 48 57) := by kernel_rfl
theorem rnm_xdigit : Ere.nameB (([120, 100, 105, 103, 105, 116] : List UInt8).map UInt8.toNat) = some (((spanB 48 57) ||| spanB 65 70) ||| spanB 97 102) := by kernel_rfl
theorem rnm_blank : Ere.nameB (([98, 108, 97, 110, 107] : List UInt8).map UInt8.toNat) = some ((spanB 9 9) ||| spanB 32 32) := by kernel_rfl
theorem rnm_space : Ere.nameB (([115, 112, 97, 99, 101] : List UInt8).map UInt8.toNat) = some ((spanB 9 13) ||| spanB 32 32) := by kernel_rfl
theorem rnm_cntrl : Ere.nameB (([99, 110, 116, 114, 108] : List UInt8).map UInt8.toNat) = some ((spanB 0 31) ||| spanB 127 127) := by kernel_rfl
theorem rnm_graph : Ere.nameB (([103, 114, 97, 112, 104] : List UInt8).map UInt8.toNat) = some (spanB 33 126) := by kernel_rfl
theorem rnm_print : Ere.nameB (([112, 114, 105, 110, 116] : List UInt8).map UInt8.toNat) = some (spanB 32 126) := by kernel_rfl
theorem rnm_punct : Ere.nameB (([112, 117, 110, 99, 116] : List UInt8).map UInt8.toNat) = some ((((spanB 33 47) ||| spanB 58 64) ||| spanB 91 96) ||| spanB 123 126) := by kernel_rfl
/-- what heronref04.Class answers of a name -/
def rclsV (l : List Nat) : Value := match Ere.nameB l with
  | some x => .tuple #[.agg (setC x), .bool true]
  | none => .tuple #[.agg (setC 0), .bool false]
theorem in4_int (x : BSet) (fi ti : Int) (h : 0 ≤ fi ∧ fi ≤ ti + 1 ∧ 0 ≤ ti ∧ ti < 256) (w : World) :
    Calls Try.prog 112 #[.agg (setC x), .int .i64 fi, .int .i64 ti] w fun e w' => e = .returned (.agg (setC (x ||| spanB fi.toNat ti.toNat))) ∧ Below w.heap.size w w' :=
  in4_any x fi.toNat ti.toNat fi ti (by omega) (by omega) (by omega) (by omega) w
theorem ret_set2' {fn : Func} {p u : Tmp} {g : Nat} {x : BSet} (hres : fn.results = #[.cell p 24, .tmp u]) {a : Act} {w : World}
    (hp : a.tmps.getD p undef = .pointer (some ⟨g, 0, none⟩)) (hb : Blk w g 24 (setC x))
    (hdf : a.defers = []) {R : Ending → World → Prop} (hR : R (.returned (.tuple #[.agg (setC x), a.tmps.getD u undef])) w) : bodyPost Try.prog fn R .ret a w :=
  ret_set2 hres hp hb hdf hR
set_option maxRecDepth 100000 in
set_option maxHeartbeats 16000000 in
theorem rclass4_any (s : ByteArray) (w : World) :
    Calls Try.prog 108 #[.string s] w fun e w' => e = .returned (rclsV (s.toList.map UInt8.toNat)) ∧ Below w.heap.size w w' := by
  obtain ⟨V, hV⟩ : ∃ V, rclsV (s.toList.map UInt8.toNat) = V := ⟨_, rfl⟩
  rw [hV]
  replace hV := Lib.hid hV
  go_enter Try.func108, Try.ntmps108
  have h2 : Blk ((w.alloc (.cells #[.int .u64 0, .int .u64 0, .int .u64 0, .int .u64 0] 24)).alloc (.cells #[.int .u64 0, .int .u64 0, .int .u64 0, .int .u64 0] 24)) w.heap.size 24 (setC 0) := by rw [set0_eq]; exact (Blk.new _ _ _).alloc _
  have h4 : Blk ((w.alloc (.cells #[.int .u64 0, .int .u64 0, .int .u64 0, .int .u64 0] 24)).alloc (.cells #[.int .u64 0, .int .u64 0, .int .u64 0, .int .u64 0] 24)) (w.heap.size + 1) 24 (setC 0) := by rw [set0_eq]; exact Blk.new' _ _ _ (by simp)
  have hB : Below w.heap.size w ((w.alloc (.cells #[.int .u64 0, .int .u64 0, .int .u64 0, .int .u64 0] 24)).alloc (.cells #[.int .u64 0, .int .u64 0, .int .u64 0, .int .u64 0] 24)) := below_alloc (below_alloc (Below.refl _ _) _) _
  go_upto_region 2 with (fail)
  obtain ⟨w1, hw1⟩ : ∃ y, y = (w.alloc (.cells #[.int .u64 0, .int .u64 0, .int .u64 0, .int .u64 0] 24)).alloc (.cells #[.int .u64 0, .int .u64 0, .int .u64 0, .int .u64 0] 24) := ⟨_, rfl⟩
  rw [← hw1] at h2 h4 hB ⊢
  clear hw1
  obtain ⟨g2, hg2⟩ : ∃ y, y = w.heap.size := ⟨_, rfl⟩
  obtain ⟨g4, hg4⟩ : ∃ y, y = w.heap.size + 1 := ⟨_, rfl⟩
  have hge := Lib.hid (show w.heap.size ≤ g2 by omega)
  rw [← hg4] at h4 ⊢
  rw [← hg2] at h2 ⊢
  clear hg2 hg4
  have kI := in4_any 0 65 90 65 90 rfl rfl (by decide) (by decide) w1
  go_upto_region 3 with (first | (refine wl_load_set rfl _ rfl g4 rfl _ h4 ?_) | (go_at_call 112; refine kI.mono ?_; rintro e wi5 ⟨rfl, hBi⟩) | (refine wl_store_set rfl _ _ rfl _ _ rfl rfl _ (Blk.new _ _ (setC 0)) ?_; intro wb5 h5 hgi))
  have hBj : Below w1.heap.size w1 wb5 := below_grown (below_alloc hBi (.cells #[.int .u64 0, .int .u64 0, .int .u64 0, .int .u64 0] 24)) hgi hBi.size
  obtain ⟨g5, hg5⟩ : ∃ y, y = wi5.heap.size := ⟨_, rfl⟩
  rw [← hg5] at h5 ⊢
  clear hg5 hBi hgi kI
  replace hB := below_then hB hBj
  replace h2 := blk_then h2 hBj
  replace h4 := blk_then h4 hBj
  clear hBj
  have kI := in4_any 0 97 122 97 122 rfl rfl (by decide) (by decide) wb5
  go_upto_region 4 with (first | (refine wl_load_set rfl _ rfl g4 rfl _ h4 ?_) | (go_at_call 112; refine kI.mono ?_; rintro e wi6 ⟨rfl, hBi⟩) | (refine wl_store_set rfl _ _ rfl _ _ rfl rfl _ (Blk.new _ _ (setC 0)) ?_; intro wb6 h6 hgi))
  have hBj : Below wb5.heap.size wb5 wb6 := below_grown (below_alloc hBi (.cells #[.int .u64 0, .int .u64 0, .int .u64 0, .int .u64 0] 24)) hgi hBi.size
  obtain ⟨g6, hg6⟩ : ∃ y, y = wi6.heap.size := ⟨_, rfl⟩
  rw [← hg6] at h6 ⊢
  clear hg6 hBi hgi kI
  replace hB := below_then hB hBj
  replace h2 := blk_then h2 hBj
  replace h4 := blk_then h4 hBj
  replace h5 := blk_then h5 hBj
  clear hBj
  have kI := in4_any 0 48 57 48 57 rfl rfl (by decide) (by decide) wb6
  go_upto_region 5 with (first | (refine wl_load_set rfl _ rfl g4 rfl _ h4 ?_) | (go_at_call 112; refine kI.mono ?_; rintro e wi7 ⟨rfl, hBi⟩) | (refine wl_store_set rfl _ _ rfl _ _ rfl rfl _ (Blk.new _ _ (setC 0)) ?_; intro wb7 h7 hgi))
  have hBj : Below wb6.heap.size wb6 wb7 := below_grown (below_alloc hBi (.cells #[.int .u64 0, .int .u64 0, .int .u64 0, .int .u64 0] 24)) hgi hBi.size
  obtain ⟨g7, hg7⟩ : ∃ y, y = wi7.heap.size := ⟨_, rfl⟩
  rw [← hg7] at h7 ⊢
  clear hg7 hBi hgi kI
  replace hB := below_then hB hBj
  replace h2 := blk_then h2 hBj
  replace h4 := blk_then h4 hBj
  replace h5 := blk_then h5 hBj
  replace h6 := blk_then h6 hBj
  clear hBj
  by_cases h_upper : s.toList = [117, 112, 112, 101, 114]
  · skip
    have q_upper : (s.toList == [117, 112, 112, 101, 114]) = true := by rw [h_upper]; decide
    have hVx : V = .tuple #[.agg (setC (spanB 65 90)), .bool true] := by rw [← hV.out]; unfold rclsV; rw [h_upper, rnm_upper]
    subst hVx
    replace h_upper := Lib.hid h_upper
    go_wp2_with (first | (refine wl_load_set rfl _ rfl g5 rfl _ h5 ?_) | (refine wl_store_set rfl _ _ rfl g2 _ rfl rfl _ h2 ?_; intro wz hz hgz))
    exact ret_set2 rfl rfl hz rfl ⟨rfl, below_grown hB hgz hge.out⟩
  have q_upper : (s.toList == [117, 112, 112, 101, 114]) = false := by rw [beq_eq_false_iff_ne]; exact h_upper
  replace h_upper := Lib.hid h_upper
  by_cases h_lower : s.toList = [108, 111, 119, 101, 114]
  · skip
    have q_lower : (s.toList == [108, 111, 119, 101, 114]) = true := by rw [h_lower]; decide
    have hVx : V = .tuple #[.agg (setC (spanB 97 122)), .bool true] := by rw [← hV.out]; unfold rclsV; rw [h_lower, rnm_lower]
    subst hVx
    replace h_lower := Lib.hid h_lower
    go_wp2_with (first | (refine wl_load_set rfl _ rfl g6 rfl _ h6 ?_) | (refine wl_store_set rfl _ _ rfl g2 _ rfl rfl _ h2 ?_; intro wz hz hgz))
    exact ret_set2 rfl rfl hz rfl ⟨rfl, below_grown hB hgz hge.out⟩
  have q_lower : (s.toList == [108, 111, 119, 101, 114]) = false := by rw [beq_eq_false_iff_ne]; exact h_lower
  replace h_lower := Lib.hid h_lower
  by_cases h_digit : s.toList = [100, 105, 103, 105, 116]
  · skip
    have q_digit : (s.toList == [100, 105, 103, 105, 116]) = true := by rw [h_digit]; decide
    have hVx : V = .tuple #[.agg (setC (spanB 48 57)), .bool true] := by rw [← hV.out]; unfold rclsV; rw [h_digit, rnm_digit]
    subst hVx
    replace h_digit := Lib.hid h_digit
    go_wp2_with (first | (refine wl_load_set rfl _ rfl g7 rfl _ h7 ?_) | (refine wl_store_set rfl _ _ rfl g2 _ rfl rfl _ h2 ?_; intro wz hz hgz))
    exact ret_set2 rfl rfl hz rfl ⟨rfl, below_grown hB hgz hge.out⟩
  have q_digit : (s.toList == [100, 105, 103, 105, 116]) = false := by rw [beq_eq_false_iff_ne]; exact h_digit
  replace h_digit := Lib.hid h_digit
  by_cases h_alpha : s.toList = [97, 108, 112, 104, 97]
  · skip
    have q_alpha : (s.toList == [97, 108, 112, 104, 97]) = true := by rw [h_alpha]; decide
    have hVx : V = .tuple #[.agg (setC ((spanB 65 90) ||| spanB 97 122)), .bool true] := by rw [← hV.out]; unfold rclsV; rw [h_alpha, rnm_alpha]
    subst hVx
    replace h_alpha := Lib.hid h_alpha
    go_wp2_with (first | (refine wl_load_set rfl _ rfl g5 rfl _ h5 ?_) | (go_at_call 112; (first | (refine (in4_int _ _ _ (by decide) _).mono ?_)); rintro e wc ⟨rfl, hBc⟩; simp only [Int.reduceToNat]; replace h2 := blk_then h2 hBc; replace hB := below_then hB hBc) | (refine wl_store_set rfl _ _ rfl g2 _ rfl rfl _ h2 ?_; intro wz hz hgz))
    exact ret_set2 rfl rfl hz rfl ⟨rfl, below_grown hB hgz hge.out⟩
  have q_alpha : (s.toList == [97, 108, 112, 104, 97]) = false := by rw [beq_eq_false_iff_ne]; exact h_alpha
  replace h_alpha := Lib.hid h_alpha
  by_cases h_alnum : s.toList = [97, 108, 110, 117, 109]
  · skip
    have q_alnum : (s.toList == [97, 108, 110, 117, 109]) = true := by rw [h_alnum]; decide
    have hVx : V = .tuple #[.agg (setC (((spanB 65 90) ||| spanB 97 122) ||| spanB 48 57)), .bool true] := by rw [← hV.out]; unfold rclsV; rw [h_alnum, rnm_alnum]
    subst hVx
    replace h_alnum := Lib.hid h_alnum
    go_wp2_with (first | (refine wl_load_set rfl _ rfl g5 rfl _ h5 ?_) | (go_at_call 112; (first | (refine (in4_int _ _ _ (by decide) _).mono ?_)); rintro e wc ⟨rfl, hBc⟩; simp only [Int.reduceToNat]; replace h2 := blk_then h2 hBc; replace hB := below_then hB hBc) | (refine wl_store_set rfl _ _ rfl g2 _ rfl rfl _ h2 ?_; intro wz hz hgz))
    exact ret_set2 rfl rfl hz rfl ⟨rfl, below_grown hB hgz hge.out⟩
  have q_alnum : (s.toList == [97, 108, 110, 117, 109]) = false := by rw [beq_eq_false_iff_ne]; exact h_alnum
  replace h_alnum := Lib.hid h_alnum
  by_cases h_xdigit : s.toList = [120, 100, 105, 103, 105, 116]
  · skip
    have q_xdigit : (s.toList == [120, 100, 105, 103, 105, 116]) = true := by rw [h_xdigit]; decide
    have hVx : V = .tuple #[.agg (setC (((spanB 48 57) ||| spanB 65 70) ||| spanB 97 102)), .bool true] := by rw [← hV.out]; unfold rclsV; rw [h_xdigit, rnm_xdigit]
    subst hVx
    replace h_xdigit := Lib.hid h_xdigit
    go_wp2_with (first | (refine wl_load_set rfl _ rfl g7 rfl _ h7 ?_) | (go_at_call 112; (first | (refine (in4_int _ _ _ (by decide) _).mono ?_)); rintro e wc ⟨rfl, hBc⟩; simp only [Int.reduceToNat]; replace h2 := blk_then h2 hBc; replace hB := below_then hB hBc) | (refine wl_store_set rfl _ _ rfl g2 _ rfl rfl _ h2 ?_; intro wz hz hgz))
    exact ret_set2 rfl rfl hz rfl ⟨rfl, below_grown hB hgz hge.out⟩
  have q_xdigit : (s.toList == [120, 100, 105, 103, 105, 116]) = false := by rw [beq_eq_false_iff_ne]; exact h_xdigit
  replace h_xdigit := Lib.hid h_xdigit
  by_cases h_blank : s.toList = [98, 108, 97, 110, 107]
  · skip
    have q_blank : (s.toList == [98, 108, 97, 110, 107]) = true := by rw [h_blank]; decide
    have hVx : V = .tuple #[.agg (setC ((spanB 9 9) ||| spanB 32 32)), .bool true] := by rw [← hV.out]; unfold rclsV; rw [h_blank, rnm_blank]
    subst hVx
    replace h_blank := Lib.hid h_blank
    go_wp2_with (first | (refine wl_load_set rfl _ rfl g4 rfl _ h4 ?_) | (go_at_call 112; (first | (refine (in4_int _ _ _ (by decide) _).mono ?_)); rintro e wc ⟨rfl, hBc⟩; simp only [Int.reduceToNat]; replace h2 := blk_then h2 hBc; replace hB := below_then hB hBc) | (refine wl_store_set rfl _ _ rfl g2 _ rfl rfl _ h2 ?_; intro wz hz hgz))
    exact ret_set2 rfl rfl hz rfl ⟨rfl, below_grown hB hgz hge.out⟩
  have q_blank : (s.toList == [98, 108, 97, 110, 107]) = false := by rw [beq_eq_false_iff_ne]; exact h_blank
  replace h_blank := Lib.hid h_blank
  by_cases h_space : s.toList = [115, 112, 97, 99, 101]
  · skip
    have q_space : (s.toList == [115, 112, 97, 99, 101]) = true := by rw [h_space]; decide
    have hVx : V = .tuple #[.agg (setC ((spanB 9 13) ||| spanB 32 32)), .bool true] := by rw [← hV.out]; unfold rclsV; rw [h_space, rnm_space]
    subst hVx
    replace h_space := Lib.hid h_space
    go_wp2_with (first | (refine wl_load_set rfl _ rfl g4 rfl _ h4 ?_) | (go_at_call 112; (first | (refine (in4_int _ _ _ (by decide) _).mono ?_)); rintro e wc ⟨rfl, hBc⟩; simp only [Int.reduceToNat]; replace h2 := blk_then h2 hBc; replace hB := below_then hB hBc) | (refine wl_store_set rfl _ _ rfl g2 _ rfl rfl _ h2 ?_; intro wz hz hgz))
    exact ret_set2 rfl rfl hz rfl ⟨rfl, below_grown hB hgz hge.out⟩
  have q_space : (s.toList == [115, 112, 97, 99, 101]) = false := by rw [beq_eq_false_iff_ne]; exact h_space
  replace h_space := Lib.hid h_space
  by_cases h_cntrl : s.toList = [99, 110, 116, 114, 108]
  · skip
    have q_cntrl : (s.toList == [99, 110, 116, 114, 108]) = true := by rw [h_cntrl]; decide
    have hVx : V = .tuple #[.agg (setC ((spanB 0 31) ||| spanB 127 127)), .bool true] := by rw [← hV.out]; unfold rclsV; rw [h_cntrl, rnm_cntrl]
    subst hVx
    replace h_cntrl := Lib.hid h_cntrl
    go_wp2_with (first | (refine wl_load_set rfl _ rfl g4 rfl _ h4 ?_) | (go_at_call 112; (first | (refine (in4_int _ _ _ (by decide) _).mono ?_)); rintro e wc ⟨rfl, hBc⟩; simp only [Int.reduceToNat]; replace h2 := blk_then h2 hBc; replace hB := below_then hB hBc) | (refine wl_store_set rfl _ _ rfl g2 _ rfl rfl _ h2 ?_; intro wz hz hgz))
    exact ret_set2 rfl rfl hz rfl ⟨rfl, below_grown hB hgz hge.out⟩
  have q_cntrl : (s.toList == [99, 110, 116, 114, 108]) = false := by rw [beq_eq_false_iff_ne]; exact h_cntrl
  replace h_cntrl := Lib.hid h_cntrl
  by_cases h_graph : s.toList = [103, 114, 97, 112, 104]
  · skip
    have q_graph : (s.toList == [103, 114, 97, 112, 104]) = true := by rw [h_graph]; decide
    have hVx : V = .tuple #[.agg (setC (spanB 33 126)), .bool true] := by rw [← hV.out]; unfold rclsV; rw [h_graph, rnm_graph]
    subst hVx
    replace h_graph := Lib.hid h_graph
    go_wp2_with (first | (refine wl_load_set rfl _ rfl g4 rfl _ h4 ?_) | (go_at_call 112; (first | (refine (in4_int _ _ _ (by decide) _).mono ?_)); rintro e wc ⟨rfl, hBc⟩; simp only [Int.reduceToNat]; replace h2 := blk_then h2 hBc; replace hB := below_then hB hBc) | (refine wl_store_set rfl _ _ rfl g2 _ rfl rfl _ h2 ?_; intro wz hz hgz))
    exact ret_set2 rfl rfl hz rfl ⟨rfl, below_grown hB hgz hge.out⟩
  have q_graph : (s.toList == [103, 114, 97, 112, 104]) = false := by rw [beq_eq_false_iff_ne]; exact h_graph
  replace h_graph := Lib.hid h_graph
  by_cases h_print : s.toList = [112, 114, 105, 110, 116]
  · skip
    have q_print : (s.toList == [112, 114, 105, 110, 116]) = true := by rw [h_print]; decide
    have hVx : V = .tuple #[.agg (setC (spanB 32 126)), .bool true] := by rw [← hV.out]; unfold rclsV; rw [h_print, rnm_print]
    subst hVx
    replace h_print := Lib.hid h_print
    go_wp2_with (first | (refine wl_load_set rfl _ rfl g4 rfl _ h4 ?_) | (go_at_call 112; (first | (refine (in4_int _ _ _ (by decide) _).mono ?_)); rintro e wc ⟨rfl, hBc⟩; simp only [Int.reduceToNat]; replace h2 := blk_then h2 hBc; replace hB := below_then hB hBc) | (refine wl_store_set rfl _ _ rfl g2 _ rfl rfl _ h2 ?_; intro wz hz hgz))
    exact ret_set2 rfl rfl hz rfl ⟨rfl, below_grown hB hgz hge.out⟩
  have q_print : (s.toList == [112, 114, 105, 110, 116]) = false := by rw [beq_eq_false_iff_ne]; exact h_print
  replace h_print := Lib.hid h_print
  by_cases h_punct : s.toList = [112, 117, 110, 99, 116]
  · skip
    have q_punct : (s.toList == [112, 117, 110, 99, 116]) = true := by rw [h_punct]; decide
    have hVx : V = .tuple #[.agg (setC ((((spanB 33 47) ||| spanB 58 64) ||| spanB 91 96) ||| spanB 123 126)), .bool true] := by rw [← hV.out]; unfold rclsV; rw [h_punct, rnm_punct]
    subst hVx
    replace h_punct := Lib.hid h_punct
    go_wp2_with (first | (refine wl_load_set rfl _ rfl g4 rfl _ h4 ?_) | (go_at_call 112; (first | (refine (in4_int _ _ _ (by decide) _).mono ?_)); rintro e wc ⟨rfl, hBc⟩; simp only [Int.reduceToNat]; replace h2 := blk_then h2 hBc; replace hB := below_then hB hBc) | (refine wl_store_set rfl _ _ rfl g2 _ rfl rfl _ h2 ?_; intro wz hz hgz))
    exact ret_set2 rfl rfl hz rfl ⟨rfl, below_grown hB hgz hge.out⟩
  have q_punct : (s.toList == [112, 117, 110, 99, 116]) = false := by rw [beq_eq_false_iff_ne]; exact h_punct
  replace h_punct := Lib.hid h_punct
  have hVx : V = .tuple #[.agg (setC 0), .bool false] := by rw [← hV.out]; unfold rclsV; rw [nameB_none s.toList h_alnum.out h_alpha.out h_lower.out h_upper.out h_xdigit.out h_digit.out h_space.out h_blank.out h_cntrl.out h_print.out h_graph.out h_punct.out]
  subst hVx
  go_wp2_with (first | (refine wl_load_set rfl _ rfl g4 rfl _ h4 ?_) | (refine wl_store_set rfl _ _ rfl g2 _ rfl rfl _ h2 ?_; intro wz hz hgz))
  exact ret_set2 rfl rfl hz rfl ⟨rfl, below_grown hB hgz hge.out⟩
end Go.Proofs.Ytajainmldcnaeaa
namespace Go.Proofs.Ytajainmldcnaeaa
open Go.RowKit Go.Maps
set_option linter.unusedVariables false
set_option linter.unusedSimpArgs false
attribute [local go_sem] Oper.semAt_some

namespace Ere
theorem endAt_is {p : ByteArray} {n i j : Nat} (hn : p.size ≤ n + i) (hij : i ≤ j) (hj : hit p j) (h : ∀ k, i ≤ k → k < j → ¬ hit p k) : endAt p n i = some j := by
  cases he : endAt p n i with
  | none => exact absurd hj (endAt_none p n i hn he j hij)
  | some m =>
    obtain ⟨a, b, c⟩ := endAt_some p n i m he
    rcases Nat.lt_trichotomy m j with h1 | h1 | h1
    · exact absurd b (h m a h1)
    · rw [h1]
    · exact absurd hj (c j hij h1)
theorem endAt_is_none {p : ByteArray} {n i : Nat} (h : ∀ k, i ≤ k → ¬ hit p k) : endAt p n i = none := by
  cases he : endAt p n i with
  | none => rfl
  | some m =>
    obtain ⟨a, b, c⟩ := endAt_some p n i m he
    exact absurd b (h m a)
theorem sub_is (p : ByteArray) (a n : Nat) (h : a + n ≤ p.size) : (p.extract a (a + n)).toList.map UInt8.toNat = sub p a (a + n) := by
  rw [← sub_extract p a n h]
  congr 2
  rw [ByteArray.extract_extract]
  congr 1
  omega
end Ere
/-- what a part of the document's reader hands back: an answer G of what is read, or F and the first fault -/
def RrAns {α : Type} (g : Nat) (p : ByteArray) (A : Option Addr) (n c : Nat) (w : World) (G : α → Value) (F : Value) (r : Ere.Res α) (e : Ending) (w' : World) : Prop := match r with
  | .got x j => e = .returned (G x) ∧ Turn g (g + 1) w w' ∧ Blk w' g 82 (rrC p j A n c 0 0)
  | .fault en at_ => en ≠ 0 ∧ e = .returned F ∧ Turn g (g + 1) w w' ∧ ∃ i', Blk w' g 82 (rrC p i' A n c en at_)
/-- all bytes but the newline -/
def noNl : BSet := notB 0
def hasC (c : BSet) (i : Nat) : Bool := c.getLsbD i && (i != 10)
theorem notB0_get (i : Nat) (hi : i < 256) : (notB 0).getLsbD i = (i != 10) := by
  rw [← setTo_hasnt, setTo_get _ _ _ hi, decide_eq_true hi, Bool.true_and]
  unfold hasnt
  simp
theorem setTo_hasC (c : BSet) : setTo (hasC c) 256 = c &&& notB 0 := by
  apply BitVec.eq_of_getLsbD_eq
  intro i hi
  rw [setTo_get _ _ _ hi, BitVec.getLsbD_and, notB0_get i hi, decide_eq_true hi, Bool.true_and]
  rfl
theorem has_step_t {x c : BSet} {b : Nat} (hb : b < 256) (h : c.getLsbD b = true) : x ||| setTo (hasC c) (b + 1) = withB (x ||| setTo (hasC c) b) b := by
  unfold withB
  by_cases e : b = 10
  · rw [if_pos e, setTo_succ_neg (by unfold hasC; rw [e]; simp)]
  · rw [if_neg e, setTo_succ_pos (by unfold hasC; rw [h]; simp [e]), BitVec.or_assoc]
theorem has_step_f {x c : BSet} {b : Nat} (hb : b < 256) (h : c.getLsbD b = false) : x ||| setTo (hasC c) (b + 1) = x ||| setTo (hasC c) b := by
  rw [setTo_succ_neg (by unfold hasC; rw [h]; rfl)]
set_option maxRecDepth 100000 in
set_option maxHeartbeats 4000000 in
theorem rclas_any (g : Nat) (p : ByteArray) (x : BSet) (i s : Nat) (A : Option Addr) (n c : Nat) (w : World) (hP : Blk w g 82 (rrC p i A n c 0 0)) (hp : p.size ≤ 1024) (hi : i ≤ 1024) :
    Calls Try.prog 106 #[.pointer (some ⟨g, 0, none⟩), .agg (setC x), .int .i64 (s : Int)] w fun e w' => RrAns g p A n c w (fun y : BSet => .agg (setC (x ||| (y &&& notB 0)))) (.agg (setC x)) (Ere.classR p s i) e w' := by
  obtain ⟨r, hr0⟩ : ∃ r, Ere.classR p s i = r := ⟨_, rfl⟩
  rw [hr0]
  have hR := hr0
  unfold Ere.classR at hR
  clear hr0
  replace hR := Lib.hid hR
  have hgl := Lib.hid hP.lt
  have hpI : (p.size : Int) ≤ 1024 := by omega
  have hiI : (i : Int) ≤ 1024 := by omega
  have hT := Turn.refl g (g + 1) w
  go_enter Try.func106, Try.ntmps106
  have h4 : Blk ((w.alloc (.cells (setC x) 24)).alloc (.cells #[.int .u64 0, .int .u64 0, .int .u64 0, .int .u64 0] 24)) w.heap.size 24 (setC x) := (Blk.new _ _ _).alloc _
  have h6 : Blk ((w.alloc (.cells (setC x) 24)).alloc (.cells #[.int .u64 0, .int .u64 0, .int .u64 0, .int .u64 0] 24)) (w.heap.size + 1) 24 (setC 0) := by rw [set0_eq]; exact Blk.new' _ _ _ (by simp)
  have hB : Below w.heap.size w ((w.alloc (.cells (setC x) 24)).alloc (.cells #[.int .u64 0, .int .u64 0, .int .u64 0, .int .u64 0] 24)) := below_alloc (below_alloc (Below.refl _ _) _) _
  go_upto_region 1 with (fail)
  obtain ⟨w1, hw1⟩ : ∃ y, y = (w.alloc (.cells (setC x) 24)).alloc (.cells #[.int .u64 0, .int .u64 0, .int .u64 0, .int .u64 0] 24) := ⟨_, rfl⟩
  rw [← hw1] at h4 h6 hB ⊢
  clear hw1
  obtain ⟨g4, hg4⟩ : ∃ y, y = w.heap.size := ⟨_, rfl⟩
  obtain ⟨g6, hg6⟩ : ∃ y, y = w.heap.size + 1 := ⟨_, rfl⟩
  have hne := Lib.hid (show g4 ≠ g ∧ g6 ≠ g ∧ g4 ≠ g6 ∧ w.heap.size ≤ g4 ∧ w.heap.size ≤ g6 ∧ g4 < w1.heap.size ∧ g6 < w1.heap.size by have := hgl.out; have := h4.lt; have := h6.lt; omega)
  rw [← hg6] at h6 ⊢
  rw [← hg4] at h4 ⊢
  clear hg4 hg6
  replace hP := blk_then hP hB
  replace hT := hT.then_ hB
  clear hB
  have c0 : w1.cell? ⟨g, 0, none⟩ = some (.string p) := hP.cellv rfl
  have c1 : w1.cell? ⟨g, 1, none⟩ = some (.int .i64 (i : Int)) := hP.cellv rfl
  go_wp2_with (fail)
  go_loopw [8] (fun iv wr => ∃ j : Nat, i + 2 ≤ j ∧ (j ≤ p.size ∨ j = i + 2) ∧ iv = .int .i64 j ∧ wr = w1 ∧ (∀ k, i + 2 ≤ k → k < j → ¬ Ere.hit p k)) (fun iv _ => p.size - (intOf iv).toNat)
  case atStart => exact ⟨i + 2, Nat.le_refl _, .inr rfl, by congr 1, rfl, fun k h1 h2 => by omega⟩
  case round =>
    obtain ⟨j, hij, hjb, rfl, hwr, hall⟩ := hrel
    have hjB : (j : Int) ≤ 1026 := by omega
    subst hwr
    replace hall := Lib.hid hall
    by_cases hjs : j + 1 < p.size
    · have hjsI : (j : Int) + 1 < p.size := by omega
      have hj0 : ¬ (j : Int) < 0 := by omega
      have hj0' : ¬ (j : Int) + 1 < 0 := by omega
      have hjI : (j : Int) < p.size := by omega
      have hch : Ere.chr p j = p[j].toNat := by unfold Ere.chr; rw [dif_pos (by omega)]
      have hch1 : Ere.chr p (j + 1) = p[j + 1].toNat := by unfold Ere.chr; rw [dif_pos hjs]
      replace hch := Lib.hid hch
      replace hch1 := Lib.hid hch1
      by_cases h58 : p[j].toNat = 58
      · have e58 : (((p[j].toNat : Nat) : Int) == 58) = true := by rw [beq_iff_eq]; omega
        by_cases h93 : p[j + 1].toNat = 93
        · have e93 : (((p[j + 1].toNat : Nat) : Int) == 93) = true := by rw [beq_iff_eq]; omega
          have hEnd := Ere.endAt_is (p := p) (n := p.size) (i := i + 2) (j := j) (by omega) hij ⟨hjs, by rw [hch.out, h58], by rw [hch1.out, h93]⟩ hall.out
          have hR2 := hR.out
          rw [hEnd] at hR2
          simp only at hR2
          clear hEnd hR
          obtain ⟨m, hm⟩ : ∃ m, j = i + 2 + m := ⟨j - (i + 2), by omega⟩
          have kC := rclass4_any (p.extract (i + 2) j) wr
          rw [hm, Ere.sub_is p (i + 2) m (by omega), ← hm] at kC
          unfold rclsV at kC
          have hjp : (i : Int) + 2 ≤ j := by omega
          have hjle : (j : Int) ≤ p.size := by omega
          have hj64 : (j : Int) ≤ 1024 := by omega
          clear hm hall
          replace h58 := Lib.hid h58
          replace h93 := Lib.hid h93
          cases hnb : Ere.nameB (Ere.sub p (i + 2) j) with
          | none =>
            rw [hnb] at kC hR2
            have hr := Lib.hid (show r = .fault 30 i from hR2.symm)
            clear hnb hR2
            simp only at kC
            go_upto_region 7 with (first | (go_at_call 108; refine kC.mono ?_; rintro e w2 ⟨rfl, hBc⟩) | (refine wl_store_set rfl _ _ rfl _ _ rfl rfl _ (Blk.new _ _ (setC 0)) ?_; intro w3 h9 hg9))
            have hBn := below_grown (below_alloc hBc (.cells #[.int .u64 0, .int .u64 0, .int .u64 0, .int .u64 0] 24)) hg9 hBc.size
            replace hP := blk_then hP hBn
            replace h4 := blk_then h4 hBn
            replace h6 := blk_then h6 hBn
            have hT1 := hT.then_ hBn
            clear hBn h9 hg9 hBc kC c0 c1
            have c1 : w3.cell? ⟨g, 1, none⟩ = some (.int .i64 (i : Int)) := hP.cellv rfl
            have kF := rfault_any hP 30 i 30 (i : Int) rfl rfl
            go_upto_region 9 with (go_at_call 42; refine kF.mono ?_; rintro e w4 ⟨rfl, hTf, hPf⟩)
            clear kF hP c1
            have hT2 := hT1.trans hTf
            replace h4 := blk_turn h4 hTf (by have := hne.out; omega)
            replace h6 := blk_turn h6 hTf (by have := hne.out; omega)
            go_wp2_with (first | (refine wl_load_set rfl _ rfl g4 rfl _ h4 ?_) | (refine wl_store_set rfl _ _ rfl g6 _ rfl rfl _ h6 ?_; intro wz hz hgz))
            rw [hr.out]
            exact ret_set rfl rfl hz rfl ⟨by decide, rfl, hT2.grown hgz (fun q e => by injection e with e; have := hne.out; right; omega), i, hPf.grown hgz (fun e => by injection e with e; have := hne.out; omega)⟩
          | some y =>
            rw [hnb] at kC hR2
            have hr := Lib.hid (show r = .got y (j + 2) from hR2.symm)
            clear hnb hR2
            simp only at kC
            go_upto_region 7 with (first | (go_at_call 108; refine kC.mono ?_; rintro e w2 ⟨rfl, hBc⟩) | (refine wl_store_set rfl _ _ rfl _ _ rfl rfl _ (Blk.new _ _ (setC 0)) ?_; intro w3 h9 hg9))
            have hBn := below_grown (below_alloc hBc (.cells #[.int .u64 0, .int .u64 0, .int .u64 0, .int .u64 0] 24)) hg9 hBc.size
            obtain ⟨g9, hg9e⟩ : ∃ z, z = w2.heap.size := ⟨_, rfl⟩
            have hne9 := Lib.hid (show g9 ≠ g ∧ g9 ≠ g4 ∧ g9 ≠ g6 by have := hne.out; have := hBc.size; have := hgl.out; have := hT.size; omega)
            rw [← hg9e] at h9 ⊢
            replace hP := blk_then hP hBn
            replace h4 := blk_then h4 hBn
            replace h6 := blk_then h6 hBn
            have hT1 := hT.then_ hBn
            clear hBn hg9 hBc kC c0 c1 hg9e
            have c1 : w3.cell? ⟨g, 1, none⟩ = some (.int .i64 (i : Int)) := hP.cellv rfl
            have f1 := hP.frozen 1
            go_upto_region 11 with (fail)
            have hP2 : Blk (w3.setCell ⟨g, 1, none⟩ (.int .i64 ((j : Int) + 2))) g 82 (rrC p (j + 2) A n c 0 0) := hP.set_ 1 (.int .i64 ((j : Int) + 2))
            have hT2 := turnRd hT1 1 (.int .i64 ((j : Int) + 2))
            have h42 := h4.far (p := ⟨g, 1, none⟩) (by have := hne.out; simp; omega) (.int .i64 ((j : Int) + 2))
            have h62 := h6.far (p := ⟨g, 1, none⟩) (by have := hne.out; simp; omega) (.int .i64 ((j : Int) + 2))
            have h92 := h9.far (p := ⟨g, 1, none⟩) (by have := hne9.out; simp; omega) (.int .i64 ((j : Int) + 2))
            obtain ⟨w4, hw4⟩ : ∃ z, z = w3.setCell ⟨g, 1, none⟩ (.int .i64 ((j : Int) + 2)) := ⟨_, rfl⟩
            rw [← hw4] at hP2 hT2 h42 h62 h92 ⊢
            clear hw4 c1 f1 hP hT1 h4 h6 h9
            go_wp2_with (fail)
            go_loopw [11] (fun iv wr => ∃ b : Nat, b ≤ 256 ∧ iv = .int .i64 b ∧ Turn g (g + 1) w wr ∧ Blk wr g 82 (rrC p (j + 2) A n c 0 0) ∧ Blk wr g4 24 (setC (x ||| setTo (hasC y) b)) ∧ Blk wr g6 24 (setC 0) ∧ Blk wr g9 24 (setC y)) (fun iv _ => 256 - (intOf iv).toNat)
            case atStart => exact ⟨0, by omega, rfl, hT2, hP2, by simpa [setTo] using h42, h62, h92⟩
            case round =>
              clear hP2 hT2 h42 h62 h92
              obtain ⟨b, hb, rfl, hT, hP, h4, h6, h9⟩ := hrel
              by_cases hlt : b < 256
              · have hltI : (b : Int) < 256 := by omega
                have hb0 : ¬ (b : Int) < 0 := by omega
                have c9 := h9.cellv (setC_at _ (b / 64) (by omega))
                have hz := Lib.hid (shr_one y b hlt)
                go_upto_if 82 with (fail)
                rw [hz.out]
                clear c9
                cases hq : y.getLsbD b with
                | false =>
                  have hst := Lib.hid (has_step_f (x := x) hlt hq)
                  clear hq
                  go_wp2_with (fail)
                  exact ⟨⟨b + 1, by omega, by congr 1, hT, hP, by rw [hst.out]; exact h4, h6, h9⟩, by simp only [intOf]; omega⟩
                | true =>
                  have hst := Lib.hid (has_step_t (x := x) hlt hq)
                  clear hq
                  have kW := with4_any (x ||| setTo (hasC y) b) b hlt
                  rename_i wr2
                  go_wp2_with (first | (refine wl_load_set rfl _ rfl g4 rfl _ h4 ?_) | (go_at_call 96; refine (kW _).mono ?_; rintro e w2 ⟨rfl, hB2⟩; have h42 := blk_then h4 hB2) | (refine wl_store_set rfl _ _ rfl g4 _ rfl rfl _ h42 ?_; intro w3 h43 hg3))
                  have hTz := (hT.then_ hB2).grown hg3 (fun q e => by injection e with e; have := hne.out; right; omega)
                  have hPz := (blk_then hP hB2).grown hg3 (fun e => by injection e with e; have := hne.out; omega)
                  have h6z := (blk_then h6 hB2).grown hg3 (fun e => by injection e with e; have := hne.out; omega)
                  have h9z := (blk_then h9 hB2).grown hg3 (fun e => by injection e with e; have := hne9.out; omega)
                  exact ⟨⟨b + 1, by omega, by congr 1, hTz, hPz, by rw [hst.out]; exact h43, h6z, h9z⟩, by simp only [intOf]; omega⟩
              · have hltI : ¬ (b : Int) < 256 := by omega
                obtain rfl : b = 256 := by omega
                rw [setTo_hasC] at h4
                go_wp2_with (first | (refine wl_load_set rfl _ rfl g4 rfl _ h4 ?_) | (refine wl_store_set rfl _ _ rfl g6 _ rfl rfl _ h6 ?_; intro wz hz hgz))
                rw [hr.out]
                exact ret_set rfl rfl hz rfl ⟨rfl, hT.grown hgz (fun q e => by injection e with e; have := hne.out; right; omega), hP.grown hgz (fun e => by injection e with e; have := hne.out; omega)⟩
        · have e93 : (((p[j + 1].toNat : Nat) : Int) == 93) = false := by rw [beq_eq_false_iff_ne]; omega
          have hno : ¬ Ere.hit p j := fun h => h93 (by rw [← hch1.out]; exact h.2.2)
          replace h58 := Lib.hid h58
          replace h93 := Lib.hid h93
          replace hno := Lib.hid hno
          go_wp2_with (fail)
          exact ⟨⟨j + 1, by omega, .inl (by omega), by congr 1, by trivial, fun k h1 h2 => by
            by_cases e : k = j
            · rw [e]; exact hno.out
            · exact hall.out k h1 (by omega)⟩, by simp only [intOf]; omega⟩
      · have e58 : (((p[j].toNat : Nat) : Int) == 58) = false := by rw [beq_eq_false_iff_ne]; omega
        have hno : ¬ Ere.hit p j := fun h => h58 (by rw [← hch.out]; exact h.2.1)
        replace h58 := Lib.hid h58
        replace hno := Lib.hid hno
        go_wp2_with (fail)
        exact ⟨⟨j + 1, by omega, .inl (by omega), by congr 1, by trivial, fun k h1 h2 => by
          by_cases e : k = j
          · rw [e]; exact hno.out
          · exact hall.out k h1 (by omega)⟩, by simp only [intOf]; omega⟩
    · have hjsI : ¬ (j : Int) + 1 < p.size := by omega
      have hEnd := Ere.endAt_is_none (p := p) (n := p.size) (i := i + 2) (fun k h1 h2 => by
        by_cases e : k < j
        · exact hall.out k h1 e h2
        · have := h2.1; omega)
      have hr := Lib.hid (show r = .fault 43 s by rw [← hR.out, hEnd])
      clear hEnd hR hall
      have kF := rfault_any hP 43 s 43 (s : Int) rfl rfl
      go_upto_region 18 with (go_at_call 42; refine kF.mono ?_; rintro e w2 ⟨rfl, hTf, hPf⟩)
      trace_state
      clear kF hP c0 c1
      have hT2 := hT.trans hTf
      replace h4 := blk_turn h4 hTf (by have := hne.out; omega)
      replace h6 := blk_turn h6 hTf (by have := hne.out; omega)
      go_wp2_with (first | (refine wl_load_set rfl _ rfl g4 rfl _ h4 ?_) | (refine wl_store_set rfl _ _ rfl g6 _ rfl rfl _ h6 ?_; intro wz hz hgz))
      rw [hr.out]
      exact ret_set rfl rfl hz rfl ⟨by decide, rfl, hT2.grown hgz (fun q e => by injection e with e; have := hne.out; right; omega), i, hPf.grown hgz (fun e => by injection e with e; have := hne.out; omega)⟩
end Go.Proofs.Ytajainmldcnaeaa
namespace Go.Proofs.Ytajainmldcnaeaa
open Go.RowKit Go.Maps
set_option linter.unusedVariables false
set_option linter.unusedSimpArgs false
attribute [local go_sem] Oper.semAt_some

theorem ris_int {g : Nat} {p : ByteArray} {k n c e0 a0 : Nat} {A : Option Addr} {w : World} (h : Blk w g 82 (rrC p k A n c e0 a0)) (ii ci : Int) (hi : 0 ≤ ii) (hc : 0 ≤ ci) :
    Calls Try.prog 60 #[.pointer (some ⟨g, 0, none⟩), .int .i64 ii, .int .u8 ci] w fun e w' => e = .returned (.bool (Ere.isAt p ii.toNat ci.toNat)) ∧ w' = w :=
  ris_at h ii.toNat ii ci.toNat ci (by omega) (by omega) rfl
theorem rmore_int {g : Nat} {p : ByteArray} {k n c e0 a0 : Nat} {A : Option Addr} {w : World} (h : Blk w g 82 (rrC p k A n c e0 a0)) (ii : Int) (hi : 0 ≤ ii) :
    Calls Try.prog 68 #[.pointer (some ⟨g, 0, none⟩), .int .i64 ii] w fun e w' => e = .returned (.bool (decide (ii.toNat < p.size))) ∧ w' = w :=
  rmore_at h ii.toNat ii (by omega) rfl
theorem withB_eq (x : BSet) (a : Nat) : withB x a = x ||| (bit a &&& notB 0) := by
  apply BitVec.eq_of_getLsbD_eq
  intro i hi
  unfold withB
  rw [BitVec.getLsbD_or, BitVec.getLsbD_and, notB0_get i hi, getLsbD_bit, decide_eq_true hi, Bool.true_and]
  by_cases e : a = 10
  · rw [if_pos e]
    by_cases ei : a = i
    · subst ei; rw [e]; simp
    · simp [ei]
  · rw [if_neg e, BitVec.getLsbD_or, getLsbD_bit, decide_eq_true hi, Bool.true_and]
    by_cases ei : a = i
    · subst ei; simp [e]
    · simp [ei]
theorem setTo_stop {q : Nat → Bool} {n : Nat} (h : ∀ i, n ≤ i → i < 256 → q i = false) (hn : n ≤ 256) : setTo q n = setTo q 256 := by
  apply BitVec.eq_of_getLsbD_eq
  intro i hi
  rw [setTo_get _ _ _ hi, setTo_get _ _ _ hi, decide_eq_true hi]
  by_cases h1 : i < n
  · rw [decide_eq_true h1]
  · rw [h i (by omega) hi]; simp
theorem oneOf2 (p : ByteArray) (i a b : Nat) : Ere.oneOf p i [a, b] = (Ere.isAt p i a || Ere.isAt p i b) := by
  unfold Ere.oneOf Ere.isAt
  cases decide (i < p.size)
  · rfl
  · rw [Bool.true_and, Bool.eq_iff_iff]; simp only [Bool.true_and, List.contains_iff_mem, List.mem_cons, List.not_mem_nil, or_false, Bool.or_eq_true, decide_eq_true_eq]
theorem oneOf3 (p : ByteArray) (i a b c : Nat) : Ere.oneOf p i [a, b, c] = (Ere.isAt p i a || Ere.isAt p i b || Ere.isAt p i c) := by
  unfold Ere.oneOf Ere.isAt
  cases decide (i < p.size)
  · rfl
  · rw [Bool.true_and, Bool.eq_iff_iff]; simp only [Bool.true_and, List.contains_iff_mem, List.mem_cons, List.not_mem_nil, or_false, Bool.or_eq_true, decide_eq_true_eq, or_assoc]
set_option maxRecDepth 100000 in
set_option maxHeartbeats 4000000 in
theorem ritem_any (g : Nat) (p : ByteArray) (x : BSet) (i s : Nat) (A : Option Addr) (n c : Nat) (w : World) (hP : Blk w g 82 (rrC p i A n c 0 0)) (hp : p.size ≤ 1024) (hi : i < p.size) :
    Calls Try.prog 103 #[.pointer (some ⟨g, 0, none⟩), .agg (setC x), .int .i64 (s : Int)] w fun e w' => RrAns g p A n c w (fun y : BSet => .agg (setC (x ||| (y &&& notB 0)))) (.agg (setC x)) (Ere.itemR p s i) e w' := by
  obtain ⟨r, hr0⟩ : ∃ r, Ere.itemR p s i = r := ⟨_, rfl⟩
  rw [hr0]
  have hR := hr0
  unfold Ere.itemR at hR
  rw [oneOf2, oneOf3] at hR
  obtain ⟨rc, hrc⟩ : ∃ r, Ere.classR p s i = r := ⟨_, rfl⟩
  obtain ⟨b91, q91⟩ : ∃ b, Ere.isAt p i 91 = b := ⟨_, rfl⟩
  obtain ⟨b58, q58⟩ : ∃ b, Ere.isAt p (i + 1) 58 = b := ⟨_, rfl⟩
  obtain ⟨b46, q46⟩ : ∃ b, Ere.isAt p (i + 1) 46 = b := ⟨_, rfl⟩
  obtain ⟨b61, q61⟩ : ∃ b, Ere.isAt p (i + 1) 61 = b := ⟨_, rfl⟩
  obtain ⟨b45, q45⟩ : ∃ b, Ere.isAt p (i + 1) 45 = b := ⟨_, rfl⟩
  obtain ⟨b93, q93⟩ : ∃ b, Ere.isAt p (i + 2) 93 = b := ⟨_, rfl⟩
  obtain ⟨c58, q358⟩ : ∃ b, Ere.isAt p (i + 3) 58 = b := ⟨_, rfl⟩
  obtain ⟨c46, q346⟩ : ∃ b, Ere.isAt p (i + 3) 46 = b := ⟨_, rfl⟩
  obtain ⟨c61, q361⟩ : ∃ b, Ere.isAt p (i + 3) 61 = b := ⟨_, rfl⟩
  have hle : decide (p.size ≤ i + 2) = !decide (i + 2 < p.size) := by
    by_cases h : i + 2 < p.size
    · rw [decide_eq_true h, decide_eq_false (by omega)]; rfl
    · rw [decide_eq_false h, decide_eq_true (by omega)]; rfl
  rw [hle] at hR
  obtain ⟨bm, qm⟩ : ∃ b, decide (i + 2 < p.size) = b := ⟨_, rfl⟩
  have hcl := rclas_any g p x i s A n c
  rw [hrc] at hcl
  rw [q91, q58, q46, q61, q45, q93, q358, q346, q361, qm, hrc] at hR
  obtain ⟨a, ha⟩ : ∃ v : Nat, p[i].toNat = v := ⟨_, rfl⟩
  have ha8 : a < 256 := by rw [← ha]; exact p[i].toNat_lt
  have hch : Ere.chr p i = a := by unfold Ere.chr; rw [dif_pos hi, ha]
  rw [hch] at hR
  have hcl := Lib.hid hcl
  replace hR := Lib.hid hR
  replace q91 := Lib.hid (show Ere.isAt p (i : Int).toNat (91 : Int).toNat = b91 from q91)
  replace q58 := Lib.hid (show Ere.isAt p ((i : Int) + 1).toNat (58 : Int).toNat = b58 from q58)
  replace q46 := Lib.hid (show Ere.isAt p ((i : Int) + 1).toNat (46 : Int).toNat = b46 from q46)
  replace q61 := Lib.hid (show Ere.isAt p ((i : Int) + 1).toNat (61 : Int).toNat = b61 from q61)
  replace q45 := Lib.hid (show Ere.isAt p ((i : Int) + 1).toNat (45 : Int).toNat = b45 from q45)
  replace q93 := Lib.hid (show Ere.isAt p ((i : Int) + 2).toNat (93 : Int).toNat = b93 from q93)
  replace q358 := Lib.hid (show Ere.isAt p ((i : Int) + 3).toNat (58 : Int).toNat = c58 from q358)
  replace q346 := Lib.hid (show Ere.isAt p ((i : Int) + 3).toNat (46 : Int).toNat = c46 from q346)
  replace q361 := Lib.hid (show Ere.isAt p ((i : Int) + 3).toNat (61 : Int).toNat = c61 from q361)
  have qm0 := Lib.hid qm
  replace qm := Lib.hid (show decide (((i : Int) + 2).toNat < p.size) = bm from qm)
  clear hr0 hrc hle hch
  have hgl := Lib.hid hP.lt
  have hT := Turn.refl g (g + 1) w
  have hiI : (i : Int) < p.size := by omega
  have hi0 : ¬ (i : Int) < 0 := by omega
  have hpI : (p.size : Int) ≤ 1024 := by omega
  go_enter Try.func103, Try.ntmps103
  have h4 : Blk ((w.alloc (.cells (setC x) 24)).alloc (.cells #[.int .u64 0, .int .u64 0, .int .u64 0, .int .u64 0] 24)) w.heap.size 24 (setC x) := (Blk.new _ _ _).alloc _
  have h6 : Blk ((w.alloc (.cells (setC x) 24)).alloc (.cells #[.int .u64 0, .int .u64 0, .int .u64 0, .int .u64 0] 24)) (w.heap.size + 1) 24 (setC 0) := by rw [set0_eq]; exact Blk.new' _ _ _ (by simp)
  have hB : Below w.heap.size w ((w.alloc (.cells (setC x) 24)).alloc (.cells #[.int .u64 0, .int .u64 0, .int .u64 0, .int .u64 0] 24)) := below_alloc (below_alloc (Below.refl _ _) _) _
  go_upto_region 1 with (fail)
  obtain ⟨w1, hw1⟩ : ∃ y, y = (w.alloc (.cells (setC x) 24)).alloc (.cells #[.int .u64 0, .int .u64 0, .int .u64 0, .int .u64 0] 24) := ⟨_, rfl⟩
  rw [← hw1] at h4 h6 hB ⊢
  clear hw1
  obtain ⟨g4, hg4⟩ : ∃ y, y = w.heap.size := ⟨_, rfl⟩
  obtain ⟨g6, hg6⟩ : ∃ y, y = w.heap.size + 1 := ⟨_, rfl⟩
  have hne := Lib.hid (show g4 ≠ g ∧ g6 ≠ g ∧ g4 ≠ g6 ∧ w.heap.size ≤ g4 ∧ w.heap.size ≤ g6 ∧ g4 < w1.heap.size ∧ g6 < w1.heap.size by have := hgl.out; have := h4.lt; have := h6.lt; omega)
  rw [← hg6] at h6 ⊢
  rw [← hg4] at h4 ⊢
  clear hg4 hg6
  replace hP := blk_then hP hB
  replace hT := hT.then_ hB
  clear hB
  have c0 : w1.cell? ⟨g, 0, none⟩ = some (.string p) := hP.cellv rfl
  have c1 : w1.cell? ⟨g, 1, none⟩ = some (.int .i64 (i : Int)) := hP.cellv rfl
  have kis := ris_int hP
  have kmore := rmore_int hP
  go_upto_region 2 with (fail)
  go_cut [23] from 15 to 24 (fun v wx => wx = w1 ∧ v = .bool (b91 && b58))
  case first =>
    cases b91 with
    | false =>
      go_wp2_with ((go_at_call 60; refine (kis _ _ (by omega) (by omega)).mono ?_; rintro e w2 ⟨rfl, hw2⟩; rw [hw2]; clear hw2; first | rw [q91.out] | rw [q58.out]))
      go_meet
      exact ⟨rfl, rfl⟩
    | true =>
      go_wp2_with ((go_at_call 60; refine (kis _ _ (by omega) (by omega)).mono ?_; rintro e w2 ⟨rfl, hw2⟩; rw [hw2]; clear hw2; first | rw [q91.out] | rw [q58.out]))
      go_meet
      exact ⟨rfl, rfl⟩
  obtain ⟨rfl, rfl⟩ := hcut
  cases hb1 : (b91 && b58) with
  | true =>
    have hr := Lib.hid (show r = rc by rw [← hR.out, if_pos hb1])
    clear kis kmore c0 c1
    have kC := hcl.out wc hP hp (by omega)
    cases rc with
    | fault e0 i0 =>
      go_wp2_with (first | (refine wl_load_set rfl _ rfl g4 rfl _ h4 ?_) | (go_at_call 106; refine kC.mono ?_; rintro e w4 ⟨hnz, rfl, hT4, i', hP4⟩; have h64 := blk_turn h6 hT4 (by have := hne.out; omega)) | (refine wl_store_set rfl _ _ rfl g6 _ rfl rfl _ h64 ?_; intro w5 h5 hg5))
      refine ret_set rfl rfl h5 rfl ?_
      rw [hr.out]
      exact ⟨hnz, rfl, (hT.trans hT4).grown hg5 (fun q e => by injection e with e; have := hne.out; right; omega), i', hP4.grown hg5 (fun e => by injection e with e; have := hne.out; omega)⟩
    | got y j =>
      go_wp2_with (first | (refine wl_load_set rfl _ rfl g4 rfl _ h4 ?_) | (go_at_call 106; refine kC.mono ?_; rintro e w4 ⟨rfl, hT4, hP4⟩; have h64 := blk_turn h6 hT4 (by have := hne.out; omega)) | (refine wl_store_set rfl _ _ rfl g6 _ rfl rfl _ h64 ?_; intro w5 h5 hg5))
      refine ret_set rfl rfl h5 rfl ?_
      rw [hr.out]
      exact ⟨rfl, (hT.trans hT4).grown hg5 (fun q e => by injection e with e; have := hne.out; right; omega), hP4.grown hg5 (fun e => by injection e with e; have := hne.out; omega)⟩
  | false =>
  clear hcl
  go_upto_region 4 with (fail)
  go_cut [42] from 28 to 43 (fun v wx => wx = wc ∧ v = .bool (b91 && (b46 || b61)))
  case first =>
    cases b91 with
    | false =>
      go_wp2_with ((go_at_call 60; refine (kis _ _ (by omega) (by omega)).mono ?_; rintro e w2 ⟨rfl, hw2⟩; rw [hw2]; clear hw2; first | rw [q91.out] | rw [q46.out] | rw [q61.out]))
      go_meet
      exact ⟨rfl, rfl⟩
    | true =>
      cases b46 with
      | true =>
        go_wp2_with ((go_at_call 60; refine (kis _ _ (by omega) (by omega)).mono ?_; rintro e w2 ⟨rfl, hw2⟩; rw [hw2]; clear hw2; first | rw [q91.out] | rw [q46.out] | rw [q61.out]))
        go_meet
        exact ⟨rfl, rfl⟩
      | false =>
        go_wp2_with ((go_at_call 60; refine (kis _ _ (by omega) (by omega)).mono ?_; rintro e w2 ⟨rfl, hw2⟩; rw [hw2]; clear hw2; first | rw [q91.out] | rw [q46.out] | rw [q61.out]))
        go_meet
        exact ⟨rfl, rfl⟩
  obtain ⟨rfl, rfl⟩ := hcut
  cases hb2 : (b91 && (b46 || b61)) with
  | true =>
    have hr := Lib.hid (show r = .fault 43 i by rw [← hR.out, hb1, hb2]; rfl)
    have kF := rfault_any hP 43 i 43 (i : Int) rfl rfl
    go_upto_region 6 with (first | (fail) | (go_at_call 42; refine kF.mono ?_; rintro e w4 ⟨rfl, hTf, hPf⟩))
    clear kF hP
    have hT2 := hT.trans hTf
    have h42 := blk_turn h4 hTf (by have := hne.out; omega)
    have h62 := blk_turn h6 hTf (by have := hne.out; omega)
    clear h4 h6
    go_wp2_with (first | (refine wl_load_set rfl _ rfl g4 rfl _ h42 ?_) | (refine wl_store_set rfl _ _ rfl g6 _ rfl rfl _ h62 ?_; intro wz hz hgz))
    rw [hr.out]
    exact ret_set rfl rfl hz rfl ⟨by decide, rfl, hT2.grown hgz (fun q e => by injection e with e; have := hne.out; right; omega), i, hPf.grown hgz (fun e => by injection e with e; have := hne.out; omega)⟩
  | false =>
  have hR2 := hR.out
  rw [hb1, hb2, if_neg (by decide), if_neg (by decide)] at hR2
  replace hR := Lib.hid hR2
  clear hR2
  clear hb1 hb2 q91 q58 q46 q61
  go_upto_region 8 with (fail)
  try rw [ha]
  go_cut [70] from 53 to 71 (fun v wx => wx = wc ∧ v = .bool (!b45 || !bm || b93))
  case first =>
    cases b45 with
    | false =>
      go_wp2_with ((go_at_call 60; refine (kis _ _ (by omega) (by omega)).mono ?_; rintro e w2 ⟨rfl, hw2⟩; rw [hw2]; clear hw2; first | rw [q45.out] | rw [q93.out]))
      go_meet
      exact ⟨rfl, rfl⟩
    | true =>
      cases bm with
      | false =>
        go_wp2_with (first | (go_at_call 60; refine (kis _ _ (by omega) (by omega)).mono ?_; rintro e w2 ⟨rfl, hw2⟩; rw [hw2]; clear hw2; first | rw [q45.out] | rw [q93.out]) | (go_at_call 68; refine (kmore _ (by omega)).mono ?_; rintro e w2 ⟨rfl, hw2⟩; rw [hw2]; clear hw2; rw [qm.out]))
        go_meet
        exact ⟨rfl, rfl⟩
      | true =>
        go_wp2_with (first | (go_at_call 60; refine (kis _ _ (by omega) (by omega)).mono ?_; rintro e w2 ⟨rfl, hw2⟩; rw [hw2]; clear hw2; first | rw [q45.out] | rw [q93.out]) | (go_at_call 68; refine (kmore _ (by omega)).mono ?_; rintro e w2 ⟨rfl, hw2⟩; rw [hw2]; clear hw2; rw [qm.out]))
        go_meet
        exact ⟨rfl, rfl⟩
  obtain ⟨rfl, rfl⟩ := hcut
  obtain ⟨t70, ht70⟩ : ∃ b, (!b45 || !bm || b93) = b := ⟨_, rfl⟩
  have hbm : t70 = false → i + 2 < p.size := fun h => by
    rw [h] at ht70
    have : bm = true := by cases bm <;> simp_all
    rw [this] at qm0
    exact of_decide_eq_true qm0.out
  have hR2 := hR.out
  rw [ht70] at hR2 ⊢
  clear hR ht70 qm qm0 q45 q93
  cases t70 with
  | true =>
    have hr := Lib.hid (show r = .got (bit a) (i + 1) from hR2.symm)
    clear hR2 hbm q358 q346 q361 kis kmore
    have f1 := hP.frozen 1
    go_upto_region 10 with (fail)
    have hP2 : Blk (wc.setCell ⟨g, 1, none⟩ (.int .i64 ((i : Int) + 1))) g 82 (rrC p (i + 1) A n c 0 0) := hP.set_ 1 (.int .i64 ((i : Int) + 1))
    have hT2 := turnRd hT 1 (.int .i64 ((i : Int) + 1))
    have h42 := h4.far (p := ⟨g, 1, none⟩) (by have := hne.out; simp; omega) (.int .i64 ((i : Int) + 1))
    have h62 := h6.far (p := ⟨g, 1, none⟩) (by have := hne.out; simp; omega) (.int .i64 ((i : Int) + 1))
    obtain ⟨w4, hw4⟩ : ∃ z, z = wc.setCell ⟨g, 1, none⟩ (.int .i64 ((i : Int) + 1)) := ⟨_, rfl⟩
    rw [← hw4] at hP2 hT2 h42 h62 ⊢
    clear hw4 c0 c1 f1 hP hT h4 h6
    have kW := with4_any x a ha8 w4
    go_wp2_with (first | (refine wl_load_set rfl _ rfl g4 rfl _ h42 ?_) | (go_at_call 96; refine kW.mono ?_; rintro e w5 ⟨rfl, hB5⟩; have h65 := blk_then h62 hB5) | (refine wl_store_set rfl _ _ rfl g6 _ rfl rfl _ h65 ?_; intro w6 hz hgz))
    rw [hr.out]
    refine ret_set rfl rfl hz rfl ⟨by rw [withB_eq], (hT2.then_ hB5).grown hgz (fun q e => by injection e with e; have := hne.out; right; omega), (blk_then hP2 hB5).grown hgz (fun e => by injection e with e; have := hne.out; omega)⟩
  | false =>
    have hi2 := hbm rfl
    clear hbm
    rw [if_neg (by decide)] at hR2
    have hi2I : (i : Int) + 2 < p.size := by omega
    obtain ⟨b, hb⟩ : ∃ v : Nat, p[i + 2].toNat = v := ⟨_, rfl⟩
    have hb8 : b < 256 := by rw [← hb]; exact p[i + 2].toNat_lt
    have hch : Ere.chr p (i + 2) = b := by unfold Ere.chr; rw [dif_pos hi2, hb]
    rw [hch] at hR2
    obtain ⟨blt, hlt⟩ : ∃ v, decide (b < a) = v := ⟨_, rfl⟩
    obtain ⟨beq, heq⟩ : ∃ v, decide (b = 91) = v := ⟨_, rfl⟩
    rw [hlt, heq] at hR2
    have qlt : decide ((b : Int) < (a : Int)) = blt := by rw [← hlt]; congr 1; simp only [eq_iff_iff]; omega
    have qeq : ((b : Int) == 91) = beq := by rw [← heq, Bool.eq_iff_iff, beq_iff_eq, decide_eq_true_eq]; omega
    clear heq hch kmore
    replace hlt := Lib.hid hlt
    replace hR := Lib.hid hR2
    clear hR2
    go_upto_region 12 with (fail)
    go_cut [110] from 86 to 111 (fun v wx => wx = wc ∧ v = .bool (blt || beq && (c58 || c46 || c61)))
    case first =>
      cases blt with
      | true =>
        have hltI : (b : Int) < a := by have := of_decide_eq_true hlt.out; omega
        go_wp2_with ((go_at_call 60; refine (kis _ _ (by omega) (by omega)).mono ?_; rintro e w2 ⟨rfl, hw2⟩; rw [hw2]; clear hw2; first | rw [q358.out] | rw [q346.out] | rw [q361.out]))
        go_meet
        exact ⟨rfl, rfl⟩
      | false =>
        have hltI : ¬ (b : Int) < a := by have := of_decide_eq_false hlt.out; omega
        cases beq with
        | false =>
          go_wp2_with ((go_at_call 60; refine (kis _ _ (by omega) (by omega)).mono ?_; rintro e w2 ⟨rfl, hw2⟩; rw [hw2]; clear hw2; first | rw [q358.out] | rw [q346.out] | rw [q361.out]))
          go_meet
          exact ⟨rfl, rfl⟩
        | true =>
          cases c58 with
          | true =>
            go_wp2_with ((go_at_call 60; refine (kis _ _ (by omega) (by omega)).mono ?_; rintro e w2 ⟨rfl, hw2⟩; rw [hw2]; clear hw2; first | rw [q358.out] | rw [q346.out] | rw [q361.out]))
            go_meet
            exact ⟨rfl, rfl⟩
          | false =>
            cases c46 with
            | true =>
              go_wp2_with ((go_at_call 60; refine (kis _ _ (by omega) (by omega)).mono ?_; rintro e w2 ⟨rfl, hw2⟩; rw [hw2]; clear hw2; first | rw [q358.out] | rw [q346.out] | rw [q361.out]))
              go_meet
              exact ⟨rfl, rfl⟩
            | false =>
              go_wp2_with ((go_at_call 60; refine (kis _ _ (by omega) (by omega)).mono ?_; rintro e w2 ⟨rfl, hw2⟩; rw [hw2]; clear hw2; first | rw [q358.out] | rw [q346.out] | rw [q361.out]))
              go_meet
              exact ⟨rfl, rfl⟩
    obtain ⟨rfl, rfl⟩ := hcut
    clear kis q358 q346 q361 qeq hb
    cases hb3 : (blt || beq && (c58 || c46 || c61)) with
    | true =>
      have hr := Lib.hid (show r = .fault 43 i by rw [← hR.out, hb3]; rfl)
      clear hR
      have kF := rfault_any hP 43 i 43 (i : Int) rfl rfl
      go_upto_region 14 with (first | (fail) | (go_at_call 42; refine kF.mono ?_; rintro e w4 ⟨rfl, hTf, hPf⟩))
      clear kF hP
      have hT2 := hT.trans hTf
      have h42 := blk_turn h4 hTf (by have := hne.out; omega)
      have h62 := blk_turn h6 hTf (by have := hne.out; omega)
      clear h4 h6
      go_wp2_with (first | (refine wl_load_set rfl _ rfl g4 rfl _ h42 ?_) | (refine wl_store_set rfl _ _ rfl g6 _ rfl rfl _ h62 ?_; intro wz hz hgz))
      rw [hr.out]
      exact ret_set rfl rfl hz rfl ⟨by decide, rfl, hT2.grown hgz (fun q e => by injection e with e; have := hne.out; right; omega), i, hPf.grown hgz (fun e => by injection e with e; have := hne.out; omega)⟩
    | false =>
    have hr := Lib.hid (show r = .got (spanB a b) (i + 3) by rw [← hR.out, hb3]; rfl)
    have hlf : blt = false := by cases blt <;> simp_all
    rw [hlf] at hlt
    have hab := of_decide_eq_false hlt.out
    clear hR hb3 hlf hlt
    obtain ⟨y, hy⟩ : ∃ y, spanB a b = y := ⟨_, rfl⟩
    have hyg : ∀ k, k < 256 → y.getLsbD k = decide (a ≤ k ∧ k ≤ b) := fun k hk => by rw [← hy, spanB_get _ _ _ hk]
    rw [hy] at hr
    clear hy
    replace hyg := Lib.hid hyg
    go_wp2_with (fail)
    go_loopw [10] (fun iv wr => ∃ k : Nat, a ≤ k ∧ k ≤ b + 1 ∧ iv = .int .i64 k ∧ Turn g (g + 1) w wr ∧ Blk wr g 82 (rrC p i A n c 0 0) ∧ Blk wr g4 24 (setC (x ||| setTo (hasC y) k)) ∧ Blk wr g6 24 (setC 0)) (fun iv _ => b + 1 - (intOf iv).toNat)
    case atStart => exact ⟨a, Nat.le_refl _, by omega, rfl, hT, hP, by rw [setTo_none (fun k hk => by unfold hasC; rw [hyg.out k (by omega), decide_eq_false (by omega)]; rfl)]; simpa using h4, h6⟩
    case round =>
      clear hP hT h4 h6 c0 c1
      obtain ⟨k, hak, hkb, rfl, hT, hP, h4, h6⟩ := hrel
      by_cases hlt : k ≤ b
      · have hltI : (k : Int) ≤ b := by omega
        have hk8 : k < 256 := by omega
        have hk8I : (k : Int) < 256 := by omega
        have hst := Lib.hid (has_step_t (x := x) hk8 (show y.getLsbD k = true by rw [hyg.out k hk8, decide_eq_true ⟨hak, hlt⟩]))
        have kW := with4_any (x ||| setTo (hasC y) k) k hk8
        go_wp2_with (first | (refine wl_load_set rfl _ rfl g4 rfl _ h4 ?_) | (go_at_call 96; refine (kW _).mono ?_; rintro e w2 ⟨rfl, hB2⟩; have h42 := blk_then h4 hB2) | (refine wl_store_set rfl _ _ rfl g4 _ rfl rfl _ h42 ?_; intro w3 h43 hg3))
        have hTz := (hT.then_ hB2).grown hg3 (fun q e => by injection e with e; have := hne.out; right; omega)
        have hPz := (blk_then hP hB2).grown hg3 (fun e => by injection e with e; have := hne.out; omega)
        have h6z := (blk_then h6 hB2).grown hg3 (fun e => by injection e with e; have := hne.out; omega)
        exact ⟨⟨k + 1, by omega, by omega, by congr 1, hTz, hPz, by rw [hst.out]; exact h43, h6z⟩, by simp only [intOf]; omega⟩
      · have hltI : ¬ (k : Int) ≤ b := by omega
        have hs : setTo (hasC y) k = y &&& notB 0 := by
          rw [← setTo_hasC]
          exact setTo_stop (fun m h1 h2 => by unfold hasC; rw [hyg.out m h2, decide_eq_false (by omega)]; rfl) (by omega)
        rw [hs] at h4
        clear hs
        have c1 : wr.cell? ⟨g, 1, none⟩ = some (.int .i64 (i : Int)) := hP.cellv rfl
        have f1 := hP.frozen 1
        go_upto_region 20 with (fail)
        have hP2 : Blk (wr.setCell ⟨g, 1, none⟩ (.int .i64 ((i : Int) + 3))) g 82 (rrC p (i + 3) A n c 0 0) := hP.set_ 1 (.int .i64 ((i : Int) + 3))
        have hT2 := turnRd hT 1 (.int .i64 ((i : Int) + 3))
        have h42 := h4.far (p := ⟨g, 1, none⟩) (by have := hne.out; simp; omega) (.int .i64 ((i : Int) + 3))
        have h62 := h6.far (p := ⟨g, 1, none⟩) (by have := hne.out; simp; omega) (.int .i64 ((i : Int) + 3))
        obtain ⟨w4, hw4⟩ : ∃ z, z = wr.setCell ⟨g, 1, none⟩ (.int .i64 ((i : Int) + 3)) := ⟨_, rfl⟩
        rw [← hw4] at hP2 hT2 h42 h62 ⊢
        clear hw4 c1 f1 hP hT h4 h6
        go_wp2_with (first | (refine wl_load_set rfl _ rfl g4 rfl _ h42 ?_) | (refine wl_store_set rfl _ _ rfl g6 _ rfl rfl _ h62 ?_; intro wz hz hgz))
        rw [hr.out]
        exact ret_set rfl rfl hz rfl ⟨rfl, hT2.grown hgz (fun q e => by injection e with e; have := hne.out; right; omega), hP2.grown hgz (fun e => by injection e with e; have := hne.out; omega)⟩
end Go.Proofs.Ytajainmldcnaeaa
namespace Go.Proofs.Ytajainmldcnaeaa
open Go.RowKit Go.Maps
set_option linter.unusedVariables false
set_option linter.unusedSimpArgs false
attribute [local go_sem] Oper.semAt_some

/-- what a part of the document's reader that reads a tree hands back -/
def RnAns (g : Nat) (p : ByteArray) (A : Option Addr) (n c : Nat) (w : World) (B : Nat) (r : Ere.Res Nd) (e : Ending) (w' : World) : Prop := match r with
  | .got t j => Turn g (g + 1) w w' ∧ Blk w' g 82 (rrC p j A n c 0 0) ∧ ∃ x bs, e = .returned (.agg (NV.C x)) ∧ NdO w' B t x bs
  | .fault en at_ => en ≠ 0 ∧ Turn g (g + 1) w w' ∧ (∃ x : NV, e = .returned (.agg x.C)) ∧ ∃ i', Blk w' g 82 (rrC p i' A n c en at_)
theorem notB_get' (x : BSet) (i : Nat) (hi : i < 256) : (notB x).getLsbD i = (!x.getLsbD i && (i != 10)) := by
  rw [← setTo_hasnt, setTo_get _ _ _ hi, decide_eq_true hi, Bool.true_and]
  rfl
theorem notB_mask (x : BSet) : notB (x &&& notB 0) = notB x &&& notB 0 := by
  apply BitVec.eq_of_getLsbD_eq
  intro i hi
  rw [BitVec.getLsbD_and, notB_get' _ i hi, notB_get' x i hi, notB0_get i hi, BitVec.getLsbD_and, notB0_get i hi]
  cases x.getLsbD i <;> cases (i != 10) <;> rfl
theorem mask_or (x y : BSet) : (x &&& notB 0) ||| (y &&& notB 0) = (x ||| y) &&& notB 0 := by
  apply BitVec.eq_of_getLsbD_eq
  intro i hi
  simp only [BitVec.getLsbD_and, BitVec.getLsbD_or]
  cases x.getLsbD i <;> cases y.getLsbD i <;> cases (notB 0).getLsbD i <;> rfl
/-- where a reader stands -/
def rdPos (w : World) (g : Nat) : Nat := match w.cell? ⟨g, 1, none⟩ with
  | some (.int _ i) => i.toNat
  | _ => 0
theorem rdPos_at {w : World} {g : Nat} {p : ByteArray} {j n c e a : Nat} {A : Option Addr} (h : Blk w g 82 (rrC p j A n c e a)) : rdPos w g = j := by
  have h1 : w.cell? ⟨g, 1, none⟩ = some (.int .i64 (j : Int)) := h.cellv rfl
  unfold rdPos
  rw [h1]
  simp
set_option maxRecDepth 100000 in
set_option maxHeartbeats 4000000 in
theorem ritems_any (g : Nat) (p : ByteArray) (i s : Nat) (A : Option Addr) (n c : Nat) (w : World) (hP : Blk w g 82 (rrC p i A n c 0 0)) (hp : p.size ≤ 1024) (hi : i ≤ p.size) :
    Calls Try.prog 97 #[.pointer (some ⟨g, 0, none⟩), .int .i64 (s : Int)] w fun e w' => RnAns g p A n c w w.heap.size (Ere.setR p s i) e w' := by
  obtain ⟨r, hr0⟩ : ∃ r, Ere.setR p s i = r := ⟨_, rfl⟩
  rw [hr0]
  have hR := hr0
  unfold Ere.setR at hR
  obtain ⟨b94, q94⟩ : ∃ b, Ere.isAt p i 94 = b := ⟨_, rfl⟩
  rw [q94] at hR
  obtain ⟨i0, hi0e⟩ : ∃ k, (if b94 = true then i + 1 else i) = k := ⟨_, rfl⟩
  rw [hi0e] at hR
  have hi0 : i0 ≤ p.size := by
    rw [← hi0e]
    split
    · rename_i h
      have := Ere.isAt_lt (q94.trans h)
      omega
    · exact hi
  obtain ⟨rs, hrs⟩ : ∃ r, Ere.itemsR p s (p.size + 2) true i0 0 = r := ⟨_, rfl⟩
  rw [hrs] at hR
  clear hr0
  replace hR := Lib.hid hR
  replace q94 := Lib.hid (show Ere.isAt p (i : Int).toNat (94 : Int).toNat = b94 from q94)
  replace hi0e := Lib.hid hi0e
  replace hrs := Lib.hid hrs
  have hT := Turn.refl g (g + 1) w
  have hgl := Lib.hid hP.lt
  have hpI : (p.size : Int) ≤ 1024 := by omega
  have hiI : (i : Int) ≤ 1024 := by omega
  go_enter Try.func97, Try.ntmps97
  have h4 : Blk (w.alloc (.cells zeroC 27)) w.heap.size 27 zeroC := Blk.new' _ _ _ rfl
  have hB1 : Below w.heap.size w (w.alloc (.cells zeroC 27)) := below_alloc (Below.refl _ _) _
  unfold zeroC at h4 hB1
  go_upto_region 1 with (fail)
  obtain ⟨w1, hw1⟩ : ∃ y, y = w.alloc (.cells zeroC 27) := ⟨_, rfl⟩
  unfold zeroC at hw1
  rw [← hw1] at h4 hB1 ⊢
  clear hw1
  replace hP := blk_then hP hB1
  replace hT := hT.then_ hB1
  clear hB1
  obtain ⟨g4, hg4e⟩ : ∃ y, y = w.heap.size := ⟨_, rfl⟩
  have hwb := Lib.hid (show w.heap.size ≤ g4 ∧ g4 ≠ g ∧ g < w.heap.size ∧ g4 < w1.heap.size by have := hgl.out; have := h4.lt; omega)
  rw [← hg4e] at h4 ⊢
  clear hg4e
  have c1 : w1.cell? ⟨g, 1, none⟩ = some (.int .i64 (i : Int)) := hP.cellv rfl
  have kis := ris_int hP
  go_upto_if 14 with ((go_at_call 60; refine (kis _ _ (by omega) (by omega)).mono ?_; rintro e w2 ⟨rfl, hw2⟩; rw [hw2]; clear hw2; rw [q94.out]))
  clear kis c1
  go_cut [] from 15 to 21 (fun wx => Turn g (g + 1) w1 wx ∧ Blk wx g 82 (rrC p i0 A n c 0 0))
  case first =>
    cases b94 with
    | false =>
      go_wp2_with (fail)
      go_meet
      have e := hi0e.out
      simp only [Bool.false_eq_true, if_false] at e
      subst e
      exact ⟨Turn.refl _ _ _, hP⟩
    | true =>
      have e := hi0e.out
      simp only [if_true] at e
      replace e := Lib.hid e
      have c1 : w1.cell? ⟨g, 1, none⟩ = some (.int .i64 (i : Int)) := hP.cellv rfl
      have f1 := hP.frozen 1
      go_wp2_with (fail)
      go_meet
      rw [← e.out]
      exact ⟨turnRd (Turn.refl _ _ _) 1 _, hP.set_ 1 (.int .i64 ((i : Int) + 1))⟩
  case rest =>
    obtain ⟨hTc, hPc⟩ := hcut
    replace hT := hT.trans hTc
    replace h4 := blk_turn h4 hTc (by have := hwb.out; omega)
    clear hTc hP
    have hP := hPc
    clear hPc
    go_upto_region 5 with (fail)
    have h6 : Blk (wc.alloc (.cells #[.int .u64 0, .int .u64 0, .int .u64 0, .int .u64 0] 24)) wc.heap.size 24 (setC 0) := by rw [set0_eq]; exact Blk.new' _ _ _ rfl
    have hB3 : Below wc.heap.size wc (wc.alloc (.cells #[.int .u64 0, .int .u64 0, .int .u64 0, .int .u64 0] 24)) := below_alloc (Below.refl _ _) _
    obtain ⟨w3, hw3⟩ : ∃ y, y = wc.alloc (.cells #[.int .u64 0, .int .u64 0, .int .u64 0, .int .u64 0] 24) := ⟨_, rfl⟩
    rw [← hw3] at h6 hB3 ⊢
    clear hw3
    replace hP := blk_then hP hB3
    have hgw3 := hT.size
    replace hT := hT.then_ hB3
    have h4l := h4.lt
    replace h4 := blk_then h4 hB3
    obtain ⟨g6, hg6e⟩ : ∃ y, y = wc.heap.size := ⟨_, rfl⟩
    rw [← hg6e] at h6 ⊢
    have hw6 := Lib.hid (show w.heap.size ≤ g6 ∧ g6 ≠ g ∧ g6 ≠ g4 by have := hwb.out; omega)
    clear hg6e hB3 hgw3 h4l
    go_wp2_with (fail)
    go_loopw [7] (fun fv wr => ∃ (m j : Nat) (x : BSet), fv = .bool (decide (m = 0)) ∧ m ≤ j ∧ j ≤ p.size ∧ Turn g (g + 1) w wr ∧ Blk wr g 82 (rrC p j A n c 0 0) ∧ Blk wr g4 27 #[.int .i64 0, .int .u64 0, .int .u64 0, .int .u64 0, .int .u64 0, .slice none 0 0, .int .i64 0, .int .i64 0] ∧ Blk wr g6 24 (setC (x &&& notB 0)) ∧ rs = Ere.itemsR p s (p.size + 2 - m) (decide (m = 0)) j x) (fun fv wr => p.size + 1 - rdPos wr g)
    case atStart => exact ⟨0, i0, 0, rfl, by omega, hi0, hT, hP, h4, by simpa using h6, hrs.out.symm⟩
    case round =>
      clear hT hP h4 h6
      obtain ⟨m, j, x, rfl, hmj, hjp, hT, hP, h4, h6, hit⟩ := hrel
      have hpos : rdPos wr g = j := rdPos_at hP
      have hfu : p.size + 2 - m = (p.size + 2 - (m + 1)) + 1 := by omega
      rw [hfu] at hit
      unfold Ere.itemsR at hit
      obtain ⟨b93, q93⟩ : ∃ b, Ere.isAt p j 93 = b := ⟨_, rfl⟩
      rw [q93] at hit
      obtain ⟨fb, hfb⟩ : ∃ b, decide (m = 0) = b := ⟨_, rfl⟩
      rw [hfb] at hit ⊢
      have hjlt93 : b93 = true → j < p.size := fun h => Ere.isAt_lt (q93.trans h)
      replace hit := Lib.hid hit
      replace hfu := Lib.hid hfu
      replace hfb := Lib.hid hfb
      replace hpos := Lib.hid hpos
      replace hjlt93 := Lib.hid hjlt93
      have c1 : wr.cell? ⟨g, 1, none⟩ = some (.int .i64 (j : Int)) := hP.cellv rfl
      have kis := ris_int hP
      have kmore := rmore_int hP
      replace q93 := Lib.hid (show Ere.isAt p (j : Int).toNat (93 : Int).toNat = b93 from q93)
      have hjI : (j : Int) ≤ 1024 := by omega
      go_upto_region 6 with (fail)
      go_cut [31] from 22 to 32 (fun v wx => wx = wr ∧ v = .bool (fb || !b93))
      case first =>
        cases fb with
        | true =>
          go_wp2_with ((go_at_call 60; refine (kis _ _ (by omega) (by omega)).mono ?_; rintro e w2 ⟨rfl, hw2⟩; rw [hw2]; clear hw2; rw [q93.out]))
          go_meet
          exact ⟨rfl, rfl⟩
        | false =>
          go_wp2_with ((go_at_call 60; refine (kis _ _ (by omega) (by omega)).mono ?_; rintro e w2 ⟨rfl, hw2⟩; rw [hw2]; clear hw2; rw [q93.out]))
          go_meet
          exact ⟨rfl, rfl⟩
      obtain ⟨rfl, rfl⟩ := hcut
      cases hgo : (fb || !b93) with
      | false =>
        have hrs2 := hit.out
        have hff : (!fb && b93) = true := by cases fb <;> cases b93 <;> simp_all
        rw [if_pos hff] at hrs2
        have hr := hR.out
        rw [hrs2] at hr
        simp only [Ere.Res.bind] at hr
        have hjlt := hjlt93.out (by cases b93 <;> simp_all)
        replace hr := Lib.hid hr
        clear hrs2 hit hff hgo kis kmore
        have f1 := hP.frozen 1
        go_upto_region 14 with (fail)
        have hP2 : Blk (wc.setCell ⟨g, 1, none⟩ (.int .i64 ((j : Int) + 1))) g 82 (rrC p (j + 1) A n c 0 0) := hP.set_ 1 (.int .i64 ((j : Int) + 1))
        have hT2 := turnRd hT 1 (.int .i64 ((j : Int) + 1))
        have h42 := h4.far (p := ⟨g, 1, none⟩) (by have := hwb.out; simp; omega) (.int .i64 ((j : Int) + 1))
        have h62 := h6.far (p := ⟨g, 1, none⟩) (by have := hw6.out; simp; omega) (.int .i64 ((j : Int) + 1))
        obtain ⟨w5, hw5⟩ : ∃ y, y = wc.setCell ⟨g, 1, none⟩ (.int .i64 ((j : Int) + 1)) := ⟨_, rfl⟩
        rw [← hw5] at hP2 hT2 h42 h62 ⊢
        clear hw5 c1 f1 hP hT h4 h6
        cases b94 with
        | false =>
          have kS := rset4_any (x &&& notB 0) w5
          go_wp2_with (first | (refine wl_load_set rfl _ rfl g6 rfl _ h62 ?_) | (go_at_call 93; refine kS.mono ?_; rintro e w6 ⟨rfl, hB6⟩; have h46 := blk_then h42 hB6) | (refine wl_store_nv rfl _ _ rfl g4 (NV.mk 2 (x &&& notB 0) none 0 0 0 0) rfl rfl _ rfl h46 ?_; intro w7 h7 hg7))
          refine ret_nv rfl rfl h7 rfl ?_
          rw [← hr.out]
          simp only [Bool.false_eq_true, if_false]
          exact ⟨(hT2.then_ hB6).grown hg7 (fun q e => by injection e with e; have := hwb.out; right; omega), (blk_then hP2 hB6).grown hg7 (fun e => by injection e with e; have := hwb.out; omega), _, [], rfl, NdO.leaf _ _ _ _ _ _⟩
        | true =>
          have kN := not4_any (x &&& notB 0) w5
          rw [notB_mask] at kN
          have kS := fun W => rset4_any (notB x &&& notB 0) W
          go_wp2_with (first | (refine wl_load_set rfl _ rfl g6 rfl _ h62 ?_) | (go_at_call 94; refine kN.mono ?_; rintro e w6 ⟨rfl, hB6⟩) | (go_at_call 93; refine (kS _).mono ?_; rintro e w8 ⟨rfl, hB8⟩; have h48 := blk_then (blk_then h42 hB6) hB8) | (refine wl_store_nv rfl _ _ rfl g4 (NV.mk 2 (notB x &&& notB 0) none 0 0 0 0) rfl rfl _ rfl h48 ?_; intro w9 h9 hg9))
          refine ret_nv rfl rfl h9 rfl ?_
          rw [← hr.out]
          simp only [if_true]
          exact ⟨((hT2.then_ hB6).then_ hB8).grown hg9 (fun q e => by injection e with e; have := hwb.out; right; omega), (blk_then (blk_then hP2 hB6) hB8).grown hg9 (fun e => by injection e with e; have := hwb.out; omega), _, [], rfl, NdO.leaf _ _ _ _ _ _⟩
      | true =>
        have hrs2 := hit.out
        have hff : (!fb && b93) = false := by cases fb <;> cases b93 <;> simp_all
        rw [if_neg (by rw [hff]; decide)] at hrs2
        clear hff hgo q93 hit kis
        by_cases hjs : j < p.size
        · have qm := Lib.hid (show decide ((j : Int).toNat < p.size) = true from decide_eq_true hjs)
          rw [if_neg (by omega)] at hrs2
          obtain ⟨ri, hri⟩ : ∃ r, Ere.itemR p s j = r := ⟨_, rfl⟩
          have hfw := fun (y : BSet) (k : Nat) (e : ri = .got y k) => Ere.itemR_fwd (hri.trans e) hjs
          have kI := ritem_any g p (x &&& notB 0) j s A n c wc hP hp hjs
          rw [hri] at hrs2 kI
          clear hri
          replace hrs2 := Lib.hid hrs2
          replace hfw := Lib.hid hfw
          cases ri with
          | fault e0 k0 =>
            have hr := hR.out
            rw [hrs2.out] at hr
            simp only [Ere.Res.bind] at hr
            replace hr := Lib.hid hr
            clear hrs2 hfw
            go_upto_region 11 with (first | (go_at_call 68; refine (kmore _ (by omega)).mono ?_; rintro e w2 ⟨rfl, hw2⟩; rw [hw2]; clear hw2; rw [qm.out]) | (refine wl_load_set rfl _ rfl g6 rfl _ h6 ?_) | (go_at_call 103; refine kI.mono ?_; rintro e w4 ⟨hnz, rfl, hT4, i', hP4⟩; have h64 := blk_turn h6 hT4 (by have := hw6.out; omega)) | (refine wl_store_set rfl _ _ rfl g6 _ rfl rfl _ h64 ?_; intro w5 h5 hg5))
            have hT5 := (hT.trans hT4).grown hg5 (fun q e => by injection e with e; have := hw6.out; right; omega)
            have hP5 := hP4.grown hg5 (fun e => by injection e with e; have := hw6.out; omega)
            have h45 := (blk_turn h4 hT4 (by have := hwb.out; omega)).grown hg5 (fun e => by injection e with e; have := hw6.out; omega)
            clear hT hT4 hP hP4 h4 h6 h64 hg5 kI kmore c1 h5
            have c3 : w5.cell? ⟨g, 3, none⟩ = some (.int .i64 (e0 : Int)) := hP5.cellv rfl
            have hE : ((e0 : Int) != 0) = true := by rw [bne_iff_ne]; omega
            go_wp2_with (first | (refine wl_build_node rfl _ rfl zeroV #[] rfl (fun w => build_nzero w) ?_) | (refine wl_store_nv rfl _ _ rfl g4 zeroV rfl rfl _ rfl h45 ?_; intro w7 h7 hg7))
            refine ret_nv rfl rfl h7 rfl ?_
            rw [← hr.out]
            exact ⟨hnz, hT5.grown hg7 (fun q e => by injection e with e; have := hwb.out; right; omega), ⟨zeroV, rfl⟩, i', hP5.grown hg7 (fun e => by injection e with e; have := hwb.out; omega)⟩
          | got y k =>
            obtain ⟨hjk, hkp⟩ := hfw.out y k rfl
            simp only [Ere.Res.bind] at hrs2
            simp only [mask_or] at kI
            go_upto_region 11 with (first | (go_at_call 68; refine (kmore _ (by omega)).mono ?_; rintro e w2 ⟨rfl, hw2⟩; rw [hw2]; clear hw2; rw [qm.out]) | (refine wl_load_set rfl _ rfl g6 rfl _ h6 ?_) | (go_at_call 103; refine kI.mono ?_; rintro e w4 ⟨rfl, hT4, hP4⟩; have h64 := blk_turn h6 hT4 (by have := hw6.out; omega)) | (refine wl_store_set rfl _ _ rfl g6 _ rfl rfl _ h64 ?_; intro w5 h5 hg5))
            have hT5 := (hT.trans hT4).grown hg5 (fun q e => by injection e with e; have := hw6.out; right; omega)
            have hP5 := hP4.grown hg5 (fun e => by injection e with e; have := hw6.out; omega)
            have h45 := (blk_turn h4 hT4 (by have := hwb.out; omega)).grown hg5 (fun e => by injection e with e; have := hw6.out; omega)
            clear hT hT4 hP hP4 h4 h6 h64 hg5 kI kmore c1
            have c3 : w5.cell? ⟨g, 3, none⟩ = some (.int .i64 0) := hP5.cellv rfl
            go_wp2_with (fail)
            exact ⟨⟨m + 1, k, x ||| y, by rw [decide_eq_false (by omega)], by omega, hkp, hT5, hP5, h45, h5, by rw [decide_eq_false (by omega)]; exact hrs2.out⟩, by rw [hpos.out, rdPos_at hP5]; omega⟩
        · have qm := Lib.hid (show decide ((j : Int).toNat < p.size) = false from decide_eq_false hjs)
          rw [if_pos (by omega)] at hrs2
          have hr := hR.out
          rw [hrs2] at hr
          simp only [Ere.Res.bind] at hr
          replace hr := Lib.hid hr
          clear hrs2
          have kF := rfault_any hP 43 s 43 (s : Int) rfl rfl
          go_wp2_with (first | (go_at_call 68; refine (kmore _ (by omega)).mono ?_; rintro e w2 ⟨rfl, hw2⟩; rw [hw2]; clear hw2; rw [qm.out]) | (go_at_call 42; refine kF.mono ?_; rintro e w4 ⟨rfl, hTf, hPf⟩; have h44 := blk_turn h4 hTf (by have := hwb.out; omega)) | (refine wl_store_nv rfl _ _ rfl g4 zeroV rfl rfl _ rfl h44 ?_; intro w7 h7 hg7))
          refine ret_nv rfl rfl h7 rfl ?_
          rw [← hr.out]
          exact ⟨by decide, (hT.trans hTf).grown hg7 (fun q e => by injection e with e; have := hwb.out; right; omega), ⟨zeroV, rfl⟩, j, hPf.grown hg7 (fun e => by injection e with e; have := hwb.out; omega)⟩
end Go.Proofs.Ytajainmldcnaeaa
namespace Go.Proofs.Ytajainmldcnaeaa
open Go.RowKit Go.Maps
set_option linter.unusedVariables false
set_option linter.unusedSimpArgs false
attribute [local go_sem] Oper.semAt_some

theorem digits_lt (p : ByteArray) : ∀ k i n m, (Ere.digits p k i n m).1 < (n + 1) * 10 ^ k
  | 0, i, n, m => by simp [Ere.digits]
  | k + 1, i, n, m => by
    unfold Ere.digits
    split
    · rename_i h
      simp only [Bool.and_eq_true, decide_eq_true_eq] at h
      have h1 := digits_lt p k (i + 1) (10 * n + (Ere.chr p i - 48)) (m + 1)
      refine Nat.lt_of_lt_of_le h1 ?_
      rw [Nat.pow_succ, Nat.mul_comm (10 ^ k) 10, ← Nat.mul_assoc]
      exact Nat.mul_le_mul_right _ (by omega)
    · have h1 : 0 < 10 ^ (k + 1) := Nat.pow_pos (by decide)
      show n < (n + 1) * 10 ^ (k + 1)
      calc n < n + 1 := by omega
        _ = (n + 1) * 1 := by omega
        _ ≤ (n + 1) * 10 ^ (k + 1) := Nat.mul_le_mul_left _ h1
theorem isAt_in {p : ByteArray} {i ch b : Nat} (hi : i < p.size) (hb : p[i].toNat = b) : Ere.isAt p i ch = ((b : Int) == (ch : Int)) := by
  unfold Ere.isAt Ere.chr
  rw [dif_pos hi, decide_eq_true hi, Bool.true_and, hb, Bool.eq_iff_iff, beq_iff_eq, decide_eq_true_eq]
  omega
theorem cnt_le (p : ByteArray) (i : Nat) : (Ere.digits p 4 i 0 0).2.1 ≤ i + 4 ∧ (Ere.digits p 4 i 0 0).1 < 10000 := ⟨(digits_le p 4 i 0 0).1, by have := digits_lt p 4 i 0 0; omega⟩
set_option maxRecDepth 100000 in
set_option maxHeartbeats 16000000 in
theorem rrepeat_any (g : Nat) (p : ByteArray) (i B : Nat) (t : Nd) (x : NV) (bs : List Nat) (A : Option Addr) (n c : Nat) (w : World) (hP : Blk w g 82 (rrC p i A n c 0 0)) (hi : i < p.size) (hp : p.size ≤ 1024) (ht : NdO w B t x bs) (hg : g < B) (hBw : B ≤ w.heap.size) :
    Calls Try.prog 84 #[.pointer (some ⟨g, 0, none⟩), .agg x.C] w fun e w' => RnAns g p A n c w B (Ere.repeatR p t i) e w' := by
  obtain ⟨r, hr0⟩ : ∃ r, Ere.repeatR p t i = r := ⟨_, rfl⟩
  rw [hr0]
  obtain ⟨rc, hrc⟩ : ∃ r, Ere.countsR p i = r := ⟨_, rfl⟩
  have hR := hr0
  unfold Ere.repeatR at hR
  obtain ⟨b, hb⟩ : ∃ v : Nat, p[i].toNat = v := ⟨_, rfl⟩
  have hb8 : b < 256 := by rw [← hb]; exact p[i].toNat_lt
  rw [isAt_in hi hb, isAt_in hi hb, isAt_in hi hb, isAt_in hi hb, hrc] at hR
  obtain ⟨b42, h42⟩ : ∃ v, ((b : Int) == ((42 : Nat) : Int)) = v := ⟨_, rfl⟩
  obtain ⟨b43, h43⟩ : ∃ v, ((b : Int) == ((43 : Nat) : Int)) = v := ⟨_, rfl⟩
  obtain ⟨b63, h63⟩ : ∃ v, ((b : Int) == ((63 : Nat) : Int)) = v := ⟨_, rfl⟩
  obtain ⟨b123, h123⟩ : ∃ v, ((b : Int) == ((123 : Nat) : Int)) = v := ⟨_, rfl⟩
  rw [h42, h43, h63, h123] at hR
  replace h42 : ((b : Int) == 42) = b42 := h42
  replace h43 : ((b : Int) == 43) = b43 := h43
  replace h63 : ((b : Int) == 63) = b63 := h63
  replace h123 : ((b : Int) == 123) = b123 := h123
  clear hr0
  replace hR := Lib.hid hR
  replace hrc := Lib.hid hrc
  have hiI : (i : Int) < p.size := by omega
  have hi0 : ¬ (i : Int) < 0 := by omega
  have hpI : (p.size : Int) ≤ 1024 := by omega
  have hT := Turn.refl g (g + 1) w
  go_enter Try.func84, Try.ntmps84
  have hB1 : Below w.heap.size w ((w.alloc (.cells x.C 27)).alloc (.cells zeroC 27)) := below_alloc (below_alloc (Below.refl _ _) _) _
  have h1 : Blk ((w.alloc (.cells x.C 27)).alloc (.cells zeroC 27)) w.heap.size 27 x.C := (Blk.new _ _ _).alloc _
  have h4 : Blk ((w.alloc (.cells x.C 27)).alloc (.cells zeroC 27)) (w.heap.size + 1) 27 zeroC := Blk.new' _ _ _ (by simp)
  unfold zeroC at h1 h4 hB1
  go_upto_region 1 with (fail)
  obtain ⟨w1, hw1⟩ : ∃ y, y = (w.alloc (.cells x.C 27)).alloc (.cells zeroC 27) := ⟨_, rfl⟩
  unfold zeroC at hw1
  rw [← hw1] at h1 h4 hB1 ⊢
  clear hw1
  obtain ⟨g1, hg1⟩ : ∃ y, y = w.heap.size := ⟨_, rfl⟩
  obtain ⟨g4, hg4⟩ : ∃ y, y = w.heap.size + 1 := ⟨_, rfl⟩
  have hne := Lib.hid (show g1 ≠ g4 ∧ g < g1 ∧ g < g4 ∧ w.heap.size ≤ g4 ∧ w.heap.size ≤ g1 ∧ B ≤ w.heap.size ∧ g < B ∧ w.heap.size ≤ w1.heap.size ∧ ∀ b ∈ bs, b ≠ g1 ∧ b ≠ g4 ∧ b ≠ g from ⟨by omega, by omega, by omega, by omega, by omega, hBw, hg, hB1.size, fun b hb => by have := ht.lt b hb; omega⟩)
  rw [← hg4] at h4 ⊢
  rw [← hg1] at h1 ⊢
  clear hg1 hg4 hg hBw
  replace ht := ht.then_ hB1
  replace hP := blk_then hP hB1
  replace hT := hT.then_ hB1
  clear hB1
  go_upto_region 2 with (fail)
  have c0 : w1.cell? ⟨g, 0, none⟩ = some (.string p) := hP.cellv rfl
  have c1 : w1.cell? ⟨g, 1, none⟩ = some (.int .i64 (i : Int)) := hP.cellv rfl
  go_big_region
  replace hP := hP.drew
  replace h1 := h1.drew
  replace h4 := h4.drew
  replace hT := hT.then_ ((Below.refl w1.heap.size w1).drew)
  replace ht := ht.then_ ((Below.refl w1.heap.size w1).drew)
  have hsz : w.heap.size ≤ w1.drew.heap.size := hT.size
  obtain ⟨w2, hw2⟩ : ∃ y, y = w1.drew := ⟨_, rfl⟩
  rw [← hw2] at hP h1 h4 hT ht hsz ⊢
  clear hw2 c0 c1
  replace ht := Lib.hid ht
  have hT0 := Lib.hid hT
  try rw [hb]
  have hb' := Lib.hid hb
  clear hb
  go_upto_block 0 with (fail)
  go_cut [5, 6] from 7 to 92 (fun lo hi wX => ∃ (j : Nat) (a b : Int), j ≤ 3000 ∧ lo = .int .i64 a ∧ hi = .int .i64 b ∧ r = .got (Ere.timesN t a b) (j + 1) ∧ Turn g (g + 1) w2 wX ∧ Blk wX g 82 (rrC p j A n c 0 0))
  case first =>
    clear hT
    have hT := Turn.refl g (g + 1) w2
    have c1 : w2.cell? ⟨g, 1, none⟩ = some (.int .i64 (i : Int)) := hP.cellv rfl
    cases b42 with
    | true =>
      have hr := Lib.hid (show r = .got (Ere.timesN t (0) (-1)) (i + 1) by rw [← hR.out]; simp)
      go_wp2_with (fail)
      go_meet
      exact ⟨i, 0, -1, by omega, rfl, rfl, hr.out, hT, hP⟩
    | false =>
      cases b43 with
      | true =>
        have hr := Lib.hid (show r = .got (Ere.timesN t (1) (-1)) (i + 1) by rw [← hR.out]; simp)
        go_wp2_with (fail)
        go_meet
        exact ⟨i, 1, -1, by omega, rfl, rfl, hr.out, hT, hP⟩
      | false =>
        cases b63 with
        | true =>
          have hr := Lib.hid (show r = .got (Ere.timesN t (0) (1)) (i + 1) by rw [← hR.out]; simp)
          go_wp2_with (fail)
          go_meet
          exact ⟨i, 0, 1, by omega, rfl, rfl, hr.out, hT, hP⟩
        | false =>
          cases b123 with
          | false =>
            have hr := Lib.hid (show r = .got t i by rw [← hR.out]; simp)
            go_wp2_with (first | (refine wl_load_nv rfl _ rfl g1 rfl _ h1 ?_) | (refine wl_store_nv rfl _ _ rfl g4 x rfl rfl _ rfl h4 ?_; intro w7 h7 hg7))
            refine ret_nv rfl rfl h7 rfl ?_
            rw [hr.out]
            have ht8 := ht.out.keep (w' := w7) (fun b hb => hg7.block b (by have := ht.out.lt b hb; omega) (fun e => by injection e with e; exact (hne.out.2.2.2.2.2.2.2.2 b hb).2.1 e))
            exact ⟨hT0.out.grown hg7 (fun q e => by injection e with e; have := hne.out; right; omega), hP.grown hg7 (fun e => by injection e with e; have := hne.out; omega), x, bs, rfl, ht8⟩
          | true =>
            have hr := Lib.hid (show r = (rc.bind fun c j => .got (Ere.timesN t (c.1 : Int) c.2) (j + 1)) by rw [← hR.out]; simp)
            clear hR
            have hC := hrc.out
            unfold Ere.countsR at hC
            simp only at hC
            obtain ⟨D, hD⟩ : ∃ D, Ere.digits p 4 (i + 1) 0 0 = D := ⟨_, rfl⟩
            have hD1 := cnt_le p (i + 1)
            rw [hD] at hC hD1
            obtain ⟨hDj, hDn⟩ := hD1
            have kis := ris_int hP
            have knum := rnumber_any g p i n c 0 0 A (i + 1) ((i : Int) + 1) rfl (by omega) w2 hP
            rw [hD] at knum
            clear hD
            obtain ⟨n1, j1, m1⟩ := D
            obtain ⟨ok1, hok1⟩ : ∃ v, Ere.cntOk (n1, j1, m1) = v := ⟨_, rfl⟩
            simp only at hC hDj hDn knum
            rw [hok1] at hC knum
            obtain ⟨q44, h44⟩ : ∃ v, Ere.isAt p j1 44 = v := ⟨_, rfl⟩
            obtain ⟨q1, h1q⟩ : ∃ v, Ere.isAt p (j1 + 1) 125 = v := ⟨_, rfl⟩
            obtain ⟨q0, h0q⟩ : ∃ v, Ere.isAt p j1 125 = v := ⟨_, rfl⟩
            rw [h44, h1q, h0q] at hC
            replace hC := Lib.hid hC
            have h44' := Lib.hid (show Ere.isAt p (j1 : Int).toNat (44 : Int).toNat = q44 from h44)
            have h1' := Lib.hid (show Ere.isAt p ((j1 : Int) + 1).toNat (125 : Int).toNat = q1 from h1q)
            have hj1I : (j1 : Int) ≤ 1100 := by omega
            have hn1I : (n1 : Int) < 10000 := by omega
            clear h44 hok1 hrc
            replace h1q := Lib.hid h1q
            replace h0q := Lib.hid h0q
            go_upto_region 13 with (first | (go_at_call 98; refine (knum).mono ?_; rintro e wy ⟨rfl, hwy⟩; rw [hwy]; clear hwy))
            clear knum h42 h43 h63 h123
            go_cut [51] from 46 to 52 (fun v wx => wx = w2 ∧ v = .bool (ok1 && q44))
            case first =>
              cases ok1 with
              | false =>
                go_wp2_with (first | (go_at_call 60; refine (kis _ _ (by omega) (by omega)).mono ?_; rintro e wy ⟨rfl, hwy⟩; rw [hwy]; clear hwy; first | rw [h44'.out] | rw [h1'.out]))
                go_meet
                exact ⟨rfl, rfl⟩
              | true =>
                go_wp2_with (first | (go_at_call 60; refine (kis _ _ (by omega) (by omega)).mono ?_; rintro e wy ⟨rfl, hwy⟩; rw [hwy]; clear hwy; first | rw [h44'.out] | rw [h1'.out]))
                go_meet
                exact ⟨rfl, rfl⟩
            obtain ⟨hwc, rfl⟩ := hcut
            subst hwc
            obtain ⟨tq, htq⟩ : ∃ v, (ok1 && q44) = v := ⟨_, rfl⟩
            have hC1 := hC.out
            rw [htq] at hC1 ⊢
            replace hC := Lib.hid hC1
            clear hC1
            have hok : tq = true → ok1 = true := fun h => by rw [h, Bool.and_eq_true] at htq; exact htq.1
            clear htq
            go_upto_if 51 with (fail)
            go_cut [9, 10, 11] from 52 to 65 (fun jv okv bv wX => ∃ (jj : Nat) (okk : Bool) (bi : Int), jv = .int .i64 jj ∧ okv = .bool okk ∧ bv = .int .i64 bi ∧ jj ≤ 1200 ∧ -1 ≤ bi ∧ bi < 10000 ∧ wX = wc ∧ rc = (if !okk || !Ere.isAt p jj 125 || ((bi != -1) && decide (bi < (n1 : Int))) then .fault 45 i else .got (n1, bi) jj))
            case first =>
              cases tq with
              | false =>
                go_wp2_with (fail)
                go_meet
                exact ⟨j1, ok1, (n1 : Int), rfl, rfl, rfl, by omega, by omega, by omega, rfl, by rw [h0q.out, ← hC.out]; simp⟩
              | true =>
                have hok2 := hok rfl
                subst hok2
                clear hok
                cases q1 with
                | true =>
                  go_wp2_with (first | (go_at_call 60; refine (kis _ _ (by omega) (by omega)).mono ?_; rintro e wy ⟨rfl, hwy⟩; rw [hwy]; clear hwy; first | rw [h44'.out] | rw [h1'.out]))
                  go_meet
                  exact ⟨j1 + 1, true, -1, by congr 1, rfl, rfl, by omega, by omega, by omega, rfl, by rw [h1q.out, ← hC.out]; simp⟩
                | false =>
                  have hC2 := hC.out
                  simp only [if_true, Bool.false_eq_true, if_false] at hC2
                  obtain ⟨F, hF⟩ : ∃ F, Ere.digits p 4 (j1 + 1) 0 0 = F := ⟨_, rfl⟩
                  have hF1 := cnt_le p (j1 + 1)
                  rw [hF] at hC2 hF1
                  obtain ⟨hFj, hFn⟩ := hF1
                  have knum2 := rnumber_any g p i n c 0 0 A (j1 + 1) ((j1 : Int) + 1) rfl (by omega) wc hP
                  rw [hF] at knum2
                  clear hF hC
                  obtain ⟨n2, j2, m2⟩ := F
                  obtain ⟨ok2, hok2⟩ : ∃ v, Ere.cntOk (n2, j2, m2) = v := ⟨_, rfl⟩
                  simp only at hC2 hFj hFn knum2
                  rw [hok2] at hC2 knum2
                  clear hok2
                  have hj2I : (j2 : Int) ≤ 1200 := by omega
                  have hn2I : (n2 : Int) < 10000 := by omega
                  replace hC2 := Lib.hid hC2
                  go_wp2_with (first | (go_at_call 60; refine (kis _ _ (by omega) (by omega)).mono ?_; rintro e wy ⟨rfl, hwy⟩; rw [hwy]; clear hwy; first | rw [h44'.out] | rw [h1'.out]) | (go_at_call 98; refine (knum2).mono ?_; rintro e wy ⟨rfl, hwy⟩; rw [hwy]; clear hwy))
                  go_meet
                  refine ⟨j2, ok2, (n2 : Int), rfl, rfl, rfl, by omega, by omega, by omega, rfl, ?_⟩
                  rw [← hC2.out]
                  have e1 : (((n2 : Nat) : Int) != -1) = true := by rw [bne_iff_ne]; omega
                  have e2 : decide (n2 < n1) = decide (((n2 : Nat) : Int) < (n1 : Int)) := by congr 1; simp only [eq_iff_iff]; omega
                  rw [e1, e2, Bool.true_and]
            obtain ⟨jj, okk, bi, rfl, rfl, rfl, hjj, hbi0, hbi1, rfl, hrcc⟩ := hcut
            clear hC h44' h1' h1q h0q
            obtain ⟨q2, h2⟩ : ∃ v, Ere.isAt p jj 125 = v := ⟨_, rfl⟩
            obtain ⟨bne, hbn⟩ : ∃ v, (bi != -1) = v := ⟨_, rfl⟩
            obtain ⟨blt, hbl⟩ : ∃ v, decide (bi < (n1 : Int)) = v := ⟨_, rfl⟩
            rw [h2, hbn, hbl] at hrcc
            have h2' := Lib.hid (show Ere.isAt p (jj : Int).toNat (125 : Int).toNat = q2 from h2)
            clear h2
            replace hbl := Lib.hid hbl
            replace hrcc := Lib.hid hrcc
            go_upto_region 18 with (fail)
            go_cut [81] from 65 to 82 (fun v wx => wx = wc ∧ v = .bool (!okk || !q2 || (bne && blt)))
            case first =>
              cases okk with
              | false =>
                go_wp2_with (first | (go_at_call 60; refine (kis _ _ (by omega) (by omega)).mono ?_; rintro e wy ⟨rfl, hwy⟩; rw [hwy]; clear hwy; first | rw [h2'.out]))
                go_meet
                exact ⟨rfl, rfl⟩
              | true =>
                cases q2 with
                | false =>
                  go_wp2_with (first | (go_at_call 60; refine (kis _ _ (by omega) (by omega)).mono ?_; rintro e wy ⟨rfl, hwy⟩; rw [hwy]; clear hwy; first | rw [h2'.out]))
                  go_meet
                  exact ⟨rfl, rfl⟩
                | true =>
                  cases bne with
                  | false =>
                    go_wp2_with (first | (go_at_call 60; refine (kis _ _ (by omega) (by omega)).mono ?_; rintro e wy ⟨rfl, hwy⟩; rw [hwy]; clear hwy; first | rw [h2'.out]))
                    go_meet
                    exact ⟨rfl, rfl⟩
                  | true =>
                    cases blt with
                    | false =>
                      have hltI : ¬ bi < (n1 : Int) := of_decide_eq_false hbl.out
                      go_wp2_with (first | (go_at_call 60; refine (kis _ _ (by omega) (by omega)).mono ?_; rintro e wy ⟨rfl, hwy⟩; rw [hwy]; clear hwy; first | rw [h2'.out]))
                      go_meet
                      exact ⟨rfl, by first | rfl | (rw [hbl.out]; rfl)⟩
                    | true =>
                      have hltI : bi < (n1 : Int) := of_decide_eq_true hbl.out
                      go_wp2_with (first | (go_at_call 60; refine (kis _ _ (by omega) (by omega)).mono ?_; rintro e wy ⟨rfl, hwy⟩; rw [hwy]; clear hwy; first | rw [h2'.out]))
                      go_meet
                      exact ⟨rfl, by first | rfl | (rw [hbl.out]; rfl)⟩
            obtain ⟨rfl, rfl⟩ := hcut
            clear hbn hbl h2' kis
            cases hbad : (!okk || !q2 || (bne && blt)) with
            | true =>
              have hr2 := Lib.hid (show r = .fault 45 i by rw [hr.out, hrcc.out, hbad]; rfl)
              have kF := rfault_any hP 45 i 45 (i : Int) rfl rfl
              go_wp2_with (first | (go_at_call 42; refine kF.mono ?_; rintro e w4 ⟨rfl, hTf, hPf⟩; have h44 := blk_turn h4 hTf (by have := hne.out; omega)) | (refine wl_store_nv rfl _ _ rfl g4 zeroV rfl rfl _ rfl h44 ?_; intro w7 h7 hg7))
              refine ret_nv rfl rfl h7 rfl ?_
              rw [hr2.out]
              exact ⟨by decide, (hT0.out.trans hTf).grown hg7 (fun q e => by injection e with e; have := hne.out; right; omega), ⟨zeroV, rfl⟩, i, hPf.grown hg7 (fun e => by injection e with e; have := hne.out; omega)⟩
            | false =>
              have hr2 := Lib.hid (show r = .got (Ere.timesN t (n1 : Int) bi) (jj + 1) by rw [hr.out, hrcc.out, hbad]; rfl)
              have f1 := hP.frozen 1
              go_wp2_with (fail)
              go_meet
              exact ⟨jj, (n1 : Int), bi, by omega, rfl, rfl, hr2.out, turnRd hT 1 (.int .i64 (jj : Int)), hP.set_ 1 (.int .i64 (jj : Int))⟩
  case rest =>
    obtain ⟨j, a, b, hj, rfl, rfl, hr, hT2, hP2⟩ := hcut
    have f1 := hP2.frozen 1
    have c1 : wc.cell? ⟨g, 1, none⟩ = some (.int .i64 (j : Int)) := hP2.cellv rfl
    have hjI : (j : Int) ≤ 3000 := by omega
    replace hr := Lib.hid hr
    have k1 := blk_turn h1 hT2 (by have := hne.out; omega)
    have k4 := blk_turn h4 hT2 (by have := hne.out; omega)
    have kt := ht.out.turn hT2 hne.out.2.2.2.2.2.2.1
    clear h1 h4 hP
    go_upto_region 23 with (fail)
    have h5 : Blk (wc.setCell ⟨g, 1, none⟩ (.int .i64 ((j : Int) + 1))) g 82 (rrC p (j + 1) A n c 0 0) := hP2.set_ 1 (.int .i64 ((j : Int) + 1))
    have hT5 := turnRd (hT0.out.trans hT2) 1 (.int .i64 ((j : Int) + 1))
    have ht5 := kt.keep (w' := wc.setCell ⟨g, 1, none⟩ (.int .i64 ((j : Int) + 1))) (fun b hb => Below.heap_setCell _ _ _ _ ((hne.out.2.2.2.2.2.2.2.2 b hb).2.2))
    have h15 := k1.far (p := ⟨g, 1, none⟩) (by have := hne.out; simp; omega) (.int .i64 ((j : Int) + 1))
    have h45 := k4.far (p := ⟨g, 1, none⟩) (by have := hne.out; simp; omega) (.int .i64 ((j : Int) + 1))
    obtain ⟨w5, hw5⟩ : ∃ y, y = wc.setCell ⟨g, 1, none⟩ (.int .i64 ((j : Int) + 1)) := ⟨_, rfl⟩
    rw [← hw5] at h5 hT5 ht5 h15 h45 ⊢
    clear hw5 hT2 hP2 k1 k4 kt c1 f1 hT hT0
    replace ht5 := Lib.hid ht5
    have hne5 := Lib.hid (show B ≤ w5.heap.size by have := hT5.size; have := hne.out; omega)
    have hnn := Lib.hid (show g4 < w5.heap.size ∧ g < w5.heap.size by have := h45.lt; have := h5.lt; omega)
    have hB6 : Below w5.heap.size w5 (w5.alloc (.cells x.C 27)) := below_alloc (Below.refl _ _) _
    have h46 := Lib.hid (blk_then h45 hB6)
    replace hB6 := Lib.hid hB6
    go_wp2_with (first | (refine wl_load_nv rfl _ rfl g1 rfl x h15 ?_) | (refine wl_build1n rfl _ rfl x rfl ?_) | (refine wl_build_node rfl _ rfl (NV.mk 5 0 (some ⟨w5.heap.size, 0, none⟩) 1 1 a b) #[(0, .int .i64 5), (2, .slice (some ⟨w5.heap.size, 0, none⟩) 1 1), (3, .int .i64 a), (4, .int .i64 b)] rfl (fun w => build_ntimes 5 _ 1 1 a b w) ?_) | (refine wl_store_nv rfl _ _ rfl g4 (NV.mk 5 0 (some ⟨w5.heap.size, 0, none⟩) 1 1 a b) rfl rfl _ rfl h46.out ?_; intro w7 h7 hg7))
    refine ret_nv rfl rfl h7 rfl ?_
    rw [hr.out]
    have hL := NdL.one ht5.out hB6.out (Nat.le_refl _) (Blk.new _ _ _) hne5.out
    have hL7 := hL.keep (w' := w7) (fun q hq => hg7.block q (hL.lt q hq).2 (fun e => by
      have h9 := hnn.out
      injection e with e
      simp only [ownL, List.flatten_cons, List.flatten_nil, List.append_nil, List.cons_append, List.nil_append, List.mem_cons] at hq
      rcases hq with hq | hq
      · omega
      · exact (hne.out.2.2.2.2.2.2.2.2 q hq).2.1 e))
    exact ⟨(hT5.then_ hB6.out).grown hg7 (fun q e => by injection e with e; have := hne.out; right; omega), (blk_then h5 hB6.out).grown hg7 (fun e => by injection e with e; have := hne.out; omega), _, _, rfl, hL7.node 5 0 a b⟩
end Go.Proofs.Ytajainmldcnaeaa
namespace Go.Proofs.Ytajainmldcnaeaa
open Go.RowKit Go.Maps
set_option linter.unusedVariables false
set_option linter.unusedSimpArgs false
attribute [local go_sem] Oper.semAt_some

/-- a block of ints -/
def IntBlk (w : World) (k : Nat) : Prop := ∃ cs, Blk w k 3 cs
/-- what may turn: block g; blocks of ints from lo on -/
structure TR (lo g : Nat) (w w' : World) : Prop where
  os : w'.os = w.os
  tape : w'.tape = w.tape
  output : w'.output = w.output
  size : w.heap.size ≤ w'.heap.size
  block : ∀ k, k < w.heap.size → k ≠ g → (k < lo ∨ ¬ IntBlk w k) → w'.heap[k]? = w.heap[k]?
section
variable {lo g : Nat} {w w' w2 : World}
theorem TR.refl (lo g : Nat) (w : World) : TR lo g w w := ⟨rfl, rfl, rfl, Nat.le_refl _, fun _ _ _ _ => rfl⟩
theorem int_eq {k : Nat} (e : w'.heap[k]? = w.heap[k]?) (h : IntBlk w' k) : IntBlk w k := by
  obtain ⟨cs, h⟩ := h
  exact ⟨cs, e.symm.trans h⟩
theorem TR.trans (h : TR lo g w w') (k : TR lo g w' w2) : TR lo g w w2 :=
  ⟨k.os.trans h.os, k.tape.trans h.tape, k.output.trans h.output, Nat.le_trans h.size k.size, fun j hj hn hh => by
    have e := h.block j hj hn hh
    refine (k.block j (Nat.lt_of_lt_of_le hj h.size) hn ?_).trans e
    rcases hh with hh | hh
    · exact .inl hh
    · exact .inr fun hI => hh (int_eq e hI)⟩
theorem TR.of_turn (h : Turn g (g + 1) w w') : TR lo g w w' := ⟨h.os, h.tape, h.output, h.size, fun k hk hn _ => h.block k hk (by omega)⟩
theorem TR.of_below (h : Below w.heap.size w w') : TR lo g w w' := TR.of_turn (Turn.of_below h)
theorem TR.then_ (h : TR lo g w w') (k : Below w'.heap.size w' w2) : TR lo g w w2 := h.trans (TR.of_below k)
theorem TR.turn (h : TR lo g w w') (k : Turn g (g + 1) w' w2) : TR lo g w w2 := h.trans (TR.of_turn k)
theorem TR.grown {row : Option Nat} (h : TR lo g w w') (hg : w'.grownBy w2 row) (hr : ∀ b, row = some b → b = g ∨ w.heap.size ≤ b ∨ (lo ≤ b ∧ IntBlk w' b)) : TR lo g w w2 :=
  ⟨hg.os.trans h.os, hg.tape.trans h.tape, hg.output.trans h.output, Nat.le_trans h.size hg.size, fun j hj hn hh => by
    have e := h.block j hj hn hh
    refine (hg.block j (Nat.lt_of_lt_of_le hj h.size) (fun er => ?_)).trans e
    rcases hr j er.symm with h1 | h1 | ⟨h1, h2⟩
    · exact hn h1
    · omega
    · rcases hh with hh | hh
      · omega
      · exact hh (int_eq e h2)⟩
theorem blk_tr {b : Nat} {t : TypeId} {cs : Array Value} (h : Blk w b t cs) (ht : t ≠ 3) (hb : b ≠ g) (k : TR lo g w w') : Blk w' b t cs :=
  (k.block b h.lt hb (.inr fun ⟨cs', h'⟩ => ht (by
    have e := h.symm.trans h'
    injection e with e
    injection e))).trans h
theorem own_typed {α : Type} {enc : α → Array Value} {size base : Nat} {e : TypeId} {v : Value} {ys : List α} (h : Own w base e size enc v ys) : ∀ b, v.ownBlock = some b → ∃ cs, Blk w b e cs := by
  intro b hb
  rcases h.2 with ⟨hv, _⟩ | ⟨k, cap, cur, hv, _, hh, _⟩
  · rw [hv] at hb; cases hb
  · rw [hv] at hb
    simp only [Value.ownBlock, Option.some.injEq] at hb
    subst hb
    exact ⟨cur, hh⟩
theorem NdO.typed {B : Nat} {nd : Nd} {x : NV} {bs : List Nat} (h : NdO w B nd x bs) : ∀ b ∈ bs, ∃ cs, Blk w b 27 cs := by
  induction h with
  | mk kd st l mi ma A n c cl bl hn hcl hbl hmax ho hr hd ih =>
    intro b hb
    rcases List.mem_append.1 hb with hb | hb
    · exact own_typed ho b (mem_ownL.1 hb)
    · obtain ⟨q, hq, hb⟩ := List.mem_flatten.1 hb
      obtain ⟨i, hi, rfl⟩ := List.mem_iff_getElem.1 hq
      exact ih i (by omega) (by omega) hi b hb
theorem NdO.tr {B : Nat} {nd : Nd} {x : NV} {bs : List Nat} (h : NdO w B nd x bs) (k : TR lo g w w') (hg : g < B) : NdO w' B nd x bs :=
  h.keep fun b hb => k.block b (h.lt b hb).2 (by have := (h.lt b hb).1; omega) (.inr fun ⟨cs', h'⟩ => by
    obtain ⟨cs, hc⟩ := h.typed b hb
    have e := hc.symm.trans h'
    injection e with e
    injection e with _ e
    exact absurd e (by decide))
theorem NdL.tr {B : Nat} {A : Option Addr} {n c : Nat} {l : List Nd} {cl : List NV} {bl : List (List Nat)} (h : NdL w B A n c l cl bl) (k : TR lo g w w') (hg : g < B) : NdL w' B A n c l cl bl :=
  h.keep fun b hb => k.block b (h.lt b hb).2 (by have := (h.lt b hb).1; omega) (.inr fun ⟨cs', h'⟩ => by
    obtain ⟨cs, hc⟩ := (h.node 0 0 0 0).typed b hb
    have e := hc.symm.trans h'
    injection e with e
    injection e with _ e
    exact absurd e (by decide))
def encO (z : Int) : Array Value := #[.int .i64 z]
theorem encO_size (z : Int) : (encO z).size = 1 := rfl
theorem encO_one (y : Int) : (encO y).all (·.oneCell') = true := by simp [encO, Value.oneCell']
/-- the places of the groups that are open: an own list; only its length matters -/
def OpenOk (w : World) (lo : Nat) (A : Option Addr) (n c : Nat) : Prop := ∃ xs : List Int, xs.length = n ∧ Own w lo 3 1 encO (.slice A n c) xs
variable {A : Option Addr} {n c : Nat}
theorem OpenOk.nil_ (w : World) (lo : Nat) : OpenOk w lo none 0 0 := ⟨[], rfl, Own.nil_ _ _ _ _ _⟩
theorem OpenOk.keep (h : OpenOk w lo A n c) (hk : ∀ b, (Value.slice A n c).ownBlock = some b → w'.heap[b]? = w.heap[b]?) : OpenOk w' lo A n c := by
  obtain ⟨xs, h1, h2⟩ := h
  exact ⟨xs, h1, own_block h2 hk⟩
theorem OpenOk.lt (h : OpenOk w lo A n c) : ∀ b, (Value.slice A n c).ownBlock = some b → lo ≤ b ∧ b < w.heap.size := by
  obtain ⟨xs, h1, h2⟩ := h
  exact h2.lt
theorem OpenOk.typed (h : OpenOk w lo A n c) : ∀ b, (Value.slice A n c).ownBlock = some b → IntBlk w b := by
  obtain ⟨xs, h1, h2⟩ := h
  exact own_typed h2
theorem OpenOk.ne (h : OpenOk w lo A n c) {b : Nat} {t : TypeId} {cs : Array Value} (hb : Blk w b t cs) (ht : t ≠ 3) : ∀ k, (Value.slice A n c).ownBlock = some k → k ≠ b := by
  rintro k hk rfl
  obtain ⟨cs', h'⟩ := h.typed k hk
  have e := hb.symm.trans h'
  injection e with e
  injection e with _ e
  exact ht e
theorem OpenOk.then_ (h : OpenOk w lo A n c) (hb : Below w.heap.size w w') : OpenOk w' lo A n c := h.keep fun b hk => hb.block b (h.lt b hk).2
theorem OpenOk.turn (h : OpenOk w lo A n c) {t : TypeId} {cs : Array Value} (hb : Blk w g t cs) (ht : t ≠ 3) (k : Turn g (g + 1) w w') : OpenOk w' lo A n c :=
  h.keep fun b hk => k.block b (h.lt b hk).2 (by have := h.ne hb ht b hk; omega)
theorem OpenOk.grown {r : Nat} (h : OpenOk w lo A n c) {t : TypeId} {cs : Array Value} (hb : Blk w r t cs) (ht : t ≠ 3) (hg : w.grownBy w' (some r)) : OpenOk w' lo A n c :=
  h.keep fun b hk => hg.block b (h.lt b hk).2 (fun e => h.ne hb ht b hk (by injection e))
theorem OpenOk.pop {A : Option Addr} {n c : Nat} (h : OpenOk w lo A (n + 1) c) : OpenOk w lo A n c := by
  obtain ⟨xs, h1, h2⟩ := h
  obtain ⟨k, cap, hv, _⟩ := h2.form (by omega)
  injection hv with hA hn hc
  subst hA
  have hx : xs = xs.take n ++ xs.drop n := (List.take_append_drop n xs).symm
  refine ⟨xs.take n, by simp; omega, ?_⟩
  unfold Own at h2 ⊢
  rw [hx, flat_append, List.take_append_drop, h1] at h2
  have hl : (xs.take n).length = n := by simp; omega
  rw [hl]
  exact ownsRow_pop (by rw [flat_length encO_size, hl]) h2
end
/-- what a part of the document's reader that may open groups hands back -/
def RtAns (lo g : Nat) (p : ByteArray) (n : Nat) (w : World) (B : Nat) (r : Ere.Res Nd) (e : Ending) (w' : World) : Prop := TR lo g w w' ∧ match r with
  | .got t j => (∃ A c, Blk w' g 82 (rrC p j A n c 0 0) ∧ OpenOk w' lo A n c) ∧ ∃ x bs, e = .returned (.agg (NV.C x)) ∧ NdO w' B t x bs
  | .fault en at_ => en ≠ 0 ∧ (∃ x : NV, e = .returned (.agg x.C)) ∧ ∃ i' A' n' c', Blk w' g 82 (rrC p i' A' n' c' en at_)
end Go.Proofs.Ytajainmldcnaeaa
namespace Go.Proofs.Ytajainmldcnaeaa
open Go.RowKit Go.Maps
set_option linter.unusedVariables false
set_option linter.unusedSimpArgs false
attribute [local go_sem] Oper.semAt_some

namespace Ere
/-- an atom at i, without its repeat -/
def atomR (p : ByteArray) (inner : Option (Nat → Res Nd)) (i : Nat) : Res Nd :=
  let c := chr p i
  if c = 40 then match inner with
    | none => .fault 47 i
    | some f => (f (i + 1)).bind fun t j => if p.size ≤ j then .fault 42 i else .got t (j + 1)
  else if c = 91 then setR p i (i + 1)
  else if c = 46 then .got (setN (notB 0)) (i + 1)
  else if c = 92 then (if oneOf p (i + 1) marks then .got (setN (bit (chr p (i + 1)))) (i + 2) else .fault 46 i)
  else .got (setN (bit c)) (i + 1)
theorem pieceR_atom (p : ByteArray) (inner : Option (Nat → Res Nd)) (i : Nat) (h1 : chr p i ≠ 94) (h2 : chr p i ≠ 36) (h3 : ¬ (chr p i = 42 ∨ chr p i = 43 ∨ chr p i = 63 ∨ chr p i = 123)) :
    pieceR p inner i = (atomR p inner i).bind fun t j => repeatR p t j := by
  unfold pieceR atomR
  simp only
  rw [if_neg h1, if_neg h2, if_neg h3]
  by_cases h40 : chr p i = 40
  · rw [if_pos h40, if_pos h40]
    cases inner with
    | none => rfl
    | some f =>
      simp only
      cases f (i + 1) with
      | fault e k => rfl
      | got t k =>
        simp only [Res.bind]
        by_cases hk : p.size ≤ k
        · rw [if_pos hk, if_pos hk]
        · rw [if_neg hk, if_neg hk]
  rw [if_neg h40, if_neg h40]
  by_cases h91 : chr p i = 91
  · rw [if_pos h91, if_pos h91]
  rw [if_neg h91, if_neg h91]
  by_cases h46 : chr p i = 46
  · rw [if_pos h46, if_pos h46]; rfl
  rw [if_neg h46, if_neg h46]
  by_cases h92 : chr p i = 92
  · rw [if_pos h92, if_pos h92]
    cases oneOf p (i + 1) marks <;> rfl
  rw [if_neg h92, if_neg h92]
  rfl
theorem repeatR_end {p : ByteArray} {t : Nd} {j : Nat} (h : p.size ≤ j) : repeatR p t j = .got t j := by
  have e : ∀ c, isAt p j c = false := fun c => by unfold isAt; rw [decide_eq_false (by omega), Bool.false_and]
  unfold repeatR
  rw [e, e, e, e]
  rfl
/-- where an alternative ends -/
theorem altR_end {p : ByteArray} {top : Bool} {pc : Nat → Res Nd} : ∀ n i l t j, altR p top pc n i l = .got t j → p.size ≤ j ∨ isAt p j 124 = true ∨ isAt p j 41 = true
  | 0, _, _, _, _, h => by cases h
  | n + 1, i, l, t, j, h => by
    unfold altR at h
    split at h
    · rename_i h1
      injection h with _ h
      subst h
      simp only [Bool.or_eq_true, decide_eq_true_eq] at h1
      rcases h1 with h1 | h1
      · exact .inl h1
      · exact .inr (.inl h1)
    · split at h
      · rename_i h2
        split at h
        · cases h
        · injection h with _ h
          subst h
          exact .inr (.inr h2)
      · cases hc : pc i with
        | fault e k => rw [hc] at h; cases h
        | got u k =>
          rw [hc] at h
          exact altR_end n k _ t j h
theorem patL_end {p : ByteArray} {al : Nat → Res Nd} (hal : ∀ i t j, al i = .got t j → p.size ≤ j ∨ isAt p j 124 = true ∨ isAt p j 41 = true) : ∀ n i l t j, patL p al n i l = .got t j → p.size ≤ j ∨ isAt p j 41 = true
  | 0, _, _, _, _, h => by cases h
  | n + 1, i, l, t, j, h => by
    unfold patL at h
    cases hc : al i with
    | fault e k => rw [hc] at h; cases h
    | got u k =>
      rw [hc] at h
      simp only [Res.bind] at h
      split at h
      · exact patL_end hal n _ _ t j h
      · rename_i h1
        injection h with _ h
        subst h
        rcases hal i u k hc with h2 | h2 | h2
        · exact .inl h2
        · exact absurd h2 h1
        · exact .inr h2
theorem patR_end {p : ByteArray} : ∀ n i t j, patR p n i = .got t j → p.size ≤ j ∨ isAt p j 41 = true
  | 0, i, t, j, h => by
    unfold patR at h
    exact patL_end (fun i t j h => altR_end _ _ _ _ _ h) _ _ _ _ _ h
  | n + 1, i, t, j, h => by
    unfold patR at h
    exact patL_end (fun i t j h => altR_end _ _ _ _ _ h) _ _ _ _ _ h
end Ere
theorem wl_pushO {ops : Array Oper} {rest : List Oper} {o : Oper} {a : Act} {w : World} {Q : Exit → Act → World → Prop} (hgd : o.guard = none) (s x : Operand) (ho : o.op = .call { callee := .builtin .append, args := #[s, x], argTypes := #[80, 80] })
    {lo n c : Nat} {A : Option Addr} (hO : OpenOk w lo A n c) (hs : a.eval s = .slice A n c) (g : Nat) (z : Int) (hx : a.eval x = .slice (some ⟨g, 0, none⟩) 1 1) (hb : Blk w g 3 (encO z)) (hmax : n ≤ 1000) (hB : lo ≤ w.heap.size)
    (h : ∀ A' c' w', OpenOk w' lo A' (n + 1) c' → w.grownBy w' (Value.slice A n c).ownBlock → wpList Try.prog ops Q rest (a.put o.dst (.slice A' (n + 1) c')) w') : wpList Try.prog ops Q (o :: rest) a w := by
  have hi := info_int3
  cases hI : Try.prog.info? 3 with
  | none => rw [hI] at hi; cases hi
  | some ii =>
    rw [hI] at hi
    simp only [Option.map_some, Option.some.injEq, Prod.mk.injEq] at hi
    obtain ⟨hz0, hz1, hz2⟩ := hi
    obtain ⟨xs, hxn, hown⟩ := hO
    subst hxn
    refine wl_append w hgd s x 80 ho lo 3 ii _ 1 8 Try.underlying80 hI hz0 hz1 hz2 rfl (by decide) encO_size encO_one _ xs hs hown w.heap.size (some ⟨g, 0, none⟩) 1 1 [z] hx rfl (slice_one (enc := encO) hb) (by unfold maxLen; omega) (by omega) hB ?_
    intro v' w' ho' hg hv
    obtain ⟨A', c', rfl, _, _⟩ := ho'.shape
    have hl8 : (xs ++ [z]).length = xs.length + 1 := by simp
    rw [hl8] at ho' ⊢
    exact h _ _ _ ⟨xs ++ [z], hl8, by rw [hl8] at *; exact ho'⟩ hg
theorem field_rreader_0 (b off : Nat) (w : World) : (Instr.fieldAt 82 (.pointer (some ⟨b, off, none⟩)) 0).run Try.prog w = .ok (.pointer (some ⟨b, off, none⟩)) w := by kernel_rfl
theorem field_rreader_1 (b off : Nat) (w : World) : (Instr.fieldAt 82 (.pointer (some ⟨b, off, none⟩)) 1).run Try.prog w = .ok (.pointer (some ⟨b, off + 1, none⟩)) w := by kernel_rfl
theorem field_rreader_2 (b off : Nat) (w : World) : (Instr.fieldAt 82 (.pointer (some ⟨b, off, none⟩)) 2).run Try.prog w = .ok (.pointer (some ⟨b, off + 2, none⟩)) w := by kernel_rfl
theorem field_rreader_3 (b off : Nat) (w : World) : (Instr.fieldAt 82 (.pointer (some ⟨b, off, none⟩)) 3).run Try.prog w = .ok (.pointer (some ⟨b, off + 3, none⟩)) w := by kernel_rfl
theorem field_rreader_4 (b off : Nat) (w : World) : (Instr.fieldAt 82 (.pointer (some ⟨b, off, none⟩)) 4).run Try.prog w = .ok (.pointer (some ⟨b, off + 4, none⟩)) w := by kernel_rfl
theorem gs_index_str {ops : Array Oper} {S : Nat → GSpec} {Q : Exit → Act → World → Prop} {i : Nat} {o : Oper} {a : Act} {w : World} (hw : Region.wanted o (yielded ops a.tmps) = true) (x y : Operand) (ho : o.op = .index 9 x y)
    (p : ByteArray) (n : Nat) (hx : a.eval x = .string p) (hy : a.eval y = .int .i64 (n : Int)) (hn : n < p.size) (hp : (S i).p (.int .u8 ((Ere.chr p n : Nat) : Int)) w) : GStep Try.prog ops S Q i o a w :=
  gs_run hw (v := .int .u8 ((Ere.chr p n : Nat) : Int)) (w' := w) (by
    unfold execOp Ere.chr
    simp only [ho, hx, hy, Sem.run_bind, run_index_string w 9 p .i64 (n : Int) Try.underlying9]
    rw [dif_pos ⟨by omega, by omega⟩, dif_pos hn]
    rfl) (Below.refl _ _) hp
theorem enter_more4 (args : Array Value) (w : World) : (callFunc 68 args).run Try.prog w = .ok (.enter 68 args) w := by kernel_rfl
theorem enter_marked4 (args : Array Value) (w : World) : (callFunc 95 args).run Try.prog w = .ok (.enter 95 args) w := by kernel_rfl
theorem enter_with4 (args : Array Value) (w : World) : (callFunc 96 args).run Try.prog w = .ok (.enter 96 args) w := by kernel_rfl
theorem enter_rset4 (args : Array Value) (w : World) : (callFunc 93 args).run Try.prog w = .ok (.enter 93 args) w := by kernel_rfl
theorem same_step {f : FuncId} {vs : Array Value} {v : Value} {w : World} {S : GSpec} (h : Calls Try.prog f vs w fun e w' => e = .returned v ∧ w' = w) (hS : S.p v w) : Calls Try.prog f vs w fun e w' => ∃ v, e = .returned v ∧ Below w.heap.size w w' ∧ S.p v w' :=
  h.mono fun e w' h => ⟨v, h.1, by rw [h.2]; exact Below.refl _ _, by rw [h.2]; exact hS⟩
end Go.Proofs.Ytajainmldcnaeaa
