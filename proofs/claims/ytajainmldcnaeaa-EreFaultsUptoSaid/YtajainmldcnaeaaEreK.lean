/- ere: a named class within a set. No condition beyond those named in each lemma. -/
import Derived.Test.YtajainmldcnaeaaClsAll
import Derived.Test.YtajainmldcnaeaaEreR
import Derived.Test.YtajainmldcnaeaaShelf
import Derived.Lib.IndexMore
namespace Go.Proofs.Ytajainmldcnaeaa
open Go.RowKit Go.Maps
set_option linter.unusedVariables false
set_option linter.unusedSimpArgs false
attribute [local go_sem] Oper.semAt_some

namespace Ere
def hit (p : ByteArray) (j : Nat) : Prop := j + 1 < p.size ∧ chr p j = 58 ∧ chr p (j + 1) = 93
theorem endAt_none (p : ByteArray) : ∀ n i, p.size ≤ n + i → endAt p n i = none → ∀ j, i ≤ j → ¬ hit p j
  | 0, i, hn, _, j, hj => fun h => by have := h.1; omega
  | n + 1, i, hn, h, j, hj => by
    unfold endAt at h
    split at h
    · intro hh; have := hh.1; omega
    · split at h
      · cases h
      · rename_i h1 h2
        by_cases e : j = i
        · subst e
          exact fun hh => h2 ⟨hh.2.1, hh.2.2⟩
        · exact endAt_none p n (i + 1) (by omega) h j (by omega)
theorem endAt_some (p : ByteArray) : ∀ n i j, endAt p n i = some j → i ≤ j ∧ hit p j ∧ ∀ k, i ≤ k → k < j → ¬ hit p k
  | 0, i, j, h => by cases h
  | n + 1, i, j, h => by
    unfold endAt at h
    split at h
    · cases h
    · split at h
      · rename_i h1 h2
        injection h with h
        subst h
        exact ⟨Nat.le_refl _, ⟨by omega, h2.1, h2.2⟩, fun k h3 h4 => by omega⟩
      · rename_i h1 h2
        obtain ⟨a, b, c⟩ := endAt_some p n (i + 1) j h
        refine ⟨by omega, b, fun k h3 h4 => ?_⟩
        by_cases e : k = i
        · subst e
          exact fun hh => h2 ⟨hh.2.1, hh.2.2⟩
        · exact c k (by omega) h4
theorem chr_list (p : ByteArray) (j : Nat) (c : UInt8) : (p.data.toList[j]? = some c) ↔ (j < p.size ∧ chr p j = c.toNat) := by
  unfold chr
  by_cases h : j < p.size
  · rw [dif_pos h]
    have e : p.data.toList[j]? = some p[j] := Lib.data_getElem? p j h
    rw [e]
    constructor
    · intro e; injection e with e; exact ⟨h, by rw [e]⟩
    · intro e; rw [UInt8.toNat_inj.1 e.2]
  · rw [dif_neg h]
    constructor
    · intro e
      have : p.data.toList[j]? = none := by rw [List.getElem?_eq_none]; simpa using h
      rw [this] at e; cases e
    · intro e; exact absurd e.1 h
theorem occ_hit (p : ByteArray) (a k : Nat) (ha : a ≤ p.size) : (Lib.occAt (p.extract a p.size).data.toList [58, 93] k = true) ↔ hit p (a + k) := by
  unfold Lib.occAt
  rw [Lib.extract_to_end, List.drop_drop]
  have key : ∀ l : List UInt8, (([58, 93] : List UInt8).isPrefixOf l = true) ↔ (l[0]? = some 58 ∧ l[1]? = some 93) := by
    intro l
    rcases l with _ | ⟨x, _ | ⟨y, l⟩⟩
    · simp
    · simp
    · simp [List.isPrefixOf]
      constructor <;> (rintro ⟨a, b⟩; exact ⟨a.symm, b.symm⟩)
  rw [key, List.getElem?_drop, List.getElem?_drop, Nat.add_zero, chr_list, chr_list]
  unfold hit
  constructor
  · rintro ⟨⟨_, h2⟩, h3, h4⟩
    exact ⟨by omega, h2, h4⟩
  · rintro ⟨h1, h2, h3⟩
    exact ⟨⟨by omega, h2⟩, by omega, h3⟩
theorem index_end (p : ByteArray) (a : Nat) (ha : a ≤ p.size) : Lib.index (p.extract a p.size).data.toList [58, 93] = match endAt p p.size a with
    | none => -1
    | some j => ((j - a : Nat) : Int) := by
  have hl : (p.extract a p.size).data.toList.length = p.size - a := by
    rw [Lib.extract_to_end]
    simp
  cases he : endAt p p.size a with
  | none =>
    refine Lib.index_none fun k hk => ?_
    rw [Bool.eq_false_iff]
    exact fun h => endAt_none p p.size a (by omega) he (a + k) (by omega) ((occ_hit p a k ha).1 h)
  | some j =>
    obtain ⟨h1, h2, h3⟩ := endAt_some p p.size a j he
    have h4 := h2.1
    refine Lib.index_first (i := j - a) (by omega) ((occ_hit p a (j - a) ha).2 (by rw [show a + (j - a) = j by omega]; exact h2)) fun k hk => ?_
    rw [Bool.eq_false_iff]
    exact fun h => h3 (a + k) (by omega) (by omega) ((occ_hit p a k ha).1 h)
theorem sub_extract (p : ByteArray) (a n : Nat) (h : a + n ≤ p.size) : ((p.extract a p.size).extract 0 n).toList.map UInt8.toNat = sub p a (a + n) := by
  rw [ByteArray.toList_eq]
  unfold sub
  rw [show a + n - a = n by omega]
  apply List.ext_getElem?
  intro k
  rw [List.getElem?_map, List.getElem?_map]
  by_cases hk : k < n
  · have hs : ((p.extract a p.size).extract 0 n).data.toList[k]? = some (p[a + k]'(by omega)) := by
      rw [Lib.data_getElem? _ k (by simp; omega)]
      congr 1
      rw [ByteArray.getElem_extract, ByteArray.getElem_extract]
      simp
    rw [hs, List.getElem?_range hk]
    simp only [Option.map_some]
    unfold chr
    rw [dif_pos (by omega)]
  · rw [List.getElem?_eq_none (by simp; omega), List.getElem?_eq_none (by simp; omega)]
    rfl
end Ere
/-- the library's variable holds some number -/
def Mx (w : World) : Prop := ∃ m : Int, w.cell? ⟨0, 0, none⟩ = some (.int .i64 m)
theorem Mx.turn {g : Nat} {w w' : World} (h : Mx w) (ht : Turn g (g + 1) w w') (h0 : 0 < g) : Mx w' := by
  obtain ⟨m, hm⟩ := h
  refine ⟨m, ?_⟩
  have h1 : 0 < w.heap.size := by
    rcases Nat.eq_zero_or_pos w.heap.size with e | e
    · unfold World.cell? at hm
      simp [Array.getElem?_eq_none (show w.heap.size ≤ 0 by omega)] at hm
    · exact e
  exact (World.cell?_of_block (w := w) (ht.block 0 h1 (.inl h0))).trans hm
theorem Mx.then_ {w w' : World} (h : Mx w) (ht : Below w.heap.size w w') : Mx w' := h.turn (g := 1) (Turn.of_below ht) (by omega)
theorem set0_eq : setC 0 = #[.int .u64 0, .int .u64 0, .int .u64 0, .int .u64 0] := by kernel_rfl
set_option maxRecDepth 100000 in
set_option maxHeartbeats 4000000 in
theorem clas_any (g : Nat) (p : ByteArray) (i s : Nat) (w : World) (hP : Blk w g 76 (rdC p i)) (hi : i + 2 ≤ p.size) (hp : p.size ≤ 1024) (hM : Mx w) :
    Calls Try.prog 101 #[.pointer (some ⟨g, 0, none⟩), .int .i64 (s : Int)] w fun e w' => RdAns g p w (fun x : BSet => .agg (setC x)) (Ere.classR p s i) e w' := by
  obtain ⟨r, hr0⟩ : ∃ r, Ere.classR p s i = r := ⟨_, rfl⟩
  rw [hr0]
  have hR := hr0
  unfold Ere.classR at hR
  have hE := Ere.index_end p (i + 2) hi
  have hsub := fun n h => Ere.sub_extract p (i + 2) n h
  obtain ⟨q, hq⟩ : ∃ q, q = p.extract (i + 2) p.size := ⟨_, rfl⟩
  rw [← hq] at hE hsub
  replace hq := Lib.hid hq
  replace hsub := Lib.hid hsub
  obtain ⟨oe, hoe⟩ : ∃ o, Ere.endAt p p.size (i + 2) = o := ⟨_, rfl⟩
  rw [hoe] at hR hE
  have hend := fun j (e : oe = some j) => Ere.endAt_some p p.size (i + 2) j (by rw [hoe, e])
  clear hr0 hoe
  replace hend := Lib.hid hend
  replace hR := Lib.hid hR
  have hI : ∀ W, Mx W → Calls Try.prog 104 #[.string q, .string ⟨#[58, 93]⟩] W fun e w' => e = .returned (.int .i64 (Lib.index q.data.toList [58, 93])) ∧ w' = W := fun W hW => by
    obtain ⟨m, hm⟩ := hW
    exact Try.strings_Index q ⟨#[58, 93]⟩ m W (by rw [hq.out]; simp; omega) hm
  rw [hE] at hI
  replace hI := Lib.hid hI
  clear hE
  have hT := Turn.refl g (g + 1) w
  have hgl := Lib.hid hP.lt
  have hpI : (p.size : Int) ≤ 1024 := by omega
  have hiI : (i : Int) + 2 ≤ p.size := by omega
  go_enter Try.func101, Try.ntmps101
  have h4 : Blk (w.alloc (.cells #[.int .u64 0, .int .u64 0, .int .u64 0, .int .u64 0] 24)) w.heap.size 24 (setC 0) := by rw [set0_eq]; exact Blk.new' _ _ _ rfl
  have hB1 : Below w.heap.size w (w.alloc (.cells #[.int .u64 0, .int .u64 0, .int .u64 0, .int .u64 0] 24)) := below_alloc (Below.refl _ _) _
  go_upto_region 1 with (fail)
  obtain ⟨w1, hw1⟩ : ∃ y, y = w.alloc (.cells #[.int .u64 0, .int .u64 0, .int .u64 0, .int .u64 0] 24) := ⟨_, rfl⟩
  have hg4 := h4.lt
  rw [← hw1] at h4 hB1 hg4 ⊢
  clear hw1
  replace hP := blk_then hP hB1
  replace hT := hT.then_ hB1
  replace hM := hM.then_ hB1
  clear hB1
  obtain ⟨g4, hg4e⟩ : ∃ y, y = w.heap.size := ⟨_, rfl⟩
  rw [← hg4e] at h4 hg4 ⊢
  have hwb := Lib.hid (show w.heap.size ≤ g4 by omega)
  clear hg4e
  have c0 : w1.cell? ⟨g, 0, none⟩ = some (.string p) := hP.cellv rfl
  have c1 : w1.cell? ⟨g, 1, none⟩ = some (.int .i64 (i : Int)) := hP.cellv rfl
  go_big_region
  rw [← hq.out]
  replace hP := hP.drew
  replace h4 := h4.drew
  replace hT := hT.then_ ((Below.refl w1.heap.size w1).drew)
  replace hM := hM.then_ ((Below.refl w1.heap.size w1).drew)
  replace hg4 : g4 < w1.drew.heap.size := hg4
  obtain ⟨w2, hw2⟩ : ∃ y, y = w1.drew := ⟨_, rfl⟩
  rw [← hw2] at hP h4 hT hM hg4 ⊢
  clear hw2 c0 c1
  have kI := hI.out w2 hM
  cases oe with
  | none =>
    have hr := Lib.hid (show r = .fault 43 s by rw [← hR.out])
    simp only at kI
    clear hI hend hsub
    go_wp2_with (first | (go_at_call 104; refine kI.mono ?_; rintro e w3 ⟨rfl, rfl⟩) | (go_at_call 40; refine (give_any 43 s _).mono ?_; rintro e w4 ⟨hfe, hB⟩; unfold faultE at hfe; subst hfe))
    rw [hr.out]
    exact ⟨rfl, hT.then_ hB, rfl⟩
  | some j =>
    obtain ⟨h1, h2, _⟩ := hend.out j rfl
    have h3 := h2.1
    obtain ⟨n, hn⟩ : ∃ n, j = i + 2 + n := ⟨j - (i + 2), by omega⟩
    subst hn
    have hjn : i + 2 + n - (i + 2) = n := by omega
    simp only [hjn] at kI
    have hqs : q.size = p.size - (i + 2) := by rw [hq.out]; simp
    have hnI : (n : Int) ≤ q.size := by omega
    have hnp : (n : Int) ≤ 1024 := by omega
    have kC := class_all (q.extract 0 n)
    rw [hsub.out n (by omega)] at kC
    clear h1 h2 h3 hjn hqs hend hsub hI
    cases hnb : Ere.nameB (Ere.sub p (i + 2) (i + 2 + n)) with
    | none =>
      have hcv : clsV (Ere.sub p (i + 2) (i + 2 + n)) = .tuple #[.agg (setC 0), .int .i64 30] := by unfold clsV; rw [hnb]
      rw [hcv] at kC
      have hr := Lib.hid (show r = .fault 30 i by rw [← hR.out]; simp only [hnb])
      clear hcv hnb hR
      go_upto_region 6 with (first | (go_at_call 104; refine kI.mono ?_; rintro e w3 ⟨rfl, rfl⟩) | (go_at_call 105; refine (kC _).mono ?_; rintro e w4 ⟨rfl, hB⟩) | (refine wl_store_set rfl _ _ rfl _ _ rfl rfl _ (Blk.new _ _ (setC 0)) ?_; intro w5 hb5 hg5))
      have hsz := Lib.hid (show g < w4.heap.size ∧ g4 < w4.heap.size ∧ w.heap.size ≤ w4.heap.size by have := hB.size; have := hP.lt; have := h4.lt; have := hT.size; omega)
      have hB5 := below_grown (below_then hB (below_alloc (Below.refl w4.heap.size w4) (.cells #[.int .u64 0, .int .u64 0, .int .u64 0, .int .u64 0] 24))) hg5 hB.size
      replace hP := blk_then hP hB5
      replace hT := hT.then_ hB5
      replace h4 := blk_then h4 hB5
      clear hB hg5 hM kI kC
      have hP0 := hP.lt
      have h40 := h4.lt
      have c1 : w5.cell? ⟨g, 1, none⟩ = some (.int .i64 (i : Int)) := hP.cellv rfl
      go_wp2_with (go_at_call 40; refine (give_any 30 i _).mono ?_; rintro e w6 ⟨hfe, hB⟩; unfold faultE at hfe; subst hfe)
      rw [hr.out]
      exact ⟨rfl, hT.then_ hB, rfl⟩
    | some x =>
      have hcv : clsV (Ere.sub p (i + 2) (i + 2 + n)) = .tuple #[.agg (setC x), .int .i64 0] := by unfold clsV; rw [hnb]
      rw [hcv] at kC
      have hr := Lib.hid (show r = .got x (i + 2 + n + 2) by rw [← hR.out]; simp only [hnb])
      clear hcv hnb hR
      go_upto_region 6 with (first | (go_at_call 104; refine kI.mono ?_; rintro e w3 ⟨rfl, rfl⟩) | (go_at_call 105; refine (kC _).mono ?_; rintro e w4 ⟨rfl, hB⟩) | (refine wl_store_set rfl _ _ rfl _ _ rfl rfl _ (Blk.new _ _ (setC 0)) ?_; intro w5 hb5 hg5))
      have hsz := Lib.hid (show g < w4.heap.size ∧ g4 < w4.heap.size ∧ w.heap.size ≤ w4.heap.size by have := hB.size; have := hP.lt; have := h4.lt; have := hT.size; omega)
      have hB5 := below_grown (below_then hB (below_alloc (Below.refl w4.heap.size w4) (.cells #[.int .u64 0, .int .u64 0, .int .u64 0, .int .u64 0] 24))) hg5 hB.size
      replace hP := blk_then hP hB5
      replace hT := hT.then_ hB5
      replace h4 := blk_then h4 hB5
      clear hB hg5 hM kI kC
      have hP0 := hP.lt
      have h40 := h4.lt
      have hb50 := hb5.lt
      obtain ⟨g7, hg7⟩ : ∃ y, y = w4.heap.size := ⟨_, rfl⟩
      rw [← hg7] at hb5 hb50 ⊢
      have hne := Lib.hid (show g7 ≠ g ∧ g4 ≠ g ∧ w.heap.size ≤ g7 by have := hsz.out; have := hwb.out; have := hgl.out; omega)
      clear hg7
      have c1 : w5.cell? ⟨g, 1, none⟩ = some (.int .i64 (i : Int)) := hP.cellv rfl
      have f1 := hP.frozen 1
      go_upto_region 9 with (fail)
      have hP2 := setRd hP (v := .int .i64 ((i : Int) + (2 + (n : Int) + 2))) (j := i + 2 + n + 2) (by congr 1; omega)
      have hT2 := turnRd hT 1 (.int .i64 ((i : Int) + (2 + (n : Int) + 2)))
      have h42 := h4.far (p := ⟨g, 1, none⟩) (by have := hne.out; simp; omega) (.int .i64 ((i : Int) + (2 + (n : Int) + 2)))
      have h72 := hb5.far (p := ⟨g, 1, none⟩) (by have := hne.out; simp; omega) (.int .i64 ((i : Int) + (2 + (n : Int) + 2)))
      obtain ⟨w6, hw6⟩ : ∃ y, y = w5.setCell ⟨g, 1, none⟩ (.int .i64 ((i : Int) + (2 + (n : Int) + 2))) := ⟨_, rfl⟩
      rw [← hw6] at hP2 hT2 h42 h72 ⊢
      clear hw6 c1 f1 hP hT h4 hb5 hB5
      go_wp2_with (first | (refine wl_load_set rfl _ rfl g7 rfl _ h72 ?_) | (refine wl_store_set rfl _ _ rfl g4 _ rfl rfl _ h42 ?_; intro w7 h7 hg7))
      refine ret_set rfl rfl h7 rfl ?_
      rw [hr.out]
      exact ⟨hT2.grown hg7 (fun q e => by injection e with e; have := hwb.out; right; omega), rfl, hP2.grown hg7 (fun e => by injection e with e; have := hne.out; omega)⟩
end Go.Proofs.Ytajainmldcnaeaa
