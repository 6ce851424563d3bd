/- The walk of conf's Quote. No condition beyond those named in each lemma. -/
import Derived.Test.YtjplgcmfifoefaaDoorShC
import Derived.Test.YtjplgcmfifoefaaDoorQtC
namespace Go.Proofs.YtjplgcmfifoefaaDoor
open Go.RowKit Go.Maps
set_option linter.unusedVariables false
set_option linter.unusedSimpArgs false
attribute [local go_sem] Oper.semAt_some

theorem qOne_len (l : Bs) (hne : l ≠ []) : (qOne l).length ≤ 4 * (Lib.decodeL l).2 := by
  have hw := Lib.decodeL_width l
  unfold qOne
  repeat' split
  all_goals simp [byN] <;> omega
theorem convS34 (W : World) : (convert 21 9 (.int .i32 34)).run Tryd.prog W = .ok (.string ⟨#[34]⟩) W := by kernel_rfl
theorem convS92 (W : World) : (convert 21 9 (.int .i32 92)).run Tryd.prog W = .ok (.string ⟨#[92]⟩) W := by kernel_rfl
theorem e34 : (({ data := #[92] } : ByteArray) ++ Utf8.encode 34) = { data := #[92, 34] } := by rfl
theorem e92 : (({ data := #[92] } : ByteArray) ++ Utf8.encode 92) = { data := #[92, 92] } := by rfl
set_option maxHeartbeats 4000000 in
theorem quote_any (s : ByteArray) (hs : s.size ≤ 1099511627776) (w : World) (hS : SOk w) : Calls Tryd.prog 21 #[.string s] w fun e w' => e = .returned (strV (quo s.data.toList)) ∧ Below w.heap.size w w' := by
  have hpl := plain_any s hs w
  by_cases hp : isPl s.data.toList = true
  · rw [hp] at hpl
    have hv : Hid (strV (quo s.data.toList) = .string s) := Lib.hid (by unfold strV; rw [quo_pl hp, bytes_of])
    clear hp hS
    go_enter Tryd.func21, Tryd.ntmps21
    go_wp2_with (go_at_call 31; refine hpl.mono ?_; clear hpl; rintro e w' ⟨rfl, hw'⟩; subst w')
    go_ret
    exact ⟨by rw [hv.out]; rfl, Below.refl _ _⟩
  · have hp' : isPl s.data.toList = false := by simpa using hp
    rw [hp'] at hpl
    have HQ := Lib.hid (quo_no hp')
    have HS := Lib.hid hS
    have h7 := hS.size
    clear hp hp' hS
    go_enter Tryd.func21, Tryd.ntmps21
    go_upto_region 4 with (go_at_call 31; refine hpl.mono ?_; clear hpl; rintro e w' ⟨rfl, hw'⟩; subst w')
    have hI0 : IsB w.heap.size w.heap.size [] (w.alloc (.cells #[.pointer none, .slice none 0 0] 63)) := Lib.IsBuilderF.of (Lib.fresh_isBuilder _ _ w)
    have hB1 := below_alloc (Below.refl w.heap.size w) (.cells #[.pointer none, .slice none 0 0] 63)
    have hsz1 := hB1.size
    obtain ⟨w1, hw1⟩ : ∃ y, y = w.alloc (.cells #[.pointer none, .slice none 0 0] 63) := ⟨_, rfl⟩
    rw [← hw1] at hI0 hB1 hsz1 ⊢
    have hgw : w.heap.size ≤ w1.heap.size := hsz1
    clear hw1
    obtain ⟨g, hg⟩ : ∃ y, y = w.heap.size := ⟨_, rfl⟩
    rw [← hg] at hI0 hB1 hgw h7 ⊢
    replace hg := Lib.hid hg
    have hS1 := HS.out.then_ h7 hB1
    have k1 := bWriteByte g g [] 34 w1 hI0 (by simp) hgw
    rw [show ((34 : UInt8).toNat : Int) = 34 from rfl] at k1
    clear hI0 hsz1
    go_upto_region 5 with (go_at_call 32; refine k1.mono ?_; clear k1; rintro e w2 ⟨rfl, hI2, hB2, hK2⟩)
    replace hB1 := hB1.trans hB2
    replace hgw := Nat.le_trans hgw hB2.size
    have hS2 := Lib.hid (hS1.then_ h7 hB2)
    clear hK2 hB2 hS1 HS
    obtain ⟨k, hk⟩ : ∃ y, y = w2.heap.size := ⟨_, rfl⟩
    have hgk : g < k := by
      rw [hk]
      have : ∀ p, Lib.BuilderAtF 63 5 g g p (Lib.byteCells ([] ++ [34])) w2 → g < w2.heap.size := fun p h => h.lt
      exact hI2.elim (this _) (this _)
    go_wp2_with (fail)
    rw [← hk]
    replace hk := Lib.hid hk
    go_loopw [4] (fun _ wr => ∃ (pos fuel : Nat) (acc : Bs), IsB g g acc wr ∧ wr.heap[k]? = some (.stringIter s pos) ∧ Below g w wr ∧ Hid (quo s.data.toList = acc ++ (qGo fuel (s.data.toList.drop pos) ++ [34])) ∧ s.size ≤ pos + fuel ∧ pos ≤ s.size ∧ acc.length ≤ 1 + 4 * pos ∧ Hid (SOk wr)) (fun _ wr => s.size - wr.iterPos k)
    case atStart =>
      refine ⟨0, s.size, [34], hI2.alloc _, ?_, hB1.alloc hgw _, ?_, by omega, by omega, by simp, ?_⟩
      · have := World.iter_heap w2 s 0
        rw [hk.out]
        simpa using this
      · exact Lib.hid (by rw [HQ.out]; simp)
      · exact Lib.hid (hS2.out.then_ h7 ((Below.refl g w2).alloc hgw _))
    case round =>
      clear hI2 hB1 hS2 hgw
      obtain ⟨pos, fuel, acc, hI, hit, hB, hq, hfu, hpz, hal, hS⟩ := hrel
      have hkw : k < wr.heap.size := (Array.getElem?_eq_some_iff.1 hit).1
      by_cases hp : pos < s.size
      · obtain ⟨l, hl⟩ : ∃ l, s.data.toList.drop pos = l := ⟨_, rfl⟩
        have hlen : l.length = s.size - pos := by rw [← hl, List.length_drop]; simp
        have hne : l ≠ [] := by intro h; rw [h] at hlen; simp at hlen; omega
        have hdec : Lib.decodeL l = Utf8.decode s pos := by rw [← hl]; exact Lib.decodeL_drop s pos
        obtain ⟨r, hr⟩ : ∃ r, (Lib.decodeL l).1 = r := ⟨_, rfl⟩
        obtain ⟨n, hn⟩ : ∃ n, (Lib.decodeL l).2 = n := ⟨_, rfl⟩
        have hd : Utf8.decode s pos = (r, n) := by rw [← hdec]; exact Prod.ext hr hn
        have hnx : ∀ ty, (Instr.next (.pointer (some ⟨k, 0, none⟩)) true ty).run Tryd.prog wr = .ok (.tuple #[.bool true, .int .i64 pos, .int .i32 (r : Nat)]) (wr.iterAt k s (pos + n)) := fun ty => by
          have h9 := Lib.run_next_any_at (P := Tryd.prog) wr k s pos ty hit hp
          rw [hd] at h9
          exact h9
        have hr1 : r ≤ 1114111 := by rw [← hr]; exact Lib.decodeL_rune l
        have hn1 : 1 ≤ n := by rw [← hn]; exact Lib.decodeL_width l
        have hn2 : n ≤ l.length := by rw [← hn]; exact Lib.decodeL_le l hne
        have hol : (qOne l).length ≤ 4 * n := by rw [← hn]; exact qOne_len l hne
        have hI3 := hI.iterAt hit (pos + n)
        have hit3 := Lib.iterAt_heap wr k s pos (pos + n) hit
        have hB3 := Lib.below_iterAt hB (k := k) (by omega) s (pos + n)
        have hS3 := hS.out.then_ h7 (Lib.below_iterAt (Below.refl g wr) (k := k) (by omega) s (pos + n))
        have hip : wr.iterPos k = pos := by simp [World.iterPos, hit]
        have hg3 : g ≤ (wr.iterAt k s (pos + n)).heap.size := by rw [Lib.iterAt_size]; omega
        have hk3 : k < (wr.iterAt k s (pos + n)).heap.size := by rw [Lib.iterAt_size]; exact hkw
        obtain ⟨w3, hw3⟩ : ∃ y, y = wr.iterAt k s (pos + n) := ⟨_, rfl⟩
        rw [← hw3] at hnx hI3 hit3 hB3 hS3 hg3 hk3
        clear hw3
        have kD : Calls Tryd.prog 33 #[.string (s.extract pos s.size)] w3 fun e w' => e = .returned (.tuple #[.int .i32 (r : Nat), .int .i64 (n : Nat)]) ∧ Below w3.heap.size w3 w' := by
          have h9 := decode_any (s.extract pos s.size) w3 hS3
          have e : Lib.decodeGo (s.extract pos s.size) = (r, n) := by
            unfold Lib.decodeGo
            rw [if_neg (by rw [ByteArray.size_extract]; omega), ← Lib.decodeL_drop, List.drop_zero, extract_bytes _ _ _ (Nat.le_refl _), List.take_of_length_le (by simp), hl]
            exact Prod.ext hr hn
          rw [e] at h9
          exact h9
        have hex : ∃ f, fuel = f + 1 := ⟨fuel - 1, by omega⟩
        obtain ⟨fuel, rfl⟩ := hex
        have fin : ∀ w4 w5, IsB g g (acc ++ qOne l) w5 → Below w3.heap.size w3 w4 → Below g w4 w5 → Kept g w4 w5 →
            (∃ (pos fuel : Nat) (acc : Bs), IsB g g acc w5 ∧ w5.heap[k]? = some (.stringIter s pos) ∧ Below g w w5 ∧ Hid (quo s.data.toList = acc ++ (qGo fuel (s.data.toList.drop pos) ++ [34])) ∧ s.size ≤ pos + fuel ∧ pos ≤ s.size ∧ acc.length ≤ 1 + 4 * pos ∧ Hid (SOk w5)) ∧ s.size - w5.iterPos k < s.size - wr.iterPos k := by
          intro w4 w5 hI5 hB4 hB5 hK5
          have hit4 : w4.heap[k]? = some (.stringIter s (pos + n)) := (hB4.block k hk3).trans hit3
          have hit5 := hK5.iter hit4 (by omega)
          have hB35 := (hB4.mono hg3).trans hB5
          refine ⟨⟨pos + n, fuel, acc ++ qOne l, hI5, hit5, hB3.trans hB35, Lib.hid ?_, by omega, by omega, by rw [List.length_append]; omega, Lib.hid (hS3.then_ h7 hB35)⟩, ?_⟩
          · rw [hq.out, hl, qGo, if_neg hne, hn, ← hl, List.drop_drop]
            simp [Nat.add_comm]
          · have : w5.iterPos k = pos + n := by simp [World.iterPos, hit5]
            rw [this, hip]
            omega
        have hg4 : ∀ w4, Below w3.heap.size w3 w4 → g ≤ w4.heap.size := fun w4 h => Nat.le_trans hg3 h.size
        have Fin := Lib.hid fin
        have HG4 := Lib.hid hg4
        have hO : qOne l = if r = 34 ∨ r = 92 then [92, UInt8.ofNat r] else if r = 10 then [92, 110] else if r = 9 then [92, 116] else if r < 32 ∨ r = 127 ∨ (r = 65533 ∧ n = 1) then byN (l.getD 0 0) else l.take n := by
          unfold qOne; rw [hr, hn]
        have HO := Lib.hid hO
        have hpI : (pos : Int) ≤ s.size := by omega
        have hpI0 : ¬ (pos : Int) < 0 := by omega
        clear fin hg4 hO hq hdec hd hip hB3 hit3 hS3 hS hI hit hB
        by_cases c1 : r = 34
        · subst c1
          have hX : Hid (qOne l = [92, 34]) := Lib.hid (by rw [HO.out, if_pos (.inl rfl)]; rfl)
          clear HO
          go_wp2_with (first
            | (go_at_call 33; refine kD.mono ?_; clear kD; rintro e w4 ⟨rfl, hB4⟩)
            | (go_at_call 23; refine (bWriteString g g acc _ w4 (isB_below hI3 hB4) (by rw [e34, ByteArray.size]; simp; omega) (HG4.out w4 hB4)).mono ?_; rintro e w5 ⟨rfl, hI5, hB5, hK5⟩))
          exact Fin.out w4 w5 (by rw [hX.out]; rw [show ([92, 34] : Bs) = (({ data := #[92] } : ByteArray) ++ Utf8.encode 34).data.toList from rfl]; exact hI5) hB4 hB5 hK5
        have f1 : (((r : Nat) : Int) == 34) = false := beq_eq_false_iff_ne.2 (by omega)
        by_cases c2 : r = 92
        · subst c2
          have hX : Hid (qOne l = [92, 92]) := Lib.hid (by rw [HO.out, if_pos (.inr rfl)]; rfl)
          clear HO
          go_wp2_with (first
            | (go_at_call 33; refine kD.mono ?_; clear kD; rintro e w4 ⟨rfl, hB4⟩)
            | (go_at_call 23; refine (bWriteString g g acc _ w4 (isB_below hI3 hB4) (by rw [e92, ByteArray.size]; simp; omega) (HG4.out w4 hB4)).mono ?_; rintro e w5 ⟨rfl, hI5, hB5, hK5⟩))
          exact Fin.out w4 w5 (by rw [hX.out]; rw [show ([92, 92] : Bs) = (({ data := #[92] } : ByteArray) ++ Utf8.encode 92).data.toList from rfl]; exact hI5) hB4 hB5 hK5
        have f2 : (((r : Nat) : Int) == 92) = false := beq_eq_false_iff_ne.2 (by omega)
        have c12 : ¬ (r = 34 ∨ r = 92) := by omega
        by_cases c3 : r = 10
        · have f3 : (((r : Nat) : Int) == 10) = true := beq_iff_eq.2 (by omega)
          have hX : Hid (qOne l = [92, 110]) := Lib.hid (by rw [HO.out, if_neg c12, if_pos c3])
          clear HO
          go_wp2_with (first
            | (go_at_call 33; refine kD.mono ?_; clear kD; rintro e w4 ⟨rfl, hB4⟩)
            | (go_at_call 23; refine (bWriteString g g acc _ w4 (isB_below hI3 hB4) (by rw [show (⟨#[92, 110]⟩ : ByteArray).size = 2 from rfl]; omega) (HG4.out w4 hB4)).mono ?_; rintro e w5 ⟨rfl, hI5, hB5, hK5⟩))
          exact Fin.out w4 w5 (by rw [hX.out]; exact hI5) hB4 hB5 hK5
        have f3 : (((r : Nat) : Int) == 10) = false := beq_eq_false_iff_ne.2 (by omega)
        by_cases c4 : r = 9
        · have f4 : (((r : Nat) : Int) == 9) = true := beq_iff_eq.2 (by omega)
          have hX : Hid (qOne l = [92, 116]) := Lib.hid (by rw [HO.out, if_neg c12, if_neg c3, if_pos c4])
          clear HO
          go_wp2_with (first
            | (go_at_call 33; refine kD.mono ?_; clear kD; rintro e w4 ⟨rfl, hB4⟩)
            | (go_at_call 23; refine (bWriteString g g acc _ w4 (isB_below hI3 hB4) (by rw [show (⟨#[92, 116]⟩ : ByteArray).size = 2 from rfl]; omega) (HG4.out w4 hB4)).mono ?_; rintro e w5 ⟨rfl, hI5, hB5, hK5⟩))
          exact Fin.out w4 w5 (by rw [hX.out]; exact hI5) hB4 hB5 hK5
        have f4 : (((r : Nat) : Int) == 9) = false := beq_eq_false_iff_ne.2 (by omega)
        have hget : l.getD 0 0 = s[pos] := by rw [← hl, List.getD_eq_getElem?_getD, List.getElem?_drop, Nat.add_zero, List.getElem?_eq_getElem (by simpa using hp)]; rfl
        have hpos : (pos : Int) < s.size := by omega
        by_cases c5 : r < 32
        · have f5 : ((r : Nat) : Int) < 32 := by omega
          have hX : Hid (qOne l = byN s[pos]) := Lib.hid (by rw [HO.out, if_neg c12, if_neg c3, if_neg c4, if_pos (.inl c5), hget])
          clear HO hget
          go_wp2_with (first
            | (go_at_call 33; refine kD.mono ?_; clear kD; rintro e w4 ⟨rfl, hB4⟩)
            | (go_at_call 34; refine (byn_any _ _).mono ?_; rintro e w45 ⟨rfl, hB45⟩)
            | (go_at_call 23; refine (bWriteString g g acc _ w45 (isB_below (isB_below hI3 hB4) hB45) (by rw [show ((⟨(byN s[pos]).toArray⟩ : ByteArray)).size = 4 from rfl]; omega) (Nat.le_trans (HG4.out w4 hB4) hB45.size)).mono ?_; rintro e w5 ⟨rfl, hI5, hB5, hK5⟩))
          exact Fin.out w45 w5 (by rw [hX.out]; exact hI5) (below_then hB4 hB45) hB5 hK5
        have f5 : ¬ ((r : Nat) : Int) < 32 := by omega
        by_cases c6 : r = 127
        · have f6 : (((r : Nat) : Int) == 127) = true := beq_iff_eq.2 (by omega)
          have hX : Hid (qOne l = byN s[pos]) := Lib.hid (by rw [HO.out, if_neg c12, if_neg c3, if_neg c4, if_pos (.inr (.inl c6)), hget])
          clear HO hget
          go_wp2_with (first
            | (go_at_call 33; refine kD.mono ?_; clear kD; rintro e w4 ⟨rfl, hB4⟩)
            | (go_at_call 34; refine (byn_any _ _).mono ?_; rintro e w45 ⟨rfl, hB45⟩)
            | (go_at_call 23; refine (bWriteString g g acc _ w45 (isB_below (isB_below hI3 hB4) hB45) (by rw [show ((⟨(byN s[pos]).toArray⟩ : ByteArray)).size = 4 from rfl]; omega) (Nat.le_trans (HG4.out w4 hB4) hB45.size)).mono ?_; rintro e w5 ⟨rfl, hI5, hB5, hK5⟩))
          exact Fin.out w45 w5 (by rw [hX.out]; exact hI5) (below_then hB4 hB45) hB5 hK5
        have f6 : (((r : Nat) : Int) == 127) = false := beq_eq_false_iff_ne.2 (by omega)
        by_cases c7 : r = 65533
        · have f7 : (((r : Nat) : Int) == 65533) = true := beq_iff_eq.2 (by omega)
          by_cases c8 : n = 1
          · have f8 : (((n : Nat) : Int) == 1) = true := beq_iff_eq.2 (by omega)
            have hX : Hid (qOne l = byN s[pos]) := Lib.hid (by rw [HO.out, if_neg c12, if_neg c3, if_neg c4, if_pos (.inr (.inr ⟨c7, c8⟩)), hget])
            clear HO hget
            go_wp2_with (first
              | (go_at_call 33; refine kD.mono ?_; clear kD; rintro e w4 ⟨rfl, hB4⟩)
              | (go_at_call 34; refine (byn_any _ _).mono ?_; rintro e w45 ⟨rfl, hB45⟩)
              | (go_at_call 23; refine (bWriteString g g acc _ w45 (isB_below (isB_below hI3 hB4) hB45) (by rw [show ((⟨(byN s[pos]).toArray⟩ : ByteArray)).size = 4 from rfl]; omega) (Nat.le_trans (HG4.out w4 hB4) hB45.size)).mono ?_; rintro e w5 ⟨rfl, hI5, hB5, hK5⟩))
            exact Fin.out w45 w5 (by rw [hX.out]; exact hI5) (below_then hB4 hB45) hB5 hK5
          · have f8 : (((n : Nat) : Int) == 1) = false := beq_eq_false_iff_ne.2 (by omega)
            have hX : Hid (qOne l = Lib.encodeRune 65533) := Lib.hid (by rw [HO.out, if_neg c12, if_neg c3, if_neg c4, if_neg (by omega), show (65533 : Int) = ((r : Nat) : Int) by omega, ← hr, Lib.encode_decode l hne (by rw [hr, hn]; omega), hn])
            clear HO hget
            go_wp2_with (first
              | (go_at_call 33; refine kD.mono ?_; clear kD; rintro e w4 ⟨rfl, hB4⟩)
              | (go_at_call 35; refine (bWriteRune g g acc 65533 (by omega) (by omega) w4 (isB_below hI3 hB4) (by omega) (HG4.out w4 hB4)).mono ?_; rintro e w5 ⟨⟨v5, rfl⟩, hI5, hB5, hK5⟩))
            exact Fin.out w4 w5 (by rw [hX.out]; exact hI5) hB4 hB5 hK5
        · have f7 : (((r : Nat) : Int) == 65533) = false := beq_eq_false_iff_ne.2 (by omega)
          have hX : Hid (qOne l = Lib.encodeRune ((r : Nat) : Int)) := Lib.hid (by rw [HO.out, if_neg c12, if_neg c3, if_neg c4, if_neg (by omega), ← hr, Lib.encode_decode l hne (by rw [hr, hn]; omega), hn])
          clear HO hget
          go_wp2_with (first
            | (go_at_call 33; refine kD.mono ?_; clear kD; rintro e w4 ⟨rfl, hB4⟩)
            | (go_at_call 35; refine (bWriteRune g g acc ((r : Nat) : Int) (by omega) (by omega) w4 (isB_below hI3 hB4) (by omega) (HG4.out w4 hB4)).mono ?_; rintro e w5 ⟨⟨v5, rfl⟩, hI5, hB5, hK5⟩))
          exact Fin.out w4 w5 (by rw [hX.out]; exact hI5) hB4 hB5 hK5
      · have hnx : ∀ ty, (Instr.next (.pointer (some ⟨k, 0, none⟩)) true ty).run Tryd.prog wr = .ok (.tuple #[.bool false]) wr := fun ty => Lib.run_next_end_at (P := Tryd.prog) wr k s pos ty hit hp
        have hend : quo s.data.toList = acc ++ [34] := by
          have e : qGo fuel (s.data.toList.drop pos) = [] := by
            rw [List.drop_eq_nil_of_le (by simp; omega)]
            cases fuel <;> simp [qGo]
          rw [hq.out, e]
          rfl
        have hv : Hid (strV (quo s.data.toList) = .string ⟨(acc ++ [34]).toArray⟩) := Lib.hid (by rw [hend]; rfl)
        have hgz : g ≤ wr.heap.size := by omega
        have k3 := bWriteByte g g acc 34 wr hI (by omega) hgz
        rw [show ((34 : UInt8).toNat : Int) = 34 from rfl] at k3
        have k4 : ∀ W, IsB g g (acc ++ [34]) W → g ≤ W.heap.size → Calls Tryd.prog 24 #[.pointer (some ⟨g, 0, none⟩)] W fun e w' => e = .returned (.string ⟨(acc ++ [34]).toArray⟩) ∧ Below g W w' := fun W h h2 => bString g g (acc ++ [34]) W h h2
        clear hq hend hS hI hit hfu hpz hal
        go_wp2_with (first
          | (go_at_call 32; refine k3.mono ?_; clear k3; rintro e w6 ⟨rfl, hI6, hB6, hK6⟩)
          | (go_at_call 24; refine (k4 w6 hI6 (Nat.le_trans hgz hB6.size)).mono ?_; clear k4; rintro e w7 ⟨rfl, hB7⟩))
        go_ret
        refine ⟨by rw [hv.out]; rfl, ?_⟩
        rw [← hg.out]
        exact (hB.trans hB6).trans hB7
theorem enter_quote (args : Array Value) (w : World) : (callFunc 21 args).run Tryd.prog w = .ok (.enter 21 args) w := by kernel_rfl
end Go.Proofs.YtjplgcmfifoefaaDoor
