/- The walk of script's cut. No condition beyond those named in each lemma. -/
import Derived.Test.YtjplgcmfifoefaaDoorQtE
namespace Go.Proofs.YtjplgcmfifoefaaDoor
open Go.RowKit Go.Maps
set_option linter.unusedVariables false
set_option linter.unusedSimpArgs false
attribute [local go_sem] Oper.semAt_some

theorem idx_32 : ∀ l : Bs, Lib.indexByte (l ++ [32]) 32 = (l.findIdx (· == 32) : Nat) := by
  intro l
  induction l with
  | nil => rfl
  | cons b l ih =>
    rw [List.cons_append, Lib.indexByte, List.findIdx_cons, ih]
    by_cases h : (b == 32) = true
    · simp [h]
    · have h' : (b == 32) = false := by simpa using h
      rw [h']
      have e : (((l.findIdx (· == 32) : Nat) : Int) == -1) = false := beq_eq_false_iff_ne.2 (by omega)
      rw [e]
      simp
/-- a line's first part, what stands behind it, and whether it ends well -/
def cutE (l : Bs) : Bool := decide (cutN l = l.length) || (l.getD (cutN l) 0 == 32)
theorem cutN_le (l : Bs) : cutN l ≤ l.length := by
  unfold cutN
  split
  · omega
  · exact List.findIdx_le_length
/-- the last region: the parts are cut off -/
theorem sc_nil (f : Nat) : sc f [] = 0 := by cases f <;> rfl
set_option maxHeartbeats 4000000 in
theorem cut_any (q : ByteArray) (h0 : 0 < q.size) (hq : q.size ≤ 1099511627776) (w : World) : Calls Tryd.prog 26 #[.string q] w fun e w' => e = .returned (.tuple #[.string (q.extract 0 (cutN q.data.toList)), .string (q.extract (cutN q.data.toList) q.size), .bool (cutE q.data.toList)]) ∧ Below w.heap.size w w' := by
  have hlen : q.data.toList.length = q.size := by simp
  have hI0 : (0 : Int) < q.size := by omega
  have k1 : Calls Tryd.prog 42 #[.string (q ++ ⟨#[32]⟩), .int .u8 32] w fun e w' => e = .returned (.int .i64 ((q.data.toList.findIdx (· == 32) : Nat) : Int)) ∧ w' = w := by
    have h := sib_any (q ++ ⟨#[32]⟩) 32 w
    have e : (q ++ ⟨#[32]⟩).data.toList = q.data.toList ++ [32] := by simp
    rw [e] at h
    have e2 := idx_32 q.data.toList
    rw [show (Int.toNat 32).toUInt8 = 32 from rfl, e2] at h
    exact h
  obtain ⟨d, hd⟩ : ∃ d, q.data.toList.findIdx (· == 32) = d := ⟨_, rfl⟩
  rw [hd] at k1
  obtain ⟨n, hn⟩ : ∃ n, cutN q.data.toList = n := ⟨_, rfl⟩
  have hnl : n ≤ q.size := by rw [← hn, ← hlen]; exact cutN_le _
  obtain ⟨b, hb⟩ : ∃ b, cutE q.data.toList = b := ⟨_, rfl⟩
  rw [hn, hb]
  replace hb := Lib.hid hb
  by_cases c1 : q[0].toNat = 34
  · have f1 : (((q[0].toNat : Nat) : Int) == 34) = true := beq_iff_eq.2 (by omega)
    have hc : n = min (2 + sc q.size (q.data.toList.drop 1)) q.size := by
      rw [← hn]
      unfold cutN
      rw [if_pos (by rw [last_bytes q 0 h0]; exact UInt8.toNat_inj.1 c1), hlen]
    have HC := Lib.hid hc
    replace hn := Lib.hid hn
    replace hlen := Lib.hid hlen
    clear c1 hd hc
    go_enter Tryd.func26, Tryd.ntmps26
    go_wp2_with (go_at_call 42; refine k1.mono ?_; clear k1; rintro e w' ⟨rfl, hw'⟩; subst w')
    go_loopw [5] (fun nv wr => ∃ i f : Nat, nv = .int .i64 i ∧ Hid (wr = w) ∧ 1 ≤ i ∧ i ≤ q.size + 1 ∧ Hid (1 + sc q.size (q.data.toList.drop 1) = i + sc f (q.data.toList.drop i)) ∧ q.size ≤ i + f) (fun nv _ => q.size + 1 - (intOf nv).toNat)
    case atStart => exact ⟨1, q.size, rfl, Lib.hid rfl, by omega, by omega, Lib.hid rfl, by omega⟩
    case round =>
      obtain ⟨i, f, rfl, hwr, hi1, hi2, hs, hf⟩ := hrel
      by_cases hl : i < q.size
      · have hI : ((i : Nat) : Int) < q.size := by omega
        have hI1 : ¬ ((i : Nat) : Int) < 0 := by omega
        obtain ⟨f, rfl⟩ : ∃ g, f = g + 1 := ⟨f - 1, by omega⟩
        have hdr : q.data.toList.drop i = q[i] :: q.data.toList.drop (i + 1) := by
          rw [List.drop_eq_getElem_cons (by simpa using hl)]
          rfl
        have hs2 := hs.out
        rw [hdr, sc] at hs2
        by_cases d1 : q[i].toNat = 34
        · have g5 : (((q[i].toNat : Nat) : Int) != 34) = false := Bool.eq_false_iff.2 (fun h => bne_iff_ne.1 h (by omega))
          rw [if_pos d1] at hs2
          have hm : min ((i : Int) + 1) (q.size : Int) = ((n : Nat) : Int) := by rw [HC.out]; omega
          clear hs hs2 hdr d1 HC
          go_upto_region 9 with (fail)
          by_cases c2 : n = q.size
          · have g1 : (((n : Nat) : Int) == (q.size : Int)) = true := beq_iff_eq.2 (by omega)
            have hv : Hid (b = true) := Lib.hid (by rw [← hb.out]; unfold cutE; rw [hn.out, hlen.out, decide_eq_true c2]; rfl)
            have hdI : ((n : Nat) : Int) ≤ q.size := by omega
            clear hb c2 hlen hn
            go_big_region
            go_wp2_with (fail)
            go_ret3
            exact ⟨by rw [hv.out]; rfl, by rw [hwr.out]; exact (Below.refl w.heap.size w).drew⟩
          · have g1 : (((n : Nat) : Int) == (q.size : Int)) = false := beq_eq_false_iff_ne.2 (by omega)
            have hnz : n < q.size := by omega
            have hdI : ((n : Nat) : Int) ≤ q.size := by omega
            have hdL : ((n : Nat) : Int) < q.size := by omega
            have hv : Hid (b = (((q[n].toNat : Nat) : Int) == 32)) := Lib.hid (by
              rw [← hb.out]
              unfold cutE
              rw [hn.out, hlen.out, decide_eq_false c2, Bool.false_or, last_bytes q n hnz]
              by_cases h9 : q[n] = 32
              · rw [h9]; rfl
              · have h8 : ¬ (q[n].toNat : Int) = 32 := fun h => h9 (UInt8.toNat_inj.1 (by show q[n].toNat = 32; omega))
                rw [beq_eq_false_iff_ne.2 h9, beq_eq_false_iff_ne.2 h8])
            clear hb c2 hlen hn
            go_big_region
            go_wp2_with (fail)
            go_ret3
            exact ⟨by rw [hv.out]; rfl, by rw [hwr.out]; exact (Below.refl w.heap.size w).drew⟩
        · have g5 : (((q[i].toNat : Nat) : Int) != 34) = true := bne_iff_ne.2 (by omega)
          rw [if_neg d1] at hs2
          by_cases d2 : q[i].toNat = 92
          · have g6 : (((q[i].toNat : Nat) : Int) == 92) = true := beq_iff_eq.2 (by omega)
            rw [if_pos d2, List.drop_drop] at hs2
            have hs3 : Hid (1 + sc q.size (q.data.toList.drop 1) = (i + 2) + sc f (q.data.toList.drop (i + 2))) := Lib.hid (by
              rw [hs2]
              have e : q.data.toList.drop (i + 1 + 1) = q.data.toList.drop (i + 2) := rfl
              first
                | (rw [e]; omega)
                | (simp only [Nat.add_comm, Nat.add_left_comm] at *; omega))
            clear hs hs2 hdr d1 d2 HC
            go_wp2_with (fail)
            exact ⟨⟨i + 2, f, by first | rfl | (congr 1; omega), hwr, by omega, by omega, hs3, by omega⟩, by simp only [intOf]; omega⟩
          · have g6 : (((q[i].toNat : Nat) : Int) == 92) = false := beq_eq_false_iff_ne.2 (by omega)
            rw [if_neg d2] at hs2
            have hs3 : Hid (1 + sc q.size (q.data.toList.drop 1) = (i + 1) + sc f (q.data.toList.drop (i + 1))) := Lib.hid (by rw [hs2]; omega)
            clear hs hs2 hdr d1 d2 HC
            go_wp2_with (fail)
            exact ⟨⟨i + 1, f, rfl, hwr, by omega, by omega, hs3, by omega⟩, by simp only [intOf]; omega⟩
      · have hI : ¬ ((i : Nat) : Int) < q.size := by omega
        have hm : min ((i : Int) + 1) (q.size : Int) = ((n : Nat) : Int) := by
          have e := hs.out
          have e0 : q.data.toList.drop i = [] := List.drop_eq_nil_of_le (by rw [hlen.out]; omega)
          rw [e0, sc_nil] at e
          rw [HC.out]
          omega
        by_cases dummy : True
        · clear hs HC dummy
          go_upto_region 9 with (fail)
          by_cases c2 : n = q.size
          · have g1 : (((n : Nat) : Int) == (q.size : Int)) = true := beq_iff_eq.2 (by omega)
            have hv : Hid (b = true) := Lib.hid (by rw [← hb.out]; unfold cutE; rw [hn.out, hlen.out, decide_eq_true c2]; rfl)
            have hdI : ((n : Nat) : Int) ≤ q.size := by omega
            clear hb c2 hlen hn
            go_big_region
            go_wp2_with (fail)
            go_ret3
            exact ⟨by rw [hv.out]; rfl, by rw [hwr.out]; exact (Below.refl w.heap.size w).drew⟩
          · have g1 : (((n : Nat) : Int) == (q.size : Int)) = false := beq_eq_false_iff_ne.2 (by omega)
            have hnz : n < q.size := by omega
            have hdI : ((n : Nat) : Int) ≤ q.size := by omega
            have hdL : ((n : Nat) : Int) < q.size := by omega
            have hv : Hid (b = (((q[n].toNat : Nat) : Int) == 32)) := Lib.hid (by
              rw [← hb.out]
              unfold cutE
              rw [hn.out, hlen.out, decide_eq_false c2, Bool.false_or, last_bytes q n hnz]
              by_cases h9 : q[n] = 32
              · rw [h9]; rfl
              · have h8 : ¬ (q[n].toNat : Int) = 32 := fun h => h9 (UInt8.toNat_inj.1 (by show q[n].toNat = 32; omega))
                rw [beq_eq_false_iff_ne.2 h9, beq_eq_false_iff_ne.2 h8])
            clear hb c2 hlen hn
            go_big_region
            go_wp2_with (fail)
            go_ret3
            exact ⟨by rw [hv.out]; rfl, by rw [hwr.out]; exact (Below.refl w.heap.size w).drew⟩
        · exact absurd trivial dummy
  · have f1 : (((q[0].toNat : Nat) : Int) == 34) = false := beq_eq_false_iff_ne.2 (by omega)
    have hdn : d = n := by
      rw [← hd, ← hn]
      unfold cutN
      rw [if_neg (by rw [last_bytes q 0 h0]; intro h; exact c1 (by rw [h]; rfl))]
    subst hdn
    clear hd c1
    replace hn := Lib.hid hn
    replace hlen := Lib.hid hlen
    go_enter Tryd.func26, Tryd.ntmps26
    go_upto_region 9 with (go_at_call 42; refine k1.mono ?_; clear k1; rintro e w' ⟨rfl, hw'⟩; subst w')
    obtain ⟨n, hnn⟩ : ∃ n, n = d := ⟨_, rfl⟩
    subst hnn
    by_cases c2 : n = q.size
    · have g1 : (((n : Nat) : Int) == (q.size : Int)) = true := beq_iff_eq.2 (by omega)
      have hv : Hid (b = true) := Lib.hid (by rw [← hb.out]; unfold cutE; rw [hn.out, hlen.out, decide_eq_true c2]; rfl)
      have hdI : ((n : Nat) : Int) ≤ q.size := by omega
      clear hb c2 hlen hn
      go_big_region
      go_wp2_with (fail)
      go_ret3
      exact ⟨by rw [hv.out]; rfl, (Below.refl w.heap.size w).drew⟩
    · have g1 : (((n : Nat) : Int) == (q.size : Int)) = false := beq_eq_false_iff_ne.2 (by omega)
      have hnz : n < q.size := by omega
      have hdI : ((n : Nat) : Int) ≤ q.size := by omega
      have hdL : ((n : Nat) : Int) < q.size := by omega
      have hv : Hid (b = (((q[n].toNat : Nat) : Int) == 32)) := Lib.hid (by
        rw [← hb.out]
        unfold cutE
        rw [hn.out, hlen.out, decide_eq_false c2, Bool.false_or, last_bytes q n hnz]
        by_cases h9 : q[n] = 32
        · rw [h9]; rfl
        · have h8 : ¬ (q[n].toNat : Int) = 32 := fun h => h9 (UInt8.toNat_inj.1 (by show q[n].toNat = 32; omega))
          rw [beq_eq_false_iff_ne.2 h9, beq_eq_false_iff_ne.2 h8])
      clear hb c2 hlen hn
      go_big_region
      go_wp2_with (fail)
      go_ret3
      exact ⟨by rw [hv.out]; rfl, (Below.refl w.heap.size w).drew⟩
theorem enter_cut (args : Array Value) (w : World) : (callFunc 26 args).run Tryd.prog w = .ok (.enter 26 args) w := by kernel_rfl
end Go.Proofs.YtjplgcmfifoefaaDoor
