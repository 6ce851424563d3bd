/- The walks of conf's small functions on words: isPlain, nibble. No condition beyond those named in each lemma. -/
import Derived.Test.YtjplgcmfifoefaaDoorWdB
import Derived.Test.YtjplgcmfifoefaaDoorSib
import Derived.Test.YtjplgcmfifoefaaDoorKeep
namespace Go.Proofs.YtjplgcmfifoefaaDoor
open Go.RowKit Go.Maps
set_option linter.unusedVariables false
set_option linter.unusedSimpArgs false
attribute [local go_sem] Oper.semAt_some

theorem take_snocB (q : ByteArray) (i : Nat) (h : i < q.size) : q.data.toList.take (i + 1) = q.data.toList.take i ++ [q[i]] := by
  rw [List.take_add_one, List.getElem?_eq_getElem (by simpa using h)]
  rfl
theorem mem_bytes (q : ByteArray) (i : Nat) (h : i < q.size) : q[i] ∈ q.data.toList := by
  have : q[i] = q.data.toList[i]'(by simpa using h) := rfl
  rw [this]
  exact List.getElem_mem _
set_option maxHeartbeats 1000000 in
theorem plain_any (q : ByteArray) (hq : q.size ≤ 1099511627776) (w : World) : Calls Tryd.prog 31 #[.string q] w fun e w' => e = .returned (.bool (isPl q.data.toList)) ∧ w' = w := by
  go_enter Tryd.func31, Tryd.ntmps31
  go_wp2_with (fail)
  go_loopw [7] (fun iv wr => ∃ i : Nat, i ≤ q.size ∧ iv = .int .i64 i ∧ Hid (wr = w) ∧ Hid (∀ b ∈ q.data.toList.take i, plainB b = true)) (fun iv _ => q.size - (intOf iv).toNat)
  case atStart => exact ⟨0, by omega, rfl, Lib.hid rfl, Lib.hid (by simp)⟩
  case round =>
    obtain ⟨i, hi, rfl, hwr, hp⟩ := hrel
    by_cases hl : i < q.size
    · have hI : (i : Int) < q.size := by omega
      have hI0 : ¬ (i : Int) < 0 := by omega
      by_cases hpl : plainB q[i] = true
      · have h5 := hpl
        unfold plainB at h5
        have h5 := of_decide_eq_true h5
        have f1 : ¬ ((q[i].toNat : Nat) : Int) < 33 := by omega
        have f2 : ¬ (126 : Int) < ((q[i].toNat : Nat) : Int) := by omega
        have f3 : (((q[i].toNat : Nat) : Int) == 34) = false := beq_eq_false_iff_ne.2 (by omega)
        have f4 : (((q[i].toNat : Nat) : Int) == 92) = false := beq_eq_false_iff_ne.2 (by omega)
        have f5 : (((q[i].toNat : Nat) : Int) == 35) = false := beq_eq_false_iff_ne.2 (by omega)
        have hn : Hid (∀ b ∈ q.data.toList.take (i + 1), plainB b = true) := Lib.hid fun b hb => by
          rw [take_snocB q i hl] at hb
          rcases List.mem_append.1 hb with hb | hb
          · exact hp.out b hb
          · obtain rfl : b = q[i] := by simpa using hb
            exact hpl
        clear h5 hpl
        go_wp2_with (fail)
        exact ⟨⟨i + 1, by omega, rfl, hwr, hn⟩, by simp only [intOf]; omega⟩
      · have hf : isPl q.data.toList = false := by
          unfold isPl
          have h9 : q.data.toList.all plainB = false := Bool.eq_false_iff.2 fun h => hpl (List.all_eq_true.1 h _ (mem_bytes q i hl))
          rw [h9, Bool.and_false]
        replace hf := Lib.hid hf
        have h5 : q[i].toNat < 33 ∨ (33 ≤ q[i].toNat ∧ 126 < q[i].toNat) ∨ (33 ≤ q[i].toNat ∧ q[i].toNat ≤ 126 ∧ q[i].toNat = 34) ∨ (33 ≤ q[i].toNat ∧ q[i].toNat ≤ 126 ∧ q[i].toNat ≠ 34 ∧ q[i].toNat = 92) ∨ (33 ≤ q[i].toNat ∧ q[i].toNat ≤ 126 ∧ q[i].toNat ≠ 34 ∧ q[i].toNat ≠ 92 ∧ q[i].toNat = 35) := by
          refine Classical.byContradiction fun h => hpl ?_
          unfold plainB
          exact decide_eq_true (by omega)
        clear hpl hp
        rcases h5 with h5 | h5 | h5 | h5 | h5
        · have f1 : ((q[i].toNat : Nat) : Int) < 33 := by omega
          clear h5
          go_wp2_with (fail)
          go_ret
          exact ⟨congrArg (fun b => Ending.returned (.bool b)) hf.out.symm, hwr.out⟩
        · have f1 : ¬ ((q[i].toNat : Nat) : Int) < 33 := by omega
          have f2 : (126 : Int) < ((q[i].toNat : Nat) : Int) := by omega
          clear h5
          go_wp2_with (fail)
          go_ret
          exact ⟨congrArg (fun b => Ending.returned (.bool b)) hf.out.symm, hwr.out⟩
        · have f1 : ¬ ((q[i].toNat : Nat) : Int) < 33 := by omega
          have f2 : ¬ (126 : Int) < ((q[i].toNat : Nat) : Int) := by omega
          have f3 : (((q[i].toNat : Nat) : Int) == 34) = true := beq_iff_eq.2 (by omega)
          clear h5
          go_wp2_with (fail)
          go_ret
          exact ⟨congrArg (fun b => Ending.returned (.bool b)) hf.out.symm, hwr.out⟩
        · have f1 : ¬ ((q[i].toNat : Nat) : Int) < 33 := by omega
          have f2 : ¬ (126 : Int) < ((q[i].toNat : Nat) : Int) := by omega
          have f3 : (((q[i].toNat : Nat) : Int) == 34) = false := beq_eq_false_iff_ne.2 (by omega)
          have f4 : (((q[i].toNat : Nat) : Int) == 92) = true := beq_iff_eq.2 (by omega)
          clear h5
          go_wp2_with (fail)
          go_ret
          exact ⟨congrArg (fun b => Ending.returned (.bool b)) hf.out.symm, hwr.out⟩
        · have f1 : ¬ ((q[i].toNat : Nat) : Int) < 33 := by omega
          have f2 : ¬ (126 : Int) < ((q[i].toNat : Nat) : Int) := by omega
          have f3 : (((q[i].toNat : Nat) : Int) == 34) = false := beq_eq_false_iff_ne.2 (by omega)
          have f4 : (((q[i].toNat : Nat) : Int) == 92) = false := beq_eq_false_iff_ne.2 (by omega)
          have f5 : (((q[i].toNat : Nat) : Int) == 35) = true := beq_iff_eq.2 (by omega)
          clear h5
          go_wp2_with (fail)
          go_ret
          exact ⟨congrArg (fun b => Ending.returned (.bool b)) hf.out.symm, hwr.out⟩
    · have hI : ¬ (i : Int) < q.size := by omega
      have e : i = q.size := by omega
      have hv : (!q.toList.isEmpty) = isPl q.data.toList := by
        unfold isPl
        have h1 : q.data.toList.all plainB = true := List.all_eq_true.2 fun b hb => hp.out b (by rw [List.take_of_length_le (by simp [e])]; exact hb)
        rw [h1, Bool.and_true, Lib.toList_data]
        cases q.data.toList <;> rfl
      clear hp e
      replace hv := Lib.hid hv
      go_wp2_with (fail)
      go_ret
      refine ⟨?_, hwr.out⟩
      rw [← hv.out]
      first
        | rfl
        | (congr 2; simp [bne])
theorem enter_plain (args : Array Value) (w : World) : (callFunc 31 args).run Tryd.prog w = .ok (.enter 31 args) w := by kernel_rfl
def nibZ (c : UInt8) : Int := match nib c with
  | some n => n
  | none => -1
theorem nib_idx : ∀ c : Fin 256, Lib.indexByte [48, 49, 50, 51, 52, 53, 54, 55, 56, 57, 97, 98, 99, 100, 101, 102] (UInt8.ofNat c.val) = nibZ (UInt8.ofNat c.val) := by decide +kernel
theorem nibble_any (c : UInt8) (w : World) : Calls Tryd.prog 61 #[.int .u8 (c.toNat : Int)] w fun e w' => e = .returned (.int .i64 (nibZ c)) ∧ w' = w := by
  have hc := sib_any ⟨#[48, 49, 50, 51, 52, 53, 54, 55, 56, 57, 97, 98, 99, 100, 101, 102]⟩ (c.toNat : Int) w
  have e : Lib.indexByte [48, 49, 50, 51, 52, 53, 54, 55, 56, 57, 97, 98, 99, 100, 101, 102] ((c.toNat : Nat) : Int).toNat.toUInt8 = nibZ c := by
    have h := nib_idx ⟨c.toNat, c.toNat_lt⟩
    simpa using h
  rw [show (⟨#[48, 49, 50, 51, 52, 53, 54, 55, 56, 57, 97, 98, 99, 100, 101, 102]⟩ : ByteArray).data.toList = [48, 49, 50, 51, 52, 53, 54, 55, 56, 57, 97, 98, 99, 100, 101, 102] from rfl, e] at hc
  clear e
  go_enter Tryd.func61, Tryd.ntmps61
  go_wp2_with (go_at_call 42; refine hc.mono ?_; rintro e w' ⟨rfl, rfl⟩)
  go_ret
  exact ⟨rfl, rfl⟩
theorem enter_nibble (args : Array Value) (w : World) : (callFunc 61 args).run Tryd.prog w = .ok (.enter 61 args) w := by kernel_rfl
end Go.Proofs.YtjplgcmfifoefaaDoor
