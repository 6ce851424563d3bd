/- The walk of script's numbers. No condition beyond those named in each lemma. -/
import Derived.Test.YtjplgcmfifoefaaDoorQtG
namespace Go.Proofs.YtjplgcmfifoefaaDoor
open Go.RowKit Go.Maps
set_option linter.unusedVariables false
set_option linter.unusedSimpArgs false
attribute [local go_sem] Oper.semAt_some

def encZ (z : Int) : Array Value := #[.int .i64 z]
theorem encZ_size (z : Int) : (encZ z).size = 1 := rfl
theorem encZ_one (z : Int) : (encZ z).all (·.oneCell') = true := by simp [encZ, Value.oneCell']
theorem cell_keep {lo : Nat} {w w' : World} {p : Addr} {v : Value} (h : w.cell? p = some v) (hp : p.block < lo) (hb : Below lo w w') : w'.cell? p = some v := (hb.cell hp).trans h
def itoaB (z : Int) : ByteArray := ⟨(Lib.itoa z).toArray⟩
theorem tl_itoa (z : Int) : tl (itoaB z) = Lib.itoa z := by simp [tl, itoaB]
set_option maxHeartbeats 2000000 in
theorem numbers_any (A : Option Addr) (n c : Nat) (zs : List Int) (hn : n = zs.length) (hn2 : n ≤ 1073741824) (hz : ∀ z ∈ zs, i64z z) (w : World) (hs : SliceOf w w.heap.size 1 encZ A zs) (hS : SOk w) :
    Calls Tryd.prog 20 #[.slice A n c] w fun e w' => (∃ A' c', e = .returned (.slice A' zs.length c') ∧ Own w' w.heap.size 9 1 encQ (.slice A' zs.length c') (zs.map itoaB)) ∧ Below w.heap.size w w' := by
  have h7 := hS.size
  replace hS := Lib.hid hS
  replace hn := Lib.hid hn
  go_enter Tryd.func20, Tryd.ntmps20
  go_wp2_with (fail)
  go_loopw [3, 8] (fun lv iv wr => ∃ (i : Nat) (A' : Option Addr) (c' : Nat), i ≤ n ∧ lv = .slice A' i c' ∧ iv = .int .i64 i ∧ Own wr w.heap.size 9 1 encQ (.slice A' i c') ((zs.take i).map itoaB) ∧ Below w.heap.size w wr) (fun _ iv _ => n - (intOf iv).toNat)
  case atStart => exact ⟨0, none, 0, by omega, rfl, rfl, Own.nil_ _ _ _ _ _, Below.refl _ _⟩
  case round =>
    obtain ⟨i, A', c', hi, rfl, rfl, ho, hB⟩ := hrel
    by_cases hl : i < n
    · have hI : ((i : Nat) : Int) < n := by omega
      have hI0 : ¬ ((i : Nat) : Int) < 0 := by omega
      have hil : i < zs.length := by rw [← hn.out]; exact hl
      obtain ⟨b, off, rfl, hb, hrow⟩ := hs.at_ (by omega)
      obtain ⟨z, hzz⟩ : ∃ z, zs[i] = z := ⟨_, rfl⟩
      have c0 := cell_keep (hrow i hil 0 _ rfl) hb hB
      rw [hzz] at c0
      have c1 : wr.cell? ⟨b, off + i, none⟩ = some (.int .i64 z) := by
        have h9 := c0
        simp only [Nat.mul_one, Nat.add_zero] at h9
        exact h9
      have c2 : wr.cell? ⟨b, off + i * 1, none⟩ = some (.int .i64 z) := by rw [Nat.mul_one]; exact c1
      clear c0
      have hzi := hz z (by rw [← hzz]; exact List.getElem_mem _)
      have kI := itoa_any z hzi.1 hzi.2
      have hS2 := hS.out.then_ h7 hB
      have htk : Hid ((zs.take (i + 1)).map itoaB = (zs.take i).map itoaB ++ [itoaB z]) := Lib.hid (by rw [List.take_add_one, List.getElem?_eq_getElem hil, hzz]; simp)
      have hln : Hid (((zs.take i).map itoaB).length = i) := Lib.hid (by rw [List.length_map, List.length_take]; omega)
      clear hzz hzi hrow
      go_wp2_with (first
        | (go_at_call 30; refine (kI wr hS2).mono ?_; clear kI; rintro e w3 ⟨rfl, hB3⟩; unfold strV)
        | (refine wl_bsS rfl _ rfl (itoaB z) rfl ?_)
        | (refine wl_appS rfl _ _ rfl w.heap.size ((zs.take i).map itoaB) [itoaB z] rfl rfl rfl (slice_oneQ (Blk.new _ _ _)) ((ho.then_ hB3).alloc _) hln.out.symm (by rw [hln.out, List.length_singleton]; omega) (by have := (below_then hB hB3).size; rw [World.size_alloc]; omega) ?_; intro A8 c8 w8 ho8 hg8))
      have hB8 : Below w.heap.size w w8 := below_own (below_alloc (below_then hB hB3) (.cells (encQ (itoaB z)) 9)) hg8 (fun k e => (ho.lt k e).1)
      rw [← htk.out] at ho8
      exact ⟨⟨i + 1, A8, c8, by omega, rfl, rfl, ho8, hB8⟩, by simp only [intOf]; omega⟩
    · have hI : ¬ ((i : Nat) : Int) < n := by omega
      have hie : i = n := by omega
      subst hie
      have hv : Hid ((zs.take i).map itoaB = zs.map itoaB) := Lib.hid (by rw [List.take_of_length_le (by rw [← hn.out]; omega)])
      go_wp2_with (fail)
      go_ret
      rw [hv.out] at ho
      refine ⟨⟨A', c', ?_, ?_⟩, hB⟩
      · rw [← hn.out]; rfl
      · rw [← hn.out]; exact ho
theorem enter_numbers (args : Array Value) (w : World) : (callFunc 20 args).run Tryd.prog w = .ok (.enter 20 args) w := by kernel_rfl
end Go.Proofs.YtjplgcmfifoefaaDoor
