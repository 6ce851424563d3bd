/- heronlaw11.full: all lists of a marked table bear the mark. No condition beyond those named in each lemma. -/
import Derived.Test.YtgahdookojbbiaaLFil
namespace Go.Proofs.Ytgahdookojbbiaa
open Go.RowKit Go.Maps
set_option linter.unusedVariables false
set_option linter.unusedSimpArgs false
attribute [local go_sem] Oper.semAt_some

/-- all its lists bear the mark -/
structure Full (x : TV) (m : Nat) : Prop where
  r : ∀ r ∈ x.rs, ∀ z ∈ r.l, z = (m : Int)
  f : ∀ v ∈ x.fo, v = m
  e : ∀ v ∈ x.en, v = m + 1
theorem fill_full (x : TV) (m : Nat) : Full (fillT x m) m := by
  refine ⟨fun r hr z hz => ?_, fun v hv => ?_, fun v hv => ?_⟩
  · obtain ⟨q, _, rfl⟩ := List.mem_map.1 hr
    exact List.eq_of_mem_replicate hz
  · exact List.eq_of_mem_replicate hv
  · exact List.eq_of_mem_replicate hv
set_option maxRecDepth 100000 in
set_option maxHeartbeats 4000000 in
theorem ful_any (x : TV) (m : Nat) (hm : m ≤ 1000) (hF : Full x m) (hS : Sml x) (w : World) (hT : TabIn w w.heap.size x) :
    Calls Try.prog 26 #[.agg x.C', .int .i64 (m : Int)] w fun e w' => e = .returned (.bool true) ∧ Below w.heap.size w w' := by
  have hn20 := hS.n
  have hf20 := hS.f
  have he20 := hS.e
  have hmI : (m : Int) ≤ 1000 := by omega
  unfold TV.C'
  go_enter Try.func26, Try.ntmps26
  have hd := Blk.new w 47 (dfaC x.f x.A x.rs.length x.c x.B x.fo.length x.d x.C x.en.length x.e)
  have hB1 := below_alloc (Below.refl w.heap.size w) (.cells (dfaC x.f x.A x.rs.length x.c x.B x.fo.length x.d x.C x.en.length x.e) 47)
  go_upto_region 1 with (fail)
  obtain ⟨w1, hw1⟩ : ∃ y, y = w.alloc (.cells (dfaC x.f x.A x.rs.length x.c x.B x.fo.length x.d x.C x.en.length x.e) 47) := ⟨_, rfl⟩
  rw [← hw1] at hd hB1 ⊢
  clear hw1
  obtain ⟨gd, hgd⟩ : ∃ g, g = w.heap.size := ⟨_, rfl⟩
  rw [← hgd] at hd ⊢
  clear hgd
  go_wp2_with (fail)
  go_loopw [5] (fun iv wr => ∃ i : Nat, i ≤ x.rs.length ∧ iv = .int .i64 i ∧ Below w.heap.size w wr ∧ Blk wr gd 47 (dfaC x.f x.A x.rs.length x.c x.B x.fo.length x.d x.C x.en.length x.e)) (fun iv _ => x.rs.length - (intOf iv).toNat)
  case atStart => exact ⟨0, by omega, rfl, hB1, hd⟩
  case round =>
    clear hB1 hd
    obtain ⟨i, hi, rfl, hB1, hd⟩ := hrel
    by_cases hil : i < x.rs.length
    · have hiI : (i : Int) < x.rs.length := by omega
      have hrl := hS.r _ (List.getElem_mem hil)
      have hrow := hT.row _ (List.getElem_mem hil)
      have hbear := hF.r _ (List.getElem_mem hil)
      obtain ⟨bA, oA, hA, hbA, cH⟩ := hT.rowAt hil
      obtain ⟨r, hr⟩ : ∃ r, x.rs[i] = r := ⟨_, rfl⟩
      rw [hr] at hrl hrow hbear cH
      clear hr
      rw [Nat.mul_one] at cH
      have hcA : ∀ W : World, Blk W gd 47 (dfaC x.f x.A x.rs.length x.c x.B x.fo.length x.d x.C x.en.length x.e) → W.cell? ⟨gd, 256, none⟩ = some (.slice (some ⟨bA, oA, none⟩) x.rs.length x.c) := fun W hb => by rw [← hA]; exact blk_d1 hb
      have hcH : ∀ W : World, Below w.heap.size w W → W.cell? ⟨bA, oA + i, none⟩ = some (.slice r.a r.l.length r.c) := fun W hb => cell_keep cH hbA hb
      have cA := hcA wr hd
      replace hA := Lib.hid hA
      replace hcA := Lib.hid hcA
      replace hcH := Lib.hid hcH
      replace hbear := Lib.hid hbear
      clear cH hbA
      go_upto_region 4 with (fail)
      clear cA
      go_wp2_with (fail)
      go_loopw [6] (fun kv wr => ∃ k : Nat, k ≤ r.l.length ∧ kv = .int .i64 k ∧ Below w.heap.size w wr ∧ Blk wr gd 47 (dfaC x.f x.A x.rs.length x.c x.B x.fo.length x.d x.C x.en.length x.e)) (fun kv _ => r.l.length - (intOf kv).toNat)
      case atStart => exact ⟨0, by omega, rfl, hB1, hd⟩
      case round =>
        clear hB1 hd
        obtain ⟨k, hk, rfl, hB1, hd⟩ := hrel
        have cA := hcA.out wr hd
        have cH := hcH.out wr hB1
        by_cases hkl : k < r.l.length
        · have hkI : (k : Int) < r.l.length := by omega
          obtain ⟨bR, oR, hR, hbR, cE⟩ := slice_cell hrow hkl (v := .int .i64 (m : Int)) (by show some (Value.int .i64 r.l[k]) = _; rw [hbear.out _ (List.getElem_mem hkl)])
          have cE2 := cell_keep cE hbR hB1
          rw [Nat.mul_one] at cE2
          rw [hR] at cH
          replace hR := Lib.hid hR
          clear cE
          go_wp2_with (fail)
          exact ⟨⟨k + 1, by omega, rfl, hB1, hd⟩, by simp only [intOf]; omega⟩
        · have hkI : ¬ (k : Int) < r.l.length := by omega
          go_wp2_with (fail)
          exact ⟨⟨i + 1, hil, rfl, hB1, hd⟩, by simp only [intOf]; omega⟩
    · have hiI : ¬ (i : Int) < x.rs.length := by omega
      have cA : wr.cell? ⟨gd, 256, none⟩ = some (.slice x.A x.rs.length x.c) := blk_d1 hd
      go_upto_region 9 with (fail)
      clear cA
      go_wp2_with (fail)
      go_loopw [7] (fun kv wr => ∃ k : Nat, k ≤ x.fo.length ∧ kv = .int .i64 k ∧ Below w.heap.size w wr ∧ Blk wr gd 47 (dfaC x.f x.A x.rs.length x.c x.B x.fo.length x.d x.C x.en.length x.e)) (fun kv _ => x.fo.length - (intOf kv).toNat)
      case atStart => exact ⟨0, by omega, rfl, hB1, hd⟩
      case round =>
        clear hB1 hd
        obtain ⟨k, hk, rfl, hB1, hd⟩ := hrel
        by_cases hkl : k < x.fo.length
        · have hkI : (k : Int) < x.fo.length := by omega
          obtain ⟨bR, oR, hR, hbR, cE⟩ := slice_cell hT.fo hkl (v := .int .u32 ((m : Nat) : Int)) (by show some (Value.int .u32 ((x.fo[k] : Nat) : Int)) = _; rw [hF.f _ (List.getElem_mem hkl)])
          have cE2 := cell_keep cE hbR hB1
          rw [Nat.mul_one] at cE2
          have cA : wr.cell? ⟨gd, 257, none⟩ = some (.slice (some ⟨bR, oR, none⟩) x.fo.length x.d) := by rw [← hR]; exact blk_d2 hd
          replace hR := Lib.hid hR
          clear cE
          go_wp2_with (fail)
          exact ⟨⟨k + 1, by omega, rfl, hB1, hd⟩, by simp only [intOf]; omega⟩
        · have hkI : ¬ (k : Int) < x.fo.length := by omega
          have cA : wr.cell? ⟨gd, 257, none⟩ = some (.slice x.B x.fo.length x.d) := blk_d2 hd
          go_upto_region 14 with (fail)
          clear cA
          go_wp2_with (fail)
          go_loopw [8] (fun kv wr => ∃ k : Nat, k ≤ x.en.length ∧ kv = .int .i64 k ∧ Below w.heap.size w wr ∧ Blk wr gd 47 (dfaC x.f x.A x.rs.length x.c x.B x.fo.length x.d x.C x.en.length x.e)) (fun kv _ => x.en.length - (intOf kv).toNat)
          case atStart => exact ⟨0, by omega, rfl, hB1, hd⟩
          case round =>
            clear hB1 hd
            obtain ⟨k, hk, rfl, hB1, hd⟩ := hrel
            by_cases hkl : k < x.en.length
            · have hkI : (k : Int) < x.en.length := by omega
              obtain ⟨bR, oR, hR, hbR, cE⟩ := slice_cell hT.en hkl (v := .int .u32 ((m + 1 : Nat) : Int)) (by show some (Value.int .u32 ((x.en[k] : Nat) : Int)) = _; rw [hF.e _ (List.getElem_mem hkl)])
              have cE2 := cell_keep cE hbR hB1
              rw [Nat.mul_one] at cE2
              have cA : wr.cell? ⟨gd, 258, none⟩ = some (.slice (some ⟨bR, oR, none⟩) x.en.length x.e) := by rw [← hR]; exact blk_d3 hd
              replace hR := Lib.hid hR
              clear cE
              go_wp2_with (fail)
              exact ⟨⟨k + 1, by omega, rfl, hB1, hd⟩, by simp only [intOf]; omega⟩
            · have hkI : ¬ (k : Int) < x.en.length := by omega
              have cA : wr.cell? ⟨gd, 258, none⟩ = some (.slice x.C x.en.length x.e) := blk_d3 hd
              go_wp2_with (fail)
              go_ret
              exact ⟨rfl, hB1⟩
theorem enter_ful (args : Array Value) (w : World) : (callFunc 26 args).run Try.prog w = .ok (.enter 26 args) w := by kernel_rfl
end Go.Proofs.Ytgahdookojbbiaa
