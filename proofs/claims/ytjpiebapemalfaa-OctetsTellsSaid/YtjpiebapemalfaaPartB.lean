/- The walks of the document's answer for classes (heronref09): apart, Classes. -/
import Derived.Test.YtjpiebapemalfaaPartA
import Derived.Test.YtjpiebapemalfaaRefC
import Derived.Test.YtjpiebapemalfaaSlice
import Derived.Test.YtjpiebapemalfaaGs3
namespace Go.Proofs.Ytjpiebapemalfaa
open Go.RowKit Go.Maps Go.WideMaps
set_option linter.unusedVariables false
set_option linter.unusedSimpArgs false

theorem sig_take (l : List BSet) (k : Nat) (h : k < l.length) (a b : Nat) : sig (l.take (k + 1)) a = sig (l.take (k + 1)) b ↔ sig (l.take k) a = sig (l.take k) b ∧ l[k].getLsbD a = l[k].getLsbD b := by
  rw [take_snoc' l k h, sig_snoc]
theorem sig_split (l : List BSet) (k : Nat) (h : k < l.length) (a b : Nat) (hne : ¬ l[k].getLsbD a = l[k].getLsbD b) : ¬ sig l a = sig l b := by
  intro e
  apply hne
  unfold sig at e
  have := congrArg (fun x => x[k]?) e
  simpa [h] using this

set_option maxHeartbeats 1000000 in
theorem apart_any (A : Option Addr) (n c : Nat) (l : List BSet) (a b : Nat) (ha : a < 256) (hb : b < 256) (w : World) (hn : n = l.length) (hm : n ≤ maxLen) (hs : SliceOf w w.heap.size 4 setC A l) :
    Calls Try.prog 42 #[.slice A n c, .int .i64 a, .int .i64 b] w fun e w' => e = .returned (.bool (!decide (sig l a = sig l b))) ∧ Below w.heap.size w w' := by
  have Hn := Lib.hid hn
  clear hn
  unfold maxLen at hm
  go_enter Try.func42, Try.ntmps42
  go_wp2
  go_loopw [7] (fun i wr => ∃ k : Nat, k ≤ n ∧ i = .int .i64 k ∧ Hid (sig (l.take k) a = sig (l.take k) b) ∧ Below w.heap.size w wr) (fun i _ => n - (intOf i).toNat)
  case atStart => exact ⟨0, by omega, rfl, rfl, Below.refl _ _⟩
  case round =>
    obtain ⟨k, hk, rfl, hsig, hB⟩ := hrel
    by_cases hlt : k < n
    · have hlt' : k < l.length := by have := Hn.out; omega
      obtain ⟨b0, off, rfl, hbl, hrow⟩ := (hs.below hB).at_ (by omega)
      have hr := hrow k hlt'
      clear hrow
      have hC := Below.refl wr.heap.size wr
      have hbw : b0 < wr.heap.size := by have := hB.size; omega
      obtain ⟨p, hp⟩ : ∃ p, p = l[k].getLsbD a := ⟨_, rfl⟩
      obtain ⟨q, hq⟩ : ∃ q, q = l[k].getLsbD b := ⟨_, rfl⟩
      have hp' := Lib.hid hp.symm
      have hq' := Lib.hid hq.symm
      clear hp hq
      cases p <;> cases q
      all_goals (go_wp2_with (first
        | (refine wl_load_set_at rfl _ rfl _ _ rfl _ (hr.keep (hC.block b0 hbw)) ?_)
        | (go_at_call 28; refine (rhas_nat _ _ (by first | exact ha | exact hb) _).mono ?_; (first | rw [hp'.out] | rw [hq'.out]); rintro e w1 ⟨rfl, hB1⟩; replace hC := below_then hC hB1)))
      all_goals first
        | (go_roundw
           case rel => exact ⟨k + 1, by omega, by go_num, (sig_take l k hlt' a b).2 ⟨hsig, by rw [hp'.out, hq'.out]⟩, below_then hB hC⟩
           case measure => simp [intOf]; omega)
        | (go_ret
           refine ⟨?_, below_then hB hC⟩
           rw [decide_eq_false (sig_split l k hlt' a b (by rw [hp'.out, hq'.out]; decide))]
           rfl)
    · have hkk : l.take k = l := List.take_of_length_le (by have := Hn.out; omega)
      go_wp2
      go_ret
      refine ⟨?_, hB⟩
      rw [hkk] at hsig
      rw [decide_eq_true hsig.out]
      rfl

section
variable {ops : Array Oper} {rest : List Oper} {o : Oper} {a : Act} {w : World} {Q : Exit → Act → World → Prop}
theorem wl_set_cls (hgd : o.guard = none) (x y : Operand) (ho : o.op = .store 3 x y)
    (g i : Nat) (hx : a.eval x = .pointer (some ⟨g, i, none⟩)) (v : Int) (hy : a.eval y = .int .i64 v) (old : Nat → Int) (hb : Blk w g 39 (clsC old)) (hi : i < 256)
    (h : ∀ w', Blk w' g 39 (clsC (putN old i v)) → w.grownBy w' (some g) → wpList Try.prog ops Q rest (a.put o.dst undef) w') : wpList Try.prog ops Q (o :: rest) a w :=
  wl_store_cell hgd _ x y ho g i hx _ _ _ hb (by rw [clsC_size]; exact hi) info_int (by rw [hy]; rfl) (by rw [hy]; rfl) (by rw [hy]; exact clsC_set old i v) h
end
/-- one int -/
def encN (x : Nat) : Array Value := #[.int .i64 (x : Int)]
theorem encN_size (x : Nat) : (encN x).size = 1 := rfl
theorem encN_one (x : Nat) : (encN x).all (·.oneCell') = true := by simp [encN, Value.oneCell']
theorem info_int3 : (Try.prog.info? 3).map (fun i => (i.zero, i.size, i.bytes)) = some (some (.int .i64 0), 1, 8) := by kernel_rfl

set_option maxRecDepth 100000 in
set_option maxHeartbeats 2000000 in
theorem rclasses_any (A : Option Addr) (n c : Nat) (l : List BSet) (w : World) (hn : n = l.length) (hm : n ≤ maxLen) (hs : SliceOf w w.heap.size 4 setC A l) :
    Calls Try.prog 18 #[.slice A n c] w fun e w' => e = .returned (.tuple #[.agg (clsC (cls l)), .int .i64 (many l)]) ∧ Below w.heap.size w w' := by
  have Hn := Lib.hid hn
  clear hn
  have hz := zero_cls
  have hs2 : w.heap.size ≤ w.heap.size + 1 := by omega
  obtain ⟨i0, hi0, hz0, hz1, hz2⟩ := info_parts info_int3
  go_enter Try.func18, Try.ntmps18
  go_wp2
  go_loopw [6, 5] (fun i v wr => ∃ b : Nat, b ≤ 256 ∧ i = .int .i64 b ∧ Own wr (w.heap.size + 1 + 1) 3 1 encN v (fb (sig l) b) ∧ Blk wr (w.heap.size + 1) 39 (clsC (upto b (cls l) (fun _ => 0))) ∧ Blk wr w.heap.size 39 (clsC fun _ => 0) ∧ Below w.heap.size w wr) (fun i _ _ => 256 - (intOf i).toNat)
  case atStart =>
    refine ⟨0, by omega, rfl, Own.nil_ _ _ _ _ _, ?_, ?_, ?_⟩
    · rw [upto_zero]
      exact Blk.new' _ _ _ (World.size_alloc _ _).symm
    · exact (Blk.new _ _ _).alloc _
    · exact ((Below.refl _ _).alloc (Nat.le_refl _) _).alloc (by simp) _
  case round =>
    obtain ⟨b, hb, rfl, hown, hb1, hb2, hB⟩ := hrel
    obtain ⟨A2, c2, rfl, hc2, hc3⟩ := hown.shape
    have hle : (fb (sig l) b).length ≤ b := by rw [fb_length]; exact firsts_length_le (sig l) b
    obtain ⟨ys, hys⟩ : ∃ ys, ys = fb (sig l) b := ⟨_, rfl⟩
    rw [← hys] at hle hc2 hown ⊢
    obtain ⟨m, hm'⟩ : ∃ m, m = ys.length := ⟨_, rfl⟩
    rw [← hm'] at hle hc2 hown ⊢
    replace hys := Lib.hid hys
    replace hm' := Lib.hid hm'
    have hlt0 : w.heap.size + 1 < wr.heap.size := hb1.lt
    by_cases hlt : b < 256
    · go_wp2_with (first | (refine wl_set_cls rfl _ _ rfl _ _ rfl _ rfl _ hb1 hlt ?_; intro w1 hb3 hg3))
      have hownlt := hown.lt
      replace hown := hown.grown hg3 (fun e => by have := hownlt _ e; omega)
      replace hb2 := blk_grown hb2 hg3 (by omega)
      replace hB := below_grown hB hg3 hs2
      rw [show (-1 : Int) = seek (sig l) b 0 from (seek_zero _ _).symm] at hb3
      clear hb1 hg3 hownlt hlt0
      obtain ⟨wo, rfl⟩ : ∃ wo : World, wo = wr := ⟨_, rfl⟩
      go_loopw [7] (fun i wr => ∃ k : Nat, k ≤ m ∧ i = .int .i64 k ∧ Own wr (w.heap.size + 1 + 1) 3 1 encN (.slice A2 m c2) ys ∧ Blk wr (w.heap.size + 1) 39 (clsC (putN (upto b (cls l) (fun _ => 0)) b (seek (sig l) b k))) ∧ Blk wr w.heap.size 39 (clsC fun _ => 0) ∧ Below w.heap.size w wr) (fun i _ => m - (intOf i).toNat)
      case atStart => exact ⟨0, by omega, rfl, hown, hb3, hb2, hB⟩
      case round =>
        obtain ⟨k, hk, rfl, hown, hb1, hb2, hB⟩ := hrel
        by_cases hkt : k < m
        · have hkl : k < ys.length := by rw [← hm'.out]; exact hkt
          obtain ⟨g, cap, hv, hg1, hg2, _, _⟩ := hown.form (by omega)
          injection hv with hA h1 h2
          subst hA
          clear h1 h2
          have hcell : wr.cell? ⟨g, k, none⟩ = some (.int .i64 ys[k]) := by
            have := hown.row encN_size k hkl 0 _ rfl
            rw [Nat.mul_one] at this
            exact this
          have hyb : ys[k] < 256 := by
            have := fb_lt (sig l) b ys[k] (by rw [← hys.out]; exact List.getElem_mem hkl)
            omega
          have hC := Below.refl wr.heap.size wr
          have hb0 : w.heap.size + 1 < wr.heap.size := hb1.lt
          have hstep : (sig l ys[k] = sig l b → seek (sig l) b (k + 1) = k) ∧ (¬ sig l ys[k] = sig l b → seek (sig l) b (k + 1) = seek (sig l) b k) := by
            have h1 := seek_hit (sig l) b k
            have h2 := seek_miss (sig l) b k
            rw [← hys.out] at h1 h2
            exact ⟨h1 hkl, h2 hkl⟩
          obtain ⟨y, hy⟩ : ∃ y, y = ys[k] := ⟨_, rfl⟩
          rw [← hy] at hcell hyb hstep
          have hs3 := (hs.below hB).more hB.size
          clear hy
          cases he : decide (sig l y = sig l b) with
          | true =>
            have hx := Lib.hid he
            have hst := Lib.hid (hstep.1 (of_decide_eq_true he))
            clear hstep he
            go_wp2_with (first
              | (go_at_call 42; refine (apart_any A n c l y b hyb hlt _ Hn.out hm hs3).mono ?_; rw [hx.out]; rintro e w1 ⟨rfl, hB1⟩; replace hC := below_then hC hB1)
              | (refine wl_set_cls rfl _ _ rfl _ _ rfl _ rfl _ (blk_then hb1 hC) hlt ?_; intro w2 hb3 hg3))
            go_roundw
            case rel =>
              have hownlt := (hown.then_ hC).lt
              refine ⟨k + 1, by omega, by go_num, (hown.then_ hC).grown hg3 (fun e => by have := hownlt _ e; omega), ?_, blk_grown (blk_then hb2 hC) hg3 (by omega), below_grown (below_then hB hC) hg3 hs2⟩
              rw [hst.out, ← putN_put]
              exact hb3
            case measure => simp [intOf]; omega
          | false =>
            have hx := Lib.hid he
            have hst := Lib.hid (hstep.2 (of_decide_eq_false he))
            clear hstep he
            go_wp2_with (first
              | (go_at_call 42; refine (apart_any A n c l y b hyb hlt _ Hn.out hm hs3).mono ?_; rw [hx.out]; rintro e w1 ⟨rfl, hB1⟩; replace hC := below_then hC hB1))
            go_roundw
            case rel =>
              refine ⟨k + 1, by omega, by go_num, hown.then_ hC, ?_, blk_then hb2 hC, below_then hB hC⟩
              rw [hst.out]
              exact blk_then hb1 hC
            case measure => simp [intOf]; omega
        · obtain rfl : k = m := by omega
          have hB0 : w.heap.size + 1 < wr.heap.size := hb1.lt
          have hownlt := hown.lt
          have hmap : sig l b ∈ firsts (sig l) b ∨ ¬ sig l b ∈ firsts (sig l) b := Classical.em _
          rcases hmap with hmap | hmap
          · have hsk : seek (sig l) b k = cls l b := by rw [hm'.out, hys.out]; exact seek_old (sig l) b hmap
            rw [hsk, upto_put (cls l) _ b _ rfl] at hb1
            have hc := hb1.cellv (clsC_at _ b hlt)
            rw [show upto (b + 1) (cls l) (fun _ => 0) b = cls l b by simp [upto]] at hc
            have h0 := cls_ge l b
            have hfb : ys = fb (sig l) (b + 1) := by rw [fb_old (sig l) b hmap]; exact hys.out
            obtain ⟨v, hv⟩ : ∃ v, v = cls l b := ⟨_, rfl⟩
            rw [← hv] at hc h0
            clear hsk hv
            go_wp2
            go_roundw
            case rel => exact ⟨b + 1, by omega, by go_num, hfb ▸ hown, hb1, hb2, hB⟩
            case measure => simp [intOf]; omega
          · have hsk : seek (sig l) b k = -1 := by rw [hm'.out, hys.out]; exact seek_new (sig l) b hmap
            rw [hsk] at hb1
            have hc := hb1.cellv (clsC_at _ b hlt)
            rw [putN_self] at hc
            have hnum : Hid ((k : Int) = cls l b) := Lib.hid (by unfold cls; rw [num_new (sig l) b hmap, hm'.out, hys.out, fb_length])
            have hfb : ys ++ [b] = fb (sig l) (b + 1) := by rw [fb_new (sig l) b hmap, ← hys.out]
            clear hsk
            go_wp2_with (first
              | (refine wl_set_cls rfl _ _ rfl _ _ rfl _ rfl _ hb1 hlt ?_; intro w1 hb3 hg3)
              | (at_builtin; refine wl_append _ rfl _ _ 37 rfl (w.heap.size + 1 + 1) 3 i0 _ 1 8 Try.underlying37 hi0 hz0 hz1 hz2 rfl (by decide) encN_size encN_one _ ys rfl ((hown.grown hg3 (fun e => by have := hownlt _ e; omega)).alloc (.cells (encN b) 3)) _ _ 1 1 [b] rfl rfl (slice_one (Blk.new _ 3 (encN b))) (by rw [← hm'.out]; unfold maxLen; omega) (by rw [← hm'.out]; omega) (by simp; have := hg3.size; omega) ?_; intro v2 w2 hown2 hg2 hat2))
            go_roundw
            case rel =>
              have hne : ∀ j, (Value.slice A2 k c2).ownBlock = some j → w.heap.size + 1 + 1 ≤ j := fun j e => (hownlt j e).1
              have hg3s := hg3.size
              refine ⟨b + 1, by omega, by go_num, hfb ▸ hown2, ?_, ?_, ?_⟩
              · rw [putN_put, hnum.out, upto_put (cls l) _ b _ rfl] at hb3
                exact (hb3.alloc _).grown hg2 (fun e => by have := hne _ e.symm; omega)
              · exact ((blk_grown hb2 hg3 (by omega)).alloc _).grown hg2 (fun e => by have := hne _ e.symm; omega)
              · exact below_own (below_alloc (below_grown hB hg3 hs2) _) hg2 (fun j e => by have := hne j e; omega)
            case measure => simp [intOf]; omega
    · obtain rfl : b = 256 := by omega
      rw [upto_all] at hb1
      have hmany : Hid (m = many l) := Lib.hid (by rw [hm'.out, hys.out, fb_length]; rfl)
      rw [hmany.out] at hown ⊢
      go_wp2_with (first | (refine wl_load_cls rfl _ rfl _ rfl _ hb1 ?_) | (refine wl_store_cls rfl _ _ rfl _ _ rfl rfl _ hb2 ?_; intro w1 hb4 hg4))
      exact ret_cls rfl rfl hb4 rfl ⟨rfl, hB.grown hg4 hB.size (by rintro k ⟨⟩; exact Nat.le_refl _)⟩

end Go.Proofs.Ytjpiebapemalfaa
