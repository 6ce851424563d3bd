/- heronlaw11.letter: the table that looks for one byte. No condition beyond those named in each lemma. -/
import Derived.Test.YtgahdookojbbiaaLLet0
namespace Go.Proofs.Ytgahdookojbbiaa
open Go.RowKit Go.Maps
set_option linter.unusedVariables false
set_option linter.unusedSimpArgs false
attribute [local go_sem] Oper.semAt_some

set_option maxRecDepth 100000 in
set_option maxHeartbeats 4000000 in
theorem letter_any (b : Nat) (hb256 : b < 256) (wide : Bool) (w : World) :
    Calls Try.prog 44 #[.int .u8 (b : Int), .bool wide] w fun e w' => Below w.heap.size w w' ∧ ∃ y : TV, e = .returned (.agg y.C') ∧ TabIn w' w'.heap.size y ∧ y.T = letT b wide := by
  have hz := zero_dfa
  go_enter Try.func44, Try.ntmps44
  have hr := Blk.new w 47 (dfaC (fun _ => 0) none 0 0 none 0 0 none 0 0)
  have hB1 := below_alloc (Below.refl w.heap.size w) (.cells (dfaC (fun _ => 0) none 0 0 none 0 0 none 0 0) 47)
  go_upto_region 1 with (fail)
  obtain ⟨w0, hw0⟩ : ∃ ww, ww = w.alloc (.cells (dfaC (fun _ => 0) none 0 0 none 0 0 none 0 0) 47) := ⟨_, rfl⟩
  rw [← hw0] at hr hB1 ⊢
  clear hw0
  have k1 : True := trivial
  have k2 : True := trivial
  have k3 : True := trivial
  have k4 : True := trivial
  have k5 : True := trivial
  go_upto_region 2 with (first
    | (clear k1; refine wl_i2 rfl _ _ rfl 0 1 rfl rfl ?_; intro ga wa ha la Ba; replace hr := blk_then hr Ba; replace hB1 := below_then hB1 Ba)
    | (clear k2; refine wl_i2 rfl _ _ rfl 1 1 rfl rfl ?_; intro gb wb hb lb Bb; replace hr := blk_then hr Bb; replace ha := blk_then ha Bb; replace hB1 := below_then hB1 Bb)
    | (clear k3; refine wl_r2 rfl _ _ rfl (some ⟨ga, 0, none⟩, 2, 2) (some ⟨gb, 0, none⟩, 2, 2) rfl rfl ?_; intro gc wc hc lc Bc; replace hr := blk_then hr Bc; replace ha := blk_then ha Bc; replace hb := blk_then hb Bc; replace hB1 := below_then hB1 Bc)
    | (clear k4; refine wl_u2 rfl _ _ rfl 0 1 rfl rfl ?_; intro gd wd hd ld Bd; replace hr := blk_then hr Bd; replace ha := blk_then ha Bd; replace hb := blk_then hb Bd; replace hc := blk_then hc Bd; replace hB1 := below_then hB1 Bd)
    | (clear k5; refine wl_u2 rfl _ _ rfl 0 1 rfl rfl ?_; intro ge we he le Be; replace hr := blk_then hr Be; replace ha := blk_then ha Be; replace hb := blk_then hb Be; replace hc := blk_then hc Be; replace hd := blk_then hd Be; replace hB1 := below_then hB1 Be)
    | (refine wl_build_dfa3 rfl _ _ _ rfl _ _ _ _ _ _ _ _ _ rfl rfl rfl ?_)
    | (refine wl_store_dfa rfl _ _ rfl _ rfl rfl (Blk.new _ _ _) ?_; intro wo ho hGo))
  obtain ⟨go, hgo⟩ : ∃ g, g = we.heap.size := ⟨_, rfl⟩
  rw [← hgo] at ho hGo ⊢
  have nr : w.heap.size ≠ go := by have := hr.lt; omega
  have na : ga ≠ go := by have := ha.lt; omega
  have nb : gb ≠ go := by have := hb.lt; omega
  have nc : gc ≠ go := by have := hc.lt; omega
  have nd : gd ≠ go := by have := hd.lt; omega
  have ne : ge ≠ go := by have := he.lt; omega
  have hgow : w.heap.size ≤ go := by have := hr.lt; omega
  replace hr := (hr.alloc (.cells (dfaC (fun _ => 0) none 0 0 none 0 0 none 0 0) 47)).grown hGo (by simpa using nr)
  replace ha := (ha.alloc (.cells (dfaC (fun _ => 0) none 0 0 none 0 0 none 0 0) 47)).grown hGo (by simpa using na)
  replace hb := (hb.alloc (.cells (dfaC (fun _ => 0) none 0 0 none 0 0 none 0 0) 47)).grown hGo (by simpa using nb)
  replace hc := (hc.alloc (.cells (dfaC (fun _ => 0) none 0 0 none 0 0 none 0 0) 47)).grown hGo (by simpa using nc)
  replace hd := (hd.alloc (.cells (dfaC (fun _ => 0) none 0 0 none 0 0 none 0 0) 47)).grown hGo (by simpa using nd)
  replace he := (he.alloc (.cells (dfaC (fun _ => 0) none 0 0 none 0 0 none 0 0) 47)).grown hGo (by simpa using ne)
  replace hB1 := below_grown (below_alloc hB1 (.cells (dfaC (fun _ => 0) none 0 0 none 0 0 none 0 0) 47)) hGo hgow
  clear hGo hgo hz
  have hbI : (b : Int) < 256 := by omega
  go_upto_region 3 with (refine wl_store_dc rfl _ _ rfl go b hb256 1 rfl rfl ho ?_; intro w3 ho3 hG3)
  replace hr := blk_grown hr hG3 nr
  replace ha := blk_grown ha hG3 na
  replace hb := blk_grown hb hG3 nb
  replace hc := blk_grown hc hG3 nc
  replace hd := blk_grown hd hG3 nd
  replace he := blk_grown he hG3 ne
  replace hB1 := below_grown hB1 hG3 hgow
  clear ho hG3
  have ho := ho3
  clear ho3
  have hcl : ∀ i, putN (fun _ => 0) b 1 i = if i = b then 1 else 0 := fun i => rfl
  cases wide with
  | false =>
    go_wp2_with (first | (refine wl_load_dfa rfl _ rfl _ rfl ho ?_) | (refine wl_store_dfa rfl _ _ rfl w.heap.size rfl rfl hr ?_; intro w9 hr9 hG9))
    refine ret_cell rfl _ rfl hr9 Try.underlying47 rfl (info_dfa.trans (by rw [dfaC_size])) rfl ?_
    refine ⟨below_grown hB1 hG9 (Nat.le_refl _), ⟨putN (fun _ => 0) b 1, [⟨some ⟨ga, 0, none⟩, 2, [0, 1]⟩, ⟨some ⟨gb, 0, none⟩, 2, [1, 1]⟩], some ⟨gc, 0, none⟩, 2, [0, 1], some ⟨gd, 0, none⟩, 2, [0, 1], some ⟨ge, 0, none⟩, 2⟩, rfl, ?_, rfl⟩
    have qa := Blk.ne_ ha hr (by decide)
    have qb := Blk.ne_ hb hr (by decide)
    have qc := Blk.ne_ hc hr (by decide)
    have qd := Blk.ne_ hd hr (by decide)
    have qe := Blk.ne_ he hr (by decide)
    replace ha := blk_grown ha hG9 qa
    replace hb := blk_grown hb hG9 qb
    replace hc := blk_grown hc hG9 qc
    replace hd := blk_grown hd hG9 qd
    replace he := blk_grown he hG9 qe
    refine ⟨slice_two hc rfl rfl, fun r hr2 => ?_, slice_two hd rfl rfl, slice_two he rfl rfl, by simp, fun r hr2 => ?_, by simp, by simp, by simp, by simp⟩
    · simp only [List.mem_cons, List.not_mem_nil, or_false] at hr2
      rcases hr2 with rfl | rfl
      · exact slice_two ha rfl rfl
      · exact slice_two hb rfl rfl
    · simp only [List.mem_cons, List.not_mem_nil, or_false] at hr2
      rcases hr2 with rfl | rfl <;> simp
  | true =>
    have k6 : True := trivial
    have k7 : True := trivial
    have k8 : True := trivial
    have k9 : True := trivial
    go_upto_region 5 with (first
      | (clear k6; refine wl_i2 rfl _ _ rfl 0 1 rfl rfl ?_; intro gp wp hp lp Bp; replace hr := blk_then hr Bp; replace ho := blk_then ho Bp; replace hB1 := below_then hB1 Bp)
      | (clear k7; refine wl_i2 rfl _ _ rfl 2 1 rfl rfl ?_; intro gq wq hq lq Bq; replace hr := blk_then hr Bq; replace ho := blk_then ho Bq; replace hp := blk_then hp Bq; replace hB1 := below_then hB1 Bq)
      | (clear k8; refine wl_i2 rfl _ _ rfl 2 1 rfl rfl ?_; intro gs ws hs ls Bs; replace hr := blk_then hr Bs; replace ho := blk_then ho Bs; replace hp := blk_then hp Bs; replace hq := blk_then hq Bs; replace hB1 := below_then hB1 Bs)
      | (clear k9; refine wl_r3 rfl _ _ _ rfl (some ⟨gp, 0, none⟩, 2, 2) (some ⟨gq, 0, none⟩, 2, 2) (some ⟨gs, 0, none⟩, 2, 2) rfl rfl rfl ?_; intro gt wt ht lt Bt; replace hr := blk_then hr Bt; replace ho := blk_then ho Bt; replace hp := blk_then hp Bt; replace hq := blk_then hq Bt; replace hs := blk_then hs Bt; replace hB1 := below_then hB1 Bt)
      | (refine wl_store_d1 rfl _ _ rfl go rfl rfl ho ?_; intro w4 ho4 hG4))
    have yp := Blk.ne_ hp ho (by decide)
    have yq := Blk.ne_ hq ho (by decide)
    have ys := Blk.ne_ hs ho (by decide)
    have yt := Blk.ne_ ht ho (by decide)
    replace hr := blk_grown hr hG4 nr
    replace hp := blk_grown hp hG4 yp
    replace hq := blk_grown hq hG4 yq
    replace hs := blk_grown hs hG4 ys
    replace ht := blk_grown ht hG4 yt
    replace hB1 := below_grown hB1 hG4 hgow
    clear ho hG4
    have k1 : True := trivial
    go_upto_region 6 with (first
      | (clear k1; refine wl_u3 rfl _ _ _ rfl 0 1 1 rfl rfl rfl ?_; intro gu wu hu lu Bu; replace hr := blk_then hr Bu; replace hp := blk_then hp Bu; replace hq := blk_then hq Bu; replace hs := blk_then hs Bu; replace ht := blk_then ht Bu; replace ho4 := blk_then ho4 Bu; replace hB1 := below_then hB1 Bu)
      | (refine wl_store_d2 rfl _ _ rfl go rfl rfl ho4 ?_; intro w5 ho5 hG5))
    have yu := Blk.ne_ hu ho4 (by decide)
    replace hr := blk_grown hr hG5 nr
    replace hp := blk_grown hp hG5 yp
    replace hq := blk_grown hq hG5 yq
    replace hs := blk_grown hs hG5 ys
    replace ht := blk_grown ht hG5 yt
    replace hu := blk_grown hu hG5 yu
    replace hB1 := below_grown hB1 hG5 hgow
    clear ho4 hG5
    have k1 : True := trivial
    go_upto_region 7 with (first
      | (clear k1; refine wl_u3 rfl _ _ _ rfl 0 1 1 rfl rfl rfl ?_; intro gv wv hv lv Bv; replace hr := blk_then hr Bv; replace hp := blk_then hp Bv; replace hq := blk_then hq Bv; replace hs := blk_then hs Bv; replace ht := blk_then ht Bv; replace hu := blk_then hu Bv; replace ho5 := blk_then ho5 Bv; replace hB1 := below_then hB1 Bv)
      | (refine wl_store_d3 rfl _ _ rfl go rfl rfl ho5 ?_; intro w6 ho6 hG6))
    have yv := Blk.ne_ hv ho5 (by decide)
    replace hr := blk_grown hr hG6 nr
    replace hp := blk_grown hp hG6 yp
    replace hq := blk_grown hq hG6 yq
    replace hs := blk_grown hs hG6 ys
    replace ht := blk_grown ht hG6 yt
    replace hu := blk_grown hu hG6 yu
    replace hv := blk_grown hv hG6 yv
    replace hB1 := below_grown hB1 hG6 hgow
    clear ho5 hG6
    go_wp2_with (first | (refine wl_load_dfa rfl _ rfl _ rfl ho6 ?_) | (refine wl_store_dfa rfl _ _ rfl w.heap.size rfl rfl hr ?_; intro w9 hr9 hG9))
    refine ret_cell rfl _ rfl hr9 Try.underlying47 rfl (info_dfa.trans (by rw [dfaC_size])) rfl ?_
    refine ⟨below_grown hB1 hG9 (Nat.le_refl _), ⟨putN (fun _ => 0) b 1, [⟨some ⟨gp, 0, none⟩, 2, [0, 1]⟩, ⟨some ⟨gq, 0, none⟩, 2, [2, 1]⟩, ⟨some ⟨gs, 0, none⟩, 2, [2, 1]⟩], some ⟨gt, 0, none⟩, 3, [0, 1, 1], some ⟨gu, 0, none⟩, 3, [0, 1, 1], some ⟨gv, 0, none⟩, 3⟩, rfl, ?_, rfl⟩
    have qp := Blk.ne_ hp hr (by decide)
    have qq := Blk.ne_ hq hr (by decide)
    have qs := Blk.ne_ hs hr (by decide)
    have qt := Blk.ne_ ht hr (by decide)
    have qu := Blk.ne_ hu hr (by decide)
    have qv := Blk.ne_ hv hr (by decide)
    replace hp := blk_grown hp hG9 qp
    replace hq := blk_grown hq hG9 qq
    replace hs := blk_grown hs hG9 qs
    replace ht := blk_grown ht hG9 qt
    replace hu := blk_grown hu hG9 qu
    replace hv := blk_grown hv hG9 qv
    refine ⟨slice_three ht rfl rfl rfl, fun r hr2 => ?_, slice_three hu rfl rfl rfl, slice_three hv rfl rfl rfl, by simp, fun r hr2 => ?_, by simp, by simp, by simp, by simp⟩
    · simp only [List.mem_cons, List.not_mem_nil, or_false] at hr2
      rcases hr2 with rfl | rfl | rfl
      · exact slice_two hp rfl rfl
      · exact slice_two hq rfl rfl
      · exact slice_two hs rfl rfl
    · simp only [List.mem_cons, List.not_mem_nil, or_false] at hr2
      rcases hr2 with rfl | rfl | rfl <;> simp
theorem enter_letter (args : Array Value) (w : World) : (callFunc 44 args).run Try.prog w = .ok (.enter 44 args) w := by kernel_rfl
end Go.Proofs.Ytgahdookojbbiaa
