/- least.alike: each state that is met gets a mark, alike ones the same. No condition beyond those named in each lemma. -/
import Derived.Test.YtgahdookojbbiaaLAlik0
namespace Go.Proofs.Ytgahdookojbbiaa
open Go.RowKit Go.Maps
set_option linter.unusedVariables false
set_option linter.unusedSimpArgs false
attribute [local go_sem] Oper.semAt_some

theorem run_b0i (w : World) : (Instr.buildSlice 57 0 #[]).run Try.prog w = .ok (.slice (some ⟨w.heap.size, 0, none⟩) 0 0) (w.alloc (.cells #[] 3)) := by kernel_rfl
theorem wl_b0i {ops : Array Oper} {rest : List Oper} {o : Oper} {a : Act} {w : World} {Q : Exit → Act → World → Prop} (hgd : o.guard = none) (ho : o.op = .buildSlice 57 0 #[]) (h : wpList Try.prog ops Q rest (a.put o.dst (.slice (some ⟨w.heap.size, 0, none⟩) 0 0)) (w.alloc (.cells #[] 3))) : wpList Try.prog ops Q (o :: rest) a w :=
  wpList_plain hgd fun _ hK => by
    unfold Oper.wp execOp
    simp only [ho, List.map_toArray, List.map_nil, Sem.run_bind, run_b0i, Result.andThen_ok, Sem.run_pure]
    exact hK _ _ h
theorem slice_arr {W : World} {g n : Nat} {K : Nat → Int} (hb : Blk W g 3 (arr eZ n K)) (hm : n ≤ maxLen) : SliceOf W W.heap.size 1 encZ (some ⟨g, 0, none⟩) ((List.range n).map K) := (own_arr (base := 0) hb rfl (Nat.zero_le _) hm).slice_all encZ_size
/-- a copy of some numbers -/
theorem wl_copyZ {w : World} {ops : Array Oper} {rest : List Oper} {o : Oper} {a : Act} {Q : Exit → Act → World → Prop} (hgd : o.guard = none) (s x : Operand) (ho : o.op = .call { callee := .builtin .append, args := #[s, x], argTypes := #[57, 57] })
    (base g0 : Nat) (l : List Int) {B : Nat} {A : Option Addr} {n c : Nat} (hs : a.eval s = .slice (some ⟨g0, 0, none⟩) 0 0) (hown : Own w base 3 1 encZ (.slice (some ⟨g0, 0, none⟩) 0 0) []) (hx : a.eval x = .slice A n c) (hn : n = l.length) (hr : SliceOf w B 1 encZ A l) (hl : l.length ≤ 1099511627776) (hp : 0 < l.length) (hbase : base ≤ w.heap.size)
    (h : ∀ g c' w', Own w' base 3 1 encZ (.slice (some ⟨g, 0, none⟩) n c') l → w.grownBy w' (some g0) → wpList Try.prog ops Q rest (a.put o.dst (.slice (some ⟨g, 0, none⟩) n c')) w') : wpList Try.prog ops Q (o :: rest) a w := by
  obtain ⟨ii, hii, hz0, hz1, hz2⟩ := info_parts info_int3
  refine wl_append _ hgd _ _ 57 ho base 3 ii _ 1 8 Try.underlying57 hii hz0 hz1 hz2 rfl (by decide) encZ_size encZ_one (.slice (some ⟨g0, 0, none⟩) 0 0) [] hs hown _ _ n c l hx hn hr (by unfold maxLen; simp; omega) (by simp; omega) hbase ?_
  intro v' w' ho' hg hv
  rw [List.nil_append] at ho'
  obtain ⟨g, c', rfl, _, _, _⟩ := ho'.form hp
  rw [← hn] at ho' ⊢
  exact h _ _ _ ho' hg
theorem mark_out (A : Au) (ts : List Nat) (K2 : Nat → Int) (hK : ∀ x ∈ ts, ∀ y ∈ ts, (K2 x = K2 y ↔ A.out x = A.out y)) : MarkOk A ts K2 :=
  ⟨fun x hx y hy ha => (hK x hx y hy).2 ha.out, fun x hx y hy e => (hK x hx y hy).1 e⟩
set_option maxRecDepth 100000 in
set_option maxHeartbeats 4000000 in
theorem lalike_any (x : TV) (hF : Fits x.T) (ts : List Nat) (hSt : Sts x.T.au ts) (A1 A2 : Option Addr) (c1 c2 : Nat) (w : World) (hT : TabIn w w.heap.size x) (hS1 : SliceOf w w.heap.size 1 encZ A1 (zs ts)) (hS2 : SliceOf w w.heap.size 1 encZ A2 (firsts x.f 256)) :
    Calls Try.prog 51 #[.agg x.C', .slice A1 ts.length c1, .slice A2 (firsts x.f 256).length c2] w fun e w' => ∃ (g : Nat) (K : Nat → Int), e = .returned (.slice (some ⟨g, 0, none⟩) x.rs.length x.rs.length) ∧ w.heap.size ≤ g ∧ Blk w' g 3 (arr eZ x.rs.length K) ∧ Ker x.T.au K ∧ (∀ s ∈ ts, 0 ≤ K s ∧ K s < ts.length) ∧ Below w.heap.size w w' := by
  have n1 : 1 ≤ x.rs.length := by have := hF.n1; rwa [fits_n] at this
  have n2 : x.rs.length ≤ 4096 := by have := hF.n2; rwa [fits_n] at this
  unfold TV.C'
  have hok := hF.ok
  have hAn : x.T.au.n = x.rs.length := fits_n
  have hts : ∀ s ∈ ts, s < x.rs.length := fun s hs => by have := hSt.lt hok hs; rwa [hAn] at this
  have htn : ts.length ≤ x.rs.length := nodup_len hSt.nd hts
  have hfl : x.fo.length = x.rs.length := by have := hF.nf; rwa [fits_n] at this
  have hel : x.en.length = x.rs.length := by have := hF.ne; rwa [fits_n] at this
  have hpos : 0 < ts.length := List.length_pos_of_mem ((hSt.re 0).2 .zero)
  have hcl256 := firsts_length_le x.f 256
  have hmem : ∀ z ∈ firsts x.f 256, ∃ b, b < 256 ∧ x.f b = z := fun z hz => (mem_firsts x.f 256 z).1 hz
  have hall : ∀ b, b < 256 → x.f b ∈ firsts x.f 256 := fun b hb => mem_firsts_self x.f hb
  have hpos2 : 0 < (firsts x.f 256).length := List.length_pos_of_mem (hall 0 (by omega))
  obtain ⟨cl, hcl⟩ : ∃ cl, firsts x.f 256 = cl := ⟨_, rfl⟩
  rw [hcl] at hcl256 hmem hall hS2 hpos2 ⊢
  obtain ⟨bC, oC, rfl, hbC, hrC⟩ := hS2.at_ hpos2
  clear hcl hpos2 hS2
  replace hmem := Lib.hid hmem
  replace hall := Lib.hid hall
  replace hfl := Lib.hid hfl
  replace hel := Lib.hid hel
  have hA1l : ∀ b, A1 = some b → b.block < w.heap.size := fun b hb => by
    obtain ⟨b1, o1, e1, h1, _⟩ := hS1.at_ (by rw [zs_len]; exact hpos)
    rw [e1] at hb
    injection hb with hb
    rw [← hb]; exact h1
  go_enter Try.func51, Try.ntmps51
  obtain ⟨A, hA⟩ : ∃ A, A = x.A := ⟨_, rfl⟩
  have h1 := Blk.new w 47 (dfaC x.f x.A x.rs.length x.c x.B x.fo.length x.d x.C x.en.length x.e)
  have hB1 := below_alloc (Below.refl w.heap.size w) (.cells (dfaC x.f x.A x.rs.length x.c x.B x.fo.length x.d x.C x.en.length x.e) 47)
  go_upto_region 1 with (fail)
  obtain ⟨w1, hw1⟩ : ∃ y, y = w.alloc (.cells (dfaC x.f x.A x.rs.length x.c x.B x.fo.length x.d x.C x.en.length x.e) 47) := ⟨_, rfl⟩
  rw [← hw1] at h1 hB1 ⊢
  clear hw1 hA A
  have c1' : w1.cell? ⟨w.heap.size, 256, none⟩ = some (.slice x.A x.rs.length x.c) := blk_d1 h1
  go_upto_region 2 with (refine wl_makeZ rfl _ _ rfl x.rs.length rfl rfl (by omega) ?_; intro w2 hk hB2)
  clear c1'
  obtain ⟨gk, hgk⟩ : ∃ g, g = w1.heap.size := ⟨_, rfl⟩
  rw [← hgk] at hk ⊢
  have hgkw : w.heap.size ≤ gk := by rw [hgk]; exact hB1.size
  have hne : w.heap.size ≠ gk := by have := h1.lt; omega
  replace h1 := blk_then h1 hB2
  replace hB1 := below_then hB1 hB2
  clear hgk hB2
  have hAg : ∀ b, A1 = some b → b.block ≠ gk := fun b hb => by have := hA1l b hb; omega
  replace hAg := Lib.hid hAg
  have hS1' : ∀ {X : World}, Below w.heap.size w X → SliceOf X X.heap.size 1 encZ A1 (zs ts) := fun hB => (hS1.below hB).more hB.size
  have hbg : ∀ {X Y : World}, Below w.heap.size w X → X.grownBy Y (some gk) → Below w.heap.size w Y := fun hB hG => below_grown hB hG hgkw
  have hc1 := marked_any 68 #[.pointer (some ⟨w.heap.size, 0, none⟩)] enter_alike1 (fun _ => 0) (fun s => (x.fo.getD s 0 : Nat)) ts x.rs.length gk A1 c1 w2 (hS1' hB1) hAg.out hk hSt.nd hpos hts (by omega) (fun s hs => wf_of (by omega) (by omega)) (fun s hs => wf_of (by omega) (by have := fo32 hT (s := s) (by have := hts s hs; have := hfl.out; omega); omega))
    (fun s hs X hG => alike1_any x s w.heap.size (by have := hts s hs; have := hfl.out; omega) w X hT (hbg hB1 hG) (blk_grown h1 hG hne))
  go_upto_region 3 with (first | (go_at_call 67; refine hc1.mono ?_; rintro e w3 ⟨rfl, hk3, hG3⟩) | (go_at_call 67; refine park ?_))
  replace h1 := blk_grown h1 hG3 hne
  replace hB1 := hbg hB1 hG3
  clear hc1 hk hG3
  obtain ⟨K1, hK1⟩ : ∃ K1, remark (fun _ => 0) (fun s => ((x.fo.getD s 0 : Nat) : Int)) ts = K1 := ⟨_, rfl⟩
  have hK1l : ∀ s ∈ ts, 0 ≤ K1 s ∧ K1 s < ts.length := fun s hs => by rw [← hK1]; exact remark_lo hs
  have hK1i : ∀ a ∈ ts, ∀ b ∈ ts, (K1 a = K1 b ↔ x.fo.getD a 0 = x.fo.getD b 0) := fun a ha b hb => by rw [← hK1, remark_iff ha hb]; omega
  rw [hK1] at hk3
  replace hK1l := Lib.hid hK1l
  replace hK1i := Lib.hid hK1i
  clear hK1
  have hc2 := marked_any 69 #[.pointer (some ⟨w.heap.size, 0, none⟩)] enter_alike2 K1 (fun s => (x.en.getD s 0 : Nat)) ts x.rs.length gk A1 c1 w3 (hS1' hB1) hAg.out hk3 hSt.nd hpos hts (by omega) (fun s hs => wf_of (hK1l.out s hs).1 (by have := (hK1l.out s hs).2; omega)) (fun s hs => wf_of (by omega) (by have := en32 hT (s := s) (by have := hts s hs; have := hel.out; omega); omega))
    (fun s hs X hG => alike2_any x s w.heap.size (by have := hts s hs; have := hel.out; omega) w X hT (hbg hB1 hG) (blk_grown h1 hG hne))
  obtain ⟨K2, hK2⟩ : ∃ K2, remark K1 (fun s => ((x.en.getD s 0 : Nat) : Int)) ts = K2 := ⟨_, rfl⟩
  rw [hK2] at hc2
  replace hK2 := Lib.hid hK2
  go_wp2_with (first | (go_at_call 67; refine hc2.mono ?_; rintro e w4 ⟨rfl, hk4, hG4⟩) | (go_at_call 67; refine park ?_))
  replace h1 := blk_grown h1 hG4 hne
  replace hB1 := hbg hB1 hG4
  clear hc2 hk3 hG4
  have hK2l : ∀ s ∈ ts, 0 ≤ K2 s ∧ K2 s < ts.length := fun s hs => by rw [← hK2.out]; exact remark_lo hs
  have hMo : MarkOk x.T.au ts K2 := mark_out _ _ _ fun a ha b hb => by
    rw [← hK2.out, remark_iff ha hb, hK1i.out a ha b hb]
    show _ ↔ (x.fo.getD a 0, x.en.getD a 0) = (x.fo.getD b 0, x.en.getD b 0)
    rw [Prod.mk.injEq]
    omega
  clear hK2 hK1l hK1i
  go_loopw [8] (fun mv wr => ∃ K : Nat → Int, mv = .int .i64 (cntK K ts : Nat) ∧ Below w.heap.size w wr ∧ Blk wr w.heap.size 47 (dfaC x.f x.A x.rs.length x.c x.B x.fo.length x.d x.C x.en.length x.e) ∧ Blk wr gk 3 (arr eZ x.rs.length K) ∧ (∀ s ∈ ts, 0 ≤ K s ∧ K s < ts.length) ∧ MarkOk x.T.au ts K) (fun mv _ => ts.length - (intOf mv).toNat)
  case atStart => exact ⟨K2, rfl, hB1, h1, hk4, hK2l, hMo⟩
  case round =>
    clear h1 hB1 hk4 hK2l hMo
    obtain ⟨K, rfl, hB1, h1, hk, hKl, hMo⟩ := hrel
    replace hKl := Lib.hid hKl
    replace hMo := Lib.hid hMo
    obtain ⟨iZ, hiZ, hZ0, hZ1, hZ2⟩ := info_parts info_int3
    have hKL := hk.lt
    have hsA := slice_arr (hk.alloc (.cells #[] 3)) (by unfold maxLen; omega)
    have ho0 := own_empty (α := Int) (enc := encZ) (size := 1) (e := 3) (base := wr.heap.size) (W := wr) (Nat.le_refl _)
    have hrl : ((List.range x.rs.length).map K).length = x.rs.length := by simp
    go_upto_region 5 with (first | (refine wl_b0i rfl rfl ?_) | (refine wl_copyZ rfl _ _ rfl wr.heap.size wr.heap.size ((List.range x.rs.length).map K) rfl ho0 rfl hrl.symm hsA (by rw [hrl]; omega) (by rw [hrl]; omega) (by rw [World.size_alloc]; omega) ?_; intro gv cv w2 hv hG2) | (refine wl_store_cell rfl _ _ _ rfl _ 0 rfl _ _ #[.slice (some ⟨gv, 0, none⟩) x.rs.length cv] (Blk.new _ _ _) (by simp) info_ints1 rfl rfl rfl ?_; intro w3 hw3 hG3))
    obtain ⟨gw, hgw⟩ : ∃ g, g = w2.heap.size := ⟨_, rfl⟩
    obtain ⟨bw, hbw⟩ : ∃ g, g = wr.heap.size := ⟨_, rfl⟩
    rw [← hgw] at hw3 hG3 ⊢
    rw [← hbw] at hv hG2 hKL
    have hl1 := h1.lt
    rw [← hbw] at hl1
    have hs2 := hG2.size
    rw [World.size_alloc, ← hbw, ← hgw] at hs2
    have hkbw : gk ≠ bw := by omega
    have h1bw : w.heap.size ≠ bw := by omega
    have hkgw : gk ≠ gw := by omega
    have h1gw : w.heap.size ≠ gw := by omega
    have hwbw : w.heap.size ≤ bw := by omega
    have hwgw : w.heap.size ≤ gw := by omega
    replace h1 := (((h1.alloc (.cells #[] 3)).grown hG2 (by simpa using h1bw)).alloc (.cells #[.slice none 0 0] 57)).grown hG3 (by simpa using h1gw)
    replace hk := (((hk.alloc (.cells #[] 3)).grown hG2 (by simpa using hkbw)).alloc (.cells #[.slice none 0 0] 57)).grown hG3 (by simpa using hkgw)
    replace hB1 := below_grown (below_alloc (below_grown (below_alloc hB1 (.cells #[] 3)) hG2 hwbw) (.cells #[.slice none 0 0] 57)) hG3 hwgw
    replace hv := own_box (hv.alloc (.cells #[.slice none 0 0] 57)) (Blk.new' w2 _ _ hgw) hG3 (by decide)
    clear hG2 hG3 hs2 ho0 hsA hgw hiZ hZ0 hZ1 hZ2 hrl h1bw hkbw hl1
    replace hbw := Lib.hid hbw
    have hSp : Split x.T.au ts (fun b => x.f b ∈ cl.take 0) K K := Split.start.congr fun b _ => by simp
    go_upto_region 7 with (fail)
    go_loopw [31, 10] (fun jv nv wr => ∃ (j : Nat) (L : Nat → Int), j ≤ cl.length ∧ jv = .int .i64 j ∧ nv = .int .i64 (cntK L ts : Nat) ∧ Below w.heap.size w wr ∧ Blk wr w.heap.size 47 (dfaC x.f x.A x.rs.length x.c x.B x.fo.length x.d x.C x.en.length x.e) ∧ Blk wr gk 3 (arr eZ x.rs.length L) ∧ Blk wr gw 57 #[.slice (some ⟨gv, 0, none⟩) x.rs.length cv] ∧ Own wr bw 3 1 encZ (.slice (some ⟨gv, 0, none⟩) x.rs.length cv) ((List.range x.rs.length).map K) ∧ (∀ s ∈ ts, 0 ≤ L s ∧ L s < ts.length) ∧ Split x.T.au ts (fun b => x.f b ∈ cl.take j) K L) (fun jv _ _ => cl.length - (intOf jv).toNat)
    case atStart => exact ⟨0, K, by omega, rfl, rfl, hB1, h1, hk, hw3, hv, hKl.out, hSp⟩
    case round =>
      clear h1 hB1 hk hw3 hv hSp
      obtain ⟨j, L, hj, rfl, rfl, hB1, h1, hk, hw3, hv, hLl, hSp⟩ := hrel
      replace hLl := Lib.hid hLl
      replace hSp := Lib.hid hSp
      by_cases hjl : j < cl.length
      · have hjI : (j : Int) < cl.length := by omega
        obtain ⟨b, hb, hfb⟩ := hmem.out cl[j] (List.getElem_mem hjl)
        have cC : wr.cell? ⟨bC, oC + j, none⟩ = some (.int .i64 (x.f b)) := by
          have h9 := cell_keep (hrC j hjl 0 _ rfl) hbC hB1
          rw [← hfb] at h9
          rw [show oC + j * 1 + 0 = oC + j by omega] at h9
          exact h9
        have hSp2 : Split x.T.au ts (fun b => x.f b ∈ cl.take (j + 1)) K (remark L (fun s => K (x.T.au.go s b)) ts) := by
          refine hSp.out.step (r := fun b' => x.f b' = x.f b) b hb (fun b' hb' => ?_) (fun b' hb' he s hs => ?_) rfl (fun s hs => rfl)
          · rw [List.take_succ_eq_append_getElem hjl, List.mem_append, List.mem_singleton, ← hfb]
          · show (x.T.nxt s (x.f b')).toNat = (x.T.nxt s (x.f b)).toNat
            rw [he]
        obtain ⟨L2, hL2⟩ : ∃ L2, remark L (fun s => K (x.T.au.go s b)) ts = L2 := ⟨_, rfl⟩
        have hL2l : ∀ s ∈ ts, 0 ≤ L2 s ∧ L2 s < ts.length := fun s hs => by rw [← hL2]; exact remark_lo hs
        rw [hL2] at hSp2
        replace hSp2 := Lib.hid hSp2
        replace hL2l := Lib.hid hL2l
        obtain ⟨fb, hfbe⟩ : ∃ z, x.f b = z := ⟨_, rfl⟩
        rw [hfbe] at cC
        replace hL2 := Lib.hid hL2
        clear hfb hSp
        go_upto_region 9 with (refine wl_store_cell rfl _ _ _ rfl _ 0 rfl _ _ #[.int .i64 fb] (Blk.new _ _ _) (by simp) info_intS rfl rfl rfl ?_; intro w4 hx4 hG4)
        clear cC
        obtain ⟨gx, hgx⟩ : ∃ g, g = wr.heap.size := ⟨_, rfl⟩
        rw [← hgx] at hx4 hG4 ⊢
        have hgkx : gk ≠ gx := by have := hk.lt; omega
        have hgwx : gw ≠ gx := by have := hw3.lt; omega
        have hg1x : w.heap.size ≠ gx := by have := h1.lt; omega
        have hwgx : w.heap.size ≤ gx := by have := h1.lt; omega
        have hgvx : gv ≠ gx := by have := (hv.lt gv rfl).2; omega
        have hgvb := (hv.lt gv rfl).1
        replace h1 := (h1.alloc (.cells #[.int .i64 0] 3)).grown hG4 (by simpa using hg1x)
        replace hk := (hk.alloc (.cells #[.int .i64 0] 3)).grown hG4 (by simpa using hgkx)
        replace hw3 := (hw3.alloc (.cells #[.int .i64 0] 3)).grown hG4 (by simpa using hgwx)
        replace hv := (hv.alloc (.cells #[.int .i64 0] 3)).grown hG4 (by show some gv ≠ some gx; simpa using hgvx)
        replace hB1 := below_grown (below_alloc hB1 (.cells #[.int .i64 0] 3)) hG4 hwgx
        clear hG4 hgx hgvx
        have hcm := marked_any 70 #[.pointer (some ⟨gw, 0, none⟩), .pointer (some ⟨w.heap.size, 0, none⟩), .pointer (some ⟨gx, 0, none⟩)] enter_alike3 L (fun s => K (x.T.au.go s b)) ts x.rs.length gk A1 c1 w4 (hS1' hB1) hAg.out hk hSt.nd hpos hts (by omega) (fun s hs => wf_of (hLl.out s hs).1 (by have := (hLl.out s hs).2; omega)) (fun s hs => wf_of (hKl.out _ (hSt.go hs hb)).1 (by have := (hKl.out _ (hSt.go hs hb)).2; omega))
          (fun s hs X hG => alike3_any x hF K s b w.heap.size gw gx gv cv (hts s hs) hb w X hT (hbg hB1 hG) (blk_grown h1 hG hne) ((blk_grown hw3 hG hkgw.symm).cellv (i := 0) rfl) (fun t ht => by
            have h8 := own_low hv hG hKL
            have h9 := h8.row encZ_size t (by simpa using ht) 0 _ rfl
            rw [show t * 1 + 0 = t by omega] at h9
            simpa [encZ] using h9) (by rw [hfbe]; exact (blk_grown hx4 hG hgkx.symm).cellv (i := 0) rfl))
        rw [hL2.out] at hcm
        go_upto_region 10 with (first | (go_at_call 67; refine hcm.mono ?_; rintro e w5 ⟨rfl, hk5, hG5⟩) | (go_at_call 67; refine park ?_))
        replace h1 := blk_grown h1 hG5 hne
        replace hB1 := hbg hB1 hG5
        replace hw3 := blk_grown hw3 hG5 hkgw.symm
        replace hv := own_low hv hG5 hKL
        clear hcm hk hG5
        go_wp2_with (fail)
        exact ⟨⟨j + 1, L2, by omega, rfl, rfl, hB1, h1, hk5, hw3, hv, hL2l.out, hSp2.out⟩, by simp only [intOf]; omega⟩
      · have hjI : ¬ (j : Int) < cl.length := by omega
        have hSp2 : Split x.T.au ts (fun _ => True) K L := hSp.out.congr fun b hb => by
          rw [List.take_of_length_le (by omega)]
          simp [hall.out b hb]
        have hcnt := hSp2.count
        have hcl := cntK_le (K := L) (ts := ts)
        clear hSp
        by_cases he : cntK K ts = cntK L ts
        · have hker := Lib.hid (hSp2.ker hSt hMo.out he)
          have heI : ((cntK L ts : Nat) : Int) = (cntK K ts : Nat) := by omega
          clear hSp2 hcnt hcl he
          go_wp2_with (fail)
          go_ret
          exact ⟨gk, rfl, hgkw, L, hk, hker.out, hLl.out, hB1⟩
        · have heI : ¬ ((cntK L ts : Nat) : Int) = (cntK K ts : Nat) := by omega
          have hMo2 := Lib.hid (hSp2.ok hSt hMo.out)
          have hlt : cntK K ts < cntK L ts := by omega
          replace hlt := Lib.hid hlt
          clear hSp2 hcnt he
          go_wp2_with (fail)
          exact ⟨⟨L, rfl, hB1, h1, hk, hLl.out, hMo2.out⟩, by have := hlt.out; simp only [intOf]; omega⟩
theorem enter_lalike (args : Array Value) (w : World) : (callFunc 51 args).run Try.prog w = .ok (.enter 51 args) w := by kernel_rfl
end Go.Proofs.Ytgahdookojbbiaa
