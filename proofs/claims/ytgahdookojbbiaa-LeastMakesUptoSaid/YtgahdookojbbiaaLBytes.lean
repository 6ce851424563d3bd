/- least.bytes: each byte gets its class in the least table. No condition beyond those named in each lemma. -/
import Derived.Test.YtgahdookojbbiaaLAlike
namespace Go.Proofs.Ytgahdookojbbiaa
open Go.RowKit Go.Maps Go.WideMaps
set_option linter.unusedVariables false
set_option linter.unusedSimpArgs false
attribute [local go_sem] Oper.semAt_some

def okI (y : Int) : Prop := (Lit.int .i64 y).wf = true
theorem keyI : KeyEnc Try.prog 3 Int okI (fun y => .int .i64 y) (fun y => Lit.int .i64 y) where
  law := int_keyed Try.underlying3
  key y hy := keyOf_int_mk Try.underlying3 hy
  inj x y h := by injection h
abbrev IMap (w : World) (b n : Nat) (m : Int → Option Int) (cnt : Nat) : Prop := IntMap Try.prog 3 3 okI (fun y => Lit.int .i64 y) w b n m cnt
/-- how often -/
def cntV (l : List Int) (v : Int) : Option Int := if v ∈ l then some (l.count v : Int) else none
theorem cntV_nil : cntV [] = fun _ => none := by funext v; simp [cntV]
theorem cntV_get (l : List Int) (v : Int) : (cntV l v).getD 0 = (l.count v : Int) := by
  unfold cntV
  by_cases h : v ∈ l
  · rw [if_pos h]; rfl
  · rw [if_neg h, List.count_eq_zero.2 h]; rfl
theorem cntV_put (l : List Int) (z : Int) : putM (cntV l) z ((l.count z : Int) + 1) = cntV (l ++ [z]) := by
  funext v
  unfold putM cntV
  by_cases e : v = z
  · subst e
    simp
  · rw [if_neg e]
    by_cases h : v ∈ l
    · simp [h, List.count_append, Ne.symm e]
    · simp [h, e]
theorem wl_map_is {P : Program} {k e : TypeId} {κ : Type} {ok : κ → Prop} {kv : κ → Value} {lit : κ → Lit} {ops : Array Oper} {rest : List Oper} {o : Oper} {a : Act} {Q : Exit → Act → World → Prop} {w : World} {t : TypeId} {b n cnt : Nat} {mf : κ → Option Int} (K : KeyEnc P k κ ok kv lit) (ht : P.underlying t = some (.map k e)) (he : P.underlying e = some (.int .i64)) (hz : (zeroValue e).run P w = .ok (.int .i64 0) w)
    (h : IntMap P k e ok lit w b n mf cnt) (hg : o.guard = none) (m x : Operand) (hop : o.op = Op.lookup t m x false) (hm : a.eval m = .map (some b)) (y : κ) (hy : ok y) (hx : a.eval x = kv y) (v : Int) (hv : (mf y).getD 0 = v)
    (hK : wpList P ops Q rest (a.put o.dst (.int .i64 v)) w) : wpList P ops Q (o :: rest) a w :=
  wl_map_at K ht he hz h hg m x hop hm y hy hx (by rw [hv]; exact hK)
theorem zs_snoc_range (j : Nat) : zs (List.range j) ++ [(j : Int)] = zs (List.range (j + 1)) := by rw [List.range_succ, zs_add]
set_option maxRecDepth 100000 in
set_option maxHeartbeats 4000000 in
theorem lbytes_any (x : TV) (hF : Fits x.T) (ts : List Nat) (hSt : Sts x.T.au ts) (A1 : Option Addr) (c1 : Nat) (K : Nat → Int) (gk : Nat) (hK : Ker x.T.au K) (w : World) (hT : TabIn w w.heap.size x) (hS1 : SliceOf w w.heap.size 1 encZ A1 (zs ts)) (hk : Blk w gk 3 (arr eZ x.rs.length K)) (hKl : ∀ s ∈ ts, 0 ≤ K s ∧ K s < ts.length) :
    Calls Try.prog 52 #[.agg x.C', .slice A1 ts.length c1, .slice (some ⟨gk, 0, none⟩) x.rs.length x.rs.length] w fun e w' => ∃ (g : Nat) (C : Nat → Int), e = .returned (.slice (some ⟨g, 0, none⟩) 256 256) ∧ w.heap.size ≤ g ∧ Blk w' g 3 (arr eZ 256 C) ∧ (∀ b, b < 256 → C b = (num (vec x.T.au K) b : Nat)) ∧ Below w.heap.size w w' := by
  have n1 : 1 ≤ x.rs.length := by have := hF.n1; rwa [fits_n] at this
  have n2 : x.rs.length ≤ 4096 := by have := hF.n2; rwa [fits_n] at this
  unfold TV.C'
  have hok := hF.ok
  have hAn : x.T.au.n = x.rs.length := fits_n
  have hts : ∀ s ∈ ts, s < x.rs.length := fun s hs => by have := hSt.lt hok hs; rwa [hAn] at this
  have htn : ts.length ≤ x.rs.length := nodup_len hSt.nd hts
  have hpos : 0 < ts.length := List.length_pos_of_mem ((hSt.re 0).2 .zero)
  obtain ⟨bS, oS, rfl, hbS, hrS⟩ := hS1.at_ (by rw [zs_len]; exact hpos)
  clear hS1
  have hgkl := hk.lt
  have hmm := @run_makeMap Try.prog
  replace hK := Lib.hid hK
  replace hKl := Lib.hid hKl
  go_enter Try.func52, Try.ntmps52
  obtain ⟨A, hA⟩ : ∃ A, A = x.A := ⟨_, rfl⟩
  have h1 := (Blk.new w 47 (dfaC x.f x.A x.rs.length x.c x.B x.fo.length x.d x.C x.en.length x.e)).alloc (.cells #[.slice (some ⟨gk, 0, none⟩) x.rs.length x.rs.length] 57)
  have hB1 := below_alloc (below_alloc (Below.refl w.heap.size w) (.cells (dfaC x.f x.A x.rs.length x.c x.B x.fo.length x.d x.C x.en.length x.e) 47)) (.cells #[.slice (some ⟨gk, 0, none⟩) x.rs.length x.rs.length] 57)
  have hw : Blk ((w.alloc (.cells (dfaC x.f x.A x.rs.length x.c x.B x.fo.length x.d x.C x.en.length x.e) 47)).alloc (.cells #[.slice (some ⟨gk, 0, none⟩) x.rs.length x.rs.length] 57)) (w.heap.size + 1) 57 #[.slice (some ⟨gk, 0, none⟩) x.rs.length x.rs.length] := Blk.new' _ _ _ (World.size_alloc _ _).symm
  go_upto_region 1 with (fail)
  obtain ⟨w1, hw1⟩ : ∃ y, y = ((w.alloc (.cells (dfaC x.f x.A x.rs.length x.c x.B x.fo.length x.d x.C x.en.length x.e) 47)).alloc (.cells #[.slice (some ⟨gk, 0, none⟩) x.rs.length x.rs.length] 57)) := ⟨_, rfl⟩
  first | rw [← hw1] at h1 hB1 hw ⊢ | (simp only [World.size_alloc]; rw [← hw1] at h1 hB1 hw ⊢)
  clear hw1 hA A
  obtain ⟨gw, hgw⟩ : ∃ g, g = w.heap.size + 1 := ⟨_, rfl⟩
  rw [← hgw] at hw ⊢
  have hgww : w.heap.size ≤ gw := by omega
  clear hgw
  replace hk := blk_then hk hB1
  go_upto_region 2 with (refine wl_makeZ rfl _ _ rfl 256 rfl rfl (by omega) ?_; intro w2 hc hB2)
  obtain ⟨gc, hgc⟩ : ∃ g, g = w1.heap.size := ⟨_, rfl⟩
  rw [← hgc] at hc ⊢
  have hgcw : w.heap.size ≤ gc := by rw [hgc]; exact hB1.size
  have e1 : w.heap.size ≠ gc := by have := h1.lt; omega
  have ew : gw ≠ gc := by have := hw.lt; omega
  have ek : gk ≠ gc := by have := hk.lt; omega
  replace h1 := blk_then h1 hB2
  replace hw := blk_then hw hB2
  replace hk := blk_then hk hB2
  replace hB1 := below_then hB1 hB2
  clear hB2 hgc
  have hgcl := hc.lt
  obtain ⟨bw, hbw⟩ : ∃ g, g = w2.heap.size := ⟨_, rfl⟩
  have l1 : w.heap.size < bw := by rw [hbw]; exact h1.lt
  have lw : gw < bw := by rw [hbw]; exact hw.lt
  have lk : gk < bw := by rw [hbw]; exact hk.lt
  have lc : gc < bw := by rw [hbw]; exact hc.lt
  have hbw2 : bw ≤ w2.heap.size := by omega
  clear hbw hgcl
  go_upto_region 4 with (fail)
  go_loopw [14, 8] (fun jv rv wr => ∃ (j : Nat) (A : Option Addr) (c : Nat), j ≤ 256 ∧ jv = .int .i64 j ∧ rv = .slice A j c ∧ Below w.heap.size w wr ∧ Blk wr w.heap.size 47 (dfaC x.f x.A x.rs.length x.c x.B x.fo.length x.d x.C x.en.length x.e) ∧ Blk wr gw 57 #[.slice (some ⟨gk, 0, none⟩) x.rs.length x.rs.length] ∧ Blk wr gk 3 (arr eZ x.rs.length K) ∧ Blk wr gc 3 (arr eZ 256 fun _ => 0) ∧ bw ≤ wr.heap.size ∧ Own wr bw 3 1 encZ (.slice A j c) (zs (List.range j))) (fun jv _ _ => 256 - (intOf jv).toNat)
  case atStart => exact ⟨0, none, 0, by omega, rfl, rfl, hB1, h1, hw, hk, hc, hbw2, Own.nil_ _ _ _ _ _⟩
  case round =>
    clear h1 hB1 hw hk hc hbw2
    obtain ⟨j, A, c, hj, rfl, rfl, hB1, h1, hw, hk, hc, hbw2, ho⟩ := hrel
    by_cases hj2 : j < 256
    · have hjI : (j : Int) < 256 := by omega
      have hzl : (zs (List.range j)).length = j := by simp [zs]
      go_upto_region 7 with (first | (refine wl_int1 rfl _ rfl (j : Int) rfl ?_) | (refine wl_pushZ rfl _ _ rfl bw _ _ rfl rfl (Blk.new _ _ _) (ho.alloc _) hzl.symm (by rw [hzl]; omega) (by rw [World.size_alloc]; omega) ?_; intro A8 c8 w8 ho8 hg8 hv8))
      rw [zs_snoc_range] at ho8
      have hoa := ho.alloc (.cells (encZ (j : Int)) 3)
      replace h1 := blk_own (h1.alloc _) hoa hg8 l1
      replace hw := blk_own (hw.alloc _) hoa hg8 lw
      replace hk := blk_own (hk.alloc _) hoa hg8 lk
      replace hc := blk_own (hc.alloc _) hoa hg8 lc
      have hbw3 : bw ≤ w8.heap.size := by have := hg8.size; rw [World.size_alloc] at this; omega
      replace hB1 := below_own (below_alloc hB1 _) hg8 (fun k e => by have := (ho.lt k e).1; omega)
      clear hg8 hv8 ho hoa hzl
      go_wp2_with (fail)
      exact ⟨⟨j + 1, A8, c8, by omega, rfl, rfl, hB1, h1, hw, hk, hc, hbw3, ho8⟩, by simp only [intOf]; omega⟩
    · have hjI : ¬ (j : Int) < 256 := by omega
      have hje : j = 256 := by omega
      subst hje
      go_upto_region 9 with (fail)
      have hM := IntMap.new (P := Try.prog) (e := 3) keyI wr rfl
      rw [show (fun _ : Int => (none : Option Int)) = cntV ((ts.take 0).map K) from by rw [List.take_zero]; exact cntV_nil.symm] at hM
      obtain ⟨gm, hgm⟩ : ∃ g, g = wr.heap.size := ⟨_, rfl⟩
      rw [← hgm] at hM ⊢
      have hgmb : bw ≤ gm := by omega
      replace h1 := h1.alloc (.map #[] 0)
      replace hw := hw.alloc (.map #[] 0)
      replace hk := hk.alloc (.map #[] 0)
      replace hc := hc.alloc (.map #[] 0)
      replace ho := ho.alloc (.map #[] 0)
      replace hB1 := below_alloc hB1 (.map #[] 0)
      have hAm : ∀ k, (Value.slice A 256 c).ownBlock = some k → k ≠ gm := fun k e => by
        intro h
        have := (ho.lt k e).1
        subst h
        rcases ho.2 with ⟨hv, h0⟩ | ⟨g', cap, cur, hv, hge, hh, _⟩
        · cases h0
        · rw [hv] at e
          have a1 : g' = k := by simpa [Value.ownBlock] using e
          subst a1
          rw [hgm] at hh
          rw [heap_alloc_new] at hh
          cases hh
      obtain ⟨w3, hw3⟩ : ∃ y, y = wr.alloc (.map #[] 0) := ⟨_, rfl⟩
      rw [← hw3] at hM h1 hw hk hc ho hB1 ⊢
      clear hw3 hgm hbw2 hjI hj2 hj hmm
      have hC0 : ∀ b, b < 256 → (fun _ : Nat => (0 : Int)) b = (num (vecL x.T.au K (ts.take 0)) b : Nat) := fun b hb => by rw [List.take_zero, vecL_nil]; rfl
      have hAc : ∀ b, A = some b → b.block ≠ gc := fun b hb => by have := (ho.lt b.block (by rw [ownBlock_slice, hb]; rfl)).1; omega
      have hzl : (zs (List.range 256)).length = 256 := by simp [zs]
      replace hAc := Lib.hid hAc
      replace hAm := Lib.hid hAm
      go_upto_region 10 with (fail)
      go_loopw [25] (fun jv wr => ∃ (j : Nat) (C : Nat → Int) (cnt : Nat), j ≤ ts.length ∧ jv = .int .i64 j ∧ Below w.heap.size w wr ∧ Blk wr w.heap.size 47 (dfaC x.f x.A x.rs.length x.c x.B x.fo.length x.d x.C x.en.length x.e) ∧ Blk wr gw 57 #[.slice (some ⟨gk, 0, none⟩) x.rs.length x.rs.length] ∧ Blk wr gk 3 (arr eZ x.rs.length K) ∧ Blk wr gc 3 (arr eZ 256 C) ∧ Own wr bw 3 1 encZ (.slice A 256 c) (zs (List.range 256)) ∧ IMap wr gm j (cntV ((ts.take j).map K)) cnt ∧ ∀ b, b < 256 → C b = (num (vecL x.T.au K (ts.take j)) b : Nat)) (fun jv _ => ts.length - (intOf jv).toNat)
      case atStart => exact ⟨0, _, 0, by omega, rfl, hB1, h1, hw, hk, hc, ho, hM, hC0⟩
      case round =>
        clear h1 hB1 hw hk hc ho hM hC0
        obtain ⟨j, C, cnt, hj, rfl, hB1, h1, hw, hk, hc, ho, hM, hC⟩ := hrel
        replace hC := Lib.hid hC
        by_cases hjl : j < ts.length
        · have hjI : (j : Int) < ts.length := by omega
          obtain ⟨s, hs⟩ : ∃ s, ts[j] = s := ⟨_, rfl⟩
          have hsm : s ∈ ts := by rw [← hs]; exact List.getElem_mem _
          have hsn := hts s hsm
          have cS : wr.cell? ⟨bS, oS + j, none⟩ = some (.int .i64 (s : Nat)) := by
            have h9 := cell_keep (hrS j (by rw [zs_len]; exact hjl) 0 _ rfl) hbS hB1
            have h5 : (zs ts)[j]'(by rw [zs_len]; exact hjl) = (s : Int) := by simp [zs, hs]
            rw [h5] at h9
            rw [show oS + j * 1 + 0 = oS + j by omega] at h9
            exact h9
          have htk : ts.take (j + 1) = ts.take j ++ [s] := by rw [List.take_succ_eq_append_getElem hjl, hs]
          have hlj : ((ts.take j).map K).length = j := by simp; omega
          obtain ⟨l, hl⟩ : ∃ l, (ts.take j).map K = l := ⟨_, rfl⟩
          have hl2 : (ts.take (j + 1)).map K = l ++ [K s] := by rw [htk, List.map_append, hl]; rfl
          rw [hl] at hM hlj
          obtain ⟨v, hv⟩ : ∃ v, K s = v := ⟨_, rfl⟩
          rw [hv] at hl2
          obtain ⟨cn, hcn⟩ : ∃ cn, l.count v = cn := ⟨_, rfl⟩
          have hcnl : cn ≤ j := by rw [← hcn, ← hlj]; exact List.count_le_length
          have hok : okI v := by rw [← hv]; exact wf_of (hKl.out s hsm).1 (by have := (hKl.out s hsm).2; omega)
          have hg1 : (cntV l v).getD 0 = (cn : Int) := by rw [cntV_get, hcn]
          have hg2 : (cntV (l ++ [v]) v).getD 0 = ((cn + 1 : Nat) : Int) := by rw [cntV_get]; simp [List.count_append, hcn]
          have hput : putM (cntV l) v ((cn : Int) + 1) = cntV (l ++ [v]) := by rw [← cntV_put, hcn]
          have hmem : v ∈ l ↔ 0 < cn := by rw [← hcn]; exact List.count_pos_iff.symm
          replace hs := Lib.hid hs
          replace htk := Lib.hid htk
          replace hl := Lib.hid hl
          replace hl2 := Lib.hid hl2
          replace hcn := Lib.hid hcn
          replace hok := Lib.hid hok
          replace hg1 := Lib.hid hg1
          replace hg2 := hg2
          replace hput := Lib.hid hput
          replace hmem := Lib.hid hmem
          replace hv := Lib.hid hv
          clear hlj
          have hgmw := hM.lt
          go_upto_region 12 with (refine wl_store_cell rfl _ _ _ rfl _ 0 rfl _ _ #[.int .i64 (s : Nat)] (Blk.new _ _ _) (by simp) info_intS rfl rfl rfl ?_; intro w4 hx4 hG4)
          clear cS
          obtain ⟨gx, hgx⟩ : ∃ g, g = wr.heap.size := ⟨_, rfl⟩
          rw [← hgx] at hx4 hG4 hgmw ⊢
          have f1 : w.heap.size ≠ gx := by have := h1.lt; omega
          have fw : gw ≠ gx := by have := hw.lt; omega
          have fk : gk ≠ gx := by have := hk.lt; omega
          have fc : gc ≠ gx := by have := hc.lt; omega
          have fm : gm ≠ gx := by omega
          have hwgx : w.heap.size ≤ gx := by have := h1.lt; omega
          have fo : (Value.slice A 256 c).ownBlock ≠ some gx := fun e => by have := (ho.lt gx e).2; omega
          replace h1 := (h1.alloc (.cells #[.int .i64 0] 3)).grown hG4 (by simpa using f1)
          replace hw := (hw.alloc (.cells #[.int .i64 0] 3)).grown hG4 (by simpa using fw)
          replace hk := (hk.alloc (.cells #[.int .i64 0] 3)).grown hG4 (by simpa using fk)
          replace hc := (hc.alloc (.cells #[.int .i64 0] 3)).grown hG4 (by simpa using fc)
          replace ho := (ho.alloc (.cells #[.int .i64 0] 3)).grown hG4 fo
          replace hM := (hM.alloc (.cells #[.int .i64 0] 3)).grown hG4 fm
          replace hB1 := below_grown (below_alloc hB1 (.cells #[.int .i64 0] 3)) hG4 hwgx
          clear hG4 hgx hgmw fo
          have cw : w4.cell? ⟨gw, 0, none⟩ = some (.slice (some ⟨gk, 0, none⟩) x.rs.length x.rs.length) := hw.cellv (i := 0) rfl
          have cx : w4.cell? ⟨gx, 0, none⟩ = some (.int .i64 (s : Nat)) := hx4.cellv (i := 0) rfl
          have ck : w4.cell? ⟨gk, s, none⟩ = some (.int .i64 v) := by rw [blk_arrv hk hsn, ← hv.out]; rfl
          have hsI : (s : Int) < x.rs.length := by omega
          have hjm : j < maxLen := by unfold maxLen; omega
          have hcnI : (cn : Int) ≤ 4096 := by omega
          have hwf := Lib.hid (wf_of (c := (cn : Int) + 1) (by omega) (by omega))
          have hgm1 : w.heap.size ≤ gm := by omega
          go_upto_region 13 with (first
            | (at_lookup; refine wl_map_is keyI Try.underlying89 Try.underlying3 (zero_int _) hM rfl _ _ rfl rfl v hok.out rfl _ hg1.out ?_)
            | (at_mapUpdate; refine wl_map_put keyI Try.underlying89 Try.underlying3 hM hjm rfl _ _ _ rfl rfl v hok.out rfl _ rfl hwf.out ?_; intro w5 hM5 hG5))
          rw [hput.out, ← hl2.out] at hM5
          have g1m : w.heap.size ≠ gm := by omega
          have gwm : gw ≠ gm := by omega
          have gkm : gk ≠ gm := by omega
          have gcm : gc ≠ gm := by omega
          replace h1 := h1.grown hG5 (by simpa using g1m)
          replace hw := hw.grown hG5 (by simpa using gwm)
          replace hk := hk.grown hG5 (by simpa using gkm)
          replace hc := hc.grown hG5 (by simpa using gcm)
          replace hx4 := hx4.grown hG5 (by simpa using fm.symm)
          replace ho := ho.kept_ hG5 (fun k e1 e2 => by injection e2 with e2; exact hAm.out k e1 e2.symm)
          replace hB1 := below_grown hB1 hG5 hgm1
          clear hG5 cw cx ck hM hg1 hput hwf
          have cw : w5.cell? ⟨gw, 0, none⟩ = some (.slice (some ⟨gk, 0, none⟩) x.rs.length x.rs.length) := hw.cellv (i := 0) rfl
          have cx : w5.cell? ⟨gx, 0, none⟩ = some (.int .i64 (s : Nat)) := hx4.cellv (i := 0) rfl
          have ck : w5.cell? ⟨gk, s, none⟩ = some (.int .i64 v) := by rw [blk_arrv hk hsn, ← hv.out]; rfl
          rw [← hl2.out] at hg2
          have hCl : ∀ b, b < 256 → 0 ≤ C b ∧ C b < 256 := fun b hb => by
            have h2 := num_lt (vecL x.T.au K (ts.take j)) hb
            have h3 := firsts_length_le (vecL x.T.au K (ts.take j)) 256
            rw [hC.out b hb]
            omega
          replace hCl := Lib.hid hCl
          obtain ⟨cnt5, hcnt5⟩ : ∃ c5, (if (cntV l v).isSome = true then cnt else cnt + 1) = c5 := ⟨_, rfl⟩
          rw [hcnt5] at hM5
          clear hcnt5
          by_cases hz : cn = 0
          · have hg3 : (cntV ((ts.take (j + 1)).map K) v).getD 0 = 1 := by rw [hg2, hz]; rfl
            replace hg3 := Lib.hid hg3
            clear hg2 hz hcn hcnI hcnl
            have hcm := marked_any 71 #[.pointer (some ⟨gw, 0, none⟩), .pointer (some ⟨w.heap.size, 0, none⟩), .pointer (some ⟨gx, 0, none⟩)] enter_bytes1 C (fun b => K (x.T.au.go s b)) (List.range 256) 256 gc A c w5 (ho.slice_all encZ_size) hAc.out hc List.nodup_range (by simp) (fun b hb => List.mem_range.1 hb) (by omega) (fun b hb => wf_of (hCl.out b (List.mem_range.1 hb)).1 (by have := (hCl.out b (List.mem_range.1 hb)).2; omega)) (fun b hb => wf_of (hKl.out _ (hSt.go hsm (List.mem_range.1 hb))).1 (by have := (hKl.out _ (hSt.go hsm (List.mem_range.1 hb))).2; omega))
              (fun b hb X hG => bytes1_any x hF K s b w.heap.size gw gx gk x.rs.length hsn (List.mem_range.1 hb) w X hT (below_grown hB1 hG hgcw) (blk_grown h1 hG e1) ((blk_grown hw hG ew).cellv (i := 0) rfl) (fun t ht => by rw [blk_arrv (blk_grown hk hG ek) ht]; rfl) ((blk_grown hx4 hG fc.symm).cellv (i := 0) rfl))
            rw [List.length_range] at hcm
            have hstep : ∀ b, b < 256 → remark C (fun b => K (x.T.au.go s b)) (List.range 256) b = (num (vecL x.T.au K (ts.take (j + 1))) b : Nat) := fun b hb => by
              rw [htk.out]
              exact vecL_step (fun b hb => hC.out b hb) (fun b hb => rfl) hb
            obtain ⟨C2, hC2⟩ : ∃ C2, remark C (fun b => K (x.T.au.go s b)) (List.range 256) = C2 := ⟨_, rfl⟩
            rw [hC2] at hcm hstep
            clear hC2
            replace hstep := Lib.hid hstep
            go_upto_region 15 with (first
              | (at_lookup; refine wl_map_is keyI Try.underlying89 Try.underlying3 (zero_int _) hM5 rfl _ _ rfl rfl v hok.out rfl _ hg3.out ?_)
              | (go_at_call 67; refine hcm.mono ?_; rintro e w6 ⟨rfl, hc6, hG6⟩) | (go_at_call 67; refine park ?_))
            replace h1 := blk_grown h1 hG6 e1
            replace hw := blk_grown hw hG6 ew
            replace hk := blk_grown hk hG6 ek
            replace hM5 := hM5.grown hG6 (by omega)
            replace ho := ho.kept_ hG6 (fun k e1 e2 => by injection e2 with e2; have := (ho.lt k e1).1; omega)
            replace hB1 := below_grown hB1 hG6 hgcw
            clear hG6 hc hcm cw cx ck hx4
            go_wp2_with (fail)
            exact ⟨⟨j + 1, C2, cnt5, by omega, rfl, hB1, h1, hw, hk, hc6, ho, hM5, hstep.out⟩, by simp only [intOf]; omega⟩
          · obtain ⟨v2, hv2⟩ : ∃ v2, ((cn + 1 : Nat) : Int) = v2 := ⟨_, rfl⟩
            have hne : ¬ v2 = 1 := by omega
            rw [hv2] at hg2
            replace hg2 := Lib.hid hg2
            have hstep : ∀ b, b < 256 → C b = (num (vecL x.T.au K (ts.take (j + 1))) b : Nat) := fun b hb => by
              rw [htk.out, vecL_skip hSt hK.out (fun t ht => List.mem_of_mem_take ht) hsm (by rw [hl.out, hv.out]; exact hmem.out.2 (by omega)) hb]
              exact hC.out b hb
            replace hstep := Lib.hid hstep
            clear hv2 hz hcn hcnI hcnl
            go_wp2_with (at_lookup; refine wl_map_is keyI Try.underlying89 Try.underlying3 (zero_int _) hM5 rfl _ _ rfl rfl v hok.out rfl _ hg2.out ?_)
            exact ⟨⟨j + 1, C, cnt5, by omega, rfl, hB1, h1, hw, hk, hc, ho, hM5, hstep.out⟩, by simp only [intOf]; omega⟩
        · have hjI : ¬ (j : Int) < ts.length := by omega
          have hCe : ∀ b, b < 256 → C b = (num (vec x.T.au K) b : Nat) := fun b hb => by
            have h9 := hC.out b hb
            rw [List.take_of_length_le (by omega), vecL_all hok hSt hb] at h9
            exact h9
          replace hCe := Lib.hid hCe
          clear hC
          go_wp2_with (fail)
          go_ret
          exact ⟨gc, rfl, hgcw, C, hc, hCe.out, hB1⟩
theorem enter_lbytes (args : Array Value) (w : World) : (callFunc 52 args).run Try.prog w = .ok (.enter 52 args) w := by kernel_rfl
end Go.Proofs.Ytgahdookojbbiaa
