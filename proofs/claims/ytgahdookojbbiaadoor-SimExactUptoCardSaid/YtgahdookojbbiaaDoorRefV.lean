/- heronref08's Byte, Line. No condition beyond those named in each lemma. -/
import Derived.Test.YtgahdookojbbiaaDoorRefTU
namespace Go.Proofs.YtgahdookojbbiaaDoor
open Go.RowKit Go.Shelf Go.Maps
set_option linter.unusedVariables false
set_option linter.unusedSimpArgs false
attribute [local go_sem] Oper.semAt_some

theorem fits_b {N : Nat} {E : List Edg} {R : List Nat} (h : Fits N E R) : ∀ d ∈ E, (0 ≤ d.fr ∧ d.fr < N) ∧ 0 ≤ d.tt ∧ d.tt < N := fun d hd => ⟨h.fr d hd, h.tt d hd⟩
def hopR (x c y : Nat) (d : Edg) : Nat := if ((d.kd == 2 && x.testBit d.fr.toNat) && d.st.getLsbD c) = true then y ||| 2 ^ d.tt.toNat else y
def hopRL (E : List Edg) (x c : Nat) (y : Nat) : Nat := E.foldl (hopR x c) y
theorem hopRL_snoc (E : List Edg) (x c y : Nat) (d : Edg) : hopRL (E ++ [d]) x c y = hopR x c (hopRL E x c y) d := by simp [hopRL]
theorem hopRL_bit (x c i : Nat) : ∀ (E : List Edg) (y : Nat), (hopRL E x c y).testBit i = true ↔ y.testBit i = true ∨ ∃ d ∈ E, ((d.kd == 2 && x.testBit d.fr.toNat) && d.st.getLsbD c) = true ∧ d.tt.toNat = i
  | [], y => by simp [hopRL]
  | d :: E, y => by
    have ih := hopRL_bit x c i E (hopR x c y d)
    unfold hopRL at ih ⊢
    rw [List.foldl_cons, ih]
    have h1 : (hopR x c y d).testBit i = true ↔ y.testBit i = true ∨ (((d.kd == 2 && x.testBit d.fr.toNat) && d.st.getLsbD c) = true ∧ d.tt.toNat = i) := by
      unfold hopR
      split
      · rename_i h
        rw [testBit_or_pow, Bool.or_eq_true, decide_eq_true_eq]
        simp [h]
      · rename_i h
        simp [h]
    rw [h1]
    simp only [List.mem_cons, exists_eq_or_imp]
    constructor
    · rintro ((h | h) | h)
      · exact .inl h
      · exact .inr (.inl h)
      · exact .inr (.inr h)
    · rintro (h | h | h)
      · exact .inl (.inl h)
      · exact .inl (.inr h)
      · exact .inr h
theorem hopRL_byte {E : List Edg} {N x c : Nat} (hN : 1 ≤ N) (hE : ∀ d ∈ E, (0 ≤ d.fr ∧ d.fr < N) ∧ 0 ≤ d.tt ∧ d.tt < N) : hopRL E x c (2 ^ 0) = byteN E N x c := by
  apply bits_ext
  intro i
  rw [hopRL_bit, byte_bit, Nat.testBit_two_pow, decide_eq_true_eq]
  constructor
  · rintro (h | ⟨d, hd, h1, h2⟩)
    · exact ⟨by omega, .inl h.symm⟩
    · have hb := hE d hd
      simp only [Bool.and_eq_true, beq_iff_eq] at h1
      exact ⟨by omega, .inr ⟨d, hd, h1.1.1, h1.1.2, h1.2, h2⟩⟩
  · rintro ⟨hi, rfl | ⟨d, hd, h1, h2, h3, h4⟩⟩
    · exact .inl rfl
    · exact .inr ⟨d, hd, by rw [h1, h2, h3]; rfl, h4⟩
set_option maxRecDepth 100000 in
set_option maxHeartbeats 4000000 in
theorem rbyte_any (B0 gr N n c0 m d0 : Nat) (E : List Edg) (R : List Nat) (A B : Option Addr) (k : Wk) (cb : Nat) (hcb : cb < 256) (w : World) (h : RWalk B0 w gr N E R A n c0 B m d0 k) :
    Calls Tryd.prog 15 #[.pointer (some ⟨gr, 0, none⟩), .int .u8 (cb : Int)] w fun e w' => e = .returned (.tuple #[]) ∧ RWalk B0 w' gr N E R A n c0 B m d0 (byteW E N R k cb) ∧ w.grownBy w' (some gr) := by
  obtain ⟨hM, hB0, hr, hx, g, c, hne, hw, hS⟩ := h
  obtain ⟨x, r, b⟩ := k
  simp only at hr hx hw hS
  have hN := hM.lN
  have hone := hM.fits.one
  have hEb := fits_b hM.fits
  have hn2 : n ≤ 1099511627776 := by rw [hM.nE]; exact hM.lE
  have Hn := Lib.hid hM.nE
  have hgl := hS.lt g rfl
  have hgrl := hw.lt
  have hlow := hM.low
  have cN : w.cell? ⟨gr, 0, none⟩ = some (.int .i64 (N : Int)) := hw.cellv (i := 0) rfl
  go_enter Tryd.func15, Tryd.ntmps15
  go_upto_region 1 with (refine wl_makeB rfl _ _ rfl N w.heap.size rfl rfl hN (Nat.le_refl _) ?_; intro w1 hS1 hB1)
  clear cN
  obtain ⟨g1, hg1⟩ : ∃ q, q = w.heap.size := ⟨_, rfl⟩
  have Hg1 := Lib.hid hg1
  rw [← hg1] at hS1 ⊢
  have hgl1 : w.heap.size ≤ g1 := by omega
  clear hg1
  go_upto_region 2 with (refine wl_store_one (enc := encB) encB_size rfl _ info_bool1 _ _ rfl g1 0 N N rfl true rfl rfl rfl hS1 (by rw [boolsN_length]; exact hone) ?_; intro w2 hS2 hg2)
  rw [boolsN_set, Nat.zero_or] at hS2
  have hB2 := below_grown hB1 hg2 hgl1
  clear hS1 hB1 hg2
  go_wp2_with (fail)
  go_loopw [5] (fun iv wr => ∃ j : Nat, j ≤ n ∧ iv = .int .i64 j ∧ Own wr g1 4 1 encB (.slice (some ⟨g1, 0, none⟩) N N) (boolsN (hopRL (E.take j) x cb (2 ^ 0)) N) ∧ Below w.heap.size w wr) (fun iv _ => n - (intOf iv).toNat)
  case atStart => exact ⟨0, by omega, rfl, hS2, hB2⟩
  case round =>
    clear hS2 hB2
    obtain ⟨j, hj, rfl, hSo, hBw⟩ := hrel
    have hw4 := blk_then hw hBw
    have cE : wr.cell? ⟨gr, 1, none⟩ = some (.slice A n c0) := hw4.cellv (i := 1) rfl
    by_cases hjl : j < n
    · have hjI : (j : Int) < n := by omega
      have hjE : j < E.length := by rw [← Hn.out]; exact hjl
      obtain ⟨bA, offA, rfl, hbA, hrows⟩ := hM.edges.at_ (by omega)
      have hr0 := (hrows j hjE).keep (hBw.block bA (by omega))
      obtain ⟨dd, hd⟩ : ∃ d, d = E[j] := ⟨_, rfl⟩
      rw [← hd] at hr0
      have hdE : dd ∈ E := by rw [hd]; exact List.getElem_mem hjE
      have htk : hopRL (E.take (j + 1)) x cb (2 ^ 0) = hopR x cb (hopRL (E.take j) x cb (2 ^ 0)) dd := by rw [List.take_succ_eq_append_getElem hjE, ← hd, hopRL_snoc]
      have Htk := Lib.hid htk
      obtain ⟨y, hy⟩ : ∃ y, y = hopRL (E.take j) x cb (2 ^ 0) := ⟨_, rfl⟩
      rw [← hy] at hSo
      have Hy := Lib.hid hy
      clear hd htk hy
      have hjb : j < 1099511628000 := by omega
      go_upto_region 6 with (first | (refine wl_load_edge_at rfl _ rfl _ _ rfl _ hr0 ?_) | (refine wl_store_edge rfl _ _ rfl _ _ rfl rfl edge0 (Blk.new _ _ _) ?_; intro w3 h5 hg3))
      have hB3 := below_grown (below_alloc (Below.refl _ wr) (.cells #[.int .i64 0, .int .i64 0, .int .i64 0, .int .u64 0, .int .u64 0, .int .u64 0, .int .u64 0] 53)) hg3 (Nat.le_refl _)
      clear hr0 hg3 cE
      have hhas := fun W => rhas_nat dd.st cb hcb W
      obtain ⟨hs, hhs⟩ : ∃ b, dd.st.getLsbD cb = b := ⟨_, rfl⟩
      rw [hhs] at hhas
      go_upto_region 7 with (first | (refine wl_load_set_at rfl _ rfl _ _ rfl _ h5.st ?_) | (go_at_call 34; refine (hhas _).mono ?_; rintro e w4 ⟨rfl, hB4⟩))
      replace h5 := blk_then h5 hB4
      replace hB4 := below_then hB3 hB4
      replace hSo := hSo.then_ hB4
      replace hw4 := blk_then hw4 hB4
      replace hBw := below_then hBw hB4
      have hz4 := hB4.size
      have hl5 := h5.lt
      clear hB3 hB4
      have hfb := hEb dd hdE
      obtain ⟨p, hp⟩ : ∃ q : Nat, dd.fr = (q : Int) := ⟨dd.fr.toNat, by omega⟩
      obtain ⟨q, hq⟩ : ∃ q : Nat, dd.tt = (q : Int) := ⟨dd.tt.toNat, by omega⟩
      have hpN : p < N := by omega
      have hqN : q < N := by omega
      have hpt : dd.fr.toNat = p := by omega
      have hqt : dd.tt.toNat = q := by omega
      clear hhas
      obtain ⟨xp, hxp0⟩ : ∃ b, x.testBit p = b := ⟨_, rfl⟩
      obtain ⟨k2, hk2⟩ : ∃ b, (dd.kd == 2) = b := ⟨_, rfl⟩
      have hcp : ∀ {X : World}, Below w4.heap.size w4 X → X.cell? ⟨wr.heap.size, 1, none⟩ = some (.int .i64 ((p : Nat) : Int)) := fun hb => by rw [← hp]; exact (blk_then h5 hb).cellv (i := 1) rfl
      have hxp : ∀ {X : World}, Below w4.heap.size w4 X → X.cell? ⟨g, 0 + p * 1, none⟩ = some (.bool xp) := fun hb => by
        have hl : p < (boolsN x N).length := by rw [boolsN_length]; exact hpN
        have := (hS.then_ (below_then hBw hb)).row encB_size p hl 0 _ rfl
        rw [boolsN_get, hxp0] at this
        rw [Nat.zero_add]
        exact this
      refine wp_region_steps 16 [eqS (.pointer (some ⟨wr.heap.size, 0, none⟩)), eqS (.int .i64 (dd.kd)), eqS (.bool k2), eqS (.bool k2), eqS (vF (true && (k2 == true)) (.pointer (some ⟨gr, 0, none⟩))), eqS (vF (true && (k2 == true)) (.pointer (some ⟨gr, 0, none⟩))), eqS (vF (true && (k2 == true)) (.pointer (some ⟨gr, 3, none⟩))), eqS (vF (true && (k2 == true)) (.slice (some ⟨g, 0, none⟩) N c)), eqS (vF (true && (k2 == true)) (.pointer (some ⟨wr.heap.size, 1, none⟩))), eqS (vF (true && (k2 == true)) (.int .i64 (((p : Nat) : Int)))), eqS (vF (true && (k2 == true)) (.pointer (some ⟨g, 0 + p * 1, none⟩))), eqS (vF (true && (k2 == true)) (.bool xp)), eqS (.bool (k2 && xp)), eqS (.bool (k2 && xp)), eqS (vF (true && ((k2 && xp) == true)) (.bool hs)), eqS (.bool ((k2 && xp) && hs))] [39, 40, 41, 42, 43, 44, 45, 46, 47, 48, 49, 50, 51, 52, 53, 54] rfl (by kernel_rfl) rfl ?_ ?_
      · skip
        refine Steps.cons (fun a' w' hG hB dep => gs_field (want_none rfl) _ _ _ rfl wr.heap.size (0) (0) (hG.other 6 rfl) (fun wz => field_edge_0 wr.heap.size (0) wz) rfl) ?_
        refine Steps.cons (fun a' w' hG hB dep => gs_load1 (want_none rfl) _ _ rfl wr.heap.size (0) (dep 0 rfl 39 rfl) (.int .i64 (dd.kd)) ((blk_then h5 hB).cellv (i := 0) rfl) _ Tryd.underlying3 rfl rfl) ?_
        refine Steps.cons (fun a' w' hG hB dep => gs_eql_int (want_none rfl) _ _ _ _ rfl _ _ _ (dep 1 rfl 40 rfl) rfl (id (congrArg Value.bool hk2))) ?_
        refine Steps.cons (fun a' w' hG hB dep => gs_move (want_none rfl) _ rfl (id (dep 2 rfl 41 rfl))) ?_
        refine Steps.cons (fun a' w' hG hB dep => gs_guard (c := true) (b' := k2) rfl rfl (dep 3 rfl 42 rfl) (fun hc he hw => gs_move hw _ rfl (Eq.trans (hG.other 0 rfl) (vF_yes (on_g hc he) _).symm)) (fun hn => vF_no hn _)) ?_
        refine Steps.cons (fun a' w' hG hB dep => gs_guard (c := true) (b' := k2) rfl rfl (dep 3 rfl 42 rfl) (fun hc he hw => gs_nil hw _ rfl _ (Eq.trans (dep 4 rfl 43 rfl) (vF_yes (on_g hc he) _)) (vF_yes (on_g hc he) _).symm) (fun hn => vF_no hn _)) ?_
        refine Steps.cons (fun a' w' hG hB dep => gs_guard (c := true) (b' := k2) rfl rfl (dep 3 rfl 42 rfl) (fun hc he hw => gs_field hw _ _ _ rfl gr (0) (3) (Eq.trans (dep 5 rfl 44 rfl) (vF_yes (on_g hc he) _)) (fun wz => field_rwalk_1 gr (0) wz) (vF_yes (on_g hc he) _).symm) (fun hn => vF_no hn _)) ?_
        refine Steps.cons (fun a' w' hG hB dep => gs_guard (c := true) (b' := k2) rfl rfl (dep 3 rfl 42 rfl) (fun hc he hw => gs_load1 hw _ _ rfl gr (3) (Eq.trans (dep 6 rfl 45 rfl) (vF_yes (on_g hc he) _)) (.slice (some ⟨g, 0, none⟩) N c) ((blk_then hw4 hB).cellv (i := 3) rfl) _ Tryd.underlying59 rfl (vF_yes (on_g hc he) _).symm) (fun hn => vF_no hn _)) ?_
        refine Steps.cons (fun a' w' hG hB dep => gs_guard (c := true) (b' := k2) rfl rfl (dep 3 rfl 42 rfl) (fun hc he hw => gs_field hw _ _ _ rfl wr.heap.size (0) (1) (hG.other 6 rfl) (fun wz => field_edge_1 wr.heap.size (0) wz) (vF_yes (on_g hc he) _).symm) (fun hn => vF_no hn _)) ?_
        refine Steps.cons (fun a' w' hG hB dep => gs_guard (c := true) (b' := k2) rfl rfl (dep 3 rfl 42 rfl) (fun hc he hw => gs_load1 hw _ _ rfl wr.heap.size (1) (Eq.trans (dep 8 rfl 47 rfl) (vF_yes (on_g hc he) _)) (.int .i64 (((p : Nat) : Int))) (hcp hB) _ Tryd.underlying3 rfl (vF_yes (on_g hc he) _).symm) (fun hn => vF_no hn _)) ?_
        refine Steps.cons (fun a' w' hG hB dep => gs_guard (c := true) (b' := k2) rfl rfl (dep 3 rfl 42 rfl) (fun hc he hw => gs_index hw _ _ _ rfl under_bools 1 size_boolE g 0 N c (p) (Eq.trans (dep 7 rfl 46 rfl) (vF_yes (on_g hc he) _)) (Eq.trans (dep 9 rfl 48 rfl) (vF_yes (on_g hc he) _)) hpN (vF_yes (on_g hc he) _).symm) (fun hn => vF_no hn _)) ?_
        refine Steps.cons (fun a' w' hG hB dep => gs_guard (c := true) (b' := k2) rfl rfl (dep 3 rfl 42 rfl) (fun hc he hw => gs_load1 hw _ _ rfl g (0 + p * 1) (Eq.trans (dep 10 rfl 49 rfl) (vF_yes (on_g hc he) _)) (.bool xp) (hxp hB) _ Tryd.underlying4 rfl (vF_yes (on_g hc he) _).symm) (fun hn => vF_no hn _)) ?_
        refine Steps.cons (fun a' w' hG hB dep => gs_pick (want_none rfl) _ _ _ rfl k2 (dep 3 rfl 42 rfl) (id (pick_and2 (c := true) rfl (dep 11 rfl 50 rfl)))) ?_
        refine Steps.cons (fun a' w' hG hB dep => gs_move (want_none rfl) _ rfl (id (dep 12 rfl 51 rfl))) ?_
        refine Steps.cons (fun a' w' hG hB dep => gs_guard (c := true) (b' := (k2 && xp)) rfl rfl (dep 13 rfl 52 rfl) (fun hc he hw => gs_move hw _ rfl (Eq.trans (hG.other 7 rfl) (vF_yes (on_g hc he) _).symm)) (fun hn => vF_no hn _)) ?_
        refine Steps.cons (fun a' w' hG hB dep => gs_pick (want_none rfl) _ _ _ rfl (k2 && xp) (dep 13 rfl 52 rfl) (id (pick_and2 (c := true) rfl (dep 14 rfl 53 rfl)))) ?_
        exact Steps.nil
      intro u w5 hB5 ans
      obtain ⟨f, hf⟩ : ∃ b, ((k2 && xp) && hs) = b := ⟨_, rfl⟩
      have u54 : u 54 = .bool f := (ans 15 54 (by decide) rfl).trans (by rw [hf])
      clear ans
      simp only [putAll, List.foldl_cons, List.foldl_nil, Act.put, List.setIfInBounds_toArray, List.set_cons_zero, List.set_cons_succ, u54]
      clear u54
      simp only [List.drop]
      refine wpList_nil ?_
      have hqc : w5.cell? ⟨wr.heap.size, 2, none⟩ = some (.int .i64 ((q : Nat) : Int)) := by rw [← hq]; exact (blk_then h5 hB5).cellv (i := 2) rfl
      replace hSo := hSo.then_ hB5
      replace hBw := below_then hBw hB5
      clear hcp hxp hB5 h5 hw4
      have hcond : ((dd.kd == 2 && x.testBit dd.fr.toNat) && dd.st.getLsbD cb) = f := by rw [hpt, hk2, hxp0, hhs, hf]
      clear hk2 hxp0 hhs hf
      cases f
      · clear hqc
        go_wp2_with (fail)
        exact ⟨⟨j + 1, by omega, rfl, by rw [Htk.out, ← Hy.out, show hopR x cb y dd = y from by unfold hopR; rw [hcond]; rfl]; exact hSo, hBw⟩, by simp only [intOf]; omega⟩
      · have hg1l := hSo.lt g1 rfl
        go_wp2_with (refine wl_store_one (enc := encB) encB_size rfl _ info_bool1 _ _ rfl g1 q N N rfl true rfl rfl rfl hSo (by rw [boolsN_length]; exact hqN) ?_; intro w6 hS6 hg6)
        rw [boolsN_set] at hS6
        exact ⟨⟨j + 1, by omega, rfl, by rw [Htk.out, ← Hy.out, show hopR x cb y dd = y ||| 2 ^ q from by unfold hopR; rw [hcond, hqt]; rfl]; exact hS6, below_grown hBw hg6 hgl1⟩, by simp only [intOf]; omega⟩
    · have hjI : ¬ (j : Int) < n := by omega
      obtain ⟨y1, hy1⟩ : ∃ y1, y1 = hopRL (E.take j) x cb (2 ^ 0) := ⟨_, rfl⟩
      rw [← hy1] at hSo
      have hyb : y1 = byteN E N x cb := by rw [hy1, List.take_of_length_le (by rw [← Hn.out]; omega), hopRL_byte hone hEb]
      have hy1N : below y1 N := by rw [hyb]; exact byte_below _ _ _ _
      have Hyb := Lib.hid hyb
      have hMb := hM.then_ hBw
      have hwb0 := hw4
      have hg1l := hSo.lt g1 rfl
      have hzr := hBw.size
      clear hy1 hyb
      go_upto_region 9 with (fail)
      clear cE
      go_upto_region 10 with (first
        | (go_at_call 25; refine (rspread_any B0 gr N n c0 m d0 E R A B _ r b (some ⟨g1, 0, none⟩) N y1 _ false false hy1N wr hMb hwb0 (hSo.slice_all encB_size)).mono ?_; rintro e w7 ⟨g2, c2, rfl, hg2, hS7, hB7⟩; replace hwb0 := blk_then hwb0 hB7)
        | (refine wl_store_cell rfl _ _ _ rfl _ _ rfl _ _ (rwalkC N A n c0 B m d0 (.slice (some ⟨g2, 0, none⟩) N c2) r b) hwb0 (by simp [rwalkC]) info_bools1 rfl rfl rfl ?_; intro w8 hw8 hg8))
      have hM8 := (hMb.then_ hB7).grown hg8 hB0
      have hS8 := own_box hS7 hwb0 hg8 (by decide)
      have hG8 : w.grownBy w8 (some gr) := ((only_of_below (below_then hBw hB7) (some gr))).trans hg8
      have hz7 := hB7.size
      have hz8 := hg8.size
      clear hS7 hwb0 hMb hSo hBw hw4 hB7 hg8
      go_upto_region 11 with (refine wl_store_cell rfl _ _ _ rfl _ _ rfl _ _ (rwalkC N A n c0 B m d0 (.slice (some ⟨g2, 0, none⟩) N c2) r false) hw8 (by simp [rwalkC]) info_bool1 rfl rfl rfl ?_; intro w9 hwb hg9)
      have hMb := hM8.grown hg9 hB0
      have hSb := own_box hS8 hw8 hg9 (by decide)
      have hG9 : w.grownBy w9 (some gr) := hG8.trans hg9
      have hz9 := hg9.size
      clear hM8 hS8 hw8 hg9 hG8
      obtain ⟨y, hy⟩ : ∃ y, y = spreadN E N false false y1 := ⟨_, rfl⟩
      rw [← hy] at hSb
      have hyN : below y N := by rw [hy]; exact spread_below _ _ _ _ _
      have Hy := Lib.hid hy
      clear hy
      have hmet : metN R y N < 4294967296 := met_lt hMb.lt y N
      have hor := u32_or_nat r (metN R y N) hr hmet
      refine wp_region_steps 14 [eqS (.pointer (some ⟨gr, 0, none⟩)), eqS (.pointer (some ⟨gr, 0, none⟩)), eqS (.pointer (some ⟨gr, 0, none⟩)), eqS (.pointer (some ⟨gr, 4, none⟩)), eqS (.int .u32 ((r : Nat))), eqS (.pointer (some ⟨gr, 0, none⟩)), eqS (.pointer (some ⟨gr, 0, none⟩)), eqS (.pointer (some ⟨gr, 0, none⟩)), eqS (.pointer (some ⟨gr, 3, none⟩)), eqS (.slice (some ⟨g2, 0, none⟩) N c2), eqS (.int .u32 ((metN R y N : Nat))), eqS (.int .u32 ((r ||| metN R y N : Nat))), eqS (.pointer (some ⟨gr, 0, none⟩)), eqS (.pointer (some ⟨gr, 4, none⟩))] [68, 69, 70, 71, 72, 73, 74, 75, 76, 77, 78, 79, 80, 81] rfl (by kernel_rfl) rfl ?_ ?_
      · skip
        refine Steps.cons (fun a' w' hG hB dep => gs_move (want_none rfl) _ rfl (id (hG.other 0 rfl))) ?_
        refine Steps.cons (fun a' w' hG hB dep => gs_move (want_none rfl) _ rfl (id (hG.other 0 rfl))) ?_
        refine Steps.cons (fun a' w' hG hB dep => gs_nil (want_none rfl) _ rfl _ (dep 1 rfl 69 rfl) rfl) ?_
        refine Steps.cons (fun a' w' hG hB dep => gs_field (want_none rfl) _ _ _ rfl gr (0) (4) (dep 2 rfl 70 rfl) (fun wz => field_rwalk_2 gr (0) wz) rfl) ?_
        refine Steps.cons (fun a' w' hG hB dep => gs_load1 (want_none rfl) _ _ rfl gr (4) (dep 3 rfl 71 rfl) (.int .u32 ((r : Nat))) ((blk_then hwb hB).cellv (i := 4) rfl) _ Tryd.underlying28 rfl rfl) ?_
        refine Steps.cons (fun a' w' hG hB dep => gs_move (want_none rfl) _ rfl (id (hG.other 0 rfl))) ?_
        refine Steps.cons (fun a' w' hG hB dep => gs_move (want_none rfl) _ rfl (id (hG.other 0 rfl))) ?_
        refine Steps.cons (fun a' w' hG hB dep => gs_nil (want_none rfl) _ rfl _ (dep 6 rfl 74 rfl) rfl) ?_
        refine Steps.cons (fun a' w' hG hB dep => gs_field (want_none rfl) _ _ _ rfl gr (0) (3) (dep 7 rfl 75 rfl) (fun wz => field_rwalk_1 gr (0) wz) rfl) ?_
        refine Steps.cons (fun a' w' hG hB dep => gs_load1 (want_none rfl) _ _ rfl gr (3) (dep 8 rfl 76 rfl) (.slice (some ⟨g2, 0, none⟩) N c2) ((blk_then hwb hB).cellv (i := 3) rfl) _ Tryd.underlying59 rfl rfl) ?_
        refine Steps.cons (fun a' w' hG hB dep => gs_call (want_none rfl) _ _ _ rfl enter_words _ (map2 (dep 5 rfl 73 rfl) (dep 9 rfl 77 rfl)) ((words_any B0 gr N n c0 m d0 E R A B _ r false (some ⟨g2, 0, none⟩) c2 y _ hyN w' (hMb.then_ hB) (blk_then hwb hB) ((hSb.then_ hB).slice_all encB_size)).mono fun e2 w2 ⟨he, hb⟩ => ⟨_, he, by rw [hb]; exact Below.refl _ _, rfl⟩)) ?_
        refine Steps.cons (fun a' w' hG hB dep => gs_or_u32 (want_none rfl) _ _ _ _ rfl _ _ (dep 4 rfl 72 rfl) (dep 10 rfl 78 rfl) _ hor rfl) ?_
        refine Steps.cons (fun a' w' hG hB dep => gs_nil (want_none rfl) _ rfl _ (dep 0 rfl 68 rfl) rfl) ?_
        refine Steps.cons (fun a' w' hG hB dep => gs_field (want_none rfl) _ _ _ rfl gr (0) (4) (dep 12 rfl 80 rfl) (fun wz => field_rwalk_2 gr (0) wz) rfl) ?_
        exact Steps.nil
      intro u w10 hB10 ans
      have u81 : u 81 = .pointer (some ⟨gr, 4, none⟩) := ans 13 81 (by decide) rfl
      have u79 : u 79 = .int .u32 (r ||| metN R y N : Nat) := ans 11 79 (by decide) rfl
      clear ans
      simp only [putAll, List.foldl_cons, List.foldl_nil, Act.put, List.setIfInBounds_toArray, List.set_cons_zero, List.set_cons_succ, u79, u81]
      clear u79 u81
      simp only [List.drop]
      have hwc := blk_then hwb hB10
      have hMc := hMb.then_ hB10
      have hSc := hSb.then_ hB10
      have hGc : w.grownBy w10 (some gr) := hG9.trans (only_of_below hB10 (some gr))
      have hzc := hB10.size
      clear hwb hMb hSb hB10 hG9
      refine wl_store_cell rfl _ _ _ rfl _ _ rfl _ _ (rwalkC N A n c0 B m d0 (.slice (some ⟨g2, 0, none⟩) N c2) (r ||| metN R y N) false) hwc (by simp [rwalkC]) info_u32 rfl rfl rfl ?_
      intro w11 hwd hg11
      have hMd := hMc.grown hg11 hB0
      have hSd := own_box hSc hwc hg11 (by decide)
      have hGd := hGc.trans hg11
      clear hwc hMc hSc hGc hg11
      refine wpList_nil ?_
      go_wp2_with (fail)
      first | (refine bodyPost_end (results_none rfl _ _ _) rfl ?_) | (refine bodyPost_ret (results_none rfl _ _ _) rfl ?_)
      refine ⟨rfl, ?_, hGd⟩
      have hbw : byteW E N R ⟨x, r, b⟩ cb = ⟨y, r ||| metN R y N, false⟩ := by rw [Hy.out, Hyb.out]; rfl
      rw [hbw]
      exact ⟨hMd, hB0, or_lt32 hr hmet, hyN, g2, c2, by omega, hwd, hSd.mono (by omega)⟩
theorem enter_rbyte (args : Array Value) (w : World) : (callFunc 15 args).run Tryd.prog w = .ok (.enter 15 args) w := by kernel_rfl
set_option maxRecDepth 100000 in
set_option maxHeartbeats 4000000 in
theorem rline_any (s : Int) (A : Option Addr) (n c0 : Nat) (B : Option Addr) (m d0 : Nat) (E : List Edg) (R : List Nat) (ln : ByteArray) (hn : n = E.length) (hm : m = R.length) (hE : E.length ≤ 1099511627776) (hRl : R.length ≤ 1099511627776) (hR : ∀ r ∈ R, r < 4294967296) (w : World)
    (hsE : SliceOf w w.heap.size 7 edgC A E) (hsR : SliceOf w w.heap.size 1 encR B R) (hln : ln.size ≤ 1099511627776) :
    Calls Tryd.prog 7 #[.agg (nfaC s A n c0 B m d0), .string ln] w fun e w' => Below w.heap.size w w' ∧
      ((rightB s E m = false ∧ e = .returned (.tuple #[.int .u32 0, .int .i64 70])) ∨
       (rightB s E m = true ∧ e = .returned (.tuple #[.int .u32 (endW E R.length R (goesW E R.length R (bytesL ln) (begW E R.length R)) : Nat), .int .i64 0]))) := by
  have hbeg := fun B0 w1 h1 h2 h3 => rbegin_any B0 s A n c0 B m d0 E R hn hm hE hRl hR w1 h1 h2 h3
  clear hn hm
  go_enter Tryd.func7, Tryd.ntmps7
  have h1 := Blk.new w 25 (nfaC s A n c0 B m d0)
  have hB1 : Below w.heap.size w (w.alloc (.cells (nfaC s A n c0 B m d0) 25)) := below_alloc (Below.refl _ _) _
  go_upto_region 1 with (fail)
  obtain ⟨W1, hW1⟩ : ∃ y, y = w.alloc (.cells (nfaC s A n c0 B m d0) 25) := ⟨_, rfl⟩
  rw [← hW1] at h1 hB1 ⊢
  clear hW1
  replace hbeg := hbeg w.heap.size W1 (hsE.keep (fun k hk => hB1.block k hk)) (hsR.keep (fun k hk => hB1.block k hk)) hB1.size
  rcases hrb : rightB s E m with _ | _
  · have hbeg2 : Calls Tryd.prog 10 #[.agg (nfaC s A n c0 B m d0)] W1 fun e w' => Below W1.heap.size W1 w' ∧ e = .returned (.tuple #[.pointer none, .int .i64 70]) := hbeg.mono (fun e w' ⟨q1, q2⟩ => ⟨q1, by
      rcases q2 with q2 | q2
      · exact q2.2
      · rw [hrb] at q2; exact absurd q2.1 (by decide)⟩)
    clear hbeg
    go_wp2_with (first | (refine wl_load_nfa rfl _ rfl _ rfl _ _ _ _ _ _ _ h1 ?_) | (go_at_call 10; refine hbeg2.mono ?_; rintro e w3 ⟨hB3, rfl⟩))
    go_ret2
    exact ⟨below_then hB1 hB3, .inl ⟨hrb, rfl⟩⟩
  · have hbeg2 : Calls Tryd.prog 10 #[.agg (nfaC s A n c0 B m d0)] W1 fun e w' => Below W1.heap.size W1 w' ∧ ∃ gr, e = .returned (.tuple #[.pointer (some ⟨gr, 0, none⟩), .int .i64 0]) ∧ W1.heap.size ≤ gr ∧ RWalk w.heap.size w' gr R.length E R A n c0 B m d0 (begW E R.length R) := hbeg.mono (fun e w' ⟨q1, q2⟩ => ⟨q1, by
      rcases q2 with q2 | q2
      · rw [hrb] at q2; exact absurd q2.1 (by decide)
      · exact q2.2.2⟩)
    clear hbeg
    go_upto_region 4 with (first | (refine wl_load_nfa rfl _ rfl _ rfl _ _ _ _ _ _ _ h1 ?_) | (go_at_call 10; refine hbeg2.mono ?_; rintro e w3 ⟨hB3, gr, rfl, hgr, hW3⟩))
    replace hB1 := below_then hB1 hB3
    have hgw2 : w.heap.size ≤ gr := by have := h1.lt; omega
    clear hbeg2 hB3 h1 hgr
    obtain ⟨N, hN⟩ : ∃ N, N = R.length := ⟨_, rfl⟩
    rw [← hN] at hW3
    have HN := Lib.hid hN
    clear hN
    go_wp2_with (fail)
    have Hsz := Lib.hid (bytesL_length ln).symm
    go_loopw [8] (fun i wr => ∃ k : Nat, k ≤ ln.size ∧ i = .int .i64 k ∧ RWalk w.heap.size wr gr N E R A n c0 B m d0 (goesW E N R ((bytesL ln).take k) (begW E N R)) ∧ Below w.heap.size w wr) (fun i _ => ln.size - (intOf i).toNat)
    case atStart => exact ⟨0, by omega, rfl, hW3, hB1⟩
    case round =>
      clear hW3 hB1
      obtain ⟨k, hk, rfl, hW3, hB1⟩ := hrel
      by_cases hkl : k < ln.size
      · have hkI : (k : Int) < ln.size := by omega
        have hstep : goesW E N R ((bytesL ln).take (k + 1)) (begW E N R) = byteW E N R (goesW E N R ((bytesL ln).take k) (begW E N R)) (ln[k]).toNat := by
          rw [bytesL_take ln k hkl, goesW_snoc]
        have Hst := Lib.hid hstep
        clear hstep
        go_wp2_with (go_at_call 15; refine (rbyte_any w.heap.size gr N n c0 m d0 E R A B _ (ln[k]).toNat (UInt8.toNat_lt _) wr hW3).mono ?_; rintro e wc ⟨rfl, hWc, hgc⟩)
        have hlb := hW3.lt
        exact ⟨⟨k + 1, by omega, rfl, by rw [Hst.out]; exact hWc, below_grown hB1 hgc hgw2⟩, by simp only [intOf]; omega⟩
      · have hkI : ¬ (k : Int) < ln.size := by omega
        rw [List.take_of_length_le (by rw [← Hsz.out]; omega)] at hW3
        go_wp2_with (go_at_call 23; refine (rend_any w.heap.size gr N n c0 m d0 E R A B _ wr hW3).mono ?_; rintro e wc ⟨rfl, hBc⟩)
        go_ret2
        refine ⟨below_then hB1 hBc, .inr ⟨hrb, ?_⟩⟩
        rw [← HN.out]
        rfl
end Go.Proofs.YtgahdookojbbiaaDoor
