/- least.used and least.met: the classes that some byte has, the states that are met. No condition beyond those named in each lemma. -/
import Derived.Test.YtgahdookojbbiaaLMake
namespace Go.Proofs.Ytgahdookojbbiaa
open Go.RowKit Go.Maps
set_option linter.unusedVariables false
set_option linter.unusedSimpArgs false
attribute [local go_sem] Oper.semAt_some

theorem zero_bools (w : World) : (zeroValue 109).run Try.prog w = .ok (.agg (arr eB 256 fun _ => false)) w := by unfold arr; kernel_rfl
/-- one number appended to a row of the call's own -/
theorem wl_pushZ {w : World} {ops : Array Oper} {rest : List Oper} {o : Oper} {a : Act} {Q : Exit → Act → World → Prop} (hgd : o.guard = none) (s x : Operand) (ho : o.op = .call { callee := .builtin .append, args := #[s, x], argTypes := #[57, 57] })
    (base : Nat) (l : List Int) (z : Int) {A : Option Addr} {n c g : Nat} (hs : a.eval s = .slice A n c) (hx : a.eval x = .slice (some ⟨g, 0, none⟩) 1 1) (hb1 : Blk w g 3 (encZ z)) (hown : Own w base 3 1 encZ (.slice A n c) l) (hn : n = l.length) (hl : l.length ≤ 1099511627776) (hbase : base ≤ w.heap.size)
    (h : ∀ A' c' w', Own w' base 3 1 encZ (.slice A' (n + 1) c') (l ++ [z]) → w.grownBy w' (Value.slice A n c).ownBlock → ((Value.slice A' (n + 1) c').ownBlock = (Value.slice A n c).ownBlock ∨ (Value.slice A' (n + 1) c').ownBlock = some w.heap.size) → wpList Try.prog ops Q rest (a.put o.dst (.slice A' (n + 1) c')) w') : wpList Try.prog ops Q (o :: rest) a w := by
  obtain ⟨ii, hii, hz0, hz1, hz2⟩ := info_parts info_int3
  subst hn
  refine wl_append _ hgd _ _ 57 ho base 3 ii _ 1 8 Try.underlying57 hii hz0 hz1 hz2 rfl (by decide) encZ_size encZ_one (.slice A l.length c) l hs hown _ _ 1 1 [z] hx rfl (slice_one (enc := encZ) hb1) (by unfold maxLen; omega) (by omega) hbase ?_
  intro v' w' ho' hg hv
  obtain ⟨A', c', rfl, _, _⟩ := ho'.shape
  have hl8 : (l ++ [z]).length = l.length + 1 := by simp
  rw [hl8] at ho' hv ⊢
  exact h _ _ _ ho' hg hv
/-- what the flags say -/
def inP (l : List Int) (v : Nat) : Bool := decide ((v : Int) ∈ l)
theorem inP_put (l : List Int) (m : Nat) (z : Int) (h : z = m) : upd (inP l) m true = inP (l ++ [z]) := by
  funext v
  unfold upd inP
  by_cases e : v = m
  · subst e; simp [h]
  · rw [if_neg e]
    have : (v : Int) ≠ z := by omega
    simp [this]
/-- where a state goes, in memory -/
theorem nx_cells {x : TV} (hF : Fits x.T) {w : World} (hT : TabIn w w.heap.size x) {s b : Nat} (hs : s < x.rs.length) (hb : b < 256) : ∃ bN oN bR oR m nr cr : Nat, x.A = some ⟨bN, oN, none⟩ ∧ x.f b = (m : Int) ∧ m < nr ∧ m < 256 ∧ nr ≤ 256 ∧
    (∀ {X : World}, Below w.heap.size w X → X.cell? ⟨bN, oN + s * 1, none⟩ = some (.slice (some ⟨bR, oR, none⟩) nr cr)) ∧ (∀ {X : World}, Below w.heap.size w X → X.cell? ⟨bR, oR + m * 1, none⟩ = some (.int .i64 ((x.T.au.go s b : Nat) : Int))) := by
  obtain ⟨c, hcf, hcm, hcl, hgo⟩ := fits_go hF hs hb
  obtain ⟨bN, oN, hA, hbN, cN⟩ := hT.rowAt hs
  have hrow := hT.row _ (List.getElem_mem hs)
  obtain ⟨bR, oR, hRa, hbR, cR⟩ := slice_cell hrow hcl (v := .int .i64 ((x.T.au.go s b : Nat) : Int)) (by rw [← hgo]; rfl)
  rw [hRa] at cN
  have h2 := hF.m2
  have h3 := fits_row hF hs
  exact ⟨bN, oN, bR, oR, c, _, _, hA, hcf, hcl, by omega, by omega, fun hB => cell_keep cN hbN hB, fun hB => cell_keep cR hbR hB⟩
set_option maxRecDepth 100000 in
set_option maxHeartbeats 4000000 in
theorem used_any (x : TV) (hF : Fits x.T) (w : World) (hT : TabIn w w.heap.size x) :
    Calls Try.prog 49 #[.agg x.C'] w fun e w' => ∃ (A : Option Addr) (c : Nat), e = .returned (.slice A (firsts x.f 256).length c) ∧ Own w' w.heap.size 3 1 encZ (.slice A (firsts x.f 256).length c) (firsts x.f 256) ∧ Below w.heap.size w w' := by
  unfold TV.C'
  have hz := zero_bools
  have hcl := hF.cl
  have hm2 := hF.m2
  go_enter Try.func49, Try.ntmps49
  obtain ⟨A, hA⟩ : ∃ A, A = x.A := ⟨_, rfl⟩
  have h1 := (Blk.new w 47 (dfaC x.f x.A x.rs.length x.c x.B x.fo.length x.d x.C x.en.length x.e)).alloc (.cells (arr eB 256 fun _ => false) 109)
  have hB1 := below_alloc (below_alloc (Below.refl w.heap.size w) (.cells (dfaC x.f x.A x.rs.length x.c x.B x.fo.length x.d x.C x.en.length x.e) 47)) (.cells (arr eB 256 fun _ => false) 109)
  have hi : Blk ((w.alloc (.cells (dfaC x.f x.A x.rs.length x.c x.B x.fo.length x.d x.C x.en.length x.e) 47)).alloc (.cells (arr eB 256 fun _ => false) 109)) (w.heap.size + 1) 109 (arr eB 256 fun _ => false) := Blk.new' _ _ _ (World.size_alloc _ _).symm
  have hrc := dfaC_cls _ _ _ _ _ _ _ _ _ _ (RowAt.of_blk h1)
  go_upto_region 4 with (first | (refine wl_load_cls rfl _ rfl _ rfl _ hrc ?_))
  clear hrc hz
  obtain ⟨w1, hw1⟩ : ∃ y, y = ((w.alloc (.cells (dfaC x.f x.A x.rs.length x.c x.B x.fo.length x.d x.C x.en.length x.e) 47)).alloc (.cells (arr eB 256 fun _ => false) 109)) := ⟨_, rfl⟩
  rw [← hw1] at h1 hB1 hi ⊢
  clear hw1
  obtain ⟨gi, hgi⟩ : ∃ g, g = w.heap.size + 1 := ⟨_, rfl⟩
  rw [← hgi] at hi ⊢
  have hgiw : w.heap.size ≤ gi := by omega
  have hne : w.heap.size ≠ gi := by omega
  clear hgi hA A
  replace hcl := Lib.hid hcl
  clear hm2
  go_loopw [9, 3] (fun jv rv wr => ∃ (j : Nat) (A : Option Addr) (c : Nat), j ≤ 256 ∧ jv = .int .i64 j ∧ rv = .slice A (firsts x.f j).length c ∧ Below w.heap.size w wr ∧ Blk wr w.heap.size 47 (dfaC x.f x.A x.rs.length x.c x.B x.fo.length x.d x.C x.en.length x.e) ∧ Blk wr gi 109 (arr eB 256 (inP (firsts x.f j))) ∧ Own wr w.heap.size 3 1 encZ (.slice A (firsts x.f j).length c) (firsts x.f j)) (fun jv _ _ => 256 - (intOf jv).toNat)
  case atStart => exact ⟨0, none, 0, by omega, rfl, rfl, hB1, h1, hi, Own.nil_ _ _ _ _ _⟩
  case round =>
    clear h1 hB1 hi
    obtain ⟨j, A, c, hj, rfl, rfl, hB1, h1, hi, ho⟩ := hrel
    by_cases hj2 : j < 256
    · have hjI : (j : Int) < 256 := by omega
      have hz1 := (hcl.out j hj2).1
      have hz2 : x.f j < 256 := by have := (hcl.out j hj2).2; have := hF.m2; show x.f j < 256; have e : x.T.cls j = x.f j := rfl; omega
      obtain ⟨m, hm⟩ := Int.eq_ofNat_of_zero_le hz1
      replace hm : x.f j = (m : Int) := hm
      have hm256 : m < 256 := by omega
      have hmI : (m : Int) < 256 := by omega
      have hlen := firsts_length_le x.f j
      have ci : ∀ w, (Instr.index 44 (.agg (clsC x.f)) (.int .i64 (j : Int))).run Try.prog w = .ok (.int .i64 (m : Int)) w := fun w => by rw [← hm]; exact run_index_cls w x.f j hj2
      clear hz1 hz2
      replace hm := Lib.hid hm
      go_upto_region 6 with (fail)
      clear ci
      by_cases hin : x.f j ∈ firsts x.f j
      · have cb : wr.cell? ⟨gi, m, none⟩ = some (.bool true) := by
          rw [blk_arrv hi hm256]
          show some (Value.bool (inP (firsts x.f j) m)) = _
          unfold inP
          rw [← hm.out, decide_eq_true hin]
        have hs : firsts x.f (j + 1) = firsts x.f j := by rw [firsts_succ, if_pos hin]
        replace hs := Lib.hid hs
        clear hin
        go_wp2_with (fail)
        exact ⟨⟨j + 1, A, c, by omega, rfl, by rw [hs.out], hB1, h1, by rw [hs.out]; exact hi, by rw [hs.out]; exact ho⟩, by simp only [intOf]; omega⟩
      · have cb : wr.cell? ⟨gi, m, none⟩ = some (.bool false) := by
          rw [blk_arrv hi hm256]
          show some (Value.bool (inP (firsts x.f j) m)) = _
          unfold inP
          rw [← hm.out, decide_eq_false hin]
        have hs : firsts x.f (j + 1) = firsts x.f j ++ [x.f j] := by rw [firsts_succ, if_neg hin]
        have hput := inP_put (firsts x.f j) m (x.f j) hm.out
        rw [← hs] at hput
        rw [hm.out] at hs
        replace hs := Lib.hid hs
        replace hput := Lib.hid hput
        clear hin
        have hbl : w.heap.size ≤ wr.heap.size := hB1.size
        go_upto_region 8 with (refine wl_store_arr eB true rfl _ _ _ rfl gi m 256 _ _ hi rfl rfl hm256 info_boolS rfl rfl ?_; intro w2 hi2 hG2)
        rw [hput.out] at hi2
        replace ho := own_box ho hi hG2 (by decide)
        replace hB1 := below_grown hB1 hG2 hgiw
        replace h1 := blk_grown h1 hG2 hne
        have hbl2 := hB1.size
        clear hi hG2 cb hbl
        go_upto_region 9 with (first | (refine wl_int1 rfl _ rfl (m : Int) rfl ?_) | (refine wl_pushZ rfl _ _ rfl w.heap.size _ _ rfl rfl (Blk.new _ _ _) (ho.alloc _) rfl (by omega) (by rw [World.size_alloc]; omega) ?_; intro A8 c8 w8 ho8 hg8 hv8))
        rw [← hs.out] at ho8
        replace hi2 := blk_own2 (hi2.alloc _) (ho.alloc _) hg8 (by decide)
        replace h1 := blk_own2 (h1.alloc _) (ho.alloc _) hg8 (by decide)
        replace hB1 := below_own (below_alloc hB1 _) hg8 (fun k e => (ho.lt k e).1)
        have hsl : (firsts x.f j).length + 1 = (firsts x.f (j + 1)).length := by rw [hs.out]; simp
        rw [hsl] at ho8 ⊢
        replace hsl := Lib.hid hsl
        clear hg8 hv8 ho
        go_wp2_with (fail)
        exact ⟨⟨j + 1, A8, c8, by omega, rfl, rfl, hB1, h1, hi2, ho8⟩, by simp only [intOf]; omega⟩
    · have hjI : ¬ (j : Int) < 256 := by omega
      have hje : j = 256 := by omega
      rw [hje] at ho ⊢
      clear hje
      go_wp2_with (fail)
      go_ret
      exact ⟨A, c, rfl, ho, hB1⟩
theorem enter_used (args : Array Value) (w : World) : (callFunc 49 args).run Try.prog w = .ok (.enter 49 args) w := by kernel_rfl
/-- the walk over the states: the first i gone through -/
structure MetI (x : TV) (L : List Nat) (i : Nat) : Prop where
  nd : L.Nodup
  re : ∀ s ∈ L, Reach x.T.au s
  z : 0 ∈ L
  cl : ∀ j (h : j < i) (h2 : j < L.length), ∀ b, b < 256 → x.T.au.go L[j] b ∈ L
def inPn (l : List Nat) (v : Nat) : Bool := decide (v ∈ l)
theorem inPn_put (l : List Nat) (m : Nat) : upd (inPn l) m true = inPn (l ++ [m]) := by
  funext v
  unfold upd inPn
  by_cases e : v = m
  · subst e; simp
  · rw [if_neg e]; simp [e]
section
variable {x : TV} {L : List Nat} {i : Nat}
theorem MetI.len (h : MetI x L i) (o : x.T.au.Ok) : L.length ≤ x.T.au.n := nodup_len h.nd fun s hs => (h.re s hs).lt o
theorem MetI.add (h : MetI x L i) {t : Nat} (ht : ¬ t ∈ L) (hr : Reach x.T.au t) (hi : i ≤ L.length) : MetI x (L ++ [t]) i :=
  ⟨by rw [List.nodup_append]; exact ⟨h.nd, by simp, by rintro a ha b hb rfl; exact ht (by rw [List.mem_singleton.1 hb] at ha; exact ha)⟩, fun s hs => by
    rcases List.mem_append.1 hs with hs | hs
    · exact h.re s hs
    · rw [List.mem_singleton.1 hs]; exact hr, List.mem_append_left _ h.z, fun j hj hj2 b hb => by
    rw [List.getElem_append_left (show j < L.length by omega)]
    exact List.mem_append_left _ (h.cl j hj (by omega) b hb)⟩
theorem MetI.done (h : MetI x L i) (hi : L.length ≤ i) : Sts x.T.au L := ⟨h.nd, fun s => ⟨h.re s, fun hr => by
  induction hr with
  | zero => exact h.z
  | @step s b hs hb ih =>
    obtain ⟨j, hj, rfl⟩ := List.mem_iff_getElem.1 ih
    exact h.cl j (by omega) hj b hb⟩⟩
end
set_option maxRecDepth 100000 in
set_option maxHeartbeats 4000000 in
theorem lmet_any (x : TV) (hF : Fits x.T) (A1 : Option Addr) (c1 : Nat) (w : World) (hT : TabIn w w.heap.size x) (hS : SliceOf w w.heap.size 1 encZ A1 (firsts x.f 256)) :
    Calls Try.prog 50 #[.agg x.C', .slice A1 (firsts x.f 256).length c1] w fun e w' => ∃ (ts : List Nat) (A : Option Addr) (c : Nat), e = .returned (.slice A ts.length c) ∧ Sts x.T.au ts ∧ Own w' w.heap.size 3 1 encZ (.slice A ts.length c) (zs ts) ∧ Below w.heap.size w w' := by
  have n1 : 1 ≤ x.rs.length := by have := hF.n1; rwa [fits_n] at this
  have n2 : x.rs.length ≤ 4096 := by have := hF.n2; rwa [fits_n] at this
  unfold TV.C'
  have hok := hF.ok
  have hAn : x.T.au.n = x.rs.length := fits_n
  have hcl256 := firsts_length_le x.f 256
  have hmem : ∀ z ∈ firsts x.f 256, ∃ b, b < 256 ∧ x.f b = z := fun z hz => (mem_firsts x.f 256 z).1 hz
  have hall : ∀ b, b < 256 → x.f b ∈ firsts x.f 256 := fun b hb => mem_firsts_self x.f hb
  have hpos : 0 < (firsts x.f 256).length := List.length_pos_of_mem (hall 0 (by omega))
  obtain ⟨cl, hcl⟩ : ∃ cl, firsts x.f 256 = cl := ⟨_, rfl⟩
  rw [hcl] at hcl256 hmem hall hS hpos ⊢
  obtain ⟨bC, oC, rfl, hbC, hrC⟩ := hS.at_ hpos
  clear hpos hS
  clear hcl
  replace hmem := Lib.hid hmem
  replace hall := Lib.hid hall
  go_enter Try.func50, Try.ntmps50
  obtain ⟨A, hA⟩ : ∃ A, A = x.A := ⟨_, rfl⟩
  have h1 := (Blk.new w 47 (dfaC x.f x.A x.rs.length x.c x.B x.fo.length x.d x.C x.en.length x.e)).alloc (.cells (encZ 0) 3)
  have hB1 := below_alloc (below_alloc (Below.refl w.heap.size w) (.cells (dfaC x.f x.A x.rs.length x.c x.B x.fo.length x.d x.C x.en.length x.e) 47)) (.cells (encZ 0) 3)
  have ho : Own ((w.alloc (.cells (dfaC x.f x.A x.rs.length x.c x.B x.fo.length x.d x.C x.en.length x.e) 47)).alloc (.cells (encZ 0) 3)) w.heap.size 3 1 encZ (.slice (some ⟨w.heap.size + 1, 0, none⟩) 1 1) (zs [0]) := own_one encZ_size (Blk.new' _ _ _ (World.size_alloc _ _).symm) (by omega)
  go_upto_region 2 with (refine wl_int1 rfl _ rfl 0 rfl ?_)
  obtain ⟨w1, hw1⟩ : ∃ y, y = ((w.alloc (.cells (dfaC x.f x.A x.rs.length x.c x.B x.fo.length x.d x.C x.en.length x.e) 47)).alloc (.cells (encZ 0) 3)) := ⟨_, rfl⟩
  first | rw [← hw1] at h1 hB1 ho ⊢ | (simp only [World.size_alloc]; rw [← hw1] at h1 hB1 ho ⊢)
  clear hw1 hA A
  obtain ⟨g0, hg0⟩ : ∃ g, g = w.heap.size + 1 := ⟨_, rfl⟩
  rw [← hg0] at ho ⊢
  clear hg0
  have c1' : w1.cell? ⟨w.heap.size, 256, none⟩ = some (.slice x.A x.rs.length x.c) := blk_d1 h1
  go_upto_region 3 with (refine wl_makeF rfl _ _ rfl x.rs.length rfl rfl (by omega) ?_; intro w2 hi hB2)
  clear c1'
  obtain ⟨gi, hgi⟩ : ∃ g, g = w1.heap.size := ⟨_, rfl⟩
  rw [← hgi] at hi ⊢
  have hgiw : w.heap.size ≤ gi := by rw [hgi]; exact hB1.size
  have hne : w.heap.size ≠ gi := by have := h1.lt; omega
  replace h1 := blk_then h1 hB2
  replace ho := ho.then_ hB2
  replace hB1 := below_then hB1 hB2
  clear hgi hB2
  have n0 : (0 : Int) < x.rs.length := by omega
  go_upto_region 4 with (refine wl_store_arr eB true rfl _ _ _ rfl gi 0 x.rs.length _ _ hi rfl rfl (by omega) info_boolS rfl rfl ?_; intro w3 hi3 hG3)
  have he0 : upd (fun _ => false) 0 true = inPn [0] := by rw [← List.nil_append [0], ← inPn_put]; rfl
  rw [he0] at hi3
  replace ho := own_box ho hi hG3 (by decide)
  replace hB1 := below_grown hB1 hG3 hgiw
  replace h1 := blk_grown h1 hG3 hne
  clear hi hG3 n0 he0
  have hM : MetI x [0] 0 := ⟨by simp, fun s hs => by rw [List.mem_singleton.1 hs]; exact .zero, by simp, fun j hj => by omega⟩
  go_upto_region 5 with (fail)
  go_loopw [5, 7] (fun rv iv wr => ∃ (L : List Nat) (i : Nat) (A : Option Addr) (c : Nat), i ≤ L.length ∧ iv = .int .i64 i ∧ rv = .slice A L.length c ∧ Below w.heap.size w wr ∧ Blk wr w.heap.size 47 (dfaC x.f x.A x.rs.length x.c x.B x.fo.length x.d x.C x.en.length x.e) ∧ Blk wr gi 4 (arr eB x.rs.length (inPn L)) ∧ Own wr w.heap.size 3 1 encZ (.slice A L.length c) (zs L) ∧ MetI x L i) (fun _ iv _ => x.rs.length + 1 - (intOf iv).toNat)
  case atStart => exact ⟨[0], 0, _, _, by simp, rfl, rfl, hB1, h1, hi3, ho, hM⟩
  case round =>
    clear h1 hB1 hi3 ho hM
    obtain ⟨L, i, A, c, hiL, rfl, rfl, hB1, h1, hi, ho, hM⟩ := hrel
    have hLn := hM.len hok
    rw [hAn] at hLn
    by_cases hiN : i < L.length
    · have hiI : (i : Int) < L.length := by omega
      obtain ⟨s, hs⟩ : ∃ s, L[i] = s := ⟨_, rfl⟩
      have hsR := hM.re s (by rw [← hs]; exact List.getElem_mem _)
      have hsl : s < x.rs.length := by have := hsR.lt hok; rwa [hAn] at this
      have hpre : ∃ r, L = L ++ r := ⟨[], by simp⟩
      obtain ⟨L0, hL0⟩ : ∃ L0, L0 = L := ⟨_, rfl⟩
      have hi0 : i < L0.length := by rw [hL0]; exact hiN
      have hs0 : L0[i] = s := by simp only [hL0]; exact hs
      have hpre0 : ∃ r, L = L0 ++ r := ⟨[], by rw [hL0]; simp⟩
      clear hpre hs hL0
      replace hs0 := Lib.hid hs0
      replace hsR := Lib.hid hsR
      clear hiL
      go_upto_region 8 with (fail)
      go_loopw [5, 26] (fun rv kv wr => ∃ (L : List Nat) (k : Nat) (A : Option Addr) (c : Nat), k ≤ cl.length ∧ kv = .int .i64 k ∧ rv = .slice A L.length c ∧ Below w.heap.size w wr ∧ Blk wr w.heap.size 47 (dfaC x.f x.A x.rs.length x.c x.B x.fo.length x.d x.C x.en.length x.e) ∧ Blk wr gi 4 (arr eB x.rs.length (inPn L)) ∧ Own wr w.heap.size 3 1 encZ (.slice A L.length c) (zs L) ∧ MetI x L i ∧ (∃ r, L = L0 ++ r) ∧ ∀ b, b < 256 → (∃ j, ∃ h : j < cl.length, j < k ∧ cl[j] = x.f b) → x.T.au.go s b ∈ L) (fun _ kv _ => cl.length - (intOf kv).toNat)
      case atStart => exact ⟨L, 0, A, c, by omega, rfl, rfl, hB1, h1, hi, ho, hM, hpre0, fun b hb h => by obtain ⟨j, _, hj, _⟩ := h; omega⟩
      case round =>
        clear h1 hB1 hi ho hM hpre0 hLn hiI hiN
        obtain ⟨L, k, A, c, hk, rfl, rfl, hB1, h1, hi, ho, hM, hpre, hgo⟩ := hrel
        have hLn := hM.len hok
        rw [hAn] at hLn
        have hL0l : L0.length ≤ L.length := by obtain ⟨r, hr⟩ := hpre; rw [hr, List.length_append]; omega
        have hiN : i < L.length := by omega
        have hs : L[i] = s := by
          obtain ⟨r, hr⟩ := hpre
          simp only [hr]
          rw [List.getElem_append_left hi0]
          exact hs0.out
        replace hpre := Lib.hid hpre
        replace hgo := Lib.hid hgo
        by_cases hkl : k < cl.length
        · have hkI : (k : Int) < cl.length := by omega
          obtain ⟨b, hb, hfb⟩ := hmem.out cl[k] (List.getElem_mem hkl)
          obtain ⟨bN, oN, bR, oR, m, nr, cr, hA, hfm, hmr, hm256, hnr, cN, cR⟩ := nx_cells hF hT hsl hb
          have cC2 : wr.cell? ⟨bC, oC + k, none⟩ = some (.int .i64 (m : Int)) := by
            have h9 := cell_keep (hrC k hkl 0 _ rfl) hbC hB1
            rw [← hfb, hfm] at h9
            rw [show oC + k * 1 + 0 = oC + k by omega] at h9
            exact h9
          obtain ⟨t, ht⟩ : ∃ t, x.T.au.go s b = t := ⟨_, rfl⟩
          have htl : t < x.rs.length := by rw [← ht, ← hAn]; exact hok.lt s b (by rw [hAn]; exact hsl) hb
          rw [ht] at cR
          have hcs : ∀ {X : World}, Below wr.heap.size wr X → ∃ gl, A = some ⟨gl, 0, none⟩ ∧ X.cell? ⟨gl, 0 + i * 1, none⟩ = some (.int .i64 (s : Nat)) := fun hB => by
            obtain ⟨gl, cap, hv, _⟩ := ho.form (by rw [zs_len]; omega)
            have hA2 : A = some ⟨gl, 0, none⟩ := by injection hv
            have h3 := ho.then_ hB
            rw [hA2] at h3
            have h4 := h3.row encZ_size i (by rw [zs_len]; exact hiN) 0 _ rfl
            have h5 : (zs L)[i]'(by rw [zs_len]; exact hiN) = (s : Int) := by simp [zs, hs]
            rw [h5] at h4
            exact ⟨gl, hA2, by rw [show 0 + i * 1 = i * 1 + 0 by omega]; exact h4⟩
          obtain ⟨gl, hgl, _⟩ := hcs (Below.refl _ _)
          replace hcs : ∀ {X : World}, Below wr.heap.size wr X → X.cell? ⟨gl, 0 + i * 1, none⟩ = some (.int .i64 (s : Nat)) := fun hB => by
            obtain ⟨g2, h2, h3⟩ := hcs hB
            rw [hgl] at h2
            injection h2 with h2
            injection h2 with h2
            rw [h2]; exact h3
          have hre : Reach x.T.au t := by rw [← ht]; exact .step hsR.out hb
          have hgo2 : ∀ L' : List Nat, (∀ u ∈ L, u ∈ L') → t ∈ L' → ∀ b', b' < 256 → (∃ j, ∃ h : j < cl.length, j < k + 1 ∧ cl[j] = x.f b') → x.T.au.go s b' ∈ L' := by
            rintro L' hsub htL b' hb' ⟨j, hjl, hjk, hje⟩
            by_cases e : j = k
            · subst e
              have : x.T.au.go s b' = x.T.au.go s b := by show (x.T.nxt s (x.f b')).toNat = (x.T.nxt s (x.f b)).toNat; rw [← hje, ← hfb]
              rw [this, ht]; exact htL
            · exact hsub _ (hgo.out b' hb' ⟨j, hjl, by omega, hje⟩)
          replace hgo2 := Lib.hid hgo2
          clear hs hgo hfb hfm ht hm256 hnr
          go_upto_region 10 with (fail)
          clear cC2
          rw [hgl]
          replace hgl := Lib.hid hgl
          have htI : (t : Int) < x.rs.length := by omega
          refine wp_region_steps 12 [eqS (.pointer (some ⟨w.heap.size, 256, none⟩)), eqS (.slice (some ⟨bN, oN, none⟩) x.rs.length x.c), eqS (.slice (some ⟨gl, 0, none⟩) L.length c), eqS (.int .i64 (((i : Nat) : Int))), eqS (.pointer (some ⟨gl, 0 + i * 1, none⟩)), eqS (.int .i64 (((s : Nat) : Int))), eqS (.pointer (some ⟨bN, oN + s * 1, none⟩)), eqS (.slice (some ⟨bR, oR, none⟩) nr cr), eqS (.int .i64 (((m : Nat) : Int))), eqS (.pointer (some ⟨bR, oR + m * 1, none⟩)), eqS (.int .i64 (((t : Nat) : Int))), eqS (.int .i64 (((t : Nat) : Int)))] [30, 31, 32, 33, 34, 35, 36, 37, 38, 39, 40, 10] rfl (by kernel_rfl) rfl ?_ ?_
          · skip
            refine Steps.cons (fun a' w' hG hB dep => gs_field (want_none rfl) _ _ _ rfl w.heap.size (0) (256) (hG.other 2 rfl) (fun wz => field_dfa_1 w.heap.size (0) wz) rfl) ?_
            refine Steps.cons (fun a' w' hG hB dep => gs_load1 (want_none rfl) _ _ rfl w.heap.size (256) (dep 0 rfl 30 rfl) (.slice (some ⟨bN, oN, none⟩) x.rs.length x.c) (by have h9 := blk_d1 (blk_then h1 hB); rw [hA] at h9; exact h9) _ Try.underlying45 rfl rfl) ?_
            refine Steps.cons (fun a' w' hG hB dep => gs_move (want_none rfl) _ rfl (id (hG.other 5 rfl))) ?_
            refine Steps.cons (fun a' w' hG hB dep => gs_move (want_none rfl) _ rfl (id (hG.other 7 rfl))) ?_
            refine Steps.cons (fun a' w' hG hB dep => gs_index (want_none rfl) _ _ _ rfl under_ints 1 size_intE gl 0 L.length c (i) (dep 2 rfl 32 rfl) (dep 3 rfl 33 rfl) hiN rfl) ?_
            refine Steps.cons (fun a' w' hG hB dep => gs_load1 (want_none rfl) _ _ rfl gl (0 + i * 1) (dep 4 rfl 34 rfl) (.int .i64 (((s : Nat) : Int))) (hcs hB) _ Try.underlying3 rfl rfl) ?_
            refine Steps.cons (fun a' w' hG hB dep => gs_index (want_none rfl) _ _ _ rfl under_rows 1 size_rowE bN oN x.rs.length x.c (s) (dep 1 rfl 31 rfl) (dep 5 rfl 35 rfl) hsl rfl) ?_
            refine Steps.cons (fun a' w' hG hB dep => gs_load1 (want_none rfl) _ _ rfl bN (oN + s * 1) (dep 6 rfl 36 rfl) (.slice (some ⟨bR, oR, none⟩) nr cr) (cN (below_then hB1 hB)) _ Try.underlying57 rfl rfl) ?_
            refine Steps.cons (fun a' w' hG hB dep => gs_move (want_none rfl) _ rfl (id (hG.other 9 rfl))) ?_
            refine Steps.cons (fun a' w' hG hB dep => gs_index (want_none rfl) _ _ _ rfl under_ints 1 size_intE bR oR nr cr (m) (dep 7 rfl 37 rfl) (dep 8 rfl 38 rfl) hmr rfl) ?_
            refine Steps.cons (fun a' w' hG hB dep => gs_load1 (want_none rfl) _ _ rfl bR (oR + m * 1) (dep 9 rfl 39 rfl) (.int .i64 (((t : Nat) : Int))) (cR (below_then hB1 hB)) _ Try.underlying3 rfl rfl) ?_
            refine Steps.cons (fun a' w' hG hB dep => gs_assign (want_none rfl) _ rfl (id (dep 10 rfl 40 rfl))) ?_
            exact Steps.nil
          intro u w4 hw4 ans
          have hus40 : u 40 = (.int .i64 ((t : Nat) : Int)) := ans 10 40 (by decide) rfl
          have hus10 : u 10 = (.int .i64 ((t : Nat) : Int)) := ans 11 10 (by decide) rfl
          clear ans
          simp only [putAll, List.foldl_cons, List.foldl_nil, Act.put, List.setIfInBounds_toArray, List.set_cons_zero, List.set_cons_succ, hus40, hus10]
          clear hus40 hus10
          simp only [List.drop]
          refine wpList_nil ?_
          rw [← hgl.out]
          replace h1 := blk_then h1 hw4
          replace hi := blk_then hi hw4
          replace ho := ho.then_ hw4
          replace hB1 := below_then hB1 hw4
          clear hw4 hcs cN cR hgl hA
          by_cases hin : t ∈ L
          · have cb : w4.cell? ⟨gi, t, none⟩ = some (.bool true) := by
              rw [blk_arrv hi htl]
              show some (Value.bool (inPn L t)) = _
              unfold inPn
              rw [decide_eq_true hin]
            have hg := Lib.hid (hgo2.out L (fun _ h => h) hin)
            clear hin hgo2
            go_wp2_with (fail)
            exact ⟨⟨L, k + 1, A, c, by omega, rfl, rfl, hB1, h1, hi, ho, hM, hpre.out, hg.out⟩, by simp only [intOf]; omega⟩
          · have cb : w4.cell? ⟨gi, t, none⟩ = some (.bool false) := by
              rw [blk_arrv hi htl]
              show some (Value.bool (inPn L t)) = _
              unfold inPn
              rw [decide_eq_false hin]
            have hg := Lib.hid (hgo2.out (L ++ [t]) (fun _ h => List.mem_append_left _ h) (by simp))
            have hM2 := Lib.hid (hM.add hin hre (by omega))
            have hpre2 : ∃ r, L ++ [t] = L0 ++ r := by
              obtain ⟨r, hr⟩ := hpre.out
              exact ⟨r ++ [t], by rw [hr, List.append_assoc]⟩
            replace hpre2 := Lib.hid hpre2
            have hll : (L ++ [t]).length = L.length + 1 := by simp
            replace hll := Lib.hid hll
            clear hin hgo2 hM hpre
            have hbl : w.heap.size ≤ w4.heap.size := hB1.size
            go_upto_region 13 with (refine wl_store_arr eB true rfl _ _ _ rfl gi t x.rs.length _ _ hi rfl rfl htl info_boolS rfl rfl ?_; intro w5 hi2 hG2)
            rw [inPn_put] at hi2
            replace ho := own_box ho hi hG2 (by decide)
            replace hB1 := below_grown hB1 hG2 hgiw
            replace h1 := blk_grown h1 hG2 hne
            have hbl2 := hB1.size
            clear hi hG2 cb hbl
            go_upto_region 14 with (first | (refine wl_int1 rfl _ rfl (t : Int) rfl ?_) | (refine wl_pushZ rfl _ _ rfl w.heap.size _ _ rfl rfl (Blk.new _ _ _) (ho.alloc _) (zs_len L).symm (by rw [zs_len]; omega) (by rw [World.size_alloc]; omega) ?_; intro A8 c8 w8 ho8 hg8 hv8))
            rw [← zs_add] at ho8
            replace hi2 := blk_own2 (hi2.alloc _) (ho.alloc _) hg8 (by decide)
            replace h1 := blk_own2 (h1.alloc _) (ho.alloc _) hg8 (by decide)
            replace hB1 := below_own (below_alloc hB1 _) hg8 (fun k e => (ho.lt k e).1)
            rw [← hll.out] at ho8 ⊢
            clear hg8 hv8 ho
            go_wp2_with (fail)
            exact ⟨⟨L ++ [t], k + 1, A8, c8, by omega, rfl, rfl, hB1, h1, hi2, ho8, hM2.out, hpre2.out, hg.out⟩, by simp only [intOf]; omega⟩
        · have hkI : ¬ (k : Int) < cl.length := by omega
          have hM2 : MetI x L (i + 1) := ⟨hM.nd, hM.re, hM.z, fun j hj hj2 b hb => by
            by_cases e : j = i
            · subst e
              rw [hs]
              obtain ⟨q, hq, he⟩ := List.mem_iff_getElem.1 (hall.out b hb)
              exact hgo.out b hb ⟨q, hq, by omega, he⟩
            · exact hM.cl j (by omega) hj2 b hb⟩
          replace hM2 := Lib.hid hM2
          clear hM hgo hs hpre hk hkl
          go_wp2_with (fail)
          exact ⟨⟨L, i + 1, A, c, by omega, rfl, rfl, hB1, h1, hi, ho, hM2.out⟩, by simp only [intOf]; omega⟩
    · have hiI : ¬ (i : Int) < L.length := by omega
      have hSt := Lib.hid (hM.done (by omega))
      clear hM
      go_wp2_with (fail)
      go_ret
      exact ⟨L, A, c, rfl, hSt.out, ho, hB1⟩
theorem enter_lmet (args : Array Value) (w : World) : (callFunc 50 args).run Try.prog w = .ok (.enter 50 args) w := by kernel_rfl
end Go.Proofs.Ytgahdookojbbiaa
