/- heronref11.Shortest: how many bytes a shortest line has that tells two tables apart. No condition beyond those named in each lemma. -/
import Derived.Test.YtgahdookojbbiaaShort
import Derived.Test.YtgahdookojbbiaaLLeast
import Derived.Test.YtgahdookojbbiaaLFix0
import Derived.Test.YtgahdookojbbiaaLGoes
import Derived.Test.YtgahdookojbbiaaLSm
namespace Go.Proofs.Ytgahdookojbbiaa
open Go.RowKit Go.Maps
set_option linter.unusedVariables false
set_option linter.unusedSimpArgs false
attribute [local go_sem] Oper.semAt_some

/-- a pair's cells -/
def encQ (p : P2) : Array Value := #[.int .i64 (p.a : Int), .int .i64 (p.b : Int)]
theorem encQ_size (p : P2) : (encQ p).size = 2 := rfl
theorem encQ_one (p : P2) : (encQ p).all (·.oneCell') = true := by simp [encQ, Value.oneCell']
theorem field_pr2_0 (b off : Nat) (w : World) : (Instr.fieldAt 101 (.pointer (some ⟨b, off, none⟩)) 0).run Try.prog w = .ok (.pointer (some ⟨b, off, none⟩)) w := by kernel_rfl
theorem field_pr2_1 (b off : Nat) (w : World) : (Instr.fieldAt 101 (.pointer (some ⟨b, off, none⟩)) 1).run Try.prog w = .ok (.pointer (some ⟨b, off + 1, none⟩)) w := by kernel_rfl
theorem info_prS : (Try.prog.info? 101).map (·.size) = some 2 := by kernel_rfl
theorem info_pr3 : (Try.prog.info? 101).map (fun i => (i.zero, i.size, i.bytes)) = some (some (.agg #[.int .i64 0, .int .i64 0]), 2, 16) := by kernel_rfl
theorem zero_pr (w : World) : (zeroValue 101).run Try.prog w = .ok (.agg (encQ ⟨0, 0⟩)) w := by kernel_rfl
theorem run_bpr (p : P2) (w : World) : (Instr.build 101 #[(0, .int .i64 (p.a : Int)), (1, .int .i64 (p.b : Int))]).run Try.prog w = .ok (.agg (encQ p)) w := by kernel_rfl
theorem run_bpr0 (w : World) : (Instr.build 101 #[(0, .int .i64 0), (1, .int .i64 0)]).run Try.prog w = .ok (.agg (encQ ⟨0, 0⟩)) w := by kernel_rfl
theorem run_bsq (p : P2) (w : World) : (Instr.buildSlice 102 1 #[(0, .agg (encQ p))]).run Try.prog w = .ok (.slice (some ⟨w.heap.size, 0, none⟩) 1 1) (w.alloc (.cells (encQ p) 101)) := by kernel_rfl
theorem alloc_pr (w : World) : (Instr.alloc 101 true (.tuple #[])).run Try.prog w = .ok (.pointer (some ⟨w.heap.size, 0, none⟩)) (w.alloc (.cells (encQ ⟨0, 0⟩) 101)) := by kernel_rfl
section
variable {ops : Array Oper} {rest : List Oper} {o : Oper} {a : Act} {w : World} {Q : Exit → Act → World → Prop} {S : Nat → GSpec} {i : Nat}
theorem wl_bpr0 (hgd : o.guard = none) (ho : o.op = .build 101 #[(0, .const (.int .i64 0)), (1, .const (.int .i64 0))]) (h : wpList Try.prog ops Q rest (a.put o.dst (.agg (encQ ⟨0, 0⟩))) w) : wpList Try.prog ops Q (o :: rest) a w :=
  wpList_plain hgd fun _ hK => by
    have e : (#[(0, Operand.const (Value.int .i64 0)), (1, Operand.const (Value.int .i64 0))].map fun p : Nat × Operand => (p.1, a.eval p.2)) = #[(0, Value.int .i64 0), (1, Value.int .i64 0)] := by simp; rfl
    unfold Oper.wp execOp
    simp only [ho, e, Sem.run_bind, run_bpr0, Result.andThen_ok, Sem.run_pure]
    exact hK _ _ h
theorem wl_bsq (hgd : o.guard = none) (x : Operand) (ho : o.op = .buildSlice 102 1 #[(0, x)]) (p : P2) (hx : a.eval x = .agg (encQ p))
    (h : wpList Try.prog ops Q rest (a.put o.dst (.slice (some ⟨w.heap.size, 0, none⟩) 1 1)) (w.alloc (.cells (encQ p) 101))) : wpList Try.prog ops Q (o :: rest) a w :=
  wpList_plain hgd fun _ hK => by
    unfold Oper.wp execOp
    simp only [ho, List.map_toArray, List.map_cons, List.map_nil, hx, Sem.run_bind, run_bsq, Result.andThen_ok, Sem.run_pure]
    exact hK _ _ h
theorem wl_pushQ (hgd : o.guard = none) (s x : Operand) (ho : o.op = .call { callee := .builtin .append, args := #[s, x], argTypes := #[102, 102] })
    (base : Nat) (l : List P2) (p : P2) {A : Option Addr} {n c g : Nat} (hs : a.eval s = .slice A n c) (hx : a.eval x = .slice (some ⟨g, 0, none⟩) 1 1) (hb1 : Blk w g 101 (encQ p)) (hown : Own w base 101 2 encQ (.slice A n c) l) (hn : n = l.length) (hl : l.length ≤ 1099511627776) (hbase : base ≤ w.heap.size)
    (h : ∀ A' c' w', Own w' base 101 2 encQ (.slice A' (n + 1) c') (l ++ [p]) → w.grownBy w' (Value.slice A n c).ownBlock → ((Value.slice A' (n + 1) c').ownBlock = (Value.slice A n c).ownBlock ∨ (Value.slice A' (n + 1) c').ownBlock = some w.heap.size) → wpList Try.prog ops Q rest (a.put o.dst (.slice A' (n + 1) c')) w') : wpList Try.prog ops Q (o :: rest) a w := by
  obtain ⟨ii, hii, hz0, hz1, hz2⟩ := info_parts info_pr3
  subst hn
  refine wl_append _ hgd _ _ 102 ho base 101 ii _ 2 16 Try.underlying102 hii hz0 hz1 hz2 rfl (by decide) encQ_size encQ_one (.slice A l.length c) l hs hown _ _ 1 1 [p] hx rfl (slice_one (enc := encQ) hb1) (by unfold maxLen; omega) (by omega) hbase ?_
  intro v' w' ho' hg hv
  obtain ⟨A', c', rfl, _, _⟩ := ho'.shape
  have hl8 : (l ++ [p]).length = l.length + 1 := by simp
  rw [hl8] at ho' hv ⊢
  exact h _ _ _ ho' hg hv
theorem wl_load_pr (hgd : o.guard = none) (x : Operand) (ho : o.op = .load 101 x) (b off : Nat) (hx : a.eval x = .pointer (some ⟨b, off, none⟩)) (p : P2) (hr : RowAt w b off (encQ p))
    (h : wpList Try.prog ops Q rest (a.put o.dst (.agg (encQ p))) w) : wpList Try.prog ops Q (o :: rest) a w :=
  wpList_load_at hgd _ x ho b off hx _ _ hr Try.underlying101 rfl (info_prS.trans rfl) h
theorem wl_store_pr (hgd : o.guard = none) (x y : Operand) (ho : o.op = .store 101 x y)
    (g : Nat) (new : P2) (hx : a.eval x = .pointer (some ⟨g, 0, none⟩)) (hy : a.eval y = .agg (encQ new)) (old : P2) (hb : Blk w g 101 (encQ old))
    (h : ∀ w', Blk w' g 101 (encQ new) → w.grownBy w' (some g) → wpList Try.prog ops Q rest (a.put o.dst undef) w') : wpList Try.prog ops Q (o :: rest) a w :=
  wpList_store_row hgd _ x y ho g _ hx hy _ _ hb (info_prS.trans rfl) rfl (encQ_one new) (h _ (hb.setRow_same _) (only_setRow (only_refl _ _) _))
theorem gs_bpr (hw : Region.wanted o (yielded ops a.tmps) = true) (x0 x1 : Operand) (ho : o.op = .build 101 #[(0, x0), (1, x1)]) (p : P2) (h0 : a.eval x0 = .int .i64 (p.a : Int)) (h1 : a.eval x1 = .int .i64 (p.b : Int))
    (hp : (S i).p (.agg (encQ p)) w) : GStep Try.prog ops S Q i o a w :=
  gs_run hw (v := .agg (encQ p)) (by unfold execOp; simp only [ho, List.map_toArray, List.map_cons, List.map_nil, h0, h1, Sem.run_bind, run_bpr, Result.andThen_ok, Sem.run_pure]) (Below.refl _ _) hp
theorem gs_alloc_pr (hw : Region.wanted o (yielded ops a.tmps) = true) (ho : o.op = .alloc 101) (b0 : Nat) (hb : b0 ≤ w.heap.size) (hp : ∀ v w', (newS b0 101 (encQ ⟨0, 0⟩)).p v w' → (S i).p v w') : GStep Try.prog ops S Q i o a w :=
  gs_run hw (v := .pointer (some ⟨w.heap.size, 0, none⟩)) (by unfold execOp; simp only [ho, alloc_pr, Sem.run_bind, Result.andThen_ok, Sem.run_pure]) (below_alloc (Below.refl _ _) _) (hp _ _ ⟨_, rfl, hb, Blk.new _ _ _⟩)
end
def ShortAns (A B : Au) (r : Int) : Prop := (r = -1 ∧ ∀ u, ¬ Tells A B u) ∨ ∃ n : Nat, r = n ∧ n ≤ 1600 ∧ (∃ u, Tells A B u ∧ u.length = n) ∧ ∀ u, Tells A B u → n ≤ u.length
theorem blk_arr_eqB {w : World} {g n i : Nat} {K : Nat → Bool} {z : Bool} {t : TypeId} (h : Blk w g t (arr eB n K)) (hi : i < n) (e : K i = z) : w.cell? ⟨g, 0 + i * 1, none⟩ = some (.bool z) := by
  rw [blk_arr h hi, e]; rfl
set_option maxRecDepth 100000 in
set_option maxHeartbeats 4000000 in
theorem short_any (x y : TV) (hFx : Fits x.T) (hFy : Fits y.T) (hx40 : x.rs.length ≤ 40) (hy40 : y.rs.length ≤ 40) (w : World) (hX : TabIn w w.heap.size x) (hY : TabIn w w.heap.size y) :
    Calls Try.prog 33 #[.agg x.C', .agg y.C'] w fun e w' => Below w.heap.size w w' ∧ ∃ r : Int, e = .returned (.int .i64 r) ∧ ShortAns x.T.au y.T.au r := by
  have hz0 := zero_dfa
  have n1 : 1 ≤ x.rs.length := by have := hFx.n1; rwa [fits_n] at this
  have m1 : 1 ≤ y.rs.length := by have := hFy.n1; rwa [fits_n] at this
  have heX : x.en.length = x.rs.length := by have := hFx.ne; rwa [fits_n] at this
  have heY : y.en.length = y.rs.length := by have := hFy.ne; rwa [fits_n] at this
  have hoX := hFx.ok
  have hoY := hFy.ok
  have hAn : x.T.au.n = x.rs.length := fits_n
  have hBn : y.T.au.n = y.rs.length := fits_n
  obtain ⟨bE, oE, hEx, cex⟩ := en_cells hX (by omega)
  obtain ⟨bD, oD, hEy, cey⟩ := en_cells hY (by omega)
  have hgx : ∀ s b W, s < x.rs.length → b < 256 → Below w.heap.size w W → Calls Try.prog 48 #[.agg x.C', .int .i64 (s : Nat), .int .i64 (b : Nat)] W fun e w' => e = .returned (.int .i64 ((x.T.au.go s b : Nat) : Int)) ∧ Below W.heap.size W w' := fun s b W h1 h2 hB => goes_any x hFx s b h1 h2 W (hX.then_ hB)
  have hgy : ∀ s b W, s < y.rs.length → b < 256 → Below w.heap.size w W → Calls Try.prog 48 #[.agg y.C', .int .i64 (s : Nat), .int .i64 (b : Nat)] W fun e w' => e = .returned (.int .i64 ((y.T.au.go s b : Nat) : Int)) ∧ Below W.heap.size W w' := fun s b W h1 h2 hB => goes_any y hFy s b h1 h2 W (hY.then_ hB)
  obtain ⟨N, hN⟩ : ∃ N, N = x.rs.length * y.rs.length := ⟨_, rfl⟩
  have hN16 : N ≤ 1600 := by rw [hN]; exact Nat.mul_le_mul hx40 hy40
  have hN0 : 0 < N := by rw [hN]; exact Nat.mul_pos n1 m1
  have hNI : ((x.rs.length : Int) * (y.rs.length : Int)) = (N : Int) := by rw [hN]; simp
  have hm0 : 0 ≤ (x.rs.length : Int) * (y.rs.length : Int) := by omega
  have hm1 : (x.rs.length : Int) * (y.rs.length : Int) ≤ 1600 := by omega
  replace hNI := Lib.hid hNI
  replace hN := Lib.hid hN
  replace hEx := Lib.hid hEx
  replace hEy := Lib.hid hEy
  replace heX := Lib.hid heX
  replace heY := Lib.hid heY
  replace hAn := Lib.hid hAn
  replace hBn := Lib.hid hBn
  unfold TV.C' at hgx hgy ⊢
  go_enter Try.func33, Try.ntmps33
  have h2 := (Blk.new w 47 (dfaC x.f x.A x.rs.length x.c x.B x.fo.length x.d x.C x.en.length x.e)).alloc (.cells (dfaC y.f y.A y.rs.length y.c y.B y.fo.length y.d y.C y.en.length y.e) 47)
  have h3 : Blk ((w.alloc (.cells (dfaC x.f x.A x.rs.length x.c x.B x.fo.length x.d x.C x.en.length x.e) 47)).alloc (.cells (dfaC y.f y.A y.rs.length y.c y.B y.fo.length y.d y.C y.en.length y.e) 47)) (w.heap.size + 1) 47 (dfaC y.f y.A y.rs.length y.c y.B y.fo.length y.d y.C y.en.length y.e) := Blk.new' _ _ _ (World.size_alloc _ _).symm
  have hB1 := below_alloc (below_alloc (Below.refl w.heap.size w) (.cells (dfaC x.f x.A x.rs.length x.c x.B x.fo.length x.d x.C x.en.length x.e) 47)) (.cells (dfaC y.f y.A y.rs.length y.c y.B y.fo.length y.d y.C y.en.length y.e) 47)
  go_upto_region 1 with (fail)
  obtain ⟨w1, hw1⟩ : ∃ ww, ww = ((w.alloc (.cells (dfaC x.f x.A x.rs.length x.c x.B x.fo.length x.d x.C x.en.length x.e) 47)).alloc (.cells (dfaC y.f y.A y.rs.length y.c y.B y.fo.length y.d y.C y.en.length y.e) 47)) := ⟨_, rfl⟩
  first | rw [← hw1] at h2 h3 hB1 ⊢ | (simp only [World.size_alloc]; rw [← hw1] at h2 h3 hB1 ⊢)
  clear hw1
  obtain ⟨g2, hg2⟩ : ∃ g, g = w.heap.size := ⟨_, rfl⟩
  obtain ⟨g3, hg3⟩ : ∃ g, g = w.heap.size + 1 := ⟨_, rfl⟩
  try rw [← hg3] at h3 ⊢
  try rw [← hg2] at h2 ⊢
  have hg2w : w.heap.size ≤ g2 := by omega
  have hg3w : w.heap.size ≤ g3 := by omega
  clear hg2 hg3
  have cX : w1.cell? ⟨g2, 256, none⟩ = some (.slice x.A x.rs.length x.c) := blk_d1 h2
  have cY : w1.cell? ⟨g3, 256, none⟩ = some (.slice y.A y.rs.length y.c) := blk_d1 h3
  go_upto_region 2 with (refine wl_makeF rfl _ _ rfl N (by rw [← hNI.out]; rfl) (by rw [← hNI.out]; rfl) (by omega) ?_; intro w3 hs hB3)
  clear cX cY
  obtain ⟨gs, hgs⟩ : ∃ g, g = w1.heap.size := ⟨_, rfl⟩
  rw [← hgs] at hs ⊢
  have s2 : g2 ≠ gs := by have := h2.lt; omega
  have s3 : g3 ≠ gs := by have := h3.lt; omega
  have hgsw : w.heap.size ≤ gs := by rw [hgs]; exact hB1.size
  replace h2 := blk_then h2 hB3
  replace h3 := blk_then h3 hB3
  replace hB1 := below_then hB1 hB3
  clear hB3 hgs
  have hpr : Own (w3.alloc (.cells (encQ ⟨0, 0⟩) 101)) w3.heap.size 101 2 encQ (.slice (some ⟨w3.heap.size, 0, none⟩) 1 1) [⟨0, 0⟩] := own_one encQ_size (Blk.new _ _ _) (Nat.le_refl _)
  go_upto_region 3 with (first | (refine wl_bpr0 rfl rfl ?_) | (refine wl_bsq rfl _ rfl ⟨0, 0⟩ rfl ?_))
  obtain ⟨bq, hbq⟩ : ∃ g, g = w3.heap.size := ⟨_, rfl⟩
  have l2 : g2 < bq := by rw [hbq]; exact h2.lt
  have l3 : g3 < bq := by rw [hbq]; exact h3.lt
  have ls : gs < bq := by rw [hbq]; exact hs.lt
  have hbw : w.heap.size ≤ bq := by omega
  rw [← hbq] at hpr ⊢
  replace h2 := h2.alloc (.cells (encQ ⟨0, 0⟩) 101)
  replace h3 := h3.alloc (.cells (encQ ⟨0, 0⟩) 101)
  replace hs := hs.alloc (.cells (encQ ⟨0, 0⟩) 101)
  replace hB1 := below_alloc hB1 (.cells (encQ ⟨0, 0⟩) 101)
  obtain ⟨w4, hw4⟩ : ∃ ww, ww = w3.alloc (.cells (encQ ⟨0, 0⟩) 101) := ⟨_, rfl⟩
  rw [← hw4] at h2 h3 hs hB1 hpr ⊢
  clear hw4 hbq
  go_upto_region 4 with (refine wl_store_arr eB true rfl _ _ _ rfl gs 0 N _ _ hs rfl rfl hN0 info_boolS rfl rfl ?_; intro w5 hs5 hG5)
  replace h2 := blk_grown h2 hG5 s2
  replace h3 := blk_grown h3 hG5 s3
  replace hpr := own_low hpr hG5 ls
  replace hB1 := below_grown hB1 hG5 hgsw
  have hbqr : bq ≤ w5.heap.size := by have := hG5.size; have := (hpr.lt bq rfl).2; omega
  clear hG5 hs
  have hQ : BF x.T.au y.T.au (upd (fun _ => false) 0 true) [⟨0, 0⟩] [] 0 0 0 := BF.start hoX hoY
  have hNN : x.T.au.n * y.T.au.n = N := by rw [hAn.out, hBn.out, hN.out]
  have hc00 : cntF (upd (fun _ => false) 0 true) N ≤ N := cntF_le _ _
  replace hNN := Lib.hid hNN
  clear hc00
  go_wp2_with (fail)
  go_loopw [7, 6] (fun nv lv wr => ∃ (n : Nat) (now : List P2) (A1 : Option Addr) (c1 : Nat) (K : Nat → Bool), nv = .int .i64 n ∧ lv = .slice A1 now.length c1 ∧ Below w.heap.size w wr ∧ Blk wr g2 47 (dfaC x.f x.A x.rs.length x.c x.B x.fo.length x.d x.C x.en.length x.e) ∧ Blk wr g3 47 (dfaC y.f y.A y.rs.length y.c y.B y.fo.length y.d y.C y.en.length y.e) ∧ Blk wr gs 4 (arr eB N K) ∧ Own wr bq 101 2 encQ (.slice A1 now.length c1) now ∧ bq ≤ wr.heap.size ∧ BF x.T.au y.T.au K now [] 0 0 n) (fun nv _ _ => N + 1 - (intOf nv).toNat)
  case atStart => exact ⟨0, [⟨0, 0⟩], _, 1, _, rfl, rfl, hB1, h2, h3, hs5, hpr, hbqr, hQ⟩
  case round =>
    clear hB1 h2 h3 hs5 hpr hbqr hQ
    obtain ⟨n, now, A1, c1, K, rfl, rfl, hB1, h2, h3, hs, ho1, hbqr, hQ⟩ := hrel
    have hcnt := hQ.cnt
    rw [hNN.out] at hcnt
    have hcl := cntF_le K N
    have hnl : n + now.length ≤ N := by simp only [List.length_nil] at hcnt; omega
    clear hcnt hcl
    by_cases hnow : 0 < now.length
    · have hnI : (0 : Int) < now.length := by omega
      replace hQ := Lib.hid hQ
      obtain ⟨gl, cap, hvf, hglb, hgll, _, _⟩ := ho1.form hnow
      injection hvf with e1 _ e3
      subst e1 e3
      clear hgll
      have hzp := zero_pr
      go_upto_region 8 with (fail)
      go_wp2_with (fail)
      go_loopw [9, 8] (fun iv xv wr => ∃ (i : Nat) (next : List P2) (A2 : Option Addr) (c2 : Nat) (K : Nat → Bool), i ≤ now.length ∧ iv = .int .i64 i ∧ xv = .slice A2 next.length c2 ∧ Below w.heap.size w wr ∧ Blk wr g2 47 (dfaC x.f x.A x.rs.length x.c x.B x.fo.length x.d x.C x.en.length x.e) ∧ Blk wr g3 47 (dfaC y.f y.A y.rs.length y.c y.B y.fo.length y.d y.C y.en.length y.e) ∧ Blk wr gs 4 (arr eB N K) ∧ Own wr bq 101 2 encQ (.slice (some ⟨gl, 0, none⟩) now.length c1) now ∧ Own wr bq 101 2 encQ (.slice A2 next.length c2) next ∧ (∀ b, A2 = some b → b.block ≠ gl) ∧ bq ≤ wr.heap.size ∧ BF x.T.au y.T.au K now next i 0 n) (fun iv _ _ => now.length - (intOf iv).toNat)
      case atStart => exact ⟨0, [], none, 0, K, by omega, rfl, rfl, hB1, h2, h3, hs, ho1, Own.nil_ _ _ _ _ _, fun b hb => (by cases hb), hbqr, hQ.out⟩
      case round =>
        clear hB1 h2 h3 hs ho1 hbqr hQ
        obtain ⟨i, next, A2, c2, K, hi, rfl, rfl, hB1, h2, h3, hs, ho1, ho2, hA2, hbqr, hQ⟩ := hrel
        have hcnt := hQ.cnt
        rw [hNN.out] at hcnt
        have hcl := cntF_le K N
        have hnxl : n + now.length + next.length ≤ N := by omega
        clear hcnt hcl
        by_cases hin : i < now.length
        · have hiI : (i : Int) < now.length := by omega
          obtain ⟨pp, hpp⟩ : ∃ pp, now[i] = pp := ⟨_, rfl⟩
          have hp : now[i]? = some pp := by rw [List.getElem?_eq_getElem hin, hpp]
          have hpl := hQ.at_ hoX hoY hp
          rw [hAn.out, hBn.out] at hpl
          obtain ⟨hpa, hpb⟩ := hpl
          have hrP : RowAt wr gl (i * 2) (encQ pp) := by
            have h8 := ho1.row encQ_size i hin
            rw [hpp] at h8
            exact h8
          have hgll := (ho1.lt gl rfl).2
          replace hp := Lib.hid hp
          clear hpp
          go_upto_region 12 with (first | (refine wl_load_pr rfl _ rfl gl (i * 2) rfl pp hrP ?_) | (refine wl_store_pr rfl _ _ rfl _ pp rfl rfl _ (Blk.new _ _ _) ?_; intro w6 hp6 hG6))
          obtain ⟨gp, hgp⟩ : ∃ g, g = wr.heap.size := ⟨_, rfl⟩
          have hA2p : ∀ b, A2 = some b → b.block ≠ gp := fun b hb => by have := (ho2.lt b.block (by rw [ownBlock_slice, hb]; rfl)).2; omega
          rw [← hgp] at hp6 hG6 ⊢
          have f2 : g2 ≠ gp := by have := h2.lt; omega
          have f3 : g3 ≠ gp := by have := h3.lt; omega
          have fs : gs ≠ gp := by have := hs.lt; omega
          have fl : gl ≠ gp := by omega
          have hgpw : w.heap.size ≤ gp := by have := h2.lt; omega
          have hgpb : bq ≤ gp := by omega
          replace h2 := (h2.alloc (.cells (encQ ⟨0, 0⟩) 101)).grown hG6 (by simpa using f2)
          replace h3 := (h3.alloc (.cells (encQ ⟨0, 0⟩) 101)).grown hG6 (by simpa using f3)
          replace hs := (hs.alloc (.cells (encQ ⟨0, 0⟩) 101)).grown hG6 (by simpa using fs)
          replace ho1 := own_neg (ho1.alloc (.cells (encQ ⟨0, 0⟩) 101)) hG6 (some_ne fl)
          replace ho2 := own_neg (ho2.alloc (.cells (encQ ⟨0, 0⟩) 101)) hG6 hA2p
          replace hB1 := below_grown (below_alloc hB1 (.cells (encQ ⟨0, 0⟩) 101)) hG6 hgpw
          clear hG6 hgp hrP hgll hbqr
          have hsx : pp.a < x.en.length := by rw [heX.out]; exact hpa
          have hsy : pp.b < y.en.length := by rw [heY.out]; exact hpb
          obtain ⟨q, hq⟩ : ∃ q, (((x.en.getD pp.a 0 : Nat) : Int) != ((y.en.getD pp.b 0 : Nat) : Int)) = q := ⟨_, rfl⟩
          refine wp_region_steps 13 [eqS (.pointer (some ⟨g2, 258, none⟩)), eqS (.slice (some ⟨bE, oE, none⟩) x.en.length x.e), eqS (.pointer (some ⟨gp, 0, none⟩)), eqS (.int .i64 (((pp.a : Nat) : Int))), eqS (.pointer (some ⟨bE, oE + pp.a * 1, none⟩)), eqS (.int .u32 ((((x.en.getD pp.a 0) : Nat) : Int))), eqS (.pointer (some ⟨g3, 258, none⟩)), eqS (.slice (some ⟨bD, oD, none⟩) y.en.length y.e), eqS (.pointer (some ⟨gp, 1, none⟩)), eqS (.int .i64 (((pp.b : Nat) : Int))), eqS (.pointer (some ⟨bD, oD + pp.b * 1, none⟩)), eqS (.int .u32 ((((y.en.getD pp.b 0) : Nat) : Int))), eqS (.bool q)] [41, 42, 43, 44, 45, 46, 47, 48, 49, 50, 51, 52, 53] rfl (by kernel_rfl) rfl ?_ ?_
          · skip
            refine Steps.cons (fun a' w' hG hB dep => gs_field (want_none rfl) _ _ _ rfl g2 (0) (258) (hG.other 2 rfl) (fun wz => field_dfa_3 g2 (0) wz) rfl) ?_
            refine Steps.cons (fun a' w' hG hB dep => gs_load1 (want_none rfl) _ _ rfl g2 (258) (dep 0 rfl 41 rfl) (.slice (some ⟨bE, oE, none⟩) x.en.length x.e) (by rw [← hEx.out]; exact blk_d3 (blk_then h2 hB)) _ Try.underlying32 rfl rfl) ?_
            refine Steps.cons (fun a' w' hG hB dep => gs_field (want_none rfl) _ _ _ rfl gp (0) (0) (hG.other 10 rfl) (fun wz => field_pr2_0 gp (0) wz) rfl) ?_
            refine Steps.cons (fun a' w' hG hB dep => gs_load1 (want_none rfl) _ _ rfl gp (0) (dep 2 rfl 43 rfl) (.int .i64 (((pp.a : Nat) : Int))) ((blk_then hp6 hB).cellv (i := 0) rfl) _ Try.underlying3 rfl rfl) ?_
            refine Steps.cons (fun a' w' hG hB dep => gs_index (want_none rfl) _ _ _ rfl under_rules 1 size_ruleE bE oE x.en.length x.e (pp.a) (dep 1 rfl 42 rfl) (dep 3 rfl 44 rfl) hsx rfl) ?_
            refine Steps.cons (fun a' w' hG hB dep => gs_load1 (want_none rfl) _ _ rfl bE (oE + pp.a * 1) (dep 4 rfl 45 rfl) (.int .u32 ((((x.en.getD pp.a 0) : Nat) : Int))) (cex (below_then hB1 hB) _ hsx) _ Try.underlying55 rfl rfl) ?_
            refine Steps.cons (fun a' w' hG hB dep => gs_field (want_none rfl) _ _ _ rfl g3 (0) (258) (hG.other 3 rfl) (fun wz => field_dfa_3 g3 (0) wz) rfl) ?_
            refine Steps.cons (fun a' w' hG hB dep => gs_load1 (want_none rfl) _ _ rfl g3 (258) (dep 6 rfl 47 rfl) (.slice (some ⟨bD, oD, none⟩) y.en.length y.e) (by rw [← hEy.out]; exact blk_d3 (blk_then h3 hB)) _ Try.underlying32 rfl rfl) ?_
            refine Steps.cons (fun a' w' hG hB dep => gs_field (want_none rfl) _ _ _ rfl gp (0) (1) (hG.other 10 rfl) (fun wz => field_pr2_1 gp (0) wz) rfl) ?_
            refine Steps.cons (fun a' w' hG hB dep => gs_load1 (want_none rfl) _ _ rfl gp (1) (dep 8 rfl 49 rfl) (.int .i64 (((pp.b : Nat) : Int))) ((blk_then hp6 hB).cellv (i := 1) rfl) _ Try.underlying3 rfl rfl) ?_
            refine Steps.cons (fun a' w' hG hB dep => gs_index (want_none rfl) _ _ _ rfl under_rules 1 size_ruleE bD oD y.en.length y.e (pp.b) (dep 7 rfl 48 rfl) (dep 9 rfl 50 rfl) hsy rfl) ?_
            refine Steps.cons (fun a' w' hG hB dep => gs_load1 (want_none rfl) _ _ rfl bD (oD + pp.b * 1) (dep 10 rfl 51 rfl) (.int .u32 ((((y.en.getD pp.b 0) : Nat) : Int))) (cey (below_then hB1 hB) _ hsy) _ Try.underlying55 rfl rfl) ?_
            refine Steps.cons (fun a' w' hG hB dep => gs_neq_int (want_none rfl) _ _ _ _ rfl _ _ _ (dep 5 rfl 46 rfl) (dep 11 rfl 52 rfl) (id (congrArg Value.bool hq))) ?_
            exact Steps.nil
          intro u w7 hw7 ans
          have hus53 : u 53 = (.bool q) := ans 12 53 (by decide) rfl
          clear ans
          simp only [putAll, List.foldl_cons, List.foldl_nil, Act.put, List.setIfInBounds_toArray, List.set_cons_zero, List.set_cons_succ, hus53]
          clear hus53
          simp only [List.drop]
          refine wpList_nil ?_
          replace h2 := blk_then h2 hw7
          replace h3 := blk_then h3 hw7
          replace hs := blk_then hs hw7
          replace hp6 := blk_then hp6 hw7
          replace ho1 := ho1.then_ hw7
          replace ho2 := ho2.then_ hw7
          replace hB1 := below_then hB1 hw7
          clear hw7 hsx hsy
          cases q with
          | true =>
            have hng : ¬ GoodP x.T.au y.T.au pp := fun hg => by
              have hg2 : x.en.getD pp.a 0 = y.en.getD pp.b 0 := hg
              rw [hg2] at hq
              simp at hq
            have hfo := hQ.found hp.out hng
            clear hq hQ hng
            go_wp2_with (fail)
            go_ret
            exact ⟨hB1, (n : Int), rfl, .inr ⟨n, rfl, by omega, hfo⟩⟩
          | false =>
            have hgd : GoodP x.T.au y.T.au pp := by
              show x.en.getD pp.a 0 = y.en.getD pp.b 0
              have := bne_eq_false_iff_eq.1 hq
              omega
            replace hgd := Lib.hid hgd
            replace hQ := Lib.hid hQ
            clear hq hnxl
            have hbqr : bq ≤ w7.heap.size := by have := hp6.lt; omega
            go_upto_region 14 with (fail)
            go_wp2_with (fail)
            go_loopw [11, 8] (fun cv xv wr => ∃ (c : Nat) (next : List P2) (A2 : Option Addr) (c2 : Nat) (K : Nat → Bool), c ≤ 256 ∧ cv = .int .i64 c ∧ xv = .slice A2 next.length c2 ∧ Below w.heap.size w wr ∧ Blk wr g2 47 (dfaC x.f x.A x.rs.length x.c x.B x.fo.length x.d x.C x.en.length x.e) ∧ Blk wr g3 47 (dfaC y.f y.A y.rs.length y.c y.B y.fo.length y.d y.C y.en.length y.e) ∧ Blk wr gs 4 (arr eB N K) ∧ Own wr bq 101 2 encQ (.slice (some ⟨gl, 0, none⟩) now.length c1) now ∧ Own wr bq 101 2 encQ (.slice A2 next.length c2) next ∧ (∀ b, A2 = some b → b.block ≠ gl) ∧ (∀ b, A2 = some b → b.block ≠ gp) ∧ Blk wr gp 101 (encQ pp) ∧ BF x.T.au y.T.au K now next i c n) (fun cv _ _ => 256 - (intOf cv).toNat)
            case atStart => exact ⟨0, next, A2, c2, K, by omega, rfl, rfl, hB1, h2, h3, hs, ho1, ho2, hA2, hA2p, hp6, hQ.out⟩
            case round =>
              clear hB1 h2 h3 hs ho1 ho2 hA2 hA2p hp6 hQ hbqr
              obtain ⟨c, next, A2, c2, K, hc0, rfl, rfl, hB1, h2, h3, hs, ho1, ho2, hA2, hA2p, hp6, hQ⟩ := hrel
              have hcnt := hQ.cnt
              rw [hNN.out] at hcnt
              have hcl := cntF_le K N
              have hnxl : n + now.length + next.length ≤ N := by omega
              clear hcnt hcl
              by_cases hc : c < 256
              · have hcI : (c : Int) < 256 := by omega
                obtain ⟨ta, hta⟩ : ∃ ta, x.T.au.go pp.a c = ta := ⟨_, rfl⟩
                obtain ⟨tb, htb⟩ : ∃ tb, y.T.au.go pp.b c = tb := ⟨_, rfl⟩
                have htan : ta < x.rs.length := by rw [← hta, ← hAn.out]; exact hoX.lt _ _ (by rw [hAn.out]; exact hpa) hc
                have htbn : tb < y.rs.length := by rw [← htb, ← hBn.out]; exact hoY.lt _ _ (by rw [hBn.out]; exact hpb) hc
                have hstep : stepP x.T.au y.T.au pp c = ⟨ta, tb⟩ := by unfold stepP; rw [hta, htb]
                obtain ⟨ix, hix⟩ : ∃ ix, ta * y.rs.length + tb = ix := ⟨_, rfl⟩
                have hixM : (⟨ta, tb⟩ : P2).ix y.T.au.n = ix := by rw [hBn.out]; exact hix
                have hixN : ix < N := by rw [← hix, hN.out]; exact P2.ix_lt (p := ⟨ta, tb⟩) htan htbn
                have hixI : ((ta : Int) * (y.rs.length : Int) + (tb : Int)) = (ix : Int) := by rw [← hix]; simp
                have hmt0 : 0 ≤ (ta : Int) * (y.rs.length : Int) := by omega
                have hmt1 : (ta : Int) * (y.rs.length : Int) ≤ 1600 := by omega
                obtain ⟨kk, hkk⟩ : ∃ kk, K ix = kk := ⟨_, rfl⟩
                replace hstep := Lib.hid hstep
                replace hixM := Lib.hid hixM
                replace hixI := Lib.hid hixI
                replace hkk := Lib.hid hkk
                have hcx : ∀ W : World, Below wr.heap.size wr W → Calls Try.prog 48 #[.agg (dfaC x.f x.A x.rs.length x.c x.B x.fo.length x.d x.C x.en.length x.e), .int .i64 (pp.a : Nat), .int .i64 (c : Nat)] W fun e w' => e = .returned (.int .i64 ((ta : Nat) : Int)) ∧ Below W.heap.size W w' := fun W hB => by rw [← hta]; exact hgx pp.a c W hpa hc (below_then hB1 hB)
                have hcy : ∀ W : World, Below wr.heap.size wr W → Calls Try.prog 48 #[.agg (dfaC y.f y.A y.rs.length y.c y.B y.fo.length y.d y.C y.en.length y.e), .int .i64 (pp.b : Nat), .int .i64 (c : Nat)] W fun e w' => e = .returned (.int .i64 ((tb : Nat) : Int)) ∧ Below W.heap.size W w' := fun W hB => by rw [← htb]; exact hgy pp.b c W hpb hc (below_then hB1 hB)
                clear hta htb hix
                obtain ⟨bn, hbn⟩ : ∃ bn, bn = wr.heap.size := ⟨_, rfl⟩
                go_upto_region 17 with (fail)
                refine wp_region_steps 12 [eqS (.agg (dfaC x.f x.A x.rs.length x.c x.B x.fo.length x.d x.C x.en.length x.e)), eqS (.pointer (some ⟨gp, 0, none⟩)), eqS (.int .i64 (((pp.a : Nat) : Int))), eqS (.int .i64 (((c : Nat) : Int))), eqS (.int .i64 (((ta : Nat) : Int))), eqS (.agg (dfaC y.f y.A y.rs.length y.c y.B y.fo.length y.d y.C y.en.length y.e)), eqS (.pointer (some ⟨gp, 1, none⟩)), eqS (.int .i64 (((pp.b : Nat) : Int))), eqS (.int .i64 (((c : Nat) : Int))), eqS (.int .i64 (((tb : Nat) : Int))), eqS (.agg (encQ ⟨ta, tb⟩)), newS bn 101 (encQ ⟨0, 0⟩)] [59, 60, 61, 62, 63, 64, 65, 66, 67, 68, 69, 12] rfl (by kernel_rfl) rfl ?_ ?_
                · skip
                  refine Steps.cons (fun a' w' hG hB dep => gs_load_dfa (want_none rfl) _ rfl g2 (hG.other 2 rfl) (blk_then h2 hB) rfl) ?_
                  refine Steps.cons (fun a' w' hG hB dep => gs_field (want_none rfl) _ _ _ rfl gp (0) (0) (hG.other 10 rfl) (fun wz => field_pr2_0 gp (0) wz) rfl) ?_
                  refine Steps.cons (fun a' w' hG hB dep => gs_load1 (want_none rfl) _ _ rfl gp (0) (dep 1 rfl 60 rfl) (.int .i64 (((pp.a : Nat) : Int))) ((blk_then hp6 hB).cellv (i := 0) rfl) _ Try.underlying3 rfl rfl) ?_
                  refine Steps.cons (fun a' w' hG hB dep => gs_move (want_none rfl) _ rfl (id (hG.other 11 rfl))) ?_
                  refine Steps.cons (fun a' w' hG hB dep => gs_call (want_none rfl) _ _ _ rfl enter_goes _ (map3 (dep 0 rfl 59 rfl) (dep 2 rfl 61 rfl) (dep 3 rfl 62 rfl)) ((hcx w' hB).mono fun e w2 ⟨hq1, hb⟩ => ⟨_, hq1, hb, rfl⟩)) ?_
                  refine Steps.cons (fun a' w' hG hB dep => gs_load_dfa (want_none rfl) _ rfl g3 (hG.other 3 rfl) (blk_then h3 hB) rfl) ?_
                  refine Steps.cons (fun a' w' hG hB dep => gs_field (want_none rfl) _ _ _ rfl gp (0) (1) (hG.other 10 rfl) (fun wz => field_pr2_1 gp (0) wz) rfl) ?_
                  refine Steps.cons (fun a' w' hG hB dep => gs_load1 (want_none rfl) _ _ rfl gp (1) (dep 6 rfl 65 rfl) (.int .i64 (((pp.b : Nat) : Int))) ((blk_then hp6 hB).cellv (i := 1) rfl) _ Try.underlying3 rfl rfl) ?_
                  refine Steps.cons (fun a' w' hG hB dep => gs_move (want_none rfl) _ rfl (id (hG.other 11 rfl))) ?_
                  refine Steps.cons (fun a' w' hG hB dep => gs_call (want_none rfl) _ _ _ rfl enter_goes _ (map3 (dep 5 rfl 64 rfl) (dep 7 rfl 66 rfl) (dep 8 rfl 67 rfl)) ((hcy w' hB).mono fun e w2 ⟨hq1, hb⟩ => ⟨_, hq1, hb, rfl⟩)) ?_
                  refine Steps.cons (fun a' w' hG hB dep => gs_bpr (want_none rfl) _ _ rfl ⟨ta, tb⟩ (dep 4 rfl 63 rfl) (dep 9 rfl 68 rfl) rfl) ?_
                  refine Steps.cons (fun a' w' hG hB dep => gs_alloc_pr (want_none rfl) rfl bn (by have := hB.size; omega) (fun _ _ h => h)) ?_
                  exact Steps.nil
                intro u wa hwa ans
                obtain ⟨gq, hu12, hgqb, hq0⟩ := ans 11 12 (by decide) rfl
                have hu69 : u 69 = .agg (encQ ⟨ta, tb⟩) := ans 10 69 (by decide) rfl
                clear ans
                simp only [putAll, List.foldl_cons, List.foldl_nil, Act.put, List.setIfInBounds_toArray, List.set_cons_zero, List.set_cons_succ, hu12, hu69]
                clear hu12 hu69 hcx hcy
                simp only [List.drop]
                refine wl_store_pr rfl _ _ rfl gq ⟨ta, tb⟩ rfl rfl _ hq0 ?_
                intro w9 hq9 hG9
                refine wpList_nil ?_
                simp only [Act.put]
                have j2 : g2 ≠ gq := by have := h2.lt; omega
                have j3 : g3 ≠ gq := by have := h3.lt; omega
                have js : gs ≠ gq := by have := hs.lt; omega
                have jl : gl ≠ gq := by have := (ho1.lt gl rfl).2; omega
                have jp : gp ≠ gq := by have := hp6.lt; omega
                have hA2q : ∀ b, A2 = some b → b.block ≠ gq := fun b hb => by have := (ho2.lt b.block (by rw [ownBlock_slice, hb]; rfl)).2; omega
                have hgqw : w.heap.size ≤ gq := by have := h2.lt; omega
                replace h2 := blk_grown (blk_then h2 hwa) hG9 j2
                replace h3 := blk_grown (blk_then h3 hwa) hG9 j3
                replace hs := blk_grown (blk_then hs hwa) hG9 js
                replace hp6 := blk_grown (blk_then hp6 hwa) hG9 jp
                replace ho1 := own_neg (ho1.then_ hwa) hG9 (some_ne jl)
                replace ho2 := own_neg (ho2.then_ hwa) hG9 hA2q
                replace hB1 := below_grown (below_then hB1 hwa) hG9 hgqw
                clear hwa hG9 hq0 hbn hgqb
                have cq0 : w9.cell? ⟨gq, 0, none⟩ = some (.int .i64 (ta : Nat)) := hq9.cellv (i := 0) rfl
                have cq1 : w9.cell? ⟨gq, 1, none⟩ = some (.int .i64 (tb : Nat)) := hq9.cellv (i := 1) rfl
                have cY : w9.cell? ⟨g3, 256, none⟩ = some (.slice y.A y.rs.length y.c) := blk_d1 h3
                go_upto_region 19 with (fail)
                rw [hixI.out]
                clear cq0 cq1 cY
                obtain ⟨b10, hb10⟩ : ∃ b, ((c : Int) != 10) = b := ⟨_, rfl⟩
                refine wp_region_text 9 [eqS (.int .i64 (((c : Nat) : Int))), eqS (.bool b10), eqS (.bool b10), eqS (vF (true && (b10 == true)) (.slice (some ⟨gs, 0, none⟩) N N)), eqS (vF (true && (b10 == true)) (.int .i64 (((ix : Nat) : Int)))), eqS (vF (true && (b10 == true)) (.pointer (some ⟨gs, 0 + ix * 1, none⟩))), eqS (vF (true && (b10 == true)) (.bool kk)), eqS (vF (true && (b10 == true)) (.bool (!kk))), eqS (.bool (b10 && (!kk)))] [79, 80, 81, 82, 83, 84, 85, 86, 87] (by kernel_rfl) rfl ?_ ?_
                · skip
                  refine Steps.cons (fun a' w' hG hB dep => gs_move (want_none rfl) _ rfl (id (hG.other 11 rfl))) ?_
                  refine Steps.cons (fun a' w' hG hB dep => gs_neq_int (want_none rfl) _ _ _ _ rfl _ _ _ (dep 0 rfl 79 rfl) rfl (id (congrArg Value.bool hb10))) ?_
                  refine Steps.cons (fun a' w' hG hB dep => gs_move (want_none rfl) _ rfl (id (dep 1 rfl 80 rfl))) ?_
                  refine Steps.cons (fun a' w' hG hB dep => gs_guard (c := true) (b' := b10) rfl rfl (dep 2 rfl 81 rfl) (fun hc he hw => gs_move hw _ rfl (Eq.trans (hG.other 5 rfl) (vF_yes (on_g hc he) _).symm)) (fun hn => vF_no hn _)) ?_
                  refine Steps.cons (fun a' w' hG hB dep => gs_guard (c := true) (b' := b10) rfl rfl (dep 2 rfl 81 rfl) (fun hc he hw => gs_move hw _ rfl (Eq.trans (hG.other 13 rfl) (vF_yes (on_g hc he) _).symm)) (fun hn => vF_no hn _)) ?_
                  refine Steps.cons (fun a' w' hG hB dep => gs_guard (c := true) (b' := b10) rfl rfl (dep 2 rfl 81 rfl) (fun hc he hw => gs_index hw _ _ _ rfl under_bools 1 size_boolE gs 0 N N (ix) (Eq.trans (dep 3 rfl 82 rfl) (vF_yes (on_g hc he) _)) (Eq.trans (dep 4 rfl 83 rfl) (vF_yes (on_g hc he) _)) hixN (vF_yes (on_g hc he) _).symm) (fun hn => vF_no hn _)) ?_
                  refine Steps.cons (fun a' w' hG hB dep => gs_guard (c := true) (b' := b10) rfl rfl (dep 2 rfl 81 rfl) (fun hc he hw => gs_load1 hw _ _ rfl gs (0 + ix * 1) (Eq.trans (dep 5 rfl 84 rfl) (vF_yes (on_g hc he) _)) (.bool kk) (blk_arr_eqB (blk_then hs hB) hixN hkk.out) _ Try.underlying4 rfl (vF_yes (on_g hc he) _).symm) (fun hn => vF_no hn _)) ?_
                  refine Steps.cons (fun a' w' hG hB dep => gs_guard (c := true) (b' := b10) rfl rfl (dep 2 rfl 81 rfl) (fun hc he hw => gs_not_bool hw _ _ rfl _ (Eq.trans (dep 6 rfl 85 rfl) (vF_yes (on_g hc he) _)) (vF_yes (on_g hc he) _).symm) (fun hn => vF_no hn _)) ?_
                  refine Steps.cons (fun a' w' hG hB dep => gs_pick (want_none rfl) _ _ _ rfl b10 (dep 2 rfl 81 rfl) (id (pick_and2 (c := true) rfl (dep 7 rfl 86 rfl)))) ?_
                  exact Steps.nil
                intro uu wb hwb ans
                have hus87 : uu 87 = (.bool (b10 && !kk)) := ans 8 87 (by decide) rfl
                clear ans
                simp only [putAll, List.foldl_cons, List.foldl_nil, Act.put, List.setIfInBounds_toArray, List.set_cons_zero, List.set_cons_succ, hus87]
                clear hus87
                simp only [List.drop]
                refine wpList_nil ?_
                replace h2 := blk_then h2 hwb
                replace h3 := blk_then h3 hwb
                replace hs := blk_then hs hwb
                replace hp6 := blk_then hp6 hwb
                replace hq9 := blk_then hq9 hwb
                replace ho1 := ho1.then_ hwb
                replace ho2 := ho2.then_ hwb
                replace hB1 := below_then hB1 hwb
                clear hwb
                obtain ⟨r, hr⟩ : ∃ r, (b10 && !kk) = r := ⟨_, rfl⟩
                rw [hr]
                cases r with
                | false =>
                  have hQ2 := hQ.same hoX hoY hp.out hc (by
                    rw [hstep.out, hixM.out, hkk.out]
                    cases kk with
                    | true => exact .inr rfl
                    | false =>
                      left
                      have : b10 = false := by simpa using hr
                      rw [this] at hb10
                      have := bne_eq_false_iff_eq.1 hb10
                      omega)
                  replace hQ2 := Lib.hid hQ2
                  clear hr hb10 hQ
                  go_wp2_with (fail)
                  exact ⟨⟨c + 1, next, A2, c2, K, by omega, rfl, rfl, hB1, h2, h3, hs, ho1, ho2, hA2, hA2p, hp6, hQ2.out⟩, by simp only [intOf]; omega⟩
                | true =>
                  have hb : b10 = true ∧ kk = false := by cases b10 <;> cases kk <;> simp_all
                  have hQ2 := hQ.new hoX hoY hp.out hc (by
                    have h1 := hb.1
                    rw [h1] at hb10
                    intro e
                    rw [e] at hb10
                    simp at hb10) (by rw [hstep.out, hixM.out, hkk.out]; exact hb.2)
                  rw [hstep.out, hixM.out] at hQ2
                  replace hQ2 := Lib.hid hQ2
                  clear hr hb10 hQ hb
                  go_upto_region 21 with (refine wl_store_arr eB true rfl _ _ _ rfl gs ix N _ _ hs rfl rfl hixN info_boolS rfl rfl ?_; intro wc hsc hGc)
                  replace h2 := blk_grown h2 hGc s2
                  replace h3 := blk_grown h3 hGc s3
                  replace hp6 := blk_grown hp6 hGc fs.symm
                  replace hq9 := blk_grown hq9 hGc js.symm
                  replace ho1 := own_low ho1 hGc ls
                  replace ho2 := own_low ho2 hGc ls
                  replace hB1 := below_grown hB1 hGc hgsw
                  clear hGc hs
                  have hrq : RowAt wc gq 0 (encQ ⟨ta, tb⟩) := RowAt.of_blk hq9
                  have hbqc : bq ≤ wc.heap.size := by have := hp6.lt; omega
                  go_upto_region 16 with (first
                    | (refine wl_load_pr rfl _ rfl gq 0 rfl ⟨ta, tb⟩ hrq ?_)
                    | (refine wl_bsq rfl _ rfl ⟨ta, tb⟩ rfl ?_)
                    | (refine wl_pushQ rfl _ _ rfl bq next ⟨ta, tb⟩ rfl rfl (Blk.new _ _ _) (ho2.alloc _) rfl (by omega) (by rw [World.size_alloc]; omega) ?_; intro A8 c8 wd ho8 hg8 hv8))
                  have hBa : Below wc.heap.size wc (wc.alloc (.cells (encQ ⟨ta, tb⟩) 101)) := below_alloc (Below.refl _ _) _
                  have hoa := ho2.then_ hBa
                  have hgll := (ho1.lt gl rfl).2
                  have hA8 := block_push hv8 hA2 (by rw [World.size_alloc]; omega)
                  have hA8p := block_push hv8 hA2p (by rw [World.size_alloc]; have := hp6.lt; omega)
                  replace h2 := blk_own (blk_then h2 hBa) hoa hg8 l2
                  replace h3 := blk_own (blk_then h3 hBa) hoa hg8 l3
                  replace hsc := blk_own (blk_then hsc hBa) hoa hg8 ls
                  replace hp6 := (blk_then hp6 hBa).grown hg8 (slice_ne hA2p)
                  replace ho1 := own_apart (ho1.then_ hBa) hoa (fun a b ha hb => by injection ha with ha; subst ha; exact (hA2 b hb).symm) hg8
                  replace hB1 := below_own (below_then hB1 hBa) hg8 (fun k e => by have := (hoa.lt k e).1; omega)
                  have hll8 : next.length + 1 = (next ++ [(⟨ta, tb⟩ : P2)]).length := by simp
                  rw [hll8] at ho8 ⊢
                  replace hll8 := Lib.hid hll8
                  clear hg8 hv8 ho2 hoa hBa hrq hq9 hgll
                  go_wp2_with (fail)
                  exact ⟨⟨c + 1, _, A8, c8, _, by omega, rfl, rfl, hB1, h2, h3, hsc, ho1, ho8, hA8, hA8p, hp6, hQ2.out⟩, by simp only [intOf]; omega⟩
              · have hcI : ¬ (c : Int) < 256 := by omega
                have hce : c = 256 := by omega
                rw [hce] at hQ
                have hQ2 := hQ.item hp.out hgd.out
                have hbqr : bq ≤ wr.heap.size := by have := hp6.lt; omega
                replace hQ2 := Lib.hid hQ2
                clear hQ hce
                go_wp2_with (fail)
                exact ⟨⟨i + 1, next, A2, c2, K, hin, rfl, rfl, hB1, h2, h3, hs, ho1, ho2, hA2, hbqr, hQ2.out⟩, by simp only [intOf]; omega⟩
        · have hiI : ¬ (i : Int) < now.length := by omega
          have hQ2 := hQ.level hoX hoY (by omega) hnow
          replace hQ2 := Lib.hid hQ2
          clear hQ
          go_wp2_with (fail)
          exact ⟨⟨n + 1, next, A2, c2, K, rfl, rfl, hB1, h2, h3, hs, ho2, hbqr, hQ2.out⟩, by simp only [intOf]; omega⟩
    · have hnI : ¬ (0 : Int) < now.length := by omega
      have hnil : now = [] := List.eq_nil_of_length_eq_zero (by omega)
      subst hnil
      have hd := hQ.done hoX hoY
      clear hQ
      go_wp2_with (fail)
      go_ret
      exact ⟨hB1, -1, rfl, .inl ⟨rfl, hd⟩⟩
theorem enter_short (args : Array Value) (w : World) : (callFunc 33 args).run Try.prog w = .ok (.enter 33 args) w := by kernel_rfl
theorem enter_goes11 (args : Array Value) (w : World) : (callFunc 48 args).run Try.prog w = .ok (.enter 48 args) w := by kernel_rfl
end Go.Proofs.Ytgahdookojbbiaa
