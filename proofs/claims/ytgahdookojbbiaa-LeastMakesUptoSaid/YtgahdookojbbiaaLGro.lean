/- heronlaw11.grown: a table whose lists are those of another one, each with one more behind it. No condition beyond those named in each lemma. -/
import Derived.Test.YtgahdookojbbiaaLFul
import Derived.Test.YtgahdookojbbiaaGrowT
import Derived.Test.YtgahdookojbbiaaKeep
namespace Go.Proofs.Ytgahdookojbbiaa
open Go.RowKit Go.Maps
set_option linter.unusedVariables false
set_option linter.unusedSimpArgs false
attribute [local go_sem] Oper.semAt_some

/-- a row with one int more; the old one stands -/
def appP (base k0 : Nat) (rw : Option Nat) (A : Option Addr) (n c : Nat) (l : List Int) (z : Int) (A' : Option Addr) (c' : Nat) (w : World) : Prop :=
  Own w base 3 1 encZ (.slice A' (n + 1) c') (l ++ [z]) ∧ Own w base 3 1 encZ (.slice A n c) l ∧ ∀ b, A' = some b → some b.block = rw ∨ k0 ≤ b.block
theorem appP.then_ {base k0 : Nat} {rw : Option Nat} {A : Option Addr} {n c : Nat} {l : List Int} {z : Int} {A' : Option Addr} {c' : Nat} {w w' : World} (h : appP base k0 rw A n c l z A' c' w) (hb : Below w.heap.size w w') : appP base k0 rw A n c l z A' c' w' := ⟨h.1.then_ hb, h.2.1.then_ hb, h.2.2⟩
def appS (base k0 : Nat) (rw : Option Nat) (A : Option Addr) (n c : Nat) (l : List Int) (z : Int) : GSpec := ⟨fun v w => ∃ A' c', v = .slice A' (n + 1) c' ∧ appP base k0 rw A n c l z A' c' w, fun v w w' ⟨A', c', h1, h2⟩ hb => ⟨A', c', h1, h2.then_ hb⟩⟩
def boxS (base k0 : Nat) (rw : Option Nat) (A : Option Addr) (n c : Nat) (l : List Int) (z : Int) : GSpec := ⟨fun v w => ∃ g A' c', v = .slice (some ⟨g, 0, none⟩) 1 1 ∧ Blk w g 57 #[.slice A' (n + 1) c'] ∧ appP base k0 rw A n c l z A' c' w, fun v w w' ⟨g, A', c', h1, h2, h3⟩ hb => ⟨g, A', c', h1, blk_then h2 hb, h3.then_ hb⟩⟩
def zS (k0 : Nat) (z : Int) : GSpec := ⟨fun v w => ∃ g, v = .slice (some ⟨g, 0, none⟩) 1 1 ∧ k0 ≤ g ∧ Blk w g 3 (encZ z), fun v w w' ⟨g, h1, h2, h3⟩ hb => ⟨g, h1, h2, blk_then h3 hb⟩⟩
section
variable {ops : Array Oper} {S : Nat → GSpec} {Q : Exit → Act → World → Prop} {i i0 : Nat} {o : Oper} {a : Act} {w : World} {rw : Option Nat}
theorem gs_z1 (hw : Region.wanted o (yielded ops a.tmps) = true) (x : Operand) (ho : o.op = .buildSlice 57 1 #[(0, x)]) (z : Int) (k0 : Nat) (hk : k0 ≤ w.heap.size) (hx : a.eval x = .int .i64 z)
    (hp : ∀ v w', (zS k0 z).p v w' → (S i).p v w') : GStep Try.prog ops S Q i o a w :=
  gs_run hw (v := .slice (some ⟨w.heap.size, 0, none⟩) 1 1) (by unfold execOp; simp only [ho, List.map_toArray, List.map_cons, List.map_nil, hx, Sem.run_bind, run_int1, Result.andThen_ok, Sem.run_pure]) (below_alloc (Below.refl _ _) _) (hp _ _ ⟨_, rfl, hk, Blk.new _ _ _⟩)
theorem gs_box (hw : Region.wanted o (yielded ops a.tmps) = true) (x : Operand) (ho : o.op = .buildSlice 45 1 #[(0, x)]) {base k0 : Nat} {A : Option Addr} {n c : Nat} {l : List Int} {z : Int} (hx : (appS base k0 rw A n c l z).p (a.eval x) w)
    (hp : ∀ v w', (boxS base k0 rw A n c l z).p v w' → (S i).p v w') : GStep Try.prog ops S Q i o a w := by
  obtain ⟨A', c', hx, h⟩ := hx
  have hB := below_alloc (Below.refl w.heap.size w) (.cells #[.slice A' (n + 1) c'] 57)
  exact gs_run hw (v := .slice (some ⟨w.heap.size, 0, none⟩) 1 1) (by unfold execOp; simp only [ho, List.map_toArray, List.map_cons, List.map_nil, hx, Sem.run_bind, run_row1, Result.andThen_ok, Sem.run_pure]) hB (hp _ _ ⟨_, A', c', rfl, Blk.new _ _ _, h.then_ hB⟩)
theorem gs_appZ (hw : Region.wanted o (yielded ops a.tmps) = true) (x y : Operand) (ho : o.op = .call { callee := .builtin .append, args := #[x, y], argTypes := #[57, 57] }) (base k0 : Nat) (hk0 : k0 ≤ w.heap.size) (hbase : base ≤ w.heap.size) {A : Option Addr} {n c : Nat} {l : List Int} {z : Int} (hx : a.eval x = .slice A n c)
    (hrw : (Value.slice A n c).ownBlock = rw) (hown : Own w base 3 1 encZ (.slice A n c) l) (hn : n = l.length) (hl : l.length ≤ 1099511627776) (hy : (zS k0 z).p (a.eval y) w) (hp : ∀ v w', (appS base k0 rw A n c l z).p v w' → (S i0).p v w') : GStepT rw i0 Try.prog ops S Q i0 o a w := by
  obtain ⟨g, hy, _, hb⟩ := hy
  obtain ⟨i1, hi1, hz0, hz1, hz2⟩ := info_parts info_int3
  obtain ⟨v', w', hrun, h2, h3, h4⟩ := run_append_slice (P := Try.prog) w base 57 o.type 3 i1 _ 1 8 Try.underlying57 hi1 hz0 hz1 hz2 rfl (by decide) encZ_size encZ_one (.slice A n c) l hown w.heap.size (some ⟨g, 0, none⟩) 1 1 [z] rfl (slice_one (enc := encZ) (size := 1) hb) (by unfold maxLen; omega) (by omega) hbase
  have h5 := append_keeps (P := Try.prog) w base 57 o.type 3 i1 _ 1 8 Try.underlying57 hi1 hz0 hz1 hz2 encZ_size encZ_one (.slice A n c) l hown w.heap.size (some ⟨g, 0, none⟩) 1 1 [z] rfl (by decide) (slice_one (enc := encZ) (size := 1) hb) (by unfold maxLen; omega) (by omega) v' w' hrun
  obtain ⟨A', c', rfl, _, _⟩ := h2.shape
  have hl8 : (l ++ [z]).length = n + 1 := by simp [hn]
  rw [hl8] at h2 h4 hrun
  refine GStepT.run hw (v := .slice A' (n + 1) c') (w' := w') ?_ (hrw ▸ h3) (hp _ _ ⟨A', c', rfl, h2, h5, fun b hb => ?_⟩)
  · unfold execOp
    simp only [ho, resolve, invoke, builtin, Sem.run_bind, Sem.run_pure, Result.andThen_ok, List.map_toArray, List.map_cons, List.map_nil, hx, hy, hrun]
  · subst hb
    rcases h4 with h4 | h4
    · exact .inl (h4.trans hrw)
    · right
      have e : b.block = w.heap.size := by simpa [Value.ownBlock] using h4
      omega
end
section
variable {w w' : World} {base : Nat} {x : TV}
/-- a row is appended to: the table stands -/
theorem TOwn.turn (h : TOwn w base x [] [] []) {i : Nat} (hi : i < x.rs.length) (hg : w.grownBy w' (Value.slice x.rs[i].a x.rs[i].l.length x.rs[i].c).ownBlock) (ho : Own w' base 3 1 encZ (.slice x.rs[i].a x.rs[i].l.length x.rs[i].c) x.rs[i].l) : TOwn w' base x [] [] [] := by
  have h0 := h.row i hi
  simp only [List.length_nil, Nat.add_zero, List.append_nil] at h0
  refine ⟨own_own h.rows h0 hg (by decide), own_own h.fo h0 hg (by decide), own_own h.en h0 hg (by decide), fun j hj => ?_, h.ap, h.fe⟩
  by_cases e : j = i
  · subst e
    simp only [List.length_nil, Nat.add_zero, List.append_nil]
    exact ho
  · have h1 := h.row j hj
    simp only [List.length_nil, Nat.add_zero, List.append_nil] at h1 ⊢
    exact own_apart h1 h0 (fun a b ha hb => h.ap j i hj hi a b e ha hb) hg
theorem TOwn.turnF (h : TOwn w base x [] [] []) (hg : w.grownBy w' (Value.slice x.B x.fo.length x.d).ownBlock) (ho : Own w' base 55 1 encR (.slice x.B x.fo.length x.d) x.fo) : TOwn w' base x [] [] [] := by
  have h0 := h.fo
  have h1 := h.en
  simp only [List.length_nil, Nat.add_zero, List.append_nil] at h0 h1
  refine ⟨own_own h.rows h0 hg (by decide), by simpa using ho, ?_, fun j hj => own_own (h.row j hj) h0 hg (by decide), h.ap, h.fe⟩
  simp only [List.length_nil, Nat.add_zero, List.append_nil]
  exact own_apart h1 h0 (fun a b ha hb => (h.fe b a hb ha).symm) hg
theorem TOwn.turnE (h : TOwn w base x [] [] []) (hg : w.grownBy w' (Value.slice x.C x.en.length x.e).ownBlock) (ho : Own w' base 55 1 encR (.slice x.C x.en.length x.e) x.en) : TOwn w' base x [] [] [] := by
  have h0 := h.en
  have h1 := h.fo
  simp only [List.length_nil, Nat.add_zero, List.append_nil] at h0 h1
  refine ⟨own_own h.rows h0 hg (by decide), ?_, by simpa using ho, fun j hj => own_own (h.row j hj) h0 hg (by decide), h.ap, h.fe⟩
  simp only [List.length_nil, Nat.add_zero, List.append_nil]
  exact own_apart h1 h0 (fun a b ha hb => h.fe a b ha hb) hg
end
set_option maxRecDepth 100000 in
set_option maxHeartbeats 4000000 in
theorem gro_any (x : TV) (m : Nat) (hm : m ≤ 1000) (base N : Nat) (hS : Sml x) (w : World) (hO : TOwn w base x [] [] []) (hN : ∀ k, OfAll x k → k < N) (hbw : base ≤ w.heap.size) :
    Calls Try.prog 27 #[.agg x.C', .int .i64 (m : Int)] w fun e w' => ∃ p : TV, e = .returned (.agg p.C') ∧ Mid base N w w' ∧ TOwn w' base x [] [] [] ∧ TOwn w' base p [] [] [] ∧ (∀ k, OfAll p k → OfAll x k ∨ w.heap.size ≤ k) ∧ p.rs.map (·.l) = x.rs.map (fun r => r.l ++ [(m : Int)]) ∧ p.fo = x.fo ++ [m] ∧ p.en = x.en ++ [m + 1] := by
  have hn20 := hS.n
  have hf20 := hS.f
  have he20 := hS.e
  have hz0 := zero_dfa
  have hall : ∀ k, OfAll x k → base ≤ k ∧ k < w.heap.size := fun k hk => hO.all hk
  replace hall := Lib.hid hall
  replace hN := Lib.hid hN
  unfold TV.C'
  go_enter Try.func27, Try.ntmps27
  have h1 := (Blk.new w 47 (dfaC x.f x.A x.rs.length x.c x.B x.fo.length x.d x.C x.en.length x.e)).alloc (.cells (dfaC (fun _ => 0) none 0 0 none 0 0 none 0 0) 47)
  have hr : Blk ((w.alloc (.cells (dfaC x.f x.A x.rs.length x.c x.B x.fo.length x.d x.C x.en.length x.e) 47)).alloc (.cells (dfaC (fun _ => 0) none 0 0 none 0 0 none 0 0) 47)) (w.heap.size + 1) 47 (dfaC (fun _ => 0) none 0 0 none 0 0 none 0 0) := Blk.new' _ _ _ (World.size_alloc _ _).symm
  have hBa := below_alloc (below_alloc (Below.refl w.heap.size w) (.cells (dfaC x.f x.A x.rs.length x.c x.B x.fo.length x.d x.C x.en.length x.e) 47)) (.cells (dfaC (fun _ => 0) none 0 0 none 0 0 none 0 0) 47)
  have hM : Mid base N w _ := Mid.of_below hBa
  replace hO := hO.then_ hBa
  go_upto_region 1 with (fail)
  obtain ⟨w1, hw1⟩ : ∃ ww, ww = ((w.alloc (.cells (dfaC x.f x.A x.rs.length x.c x.B x.fo.length x.d x.C x.en.length x.e) 47)).alloc (.cells (dfaC (fun _ => 0) none 0 0 none 0 0 none 0 0) 47)) := ⟨_, rfl⟩
  first | rw [← hw1] at h1 hr hM hO ⊢ | (simp only [World.size_alloc]; rw [← hw1] at h1 hr hM hO ⊢)
  clear hw1 hBa
  obtain ⟨g1, hg1⟩ : ∃ g, g = w.heap.size := ⟨_, rfl⟩
  obtain ⟨gr, hgr⟩ : ∃ g, g = w.heap.size + 1 := ⟨_, rfl⟩
  try rw [← hgr] at hr ⊢
  try rw [← hg1] at h1 ⊢
  have hg1w : w.heap.size ≤ g1 := by omega
  have hgrw : w.heap.size ≤ gr := by omega
  clear hg1 hgr
  go_upto_region 2 with (first
    | (refine wl_build_dfa0 rfl rfl ?_)
    | (refine wl_store_dfa rfl _ _ rfl _ rfl rfl (Blk.new _ _ _) ?_; intro w5 hx hG5))
  have hB5 : Below w1.heap.size w1 w5 := below_grown (below_alloc (Below.refl _ _) _) hG5 (Nat.le_refl _)
  obtain ⟨gx, hgx⟩ : ∃ g, g = w1.heap.size := ⟨_, rfl⟩
  rw [← hgx] at hx ⊢
  have n1x : g1 ≠ gx := by have := h1.lt; omega
  have nrx : gr ≠ gx := by have := hr.lt; omega
  have hgxw : w.heap.size ≤ gx := by have := h1.lt; omega
  replace h1 := blk_then h1 hB5
  replace hr := blk_then hr hB5
  replace hO := hO.then_ hB5
  replace hM := hM.then_ hB5
  clear hG5 hgx hB5
  have hP : TOwn w5 base (rowsT (fun _ => 0) [] none 0) [] [] [] := ⟨Own.nil_ _ _ _ _ _, Own.nil_ _ _ _ _ _, Own.nil_ _ _ _ _ _, fun i hi => absurd hi (by simp [rowsT]), fun i j hi => absurd hi (by simp [rowsT]), fun a b h => by cases h⟩
  go_wp2_with (fail)
  go_loopw [6] (fun iv wr => ∃ (i : Nat) (rs : List RV) (A : Option Addr) (c : Nat), i ≤ x.rs.length ∧ iv = .int .i64 i ∧ Mid base N w wr ∧ Blk wr g1 47 (dfaC x.f x.A x.rs.length x.c x.B x.fo.length x.d x.C x.en.length x.e) ∧ Blk wr gr 47 (dfaC (fun _ => 0) none 0 0 none 0 0 none 0 0) ∧ Blk wr gx 47 (dfaC (fun _ => 0) A rs.length c none 0 0 none 0 0) ∧ TOwn wr base x [] [] [] ∧ TOwn wr base (rowsT (fun _ => 0) rs A c) [] [] [] ∧ (∀ b, A = some b → w.heap.size ≤ b.block) ∧ rs.map (·.l) = (x.rs.take i).map (fun r => r.l ++ [(m : Int)]) ∧ (∀ j (hj : j < rs.length) b, rs[j].a = some b → w.heap.size ≤ b.block ∨ ∃ (h : j < x.rs.length) (d : Addr), x.rs[j].a = some d ∧ d.block = b.block)) (fun iv _ => x.rs.length - (intOf iv).toNat)
  case atStart => exact ⟨0, [], none, 0, by omega, rfl, hM, h1, hr, hx, hO, hP, fun b hb => (by cases hb), rfl, fun j hj => (by cases hj)⟩
  case round =>
    clear hM h1 hr hx hO hP
    obtain ⟨i, rs, A, c, hi, rfl, hM, h1, hr, hx, hO, hP, hAp, hrs, hrb⟩ := hrel
    have hrl : rs.length = i := by
      have := congrArg List.length hrs
      simp only [List.length_map, List.length_take] at this
      omega
    replace hrs := Lib.hid hrs
    replace hrl := Lib.hid hrl
    replace hrb := Lib.hid hrb
    replace hAp := Lib.hid hAp
    by_cases hil : i < x.rs.length
    · have hiI : (i : Int) < x.rs.length := by omega
      obtain ⟨bX, oX, hXA, hbX, cR⟩ := slice_cell (hO.rows.slice_all rowC_size) (s := i) (by simpa using hil) (v := .slice x.rs[i].a x.rs[i].l.length x.rs[i].c) (by simp [rowC])
      have cX : wr.cell? ⟨g1, 256, none⟩ = some (.slice (some ⟨bX, oX, none⟩) x.rs.length x.c) := by rw [← hXA]; exact blk_d1 h1
      have hrow := hO.row i hil
      simp only [List.length_nil, Nat.add_zero, List.append_nil] at hrow
      have hbT := slice_cell (hO.rows.slice_all rowC_size) (s := i) (by simpa using hil) (v := .slice x.rs[i].a x.rs[i].l.length x.rs[i].c) (by simp [rowC])
      have hrl2 := hS.r _ (List.getElem_mem hil)
      obtain ⟨Ar, hAr⟩ : ∃ q, x.rs[i].a = q := ⟨_, rfl⟩
      obtain ⟨nr, hnr0⟩ : ∃ q, x.rs[i].l.length = q := ⟨_, rfl⟩
      obtain ⟨cr, hcr0⟩ : ∃ q, x.rs[i].c = q := ⟨_, rfl⟩
      obtain ⟨lr, hlr⟩ : ∃ q, x.rs[i].l = q := ⟨_, rfl⟩
      have hnr : nr = lr.length := by rw [← hnr0, hlr]
      rw [hnr0] at hrl2
      rw [hAr, hnr0, hcr0] at cR
      rw [hAr, hnr0, hcr0, hlr] at hrow
      have hlb : lr.length ≤ 1099511627776 := by omega
      have hOfi : ∀ b, Ar = some b → OfAll x b.block := fun b hb => .inr (.inr (.inr ⟨i, hil, b, by rw [hAr, hb], rfl⟩))
      have hrw : ∀ q, some q = (Value.slice Ar nr cr).ownBlock → OfAll x q := fun q e => by
        obtain ⟨b, h1, h2⟩ := block_of e.symm
        rw [← h2]
        exact hOfi b h1
      have hzz : ∀ q, w.heap.size ≤ q → some q ≠ (Value.slice Ar nr cr).ownBlock := fun q hq e => by
        have := (hall.out q (hrw q e)).2
        omega
      have hwwr : w.heap.size ≤ wr.heap.size := by have := h1.lt; omega
      have hz : ∀ q, wr.heap.size ≤ q → some q ≠ (Value.slice Ar nr cr).ownBlock := fun q hq => hzz q (by omega)
      have hne_x := hzz gx hgxw
      have hne_1 := hzz g1 hg1w
      have hne_r := hzz gr hgrw
      have hcr : ∀ X : World, wr.grownBy X (Value.slice Ar nr cr).ownBlock → X.cell? ⟨bX, oX + i * 1, none⟩ = some (.slice Ar nr cr) := fun X hg => by
        have hrX := own_own hO.rows hrow hg (by decide)
        obtain ⟨b2, o2, h2, _, c2⟩ := slice_cell (hrX.slice_all rowC_size) (s := i) (by simpa using hil) (v := .slice x.rs[i].a x.rs[i].l.length x.rs[i].c) (by simp [rowC])
        rw [hXA] at h2
        injection h2 with h2
        injection h2 with h3 h4
        rw [← h3, ← h4, hnr0, hAr, hcr0] at c2
        exact c2
      replace hXA := Lib.hid hXA
      replace hnr := Lib.hid hnr
      replace hAr := Lib.hid hAr
      replace hnr0 := Lib.hid hnr0
      replace hcr0 := Lib.hid hcr0
      replace hlr := Lib.hid hlr
      replace hOfi := Lib.hid hOfi
      replace hrw := Lib.hid hrw
      replace hzz := Lib.hid hzz
      have hcr1 := Lib.hid hcr
      clear hbT cR hcr
      go_upto_region 5 with (fail)
      have hcr := hcr1.out
      clear cX
      refine wp_region_stepsT (rw := (Value.slice Ar nr cr).ownBlock) (i0 := 9) 11 [eqS (.pointer (some ⟨gx, 256, none⟩)), eqS (.slice A rs.length c), eqS (.pointer (some ⟨g1, 256, none⟩)), eqS (.slice (some ⟨bX, oX, none⟩) x.rs.length x.c), eqS (.int .i64 (((i : Nat) : Int))), eqS (.pointer (some ⟨bX, oX + i * 1, none⟩)), eqS (.slice Ar nr cr), eqS (.int .i64 (((m : Nat) : Int))), zS wr.heap.size (m : Int), appS base wr.heap.size (Value.slice Ar nr cr).ownBlock Ar nr cr lr (m : Int), boxS base wr.heap.size (Value.slice Ar nr cr).ownBlock Ar nr cr lr (m : Int)] [15, 16, 17, 18, 19, 20, 21, 22, 23, 24, 25] rfl (fun j hj => ?_) (by kernel_rfl) rfl ?_ ?_
      · match j, hj with
        | 0, _ => exact .inr (fun _ _ _ hp _ => hp)
        | 1, _ => exact .inr (fun _ _ _ hp _ => hp)
        | 2, _ => exact .inr (fun _ _ _ hp _ => hp)
        | 3, _ => exact .inr (fun _ _ _ hp _ => hp)
        | 4, _ => exact .inr (fun _ _ _ hp _ => hp)
        | 5, _ => exact .inr (fun _ _ _ hp _ => hp)
        | 6, _ => exact .inr (fun _ _ _ hp _ => hp)
        | 7, _ => exact .inr (fun _ _ _ hp _ => hp)
        | 8, _ => exact .inr (fun v wa wb hp hg => by obtain ⟨g, q1, q2, q3⟩ := hp; exact ⟨g, q1, q2, q3.grown hg (hz g q2)⟩)
        | 9, hj => exact absurd rfl hj
        | 10, _ => exact .inl (by kernel_rfl)
        | j + 11, _ => exact .inr (fun _ _ _ hp _ => hp)
      · skip
        refine StepsT.cons (fun a' w' hG hW hP dep => GStepT.of (gs_field (want_none rfl) _ _ _ rfl gx (0) (256) (hG.other 5 rfl) (fun wz => field_dfa_1 gx (0) wz) rfl)) ?_
        refine StepsT.cons (fun a' w' hG hW hP dep => GStepT.of (gs_load1 (want_none rfl) _ _ rfl gx (256) (dep 0 rfl 15 rfl) (.slice A rs.length c) (blk_d1 (hx.grown hW hne_x)) _ Try.underlying45 rfl rfl)) ?_
        refine StepsT.cons (fun a' w' hG hW hP dep => GStepT.of (gs_field (want_none rfl) _ _ _ rfl g1 (0) (256) (hG.other 2 rfl) (fun wz => field_dfa_1 g1 (0) wz) rfl)) ?_
        refine StepsT.cons (fun a' w' hG hW hP dep => GStepT.of (gs_load1 (want_none rfl) _ _ rfl g1 (256) (dep 2 rfl 17 rfl) (.slice (some ⟨bX, oX, none⟩) x.rs.length x.c) (by have h9 := blk_d1 (h1.grown hW hne_1); rw [hXA.out] at h9; exact h9) _ Try.underlying45 rfl rfl)) ?_
        refine StepsT.cons (fun a' w' hG hW hP dep => GStepT.of (gs_move (want_none rfl) _ rfl (id (hG.other 6 rfl)))) ?_
        refine StepsT.cons (fun a' w' hG hW hP dep => GStepT.of (gs_index (want_none rfl) _ _ _ rfl under_rows 1 size_rowE bX oX x.rs.length x.c (i) (dep 3 rfl 18 rfl) (dep 4 rfl 19 rfl) hil rfl)) ?_
        refine StepsT.cons (fun a' w' hG hW hP dep => GStepT.of (gs_load1 (want_none rfl) _ _ rfl bX (oX + i * 1) (dep 5 rfl 20 rfl) (.slice Ar nr cr) (hcr _ hW) _ Try.underlying57 rfl rfl)) ?_
        refine StepsT.cons (fun a' w' hG hW hP dep => GStepT.of (gs_move (want_none rfl) _ rfl (id (hG.other 1 rfl)))) ?_
        refine StepsT.cons (fun a' w' hG hW hP dep => GStepT.of (gs_z1 (want_none rfl) _ rfl (m : Int) wr.heap.size hW.size (dep 7 rfl 22 rfl) (fun _ _ h => h))) ?_
        refine StepsT.cons (fun a' w' hG hW hP dep => gs_appZ (want_none rfl) _ _ rfl base wr.heap.size hW.size (by have := hW.size; omega) (dep 6 rfl 21 rfl) rfl (hrow.then_ (hP rfl)) hnr.out hlb (dep 8 rfl 23 rfl) (fun _ _ h => h)) ?_
        refine StepsT.cons (fun a' w' hG hW hP dep => GStepT.of (gs_box (want_none rfl) _ rfl (dep 9 rfl 24 rfl) (fun _ _ h => h))) ?_
        exact StepsT.nil
      intro u wq hW ans
      obtain ⟨g9, A', c', hu25, hb9, hnew, hold, hblk⟩ := ans 10 25 (by decide) rfl
      have hu16 : u 16 = .slice A rs.length c := ans 1 16 (by decide) rfl
      clear ans
      simp only [putAll, List.foldl_cons, List.foldl_nil, Act.put, List.setIfInBounds_toArray, List.set_cons_zero, List.set_cons_succ, hu16, hu25]
      clear hu16 hu25
      simp only [List.drop]
      have hapA : ∀ j (hj : j < (rowsT (fun _ => 0) rs A c).rs.length) a b, (rowsT (fun _ => 0) rs A c).rs[j].a = some a → Ar = some b → a.block ≠ b.block := fun j hj a b ha hb => by
        have hj2 : j < rs.length := hj
        have hji : j < i := by rw [← hrl.out]; exact hj2
        have hbl := (hall.out _ (hOfi.out b hb)).2
        rcases hrb.out j hj2 a ha with h1 | ⟨h1, d, h2, h3⟩
        · omega
        · have := hO.ap j i h1 hil d b (by omega) h2 (by rw [hAr.out, hb])
          omega
      have hapN : ∀ j (hj : j < (rowsT (fun _ => 0) rs A c).rs.length) a b, (rowsT (fun _ => 0) rs A c).rs[j].a = some a → A' = some b → a.block ≠ b.block := fun j hj a b ha hb => by
        rcases hblk b hb with h1 | h1
        · obtain ⟨d, h2, h3⟩ := block_of h1.symm
          have := hapA j hj a d ha h2
          omega
        · have := (hP.rowLt hj ha).2
          omega
      have hPq := hP.ownI hrow hW hapA
      have hOq := hO.turn hil (by rw [hAr.out, hnr0.out, hcr0.out]; exact hW) (by rw [hAr.out, hnr0.out, hcr0.out, hlr.out]; exact hold)
      have hMq := hM.grown hW (fun q e => .inl ⟨(hall.out q (hrw.out q e.symm)).1, hN.out q (hrw.out q e.symm)⟩)
      replace h1 := h1.grown hW hne_1
      replace hr := hr.grown hW hne_r
      replace hx := hx.grown hW hne_x
      have hzq := hW.size
      clear hP hO hM hW hapA hrow hcr hcr1 hne_1 hne_r hne_x hz hold
      have hlN : (lr ++ [(m : Int)]).length = nr + 1 := by rw [hnr.out]; simp
      have hb9' : Blk wq g9 57 (rowC ⟨A', c', lr ++ [(m : Int)]⟩) := by unfold rowC; simp only [hlN]; exact hb9
      have hor := hPq.rows
      simp only [List.length_nil, Nat.add_zero, List.append_nil] at hor
      refine wl_catV rfl _ _ rfl base rs [⟨A', c', lr ++ [(m : Int)]⟩] rfl hor rfl rfl rfl (slice_one (enc := rowC) hb9') (by rw [hrl.out]; omega) (by simp) (by omega) ?_
      intro A9 c9 w9 ho9 hG9 hv9
      have hl9 : (rs ++ [(⟨A', c', lr ++ [(m : Int)]⟩ : RV)]).length = rs.length + 1 := by simp
      rw [hl9] at ho9 hv9 ⊢
      have hout := blk_own2 hx hor hG9 (by decide)
      simp only [Act.put, List.setIfInBounds_toArray, List.set_cons_zero, List.set_cons_succ]
      replace hl9 := Lib.hid hl9
      replace hlN := Lib.hid hlN
      go_upto_region 4 with (refine wl_store_d1 rfl _ _ rfl gx rfl rfl hout ?_; intro wa hxa hGa)
      try simp only [Act.put]
      have hnew9 : Own w9 base 3 1 encZ (.slice A' ((lr ++ [(m : Int)]).length + 0) c') ((lr ++ [(m : Int)]) ++ []) := by
        rw [List.append_nil, Nat.add_zero, hlN.out]
        exact own_own hnew hor hG9 (by decide)
      have hP2 : TOwn wa base (rowsT (fun _ => 0) (rs ++ [⟨A', c', lr ++ [(m : Int)]⟩]) A9 c9) [] [] [] := (hPq.addRow hG9 ho9 (r := ⟨A', c', lr ++ [(m : Int)]⟩) hnew9 (fun j hj a b ha hb => hapN j hj a b ha hb)).box hout hGa (by decide) (by decide) (by decide)
      have hO2 : TOwn wa base x [] [] [] := hOq.keep (fun k hk => by
        have hkl := (hall.out k hk).2
        have h1 := hG9.block k (by omega) (fun e => by
          obtain ⟨b, h2, h3⟩ := block_of e.symm
          have := hAp.out b h2
          omega)
        have h2 := hGa.block k (by have := hG9.size; omega) (fun e => by injection e with e; omega)
        exact h2.trans h1)
      replace h1 := (blk_own2 h1 hor hG9 (by decide)).grown hGa (by simpa using n1x)
      replace hr := (blk_own2 hr hor hG9 (by decide)).grown hGa (by simpa using nrx)
      have hM2 := (hMq.grown hG9 (fun q e => .inr (by
        obtain ⟨b, h2, h3⟩ := block_of e
        have := hAp.out b h2
        omega))).grown hGa (fun q e => .inr (by injection e with e; omega))
      have hAp2 : ∀ b, A9 = some b → w.heap.size ≤ b.block := own_ge hv9 hAp.out (by omega)
      have hrs2 : (rs ++ [(⟨A', c', lr ++ [(m : Int)]⟩ : RV)]).map (·.l) = (x.rs.take (i + 1)).map (fun r => r.l ++ [(m : Int)]) := by
        rw [List.take_succ_eq_append_getElem hil]
        simp only [List.map_append, List.map_cons, List.map_nil]
        rw [hrs.out, hlr.out]
      have hrb2 : ∀ j (hj : j < (rs ++ [(⟨A', c', lr ++ [(m : Int)]⟩ : RV)]).length) b, (rs ++ [(⟨A', c', lr ++ [(m : Int)]⟩ : RV)])[j].a = some b → w.heap.size ≤ b.block ∨ ∃ (h : j < x.rs.length) (d : Addr), x.rs[j].a = some d ∧ d.block = b.block := fun j hj b hb => by
        by_cases e : j < rs.length
        · rw [List.getElem_append_left e] at hb
          exact hrb.out j e b hb
        · have hje : j = rs.length := by rw [hl9.out] at hj; omega
          subst hje
          simp at hb
          rcases hblk b hb with h1 | h1
          · obtain ⟨d, h2, h3⟩ := block_of h1.symm
            right
            refine ⟨by rw [hrl.out]; exact hil, d, ?_, h3⟩
            simp only [hrl.out]
            rw [hAr.out, h2]
          · left; omega
      replace hrb2 := Lib.hid hrb2
      replace hrs2 := Lib.hid hrs2
      replace hAp2 := Lib.hid hAp2
      clear hG9 hv9 ho9 hout hGa hor hb9 hb9' hnew hnew9 hPq hOq hMq hx hblk hapN hrb hAp hrs
      go_wp2_with (fail)
      exact ⟨⟨i + 1, _, A9, c9, hil, rfl, hM2, h1, hr, by rw [hl9.out]; exact hxa, hO2, hP2, hAp2.out, hrs2.out, hrb2.out⟩, by simp only [intOf]; omega⟩
    · have hiI : ¬ (i : Int) < x.rs.length := by omega
      have hie : i = x.rs.length := by omega
      have hrs3 : rs.map (·.l) = x.rs.map (fun r => r.l ++ [(m : Int)]) := by rw [hrs.out, hie, List.take_length]
      replace hrs3 := Lib.hid hrs3
      have hfe := hO.fe
      replace hfe := Lib.hid hfe
      have hmI : (m : Int) ≤ 1000 := by omega
      have cX : wr.cell? ⟨g1, 256, none⟩ = some (.slice x.A x.rs.length x.c) := blk_d1 h1
      have hzW0 : w.heap.size ≤ wr.heap.size := by have := h1.lt; omega
      clear hie hrs
      go_upto_region 6 with (fail)
      clear cX
      have hfo := hO.fo
      simp only [List.length_nil, Nat.add_zero, List.append_nil] at hfo
      have cW2 : wr.cell? ⟨g1, 257, none⟩ = some (.slice x.B x.fo.length x.d) := blk_d2 h1
      go_upto_region 7 with (first | (refine wl_u1 rfl _ rfl m (by first | rfl | (simp [Act.eval, IntKind.wrap_u32]; omega)) ?_) | (at_builtin; refine park ?_))
      refine Parked.mk ?_
      have hBa : Below wr.heap.size wr (wr.alloc (.cells (encR m) 55)) := below_alloc (Below.refl _ _) _
      have hfa := hfo.then_ hBa
      obtain ⟨iU, hiU, hU0, hU1, hU2⟩ := info_parts info_u3
      refine wl_append_keep rfl _ _ 32 rfl base 55 iU _ 1 4 Try.underlying32 hiU hU0 hU1 hU2 rfl (by decide) encR_size encR_one (.slice x.B x.fo.length x.d) x.fo rfl hfa _ _ 1 1 [m] rfl rfl (slice_one (enc := encR) (Blk.new wr _ _)) (by unfold maxLen; omega) (by omega) (by have := hBa.size; have := h1.lt; omega) ?_
      intro v8 w8F ho8 hold8 hG8 hv8
      obtain ⟨A8F, c8F, rfl, _, _⟩ := ho8.shape
      have hl8 : (x.fo ++ [m]).length = x.fo.length + 1 := by simp
      rw [hl8] at ho8 hv8 ⊢
      have hzW : w.heap.size ≤ wr.heap.size := by have := h1.lt; omega
      have hge : ∀ b, A8F = some b → (∃ d, x.B = some d ∧ d.block = b.block) ∨ wr.heap.size ≤ b.block := fun b hb => by
        subst hb
        rcases hv8 with hv8 | hv8
        · left
          obtain ⟨d, h1, h2⟩ := block_of hv8.symm
          exact ⟨d, h1, h2⟩
        · right
          have e : b.block = (wr.alloc (.cells (encR m) 55)).heap.size := by simpa [Value.ownBlock] using hv8
          have := hBa.size
          omega
      replace h1 := blk_own2 (blk_then h1 hBa) hfa hG8 (by decide)
      replace hr := blk_own2 (blk_then hr hBa) hfa hG8 (by decide)
      have hout := blk_own2 (blk_then hx hBa) hfa hG8 (by decide)
      replace hP := rows_words (hP.then_ hBa) hfa hG8
      replace hO := (hO.then_ hBa).turnF hG8 hold8
      replace hM := (hM.then_ hBa).grown hG8 (fun q e => .inl ⟨(hfa.lt q e).1, hN.out q (.inr (.inl (block_of e)))⟩)
      replace hge := Lib.hid hge
      clear hx hfo hfa hBa hG8 hold8 hv8 cW2 hiU hU0 hU1 hU2 hl8 hzW
      simp only [Act.put, List.setIfInBounds_toArray, List.set_cons_zero, List.set_cons_succ]
      go_upto_region 7 with (refine wl_store_d2 rfl _ _ rfl gx rfl rfl hout ?_; intro w9F hx hGa)
      try simp only [Act.put]
      replace h1 := blk_grown h1 hGa n1x
      replace hr := blk_grown hr hGa nrx
      replace hP := hP.box hout hGa (by decide) (by decide) (by decide)
      replace hO := hO.box hout hGa (by decide) (by decide) (by decide)
      have hoF := own_box ho8 hout hGa (by decide)
      have hltF : ∀ b, A8F = some b → b.block < w9F.heap.size := fun b hb => (hoF.lt b.block (by rw [hb]; rfl)).2
      replace hltF := Lib.hid hltF
      replace hM := hM.grown hGa (fun q e => .inr (by injection e with e; omega))
      have hgeF := hge
      have hzw := Lib.hid hzW0
      have hzw9 : w.heap.size ≤ w9F.heap.size := hM.size
      replace hzw9 := Lib.hid hzw9
      clear ho8 hout hGa hge
      have hfo := hO.en
      simp only [List.length_nil, Nat.add_zero, List.append_nil] at hfo
      have cW2 : w9F.cell? ⟨g1, 258, none⟩ = some (.slice x.C x.en.length x.e) := blk_d3 h1
      go_upto_region 8 with (first | (refine wl_u1 rfl _ rfl (m + 1) (by first | rfl | (simp [Act.eval, IntKind.wrap_u32]; omega)) ?_) | (at_builtin; refine park ?_))
      refine Parked.mk ?_
      have hBa : Below w9F.heap.size w9F (w9F.alloc (.cells (encR (m + 1)) 55)) := below_alloc (Below.refl _ _) _
      have hfa := hfo.then_ hBa
      obtain ⟨iU, hiU, hU0, hU1, hU2⟩ := info_parts info_u3
      refine wl_append_keep rfl _ _ 32 rfl base 55 iU _ 1 4 Try.underlying32 hiU hU0 hU1 hU2 rfl (by decide) encR_size encR_one (.slice x.C x.en.length x.e) x.en rfl hfa _ _ 1 1 [(m + 1)] rfl rfl (slice_one (enc := encR) (Blk.new w9F _ _)) (by unfold maxLen; omega) (by omega) (by have := hBa.size; have := h1.lt; omega) ?_
      intro v8 w8E ho8 hold8 hG8 hv8
      obtain ⟨A8E, c8E, rfl, _, _⟩ := ho8.shape
      have hl8 : (x.en ++ [(m + 1)]).length = x.en.length + 1 := by simp
      rw [hl8] at ho8 hv8 ⊢
      have hzW : w.heap.size ≤ w9F.heap.size := by have := h1.lt; omega
      have hge : ∀ b, A8E = some b → (∃ d, x.C = some d ∧ d.block = b.block) ∨ w9F.heap.size ≤ b.block := fun b hb => by
        subst hb
        rcases hv8 with hv8 | hv8
        · left
          obtain ⟨d, h1, h2⟩ := block_of hv8.symm
          exact ⟨d, h1, h2⟩
        · right
          have e : b.block = (w9F.alloc (.cells (encR (m + 1)) 55)).heap.size := by simpa [Value.ownBlock] using hv8
          have := hBa.size
          omega
      replace hoF := (hoF.then_ hBa).kept_ hG8 (fun q e1 e2 => by
        obtain ⟨b1, q1, q2⟩ := block_of e1
        obtain ⟨b2, q3, q4⟩ := block_of e2
        rcases hgeF.out b1 q1 with ⟨d, q5, q6⟩ | q5
        · exact hfe.out d b2 q5 q3 (by omega)
        · have := (hall.out b2.block (.inr (.inr (.inl ⟨b2, q3, rfl⟩)))).2
          have := hzw.out
          omega)
      replace h1 := blk_own2 (blk_then h1 hBa) hfa hG8 (by decide)
      replace hr := blk_own2 (blk_then hr hBa) hfa hG8 (by decide)
      have hout := blk_own2 (blk_then hx hBa) hfa hG8 (by decide)
      replace hP := rows_words (hP.then_ hBa) hfa hG8
      replace hO := (hO.then_ hBa).turnE hG8 hold8
      replace hM := (hM.then_ hBa).grown hG8 (fun q e => .inl ⟨(hfa.lt q e).1, hN.out q (.inr (.inr (.inl (block_of e))))⟩)
      replace hge := Lib.hid hge
      clear hx hfo hfa hBa hG8 hold8 hv8 cW2 hiU hU0 hU1 hU2 hl8 hzW
      simp only [Act.put, List.setIfInBounds_toArray, List.set_cons_zero, List.set_cons_succ]
      go_upto_region 8 with (refine wl_store_d3 rfl _ _ rfl gx rfl rfl hout ?_; intro w9E hx hGa)
      try simp only [Act.put]
      replace h1 := blk_grown h1 hGa n1x
      replace hr := blk_grown hr hGa nrx
      replace hP := hP.box hout hGa (by decide) (by decide) (by decide)
      replace hO := hO.box hout hGa (by decide) (by decide) (by decide)
      have hoE := own_box ho8 hout hGa (by decide)
      replace hoF := own_box hoF hout hGa (by decide)
      replace hM := hM.grown hGa (fun q e => .inr (by injection e with e; omega))
      have hgeE := hge
      clear ho8 hout hGa hge
      have hne : ∀ a b, A8F = some a → A8E = some b → a.block ≠ b.block := fun a b ha hb => by
        have q1 := hltF.out a ha
        rcases hgeE.out b hb with ⟨d, q2, q3⟩ | q2
        · have q4 := (hall.out d.block (.inr (.inr (.inl ⟨d, q2, rfl⟩)))).2
          rcases hgeF.out a ha with ⟨d2, q5, q6⟩ | q5
          · have := hfe.out d2 d q5 q2
            omega
          · omega
        · omega
      replace hne := Lib.hid hne
      go_wp2_with (first | (refine wl_load_dfa rfl _ rfl gx rfl hx ?_) | (refine wl_store_dfa rfl _ _ rfl gr rfl rfl hr ?_; intro wg hrg hGg))
      refine ret_cell rfl _ rfl hrg Try.underlying47 rfl (info_dfa.trans (by rw [dfaC_size])) rfl ?_
      have hfl : (x.fo ++ [m]).length = x.fo.length + 1 := by simp
      have hel : (x.en ++ [m + 1]).length = x.en.length + 1 := by simp
      refine ⟨⟨fun _ => 0, rs, A, c, x.fo ++ [m], A8F, c8F, x.en ++ [m + 1], A8E, c8E⟩, by simp only [hfl, hel], hM.grown hGg (fun q e => .inr (by injection e with e; omega)), hO.box hr hGg (by decide) (by decide) (by decide), ?_, ?_, hrs3.out, rfl, rfl⟩
      · exact (rows_full hP (by simpa using hoF) (by simpa using hoE) hne.out).box hr hGg (by decide) (by decide) (by decide)
      · intro k hk
        rcases hk with ⟨a, q1, rfl⟩ | ⟨a, q1, rfl⟩ | ⟨a, q1, rfl⟩ | ⟨i, hi, a, q1, rfl⟩
        · exact .inr (hAp.out a q1)
        · rcases hgeF.out a q1 with ⟨d, q2, q3⟩ | q2
          · exact .inl (.inr (.inl ⟨d, q2, q3⟩))
          · exact .inr (by omega)
        · rcases hgeE.out a q1 with ⟨d, q2, q3⟩ | q2
          · exact .inl (.inr (.inr (.inl ⟨d, q2, q3⟩)))
          · exact .inr (by have := hzw9.out; omega)
        · rcases hrb.out i hi a q1 with q2 | ⟨q2, d, q3, q4⟩
          · exact .inr q2
          · exact .inl (.inr (.inr (.inr ⟨i, q2, d, q3, q4⟩)))
theorem enter_gro (args : Array Value) (w : World) : (callFunc 27 args).run Try.prog w = .ok (.enter 27 args) w := by kernel_rfl
end Go.Proofs.Ytgahdookojbbiaa
