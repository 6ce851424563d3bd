/- heronref11.Make: the least table of a table that fits. No condition beyond those named in each lemma. -/
import Derived.Test.YtgahdookojbbiaaLMake0
namespace Go.Proofs.Ytgahdookojbbiaa
open Go.RowKit Go.Maps
set_option linter.unusedVariables false
set_option linter.unusedSimpArgs false
attribute [local go_sem] Oper.semAt_some

theorem build_dfa1 (f : Nat → Int) (w : World) : (Instr.build 47 #[(0, .agg (clsC f))]).run Try.prog w = .ok (.agg (dfaC f none 0 0 none 0 0 none 0 0)) w := by unfold dfaC; kernel_rfl
section
variable {ops : Array Oper} {rest : List Oper} {o : Oper} {a : Act} {w : World} {Q : Exit → Act → World → Prop}
theorem wl_build_dfa0 (hgd : o.guard = none) (ho : o.op = .build 47 #[]) (h : wpList Try.prog ops Q rest (a.put o.dst (.agg (dfaC (fun _ => 0) none 0 0 none 0 0 none 0 0))) w) : wpList Try.prog ops Q (o :: rest) a w :=
  wpList_plain hgd fun _ hK => by
    unfold Oper.wp execOp
    simp only [ho, List.map_toArray, List.map_nil, Sem.run_bind, build_dfa0, Result.andThen_ok, Sem.run_pure]
    exact hK _ _ h
theorem wl_build_dfa1 (hgd : o.guard = none) (x : Operand) (ho : o.op = .build 47 #[(0, x)]) (f : Nat → Int) (hx : a.eval x = .agg (clsC f)) (h : wpList Try.prog ops Q rest (a.put o.dst (.agg (dfaC f none 0 0 none 0 0 none 0 0))) w) : wpList Try.prog ops Q (o :: rest) a w :=
  wpList_plain hgd fun _ hK => by
    have e : (#[(0, x)] : Array (Nat × Operand)).map (fun (i, x) => (i, a.eval x)) = #[(0, .agg (clsC f))] := by simp [hx]
    unfold Oper.wp execOp
    simp only [ho, e, Sem.run_bind, build_dfa1, Result.andThen_ok, Sem.run_pure]
    exact hK _ _ h
theorem ret_dfa2 {fn : Func} {p u : Tmp} {g : Nat} {f : Nat → Int} {A : Option Addr} {n c : Nat} {B : Option Addr} {m d : Nat} {C : Option Addr} {k e : Nat} (hres : fn.results = #[.cell p 47, .tmp u])
    (hp : a.tmps.getD p undef = .pointer (some ⟨g, 0, none⟩)) (hb : Blk w g 47 (dfaC f A n c B m d C k e))
    (hdf : a.defers = []) {R : Ending → World → Prop} (hR : R (.returned (.tuple #[.agg (dfaC f A n c B m d C k e), a.tmps.getD u undef])) w) : bodyPost Try.prog fn R .ret a w :=
  ret_cell2 hres _ hp hb Try.underlying47 rfl (info_dfa.trans (by rw [dfaC_size])) hdf hR
theorem run_row1 (w : World) (a : Option Addr) (n c : Nat) : (Instr.buildSlice 45 1 #[(0, .slice a n c)]).run Try.prog w = .ok (.slice (some ⟨w.heap.size, 0, none⟩) 1 1) (w.alloc (.cells #[.slice a n c] 57)) := by kernel_rfl
theorem wl_row1 (hgd : o.guard = none) (x : Operand) (ho : o.op = .buildSlice 45 1 #[(0, x)]) (r : RV) (hx : a.eval x = .slice r.a r.l.length r.c)
    (h : wpList Try.prog ops Q rest (a.put o.dst (.slice (some ⟨w.heap.size, 0, none⟩) 1 1)) (w.alloc (.cells (rowC r) 57))) : wpList Try.prog ops Q (o :: rest) a w :=
  wpList_plain hgd fun _ hK => by
    unfold Oper.wp execOp
    simp only [ho, List.map_toArray, List.map_cons, List.map_nil, hx, Sem.run_bind, run_row1, Result.andThen_ok, Sem.run_pure]
    exact hK _ _ h
theorem run_int1 (w : World) (y : Int) : (Instr.buildSlice 57 1 #[(0, .int .i64 y)]).run Try.prog w = .ok (.slice (some ⟨w.heap.size, 0, none⟩) 1 1) (w.alloc (.cells (encZ y) 3)) := by kernel_rfl
theorem wl_int1 (hgd : o.guard = none) (x : Operand) (ho : o.op = .buildSlice 57 1 #[(0, x)]) (y : Int) (hx : a.eval x = .int .i64 y)
    (h : wpList Try.prog ops Q rest (a.put o.dst (.slice (some ⟨w.heap.size, 0, none⟩) 1 1)) (w.alloc (.cells (encZ y) 3))) : wpList Try.prog ops Q (o :: rest) a w :=
  wpList_plain hgd fun _ hK => by
    unfold Oper.wp execOp
    simp only [ho, List.map_toArray, List.map_cons, List.map_nil, hx, Sem.run_bind, run_int1, Result.andThen_ok, Sem.run_pure]
    exact hK _ _ h
end
theorem fitsB_cases (T : Tb) : (fitsB T = true ∧ Fits T) ∨ (fitsB T = false ∧ ¬ Fits T) := by
  by_cases h : Fits T
  · exact .inl ⟨fitsB_yes h, h⟩
  · exact .inr ⟨fitsB_no h, h⟩
section
variable {A : Au} {k : Nat → Int}
theorem leastT_cls (A : Au) (k : Nat → Int) : clsC (fun b => (num (vec A k) b : Nat)) = clsC (leastT A k).cls := clsC_ext fun b hb => by
  show _ = if b < 256 then (num (vec A k) b : Int) else 0
  rw [if_pos hb]
theorem reps_len (A : Au) (k : Nat → Int) : (firsts (vec A k) 256).length = (reps A k).length := (fb_length _ _).symm
theorem reps_le (A : Au) (k : Nat → Int) : (reps A k).length ≤ 256 := by rw [← reps_len]; exact firsts_length_le _ _
end
/-- the lists under way: the row of states, their numbers, the table so far -/
structure RMI (x : TV) (K : Nat → Int) (go bv : Nat) (wr : World) (L : List Nat) (y : TV) (A : Option Addr) (c : Nat) : Prop where
  out : Blk wr go 47 y.C'
  own : TOwn wr bv y [] [] []
  row : Own wr bv 3 1 encZ (.slice A L.length c) (zs L)
  ap : ∀ j (hj : j < y.rs.length) a b, y.rs[j].a = some a → A = some b → a.block ≠ b.block
  yf : y.f = (leastT x.T.au K).cls
/-- of the first i states the table is laid -/
structure YI (x : TV) (K : Nat → Int) (i : Nat) (y : TV) : Prop where
  nx : y.rs.map (·.l) = ((likes x.T.au K).take i).map (rowL x.T.au K)
  fo : y.fo = ((likes x.T.au K).take i).map fun s => (x.T.au.out s).1
  en : y.en = ((likes x.T.au K).take i).map fun s => (x.T.au.out s).2
section
variable {x : TV} {K : Nat → Int} {go bv g c : Nat} {W W' : World} {L : List Nat} {y : TV} {A : Option Addr} {cs : Array Value}
theorem blk_fc {w : World} {g b nb : Nat} {f : Nat → Int} (h : Blk w g 44 (clsC f)) (hb : b < 256) (hn : f b = (nb : Int)) : w.cell? ⟨g, 0 + b * 1, none⟩ = some (.int .i64 (nb : Nat)) := by
  rw [show 0 + b * 1 = b by omega, blk_clsv h hb, hn]
theorem blk_arr_eq {w : World} {g n i : Nat} {K : Nat → Int} {z : Int} {t : TypeId} (h : Blk w g t (arr eZ n K)) (hi : i < n) (e : K i = z) : w.cell? ⟨g, 0 + i * 1, none⟩ = some (.int .i64 z) := by
  rw [blk_arr h hi, ← e]
  rfl
theorem block_push {A A' : Option Addr} {n n' c c' N g : Nat} (hv : (Value.slice A' n' c').ownBlock = (Value.slice A n c).ownBlock ∨ (Value.slice A' n' c').ownBlock = some N) (h : ∀ b, A = some b → b.block ≠ g) (hN : N ≠ g) : ∀ b, A' = some b → b.block ≠ g := by
  rintro b rfl
  rw [ownBlock_slice, ownBlock_slice] at hv
  rcases hv with hv | hv
  · rcases hA : A with _ | b'
    · rw [hA] at hv; cases hv
    · rw [hA] at hv
      have := h b' hA
      simp at hv
      omega
  · simp at hv
    omega
theorem slice_ne {A : Option Addr} {n c g : Nat} (h : ∀ b, A = some b → b.block ≠ g) : some g ≠ (Value.slice A n c).ownBlock := by
  rw [ownBlock_slice]
  intro e
  rcases hA : A with _ | b
  · rw [hA] at e; cases e
  · rw [hA] at e
    simp at e
    exact h b hA e.symm
theorem RMI.then_ (h : RMI x K go bv W L y A c) (hb : Below W.heap.size W W') : RMI x K go bv W' L y A c :=
  ⟨blk_then h.out hb, h.own.then_ hb, h.row.then_ hb, h.ap, h.yf⟩
theorem RMI.low (h : RMI x K go bv W L y A c) (hg : W.grownBy W' (some g)) (h1 : g < bv) (h2 : go ≠ g) : RMI x K go bv W' L y A c :=
  ⟨h.out.grown hg (by simpa using h2), h.own.low hg h1, own_low h.row hg h1, h.ap, h.yf⟩
theorem RMI.far (h : RMI x K go bv W L y A c) (hb : Blk W g 3 cs) (hg : W.grownBy W' (some g)) (h2 : go ≠ g) (h3 : ∀ b, A = some b → b.block ≠ g) (h4 : ∀ j (hj : j < y.rs.length) a, y.rs[j].a = some a → a.block ≠ g) : RMI x K go bv W' L y A c :=
  ⟨h.out.grown hg (by simpa using h2), h.own.ints hb hg h4, h.row.kept_ hg (fun j e1 e2 => by
    rw [ownBlock_slice] at e1
    injection e2 with e2
    rcases hA : A with _ | b
    · rw [hA] at e1; cases e1
    · rw [hA] at e1
      have := h3 b hA
      simp at e1
      omega), h.ap, h.yf⟩
theorem RMI.push {A' : Option Addr} {c' t : Nat} (h : RMI x K go bv W L y A c) (hlo : go < bv) (hg : W.grownBy W' (Value.slice A L.length c).ownBlock) (ho : Own W' bv 3 1 encZ (.slice A' (L.length + 1) c') (zs L ++ [(t : Int)]))
    (hv : (Value.slice A' (L.length + 1) c').ownBlock = (Value.slice A L.length c).ownBlock ∨ (Value.slice A' (L.length + 1) c').ownBlock = some W.heap.size) : RMI x K go bv W' (L ++ [t]) y A' c' := by
  refine ⟨blk_own h.out h.row hg hlo, h.own.ownI h.row hg h.ap, ?_, fun j hj a b ha hb => ?_, h.yf⟩
  · rw [zs_add, List.length_append]; exact ho
  · rw [ownBlock_slice, ownBlock_slice, hb] at hv
    rcases hv with hv | hv
    · rcases hA : A with _ | b'
      · rw [hA] at hv; cases hv
      · rw [hA] at hv
        have := h.ap j hj a b' ha hA
        simp at hv
        omega
    · have := (h.own.rowLt hj ha).2
      simp at hv
      omega
end
section
variable {x : TV} {K : Nat → Int} {go bv c A8c : Nat} {W W' W2 : World} {L : List Nat} {y : TV} {A A8 : Option Addr} {cs : Array Value} {r : RV} {v : Nat}
theorem RMI.addRow (h : RMI x K go bv W L y A c) (hg : W.grownBy W' (Value.slice y.A y.rs.length y.c).ownBlock) (ho : Own W' bv 57 1 rowC (.slice A8 (y.rs.length + 1) A8c) (y.rs ++ [r])) (hr : Own W' bv 3 1 encZ (.slice r.a (r.l.length + 0) r.c) (r.l ++ []))
    (hrx : ∀ i (hi : i < y.rs.length) a b, y.rs[i].a = some a → r.a = some b → a.block ≠ b.block) (hrA : ∀ a b, r.a = some a → A = some b → a.block ≠ b.block) (hb : Blk W' go 47 cs) (hG : W'.grownBy W2 (some go)) (hout : Blk W2 go 47 (TV.C' { y with rs := y.rs ++ [r], A := A8, c := A8c })) :
    RMI x K go bv W2 L { y with rs := y.rs ++ [r], A := A8, c := A8c } A c := by
  have h0 := h.own.rows
  simp only [List.length_nil, Nat.add_zero, List.append_nil] at h0
  refine ⟨hout, (h.own.addRow hg ho hr hrx).box hb hG (by decide) (by decide) (by decide), own_box (own_own h.row h0 hg (by decide)) hb hG (by decide), fun j hj a b ha hb2 => ?_, h.yf⟩
  simp only [List.length_append, List.length_singleton] at hj
  by_cases e : j < y.rs.length
  · simp only [List.getElem_append_left e] at ha
    exact h.ap j e a b ha hb2
  · have : j = y.rs.length := by omega
    subst this
    simp at ha
    exact hrA a b ha hb2
theorem RMI.addFo (h : RMI x K go bv W L y A c) (hg : W.grownBy W' (Value.slice y.B y.fo.length y.d).ownBlock) (ho : Own W' bv 55 1 encR (.slice A8 (y.fo.length + 1) A8c) (y.fo ++ [v]))
    (hv : (Value.slice A8 (y.fo.length + 1) A8c).ownBlock = (Value.slice y.B y.fo.length y.d).ownBlock ∨ (Value.slice A8 (y.fo.length + 1) A8c).ownBlock = some W.heap.size) (hb : Blk W' go 47 cs) (hG : W'.grownBy W2 (some go)) (hout : Blk W2 go 47 (TV.C' { y with fo := y.fo ++ [v], B := A8, d := A8c })) :
    RMI x K go bv W2 L { y with fo := y.fo ++ [v], B := A8, d := A8c } A c := by
  have h0 := h.own.fo
  simp only [List.length_nil, Nat.add_zero, List.append_nil] at h0
  exact ⟨hout, (h.own.addFo hg ho hv).box hb hG (by decide) (by decide) (by decide), own_box (own_own h.row h0 hg (by decide)) hb hG (by decide), h.ap, h.yf⟩
theorem RMI.addEn (h : RMI x K go bv W L y A c) (hg : W.grownBy W' (Value.slice y.C y.en.length y.e).ownBlock) (ho : Own W' bv 55 1 encR (.slice A8 (y.en.length + 1) A8c) (y.en ++ [v]))
    (hv : (Value.slice A8 (y.en.length + 1) A8c).ownBlock = (Value.slice y.C y.en.length y.e).ownBlock ∨ (Value.slice A8 (y.en.length + 1) A8c).ownBlock = some W.heap.size) (hb : Blk W' go 47 cs) (hG : W'.grownBy W2 (some go)) (hout : Blk W2 go 47 (TV.C' { y with en := y.en ++ [v], C := A8, e := A8c })) :
    RMI x K go bv W2 L { y with en := y.en ++ [v], C := A8, e := A8c } A c := by
  have h0 := h.own.en
  simp only [List.length_nil, Nat.add_zero, List.append_nil] at h0
  exact ⟨hout, (h.own.addEn hg ho hv).box hb hG (by decide) (by decide) (by decide), own_box (own_own h.row h0 hg (by decide)) hb hG (by decide), h.ap, h.yf⟩
theorem take_snoc {β : Type} (l : List Nat) (g : Nat → β) {i s : Nat} (hi : i < l.length) (e : l[i] = s) : (l.take i).map g ++ [g s] = (l.take (i + 1)).map g := by
  rw [List.take_succ_eq_append_getElem hi, List.map_append, e]; rfl
end
/-- what Make answers -/
def MakeAns (w w' : World) (e : Ending) (T : Tb) : Prop := Below w.heap.size w w' ∧ ∃ y : TV, e = .returned (.tuple #[.agg y.C', .int .i64 (if fitsB T then 0 else 70)]) ∧ TOwn w' w.heap.size y [] [] [] ∧ y.T = leastOf T
set_option maxRecDepth 100000 in
set_option maxHeartbeats 4000000 in
theorem rmake_any (x : TV) (w : World) (hT : TabIn w w.heap.size x) :
    Calls Try.prog 20 #[.agg x.C'] w fun e w' => MakeAns w w' e x.T := by
  have hCg : TV.C' x = TV.C' x := rfl
  unfold TV.C' at hCg ⊢
  have hz := zero_dfa
  go_enter Try.func20, Try.ntmps20
  obtain ⟨A, hA⟩ : ∃ A, A = x.A := ⟨_, rfl⟩
  have h1 := (Blk.new w 47 (dfaC x.f x.A x.rs.length x.c x.B x.fo.length x.d x.C x.en.length x.e)).alloc (.cells (dfaC (fun _ => 0) none 0 0 none 0 0 none 0 0) 47)
  have hB1 := below_alloc (below_alloc (Below.refl w.heap.size w) (.cells (dfaC x.f x.A x.rs.length x.c x.B x.fo.length x.d x.C x.en.length x.e) 47)) (.cells (dfaC (fun _ => 0) none 0 0 none 0 0 none 0 0) 47)
  have hr : Blk ((w.alloc (.cells (dfaC x.f x.A x.rs.length x.c x.B x.fo.length x.d x.C x.en.length x.e) 47)).alloc (.cells (dfaC (fun _ => 0) none 0 0 none 0 0 none 0 0) 47)) (w.heap.size + 1) 47 (dfaC (fun _ => 0) none 0 0 none 0 0 none 0 0) := Blk.new' _ _ _ (World.size_alloc _ _).symm
  have hc := rright_any x ((w.alloc (.cells (dfaC x.f x.A x.rs.length x.c x.B x.fo.length x.d x.C x.en.length x.e) 47)).alloc (.cells (dfaC (fun _ => 0) none 0 0 none 0 0 none 0 0) 47)) (hT.then_ hB1)
  unfold TV.C' at hc
  go_upto_region 2 with (first | (refine wl_load_dfa rfl _ rfl _ rfl h1 ?_) | (go_at_call 32; refine hc.mono ?_; rintro e w2 ⟨rfl, hB2⟩))
  clear hz hc
  replace h1 := blk_then h1 hB2
  replace hr := blk_then hr hB2
  replace hB1 := below_then hB1 hB2
  clear hB2
  obtain ⟨gr, hgr⟩ : ∃ g, g = w.heap.size + 1 := ⟨_, rfl⟩
  rw [← hgr] at hr ⊢
  have hgrw : w.heap.size ≤ gr := by omega
  have e1 : w.heap.size ≠ gr := by omega
  clear hgr hA A
  rcases fitsB_cases x.T with ⟨hfb, hF⟩ | ⟨hfb, hF⟩
  · rw [hfb]
    have n1 : 1 ≤ x.rs.length := by have := hF.n1; rwa [fits_n] at this
    have n2 : x.rs.length ≤ 4096 := by have := hF.n2; rwa [fits_n] at this
    have hok := hF.ok
    have hAn : x.T.au.n = x.rs.length := fits_n
    have hcm := rmet_any x hF _ (hT.then_ hB1)
    unfold TV.C' at hcm
    go_upto_region 5 with (first | (refine wl_load_dfa rfl _ rfl _ rfl h1 ?_) | (go_at_call 45; refine hcm.mono ?_; rintro e w3 ⟨gi, p, rfl, hgi, hi, hp, hB3⟩))
    replace h1 := blk_then h1 hB3
    replace hr := blk_then hr hB3
    have hgiw : w.heap.size ≤ gi := Nat.le_trans hB1.size hgi
    have hgil := hi.lt
    replace hB1 := below_then hB1 hB3
    clear hB3 hcm hgi
    have hck := rkinds_any x hF _ (hT.then_ hB1)
    unfold TV.C' at hck
    go_upto_region 6 with (first | (refine wl_load_dfa rfl _ rfl _ rfl h1 ?_) | (go_at_call 46; refine hck.mono ?_; rintro e w4 ⟨gk, K, rfl, hgk, hk, hK, hKlo, hB4⟩))
    replace h1 := blk_then h1 hB4
    replace hr := blk_then hr hB4
    replace hi := blk_then hi hB4
    have hgkw : w.heap.size ≤ gk := Nat.le_trans hB1.size hgk
    replace hB1 := below_then hB1 hB4
    clear hB4 hck hgk
    have hker : Ker x.T.au K := fun s t hs ht => hK s t (by have := hs.lt hok; rwa [hAn] at this) (by have := ht.lt hok; rwa [hAn] at this)
    have hcc := rclasses_any x hF K p gk gi _ (hT.then_ hB1) hk hi hp
    unfold TV.C' at hcc
    rw [leastT_cls, reps_len] at hcc
    have hM256 := reps_le x.T.au K
    obtain ⟨M, hM⟩ : ∃ M, (reps x.T.au K).length = M := ⟨_, rfl⟩
    rw [hM] at hcc hM256
    replace hM := Lib.hid hM
    replace hK := Lib.hid hK
    have hz := zero_cls
    clear hp
    obtain ⟨fc, hfc⟩ : ∃ f, f = (leastT x.T.au K).cls := ⟨_, rfl⟩
    rw [← hfc] at hcc
    replace hfc := Lib.hid hfc
    go_upto_region 7 with (first | (refine wl_load_dfa rfl _ rfl _ rfl h1 ?_) | (go_at_call 47; refine hcc.mono ?_; rintro e w5 ⟨rfl, hB5⟩) | (refine wl_store_cls rfl _ _ rfl _ _ rfl rfl _ (Blk.new _ _ _) ?_; intro w6 hc6 hG6))
    have hl1 := h1.lt
    replace h1 := (blk_then h1 hB5).alloc (.cells (clsC fun _ => 0) 44)
    replace hr := (blk_then hr hB5).alloc (.cells (clsC fun _ => 0) 44)
    replace hk := (blk_then hk hB5).alloc (.cells (clsC fun _ => 0) 44)
    replace hB1 := below_alloc (below_then hB1 hB5) (.cells (clsC fun _ => 0) 44)
    obtain ⟨gc, hgc⟩ : ∃ g, g = w5.heap.size := ⟨_, rfl⟩
    rw [← hgc] at hc6 hG6 ⊢
    have hlw := hB5.size
    have hlk := hk.lt
    have hlr := hr.lt
    have hlB := hB1.size
    rw [World.size_alloc] at hlk hlr hlB
    have e2 : gk ≠ gc := fun e => by
      have h := hk
      rw [e, hgc] at h
      exact Blk.ne_ h (Blk.new _ _ _) (by decide) rfl
    have e3 : gr ≠ gc := fun e => by
      have h := hr
      rw [e, hgc] at h
      exact Blk.ne_ h (Blk.new _ _ _) (by decide) rfl
    have e4 : w.heap.size ≠ gc := by omega
    have hgcw : w.heap.size ≤ gc := by omega
    replace h1 := h1.grown hG6 (by simpa using e4)
    replace hr := hr.grown hG6 (by simpa using e3)
    replace hk := hk.grown hG6 (by simpa using e2)
    replace hB1 := below_grown hB1 hG6 hgcw
    have hl6 := h1.lt
    have hr6 := hr.lt
    clear hG6 hB5 hz hlw hlk hlr hlB hgc e2 e3 e4 hcc hi hgil hgiw
    have hz := zero_dfa
    go_upto_region 8 with (first | (refine wl_load_cls rfl _ rfl _ rfl _ (RowAt.of_blk hc6) ?_) | (refine wl_build_dfa1 rfl _ rfl _ rfl ?_) | (refine wl_store_dfa rfl _ _ rfl _ rfl rfl (Blk.new _ _ _) ?_; intro w7 ho7 hG7))
    have ho0 := Blk.new w6 47 (dfaC (fun _ => 0) none 0 0 none 0 0 none 0 0)
    replace h1 := h1.alloc (.cells (dfaC (fun _ => 0) none 0 0 none 0 0 none 0 0) 47)
    replace hr := hr.alloc (.cells (dfaC (fun _ => 0) none 0 0 none 0 0 none 0 0) 47)
    replace hk := hk.alloc (.cells (dfaC (fun _ => 0) none 0 0 none 0 0 none 0 0) 47)
    have hgcl := hc6.lt
    have hgkl := hk.lt
    replace hc6 := hc6.alloc (.cells (dfaC (fun _ => 0) none 0 0 none 0 0 none 0 0) 47)
    replace hB1 := below_alloc hB1 (.cells (dfaC (fun _ => 0) none 0 0 none 0 0 none 0 0) 47)
    obtain ⟨go, hgo⟩ : ∃ g, g = w6.heap.size := ⟨_, rfl⟩
    rw [← hgo] at ho7 hG7 ho0 hgcl ⊢
    have hlB := hB1.size
    rw [World.size_alloc, ← hgo] at hlB
    have hrl := hr.lt
    rw [World.size_alloc, ← hgo] at hgkl hrl
    have hgow : w.heap.size ≤ go := by omega
    have hkgo : gk ≠ go := fun e => by
      have h := hk
      rw [e] at h
      exact Blk.ne_ h ho0 (by decide) rfl
    have hcgo : gc ≠ go := by omega
    have hw1go : w.heap.size ≠ go := by
      intro e
      have := hl6
      omega
    have hrgo : gr ≠ go := by
      intro e
      omega
    replace h1 := h1.grown hG7 (by simpa using hw1go)
    replace hr := hr.grown hG7 (by simpa using hrgo)
    replace hk := hk.grown hG7 (by simpa using hkgo)
    have hc := hc6.grown hG7 (by simpa using hcgo)
    replace hB1 := below_grown hB1 hG7 hgow
    clear hG7 ho0 hc6 hz hlB hrl hgkl hgcl hgo hl6 hr6
    have hn0 : x.rs.length ≤ 1048576 := by omega
    go_upto_region 9 with (refine wl_makeZ rfl _ _ rfl x.rs.length rfl rfl hn0 ?_; intro w8 hn hB8)
    obtain ⟨gn, hgn⟩ : ∃ g, g = w7.heap.size := ⟨_, rfl⟩
    rw [← hgn] at hn ⊢
    have e5 : gk ≠ gn := by have := hk.lt; omega
    have e6 : gc ≠ gn := by have := hc.lt; omega
    have e7 : go ≠ gn := by have := ho7.lt; omega
    have e8 : gr ≠ gn := by have := hr.lt; omega
    have e9 : w.heap.size ≠ gn := by have := h1.lt; omega
    have hgnw : w.heap.size ≤ gn := by rw [hgn]; exact hB1.size
    replace h1 := blk_then h1 hB8
    replace hr := blk_then hr hB8
    replace hk := blk_then hk hB8
    replace hc := blk_then hc hB8
    replace ho7 := blk_then ho7 hB8
    replace hB1 := below_then hB1 hB8
    clear hB8 hgn
    have hK00 : K 0 = 0 := by have := hKlo 0 (by omega); omega
    have ck0 : w8.cell? ⟨gk, 0, none⟩ = some (.int .i64 0) := by have := blk_arrv hk (i := 0) (by omega); rw [this]; show some (Value.int .i64 (K 0)) = _; rw [hK00]
    have n0 : (0 : Int) < x.rs.length := by omega
    replace hK00 := Lib.hid hK00
    go_upto_region 10 with (refine wl_store_arr eZ 1 rfl _ _ _ rfl gn 0 x.rs.length _ _ hn rfl rfl (by omega) info_intS rfl rfl ?_; intro w9 hn9 hG9)
    rw [numM_start hK00.out] at hn9
    replace h1 := h1.grown hG9 (by simpa using e9)
    replace hr := hr.grown hG9 (by simpa using e8)
    replace hk := hk.grown hG9 (by simpa using e5)
    replace hc := hc.grown hG9 (by simpa using e6)
    replace ho7 := ho7.grown hG9 (by simpa using e7)
    replace hB1 := below_grown hB1 hG9 hgnw
    clear hG9 hn ck0
    go_upto_region 11 with (refine wl_int1 rfl _ rfl 0 rfl ?_)
    have hw9 : Own (w9.alloc (.cells (encZ 0) 3)) w9.heap.size 3 1 encZ (.slice (some ⟨w9.heap.size, 0, none⟩) 1 1) (zs [0]) := own_one encZ_size (Blk.new _ _ _) (Nat.le_refl _)
    obtain ⟨bv, hbv⟩ : ∃ g, g = w9.heap.size := ⟨_, rfl⟩
    rw [← hbv] at hw9 ⊢
    have hbw : w.heap.size ≤ bv := by rw [hbv]; exact hB1.size
    have l1 : w.heap.size < bv := by rw [hbv]; exact h1.lt
    have lr : gr < bv := by rw [hbv]; exact hr.lt
    have lk : gk < bv := by rw [hbv]; exact hk.lt
    have lc : gc < bv := by rw [hbv]; exact hc.lt
    have lo : go < bv := by rw [hbv]; exact ho7.lt
    have ln : gn < bv := by rw [hbv]; exact hn9.lt
    replace h1 := h1.alloc (.cells (encZ 0) 3)
    replace hr := hr.alloc (.cells (encZ 0) 3)
    replace hk := hk.alloc (.cells (encZ 0) 3)
    replace hc := hc.alloc (.cells (encZ 0) 3)
    replace ho7 := ho7.alloc (.cells (encZ 0) 3)
    replace hn9 := hn9.alloc (.cells (encZ 0) 3)
    replace hB1 := below_alloc hB1 (.cells (encZ 0) 3)
    have hI : RMI x K go bv (w9.alloc (.cells (encZ 0) 3)) (likeN x.T.au K (reps x.T.au K) 0) ⟨fc, [], none, 0, [], none, 0, [], none, 0⟩ (some ⟨bv, 0, none⟩) 1 :=
      ⟨ho7, TOwn.nil _ _ _, hw9, fun j hj => absurd hj (by simp), hfc.out⟩
    have hY : YI x K 0 ⟨fc, [], none, 0, [], none, 0, [], none, 0⟩ := ⟨by simp, by simp, by simp⟩
    obtain ⟨wA, hwA⟩ : ∃ y, y = w9.alloc (.cells (encZ 0) 3) := ⟨_, rfl⟩
    rw [← hwA] at h1 hr hk hc hB1 hn9 hI ⊢
    clear hwA ho7 hw9 hbv e1
    go_upto_region 12 with (fail)
    go_loopw [11, 12] (fun rv iv wr => ∃ (i : Nat) (y : TV) (A : Option Addr) (c : Nat), iv = .int .i64 i ∧ rv = .slice A (likeN x.T.au K (reps x.T.au K) i).length c ∧ i ≤ (likeN x.T.au K (reps x.T.au K) i).length ∧ Below w.heap.size w wr ∧ Blk wr w.heap.size 47 (dfaC x.f x.A x.rs.length x.c x.B x.fo.length x.d x.C x.en.length x.e) ∧ Blk wr gr 47 (dfaC (fun _ => 0) none 0 0 none 0 0 none 0 0) ∧ Blk wr gk 3 (arr eZ x.rs.length K) ∧ Blk wr gc 44 (clsC fc) ∧ Blk wr gn 3 (arr eZ x.rs.length (numM K (likeN x.T.au K (reps x.T.au K) i))) ∧ RMI x K go bv wr (likeN x.T.au K (reps x.T.au K) i) y A c ∧ YI x K i y) (fun _ iv _ => x.rs.length + 1 - (intOf iv).toNat)
    case atStart => exact ⟨0, _, _, _, rfl, rfl, by omega, hB1, h1, hr, hk, hc, hn9, hI, hY⟩
    case round =>
      clear hB1 h1 hr hk hc hn9 hI hY
      obtain ⟨i, y, A, c, rfl, rfl, hiL, hB1, h1, hr, hk, hc, hn, hI, hY⟩ := hrel
      replace hY := Lib.hid hY
      obtain ⟨L, hL⟩ : ∃ L, likeN x.T.au K (reps x.T.au K) i = L := ⟨_, rfl⟩
      have hLn : L.length ≤ x.rs.length := by have := like_len hok (k := K) (reps_lt x.T.au K) i; rw [hL, hAn] at this; exact this
      rw [hL] at hiL hI hn ⊢
      replace hL := Lib.hid hL
      by_cases hiN : i < L.length
      · have hiI : (i : Int) < L.length := by omega
        obtain ⟨s, hs⟩ : ∃ s, L[i] = s := ⟨_, rfl⟩
        have hsL : (likeN x.T.au K (reps x.T.au K) i)[i]? = some s := by rw [hL.out, List.getElem?_eq_getElem hiN, hs]
        have hsl : s < x.rs.length := by
          have h1 := like_reach (A := x.T.au) (k := K) (reps_lt x.T.au K) i s (List.mem_of_getElem? hsL)
          have := h1.lt hok
          rwa [hAn] at this
        replace hsL := Lib.hid hsL
        have hrow := hI.row
        obtain ⟨gl, cap, hv, hgl, hgll, hcap, hcapm⟩ := hrow.form (by rw [zs_len]; omega)
        have hA : A = some ⟨gl, 0, none⟩ := by injection hv
        have c14 : wr.cell? ⟨gl, i, none⟩ = some (.int .i64 (s : Nat)) := by
          rw [hA] at hrow
          have h3 := hrow.row encZ_size i (by rw [zs_len]; exact hiN) 0 _ rfl
          have h4 : (zs L)[i]'(by rw [zs_len]; exact hiN) = (s : Int) := by simp [zs, hs]
          rw [h4] at h3
          rw [show i * 1 + 0 = i by omega] at h3
          exact h3
        rw [hA]
        replace hA := Lib.hid hA
        clear hv hrow hs
        go_upto_region 15 with (fail)
        clear c14
        have hM0 : M ≤ 1048576 := by omega
        go_upto_region 16 with (refine wl_makeZ rfl _ _ rfl M rfl rfl hM0 ?_; intro w2 hx hB2)
        rw [← hA.out]
        obtain ⟨gx, hgx⟩ : ∃ g, g = wr.heap.size := ⟨_, rfl⟩
        rw [← hgx] at hx ⊢
        have f1 : w.heap.size ≠ gx := by have := h1.lt; omega
        have fr : gr ≠ gx := by have := hr.lt; omega
        have fk : gk ≠ gx := by have := hk.lt; omega
        have fc' : gc ≠ gx := by have := hc.lt; omega
        have fo : go ≠ gx := by have := hI.out.lt; omega
        have fn : gn ≠ gx := by have := hn.lt; omega
        have hgxw : w.heap.size ≤ gx := by rw [hgx]; exact hB1.size
        have hgxb : bv ≤ gx := by omega
        have hyx : ∀ j (hj : j < y.rs.length) a, y.rs[j].a = some a → a.block ≠ gx := fun j hj a ha => by have := (hI.own.rowLt hj ha).2; omega
        have hAx : ∀ b, A = some b → b.block ≠ gx := fun b hb => by
          rw [hA.out] at hb
          injection hb with hb
          rw [← hb]
          show gl ≠ gx
          omega
        replace h1 := blk_then h1 hB2
        replace hr := blk_then hr hB2
        replace hk := blk_then hk hB2
        replace hc := blk_then hc hB2
        replace hn := blk_then hn hB2
        replace hI := hI.then_ hB2
        replace hB1 := below_then hB1 hB2
        clear hB2 hgx hA hgl hgll hcap hcapm
        replace hyx := Lib.hid hyx
        go_upto_region 17 with (fail)
        go_loopw [11, 15] (fun rv xv wr => ∃ (xx : Nat) (A : Option Addr) (c : Nat) (X : Nat → Int), xx ≤ M ∧ xv = .int .i64 xx ∧ rv = .slice A (foldT x.T.au K s (reps x.T.au K) L xx).length c ∧ Below w.heap.size w wr ∧ Blk wr w.heap.size 47 (dfaC x.f x.A x.rs.length x.c x.B x.fo.length x.d x.C x.en.length x.e) ∧ Blk wr gr 47 (dfaC (fun _ => 0) none 0 0 none 0 0 none 0 0) ∧ Blk wr gk 3 (arr eZ x.rs.length K) ∧ Blk wr gc 44 (clsC fc) ∧ Blk wr gn 3 (arr eZ x.rs.length (numM K (foldT x.T.au K s (reps x.T.au K) L xx))) ∧ RMI x K go bv wr (foldT x.T.au K s (reps x.T.au K) L xx) y A c ∧ Blk wr gx 3 (arr eZ M X) ∧ (∀ b, A = some b → b.block ≠ gx) ∧ ∀ j, j < xx → X j = (((likes x.T.au K).map K).idxOf (K (x.T.au.go s ((reps x.T.au K).getD j 0))) : Nat)) (fun _ xv _ => M - (intOf xv).toNat)
        case atStart => exact ⟨0, A, c, _, by omega, rfl, rfl, hB1, h1, hr, hk, hc, hn, hI, hx, hAx, fun j hj => by omega⟩
        case round =>
          clear hB1 h1 hr hk hc hn hI hx hAx
          obtain ⟨xx, A, c, X, hxM, rfl, rfl, hB1, h1, hr, hk, hc, hn, hI, hx, hAx, hX⟩ := hrel
          replace hX := Lib.hid hX
          by_cases hxl : xx < M
          · have hxI : (xx : Int) < M := by omega
            have hxr : xx < (reps x.T.au K).length := by rw [hM.out]; exact hxl
            obtain ⟨Lx, hLx⟩ : ∃ Lx, foldT x.T.au K s (reps x.T.au K) L xx = Lx := ⟨_, rfl⟩
            have hLxn : Lx.length + 1 ≤ 1099511627776 := by
              obtain ⟨r, hr⟩ := foldT_likes hok hsL.out (x := xx) (by omega)
              rw [hL.out, hLx] at hr
              have h5 := likes_len hok K
              rw [hr, List.length_append, hAn] at h5
              omega
            rw [hLx] at hn hI ⊢
            replace hLx := Lib.hid hLx
            replace hxr := Lib.hid hxr
            go_upto_region 20 with (fail)
            obtain ⟨wc, hwc⟩ : ∃ y, y = wr := ⟨_, rfl⟩
            rw [← hwc] at hB1 h1 hr hk hc hn hI hx ⊢
            clear hwc
            go_loopw [11, 16] (fun rv bv2 wz => ∃ b : Nat, b ≤ 256 ∧ rv = .slice A Lx.length c ∧ bv2 = .int .i64 b ∧ Below wc.heap.size wc wz ∧ ∀ j, j < b → num (vec x.T.au K) j ≠ xx) (fun _ bv2 _ => 256 - (intOf bv2).toNat)
            case atStart => exact ⟨0, by omega, rfl, rfl, Below.refl _ _, fun j hj => by omega⟩
            case round =>
              obtain ⟨b, hb, rfl, rfl, hBz, hnb⟩ := hrel
              have hcz := blk_then hc hBz
              by_cases hb2 : b < 256
              · have hbI : (b : Int) < 256 := by omega
                obtain ⟨nb, hnbe⟩ : ∃ nb, num (vec x.T.au K) b = nb := ⟨_, rfl⟩
                have hnf : fc b = (nb : Int) := by
                  rw [hfc.out]
                  show (if b < 256 then (num (vec x.T.au K) b : Int) else 0) = _
                  rw [if_pos hb2, hnbe]
                have hnc := Lib.hid hnb
                clear hnb
                go_upto_region 22 with (fail)
                obtain ⟨q, hq⟩ : ∃ q, (((nb : Nat) : Int) != ((xx : Nat) : Int)) = q := ⟨_, rfl⟩
                refine wp_region_text 5 [eqS (.int .i64 (((b : Nat) : Int))), eqS (.pointer (some ⟨gc, 0 + b * 1, none⟩)), eqS (.int .i64 (((nb : Nat) : Int))), eqS (.int .i64 (((xx : Nat) : Int))), eqS (.bool q)] [66, 67, 68, 69, 70] (by kernel_rfl) rfl ?_ ?_
                · skip
                  refine Steps.cons (fun a' w' hG hB dep => gs_move (want_none rfl) _ rfl (id (hG.other 16 rfl))) ?_
                  refine Steps.cons (fun a' w' hG hB dep => gs_index_arr (want_none rfl) _ _ _ rfl gc (0) b (hG.other 7 rfl) (dep 0 rfl 66 rfl) (fun wz => index_cls _ _ _ hb2 wz) rfl) ?_
                  refine Steps.cons (fun a' w' hG hB dep => gs_load1 (want_none rfl) _ _ rfl gc (0 + b * 1) (dep 1 rfl 67 rfl) (.int .i64 (((nb : Nat) : Int))) (blk_fc (blk_then hcz hB) hb2 hnf) _ Try.underlying3 rfl rfl) ?_
                  refine Steps.cons (fun a' w' hG hB dep => gs_move (want_none rfl) _ rfl (id (hG.other 15 rfl))) ?_
                  refine Steps.cons (fun a' w' hG hB dep => gs_neq_int (want_none rfl) _ _ _ _ rfl _ _ _ (dep 2 rfl 68 rfl) (dep 3 rfl 69 rfl) (id (congrArg Value.bool hq))) ?_
                  exact Steps.nil
                intro u w3 hw3 ans
                have hus70 : u 70 = (.bool q) := ans 4 70 (by decide) rfl
                clear ans
                simp only [putAll, List.foldl_cons, List.foldl_nil, Act.put, List.setIfInBounds_toArray, List.set_cons_zero, List.set_cons_succ, hus70]
                clear hus70
                simp only [List.drop]
                refine wpList_nil ?_
                cases q with
                | false =>
                  have hxe : nb = xx := by have := bne_eq_false_iff_eq.1 hq; omega
                  have hnx : num (vec x.T.au K) b = xx := hnbe.trans hxe
                  have hrep : (reps x.T.au K).getD xx 0 = b := reps_firstD x.T.au K hxr.out hb2 hnx hnc.out
                  clear hnx
                  have hBz3 := below_then hBz hw3
                  replace h1 := blk_then h1 hBz3
                  replace hr := blk_then hr hBz3
                  replace hk := blk_then hk hBz3
                  replace hc := blk_then hc hBz3
                  replace hn := blk_then hn hBz3
                  replace hx := blk_then hx hBz3
                  replace hI := hI.then_ hBz3
                  replace hB1 := below_then hB1 hBz3
                  clear hBz3 hBz hw3 hcz hq hnc hnf hxe hnbe
                  have hcg := goes_any x hF s b hsl hb2 _ (hT.then_ hB1)
                  unfold TV.C' at hcg
                  have htl : x.T.au.go s b < x.rs.length := by rw [← hAn]; exact hok.lt s b (by rw [hAn]; exact hsl) hb2
                  obtain ⟨t, ht⟩ : ∃ t, t = x.T.au.go s b := ⟨_, rfl⟩
                  rw [← ht] at hcg htl
                  have hgD : x.T.au.go s ((reps x.T.au K).getD xx 0) = t := by rw [hrep, ht]
                  have hft : foldT x.T.au K s (reps x.T.au K) L (xx + 1) = addK K Lx t := by rw [foldT_succD hxr.out, hLx.out, hrep, ht]
                  have hlk : ∃ r, likes x.T.au K = addK K Lx t ++ r := by
                    obtain ⟨r, hr⟩ := foldT_likes hok hsL.out (x := xx + 1) (by have := hxr.out; omega)
                    rw [hL.out, hft] at hr
                    exact ⟨r, hr⟩
                  replace ht := Lib.hid ht
                  replace hgD := Lib.hid hgD
                  replace hft := Lib.hid hft
                  replace hlk := Lib.hid hlk
                  replace hrep := Lib.hid hrep
                  go_upto_region 24 with (first | (refine wl_load_dfa rfl _ rfl _ rfl h1 ?_) | (go_at_call 48; refine hcg.mono ?_; rintro e w5 ⟨rfl, hB5⟩))
                  replace h1 := blk_then h1 hB5
                  replace hr := blk_then hr hB5
                  replace hk := blk_then hk hB5
                  replace hc := blk_then hc hB5
                  replace hn := blk_then hn hB5
                  replace hx := blk_then hx hB5
                  replace hI := hI.then_ hB5
                  replace hB1 := below_then hB1 hB5
                  clear hB5 hcg
                  have hKt := hKlo t htl
                  obtain ⟨m, hKm⟩ := Int.eq_ofNat_of_zero_le hKt.1
                  have hml : m < x.rs.length := by omega
                  replace hKm : K t = (m : Int) := hKm
                  clear hKt
                  by_cases hin : K t ∈ Lx.map K
                  · have hz := numM_in hKm hin
                    have hid : ((likes x.T.au K).map K).idxOf (K t) = (Lx.map K).idxOf (K t) := idx_likes (by have := hlk.out; unfold addK at this; rwa [if_pos hin] at this) hin
                    have hadd : addK K Lx t = Lx := by unfold addK; rw [if_pos hin]
                    have hidl : (Lx.map K).idxOf (K t) < Lx.length := by have := List.idxOf_lt_length_of_mem hin; rwa [List.length_map] at this
                    obtain ⟨ix, hide⟩ : ∃ ix, (Lx.map K).idxOf (K t) = ix := ⟨_, rfl⟩
                    rw [hide] at hz hid hidl
                    rw [← hgD.out] at hid
                    have hft2 := hft.out
                    rw [hadd] at hft2
                    replace hid := Lib.hid hid
                    replace hft2 := Lib.hid hft2
                    clear hadd hide hin
                    have hqf : (((ix + 1 : Nat) : Int) == 0) = false := by rw [beq_eq_false_iff_ne]; omega
                    refine wp_region_text 8 [eqS (.slice (some ⟨gn, 0, none⟩) x.rs.length x.rs.length), eqS (.slice (some ⟨gk, 0, none⟩) x.rs.length x.rs.length), eqS (.int .i64 (((t : Nat) : Int))), eqS (.pointer (some ⟨gk, 0 + t * 1, none⟩)), eqS (.int .i64 (((m : Nat) : Int))), eqS (.pointer (some ⟨gn, 0 + m * 1, none⟩)), eqS (.int .i64 ((((ix + 1) : Nat) : Int))), eqS (.bool false)] [75, 76, 77, 78, 79, 80, 81, 82] (by kernel_rfl) rfl ?_ ?_
                    · skip
                      refine Steps.cons (fun a' w' hG hB dep => gs_move (want_none rfl) _ rfl (id (hG.other 10 rfl))) ?_
                      refine Steps.cons (fun a' w' hG hB dep => gs_move (want_none rfl) _ rfl (id (hG.other 6 rfl))) ?_
                      refine Steps.cons (fun a' w' hG hB dep => gs_move (want_none rfl) _ rfl (id (hG.other 17 rfl))) ?_
                      refine Steps.cons (fun a' w' hG hB dep => gs_index (want_none rfl) _ _ _ rfl under_ints 1 size_intE gk 0 x.rs.length x.rs.length (t) (dep 1 rfl 76 rfl) (dep 2 rfl 77 rfl) htl rfl) ?_
                      refine Steps.cons (fun a' w' hG hB dep => gs_load1 (want_none rfl) _ _ rfl gk (0 + t * 1) (dep 3 rfl 78 rfl) (.int .i64 (((m : Nat) : Int))) (blk_arr_eq (blk_then hk hB) htl hKm) _ Try.underlying3 rfl rfl) ?_
                      refine Steps.cons (fun a' w' hG hB dep => gs_index (want_none rfl) _ _ _ rfl under_ints 1 size_intE gn 0 x.rs.length x.rs.length (m) (dep 0 rfl 75 rfl) (dep 4 rfl 79 rfl) hml rfl) ?_
                      refine Steps.cons (fun a' w' hG hB dep => gs_load1 (want_none rfl) _ _ rfl gn (0 + m * 1) (dep 5 rfl 80 rfl) (.int .i64 ((((ix + 1) : Nat) : Int))) (blk_arr_eq (blk_then hn hB) hml hz) _ Try.underlying3 rfl rfl) ?_
                      refine Steps.cons (fun a' w' hG hB dep => gs_eql_int (want_none rfl) _ _ _ _ rfl _ _ _ (dep 6 rfl 81 rfl) rfl (id (congrArg Value.bool hqf))) ?_
                      exact Steps.nil
                    intro u w6 hw6 ans
                    have hus82 : u 82 = (.bool false) := ans 7 82 (by decide) rfl
                    clear ans
                    simp only [putAll, List.foldl_cons, List.foldl_nil, Act.put, List.setIfInBounds_toArray, List.set_cons_zero, List.set_cons_succ, hus82]
                    clear hus82
                    simp only [List.drop]
                    refine wpList_nil ?_
                    replace h1 := blk_then h1 hw6
                    replace hr := blk_then hr hw6
                    replace hk := blk_then hk hw6
                    replace hc := blk_then hc hw6
                    replace hn := blk_then hn hw6
                    replace hx := blk_then hx hw6
                    replace hI := hI.then_ hw6
                    replace hB1 := below_then hB1 hw6
                    clear hw6 hqf
                    go_upto_region 27 with (fail)
                    have hix64 : ix + 1 < 9223372036854775808 := by omega
                    refine wp_region_text 11 [eqS (.slice (some ⟨gx, 0, none⟩) M M), eqS (.int .i64 (((xx : Nat) : Int))), eqS (.slice (some ⟨gn, 0, none⟩) x.rs.length x.rs.length), eqS (.slice (some ⟨gk, 0, none⟩) x.rs.length x.rs.length), eqS (.int .i64 (((t : Nat) : Int))), eqS (.pointer (some ⟨gk, 0 + t * 1, none⟩)), eqS (.int .i64 (((m : Nat) : Int))), eqS (.pointer (some ⟨gn, 0 + m * 1, none⟩)), eqS (.int .i64 ((((ix + 1) : Nat) : Int))), eqS (.int .i64 (((ix : Nat) : Int))), eqS (.pointer (some ⟨gx, 0 + xx * 1, none⟩))] [95, 96, 97, 98, 99, 100, 101, 102, 103, 104, 105] (by kernel_rfl) rfl ?_ ?_
                    · skip
                      refine Steps.cons (fun a' w' hG hB dep => gs_move (want_none rfl) _ rfl (id (hG.other 14 rfl))) ?_
                      refine Steps.cons (fun a' w' hG hB dep => gs_move (want_none rfl) _ rfl (id (hG.other 15 rfl))) ?_
                      refine Steps.cons (fun a' w' hG hB dep => gs_move (want_none rfl) _ rfl (id (hG.other 10 rfl))) ?_
                      refine Steps.cons (fun a' w' hG hB dep => gs_move (want_none rfl) _ rfl (id (hG.other 6 rfl))) ?_
                      refine Steps.cons (fun a' w' hG hB dep => gs_move (want_none rfl) _ rfl (id (hG.other 17 rfl))) ?_
                      refine Steps.cons (fun a' w' hG hB dep => gs_index (want_none rfl) _ _ _ rfl under_ints 1 size_intE gk 0 x.rs.length x.rs.length (t) (dep 3 rfl 98 rfl) (dep 4 rfl 99 rfl) htl rfl) ?_
                      refine Steps.cons (fun a' w' hG hB dep => gs_load1 (want_none rfl) _ _ rfl gk (0 + t * 1) (dep 5 rfl 100 rfl) (.int .i64 (((m : Nat) : Int))) (blk_arr_eq (blk_then hk hB) htl hKm) _ Try.underlying3 rfl rfl) ?_
                      refine Steps.cons (fun a' w' hG hB dep => gs_index (want_none rfl) _ _ _ rfl under_ints 1 size_intE gn 0 x.rs.length x.rs.length (m) (dep 2 rfl 97 rfl) (dep 6 rfl 101 rfl) hml rfl) ?_
                      refine Steps.cons (fun a' w' hG hB dep => gs_load1 (want_none rfl) _ _ rfl gn (0 + m * 1) (dep 7 rfl 102 rfl) (.int .i64 ((((ix + 1) : Nat) : Int))) (blk_arr_eq (blk_then hn hB) hml hz) _ Try.underlying3 rfl rfl) ?_
                      refine Steps.cons (fun a' w' hG hB dep => gs_sub_nat (want_none rfl) _ _ _ _ rfl (ix + 1) 1 ix (dep 8 rfl 103 rfl) rfl rfl hix64 rfl) ?_
                      refine Steps.cons (fun a' w' hG hB dep => gs_index (want_none rfl) _ _ _ rfl under_ints 1 size_intE gx 0 M M (xx) (dep 0 rfl 95 rfl) (dep 1 rfl 96 rfl) hxl rfl) ?_
                      exact Steps.nil
                    intro u w7 hw7 ans
                    have hus104 : u 104 = (.int .i64 ((ix : Nat) : Int)) := ans 9 104 (by decide) rfl
                    have hus105 : u 105 = (.pointer (some ⟨gx, 0 + xx * 1, none⟩)) := ans 10 105 (by decide) rfl
                    clear ans
                    simp only [putAll, List.foldl_cons, List.foldl_nil, Act.put, List.setIfInBounds_toArray, List.set_cons_zero, List.set_cons_succ, hus104, hus105]
                    clear hus104 hus105
                    replace h1 := blk_then h1 hw7
                    replace hr := blk_then hr hw7
                    replace hk := blk_then hk hw7
                    replace hc := blk_then hc hw7
                    replace hn := blk_then hn hw7
                    replace hx := blk_then hx hw7
                    replace hI := hI.then_ hw7
                    replace hB1 := below_then hB1 hw7
                    clear hw7
                    simp only [List.drop]
                    rw [show 0 + xx * 1 = xx by omega]
                    refine wl_store_arr eZ (ix : Int) rfl _ _ _ rfl gx xx M _ _ hx rfl rfl hxl info_intS rfl rfl ?_
                    intro w8 hx8 hG8
                    refine wpList_nil ?_
                    replace hI := hI.far hx hG8 fo hAx hyx.out
                    replace h1 := h1.grown hG8 (by simpa using f1)
                    replace hr := hr.grown hG8 (by simpa using fr)
                    replace hk := hk.grown hG8 (by simpa using fk)
                    replace hc := hc.grown hG8 (by simpa using fc')
                    replace hn := hn.grown hG8 (by simpa using fn)
                    replace hB1 := below_grown hB1 hG8 hgxw
                    clear hG8 hx
                    have hXn : ∀ j, j < xx + 1 → upd X xx (ix : Int) j = (((likes x.T.au K).map K).idxOf (K (x.T.au.go s ((reps x.T.au K).getD j 0))) : Nat) := fun j hj => by
                      by_cases e : j = xx
                      · subst e
                        rw [upd_self, hid.out]
                      · rw [upd_ne _ _ e]
                        exact hX.out j (by omega)
                    replace hXn := Lib.hid hXn
                    clear hX hz hix64
                    go_wp2_with (fail)
                    exact ⟨⟨xx + 1, A, c, _, by omega, rfl, by rw [hft2.out]; try simp, hB1, h1, hr, hk, hc, by rw [hft2.out]; exact hn, by rw [hft2.out]; exact hI, hx8, hAx, hXn.out⟩, by simp only [intOf]; omega⟩
                  · have hz := numM_out hKm hin
                    have hid : ((likes x.T.au K).map K).idxOf (K t) = Lx.length := by
                      have h7 := idx_likes (t := t) hlk.out (addK_mem K Lx t)
                      rw [h7]
                      unfold addK
                      rw [if_neg hin, List.map_append, idx_not hin]
                      simp
                    have hadd : addK K Lx t = Lx ++ [t] := by unfold addK; rw [if_neg hin]
                    rw [← hgD.out] at hid
                    have hft2 := hft.out
                    rw [hadd] at hft2
                    have hput := numM_put hKm hin
                    replace hid := Lib.hid hid
                    replace hft2 := Lib.hid hft2
                    replace hput := Lib.hid hput
                    have hin2 := Lib.hid hin
                    clear hadd hin
                    refine wp_region_text 8 [eqS (.slice (some ⟨gn, 0, none⟩) x.rs.length x.rs.length), eqS (.slice (some ⟨gk, 0, none⟩) x.rs.length x.rs.length), eqS (.int .i64 (((t : Nat) : Int))), eqS (.pointer (some ⟨gk, 0 + t * 1, none⟩)), eqS (.int .i64 (((m : Nat) : Int))), eqS (.pointer (some ⟨gn, 0 + m * 1, none⟩)), eqS (.int .i64 (0)), eqS (.bool true)] [75, 76, 77, 78, 79, 80, 81, 82] (by kernel_rfl) rfl ?_ ?_
                    · skip
                      refine Steps.cons (fun a' w' hG hB dep => gs_move (want_none rfl) _ rfl (id (hG.other 10 rfl))) ?_
                      refine Steps.cons (fun a' w' hG hB dep => gs_move (want_none rfl) _ rfl (id (hG.other 6 rfl))) ?_
                      refine Steps.cons (fun a' w' hG hB dep => gs_move (want_none rfl) _ rfl (id (hG.other 17 rfl))) ?_
                      refine Steps.cons (fun a' w' hG hB dep => gs_index (want_none rfl) _ _ _ rfl under_ints 1 size_intE gk 0 x.rs.length x.rs.length (t) (dep 1 rfl 76 rfl) (dep 2 rfl 77 rfl) htl rfl) ?_
                      refine Steps.cons (fun a' w' hG hB dep => gs_load1 (want_none rfl) _ _ rfl gk (0 + t * 1) (dep 3 rfl 78 rfl) (.int .i64 (((m : Nat) : Int))) (blk_arr_eq (blk_then hk hB) htl hKm) _ Try.underlying3 rfl rfl) ?_
                      refine Steps.cons (fun a' w' hG hB dep => gs_index (want_none rfl) _ _ _ rfl under_ints 1 size_intE gn 0 x.rs.length x.rs.length (m) (dep 0 rfl 75 rfl) (dep 4 rfl 79 rfl) hml rfl) ?_
                      refine Steps.cons (fun a' w' hG hB dep => gs_load1 (want_none rfl) _ _ rfl gn (0 + m * 1) (dep 5 rfl 80 rfl) (.int .i64 (0)) (blk_arr_eq (blk_then hn hB) hml hz) _ Try.underlying3 rfl rfl) ?_
                      refine Steps.cons (fun a' w' hG hB dep => gs_eql_int (want_none rfl) _ _ _ _ rfl _ _ _ (dep 6 rfl 81 rfl) rfl (id (congrArg Value.bool rfl))) ?_
                      exact Steps.nil
                    intro u w6 hw6 ans
                    have hus82 : u 82 = (.bool true) := ans 7 82 (by decide) rfl
                    clear ans
                    simp only [putAll, List.foldl_cons, List.foldl_nil, Act.put, List.setIfInBounds_toArray, List.set_cons_zero, List.set_cons_succ, hus82]
                    clear hus82
                    simp only [List.drop]
                    refine wpList_nil ?_
                    replace h1 := blk_then h1 hw6
                    replace hr := blk_then hr hw6
                    replace hk := blk_then hk hw6
                    replace hc := blk_then hc hw6
                    replace hn := blk_then hn hw6
                    replace hx := blk_then hx hw6
                    replace hI := hI.then_ hw6
                    replace hB1 := below_then hB1 hw6
                    clear hw6 hz
                    have hrow := hI.row
                    have hgx6 : bv ≤ w6.heap.size := by have := hx.lt; omega
                    go_upto_region 26 with (first | (refine wl_int1 rfl _ rfl (t : Int) rfl ?_) | (at_builtin; refine park ?_))
                    refine Parked.mk ?_
                    obtain ⟨ii, hii, hz0, hz1, hz2⟩ := info_parts info_int3
                    have hBa : Below w6.heap.size w6 (w6.alloc (.cells (encZ (t : Int)) 3)) := below_alloc (Below.refl _ _) _
                    have hbl := hgx6
                    refine wl_append _ rfl _ _ 57 rfl bv 3 ii _ 1 8 Try.underlying57 hii hz0 hz1 hz2 rfl (by decide) encZ_size encZ_one (.slice A Lx.length c) (zs Lx) rfl (hrow.then_ hBa) _ _ 1 1 [(t : Int)] rfl rfl (slice_one (enc := encZ) (Blk.new w6 _ _)) (by rw [zs_len]; unfold maxLen; omega) (by rw [zs_len]; omega) (by have := hBa.size; omega) ?_
                    intro v8 w8 ho8 hg8 hv8
                    obtain ⟨A8, c8, rfl, _, _⟩ := ho8.shape
                    have hl8 : (zs Lx ++ [(t : Int)]).length = Lx.length + 1 := by simp [zs]
                    rw [hl8] at ho8 hv8 ⊢
                    have hra := hrow.then_ hBa
                    replace hI := (hI.then_ hBa).push lo hg8 ho8 hv8
                    replace h1 := blk_own (blk_then h1 hBa) hra hg8 l1
                    replace hr := blk_own (blk_then hr hBa) hra hg8 lr
                    replace hk := blk_own (blk_then hk hBa) hra hg8 lk
                    replace hc := blk_own (blk_then hc hBa) hra hg8 lc
                    replace hn := blk_own (blk_then hn hBa) hra hg8 ln
                    have hgx8 : (w6.alloc (.cells (encZ (t : Int)) 3)).heap.size ≠ gx := by have := (blk_then hx hBa).lt; omega
                    replace hx := (blk_then hx hBa).grown hg8 (slice_ne hAx)
                    have hAx8 := block_push hv8 hAx hgx8
                    replace hB1 := below_own (below_then hB1 hBa) hg8 (fun k e => by have := (hra.lt k e).1; omega)
                    clear hg8 hv8 ho8 hrow hra hBa hl8 hii hz0 hz1 hz2 hgx8 hbl hgx6
                    simp only [Act.put, List.setIfInBounds_toArray, List.set_cons_zero, List.set_cons_succ]
                    have ck : w8.cell? ⟨gk, t, none⟩ = some (.int .i64 (m : Nat)) := by rw [blk_arrv hk htl, ← hKm]; rfl
                    have hmI : (m : Int) < x.rs.length := by omega
                    have htI : (t : Int) < x.rs.length := by omega
                    go_upto_region 27 with (refine wl_store_arr eZ ((Lx.length + 1 : Nat) : Int) rfl _ _ _ rfl gn m x.rs.length _ _ hn rfl rfl hml info_intS rfl rfl ?_; intro w9 hn9 hG9)
                    rw [hput.out] at hn9
                    replace hI := hI.low hG9 ln e7
                    replace h1 := h1.grown hG9 (by simpa using e9)
                    replace hr := hr.grown hG9 (by simpa using e8)
                    replace hk := hk.grown hG9 (by simpa using e5)
                    replace hc := hc.grown hG9 (by simpa using e6)
                    replace hx := hx.grown hG9 (by simpa using fn.symm)
                    replace hB1 := below_grown hB1 hG9 hgnw
                    clear hn hG9 ck hmI htI
                    have hn := hn9
                    clear hn9
                    have hz : numM K (Lx ++ [t]) m = ((Lx.length + 1 : Nat) : Int) := by
                      have hin := hin2.out
                      rw [numM_in hKm (by simp), List.map_append, idx_not hin]
                      simp
                    have hix64 : Lx.length + 1 < 9223372036854775808 := by omega
                    have hAx := hAx8
                    clear hAx8
                    obtain ⟨ix, hix⟩ : ∃ ix, Lx.length = ix := ⟨_, rfl⟩
                    rw [hix] at hz hix64
                    have hid := Lib.hid (hid.out.trans hix)
                    replace hix := Lib.hid hix
                    refine wp_region_text 11 [eqS (.slice (some ⟨gx, 0, none⟩) M M), eqS (.int .i64 (((xx : Nat) : Int))), eqS (.slice (some ⟨gn, 0, none⟩) x.rs.length x.rs.length), eqS (.slice (some ⟨gk, 0, none⟩) x.rs.length x.rs.length), eqS (.int .i64 (((t : Nat) : Int))), eqS (.pointer (some ⟨gk, 0 + t * 1, none⟩)), eqS (.int .i64 (((m : Nat) : Int))), eqS (.pointer (some ⟨gn, 0 + m * 1, none⟩)), eqS (.int .i64 ((((ix + 1) : Nat) : Int))), eqS (.int .i64 (((ix : Nat) : Int))), eqS (.pointer (some ⟨gx, 0 + xx * 1, none⟩))] [95, 96, 97, 98, 99, 100, 101, 102, 103, 104, 105] (by kernel_rfl) rfl ?_ ?_
                    · skip
                      refine Steps.cons (fun a' w' hG hB dep => gs_move (want_none rfl) _ rfl (id (hG.other 14 rfl))) ?_
                      refine Steps.cons (fun a' w' hG hB dep => gs_move (want_none rfl) _ rfl (id (hG.other 15 rfl))) ?_
                      refine Steps.cons (fun a' w' hG hB dep => gs_move (want_none rfl) _ rfl (id (hG.other 10 rfl))) ?_
                      refine Steps.cons (fun a' w' hG hB dep => gs_move (want_none rfl) _ rfl (id (hG.other 6 rfl))) ?_
                      refine Steps.cons (fun a' w' hG hB dep => gs_move (want_none rfl) _ rfl (id (hG.other 17 rfl))) ?_
                      refine Steps.cons (fun a' w' hG hB dep => gs_index (want_none rfl) _ _ _ rfl under_ints 1 size_intE gk 0 x.rs.length x.rs.length (t) (dep 3 rfl 98 rfl) (dep 4 rfl 99 rfl) htl rfl) ?_
                      refine Steps.cons (fun a' w' hG hB dep => gs_load1 (want_none rfl) _ _ rfl gk (0 + t * 1) (dep 5 rfl 100 rfl) (.int .i64 (((m : Nat) : Int))) (blk_arr_eq (blk_then hk hB) htl hKm) _ Try.underlying3 rfl rfl) ?_
                      refine Steps.cons (fun a' w' hG hB dep => gs_index (want_none rfl) _ _ _ rfl under_ints 1 size_intE gn 0 x.rs.length x.rs.length (m) (dep 2 rfl 97 rfl) (dep 6 rfl 101 rfl) hml rfl) ?_
                      refine Steps.cons (fun a' w' hG hB dep => gs_load1 (want_none rfl) _ _ rfl gn (0 + m * 1) (dep 7 rfl 102 rfl) (.int .i64 ((((ix + 1) : Nat) : Int))) (blk_arr_eq (blk_then hn hB) hml hz) _ Try.underlying3 rfl rfl) ?_
                      refine Steps.cons (fun a' w' hG hB dep => gs_sub_nat (want_none rfl) _ _ _ _ rfl (ix + 1) 1 ix (dep 8 rfl 103 rfl) rfl rfl hix64 rfl) ?_
                      refine Steps.cons (fun a' w' hG hB dep => gs_index (want_none rfl) _ _ _ rfl under_ints 1 size_intE gx 0 M M (xx) (dep 0 rfl 95 rfl) (dep 1 rfl 96 rfl) hxl rfl) ?_
                      exact Steps.nil
                    intro u w7 hw7 ans
                    have hus104 : u 104 = (.int .i64 ((ix : Nat) : Int)) := ans 9 104 (by decide) rfl
                    have hus105 : u 105 = (.pointer (some ⟨gx, 0 + xx * 1, none⟩)) := ans 10 105 (by decide) rfl
                    clear ans
                    simp only [putAll, List.foldl_cons, List.foldl_nil, Act.put, List.setIfInBounds_toArray, List.set_cons_zero, List.set_cons_succ, hus104, hus105]
                    clear hus104 hus105
                    replace h1 := blk_then h1 hw7
                    replace hr := blk_then hr hw7
                    replace hk := blk_then hk hw7
                    replace hc := blk_then hc hw7
                    replace hn := blk_then hn hw7
                    replace hx := blk_then hx hw7
                    replace hI := hI.then_ hw7
                    replace hB1 := below_then hB1 hw7
                    clear hw7
                    simp only [List.drop]
                    rw [show 0 + xx * 1 = xx by omega]
                    refine wl_store_arr eZ (ix : Int) rfl _ _ _ rfl gx xx M _ _ hx rfl rfl hxl info_intS rfl rfl ?_
                    intro w8 hx8 hG8
                    refine wpList_nil ?_
                    replace hI := hI.far hx hG8 fo hAx hyx.out
                    replace h1 := h1.grown hG8 (by simpa using f1)
                    replace hr := hr.grown hG8 (by simpa using fr)
                    replace hk := hk.grown hG8 (by simpa using fk)
                    replace hc := hc.grown hG8 (by simpa using fc')
                    replace hn := hn.grown hG8 (by simpa using fn)
                    replace hB1 := below_grown hB1 hG8 hgxw
                    clear hG8 hx
                    have hXn : ∀ j, j < xx + 1 → upd X xx (ix : Int) j = (((likes x.T.au K).map K).idxOf (K (x.T.au.go s ((reps x.T.au K).getD j 0))) : Nat) := fun j hj => by
                      by_cases e : j = xx
                      · subst e
                        rw [upd_self, hid.out]
                      · rw [upd_ne _ _ e]
                        exact hX.out j (by omega)
                    replace hXn := Lib.hid hXn
                    clear hX hz hix64
                    go_wp2_with (fail)
                    exact ⟨⟨xx + 1, A8, c8, _, by omega, rfl, by rw [hft2.out]; try simp, hB1, h1, hr, hk, hc, by rw [hft2.out]; exact hn, by rw [hft2.out]; exact hI, hx8, hAx, hXn.out⟩, by simp only [intOf]; omega⟩
                | true =>
                  have hxe : nb ≠ xx := by intro e; rw [e] at hq; simp at hq
                  have hnb2 : ∀ j, j < b + 1 → num (vec x.T.au K) j ≠ xx := fun j hj => by
                    by_cases e : j = b
                    · subst e; rw [hnbe]; exact hxe
                    · exact hnc.out j (by omega)
                  replace hnb2 := Lib.hid hnb2
                  clear hnc hnbe hq hxe hxI hxl hxM
                  replace hBz := below_then hBz hw3
                  clear hw3
                  go_wp2_with (fail)
                  exact ⟨⟨b + 1, by omega, rfl, rfl, hBz, hnb2.out⟩, by simp only [intOf]; omega⟩
              · exfalso
                have h6 := reps_num x.T.au K (x := xx) hxr.out
                exact hnb _ (by omega) h6.2
          · have hxI : ¬ (xx : Int) < M := by omega
            have hxe : xx = M := by omega
            have hfa : foldT x.T.au K s (reps x.T.au K) L xx = likeN x.T.au K (reps x.T.au K) (i + 1) := by
              have h8 := foldT_all hsL.out
              rw [hL.out, hM.out] at h8
              rw [hxe, h8]
            rw [hfa] at hn hI ⊢
            obtain ⟨l, hl⟩ : ∃ l, rowL x.T.au K s = l := ⟨_, rfl⟩
            have hll : l.length = M := by rw [← hl, ← hM.out]; simp [rowL]
            have hXl : (List.range M).map X = l := by
              rw [← hl]
              apply List.ext_getElem
              · simp [rowL, hM.out]
              · intro j h1 h2
                have hj : j < M := by simpa using h1
                have h3 := hX.out j (by omega)
                rw [getD_at _ _ (by rw [hM.out]; exact hj)] at h3
                simp only [List.getElem_map, List.getElem_range, rowL, h3]
            have hox : Own wr bv 3 1 encZ (.slice (some ⟨gx, 0, none⟩) M M) l := own_arr hx hXl hgxb (by unfold maxLen; omega)
            clear hX hxe hfa hxM hxl hXl hx
            replace hl := Lib.hid hl
            obtain ⟨L2, hL2⟩ : ∃ L2, likeN x.T.au K (reps x.T.au K) (i + 1) = L2 := ⟨_, rfl⟩
            have hL2i : i + 1 ≤ L2.length := by
              obtain ⟨r, hr⟩ := like_prefix1 (A := x.T.au) (k := K) (rs := reps x.T.au K) i
              rw [hL2, hL.out] at hr
              rw [hr, List.length_append]
              omega
            rw [hL2] at hn hI ⊢
            replace hL2 := Lib.hid hL2
            replace hll := Lib.hid hll
            have cA : wr.cell? ⟨go, 256, none⟩ = some (.slice y.A y.rs.length y.c) := blk_d1 hI.out
            go_upto_region 29 with (first | (refine wl_row1 rfl _ rfl ⟨some ⟨gx, 0, none⟩, M, l⟩ (by rw [hll.out]; rfl) ?_) | (at_builtin; refine park ?_))
            refine Parked.mk ?_
            obtain ⟨iR, hiR, hR0, hR1, hR2⟩ := info_parts info_rows3
            have hyl : y.rs.length ≤ i := by
              have := congrArg List.length hY.out.nx
              simp only [List.length_map, List.length_take] at this
              omega
            have hor := hI.own.rows
            simp only [List.length_nil, Nat.add_zero, List.append_nil] at hor
            have hBa : Below wr.heap.size wr (wr.alloc (.cells (rowC ⟨some ⟨gx, 0, none⟩, M, l⟩) 57)) := below_alloc (Below.refl _ _) _
            have hbl : bv ≤ wr.heap.size := by have := hox.lt gx rfl; omega
            refine wl_append _ rfl _ _ 45 rfl bv 57 iR _ 1 24 Try.underlying45 hiR hR0 hR1 hR2 rfl (by decide) rowC_size rowC_one (.slice y.A y.rs.length y.c) y.rs rfl (hor.then_ hBa) _ _ 1 1 [⟨some ⟨gx, 0, none⟩, M, l⟩] rfl rfl (slice_one (enc := rowC) (Blk.new wr _ _)) (by unfold maxLen; omega) (by omega) (by have := hBa.size; omega) ?_
            intro v8 w8 ho8 hg8 hv8
            obtain ⟨A8, c8, rfl, _, _⟩ := ho8.shape
            have hl8 : (y.rs ++ [(⟨some ⟨gx, 0, none⟩, M, l⟩ : RV)]).length = y.rs.length + 1 := by simp
            rw [hl8] at ho8 hv8 ⊢
            have hout := blk_own2 (blk_then hI.out hBa) (hor.then_ hBa) hg8 (by decide)
            unfold TV.C' at hout
            simp only [Act.put, List.setIfInBounds_toArray, List.set_cons_zero, List.set_cons_succ]
            go_upto_region 29 with (refine wl_store_d1 rfl _ _ rfl go rfl rfl hout ?_; intro w9 ho9 hG9)
            have hox8 := own_own (hox.then_ hBa) (hor.then_ hBa) hg8 (by decide)
            have hI9 := (hI.then_ hBa).addRow hg8 ho8 (r := ⟨some ⟨gx, 0, none⟩, M, l⟩) (by rw [hll.out, List.append_nil]; exact hox8) (fun j hj a b ha hb => by injection hb with hb; rw [← hb]; exact hyx.out j hj a ha) (fun a b ha hb => by injection ha with ha; rw [← ha]; exact (hAx b hb).symm) hout hG9 (by unfold TV.C'; simp only [List.length_append, List.length_singleton]; exact ho9)
            replace hB1 := below_grown (below_own (below_then hB1 hBa) hg8 (fun k e => by have := ((hor.then_ hBa).lt k e).1; omega)) hG9 hgow
            replace h1 := (blk_own2 (blk_then h1 hBa) (hor.then_ hBa) hg8 (by decide)).grown hG9 (by simpa using hw1go)
            replace hr := (blk_own2 (blk_then hr hBa) (hor.then_ hBa) hg8 (by decide)).grown hG9 (by simpa using hrgo)
            replace hk := (blk_own2 (blk_then hk hBa) (hor.then_ hBa) hg8 (by decide)).grown hG9 (by simpa using hkgo)
            replace hc := (blk_own2 (blk_then hc hBa) (hor.then_ hBa) hg8 (by decide)).grown hG9 (by simpa using hcgo)
            replace hn := (blk_own2 (blk_then hn hBa) (hor.then_ hBa) hg8 (by decide)).grown hG9 (by simpa using e7.symm)
            have hbv9 : bv ≤ w9.heap.size := by have := hBa.size; have := hg8.size; have := hG9.size; omega
            clear hg8 hv8 ho8 hBa hl8 hiR hR0 hR1 hR2 hbl hor hout hG9 ho9 hox8 hox hI cA
            obtain ⟨y2, hy2⟩ : ∃ y2 : TV, { y with rs := y.rs ++ [(⟨some ⟨gx, 0, none⟩, M, l⟩ : RV)], A := A8, c := c8 } = y2 := ⟨_, rfl⟩
            rw [hy2] at hI9
            obtain ⟨hLi, hLs⟩ := likes_get (A := x.T.au) (k := K) (i := i) (by rw [hL.out]; exact hiN) hok
            have hLs2 : (likes x.T.au K)[i] = s := by
              rw [hLs]
              have := hsL.out
              rw [List.getElem?_eq_some_iff] at this
              exact this.2
            have hnx2 : y2.rs.map (·.l) = ((likes x.T.au K).take (i + 1)).map (rowL x.T.au K) := by
              rw [← hy2, ← take_snoc _ _ hLi hLs2, ← hY.out.nx, hl.out]
              simp
            have hfo2 : y2.fo ++ [x.fo.getD s 0] = ((likes x.T.au K).take (i + 1)).map fun s => (x.T.au.out s).1 := by
              rw [← hy2, ← take_snoc _ (fun s => (x.T.au.out s).1) hLi hLs2]
              show y.fo ++ _ = _
              rw [hY.out.fo]
              rfl
            have hen2 : y2.en ++ [x.en.getD s 0] = ((likes x.T.au K).take (i + 1)).map fun s => (x.T.au.out s).2 := by
              rw [← hy2, ← take_snoc _ (fun s => (x.T.au.out s).2) hLi hLs2]
              show y.en ++ _ = _
              rw [hY.out.en]
              rfl
            have hfl : y2.fo.length ≤ i := by
              have h8 := congrArg List.length hfo2
              simp only [List.length_append, List.length_map, List.length_take, List.length_singleton] at h8
              omega
            have hel : y2.en.length ≤ i := by
              have h8 := congrArg List.length hen2
              simp only [List.length_append, List.length_map, List.length_take, List.length_singleton] at h8
              omega
            replace hnx2 := Lib.hid hnx2
            replace hfo2 := Lib.hid hfo2
            replace hen2 := Lib.hid hen2
            clear hy2 hLs hLs2 hLi hyl
            have hsF : s < x.fo.length := by have := hF.nf; rw [fits_n] at this; have e : x.T.fo.length = x.fo.length := rfl; omega
            have hsE : s < x.en.length := by have := hF.ne; rw [fits_n] at this; have e : x.T.en.length = x.en.length := rfl; omega
            obtain ⟨bF, oF, hFo, cfo⟩ := fo_cells hT (by omega)
            obtain ⟨bE, oE, hEn, cen⟩ := en_cells hT (by omega)
            obtain ⟨iU, hiU, hU0, hU1, hU2⟩ := info_parts info_u3
            refine wp_region_steps 8 [eqS (.pointer (some ⟨go, 257, none⟩)), eqS (.slice y2.B y2.fo.length y2.d), eqS (.pointer (some ⟨w.heap.size, 257, none⟩)), eqS (.slice (some ⟨bF, oF, none⟩) x.fo.length x.d), eqS (.int .i64 (((s : Nat) : Int))), eqS (.pointer (some ⟨bF, oF + s * 1, none⟩)), eqS (.int .u32 ((((x.fo.getD s 0) : Nat) : Int))), oneG 55 (encR (x.fo.getD s 0))] [112, 113, 114, 115, 116, 117, 118, 119] rfl (by kernel_rfl) rfl ?_ ?_
            · skip
              refine Steps.cons (fun a' w' hG hB dep => gs_field (want_none rfl) _ _ _ rfl go (0) (257) (hG.other 9 rfl) (fun wz => field_dfa_2 go (0) wz) rfl) ?_
              refine Steps.cons (fun a' w' hG hB dep => gs_load1 (want_none rfl) _ _ rfl go (257) (dep 0 rfl 112 rfl) (.slice y2.B y2.fo.length y2.d) (blk_d2 (blk_then hI9.out hB)) _ Try.underlying32 rfl rfl) ?_
              refine Steps.cons (fun a' w' hG hB dep => gs_field (want_none rfl) _ _ _ rfl w.heap.size (0) (257) (hG.other 1 rfl) (fun wz => field_dfa_2 w.heap.size (0) wz) rfl) ?_
              refine Steps.cons (fun a' w' hG hB dep => gs_load1 (want_none rfl) _ _ rfl w.heap.size (257) (dep 2 rfl 114 rfl) (.slice (some ⟨bF, oF, none⟩) x.fo.length x.d) (by have h9 := blk_d2 (blk_then h1 hB); rw [hFo] at h9; exact h9) _ Try.underlying32 rfl rfl) ?_
              refine Steps.cons (fun a' w' hG hB dep => gs_move (want_none rfl) _ rfl (id (hG.other 13 rfl))) ?_
              refine Steps.cons (fun a' w' hG hB dep => gs_index (want_none rfl) _ _ _ rfl under_rules 1 size_ruleE bF oF x.fo.length x.d (s) (dep 3 rfl 115 rfl) (dep 4 rfl 116 rfl) hsF rfl) ?_
              refine Steps.cons (fun a' w' hG hB dep => gs_load1 (want_none rfl) _ _ rfl bF (oF + s * 1) (dep 5 rfl 117 rfl) (.int .u32 ((((x.fo.getD s 0) : Nat) : Int))) (cfo (below_then hB1 hB) s hsF) _ Try.underlying55 rfl rfl) ?_
              refine Steps.cons (fun a' w' hG hB dep => gs_u1 (want_none rfl) _ rfl (x.fo.getD s 0) (dep 6 rfl 118 rfl) (fun _ _ h => h)) ?_
              exact Steps.nil
            intro u wq hBa ans
            obtain ⟨g1, hu1, hb1⟩ := ans 7 119 (by decide) rfl
            have hu0 : u 113 = .slice y2.B y2.fo.length y2.d := ans 1 113 (by decide) rfl
            clear ans
            simp only [putAll, List.foldl_cons, List.foldl_nil, Act.put, List.setIfInBounds_toArray, List.set_cons_zero, List.set_cons_succ, hu0, hu1]
            clear hu0 hu1
            simp only [List.drop]
            have hor := hI9.own.fo
            simp only [List.length_nil, Nat.add_zero, List.append_nil] at hor
            have hbl : bv ≤ wq.heap.size := by have := hBa.size; omega
            refine wl_append _ rfl _ _ 32 rfl bv 55 iU _ 1 4 Try.underlying32 hiU hU0 hU1 hU2 rfl (by decide) encR_size encR_one (.slice y2.B y2.fo.length y2.d) y2.fo rfl (hor.then_ hBa) _ _ 1 1 [x.fo.getD s 0] rfl rfl (slice_one (enc := encR) hb1) (by unfold maxLen; omega) (by omega) hbl ?_
            intro v8 w8 ho8 hg8 hv8
            obtain ⟨A8, c8, rfl, _, _⟩ := ho8.shape
            have hl8 : (y2.fo ++ [x.fo.getD s 0]).length = y2.fo.length + 1 := by simp
            rw [hl8] at ho8 hv8 ⊢
            have hout := blk_own2 (blk_then hI9.out hBa) (hor.then_ hBa) hg8 (by decide)
            unfold TV.C' at hout
            simp only [Act.put, List.setIfInBounds_toArray, List.set_cons_zero, List.set_cons_succ]
            go_upto_region 30 with (refine wl_store_d2 rfl _ _ rfl go rfl rfl hout ?_; intro w9 ho9 hG9)
            have hI10 := (hI9.then_ hBa).addFo hg8 ho8 hv8 hout hG9 (by unfold TV.C'; simp only [List.length_append, List.length_singleton]; exact ho9)
            replace hB1 := below_grown (below_own (below_then hB1 hBa) hg8 (fun k e => by have := ((hor.then_ hBa).lt k e).1; omega)) hG9 hgow
            replace hbv9 : bv ≤ w9.heap.size := by have := hBa.size; have := hg8.size; have := hG9.size; omega
            replace h1 := (blk_own2 (blk_then h1 hBa) (hor.then_ hBa) hg8 (by decide)).grown hG9 (by simpa using hw1go)
            replace hr := (blk_own2 (blk_then hr hBa) (hor.then_ hBa) hg8 (by decide)).grown hG9 (by simpa using hrgo)
            replace hk := (blk_own2 (blk_then hk hBa) (hor.then_ hBa) hg8 (by decide)).grown hG9 (by simpa using hkgo)
            replace hc := (blk_own2 (blk_then hc hBa) (hor.then_ hBa) hg8 (by decide)).grown hG9 (by simpa using hcgo)
            replace hn := (blk_own2 (blk_then hn hBa) (hor.then_ hBa) hg8 (by decide)).grown hG9 (by simpa using e7.symm)
            clear hg8 hv8 ho8 hBa hl8 hbl hor hout hG9 ho9 hI9 hb1 hfl
            obtain ⟨y3, hy3⟩ : ∃ y3 : TV, { y2 with fo := y2.fo ++ [x.fo.getD s 0], B := A8, d := c8 } = y3 := ⟨_, rfl⟩
            rw [hy3] at hI10
            have hnx3 : y3.rs.map (·.l) = ((likes x.T.au K).take (i + 1)).map (rowL x.T.au K) := by rw [← hy3]; exact hnx2.out
            have hfo3 : y3.fo = ((likes x.T.au K).take (i + 1)).map fun s => (x.T.au.out s).1 := by rw [← hy3]; exact hfo2.out
            have hen3 : y3.en ++ [x.en.getD s 0] = ((likes x.T.au K).take (i + 1)).map fun s => (x.T.au.out s).2 := by rw [← hy3]; exact hen2.out
            replace hel : y3.en.length ≤ i := by rw [← hy3]; exact hel
            replace hnx3 := Lib.hid hnx3
            replace hfo3 := Lib.hid hfo3
            replace hen3 := Lib.hid hen3
            clear hy3 hnx2 hfo2 hen2
            refine wp_region_steps 8 [eqS (.pointer (some ⟨go, 258, none⟩)), eqS (.slice y3.C y3.en.length y3.e), eqS (.pointer (some ⟨w.heap.size, 258, none⟩)), eqS (.slice (some ⟨bE, oE, none⟩) x.en.length x.e), eqS (.int .i64 (((s : Nat) : Int))), eqS (.pointer (some ⟨bE, oE + s * 1, none⟩)), eqS (.int .u32 ((((x.en.getD s 0) : Nat) : Int))), oneG 55 (encR (x.en.getD s 0))] [122, 123, 124, 125, 126, 127, 128, 129] rfl (by kernel_rfl) rfl ?_ ?_
            · skip
              refine Steps.cons (fun a' w' hG hB dep => gs_field (want_none rfl) _ _ _ rfl go (0) (258) (hG.other 9 rfl) (fun wz => field_dfa_3 go (0) wz) rfl) ?_
              refine Steps.cons (fun a' w' hG hB dep => gs_load1 (want_none rfl) _ _ rfl go (258) (dep 0 rfl 122 rfl) (.slice y3.C y3.en.length y3.e) (blk_d3 (blk_then hI10.out hB)) _ Try.underlying32 rfl rfl) ?_
              refine Steps.cons (fun a' w' hG hB dep => gs_field (want_none rfl) _ _ _ rfl w.heap.size (0) (258) (hG.other 1 rfl) (fun wz => field_dfa_3 w.heap.size (0) wz) rfl) ?_
              refine Steps.cons (fun a' w' hG hB dep => gs_load1 (want_none rfl) _ _ rfl w.heap.size (258) (dep 2 rfl 124 rfl) (.slice (some ⟨bE, oE, none⟩) x.en.length x.e) (by have h9 := blk_d3 (blk_then h1 hB); rw [hEn] at h9; exact h9) _ Try.underlying32 rfl rfl) ?_
              refine Steps.cons (fun a' w' hG hB dep => gs_move (want_none rfl) _ rfl (id (hG.other 13 rfl))) ?_
              refine Steps.cons (fun a' w' hG hB dep => gs_index (want_none rfl) _ _ _ rfl under_rules 1 size_ruleE bE oE x.en.length x.e (s) (dep 3 rfl 125 rfl) (dep 4 rfl 126 rfl) hsE rfl) ?_
              refine Steps.cons (fun a' w' hG hB dep => gs_load1 (want_none rfl) _ _ rfl bE (oE + s * 1) (dep 5 rfl 127 rfl) (.int .u32 ((((x.en.getD s 0) : Nat) : Int))) (cen (below_then hB1 hB) s hsE) _ Try.underlying55 rfl rfl) ?_
              refine Steps.cons (fun a' w' hG hB dep => gs_u1 (want_none rfl) _ rfl (x.en.getD s 0) (dep 6 rfl 128 rfl) (fun _ _ h => h)) ?_
              exact Steps.nil
            intro u wq hBa ans
            obtain ⟨g1, hu1, hb1⟩ := ans 7 129 (by decide) rfl
            have hu0 : u 123 = .slice y3.C y3.en.length y3.e := ans 1 123 (by decide) rfl
            clear ans
            simp only [putAll, List.foldl_cons, List.foldl_nil, Act.put, List.setIfInBounds_toArray, List.set_cons_zero, List.set_cons_succ, hu0, hu1]
            clear hu0 hu1
            simp only [List.drop]
            have hor := hI10.own.en
            simp only [List.length_nil, Nat.add_zero, List.append_nil] at hor
            have hbl : bv ≤ wq.heap.size := by have := hBa.size; omega
            refine wl_append _ rfl _ _ 32 rfl bv 55 iU _ 1 4 Try.underlying32 hiU hU0 hU1 hU2 rfl (by decide) encR_size encR_one (.slice y3.C y3.en.length y3.e) y3.en rfl (hor.then_ hBa) _ _ 1 1 [x.en.getD s 0] rfl rfl (slice_one (enc := encR) hb1) (by unfold maxLen; omega) (by omega) hbl ?_
            intro v8 w8 ho8 hg8 hv8
            obtain ⟨A8, c8, rfl, _, _⟩ := ho8.shape
            have hl8 : (y3.en ++ [x.en.getD s 0]).length = y3.en.length + 1 := by simp
            rw [hl8] at ho8 hv8 ⊢
            have hout := blk_own2 (blk_then hI10.out hBa) (hor.then_ hBa) hg8 (by decide)
            unfold TV.C' at hout
            simp only [Act.put, List.setIfInBounds_toArray, List.set_cons_zero, List.set_cons_succ]
            go_upto_region 13 with (refine wl_store_d3 rfl _ _ rfl go rfl rfl hout ?_; intro w9 ho9 hG9)
            have hI11 := (hI10.then_ hBa).addEn hg8 ho8 hv8 hout hG9 (by unfold TV.C'; simp only [List.length_append, List.length_singleton]; exact ho9)
            replace hB1 := below_grown (below_own (below_then hB1 hBa) hg8 (fun k e => by have := ((hor.then_ hBa).lt k e).1; omega)) hG9 hgow
            replace hbv9 : bv ≤ w9.heap.size := by have := hBa.size; have := hg8.size; have := hG9.size; omega
            replace h1 := (blk_own2 (blk_then h1 hBa) (hor.then_ hBa) hg8 (by decide)).grown hG9 (by simpa using hw1go)
            replace hr := (blk_own2 (blk_then hr hBa) (hor.then_ hBa) hg8 (by decide)).grown hG9 (by simpa using hrgo)
            replace hk := (blk_own2 (blk_then hk hBa) (hor.then_ hBa) hg8 (by decide)).grown hG9 (by simpa using hkgo)
            replace hc := (blk_own2 (blk_then hc hBa) (hor.then_ hBa) hg8 (by decide)).grown hG9 (by simpa using hcgo)
            replace hn := (blk_own2 (blk_then hn hBa) (hor.then_ hBa) hg8 (by decide)).grown hG9 (by simpa using e7.symm)
            clear hg8 hv8 ho8 hBa hl8 hbl hor hout hG9 ho9 hI10 hb1 hel hiU hU0 hU1 hU2 cfo cen hFo hEn hsF hsE
            obtain ⟨y4, hy4⟩ : ∃ y4 : TV, { y3 with en := y3.en ++ [x.en.getD s 0], C := A8, e := c8 } = y4 := ⟨_, rfl⟩
            rw [hy4] at hI11
            have hY4 : YI x K (i + 1) y4 := ⟨by rw [← hy4]; exact hnx3.out, by rw [← hy4]; exact hfo3.out, by rw [← hy4]; exact hen3.out⟩
            clear hy4 hnx3 hfo3 hen3 hY
            replace hY4 := Lib.hid hY4
            go_wp2_with (fail)
            exact ⟨⟨i + 1, y4, A, c, rfl, by rw [hL2.out], by rw [hL2.out]; exact hL2i, hB1, h1, hr, hk, hc, by rw [hL2.out]; exact hn, by rw [hL2.out]; exact hI11, hY4.out⟩, by simp only [intOf]; omega⟩
      · have hiI : ¬ (i : Int) < L.length := by omega
        have hLl := likes_at hok (k := K) i (by rw [hL.out]; omega)
        rw [hL.out] at hLl
        have hie : i = (likes x.T.au K).length := by rw [← hLl]; omega
        have hyT : y.T = leastOf x.T := by
          rw [leastOf_eq hF hker]
          refine Tb.same_ hI.yf ?_ ?_ ?_
          · have := hY.out.nx
            rw [hie, List.take_length] at this
            exact this
          · have := hY.out.fo
            rw [hie, List.take_length] at this
            exact this
          · have := hY.out.en
            rw [hie, List.take_length] at this
            exact this
        replace hyT := Lib.hid hyT
        clear hLl hie
        have hout := hI.out
        unfold TV.C' at hout
        go_wp2_with (first | (refine wl_load_dfa rfl _ rfl _ rfl hout ?_) | (refine wl_store_dfa rfl _ _ rfl gr rfl rfl hr ?_; intro w9 hr9 hG9))
        refine ret_dfa2 rfl rfl hr9 rfl ?_
        refine ⟨below_grown hB1 hG9 hgrw, y, by rw [hfb]; rfl, (hI.own.box hr hG9 (by decide) (by decide) (by decide)).mono hbw, hyT.out⟩
  · rw [hfb]
    have hfb2 := Lib.hid hfb
    clear hfb
    go_wp2_with (first | (refine wl_build_dfa0 rfl rfl ?_) | (refine wl_store_dfa rfl _ _ rfl gr rfl rfl hr ?_; intro w9 hr9 hG9))
    refine ret_dfa2 rfl rfl hr9 rfl ?_
    refine ⟨below_grown hB1 hG9 hgrw, ⟨fun _ => 0, [], none, 0, [], none, 0, [], none, 0⟩, ?_, TOwn.nil _ _ _, ?_⟩
    · rw [hfb2.out]; rfl
    · rw [leastOf_no hF]; rfl
theorem enter_rmake (args : Array Value) (w : World) : (callFunc 20 args).run Try.prog w = .ok (.enter 20 args) w := by kernel_rfl
end Go.Proofs.Ytgahdookojbbiaa
