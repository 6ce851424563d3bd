/- ere: some (a node of a list), set (a node of a set), repeat. No condition beyond those named in each lemma. -/
import Derived.Test.YtajainmldcnaeaaEreN
import Derived.Test.YtajainmldcnaeaaOctG
namespace Go.Proofs.Ytajainmldcnaeaa
open Go.RowKit Go.Maps
set_option linter.unusedVariables false
set_option linter.unusedSimpArgs false
attribute [local go_sem] Oper.semAt_some

/-- a new node's cells -/
def zeroC : Array Value := #[.int .i64 0, .int .u64 0, .int .u64 0, .int .u64 0, .int .u64 0, .slice none 0 0, .int .i64 0, .int .i64 0]
theorem ret_nv {fn : Func} {p : Tmp} {g : Nat} {x : NV} (hres : fn.results = #[.cell p 27]) {a : Act} {w : World}
    (hp : a.tmps.getD p undef = .pointer (some ⟨g, 0, none⟩)) (hb : Blk w g 27 x.C)
    (hdf : a.defers = []) {R : Ending → World → Prop} (hR : R (.returned (.agg x.C)) w) : bodyPost Try.prog fn R .ret a w :=
  ret_cell hres _ hp hb Try.underlying27 rfl (info_node.trans rfl) hdf hR
set_option maxRecDepth 100000 in
set_option maxHeartbeats 2000000 in
theorem some_any (kd : Int) {B : Nat} {A : Option Addr} {n c : Nat} {l : List Nd} {cl : List NV} {bl : List (List Nat)} (w : World) (h : NdL w B A n c l cl bl) :
    Calls Try.prog 58 #[.int .i64 kd, .slice A n c] w fun e w' => Below w.heap.size w w' ∧ ∃ x bs, e = .returned (.agg (NV.C x)) ∧ NdO w' B (Ere.someN kd l) x bs := by
  have hn := h.hn
  have hnb := h.hmax
  go_enter Try.func58, Try.ntmps58
  have h4 : Blk (w.alloc (.cells zeroC 27)) w.heap.size 27 zeroC := Blk.new' _ _ _ rfl
  have hB : Below w.heap.size w (w.alloc (.cells zeroC 27)) := below_alloc (Below.refl _ _) _
  unfold zeroC at h4 hB
  rcases l with _ | ⟨t, _ | ⟨t2, l⟩⟩
  · have hn0 : n = 0 := by simpa using hn
    subst hn0
    clear hn hnb
    go_wp2_with (first | (refine wl_build_node rfl _ rfl _ #[(0, .int .i64 1)] rfl (fun w => build_leaf 1 w) ?_) | (refine wl_store_nv rfl _ _ rfl _ _ rfl rfl _ rfl h4 ?_; intro w5 h5 hg5))
    refine ret_nv rfl rfl h5 rfl ⟨below_grown hB hg5 (Nat.le_refl _), _, _, rfl, NdO.leaf _ _ _ _ _ _⟩
  · have hn1 : n = 1 := by simpa using hn
    subst hn1
    have hcl := h.hcl
    obtain ⟨x, rfl⟩ : ∃ x, cl = [x] := List.length_eq_one_iff.1 (by simpa using hcl)
    have hbl := h.hbl
    obtain ⟨bs, rfl⟩ : ∃ x, bl = [x] := List.length_eq_one_iff.1 (by simpa using hbl)
    obtain ⟨g, cap, hv, hBg, hgl, _, _⟩ := h.ho.form (by simp)
    injection hv with h1 h2 h3
    subst h1
    have hrow : RowAt (w.alloc (.cells zeroC 27)) g (0 * 8) x.C := ((h.ho.alloc _).row NV.size 0 (by simp))
    have ht := h.hr 0 (by simp) (by simp) (by simp)
    simp only [List.getElem_cons_zero] at ht
    have h0 := Lib.hid ht
    clear ht
    unfold zeroC at hrow
    replace hrow := Lib.hid hrow
    clear h hn hcl hbl h2 h3 hnb hBg hgl
    go_wp2_with (first | (refine wl_load_node_at rfl _ rfl g _ rfl _ _ _ _ _ _ _ hrow.out ?_) | (refine wl_store_nv rfl _ _ rfl _ x rfl rfl _ rfl h4 ?_; intro w5 h5 hg5))
    refine ret_nv rfl rfl h5 rfl ⟨below_grown hB hg5 (Nat.le_refl _), x, bs, rfl, h0.out.then_ (below_grown hB hg5 (Nat.le_refl _))⟩
  · have hn2 : n = l.length + 2 := by simpa using hn
    have hz0 : ¬ (n : Int) = 0 := by omega
    have hz1 : ¬ (n : Int) = 1 := by omega
    replace h := Lib.hid h
    clear hn hn2 hnb
    go_wp2_with (first | (refine wl_build_node rfl _ rfl ⟨kd, 0, A, n, c, 0, 0⟩ #[(0, .int .i64 kd), (2, .slice A n c)] rfl (fun w => build_nlist kd A n c w) ?_) | (refine wl_store_nv rfl _ _ rfl _ _ rfl rfl _ rfl h4 ?_; intro w5 h5 hg5))
    refine ret_nv rfl rfl h5 rfl ⟨below_grown hB hg5 (Nat.le_refl _), _, _, rfl, (h.out.then_ (below_grown hB hg5 (Nat.le_refl _))).node kd 0 0 0⟩
theorem ret_step {P : Program} {f : FuncId} {vs : Array Value} {w : World} {S : GSpec} {v : Value} (hc : Calls P f vs w fun e w' => e = .returned v ∧ Below w.heap.size w w') (hp : ∀ w', S.p v w') : Calls P f vs w fun e w' => ∃ v, e = .returned v ∧ Below w.heap.size w w' ∧ S.p v w' :=
  hc.mono fun e w' h => ⟨v, h.1, h.2, hp w'⟩
set_option maxRecDepth 100000 in
set_option maxHeartbeats 2000000 in
theorem nset_any (s : BSet) (w : World) :
    Calls Try.prog 79 #[.agg (setC s)] w fun e w' => e = .returned (.agg (NV.mk 2 (s &&& notB 0) none 0 0 0 0).C) ∧ Below w.heap.size w w' := by
  go_enter Try.func79, Try.ntmps79
  have h1 : Blk ((w.alloc (.cells (setC s) 24)).alloc (.cells zeroC 27)) w.heap.size 24 (setC s) := (Blk.new _ _ _).alloc _
  have h4 : Blk ((w.alloc (.cells (setC s) 24)).alloc (.cells zeroC 27)) (w.heap.size + 1) 27 zeroC := Blk.new' _ _ _ (by simp)
  have hB : Below w.heap.size w ((w.alloc (.cells (setC s) 24)).alloc (.cells zeroC 27)) := below_alloc (below_alloc (Below.refl _ _) _) _
  unfold zeroC at h1 h4 hB
  go_upto_region 1 with (fail)
  obtain ⟨w1, hw1⟩ : ∃ y, y = (w.alloc (.cells (setC s) 24)).alloc (.cells zeroC 27) := ⟨_, rfl⟩
  unfold zeroC at hw1
  rw [← hw1] at h1 h4 hB ⊢
  clear hw1
  refine wp_region_steps 4 [eqS (.agg (setC s)), eqS (.agg (setC 0)), eqS (.agg (setC (notB 0))), eqS (.agg (setC (s &&& notB 0)))] [3, 4, 5, 6] follows_mixed (by kernel_rfl) (by kernel_rfl) ?_ ?_
  · refine Steps.cons (fun a' w' hG hB dep => gs_load_set_at (want_none rfl) _ rfl w.heap.size 0 (hG.other 1 rfl) s (RowAt.of_blk (blk_then h1 hB)) rfl) ?_
    refine Steps.cons (fun a' w' hG hB dep => gs_build_set0 (want_none rfl) rfl rfl) ?_
    refine Steps.cons (fun a' w' hG hB dep => gs_call (want_none rfl) _ _ _ rfl enter_not #[.agg (setC 0)] (map1 (dep 1 rfl 4 rfl)) (ret_step (not_any 0 _) (fun _ => rfl))) ?_
    refine Steps.cons (fun a' w' hG hB dep => gs_call (want_none rfl) _ _ _ rfl enter_meet #[.agg (setC s), .agg (setC (notB 0))] (map2 (dep 0 rfl 3 rfl) (dep 2 rfl 5 rfl)) (ret_step (meet_any s (notB 0) _) (fun _ => rfl))) ?_
    exact Steps.nil
  intro u w2 hB2 ans
  have u6 : u 6 = .agg (setC (s &&& notB 0)) := ans 3 6 (by decide) rfl
  clear ans
  simp only [putAll, List.foldl_cons, List.foldl_nil, Act.put, List.setIfInBounds_toArray, List.set_cons_zero, List.set_cons_succ, u6]
  clear u6
  simp only [List.drop]
  replace h4 := blk_then h4 hB2
  replace hB := below_then hB hB2
  refine wl_build_node rfl _ rfl ⟨2, s &&& notB 0, none, 0, 0, 0, 0⟩ #[(0, .int .i64 2), (1, .agg (setC (s &&& notB 0)))] rfl (fun w => build_nset 2 _ w) ?_
  refine wl_store_nv rfl _ _ rfl _ ⟨2, s &&& notB 0, none, 0, 0, 0, 0⟩ rfl rfl _ rfl h4 ?_
  intro w3 h3 hg3
  refine wpList_nil ?_
  go_wp2_with (fail)
  exact ret_nv rfl rfl h3 rfl ⟨rfl, below_grown hB hg3 (by omega)⟩
end Go.Proofs.Ytajainmldcnaeaa
