/- Part 6 of a proof; packed: the texts that it was made of follow one another. No condition beyond those named in each lemma. -/
import Derived.Test.YtajainmldcnaeaaPa5
import Derived.Laws.Pointers
import Derived.Recover
namespace Go.Proofs.Ytajainmldcnaeaa
open Go.RowKit Go.Maps
set_option linter.unusedVariables false
set_option linter.unusedSimpArgs false
attribute [local go_sem] Oper.semAt_some

namespace Ere
theorem nlAt_none (p : ByteArray) : ∀ n i, p.size ≤ n + i → nlAt p n i = none → ∀ j, i ≤ j → j < p.size → chr p j ≠ 10
  | 0, i, hn, _, j, hj, hp => by omega
  | n + 1, i, hn, h, j, hj, hp => by
    unfold nlAt at h
    split at h
    · omega
    · split at h
      · cases h
      · rename_i h1 h2
        by_cases e : j = i
        · subst e; exact h2
        · exact nlAt_none p n (i + 1) (by omega) h j (by omega) hp
theorem nlAt_some (p : ByteArray) : ∀ n i j, nlAt p n i = some j → i ≤ j ∧ j < p.size ∧ chr p j = 10 ∧ ∀ k, i ≤ k → k < j → chr p k ≠ 10
  | 0, i, j, h => by cases h
  | n + 1, i, j, h => by
    unfold nlAt at h
    split at h
    · cases h
    · split at h
      · rename_i h1 h2
        injection h with h
        subst h
        exact ⟨Nat.le_refl _, by omega, h2, fun k h3 h4 => by omega⟩
      · rename_i h1 h2
        obtain ⟨a, b, c, d⟩ := nlAt_some p n (i + 1) j h
        refine ⟨by omega, b, c, fun k h3 h4 => ?_⟩
        by_cases e : k = i
        · subst e; exact h2
        · exact d k (by omega) h4
theorem index_nl (p : ByteArray) : Lib.indexByte p.data.toList 10 = match nlAt p (p.size + 1) 0 with
    | none => -1
    | some j => (j : Int) := by
  have key : ∀ o : Nat, Lib.indexByte p.data.toList 10 = o → (o < p.size ∧ chr p o = 10) ∧ ∀ k, k < o → ¬ (k < p.size ∧ chr p k = 10) := fun o ho => by
    obtain ⟨h1, h2⟩ := Lib.indexByte_some ho
    exact ⟨(chr_list p o 10).1 h1, fun k hk h => h2 k hk ((chr_list p k 10).2 h)⟩
  have hge := Lib.indexByte_ge p.data.toList 10
  cases he : nlAt p (p.size + 1) 0 with
  | none =>
    have hn := nlAt_none p (p.size + 1) 0 (by omega) he
    rcases Int.lt_or_le (Lib.indexByte p.data.toList 10) 0 with h0 | h0
    · simp only; omega
    · obtain ⟨o, ho⟩ := Int.eq_ofNat_of_zero_le h0
      have h1 := (key o ho).1
      exact absurd h1.2 (hn o (by omega) h1.1)
  | some j =>
    obtain ⟨-, h2, h3, h4⟩ := nlAt_some p (p.size + 1) 0 j he
    rcases Int.lt_or_le (Lib.indexByte p.data.toList 10) 0 with h0 | h0
    · have h1 := Lib.indexByte_none (l := p.data.toList) (c := 10) (by omega)
      exact absurd ((chr_list p j 10).2 ⟨h2, h3⟩) (h1 j)
    · obtain ⟨o, ho⟩ := Int.eq_ofNat_of_zero_le h0
      obtain ⟨h5, h6⟩ := key o ho
      have hoj : o = j := by
        rcases Nat.lt_trichotomy o j with h | h | h
        · exact absurd h5.2 (h4 o (by omega) h)
        · exact h
        · exact absurd ⟨h2, h3⟩ (h6 j h)
      rw [ho, hoj]
end Ere
theorem field_fault_0 (b off : Nat) (w : World) : (Instr.fieldAt 73 (.pointer (some ⟨b, off, none⟩)) 0).run Try.prog w = .ok (.pointer (some ⟨b, off, none⟩)) w := by kernel_rfl
theorem field_fault_1 (b off : Nat) (w : World) : (Instr.fieldAt 73 (.pointer (some ⟨b, off, none⟩)) 1).run Try.prog w = .ok (.pointer (some ⟨b, off + 1, none⟩)) w := by kernel_rfl
theorem assert_fault (e0 a0 : Int) (w : World) : (Instr.typeAssert (.iface 73 (.agg #[.int .i64 e0, .int .i64 a0])) 20 73 true).run Try.prog w = .ok (.tuple #[.agg #[.int .i64 e0, .int .i64 a0], .bool true]) w := by kernel_rfl
def zeroV : NV := ⟨0, 0, none, 0, 0, 0, 0⟩
theorem gs_build_nzero {ops : Array Oper} {S : Nat → GSpec} {Q : Exit → Act → World → Prop} {i : Nat} {o : Oper} {a : Act} {w : World} (hw : Region.wanted o (yielded ops a.tmps) = true) (ho : o.op = .build 27 #[]) (hp : (S i).p (.agg zeroV.C) w) : GStep Try.prog ops S Q i o a w :=
  gs_run hw (v := .agg zeroV.C) (w' := w) (by unfold execOp; simp only [ho, List.map_toArray, List.map_nil, Sem.run_bind, build_nzero, Result.andThen_ok, Sem.run_pure]; rfl) (Below.refl _ _) hp
theorem Turn.set {lo hi b i : Nat} {w w' : World} {v : Value} (h : Turn lo hi w w') (h1 : lo ≤ b) (h2 : b < hi) : Turn lo hi w (w'.setCell ⟨b, i, none⟩ v) :=
  h.grown (only_setCell (World.grownBy.refl w' (some b)) (.inl rfl) v) (fun q e => by injection e with e; left; omega)
set_option maxHeartbeats 1000000 in
set_option maxRecDepth 100000 in
/-- the closure of Parse, where a reader has given up -/
theorem closure_fault (g : Nat) (e0 a0 : Nat) (x : NV) (x3 x4 : Value) (w : World) (h2 : Blk w g 27 x.C) (h3 : Blk w (g + 1) 3 #[x3]) (h4 : Blk w (g + 1 + 1) 29 #[x4]) :
    CallsD Try.prog 38 #[.pointer (some ⟨g, 0, none⟩), .pointer (some ⟨g + 1, 0, none⟩), .pointer (some ⟨g + 1 + 1, 0, none⟩)] (.panicking [{ v := .iface 73 (.agg #[.int .i64 (e0 : Int), .int .i64 (a0 : Int)]), recovered := false }]) w fun e u' w' =>
      e = .returned (.tuple #[]) ∧ u' = .panicking [{ v := .iface 73 (.agg #[.int .i64 (e0 : Int), .int .i64 (a0 : Int)]), recovered := true }] ∧ Turn g (g + 3) w w' ∧
        Blk w' g 27 zeroV.C ∧ Blk w' (g + 1) 3 #[.int .i64 (a0 : Int)] ∧ Blk w' (g + 1 + 1) 29 #[.int .i64 (e0 : Int)] := by
  have hta := assert_fault (e0 : Int) (a0 : Int)
  refine callsD_of_wpS Try.func38 rfl fun c₀ cs hu => ?_
  apply wpS_seq
  apply wpS_region
  simp [wpOpsS, go_sem, recoverD, hu, Try.ntmps38, Exit.thenS]
  refine wpS_of_wp ?_
  simp only [show (Array.replicate 14 undef : Array Value) = #[undef, undef, undef, undef, undef, undef, undef, undef, undef, undef, undef, undef, undef, undef] from rfl, List.setIfInBounds_toArray, List.set_cons_zero, List.set_cons_succ, List.append_toArray, List.cons_append, List.nil_append]
  go_upto_region 7 with (fail)
  have hf : Blk (w.alloc (.cells #[.int .i64 (e0 : Int), .int .i64 (a0 : Int)] 73)) w.heap.size 73 #[.int .i64 (e0 : Int), .int .i64 (a0 : Int)] := Blk.new' _ _ _ rfl
  have hB : Below w.heap.size w (w.alloc (.cells #[.int .i64 (e0 : Int), .int .i64 (a0 : Int)] 73)) := below_alloc (Below.refl _ _) _
  obtain ⟨w1, hw1⟩ : ∃ y, y = w.alloc (.cells #[.int .i64 (e0 : Int), .int .i64 (a0 : Int)] 73) := ⟨_, rfl⟩
  rw [← hw1] at hf hB ⊢
  clear hw1
  have hgl := h4.lt
  replace h2 := blk_then h2 hB
  replace h3 := blk_then h3 hB
  replace h4 := blk_then h4 hB
  have hT : Turn g (g + 3) w w1 := Turn.of_below hB
  obtain ⟨gf, hgf⟩ : ∃ y, y = w.heap.size := ⟨_, rfl⟩
  have hn1 : gf ≠ g := by omega
  have hn2 : gf ≠ g + 1 := by omega
  have hn3 : gf ≠ g + 1 + 1 := by omega
  rw [← hgf] at hf ⊢
  clear hgf hB
  have r0 := h2.cellv (i := 0) rfl
  have z0 := h2.frozen 0
  have r1 := h2.cellv (i := 1) rfl
  have z1 := h2.frozen 1
  have r2 := h2.cellv (i := 2) rfl
  have z2 := h2.frozen 2
  have r3 := h2.cellv (i := 3) rfl
  have z3 := h2.frozen 3
  have r4 := h2.cellv (i := 4) rfl
  have z4 := h2.frozen 4
  have r5 := h2.cellv (i := 5) rfl
  have z5 := h2.frozen 5
  have r6 := h2.cellv (i := 6) rfl
  have z6 := h2.frozen 6
  have r7 := h2.cellv (i := 7) rfl
  have z7 := h2.frozen 7
  have q1 : w1.cell? ⟨gf, 1, none⟩ = some (.int .i64 (a0 : Int)) := hf.cellv rfl
  have q0 : w1.cell? ⟨gf, 0, none⟩ = some (.int .i64 (e0 : Int)) := hf.cellv rfl
  have c3 := h3.cellv (i := 0) (v := x3) rfl
  have f3 := h3.frozen 0
  have c4 := h4.cellv (i := 0) (v := x4) rfl
  have f4 := h4.frozen 0
  go_big_region
  clear q0 q1 c3 f3 c4 f4 hf hn1 hn2 hn3 r0 r1 r2 r3 r4 r5 r6 r7 z0 z1 z2 z3 z4 z5 z6 z7
  replace h2 := h2.set_ 0 (.int .i64 0)
  replace h2 := h2.set_ 1 (.int .u64 0)
  replace h2 := h2.set_ 2 (.int .u64 0)
  replace h2 := h2.set_ 3 (.int .u64 0)
  replace h2 := h2.set_ 4 (.int .u64 0)
  replace h2 := h2.set_ 5 (.slice none 0 0)
  replace h2 := h2.set_ 6 (.int .i64 0)
  replace h2 := h2.set_ 7 (.int .i64 0)
  replace h3 := h3.far (p := ⟨g, 0, none⟩) (by simp) (.int .i64 0)
  replace h4 := h4.far (p := ⟨g, 0, none⟩) (by simp; omega) (.int .i64 0)
  replace hT := hT.set (b := g) (i := 0) (v := (.int .i64 0)) (by omega) (by omega)
  replace h3 := h3.far (p := ⟨g, 1, none⟩) (by simp) (.int .u64 0)
  replace h4 := h4.far (p := ⟨g, 1, none⟩) (by simp; omega) (.int .u64 0)
  replace hT := hT.set (b := g) (i := 1) (v := (.int .u64 0)) (by omega) (by omega)
  replace h3 := h3.far (p := ⟨g, 2, none⟩) (by simp) (.int .u64 0)
  replace h4 := h4.far (p := ⟨g, 2, none⟩) (by simp; omega) (.int .u64 0)
  replace hT := hT.set (b := g) (i := 2) (v := (.int .u64 0)) (by omega) (by omega)
  replace h3 := h3.far (p := ⟨g, 3, none⟩) (by simp) (.int .u64 0)
  replace h4 := h4.far (p := ⟨g, 3, none⟩) (by simp; omega) (.int .u64 0)
  replace hT := hT.set (b := g) (i := 3) (v := (.int .u64 0)) (by omega) (by omega)
  replace h3 := h3.far (p := ⟨g, 4, none⟩) (by simp) (.int .u64 0)
  replace h4 := h4.far (p := ⟨g, 4, none⟩) (by simp; omega) (.int .u64 0)
  replace hT := hT.set (b := g) (i := 4) (v := (.int .u64 0)) (by omega) (by omega)
  replace h3 := h3.far (p := ⟨g, 5, none⟩) (by simp) (.slice none 0 0)
  replace h4 := h4.far (p := ⟨g, 5, none⟩) (by simp; omega) (.slice none 0 0)
  replace hT := hT.set (b := g) (i := 5) (v := (.slice none 0 0)) (by omega) (by omega)
  replace h3 := h3.far (p := ⟨g, 6, none⟩) (by simp) (.int .i64 0)
  replace h4 := h4.far (p := ⟨g, 6, none⟩) (by simp; omega) (.int .i64 0)
  replace hT := hT.set (b := g) (i := 6) (v := (.int .i64 0)) (by omega) (by omega)
  replace h3 := h3.far (p := ⟨g, 7, none⟩) (by simp) (.int .i64 0)
  replace h4 := h4.far (p := ⟨g, 7, none⟩) (by simp; omega) (.int .i64 0)
  replace hT := hT.set (b := g) (i := 7) (v := (.int .i64 0)) (by omega) (by omega)
  replace h2 := h2.far (p := ⟨g + 1, 0, none⟩) (by simp) (.int .i64 (a0 : Int))
  replace h4 := h4.far (p := ⟨g + 1, 0, none⟩) (by simp) (.int .i64 (a0 : Int))
  replace h3 := h3.set_ 0 (.int .i64 (a0 : Int))
  replace hT := hT.set (b := g + 1) (i := 0) (v := .int .i64 (a0 : Int)) (by omega) (by omega)
  replace h2 := h2.far (p := ⟨g + 1 + 1, 0, none⟩) (by simp; omega) (.int .i64 (e0 : Int))
  replace h3 := h3.far (p := ⟨g + 1 + 1, 0, none⟩) (by simp) (.int .i64 (e0 : Int))
  replace h4 := h4.set_ 0 (.int .i64 (e0 : Int))
  replace hT := hT.set (b := g + 1 + 1) (i := 0) (v := .int .i64 (e0 : Int)) (by omega) (by omega)
  replace h2 := h2.drew
  replace h3 := h3.drew
  replace h4 := h4.drew
  replace hT := hT.then_ ((Below.refl _ _).drew)
  generalize World.drew _ = w2 at h2 h3 h4 hT ⊢
  go_wp2_with (fail)
  refine ⟨rfl, _, rfl, _, results_none rfl _ _ _, rfl, rfl, hT, ?_, h3, h4⟩
  have e : ((((((((x.C.setIfInBounds 0 (.int .i64 0)).setIfInBounds 1 (.int .u64 0)).setIfInBounds 2 (.int .u64 0)).setIfInBounds 3 (.int .u64 0)).setIfInBounds 4 (.int .u64 0)).setIfInBounds 5 (.slice none 0 0)).setIfInBounds 6 (.int .i64 0)).setIfInBounds 7 (.int .i64 0)) = zeroV.C := by kernel_rfl
  rw [← e]
  exact h2
/-- the closure of Parse, where nothing was given up -/
theorem closure_idle (p q r : Addr) (w : World) : CallsD Try.prog 38 #[.pointer (some p), .pointer (some q), .pointer (some r)] .returning w fun e u' w' => e = .returned (.tuple #[]) ∧ u' = .returning ∧ w' = w := by
  refine callsD_of_wpS Try.func38 rfl fun c₀ cs hu => ?_
  apply wpS_seq
  apply wpS_region
  simp [wpOpsS, go_sem, recoverD, hu, Try.ntmps38, Exit.thenS]
  refine wpS_of_wp ?_
  simp only [show (Array.replicate 14 undef : Array Value) = #[undef, undef, undef, undef, undef, undef, undef, undef, undef, undef, undef, undef, undef, undef] from rfl, List.setIfInBounds_toArray, List.set_cons_zero, List.set_cons_succ, List.append_toArray, List.cons_append, List.nil_append]
  go_wp2_with (fail)
  cases c₀
  simp_all [bodyPostS, results, Try.results38]
end Go.Proofs.Ytajainmldcnaeaa
namespace Go.Proofs.Ytajainmldcnaeaa
open Go.RowKit Go.Maps
set_option linter.unusedVariables false
set_option linter.unusedSimpArgs false
attribute [local go_sem] Oper.semAt_some

theorem placesN_eq (t : Nd) : placesN t = Ere.placesN t := by
  unfold placesN Ere.placesN
  split
  · omega
  · rfl
/-- three results that lie in variables -/
theorem res3 {fn : Func} {g : Nat} {x : NV} (hres : fn.results = #[.cell 2 27, .cell 3 3, .cell 4 29]) {tmps : Array Value} {w : World} {a b : Int}
    (h2 : tmps.getD 2 undef = .pointer (some ⟨g, 0, none⟩)) (h3 : tmps.getD 3 undef = .pointer (some ⟨g + 1, 0, none⟩)) (h4 : tmps.getD 4 undef = .pointer (some ⟨g + 1 + 1, 0, none⟩))
    (k2 : Blk w g 27 x.C) (k3 : Blk w (g + 1) 3 #[.int .i64 a]) (k4 : Blk w (g + 1 + 1) 29 #[.int .i64 b]) : (results fn tmps).run Try.prog w = .ok (.tuple #[.agg x.C, .int .i64 a, .int .i64 b]) w := by
  have l2 := run_loadVar_row (P := Try.prog) w g 27 27 x.C (0, 0) _ k2 Try.underlying27 rfl (info_node.trans rfl)
  have l3 := run_load1 (P := Try.prog) w ⟨g + 1, 0, none⟩ 3 _ (.int .i64 a) (k3.cellv rfl) Try.underlying3 rfl
  have l4 := run_load1 (P := Try.prog) w ⟨g + 1 + 1, 0, none⟩ 29 _ (.int .i64 b) (k4.cellv rfl) Try.underlying29 rfl
  have h2' : tmps[2]?.getD undef = .pointer (some ⟨g, 0, none⟩) := by simpa using h2
  have h3' : tmps[3]?.getD undef = .pointer (some ⟨g + 1, 0, none⟩) := by simpa using h3
  have h4' : tmps[4]?.getD undef = .pointer (some ⟨g + 1 + 1, 0, none⟩) := by simpa using h4
  simp [results, hres, h2', h3', h4', asAddr, l2, l3, l4]
set_option maxRecDepth 100000 in
set_option maxHeartbeats 8000000 in
theorem parse_any (p : ByteArray) (w : World) (hM : Mx w) :
    Calls Try.prog 12 #[.string p] w fun e w' => Below w.heap.size w w' ∧ ∃ x bs, e = .returned (.tuple #[.agg (NV.C x), .int .i64 ((Ere.parseR p).2.1 : Int), .int .i64 ((Ere.parseR p).2.2 : Int)]) ∧ NdO w' w.heap.size (Ere.parseR p).1 x bs := by
  obtain ⟨r, hr0⟩ : ∃ r, Ere.parseR p = r := ⟨_, rfl⟩
  rw [hr0]
  unfold Ere.parseR at hr0
  have hmf : ∀ (fn : Fn) (first cap : Array Value) (w : World), (Instr.makeFunc fn first cap).run Try.prog w = .ok (.func fn first cap) w := fun _ _ _ _ => rfl
  have hw0 : 0 < w.heap.size := by
    obtain ⟨m, hm⟩ := hM
    rcases Nat.eq_zero_or_pos w.heap.size with e | e
    · unfold World.cell? at hm
      simp [Array.getElem?_eq_none (show w.heap.size ≤ 0 by omega)] at hm
    · exact e
  go_enter_defers Try.func12, Try.ntmps12
  have k2 : Blk (((w.alloc (.cells zeroC 27)).alloc (.cells #[.int .i64 0] 3)).alloc (.cells #[.int .i64 0] 29)) w.heap.size 27 zeroC := ((Blk.new _ _ _).alloc _).alloc _
  have k3 : Blk (((w.alloc (.cells zeroC 27)).alloc (.cells #[.int .i64 0] 3)).alloc (.cells #[.int .i64 0] 29)) (w.heap.size + 1) 3 #[.int .i64 0] := (Blk.new' _ _ _ (by simp)).alloc _
  have k4 : Blk (((w.alloc (.cells zeroC 27)).alloc (.cells #[.int .i64 0] 3)).alloc (.cells #[.int .i64 0] 29)) (w.heap.size + 1 + 1) 29 #[.int .i64 0] := Blk.new' _ _ _ (by simp)
  have hB : Below w.heap.size w (((w.alloc (.cells zeroC 27)).alloc (.cells #[.int .i64 0] 3)).alloc (.cells #[.int .i64 0] 29)) := below_alloc (below_alloc (below_alloc (Below.refl _ _) _) _) _
  unfold zeroC at k2 k3 k4 hB
  go_upto_region 1 with (fail)
  obtain ⟨w1, hw1⟩ : ∃ y, y = ((w.alloc (.cells zeroC 27)).alloc (.cells #[.int .i64 0] 3)).alloc (.cells #[.int .i64 0] 29) := ⟨_, rfl⟩
  unfold zeroC at hw1
  rw [← hw1] at k2 k3 k4 hB
  first | rw [← hw1] | (simp only [World.size_alloc]; rw [← hw1])
  clear hw1
  obtain ⟨g, hg⟩ : ∃ y, y = w.heap.size := ⟨_, rfl⟩
  rw [← hg] at k2 k3 k4 hw0 ⊢
  have hgw := Lib.hid hg
  have hgl := Lib.hid k4.lt
  clear hg
  replace hM := hM.then_ hB
  by_cases hbig : 1024 < p.size
  · rw [if_pos hbig] at hr0
    have hbigI : (1024 : Int) < p.size := by omega
    subst hr0
    go_wp2_with (first
      | (refine wl_build_node rfl _ rfl zeroV #[] rfl (fun w => build_nzero w) ?_)
      | (refine wl_store_nv rfl _ _ rfl g zeroV rfl rfl _ rfl k2 ?_; intro w2 m2 hg2; have m3 := k3.grown hg2 (fun e => by injection e with e; omega); have m4 := k4.grown hg2 (fun e => by injection e with e; omega); have c3 := m3.cellv (i := 0) (v := .int .i64 0) rfl; have f3 := m3.frozen 0; have c4 := m4.cellv (i := 0) (v := .int .i64 0) rfl; have f4 := m4.frozen 0))
    have q3 := (m3.set_ 0 (.int .i64 1024)).far (p := ⟨g + 1 + 1, 0, none⟩) (by simp) (.int .i64 40)
    have q4 := (m4.far (p := ⟨g + 1, 0, none⟩) (by simp) (.int .i64 1024)).set_ 0 (.int .i64 40)
    have q2 := (m2.far (p := ⟨g + 1, 0, none⟩) (by simp) (.int .i64 1024)).far (p := ⟨g + 1 + 1, 0, none⟩) (by simp; omega) (.int .i64 40)
    have hT := ((Turn.refl g (g + 3) w1).grown hg2 (fun q e => by injection e with e; left; omega)).set (b := g + 1) (i := 0) (v := .int .i64 1024) (by omega) (by omega) |>.set (b := g + 1 + 1) (i := 0) (v := .int .i64 40) (by omega) (by omega)
    refine ⟨_, res3 rfl rfl rfl rfl q2 q3 q4, ?_⟩
    have hBB := hB.trans (hT.below (by have := hgw.out; omega) (by have := hgl.out; have := hgw.out; omega))
    exact ⟨hBB, zeroV, rfl, [], NdO.leaf _ _ _ _ _ _⟩
  · rw [if_neg hbig] at hr0
    have hbigI : ¬ (1024 : Int) < p.size := by omega
    have kI := sib_any p 10 w1
    rw [show (10 : Int).toNat.toUInt8 = 10 from rfl, Ere.index_nl] at kI
    obtain ⟨onl, honl⟩ : ∃ o, Ere.nlAt p (p.size + 1) 0 = o := ⟨_, rfl⟩
    rw [honl] at hr0 kI
    replace honl := Lib.hid honl
    cases onl with
    | some j =>
      simp only at hr0 kI
      have hj0 : (0 : Int) ≤ j := by omega
      subst hr0
      go_wp2_with (first
        | (go_at_call 37; refine kI.mono ?_; rintro e w9 ⟨rfl, hw9⟩; rw [hw9]; clear hw9)
        | (refine wl_build_node rfl _ rfl zeroV #[] rfl (fun w => build_nzero w) ?_)
        | (refine wl_store_nv rfl _ _ rfl g zeroV rfl rfl _ rfl k2 ?_; intro w2 m2 hg2; have m3 := k3.grown hg2 (fun e => by injection e with e; omega); have m4 := k4.grown hg2 (fun e => by injection e with e; omega); have c3 := m3.cellv (i := 0) (v := .int .i64 0) rfl; have f3 := m3.frozen 0; have c4 := m4.cellv (i := 0) (v := .int .i64 0) rfl; have f4 := m4.frozen 0))
      have q3 := (m3.set_ 0 (.int .i64 (j : Int))).far (p := ⟨g + 1 + 1, 0, none⟩) (by simp) (.int .i64 41)
      have q4 := (m4.far (p := ⟨g + 1, 0, none⟩) (by simp) (.int .i64 (j : Int))).set_ 0 (.int .i64 41)
      have q2 := (m2.far (p := ⟨g + 1, 0, none⟩) (by simp) (.int .i64 (j : Int))).far (p := ⟨g + 1 + 1, 0, none⟩) (by simp; omega) (.int .i64 41)
      have hT := ((Turn.refl g (g + 3) w1).grown hg2 (fun q e => by injection e with e; left; omega)).set (b := g + 1) (i := 0) (v := .int .i64 (j : Int)) (by omega) (by omega) |>.set (b := g + 1 + 1) (i := 0) (v := .int .i64 41) (by omega) (by omega)
      refine ⟨_, res3 rfl rfl rfl rfl q2 q3 q4, ?_⟩
      have hBB := hB.trans (hT.below (by have := hgw.out; omega) (by have := hgl.out; have := hgw.out; omega))
      exact ⟨hBB, zeroV, rfl, [], NdO.leaf _ _ _ _ _ _⟩
    | none =>
      simp only at hr0 kI
      go_upto_region 7 with (go_at_call 37; refine kI.mono ?_; rintro e w9 ⟨rfl, hw9⟩; rw [hw9]; clear hw9)
      clear kI
      go_upto_region 8 with (fail)
      have hP : Blk (w1.alloc (.cells (rdC p 0) 76)) w1.heap.size 76 (rdC p 0) := Blk.new' _ _ _ rfl
      have hB2 : Below w1.heap.size w1 (w1.alloc (.cells (rdC p 0) 76)) := below_alloc (Below.refl _ _) _
      obtain ⟨w2, hw2⟩ : ∃ y, y = w1.alloc (.cells (rdC p 0) 76) := ⟨_, rfl⟩
      rw [← hw2] at hP hB2
      unfold rdC at hw2
      rw [show ((0 : Nat) : Int) = 0 from rfl] at hw2
      rw [← hw2]
      clear hw2
      have m2 := blk_then k2 hB2
      have m3 := blk_then k3 hB2
      have m4 := blk_then k4 hB2
      have hM2 := hM.then_ hB2
      have hT := Turn.of_below (lo := g) (hi := g + 3) hB2
      obtain ⟨gr, hgr⟩ : ∃ y, y = w1.heap.size := ⟨_, rfl⟩
      rw [← hgr] at hP ⊢
      have hgr2 := Lib.hid (show g + 1 + 1 < gr ∧ 0 < gr by have := hgl.out; omega)
      have kP := pat_any p 64 0 rfl gr 0 w2 hP (by omega) (by omega) hM2 hgr2.out.2
      rw [show ((0 : Nat) : Int) = 0 from rfl] at kP
      obtain ⟨rp, hrp⟩ : ∃ q, Ere.patR p 64 0 = q := ⟨_, rfl⟩
      rw [hrp] at hr0 kP
      replace hrp := Lib.hid hrp
      have hs2 := Lib.hid hB2.size
      have hgw2 := Lib.hid (show gr = w1.heap.size from hgr)
      clear hgr k2 k3 k4 hM hB2
      cases rp with
      | fault e0 a0 =>
        simp only at hr0
        subst hr0
        go_wp2_with (go_at_call 39; refine kP.mono ?_; rintro e w9 ⟨hT9, hfe⟩; unfold faultE at hfe; subst hfe)
        refine leaves_cons (f := 38) (args := #[.pointer (some ⟨g, 0, none⟩), .pointer (some ⟨g + 1, 0, none⟩), .pointer (some ⟨g + 1 + 1, 0, none⟩)]) (by simp) (by simp [go_sem]) ?_
        refine (closure_fault g e0 a0 zeroV (.int .i64 0) (.int .i64 0) _ (blk_turn m2 hT9 (by have := hgr2.out; omega)) (blk_turn m3 hT9 (by have := hgr2.out; omega)) (blk_turn m4 hT9 (by have := hgr2.out; omega))).mono ?_
        rintro e u' w10 ⟨rfl, rfl, hT10, q2, q3, q4⟩
        refine Exists.intro _ (And.intro (res3 rfl rfl rfl rfl q2 q3 q4) ?_)
        have hBB := ((hB.trans (hT.below (N := w.heap.size) (by have := hgw.out; omega) (by have := hB.size; omega))).trans (hT9.below (N := w.heap.size) (by have := hgw.out; have := hgr2.out; omega) (by have := hB.size; have := hs2.out; omega))).trans (hT10.below (N := w.heap.size) (by have := hgw.out; omega) (by have := hB.size; have := hs2.out; have := hT9.size; omega))
        exact ⟨hBB, zeroV, rfl, [], NdO.leaf _ _ _ _ _ _⟩
      | got t j =>
        simp only at hr0
        have kPl := fun (x : NV) (bs : List Nat) (W : World) (h : NdO W w2.heap.size t x bs) => placesE_any t W.heap.size W x.C h.toIn (Nat.le_refl _)
        rw [placesN_eq] at kPl
        have hplb : Ere.placesN t ≤ 2049 := by unfold Ere.placesN; split <;> omega
        obtain ⟨np, hnp⟩ : ∃ q, Ere.placesN t = q := ⟨_, rfl⟩
        rw [hnp] at hr0 kPl hplb
        replace kPl := Lib.hid kPl
        replace hnp := Lib.hid hnp
        go_upto_region 9 with (first
          | (go_at_call 39; refine kP.mono ?_; rintro e w3 ⟨hT3, hP3, x, bs, rfl, hO3⟩; have n2 := blk_turn m2 hT3 (by have := hgr2.out; omega))
          | (refine wl_store_nv rfl _ _ rfl g x rfl rfl _ rfl n2 ?_; intro w4 h2 hg4))
        have h3 := (blk_turn m3 hT3 (by have := hgr2.out; omega)).grown hg4 (fun e => by injection e with e; omega)
        have h4 := (blk_turn m4 hT3 (by have := hgr2.out; omega)).grown hg4 (fun e => by injection e with e; omega)
        have hO4 := hO3.keep (w' := w4) (fun b hb => hg4.block b (hO3.lt b hb).2 (fun e => by injection e with e; have := (hO3.lt b hb).1; have := hgr2.out; have := hs2.out; have := hgw2.out; omega))
        have hT4 : Turn g (g + 3) w3 w4 := (Turn.refl g (g + 3) w3).grown hg4 (fun q e => by injection e with e; left; omega)
        have hs3 := Lib.hid hT3.size
        clear hg4 hO3 n2 m2 m3 m4 hP3 kP hP
        have kQ := kPl.out x bs w4 hO4
        have hBB4 := Lib.hid (((hB.trans (hT.below (N := w.heap.size) (by have := hgw.out; omega) (by have := hB.size; omega))).trans (hT3.below (N := w.heap.size) (by have := hgw.out; have := hgr2.out; omega) (by have := hB.size; have := hs2.out; omega))).trans (hT4.below (N := w.heap.size) (by have := hgw.out; omega) (by have := hB.size; have := hs2.out; have := hs3.out; omega)))
        have hsz4 := Lib.hid (show w2.heap.size ≤ w4.heap.size by have := hs3.out; have := hT4.size; omega)
        replace hB := Lib.hid hB.size
        clear hT hT3 hT4 kPl
        go_upto_if 25 with (first
          | (refine wl_load_nv rfl _ rfl g rfl x h2 ?_)
          | (go_at_call 16; refine kQ.mono ?_; rintro e w5 ⟨rfl, hB5⟩))
        clear kQ
        replace h2 := blk_then h2 hB5
        replace h3 := blk_then h3 hB5
        replace h4 := blk_then h4 hB5
        replace hO4 := hO4.then_ hB5
        by_cases hbp : 2048 < np
        · rw [if_pos hbp] at hr0
          subst hr0
          have hbpI : (2048 : Int) < np := by omega
          go_wp2_with (go_at_call 40; refine (give_any 48 0 _).mono ?_; rintro e w6 ⟨hfe, hB6⟩; unfold faultE at hfe; subst hfe)
          refine leaves_cons (f := 38) (args := #[.pointer (some ⟨g, 0, none⟩), .pointer (some ⟨g + 1, 0, none⟩), .pointer (some ⟨g + 1 + 1, 0, none⟩)]) (by simp) (by simp [go_sem]) ?_
          refine (closure_fault g 48 0 x (.int .i64 0) (.int .i64 0) _ (blk_then h2 hB6) (blk_then h3 hB6) (blk_then h4 hB6)).mono ?_
          rintro e u' w10 ⟨rfl, rfl, hT10, q2, q3, q4⟩
          refine Exists.intro _ (And.intro (res3 rfl rfl rfl rfl q2 q3 q4) ?_)
          have hBB := ((hBB4.out.trans (hB5.mono (by have := hB.out; have := hs2.out; have := hsz4.out; omega))).trans (hB6.mono (by have := hB.out; have := hs2.out; have := hsz4.out; have := hB5.size; omega))).trans (hT10.below (N := w.heap.size) (by have := hgw.out; omega) (by have := hB.out; have := hs2.out; have := hsz4.out; have := hB5.size; have := hB6.size; omega))
          exact ⟨hBB, zeroV, rfl, [], NdO.leaf _ _ _ _ _ _⟩
        · rw [if_neg hbp] at hr0
          subst hr0
          have hbpI : (np : Int) ≤ 2048 := by omega
          go_wp2_with (first
            | (refine wl_load_nv rfl _ rfl g rfl x h2 ?_)
            | (refine wl_store_nv rfl _ _ rfl g x rfl rfl _ rfl h2 ?_; intro w6 n2 hg6; have n3 := h3.grown hg6 (fun e => by injection e with e; omega); have n4 := h4.grown hg6 (fun e => by injection e with e; omega); have c3 := n3.cellv (i := 0) (v := .int .i64 0) rfl; have f3 := n3.frozen 0; have c4 := n4.cellv (i := 0) (v := .int .i64 0) rfl; have f4 := n4.frozen 0))
          refine leaves_cons (f := 38) (args := #[.pointer (some ⟨g, 0, none⟩), .pointer (some ⟨g + 1, 0, none⟩), .pointer (some ⟨g + 1 + 1, 0, none⟩)]) (by simp) (by simp [go_sem]) ?_
          refine (closure_idle ⟨g, 0, none⟩ ⟨g + 1, 0, none⟩ ⟨g + 1 + 1, 0, none⟩ _).mono ?_
          rintro e u' w10 ⟨rfl, rfl, rfl⟩
          have q3 := (n3.set_ 0 (.int .i64 0)).far (p := ⟨g + 1 + 1, 0, none⟩) (by simp) (.int .i64 0)
          have q4 := (n4.far (p := ⟨g + 1, 0, none⟩) (by simp) (.int .i64 0)).set_ 0 (.int .i64 0)
          have q2 := (n2.far (p := ⟨g + 1, 0, none⟩) (by simp) (.int .i64 0)).far (p := ⟨g + 1 + 1, 0, none⟩) (by simp; omega) (.int .i64 0)
          have hT6 := ((Turn.refl g (g + 3) w5).grown hg6 (fun q e => by injection e with e; left; omega)).set (b := g + 1) (i := 0) (v := .int .i64 0) (by omega) (by omega) |>.set (b := g + 1 + 1) (i := 0) (v := .int .i64 0) (by omega) (by omega)
          refine Exists.intro _ (And.intro (res3 rfl rfl rfl rfl q2 q3 q4) ?_)
          have hBB := (hBB4.out.trans (hB5.mono (by have := hB.out; have := hs2.out; have := hsz4.out; omega))).trans (hT6.below (N := w.heap.size) (by have := hgw.out; omega) (by have := hB.out; have := hs2.out; have := hsz4.out; have := hB5.size; omega))
          have hO6 := (hO4.mono (show w.heap.size ≤ w2.heap.size by have := hB.out; have := hs2.out; omega)).keep (w' := (w6.setCell ⟨g + 1, 0, none⟩ (.int .i64 0)).setCell ⟨g + 1 + 1, 0, none⟩ (.int .i64 0)) (fun b hb => hT6.block b (hO4.lt b hb).2 (.inr (by have := (hO4.lt b hb).1; have := hgr2.out; have := hs2.out; have := hgw2.out; omega)))
          exact ⟨hBB, x, rfl, bs, hO6⟩
end Go.Proofs.Ytajainmldcnaeaa
namespace Go.Proofs.Ytajainmldcnaeaa
open Go.RowKit Go.Maps
set_option linter.unusedVariables false
set_option linter.unusedSimpArgs false
attribute [local go_sem] Oper.semAt_some

open Classical in
/-- are two trees one? -/
noncomputable def sameB (a b : Nd) : Bool := decide (a = b)
theorem sameB_iff (a b : Nd) : sameB a b = true ↔ a = b := by unfold sameB; simp
theorem sameB_self (a : Nd) : sameB a a = true := (sameB_iff a a).2 rfl
theorem sameB_ne {a b : Nd} (h : a ≠ b) : sameB a b = false := by
  rw [Bool.eq_false_iff]
  exact fun e => h ((sameB_iff a b).1 e)
theorem gs_load_nd {ops : Array Oper} {S : Nat → GSpec} {Q : Exit → Act → World → Prop} {i : Nat} {o : Oper} {a : Act} {w : World} (hw : Region.wanted o (yielded ops a.tmps) = true) (x : Operand) (ho : o.op = .load 27 x) (b off : Nat) (hx : a.eval x = .pointer (some ⟨b, off, none⟩)) (cs : Array Value)
    (hr : RowAt w b off cs ∧ cs.size = 8) (hp : (S i).p (.agg cs) w) : GStep Try.prog ops S Q i o a w :=
  gs_run hw (v := .agg cs) (by unfold execOp; simp only [ho, hx, Instr.loadAt, Instr.sureAddr, Sem.run_bind, Sem.run_pure, Result.andThen_ok, run_loadVar_at w b off _ _ _ hr.1 Try.underlying27 rfl (info_node.trans (by rw [hr.2]))]) (Below.refl _ _) hp
theorem enter_same4 (args : Array Value) (w : World) : (callFunc 14 args).run Try.prog w = .ok (.enter 14 args) w := by kernel_rfl
theorem NdIn.size8 {w : World} {B : Nat} {nd : Nd} {cs : Array Value} (h : NdIn w B nd cs) : cs.size = 8 := by
  cases h
  rfl
set_option maxRecDepth 100000 in
set_option maxHeartbeats 8000000 in
theorem same4_any (a : Nd) : ∀ (b : Nd) (B : Nat) (w : World) (cs cs' : Array Value), NdIn w B a cs → NdIn w B b cs' → B ≤ w.heap.size →
    Calls Try.prog 14 #[.agg cs, .agg cs'] w fun e w' => e = .returned (.bool (sameB a b)) ∧ Below w.heap.size w w' := by
  induction a using Nd.ind with
  | h kd st l mi ma ih =>
  intro b B w cs cs' hin1 hin2 hB
  obtain ⟨kd', st', l', mi', ma'⟩ := b
  obtain ⟨A, n, c, cl, rfl, hn, hcl, hmax, hs, hr⟩ := hin1.inv
  obtain ⟨A', n', c', cl', rfl, hn', hcl', hmax', hs', hr'⟩ := hin2.inv
  obtain ⟨V, hV⟩ : ∃ V, sameB (Nd.mk kd st l mi ma) (Nd.mk kd' st' l' mi' ma') = V := ⟨_, rfl⟩
  rw [hV]
  obtain ⟨b0, k0⟩ : ∃ q, (kd != kd') = q := ⟨_, rfl⟩
  obtain ⟨b1, k1⟩ : ∃ q, (!decide (st = st')) = q := ⟨_, rfl⟩
  obtain ⟨b2, k2⟩ : ∃ q, (mi != mi') = q := ⟨_, rfl⟩
  obtain ⟨b3, k3⟩ : ∃ q, (ma != ma') = q := ⟨_, rfl⟩
  obtain ⟨b4, k4⟩ : ∃ q, (((n : Nat) : Int) != ((n' : Nat) : Int)) = q := ⟨_, rfl⟩
  replace k0 := Lib.hid k0
  replace k1 := Lib.hid k1
  replace k2 := Lib.hid k2
  replace k3 := Lib.hid k3
  replace k4 := Lib.hid k4
  replace hV := Lib.hid hV
  replace hn := Lib.hid hn
  replace hcl := Lib.hid hcl
  replace hn' := Lib.hid hn'
  replace hcl' := Lib.hid hcl'
  replace hr := Lib.hid hr
  replace hr' := Lib.hid hr'
  replace ih := Lib.hid ih
  clear hin1 hin2 hmax'
  go_enter Try.func14, Try.ntmps14
  have h1 := (Blk.new w 27 (nodeC kd st A n c mi ma)).alloc (.cells (nodeC kd' st' A' n' c' mi' ma') 27)
  have h2 : Blk ((w.alloc (.cells (nodeC kd st A n c mi ma) 27)).alloc (.cells (nodeC kd' st' A' n' c' mi' ma') 27)) (w.heap.size + 1) 27 (nodeC kd' st' A' n' c' mi' ma') := Blk.new' _ _ _ (by simp)
  have hB1 : Below w.heap.size w ((w.alloc (.cells (nodeC kd st A n c mi ma) 27)).alloc (.cells (nodeC kd' st' A' n' c' mi' ma') 27)) := below_alloc (below_alloc (Below.refl _ _) _) _
  go_upto_region 1 with (fail)
  obtain ⟨W1, hW1⟩ : ∃ y, y = (w.alloc (.cells (nodeC kd st A n c mi ma) 27)).alloc (.cells (nodeC kd' st' A' n' c' mi' ma') 27) := ⟨_, rfl⟩
  rw [← hW1] at h1 h2 hB1 ⊢
  clear hW1
  obtain ⟨g1, hg1⟩ : ∃ y, y = w.heap.size := ⟨_, rfl⟩
  obtain ⟨g2, hg2⟩ : ∃ y, y = w.heap.size + 1 := ⟨_, rfl⟩
  rw [← hg2] at h2 ⊢
  rw [← hg1] at h1 ⊢
  clear hg1 hg2
  obtain ⟨q, hq⟩ : ∃ q, (((((b0 || b1) || b2) || b3) || b4)) = q := ⟨_, rfl⟩
  refine wp_region_text 35 [eqS (.pointer (some ⟨g1, 0, none⟩)), eqS (.int .i64 (kd)), eqS (.pointer (some ⟨g2, 0, none⟩)), eqS (.int .i64 (kd')), eqS (.bool b0), eqS (.bool b0), eqS (vF (true && (b0 == false)) (.pointer (some ⟨g1, 1, none⟩))), eqS (vF (true && (b0 == false)) (.agg (setC st))), eqS (vF (true && (b0 == false)) (.pointer (some ⟨g2, 1, none⟩))), eqS (vF (true && (b0 == false)) (.agg (setC st'))), eqS (vF (true && (b0 == false)) (.bool b1)), eqS (.bool (b0 || b1)), eqS (.bool (b0 || b1)), eqS (vF (true && ((b0 || b1) == false)) (.pointer (some ⟨g1, 6, none⟩))), eqS (vF (true && ((b0 || b1) == false)) (.int .i64 (mi))), eqS (vF (true && ((b0 || b1) == false)) (.pointer (some ⟨g2, 6, none⟩))), eqS (vF (true && ((b0 || b1) == false)) (.int .i64 (mi'))), eqS (vF (true && ((b0 || b1) == false)) (.bool b2)), eqS (.bool ((b0 || b1) || b2)), eqS (.bool ((b0 || b1) || b2)), eqS (vF (true && (((b0 || b1) || b2) == false)) (.pointer (some ⟨g1, 7, none⟩))), eqS (vF (true && (((b0 || b1) || b2) == false)) (.int .i64 (ma))), eqS (vF (true && (((b0 || b1) || b2) == false)) (.pointer (some ⟨g2, 7, none⟩))), eqS (vF (true && (((b0 || b1) || b2) == false)) (.int .i64 (ma'))), eqS (vF (true && (((b0 || b1) || b2) == false)) (.bool b3)), eqS (.bool (((b0 || b1) || b2) || b3)), eqS (.bool (((b0 || b1) || b2) || b3)), eqS (vF (true && ((((b0 || b1) || b2) || b3) == false)) (.pointer (some ⟨g1, 5, none⟩))), eqS (vF (true && ((((b0 || b1) || b2) || b3) == false)) (.slice A n c)), eqS (vF (true && ((((b0 || b1) || b2) || b3) == false)) (.int .i64 (((n : Nat) : Int)))), eqS (vF (true && ((((b0 || b1) || b2) || b3) == false)) (.pointer (some ⟨g2, 5, none⟩))), eqS (vF (true && ((((b0 || b1) || b2) || b3) == false)) (.slice A' n' c')), eqS (vF (true && ((((b0 || b1) || b2) || b3) == false)) (.int .i64 (((n' : Nat) : Int)))), eqS (vF (true && ((((b0 || b1) || b2) || b3) == false)) (.bool b4)), eqS (.bool ((((b0 || b1) || b2) || b3) || b4))] [6, 7, 8, 9, 10, 11, 12, 13, 14, 15, 16, 17, 18, 19, 20, 21, 22, 23, 24, 25, 26, 27, 28, 29, 30, 31, 32, 33, 34, 35, 36, 37, 38, 39, 40] (by kernel_rfl) rfl ?_ ?_
  · skip
    refine Steps.cons (fun a' w' hG hB dep => gs_field (want_none rfl) _ _ _ rfl g1 (0) (0) (hG.other 2 rfl) (fun wz => field_node_0 g1 (0) wz) rfl) ?_
    refine Steps.cons (fun a' w' hG hB dep => gs_load1 (want_none rfl) _ _ rfl g1 (0) (dep 0 rfl 6 rfl) (.int .i64 (kd)) ((blk_then h1 hB).cellv (i := 0) rfl) _ Try.underlying3 rfl rfl) ?_
    refine Steps.cons (fun a' w' hG hB dep => gs_field (want_none rfl) _ _ _ rfl g2 (0) (0) (hG.other 3 rfl) (fun wz => field_node_0 g2 (0) wz) rfl) ?_
    refine Steps.cons (fun a' w' hG hB dep => gs_load1 (want_none rfl) _ _ rfl g2 (0) (dep 2 rfl 8 rfl) (.int .i64 (kd')) ((blk_then h2 hB).cellv (i := 0) rfl) _ Try.underlying3 rfl rfl) ?_
    refine Steps.cons (fun a' w' hG hB dep => gs_neq_int (want_none rfl) _ _ _ _ rfl _ _ _ (dep 1 rfl 7 rfl) (dep 3 rfl 9 rfl) (id (congrArg Value.bool k0.out))) ?_
    refine Steps.cons (fun a' w' hG hB dep => gs_move (want_none rfl) _ rfl (id (dep 4 rfl 10 rfl))) ?_
    refine Steps.cons (fun a' w' hG hB dep => gs_guard (c := true) (b' := b0) rfl rfl (dep 5 rfl 11 rfl) (fun hc he hw => gs_field hw _ _ _ rfl g1 (0) (1) (hG.other 2 rfl) (fun wz => field_node_1 g1 (0) wz) (vF_yes (on_g hc he) _).symm) (fun hn => vF_no hn _)) ?_
    refine Steps.cons (fun a' w' hG hB dep => gs_guard (c := true) (b' := b0) rfl rfl (dep 5 rfl 11 rfl) (fun hc he hw => gs_load_set_at hw _ rfl g1 (1) (Eq.trans (dep 6 rfl 12 rfl) (vF_yes (on_g hc he) _)) _ (node_st (blk_then h1 hB)) (vF_yes (on_g hc he) _).symm) (fun hn => vF_no hn _)) ?_
    refine Steps.cons (fun a' w' hG hB dep => gs_guard (c := true) (b' := b0) rfl rfl (dep 5 rfl 11 rfl) (fun hc he hw => gs_field hw _ _ _ rfl g2 (0) (1) (hG.other 3 rfl) (fun wz => field_node_1 g2 (0) wz) (vF_yes (on_g hc he) _).symm) (fun hn => vF_no hn _)) ?_
    refine Steps.cons (fun a' w' hG hB dep => gs_guard (c := true) (b' := b0) rfl rfl (dep 5 rfl 11 rfl) (fun hc he hw => gs_load_set_at hw _ rfl g2 (1) (Eq.trans (dep 8 rfl 14 rfl) (vF_yes (on_g hc he) _)) _ (node_st (blk_then h2 hB)) (vF_yes (on_g hc he) _).symm) (fun hn => vF_no hn _)) ?_
    refine Steps.cons (fun a' w' hG hB dep => gs_guard (c := true) (b' := b0) rfl rfl (dep 5 rfl 11 rfl) (fun hc he hw => gs_neq_set hw _ _ _ rfl _ _ (Eq.trans (dep 7 rfl 13 rfl) (vF_yes (on_g hc he) _)) (Eq.trans (dep 9 rfl 15 rfl) (vF_yes (on_g hc he) _)) (Eq.trans (congrArg Value.bool k1.out) (vF_yes (on_g hc he) _).symm)) (fun hn => vF_no hn _)) ?_
    refine Steps.cons (fun a' w' hG hB dep => gs_pick (want_none rfl) _ _ _ rfl b0 (dep 5 rfl 11 rfl) (id (pick_or2 (c := true) rfl (dep 10 rfl 16 rfl)))) ?_
    refine Steps.cons (fun a' w' hG hB dep => gs_move (want_none rfl) _ rfl (id (dep 11 rfl 17 rfl))) ?_
    refine Steps.cons (fun a' w' hG hB dep => gs_guard (c := true) (b' := (b0 || b1)) rfl rfl (dep 12 rfl 18 rfl) (fun hc he hw => gs_field hw _ _ _ rfl g1 (0) (6) (hG.other 2 rfl) (fun wz => field_node_3 g1 (0) wz) (vF_yes (on_g hc he) _).symm) (fun hn => vF_no hn _)) ?_
    refine Steps.cons (fun a' w' hG hB dep => gs_guard (c := true) (b' := (b0 || b1)) rfl rfl (dep 12 rfl 18 rfl) (fun hc he hw => gs_load1 hw _ _ rfl g1 (6) (Eq.trans (dep 13 rfl 19 rfl) (vF_yes (on_g hc he) _)) (.int .i64 (mi)) ((blk_then h1 hB).cellv (i := 6) rfl) _ Try.underlying3 rfl (vF_yes (on_g hc he) _).symm) (fun hn => vF_no hn _)) ?_
    refine Steps.cons (fun a' w' hG hB dep => gs_guard (c := true) (b' := (b0 || b1)) rfl rfl (dep 12 rfl 18 rfl) (fun hc he hw => gs_field hw _ _ _ rfl g2 (0) (6) (hG.other 3 rfl) (fun wz => field_node_3 g2 (0) wz) (vF_yes (on_g hc he) _).symm) (fun hn => vF_no hn _)) ?_
    refine Steps.cons (fun a' w' hG hB dep => gs_guard (c := true) (b' := (b0 || b1)) rfl rfl (dep 12 rfl 18 rfl) (fun hc he hw => gs_load1 hw _ _ rfl g2 (6) (Eq.trans (dep 15 rfl 21 rfl) (vF_yes (on_g hc he) _)) (.int .i64 (mi')) ((blk_then h2 hB).cellv (i := 6) rfl) _ Try.underlying3 rfl (vF_yes (on_g hc he) _).symm) (fun hn => vF_no hn _)) ?_
    refine Steps.cons (fun a' w' hG hB dep => gs_guard (c := true) (b' := (b0 || b1)) rfl rfl (dep 12 rfl 18 rfl) (fun hc he hw => gs_neq_int hw _ _ _ _ rfl _ _ _ (Eq.trans (dep 14 rfl 20 rfl) (vF_yes (on_g hc he) _)) (Eq.trans (dep 16 rfl 22 rfl) (vF_yes (on_g hc he) _)) (Eq.trans (congrArg Value.bool k2.out) (vF_yes (on_g hc he) _).symm)) (fun hn => vF_no hn _)) ?_
    refine Steps.cons (fun a' w' hG hB dep => gs_pick (want_none rfl) _ _ _ rfl (b0 || b1) (dep 12 rfl 18 rfl) (id (pick_or2 (c := true) rfl (dep 17 rfl 23 rfl)))) ?_
    refine Steps.cons (fun a' w' hG hB dep => gs_move (want_none rfl) _ rfl (id (dep 18 rfl 24 rfl))) ?_
    refine Steps.cons (fun a' w' hG hB dep => gs_guard (c := true) (b' := ((b0 || b1) || b2)) rfl rfl (dep 19 rfl 25 rfl) (fun hc he hw => gs_field hw _ _ _ rfl g1 (0) (7) (hG.other 2 rfl) (fun wz => field_node_4 g1 (0) wz) (vF_yes (on_g hc he) _).symm) (fun hn => vF_no hn _)) ?_
    refine Steps.cons (fun a' w' hG hB dep => gs_guard (c := true) (b' := ((b0 || b1) || b2)) rfl rfl (dep 19 rfl 25 rfl) (fun hc he hw => gs_load1 hw _ _ rfl g1 (7) (Eq.trans (dep 20 rfl 26 rfl) (vF_yes (on_g hc he) _)) (.int .i64 (ma)) ((blk_then h1 hB).cellv (i := 7) rfl) _ Try.underlying3 rfl (vF_yes (on_g hc he) _).symm) (fun hn => vF_no hn _)) ?_
    refine Steps.cons (fun a' w' hG hB dep => gs_guard (c := true) (b' := ((b0 || b1) || b2)) rfl rfl (dep 19 rfl 25 rfl) (fun hc he hw => gs_field hw _ _ _ rfl g2 (0) (7) (hG.other 3 rfl) (fun wz => field_node_4 g2 (0) wz) (vF_yes (on_g hc he) _).symm) (fun hn => vF_no hn _)) ?_
    refine Steps.cons (fun a' w' hG hB dep => gs_guard (c := true) (b' := ((b0 || b1) || b2)) rfl rfl (dep 19 rfl 25 rfl) (fun hc he hw => gs_load1 hw _ _ rfl g2 (7) (Eq.trans (dep 22 rfl 28 rfl) (vF_yes (on_g hc he) _)) (.int .i64 (ma')) ((blk_then h2 hB).cellv (i := 7) rfl) _ Try.underlying3 rfl (vF_yes (on_g hc he) _).symm) (fun hn => vF_no hn _)) ?_
    refine Steps.cons (fun a' w' hG hB dep => gs_guard (c := true) (b' := ((b0 || b1) || b2)) rfl rfl (dep 19 rfl 25 rfl) (fun hc he hw => gs_neq_int hw _ _ _ _ rfl _ _ _ (Eq.trans (dep 21 rfl 27 rfl) (vF_yes (on_g hc he) _)) (Eq.trans (dep 23 rfl 29 rfl) (vF_yes (on_g hc he) _)) (Eq.trans (congrArg Value.bool k3.out) (vF_yes (on_g hc he) _).symm)) (fun hn => vF_no hn _)) ?_
    refine Steps.cons (fun a' w' hG hB dep => gs_pick (want_none rfl) _ _ _ rfl ((b0 || b1) || b2) (dep 19 rfl 25 rfl) (id (pick_or2 (c := true) rfl (dep 24 rfl 30 rfl)))) ?_
    refine Steps.cons (fun a' w' hG hB dep => gs_move (want_none rfl) _ rfl (id (dep 25 rfl 31 rfl))) ?_
    refine Steps.cons (fun a' w' hG hB dep => gs_guard (c := true) (b' := (((b0 || b1) || b2) || b3)) rfl rfl (dep 26 rfl 32 rfl) (fun hc he hw => gs_field hw _ _ _ rfl g1 (0) (5) (hG.other 2 rfl) (fun wz => field_node_2 g1 (0) wz) (vF_yes (on_g hc he) _).symm) (fun hn => vF_no hn _)) ?_
    refine Steps.cons (fun a' w' hG hB dep => gs_guard (c := true) (b' := (((b0 || b1) || b2) || b3)) rfl rfl (dep 26 rfl 32 rfl) (fun hc he hw => gs_load1 hw _ _ rfl g1 (5) (Eq.trans (dep 27 rfl 33 rfl) (vF_yes (on_g hc he) _)) (.slice A n c) ((blk_then h1 hB).cellv (i := 5) rfl) _ Try.underlying25 rfl (vF_yes (on_g hc he) _).symm) (fun hn => vF_no hn _)) ?_
    refine Steps.cons (fun a' w' hG hB dep => gs_guard (c := true) (b' := (((b0 || b1) || b2) || b3)) rfl rfl (dep 26 rfl 32 rfl) (fun hc he hw => gs_len hw _ _ rfl under_nodes _ n c (Eq.trans (dep 28 rfl 34 rfl) (vF_yes (on_g hc he) _)) (vF_yes (on_g hc he) _).symm) (fun hn => vF_no hn _)) ?_
    refine Steps.cons (fun a' w' hG hB dep => gs_guard (c := true) (b' := (((b0 || b1) || b2) || b3)) rfl rfl (dep 26 rfl 32 rfl) (fun hc he hw => gs_field hw _ _ _ rfl g2 (0) (5) (hG.other 3 rfl) (fun wz => field_node_2 g2 (0) wz) (vF_yes (on_g hc he) _).symm) (fun hn => vF_no hn _)) ?_
    refine Steps.cons (fun a' w' hG hB dep => gs_guard (c := true) (b' := (((b0 || b1) || b2) || b3)) rfl rfl (dep 26 rfl 32 rfl) (fun hc he hw => gs_load1 hw _ _ rfl g2 (5) (Eq.trans (dep 30 rfl 36 rfl) (vF_yes (on_g hc he) _)) (.slice A' n' c') ((blk_then h2 hB).cellv (i := 5) rfl) _ Try.underlying25 rfl (vF_yes (on_g hc he) _).symm) (fun hn => vF_no hn _)) ?_
    refine Steps.cons (fun a' w' hG hB dep => gs_guard (c := true) (b' := (((b0 || b1) || b2) || b3)) rfl rfl (dep 26 rfl 32 rfl) (fun hc he hw => gs_len hw _ _ rfl under_nodes _ n' c' (Eq.trans (dep 31 rfl 37 rfl) (vF_yes (on_g hc he) _)) (vF_yes (on_g hc he) _).symm) (fun hn => vF_no hn _)) ?_
    refine Steps.cons (fun a' w' hG hB dep => gs_guard (c := true) (b' := (((b0 || b1) || b2) || b3)) rfl rfl (dep 26 rfl 32 rfl) (fun hc he hw => gs_neq_int hw _ _ _ _ rfl _ _ _ (Eq.trans (dep 29 rfl 35 rfl) (vF_yes (on_g hc he) _)) (Eq.trans (dep 32 rfl 38 rfl) (vF_yes (on_g hc he) _)) (Eq.trans (congrArg Value.bool k4.out) (vF_yes (on_g hc he) _).symm)) (fun hn => vF_no hn _)) ?_
    refine Steps.cons (fun a' w' hG hB dep => gs_pick (want_none rfl) _ _ _ rfl (((b0 || b1) || b2) || b3) (dep 26 rfl 32 rfl) (id (pick_or2 (c := true) rfl (dep 33 rfl 39 rfl)))) ?_
    exact Steps.nil
  intro u w2 hB2 ans
  have u40 : u 40 = .bool (((((b0 || b1) || b2) || b3) || b4)) := ans 34 40 (by decide) rfl
  rw [hq] at u40
  clear ans
  simp only [putAll, List.foldl_cons, List.foldl_nil, Act.put, List.setIfInBounds_toArray, List.set_cons_zero, List.set_cons_succ, u40]
  clear u40
  simp only [List.drop]
  refine wpList_nil ?_
  replace h1 := blk_then h1 hB2
  replace h2 := blk_then h2 hB2
  replace hB1 := below_then hB1 hB2
  clear hB2
  cases q with
  | true =>
    have hne : V = false := by
      rw [← hV.out]
      refine sameB_ne fun e => ?_
      injection e with e1 e2 e3 e4 e5
      have f0 := k0.out
      have f1 := k1.out
      have f2 := k2.out
      have f3 := k3.out
      have f4 := k4.out
      subst e1 e2 e3 e4 e5
      rw [hn.out, hn'.out] at f4
      simp only [bne_self_eq_false, decide_true, Bool.not_true] at f0 f1 f2 f3 f4
      rw [← f0, ← f1, ← f2, ← f3, ← f4] at hq
      cases hq
    subst hne
    replace hq := Lib.hid hq
    go_wp2_with (fail)
    go_ret
    exact ⟨rfl, hB1⟩
  | false =>
    simp only [Bool.or_eq_false_iff] at hq
    obtain ⟨⟨⟨⟨q0, q1⟩, q2⟩, q3⟩, q4⟩ := hq
    have e0 := Lib.hid (show kd = kd' by have := k0.out; rw [q0] at this; simpa using this)
    have e1 := Lib.hid (show st = st' by have := k1.out; rw [q1] at this; simpa using this)
    have e2 := Lib.hid (show mi = mi' by have := k2.out; rw [q2] at this; simpa using this)
    have e3 := Lib.hid (show ma = ma' by have := k3.out; rw [q3] at this; simpa using this)
    have e4 := Lib.hid (show n = n' by have := k4.out; rw [q4] at this; simp at this; omega)
    clear q0 q1 q2 q3 q4 k0 k1 k2 k3 k4 b0 b1 b2 b3 b4
    have c5 : w2.cell? ⟨g1, 5, none⟩ = some (.slice A n c) := h1.cellv (i := 5) rfl
    go_wp2_with (fail)
    go_loopw [44] (fun iv wr => ∃ i : Nat, i ≤ n ∧ iv = .int .i64 i ∧ Below w2.heap.size w2 wr ∧ ∀ k (h : k < l.length) (h' : k < l'.length), k < i → l[k] = l'[k]) (fun iv _ => n - (intOf iv).toNat)
    case atStart => exact ⟨0, by omega, rfl, Below.refl _ _, fun k h h' hk => by omega⟩
    case round =>
      obtain ⟨i, hi, rfl, hBw, hall⟩ := hrel
      replace hall := Lib.hid hall
      by_cases hin : i < n
      · have hinI : (i : Int) < n := by omega
        have hin' : i < n' := by rw [← e4.out]; exact hin
        have hic : i < cl.length := by rw [hcl.out, ← hn.out]; exact hin
        have hic' : i < cl'.length := by rw [hcl'.out, ← hn'.out]; exact hin'
        have hil : i < l.length := by rw [← hn.out]; exact hin
        have hil' : i < l'.length := by rw [← hn'.out]; exact hin'
        obtain ⟨b1, o1, hA1, hb1, hrow1⟩ := hs.at_ (by omega)
        obtain ⟨b2, o2, hA2, hb2, hrow2⟩ := hs'.at_ (by omega)
        subst hA1 hA2
        have hwB : Below w.heap.size w w2 := hB1
        have hnd1 := hr.out i hil hic
        have hnd2 := hr'.out i hil' hic'
        have hrw1 : ∀ X, Below w2.heap.size w2 X → RowAt X b1 (o1 + i * 8) (cl[i]'hic) ∧ (cl[i]'hic).size = 8 := fun X hX => ⟨(hrow1 i hic).keep ((hX.block b1 (by have := hB1.size; omega)).trans (hB1.block b1 (by omega))), hnd1.size8⟩
        have hrw2 : ∀ X, Below w2.heap.size w2 X → RowAt X b2 (o2 + i * 8) (cl'[i]'hic') ∧ (cl'[i]'hic').size = 8 := fun X hX => ⟨(hrow2 i hic').keep ((hX.block b2 (by have := hB1.size; omega)).trans (hB1.block b2 (by omega))), hnd2.size8⟩
        have hcall : ∀ X, Below w2.heap.size w2 X → Calls Try.prog 14 #[.agg (cl[i]'hic), .agg (cl'[i]'hic')] X fun e w' => e = .returned (.bool (sameB (l[i]'hil) (l'[i]'hil'))) ∧ Below X.heap.size X w' := fun X hX =>
          ih.out _ (List.getElem_mem hil) _ B X _ _ (hnd1.keep fun k hk => (hX.block k (by have := hB1.size; omega)).trans (hB1.block k (by omega))) (hnd2.keep fun k hk => (hX.block k (by have := hB1.size; omega)).trans (hB1.block k (by omega))) (by have := hX.size; have := hB1.size; omega)
        obtain ⟨b, hb_e⟩ : ∃ q, sameB (l[i]'hil) (l'[i]'hil') = q := ⟨_, rfl⟩
        rw [hb_e] at hcall
        replace hrow1 := Lib.hid hrw1
        replace hrow2 := Lib.hid hrw2
        replace hcall := Lib.hid hcall
        replace hb_e := Lib.hid hb_e
        clear hrw1 hrw2 hnd1 hnd2 c5
        go_upto_region 6 with (fail)
        have h1r := blk_then h1 hBw
        have h2r := blk_then h2 hBw
        refine wp_region_steps 12 [eqS (.pointer (some ⟨g1, 5, none⟩)), eqS (.slice (some ⟨b1, o1, none⟩) n c), eqS (.int .i64 (((i : Nat) : Int))), eqS (.pointer (some ⟨b1, o1 + i * 8, none⟩)), eqS (.agg (cl[i]'hic)), eqS (.pointer (some ⟨g2, 5, none⟩)), eqS (.slice (some ⟨b2, o2, none⟩) n' c'), eqS (.int .i64 (((i : Nat) : Int))), eqS (.pointer (some ⟨b2, o2 + i * 8, none⟩)), eqS (.agg (cl'[i]'hic')), eqS (.bool b), eqS (.bool (!b))] [47, 48, 49, 50, 51, 52, 53, 54, 55, 56, 57, 58] follows_mixed (by kernel_rfl) (by kernel_rfl) ?_ ?_
        · skip
          refine Steps.cons (fun a' w' hG hB dep => gs_field (want_none rfl) _ _ _ rfl g1 (0) (5) (hG.other 2 rfl) (fun wz => field_node_2 g1 (0) wz) rfl) ?_
          refine Steps.cons (fun a' w' hG hB dep => gs_load1 (want_none rfl) _ _ rfl g1 (5) (dep 0 rfl 47 rfl) (.slice (some ⟨b1, o1, none⟩) n c) ((blk_then h1r hB).cellv (i := 5) rfl) _ Try.underlying25 rfl rfl) ?_
          refine Steps.cons (fun a' w' hG hB dep => gs_move (want_none rfl) _ rfl (id (hG.other 5 rfl))) ?_
          refine Steps.cons (fun a' w' hG hB dep => gs_index (want_none rfl) _ _ _ rfl under_nodes 8 size_nodeE b1 o1 n c (i) (dep 1 rfl 48 rfl) (dep 2 rfl 49 rfl) hin rfl) ?_
          refine Steps.cons (fun a' w' hG hB dep => gs_load_nd (want_none rfl) _ rfl b1 (o1 + i * 8) (dep 3 rfl 50 rfl) _ (hrow1.out _ (below_then hBw hB)) rfl) ?_
          refine Steps.cons (fun a' w' hG hB dep => gs_field (want_none rfl) _ _ _ rfl g2 (0) (5) (hG.other 3 rfl) (fun wz => field_node_2 g2 (0) wz) rfl) ?_
          refine Steps.cons (fun a' w' hG hB dep => gs_load1 (want_none rfl) _ _ rfl g2 (5) (dep 5 rfl 52 rfl) (.slice (some ⟨b2, o2, none⟩) n' c') ((blk_then h2r hB).cellv (i := 5) rfl) _ Try.underlying25 rfl rfl) ?_
          refine Steps.cons (fun a' w' hG hB dep => gs_move (want_none rfl) _ rfl (id (hG.other 5 rfl))) ?_
          refine Steps.cons (fun a' w' hG hB dep => gs_index (want_none rfl) _ _ _ rfl under_nodes 8 size_nodeE b2 o2 n' c' (i) (dep 6 rfl 53 rfl) (dep 7 rfl 54 rfl) hin' rfl) ?_
          refine Steps.cons (fun a' w' hG hB dep => gs_load_nd (want_none rfl) _ rfl b2 (o2 + i * 8) (dep 8 rfl 55 rfl) _ (hrow2.out _ (below_then hBw hB)) rfl) ?_
          refine Steps.cons (fun a' w' hG hB dep => gs_call (want_none rfl) _ _ _ rfl enter_same4 _ (map2 (dep 4 rfl 51 rfl) (dep 9 rfl 56 rfl)) ((hcall.out w' (below_then hBw hB)).mono fun e w2 ⟨he, hb⟩ => ⟨_, he, hb, rfl⟩)) ?_
          refine Steps.cons (fun a' w' hG hB dep => gs_not_bool (want_none rfl) _ _ rfl _ (dep 10 rfl 57 rfl) rfl) ?_
          exact Steps.nil
        intro u w3 hB3 ans
        have u58 : u 58 = .bool (!b) := ans 11 58 (by decide) rfl
        clear ans
        simp only [putAll, List.foldl_cons, List.foldl_nil, Act.put, List.setIfInBounds_toArray, List.set_cons_zero, List.set_cons_succ, u58]
        clear u58
        simp only [List.drop]
        refine wpList_nil ?_
        clear h1r h2r
        cases b with
        | false =>
          have hne : V = false := by
            rw [← hV.out]
            refine sameB_ne fun e => ?_
            injection e with e1 e2 e3 e4 e5
            have := hb_e.out
            subst e3
            rw [sameB_self] at this
            cases this
          subst hne
          go_wp2_with (fail)
          go_ret
          exact ⟨rfl, below_then (below_then hB1 hBw) hB3⟩
        | true =>
          have heq := (sameB_iff _ _).1 hb_e.out
          replace heq := Lib.hid heq
          go_wp2_with (fail)
          exact ⟨⟨i + 1, by omega, rfl, below_then hBw hB3, fun k h h' hk => by
            by_cases e : k = i
            · subst e; exact heq.out
            · exact hall.out k h h' (by omega)⟩, by simp only [intOf]; omega⟩
      · have hinI : ¬ (i : Int) < n := by omega
        have heq : V = true := by
          rw [← hV.out]
          refine (sameB_iff _ _).2 ?_
          have hll : l = l' := List.ext_getElem (by rw [← hn.out, ← hn'.out, e4.out]) fun k h h' => hall.out k h h' (by have := hn.out; omega)
          rw [e0.out, e1.out, e2.out, e3.out, hll]
        subst heq
        go_wp2_with (fail)
        go_ret
        exact ⟨rfl, below_then hB1 hBw⟩
/-- the number of an errno -/
theorem num4_any (z : Int) (w : World) : Calls Try.prog 18 #[.int .i64 z] w fun e w' => e = .returned (.int .i64 z) ∧ w' = w := by
  go_enter Try.func18, Try.ntmps18
  go_wp2_with (fail)
  go_ret
  exact ⟨rfl, rfl⟩
end Go.Proofs.Ytajainmldcnaeaa
namespace Go.Proofs.Ytajainmldcnaeaa
open Go.RowKit Go.Maps
set_option linter.unusedVariables false
set_option linter.unusedSimpArgs false
attribute [local go_sem] Oper.semAt_some

set_option maxRecDepth 100000 in
set_option maxHeartbeats 2000000 in
theorem set4_any (s : ByteArray) (w : World) (hs : s.size ≤ 1000000) :
    Calls Try.prog 36 #[.string s] w fun e w' => e = .returned (.agg (NV.mk 2 (ofB s.data.toList) none 0 0 0 0).C) ∧ Below w.heap.size w w' := by
  have hsI : (s.size : Int) ≤ 1000000 := by omega
  obtain ⟨X, hX⟩ : ∃ X, ofB s.data.toList = X := ⟨_, rfl⟩
  rw [hX]
  replace hX := Lib.hid hX
  go_enter Try.func36, Try.ntmps36
  have h2 : Blk ((w.alloc (.cells zeroC 27)).alloc (.cells #[.int .u64 0, .int .u64 0, .int .u64 0, .int .u64 0] 24)) w.heap.size 27 zeroC := (Blk.new _ _ _).alloc _
  have h3 : Blk ((w.alloc (.cells zeroC 27)).alloc (.cells #[.int .u64 0, .int .u64 0, .int .u64 0, .int .u64 0] 24)) (w.heap.size + 1) 24 (setC 0) := by rw [set0_eq]; exact Blk.new' _ _ _ (by simp)
  have hB : Below w.heap.size w ((w.alloc (.cells zeroC 27)).alloc (.cells #[.int .u64 0, .int .u64 0, .int .u64 0, .int .u64 0] 24)) := below_alloc (below_alloc (Below.refl _ _) _) _
  unfold zeroC at h2 h3 hB
  go_upto_region 2 with (fail)
  obtain ⟨w1, hw1⟩ : ∃ y, y = (w.alloc (.cells zeroC 27)).alloc (.cells #[.int .u64 0, .int .u64 0, .int .u64 0, .int .u64 0] 24) := ⟨_, rfl⟩
  unfold zeroC at hw1
  rw [← hw1] at h2 h3 hB ⊢
  clear hw1
  obtain ⟨g2, hg2⟩ : ∃ y, y = w.heap.size := ⟨_, rfl⟩
  obtain ⟨g3, hg3⟩ : ∃ y, y = w.heap.size + 1 := ⟨_, rfl⟩
  have hne := Lib.hid (show g2 ≠ g3 ∧ w.heap.size ≤ g2 ∧ w.heap.size ≤ g3 by omega)
  rw [← hg3] at h3 ⊢
  rw [← hg2] at h2 ⊢
  clear hg2 hg3
  go_wp2_with (fail)
  go_loopw [4] (fun iv wr => ∃ i : Nat, i ≤ s.size ∧ iv = .int .i64 i ∧ Below w.heap.size w wr ∧ Blk wr g2 27 #[.int .i64 0, .int .u64 0, .int .u64 0, .int .u64 0, .int .u64 0, .slice none 0 0, .int .i64 0, .int .i64 0] ∧ Blk wr g3 24 (setC (ofB (s.data.toList.take i)))) (fun iv _ => s.size - (intOf iv).toNat)
  case atStart => exact ⟨0, by omega, rfl, hB, h2, h3⟩
  case round =>
    clear hB h2 h3
    obtain ⟨i, hi, rfl, hB, h2, h3⟩ := hrel
    by_cases hlt : i < s.size
    · have hltI : (i : Int) < s.size := by omega
      have hi0 : ¬ (i : Int) < 0 := by omega
      obtain ⟨b, hb⟩ : ∃ v : Nat, s[i].toNat = v := ⟨_, rfl⟩
      have hb8 : b < 256 := by rw [← hb]; exact s[i].toNat_lt
      have hsn : s.data.toList.take (i + 1) = s.data.toList.take i ++ [s[i]] := by
        have hl : i < s.data.toList.length := by simpa using hlt
        have e : s.data.toList[i] = s[i] := by
          have := Lib.data_getElem? s i hlt
          rw [List.getElem?_eq_getElem hl] at this
          injection this
        rw [← e]
        exact take_snoc' _ i hl
      have hof := ofB_snoc (s.data.toList.take i) s[i]
      rw [← hsn, hb] at hof
      obtain ⟨x, hx⟩ : ∃ x, ofB (s.data.toList.take i) = x := ⟨_, rfl⟩
      rw [hx] at h3 hof
      have c1 := h3.cellv (setC_at _ (b / 64) (by omega))
      have f1 := h3.frozen (b / 64)
      have hbI : (b : Int) < 256 := by omega
      replace hof := Lib.hid hof
      replace hsn := Lib.hid hsn
      replace hx := Lib.hid hx
      go_upto_region 5 with (fail)
      go_big_region
      rw [putB hb8]
      have h3' := (h3.set_eq (put_set hb8)).drew
      have h2' := (h2.far (p := ⟨g3, b / 64, none⟩) (by have := hne.out; simp; omega) (.int .u64 ((word x (b / 64) ||| 2 ^ (b % 64) : Nat) : Int))).drew
      have hB' : Below w.heap.size w ((wr.setCell ⟨g3, b / 64, none⟩ (.int .u64 ((word x (b / 64) ||| 2 ^ (b % 64) : Nat) : Int))).drew) := (hB.setCell (by have := hne.out; exact this.2.2) _).drew
      rw [← hof.out] at h3'
      generalize (wr.setCell ⟨g3, b / 64, none⟩ (.int .u64 ((word x (b / 64) ||| 2 ^ (b % 64) : Nat) : Int))).drew = w5 at h3' h2' hB' ⊢
      clear c1 f1 h3 h2 hB
      go_wp2_with (fail)
      exact ⟨⟨i + 1, by omega, by congr 1, hB', h2', h3'⟩, by simp only [intOf]; omega⟩
    · have hltI : ¬ (i : Int) < s.size := by omega
      have hall : s.data.toList.take i = s.data.toList := List.take_of_length_le (by simp; omega)
      rw [hall, hX.out] at h3
      clear hall
      go_wp2_with (first | (refine wl_load_set rfl _ rfl g3 rfl _ h3 ?_) | (refine wl_build_node rfl _ rfl ⟨2, X, none, 0, 0, 0, 0⟩ #[(0, .int .i64 2), (1, .agg (setC X))] rfl (fun w => build_nset 2 _ w) ?_) | (refine wl_store_nv rfl _ _ rfl g2 ⟨2, X, none, 0, 0, 0, 0⟩ rfl rfl _ rfl h2 ?_; intro wz hz hgz))
      exact ret_nv rfl rfl hz rfl ⟨rfl, below_grown hB hgz hne.out.2.1⟩
end Go.Proofs.Ytajainmldcnaeaa
namespace Go.Proofs.Ytajainmldcnaeaa
open Go.RowKit Go.Maps
set_option linter.unusedVariables false
set_option linter.unusedSimpArgs false
attribute [local go_sem] Oper.semAt_some

theorem NdIn.more {w : World} {B B' : Nat} (hB : B ≤ B') {nd : Nd} {cs : Array Value} (h : NdIn w B nd cs) : NdIn w B' nd cs := by
  induction h with
  | mk kd st l mi ma A n c cl hn hcl hmax hs hr ih => exact .mk kd st l mi ma A n c cl hn hcl hmax (hs.more hB) ih
theorem NdIn.leaf (w : World) (B : Nat) (kd : Int) (st : BSet) (mi ma : Int) : NdIn w B (.mk kd st [] mi ma) (nodeC kd st none 0 0 mi ma) :=
  .mk kd st [] mi ma none 0 0 [] rfl rfl (by omega) (.inl rfl) (fun i h => absurd h (by simp))
theorem NdIn.list1 {w : World} {B g : Nat} {a : Nd} {x : Array Value} (ha : NdIn w B a x) (hb : Blk w g 27 x) (hg : g < B) (kd : Int) (st : BSet) (mi ma : Int) : NdIn w B (.mk kd st [a] mi ma) (nodeC kd st (some ⟨g, 0, none⟩) 1 1 mi ma) := by
  refine .mk kd st [a] mi ma _ 1 1 [x] rfl rfl (by omega) (.inr ⟨g, 0, rfl, hg, fun i hi => ?_⟩) (fun i h h2 => ?_)
  · have e : i = 0 := by simpa using hi
    subst e
    exact RowAt.of_blk hb
  · have e : i = 0 := by simpa using h
    subst e
    exact ha
theorem NdIn.list2 {w : World} {B g : Nat} {a b : Nd} {x y : NV} (ha : NdIn w B a x.C) (hb : NdIn w B b y.C) (hg : Blk w g 27 (x.C ++ y.C)) (hgB : g < B) (kd : Int) (st : BSet) (mi ma : Int) : NdIn w B (.mk kd st [a, b] mi ma) (nodeC kd st (some ⟨g, 0, none⟩) 2 2 mi ma) := by
  refine .mk kd st [a, b] mi ma _ 2 2 [x.C, y.C] rfl rfl (by omega) (.inr ⟨g, 0, rfl, hgB, fun i hi => ?_⟩) (fun i h h2 => ?_)
  · match i, hi with
    | 0, _ => exact row_of_append (A := #[]) (C := y.C) (by simpa using hg)
    | 1, _ => exact row_of_append (A := x.C) (C := #[]) (by simpa using hg)
  · match i, h with
    | 0, _ => exact ha
    | 1, _ => exact hb
theorem build_nodes2 (x y : NV) (w : World) : (Instr.buildSlice 25 2 #[(0, .agg x.C), (1, .agg y.C)]).run Try.prog w = .ok (.slice (some ⟨w.heap.size, 0, none⟩) 2 2) (w.alloc (.cells (x.C ++ y.C) 27)) := by kernel_rfl
theorem build_nmax (kd ma : Int) (A : Option Addr) (n c : Nat) (w : World) : (Instr.build 27 #[(0, .int .i64 kd), (2, .slice A n c), (4, .int .i64 ma)]).run Try.prog w = .ok (.agg (NV.mk kd 0 A n c 0 ma).C) w := by kernel_rfl
section
variable {ops : Array Oper} {rest : List Oper} {o : Oper} {a : Act} {w : World} {Q : Exit → Act → World → Prop}
theorem wl_build2n (hgd : o.guard = none) (p q : Operand) (ho : o.op = .buildSlice 25 2 #[(0, p), (1, q)]) (x y : NV) (hx : a.eval p = .agg x.C) (hy : a.eval q = .agg y.C)
    (h : wpList Try.prog ops Q rest (a.put o.dst (.slice (some ⟨w.heap.size, 0, none⟩) 2 2)) (w.alloc (.cells (x.C ++ y.C) 27))) : wpList Try.prog ops Q (o :: rest) a w :=
  wpList_plain hgd fun _ hK => by
    have e : (#[(0, p), (1, q)] : Array (Nat × Operand)).map (fun (i, x) => (i, a.eval x)) = #[(0, .agg x.C), (1, .agg y.C)] := by simp [hx, hy]
    unfold Oper.wp execOp
    simp only [ho, e, Sem.run_bind, build_nodes2, Result.andThen_ok, Sem.run_pure]
    exact hK _ _ h
end
theorem wl_load_nv_g {ops : Array Oper} {rest : List Oper} {o : Oper} {a : Act} {w : World} {Q : Exit → Act → World → Prop} (hw : Region.wanted o (yielded ops a.tmps) = true) (x : Operand) (ho : o.op = .load 27 x) (g : Nat) (hx : a.eval x = .pointer (some ⟨g, 0, none⟩)) (y : NV) (hb : Blk w g 27 y.C)
    (h : wpList Try.prog ops Q rest (a.put o.dst (.agg y.C)) w) : wpList Try.prog ops Q (o :: rest) a w := wl_load_node_g hw x ho g hx _ _ _ _ _ _ _ hb h
/-- a slice of two nodes, and what is built on it -/
def two_nS (x y : NV) : GSpec := ⟨fun v w => ∃ g, v = .slice (some ⟨g, 0, none⟩) 2 2 ∧ Blk w g 27 (x.C ++ y.C), fun v w w' ⟨g, h1, h2⟩ hB => ⟨g, h1, blk_then h2 hB⟩⟩
def seq_nS (x y : NV) : GSpec := ⟨fun v w => ∃ g, v = .agg (NV.mk 3 0 (some ⟨g, 0, none⟩) 2 2 0 0).C ∧ Blk w g 27 (x.C ++ y.C), fun v w w' ⟨g, h1, h2⟩ hB => ⟨g, h1, blk_then h2 hB⟩⟩
theorem alloc_nodeN (w : World) : (Instr.alloc 27 true (.tuple #[])).run Try.prog w = .ok (.pointer (some ⟨w.heap.size, 0, none⟩)) (w.alloc (.cells zeroV.C 27)) := by kernel_rfl
/-- the tree of 'a[b-d]*|' -/
def wantN : Nd := .mk 4 0 [.mk 3 0 [.mk 2 (ofB [97]) [] 0 0, .mk 5 0 [.mk 2 (ofB [98, 99, 100]) [] 0 0] 0 (-1)] 0 0, .mk 1 0 [] 0 0] 0 0
theorem known_parse1 : Ere.parseR ⟨#[97, 91, 98, 45, 100, 93, 42, 124]⟩ = (wantN, 0, 0) := by kernel_rfl
theorem known_parse2 : Ere.parseR ⟨#[40, 97, 40, 98]⟩ = (Ere.zeroN, 2, 42) := by kernel_rfl
theorem known_places : placesN wantN = 8 := by kernel_rfl
theorem enter_set4 (args : Array Value) (w : World) : (callFunc 36 args).run Try.prog w = .ok (.enter 36 args) w := by kernel_rfl
section
variable {ops : Array Oper} {S : Nat → GSpec} {Q : Exit → Act → World → Prop} {i : Nat} {o : Oper} {a : Act} {w : World}
theorem gs_two_n (hw : Region.wanted o (yielded ops a.tmps) = true) (p q : Operand) (ho : o.op = .buildSlice 25 2 #[(0, p), (1, q)]) (x y : NV) (hx : a.eval p = .agg x.C) (hy : a.eval q = .agg y.C) (hp : ∀ v w', (two_nS x y).p v w' → (S i).p v w') : GStep Try.prog ops S Q i o a w :=
  gs_run hw (v := .slice (some ⟨w.heap.size, 0, none⟩) 2 2) (w' := w.alloc (.cells (x.C ++ y.C) 27)) (by
    have e : (#[(0, p), (1, q)] : Array (Nat × Operand)).map (fun (i, x) => (i, a.eval x)) = #[(0, .agg x.C), (1, .agg y.C)] := by simp [hx, hy]
    unfold execOp
    simp only [ho, e, Sem.run_bind, build_nodes2, Result.andThen_ok, Sem.run_pure]) (below_alloc (Below.refl _ _) _) (hp _ _ ⟨_, rfl, Blk.new _ _ _⟩)
theorem gs_seq_n (hw : Region.wanted o (yielded ops a.tmps) = true) (p : Operand) (ho : o.op = .build 27 #[(0, .const (.int .i64 3)), (2, p)]) (x y : NV) (hx : (two_nS x y).p (a.eval p) w) (hp : ∀ v w', (seq_nS x y).p v w' → (S i).p v w') : GStep Try.prog ops S Q i o a w := by
  obtain ⟨g, hv, hb⟩ := hx
  exact gs_run hw (v := .agg (NV.mk 3 0 (some ⟨g, 0, none⟩) 2 2 0 0).C) (w' := w) (by
    have e : (#[(0, Operand.const (.int .i64 3)), (2, p)] : Array (Nat × Operand)).map (fun (i, x) => (i, a.eval x)) = #[(0, .int .i64 3), (2, .slice (some ⟨g, 0, none⟩) 2 2)] := by simp [hv]; rfl
    unfold execOp
    simp only [ho, e, Sem.run_bind, build_nlist, Result.andThen_ok, Sem.run_pure]) (Below.refl _ _) (hp _ _ ⟨g, rfl, hb⟩)
theorem gs_alloc_node (hw : Region.wanted o (yielded ops a.tmps) = true) (ho : o.op = .alloc 27) (b0 : Nat) (hb : b0 ≤ w.heap.size) (hp : ∀ v w', (newS b0 27 zeroV.C).p v w' → (S i).p v w') : GStep Try.prog ops S Q i o a w :=
  gs_run hw (v := .pointer (some ⟨w.heap.size, 0, none⟩)) (w' := w.alloc (.cells zeroV.C 27)) (by unfold execOp; simp only [ho, Sem.run_bind, alloc_nodeN, Result.andThen_ok, Sem.run_pure]) (below_alloc (Below.refl _ _) _) (hp _ _ ⟨_, rfl, hb, Blk.new _ _ _⟩)
end
set_option maxRecDepth 100000 in
set_option maxHeartbeats 8000000 in
theorem known4_any (w : World) (hM : Mx w) : Calls Try.prog 11 #[] w fun e w' => e = .returned (.bool true) ∧ Below w.heap.size w w' := by
  have kP1 := parse_any ⟨#[97, 91, 98, 45, 100, 93, 42, 124]⟩ w hM
  have kP2 := parse_any ⟨#[40, 97, 40, 98]⟩
  rw [known_parse1] at kP1
  rw [known_parse2] at kP2
  simp only at kP1 kP2
  replace kP2 := Lib.hid kP2
  go_enter Try.func11, Try.ntmps11
  go_upto_region 2 with (first
    | (go_at_call 12; refine kP1.mono ?_; rintro e w1 ⟨hB1, x1, bs1, rfl, hO1⟩)
    | (refine wl_store_nv rfl _ _ rfl _ x1 rfl rfl _ rfl (Blk.new _ _ zeroC) ?_; intro w2 k1 hg2))
  have hB2 : Below w.heap.size w w2 := below_grown (below_alloc hB1 _) hg2 hB1.size
  have hO2 := hO1.keep (w' := w2) (fun b hb => (hg2.block b (by have := (hO1.lt b hb).2; simp; omega) (fun e => by injection e with e; have := (hO1.lt b hb).2; omega)).trans (Below.heap_alloc w1 _ b (hO1.lt b hb).2))
  obtain ⟨gA, hgA⟩ : ∃ y, y = w1.heap.size := ⟨_, rfl⟩
  rw [← hgA] at k1 ⊢
  have i1 := hO2.toIn
  clear hgA hg2 hB1 hO1 kP1 hO2
  have kS := set4_any ⟨#[98, 99, 100]⟩ w2 (by decide)
  rw [show ofB (⟨#[98, 99, 100]⟩ : ByteArray).data.toList = ofB [98, 99, 100] from rfl] at kS
  go_upto_region 3 with (first
    | (go_at_call 36; refine kS.mono ?_; rintro e w3 ⟨rfl, hB3⟩)
    | (refine wl_build1n rfl _ rfl (NV.mk 2 (ofB [98, 99, 100]) none 0 0 0 0) rfl ?_)
    | (refine wl_build_node rfl _ rfl (NV.mk 5 0 (some ⟨w3.heap.size, 0, none⟩) 1 1 0 (-1)) #[(0, .int .i64 5), (2, .slice (some ⟨w3.heap.size, 0, none⟩) 1 1), (4, .int .i64 (-1))] rfl (fun w => build_nmax 5 (-1) _ 1 1 w) ?_)
    | (refine wl_store_nv rfl _ _ rfl _ (NV.mk 5 0 (some ⟨w3.heap.size, 0, none⟩) 1 1 0 (-1)) rfl rfl _ rfl (Blk.new' _ _ zeroC (by simp)) ?_; intro w4 k4 hg4))
  have hBc := below_alloc (below_alloc (Below.refl w3.heap.size w3) (.cells (NV.mk 2 (ofB [98, 99, 100]) none 0 0 0 0).C 27)) (.cells zeroC 27)
  have hB4 : Below w3.heap.size w3 w4 := below_grown hBc hg4 (by simp)
  have kb : Blk w4 w3.heap.size 27 (NV.mk 2 (ofB [98, 99, 100]) none 0 0 0 0).C := ((Blk.new w3 27 (NV.mk 2 (ofB [98, 99, 100]) none 0 0 0 0).C).alloc _).grown hg4 (fun e => by injection e with e; omega)
  have i4 : NdIn w4 w4.heap.size (.mk 5 0 [.mk 2 (ofB [98, 99, 100]) [] 0 0] 0 (-1)) (NV.mk 5 0 (some ⟨w3.heap.size, 0, none⟩) 1 1 0 (-1)).C := NdIn.list1 (NdIn.leaf _ _ _ _ _ _) kb kb.lt _ _ _ _
  have hB34 := below_then hB3 hB4
  replace k1 := blk_then k1 hB34
  replace i1 := (i1.then_ hB34 (Nat.le_refl _)).more hB34.size
  replace hB2 := below_then hB2 hB34
  obtain ⟨gB, hgB⟩ : ∃ y, y = w3.heap.size + 1 := ⟨_, rfl⟩
  rw [← hgB] at k4 ⊢
  obtain ⟨vT, hvT⟩ : ∃ v, v = NV.mk 5 0 (some ⟨w3.heap.size, 0, none⟩) 1 1 0 (-1) := ⟨_, rfl⟩
  rw [← hvT] at k4 i4
  try rw [← hvT]
  clear hgB hg4 hBc hB3 hB4 hB34 kb kS
  simp only [Act.put]
  have kS := fun W => set4_any ⟨#[97]⟩ W (by decide)
  rw [show ofB (⟨#[97]⟩ : ByteArray).data.toList = ofB [97] from rfl] at kS
  refine wp_region_steps 5 [eqS (.agg (NV.mk 2 (ofB [97]) none 0 0 0 0).C), eqS (.agg vT.C), two_nS (NV.mk 2 (ofB [97]) none 0 0 0 0) vT, seq_nS (NV.mk 2 (ofB [97]) none 0 0 0 0) vT, newS w4.heap.size 27 zeroV.C] [18, 19, 20, 21, 5] follows_mixed (by kernel_rfl) (by kernel_rfl) ?_ ?_
  · refine Steps.cons (fun a' w' hG hB dep => gs_call (want_none rfl) _ _ _ rfl enter_set4 #[.string ⟨#[97]⟩] (map1 rfl) (ret_step (kS _) (fun _ => rfl))) ?_
    refine Steps.cons (fun a' w' hG hB dep => gs_load_nd (want_none rfl) _ rfl gB 0 (hG.other 4 rfl) vT.C ⟨RowAt.of_blk (blk_then k4 hB), rfl⟩ rfl) ?_
    refine Steps.cons (fun a' w' hG hB dep => gs_two_n (want_none rfl) _ _ rfl (NV.mk 2 (ofB [97]) none 0 0 0 0) vT (dep 0 rfl 18 rfl) (dep 1 rfl 19 rfl) (fun _ _ h => h)) ?_
    refine Steps.cons (fun a' w' hG hB dep => gs_seq_n (want_none rfl) _ rfl (NV.mk 2 (ofB [97]) none 0 0 0 0) vT (dep 2 rfl 20 rfl) (fun _ _ h => h)) ?_
    refine Steps.cons (fun a' w' hG hB dep => gs_alloc_node (want_none rfl) rfl w4.heap.size hB.size (fun _ _ h => h)) ?_
    exact Steps.nil
  intro u w5 hB5 ans
  obtain ⟨gs, u21, ks⟩ := (ans 3 21 (by decide) rfl : (seq_nS (NV.mk 2 (ofB [97]) none 0 0 0 0) vT).p (u 21) w5)
  obtain ⟨g5, u5, hg5, k5⟩ := (ans 4 5 (by decide) rfl : (newS w4.heap.size 27 zeroV.C).p (u 5) w5)
  clear ans
  simp only [putAll, List.foldl_cons, List.foldl_nil, Act.put, List.setIfInBounds_toArray, List.set_cons_zero, List.set_cons_succ, u21, u5]
  clear u21 u5
  simp only [List.drop]
  refine wl_store_nv rfl _ _ rfl g5 (NV.mk 3 0 (some ⟨gs, 0, none⟩) 2 2 0 0) rfl rfl _ rfl k5 ?_
  intro w6 k6 hg6
  refine wpList_nil ?_
  have hB6 : Below w4.heap.size w4 w6 := below_grown hB5 hg6 hg5
  have hgs : gs ≠ g5 := by
    rintro rfl
    unfold Blk at ks k5
    rw [ks] at k5
    injection k5 with k5
    injection k5 with k5
    have := congrArg Array.size k5
    simp [NV.size] at this
  have ks6 := ks.grown hg6 (fun e => by injection e with e; exact hgs e)
  have i6 : NdIn w6 w6.heap.size (.mk 3 0 [.mk 2 (ofB [97]) [] 0 0, .mk 5 0 [.mk 2 (ofB [98, 99, 100]) [] 0 0] 0 (-1)] 0 0) (NV.mk 3 0 (some ⟨gs, 0, none⟩) 2 2 0 0).C :=
    NdIn.list2 (x := (NV.mk 2 (ofB [97]) none 0 0 0 0)) (y := vT) (NdIn.leaf _ _ _ _ _ _) ((i4.then_ hB6 (Nat.le_refl _)).more hB6.size) ks6 ks6.lt _ _ _ _
  replace k1 := blk_then k1 hB6
  replace i1 := (i1.then_ hB6 (Nat.le_refl _)).more hB6.size
  replace hB2 := below_then hB2 hB6
  obtain ⟨vS, hvS⟩ : ∃ v, v = NV.mk 3 0 (some ⟨gs, 0, none⟩) 2 2 0 0 := ⟨_, rfl⟩
  rw [← hvS] at k6 i6
  try rw [← hvS]
  clear k5 hvS hvT ks ks6 hgs hB5 hB6 hg6 hg5 i4 k4 kS
  simp only [Act.put]
  go_upto_region 5 with (first
    | (refine wl_load_nv rfl _ rfl g5 rfl vS k6 ?_)
    | (refine wl_build_node rfl _ rfl (NV.mk 1 0 none 0 0 0 0) #[(0, .int .i64 1)] rfl (fun w => build_leaf 1 w) ?_)
    | (refine wl_build2n rfl _ _ rfl vS (NV.mk 1 0 none 0 0 0 0) rfl rfl ?_)
    | (refine wl_build_node rfl _ rfl (NV.mk 4 0 (some ⟨w6.heap.size, 0, none⟩) 2 2 0 0) #[(0, .int .i64 4), (2, .slice (some ⟨w6.heap.size, 0, none⟩) 2 2)] rfl (fun w => build_nlist 4 _ 2 2 w) ?_)
    | (refine wl_store_nv rfl _ _ rfl _ (NV.mk 4 0 (some ⟨w6.heap.size, 0, none⟩) 2 2 0 0) rfl rfl _ rfl (Blk.new' _ _ zeroC (by simp)) ?_; intro w8 k8 hg8))
  have hBc := below_alloc (below_alloc (Below.refl w6.heap.size w6) (.cells (vS.C ++ (NV.mk 1 0 none 0 0 0 0).C) 27)) (.cells zeroC 27)
  have hB8 : Below w6.heap.size w6 w8 := below_grown hBc hg8 (by omega)
  have kb : Blk w8 w6.heap.size 27 (vS.C ++ (NV.mk 1 0 none 0 0 0 0).C) := ((Blk.new w6 27 (vS.C ++ (NV.mk 1 0 none 0 0 0 0).C)).alloc _).grown hg8 (fun e => by injection e with e; omega)
  have i8 : NdIn w8 w8.heap.size wantN (NV.mk 4 0 (some ⟨w6.heap.size, 0, none⟩) 2 2 0 0).C := NdIn.list2 (x := vS) (y := NV.mk 1 0 none 0 0 0 0) ((i6.then_ hB8 (Nat.le_refl _)).more hB8.size) (NdIn.leaf _ _ _ _ _ _) kb kb.lt _ _ _ _
  replace k1 := blk_then k1 hB8
  replace i1 := (i1.then_ hB8 (Nat.le_refl _)).more hB8.size
  replace hB2 := below_then hB2 hB8
  obtain ⟨g6, hg6⟩ : ∃ y, y = w6.heap.size + 1 := ⟨_, rfl⟩
  obtain ⟨vW, hvW⟩ : ∃ v, v = NV.mk 4 0 (some ⟨w6.heap.size, 0, none⟩) 2 2 0 0 := ⟨_, rfl⟩
  rw [← hg6] at k8 ⊢
  rw [← hvW] at k8 i8
  clear hg6 hvW hg8 hBc hB8 kb i6 k6
  have kP := kP2.out w8 (hM.then_ hB2)
  clear kP2
  go_upto_region 6 with (first
    | (go_at_call 12; refine kP.mono ?_; rintro e w9 ⟨hB9, x9, bs9, rfl, hO9⟩)
    | (refine wl_store_nv rfl _ _ rfl _ x9 rfl rfl _ rfl (Blk.new' _ _ zeroC (by simp)) ?_; intro w10 k10 hg10))
  have hBd : Below w8.heap.size w8 w10 := below_grown (below_alloc hB9 (.cells zeroC 27)) hg10 (by have := hB9.size; omega)
  replace k1 := blk_then k1 hBd
  replace k8 := blk_then k8 hBd
  replace i1 := (i1.then_ hBd (Nat.le_refl _)).more hBd.size
  replace i8 := (i8.then_ hBd (Nat.le_refl _)).more hBd.size
  replace hB2 := below_then hB2 hBd
  clear hBd hB9 hg10 hO9 k10 kP
  have kSame := same4_any wantN wantN w10.heap.size w10 x1.C vW.C i1 i8 (Nat.le_refl _)
  rw [sameB_self] at kSame
  have kPl := fun W (hB : Below w10.heap.size w10 W) => placesE_any wantN W.heap.size W vW.C ((i8.then_ hB (Nat.le_refl _)).more hB.size) (Nat.le_refl _)
  rw [known_places] at kPl
  have k8w := fun W (hB : Below w10.heap.size w10 W) => blk_then k8 hB
  replace kPl := Lib.hid kPl
  replace k8w := Lib.hid k8w
  have kN0 := num4_any 0 w10
  have kN42 := fun W => num4_any 42 W
  replace kN42 := Lib.hid kN42
  clear i1 i8
  go_wp2_with (first
    | (go_at_call 18; refine kN0.mono ?_; rintro e w11 ⟨rfl, hw11⟩; rw [hw11]; clear hw11 kN0)
    | (refine wl_load_nv_g (want_yes rfl rfl rfl) _ rfl _ rfl x1 k1 ?_; clear k1)
    | (refine wl_load_nv_g (want_yes rfl rfl rfl) _ rfl _ rfl vW k8 ?_; clear k8)
    | (go_at_call 14; refine kSame.mono ?_; rintro e w12 ⟨rfl, hB12⟩; have k8b := k8w.out w12 hB12; clear kSame)
    | (go_at_call 18; refine (kN42.out _).mono ?_; rintro e w13 ⟨rfl, hw13⟩; rw [hw13]; clear hw13)
    | (refine wl_load_nv_g (want_yes rfl rfl rfl) _ rfl _ rfl vW k8b ?_; clear k8b)
    | (go_at_call 16; refine (kPl.out w12 hB12).mono ?_; rintro e w14 ⟨rfl, hB14⟩))
  go_ret
  exact ⟨rfl, below_then (below_then hB2 hB12) hB14⟩
end Go.Proofs.Ytajainmldcnaeaa
namespace Go.Proofs.Ytajainmldcnaeaa
open Go.RowKit Go.Maps
set_option linter.unusedVariables false
set_option linter.unusedSimpArgs false
attribute [local go_sem] Oper.semAt_some

/-- the reference reader's five cells -/
def rrC (p : ByteArray) (i : Nat) (A : Option Addr) (n c : Nat) (e a : Nat) : Array Value := #[.string p, .int .i64 (i : Int), .slice A n c, .int .i64 (e : Int), .int .i64 (a : Int)]
section
variable {g : Nat} {p : ByteArray} {k n c e0 a0 : Nat} {A : Option Addr} {w : World}
theorem rmore_at (h : Blk w g 82 (rrC p k A n c e0 a0)) (i : Nat) (ii : Int) (hi : ii = i) {b : Bool} (hb : decide (i < p.size) = b) :
    Calls Try.prog 68 #[.pointer (some ⟨g, 0, none⟩), .int .i64 ii] w fun e w' => e = .returned (.bool b) ∧ w' = w := by
  subst hi; subst hb
  have c0 : w.cell? ⟨g, 0, none⟩ = some (.string p) := h.cellv rfl
  by_cases hi : i < p.size
  · have hI : (i : Int) < p.size := by omega
    rw [decide_eq_true hi]
    go_enter Try.func68, Try.ntmps68
    go_wp2_with (fail)
    go_ret
    exact ⟨rfl, rfl⟩
  · have hI : ¬ (i : Int) < p.size := by omega
    rw [decide_eq_false hi]
    go_enter Try.func68, Try.ntmps68
    go_wp2_with (fail)
    go_ret
    exact ⟨rfl, rfl⟩
theorem ris_at (h : Blk w g 82 (rrC p k A n c e0 a0)) (i : Nat) (ii : Int) (ch : Nat) (ci : Int) (hi : ii = i) (hc : ci = ch) {b : Bool} (hb : Ere.isAt p i ch = b) :
    Calls Try.prog 60 #[.pointer (some ⟨g, 0, none⟩), .int .i64 ii, .int .u8 ci] w fun e w' => e = .returned (.bool b) ∧ w' = w := by
  subst hi; subst hb; subst hc
  have c0 : w.cell? ⟨g, 0, none⟩ = some (.string p) := h.cellv rfl
  by_cases hi : i < p.size
  · have hI : (i : Int) < p.size := by omega
    have hI0 : ¬ (i : Int) < 0 := by omega
    have hv : (((p[i].toNat : Nat) : Int) == (ch : Int)) = Ere.isAt p i ch := by
      unfold Ere.isAt Ere.chr
      rw [dif_pos hi, decide_eq_true hi, Bool.true_and, Bool.eq_iff_iff]
      simp only [beq_iff_eq, decide_eq_true_eq]
      omega
    replace hv := Lib.hid hv
    go_enter Try.func60, Try.ntmps60
    go_wp2_with (fail)
    go_ret
    exact ⟨congrArg (fun b => Ending.returned (.bool b)) hv.out, rfl⟩
  · have hI : ¬ (i : Int) < p.size := by omega
    have hv : Ere.isAt p i ch = false := by unfold Ere.isAt; rw [decide_eq_false hi, Bool.false_and]
    rw [hv]
    go_enter Try.func60, Try.ntmps60
    go_wp2_with (fail)
    go_ret
    exact ⟨rfl, rfl⟩
set_option maxHeartbeats 1000000 in
theorem rfault_any (h : Blk w g 82 (rrC p k A n c 0 0)) (e a : Nat) (ei ai : Int) (he : ei = e) (ha : ai = a) :
    Calls Try.prog 42 #[.pointer (some ⟨g, 0, none⟩), .int .i64 ei, .int .i64 ai] w fun en w' => en = .returned (.agg zeroV.C) ∧ Turn g (g + 1) w w' ∧ Blk w' g 82 (rrC p k A n c e a) := by
  subst he; subst ha
  have hgl := Lib.hid h.lt
  go_enter Try.func42, Try.ntmps42
  have h6 : Blk (w.alloc (.cells zeroC 27)) w.heap.size 27 zeroC := Blk.new' _ _ _ rfl
  have hB : Below w.heap.size w (w.alloc (.cells zeroC 27)) := below_alloc (Below.refl _ _) _
  unfold zeroC at h6 hB
  go_upto_region 1 with (fail)
  obtain ⟨w1, hw1⟩ : ∃ y, y = w.alloc (.cells zeroC 27) := ⟨_, rfl⟩
  unfold zeroC at hw1
  rw [← hw1] at h6 hB ⊢
  clear hw1
  replace h := blk_then h hB
  have hT := Turn.of_below (lo := g) (hi := g + 1) hB
  clear hB
  obtain ⟨g6, hg6⟩ : ∃ y, y = w.heap.size := ⟨_, rfl⟩
  have hne := Lib.hid (show g6 ≠ g ∧ w.heap.size ≤ g6 by have := hgl.out; omega)
  rw [← hg6] at h6 ⊢
  clear hg6
  have c3 : w1.cell? ⟨g, 3, none⟩ = some (.int .i64 0) := h.cellv rfl
  have f3 := h.frozen 3
  have c4 : w1.cell? ⟨g, 4, none⟩ = some (.int .i64 0) := h.cellv rfl
  have f4 := h.frozen 4
  go_upto_region 4 with (fail)
  have k1 := h.set_ 3 (.int .i64 (e : Int))
  have k2 := k1.set_ 4 (.int .i64 (a : Int))
  have k6 := (h6.far (p := ⟨g, 3, none⟩) (by have := hne.out; simp; omega) (.int .i64 (e : Int))).far (p := ⟨g, 4, none⟩) (by have := hne.out; simp; omega) (.int .i64 (a : Int))
  have kT := (turnRd hT 3 (.int .i64 (e : Int))).trans (turnRd (Turn.refl g (g + 1) _) 4 (.int .i64 (a : Int)))
  obtain ⟨w2, hw2⟩ : ∃ y, y = (w1.setCell ⟨g, 3, none⟩ (.int .i64 (e : Int))).setCell ⟨g, 4, none⟩ (.int .i64 (a : Int)) := ⟨_, rfl⟩
  rw [← hw2] at k2 k6 kT ⊢
  clear hw2 k1 h h6 hT c3 f3 c4 f4
  go_wp2_with (first | (refine wl_build_node rfl _ rfl zeroV #[] rfl (fun w => build_nzero w) ?_) | (refine wl_store_nv rfl _ _ rfl g6 zeroV rfl rfl _ rfl k6 ?_; intro wz hz hgz))
  exact ret_nv rfl rfl hz rfl ⟨rfl, kT.grown hgz (fun q e => by injection e with e; have := hne.out; right; omega), k2.grown hgz (fun e => by injection e with e; have := hne.out; omega)⟩
end
/-- With: a set and one byte more, never the newline -/
def withB (x : BSet) (b : Nat) : BSet := if b = 10 then x else x ||| bit b
set_option maxRecDepth 100000 in
set_option maxHeartbeats 1000000 in
theorem with4_any (x : BSet) (b : Nat) (hb : b < 256) (w : World) :
    Calls Try.prog 96 #[.agg (setC x), .int .u8 (b : Int)] w fun e w' => e = .returned (.agg (setC (withB x b))) ∧ Below w.heap.size w w' := by
  have hbI : (b : Int) < 256 := by omega
  obtain ⟨V, hV⟩ : ∃ V, withB x b = V := ⟨_, rfl⟩
  rw [hV]
  replace hV := Lib.hid hV
  go_enter Try.func96, Try.ntmps96
  have h2 : Blk ((w.alloc (.cells (setC x) 24)).alloc (.cells #[.int .u64 0, .int .u64 0, .int .u64 0, .int .u64 0] 24)) w.heap.size 24 (setC x) := (Blk.new _ _ _).alloc _
  have h4 : Blk ((w.alloc (.cells (setC x) 24)).alloc (.cells #[.int .u64 0, .int .u64 0, .int .u64 0, .int .u64 0] 24)) (w.heap.size + 1) 24 (setC 0) := by rw [set0_eq]; exact Blk.new' _ _ _ (by simp)
  have hB : Below w.heap.size w ((w.alloc (.cells (setC x) 24)).alloc (.cells #[.int .u64 0, .int .u64 0, .int .u64 0, .int .u64 0] 24)) := below_alloc (below_alloc (Below.refl _ _) _) _
  go_upto_region 1 with (fail)
  obtain ⟨w1, hw1⟩ : ∃ y, y = (w.alloc (.cells (setC x) 24)).alloc (.cells #[.int .u64 0, .int .u64 0, .int .u64 0, .int .u64 0] 24) := ⟨_, rfl⟩
  rw [← hw1] at h2 h4 hB ⊢
  clear hw1
  obtain ⟨g2, hg2⟩ : ∃ y, y = w.heap.size := ⟨_, rfl⟩
  obtain ⟨g4, hg4⟩ : ∃ y, y = w.heap.size + 1 := ⟨_, rfl⟩
  have hne := Lib.hid (show g2 ≠ g4 ∧ w.heap.size ≤ g2 ∧ w.heap.size ≤ g4 by omega)
  rw [← hg4] at h4 ⊢
  rw [← hg2] at h2 ⊢
  clear hg2 hg4
  by_cases h10 : b = 10
  · obtain rfl : V = x := by rw [← hV.out]; unfold withB; rw [if_pos h10]
    have e10 : ((b : Int) != 10) = false := by rw [bne_eq_false_iff_eq]; omega
    replace h10 := Lib.hid h10
    go_wp2_with (first | (refine wl_load_set rfl _ rfl g2 rfl _ h2 ?_) | (refine wl_store_set rfl _ _ rfl g4 _ rfl rfl _ h4 ?_; intro wz hz hgz))
    exact ret_set rfl rfl hz rfl ⟨rfl, below_grown hB hgz hne.out.2.2⟩
  · have hx := Lib.hid (show V = x ||| bit b by rw [← hV.out]; unfold withB; rw [if_neg h10])
    have e10 : ((b : Int) != 10) = true := by rw [bne_iff_ne]; omega
    have c1 := h2.cellv (setC_at _ (b / 64) (by omega))
    have f1 := h2.frozen (b / 64)
    replace h10 := Lib.hid h10
    go_upto_region 3 with (fail)
    rw [putB hb]
    have h2' := h2.set_eq (put_set hb)
    rw [← hx.out] at h2'
    have h4' := h4.far (p := ⟨g2, b / 64, none⟩) (by have := hne.out; simp; omega) (.int .u64 ((word x (b / 64) ||| 2 ^ (b % 64) : Nat) : Int))
    have hB' : Below w.heap.size w (w1.setCell ⟨g2, b / 64, none⟩ (.int .u64 ((word x (b / 64) ||| 2 ^ (b % 64) : Nat) : Int))) := hB.setCell (by have := hne.out; exact this.2.1) _
    generalize w1.setCell ⟨g2, b / 64, none⟩ (.int .u64 ((word x (b / 64) ||| 2 ^ (b % 64) : Nat) : Int)) = w5 at h2' h4' hB' ⊢
    clear c1 f1 h2 h4 hB
    go_wp2_with (first | (refine wl_load_set rfl _ rfl g2 rfl _ h2' ?_) | (refine wl_store_set rfl _ _ rfl g4 _ rfl rfl _ h4' ?_; intro wz hz hgz))
    exact ret_set rfl rfl hz rfl ⟨rfl, below_grown hB' hgz hne.out.2.2⟩
set_option maxHeartbeats 1000000 in
theorem rset4_any (x : BSet) (w : World) :
    Calls Try.prog 93 #[.agg (setC x)] w fun e w' => e = .returned (.agg (NV.mk 2 x none 0 0 0 0).C) ∧ Below w.heap.size w w' := by
  go_enter Try.func93, Try.ntmps93
  have h1 : Blk ((w.alloc (.cells (setC x) 24)).alloc (.cells zeroC 27)) w.heap.size 24 (setC x) := (Blk.new _ _ _).alloc _
  have h2 : Blk ((w.alloc (.cells (setC x) 24)).alloc (.cells zeroC 27)) (w.heap.size + 1) 27 zeroC := Blk.new' _ _ _ (by simp)
  have hB : Below w.heap.size w ((w.alloc (.cells (setC x) 24)).alloc (.cells zeroC 27)) := below_alloc (below_alloc (Below.refl _ _) _) _
  unfold zeroC at h1 h2 hB
  go_wp2_with (first | (refine wl_load_set rfl _ rfl _ rfl _ h1 ?_) | (refine wl_build_node rfl _ rfl ⟨2, x, none, 0, 0, 0, 0⟩ #[(0, .int .i64 2), (1, .agg (setC x))] rfl (fun w => build_nset 2 _ w) ?_) | (refine wl_store_nv rfl _ _ rfl _ ⟨2, x, none, 0, 0, 0, 0⟩ rfl rfl _ rfl h2 ?_; intro wz hz hgz))
  exact ret_nv rfl rfl hz rfl ⟨rfl, below_grown hB hgz (by omega)⟩
theorem not_step_t {x : BSet} {b : Nat} (hb : b < 256) (h : x.getLsbD b = true) : setTo (hasnt x) (b + 1) = setTo (hasnt x) b := setTo_succ_neg (by unfold hasnt; rw [h]; rfl)
theorem not_step_f {x : BSet} {b : Nat} (hb : b < 256) (h : x.getLsbD b = false) : setTo (hasnt x) (b + 1) = withB (setTo (hasnt x) b) b := by
  unfold withB
  by_cases e : b = 10
  · rw [if_pos e, setTo_succ_neg (by unfold hasnt; rw [e]; simp)]
  · rw [if_neg e, setTo_succ_pos (by unfold hasnt; rw [h]; simp [e])]
theorem shr_bit (x : BSet) (b : Nat) (hb : b < 256) : (word x (b / 64) / 2 ^ (b % 64)) % 2 = if x.getLsbD b then 1 else 0 := by
  rw [word_bit hb, Nat.testBit_eq_decide_div_mod_eq]
  split <;> rename_i h <;> simp at h <;> omega
theorem shr_tmod (x : BSet) (b : Nat) (hb : b < 256) : (((word x (b / 64) : Nat) : Int) / 2 ^ (b % 64)).tmod 2 = if x.getLsbD b then 1 else 0 := by
  have e : ((word x (b / 64) : Nat) : Int) / 2 ^ (b % 64) = ((word x (b / 64) / 2 ^ (b % 64) : Nat) : Int) := by simp
  have h := shr_bit x b hb
  rw [e, Int.tmod_eq_emod_of_nonneg (Int.natCast_nonneg _)]
  split at h <;> rename_i h1 <;> simp only [h1, if_true, if_false, Bool.false_eq_true] <;> omega
theorem shr_zero (x : BSet) (b : Nat) (hb : b < 256) : ((((word x (b / 64) : Nat) : Int) / 2 ^ (b % 64)).tmod 2 == 0) = !x.getLsbD b := by
  rw [shr_tmod x b hb]
  cases x.getLsbD b <;> rfl
theorem shr_one (x : BSet) (b : Nat) (hb : b < 256) : ((((word x (b / 64) : Nat) : Int) / 2 ^ (b % 64)).tmod 2 == 1) = x.getLsbD b := by
  rw [shr_tmod x b hb]
  cases x.getLsbD b <;> rfl
set_option maxRecDepth 100000 in
set_option maxHeartbeats 2000000 in
theorem not4_any (x : BSet) (w : World) :
    Calls Try.prog 94 #[.agg (setC x)] w fun e w' => e = .returned (.agg (setC (notB x))) ∧ Below w.heap.size w w' := by
  rw [← setTo_hasnt]
  go_enter Try.func94, Try.ntmps94
  have h1 : Blk (((w.alloc (.cells (setC x) 24)).alloc (.cells #[.int .u64 0, .int .u64 0, .int .u64 0, .int .u64 0] 24)).alloc (.cells #[.int .u64 0, .int .u64 0, .int .u64 0, .int .u64 0] 24)) w.heap.size 24 (setC x) := ((Blk.new _ _ _).alloc _).alloc _
  have h2 : Blk (((w.alloc (.cells (setC x) 24)).alloc (.cells #[.int .u64 0, .int .u64 0, .int .u64 0, .int .u64 0] 24)).alloc (.cells #[.int .u64 0, .int .u64 0, .int .u64 0, .int .u64 0] 24)) (w.heap.size + 1) 24 (setC 0) := by rw [set0_eq]; exact (Blk.new' _ _ _ (by simp)).alloc _
  have h3 : Blk (((w.alloc (.cells (setC x) 24)).alloc (.cells #[.int .u64 0, .int .u64 0, .int .u64 0, .int .u64 0] 24)).alloc (.cells #[.int .u64 0, .int .u64 0, .int .u64 0, .int .u64 0] 24)) (w.heap.size + 1 + 1) 24 (setC 0) := by rw [set0_eq]; exact Blk.new' _ _ _ (by simp)
  have hB : Below w.heap.size w (((w.alloc (.cells (setC x) 24)).alloc (.cells #[.int .u64 0, .int .u64 0, .int .u64 0, .int .u64 0] 24)).alloc (.cells #[.int .u64 0, .int .u64 0, .int .u64 0, .int .u64 0] 24)) := below_alloc (below_alloc (below_alloc (Below.refl _ _) _) _) _
  go_upto_region 2 with (fail)
  obtain ⟨w1, hw1⟩ : ∃ y, y = ((w.alloc (.cells (setC x) 24)).alloc (.cells #[.int .u64 0, .int .u64 0, .int .u64 0, .int .u64 0] 24)).alloc (.cells #[.int .u64 0, .int .u64 0, .int .u64 0, .int .u64 0] 24) := ⟨_, rfl⟩
  rw [← hw1] at h1 h2 h3 hB ⊢
  clear hw1
  obtain ⟨g1, hg1⟩ : ∃ y, y = w.heap.size := ⟨_, rfl⟩
  obtain ⟨g2, hg2⟩ : ∃ y, y = w.heap.size + 1 := ⟨_, rfl⟩
  obtain ⟨g3, hg3⟩ : ∃ y, y = w.heap.size + 1 + 1 := ⟨_, rfl⟩
  have hne := Lib.hid (show g1 ≠ g2 ∧ g1 ≠ g3 ∧ g2 ≠ g3 ∧ w.heap.size ≤ g1 ∧ w.heap.size ≤ g2 ∧ w.heap.size ≤ g3 by omega)
  rw [← hg3] at h3 ⊢
  rw [← hg2] at h2 ⊢
  rw [← hg1] at h1 ⊢
  clear hg1 hg2 hg3
  go_wp2_with (fail)
  go_loopw [4] (fun iv wr => ∃ b : Nat, b ≤ 256 ∧ iv = .int .i64 b ∧ Below w.heap.size w wr ∧ Blk wr g1 24 (setC x) ∧ Blk wr g2 24 (setC 0) ∧ Blk wr g3 24 (setC (setTo (hasnt x) b))) (fun iv _ => 256 - (intOf iv).toNat)
  case atStart => exact ⟨0, by omega, rfl, hB, h1, h2, h3⟩
  case round =>
    clear hB h1 h2 h3
    obtain ⟨b, hb, rfl, hB, h1, h2, h3⟩ := hrel
    by_cases hlt : b < 256
    · have hltI : (b : Int) < 256 := by omega
      have hb0 : ¬ (b : Int) < 0 := by omega
      have c1 := h1.cellv (setC_at _ (b / 64) (by omega))
      have hz := Lib.hid (shr_zero x b hlt)
      go_upto_if 17 with (fail)
      rw [hz.out]
      clear c1
      cases hq : x.getLsbD b with
      | true =>
        have hst := Lib.hid (not_step_t hlt hq)
        clear hq
        go_wp2_with (fail)
        exact ⟨⟨b + 1, by omega, by congr 1, hB, h1, h2, by rw [hst.out]; exact h3⟩, by simp only [intOf]; omega⟩
      | false =>
        have hst := Lib.hid (not_step_f hlt hq)
        clear hq
        have kW := with4_any (setTo (hasnt x) b) b hlt wr
        go_wp2_with (first | (refine wl_load_set rfl _ rfl g3 rfl _ h3 ?_) | (go_at_call 96; refine kW.mono ?_; rintro e w2 ⟨rfl, hB2⟩; have h32 := blk_then h3 hB2) | (refine wl_store_set rfl _ _ rfl g3 _ rfl rfl _ h32 ?_; intro w3 h33 hg3))
        have hBz := below_grown (below_then hB hB2) hg3 hne.out.2.2.2.2.2
        have h1z := (blk_then h1 hB2).grown hg3 (fun e => by injection e with e; have := hne.out; omega)
        have h2z := (blk_then h2 hB2).grown hg3 (fun e => by injection e with e; have := hne.out; omega)
        exact ⟨⟨b + 1, by omega, by congr 1, hBz, h1z, h2z, by rw [hst.out]; exact h33⟩, by simp only [intOf]; omega⟩
    · have hltI : ¬ (b : Int) < 256 := by omega
      obtain rfl : b = 256 := by omega
      go_wp2_with (first | (refine wl_load_set rfl _ rfl g3 rfl _ h3 ?_) | (refine wl_store_set rfl _ _ rfl g2 _ rfl rfl _ h2 ?_; intro wz hz hgz))
      exact ret_set rfl rfl hz rfl ⟨rfl, below_grown hB hgz hne.out.2.2.2.2.1⟩
/-- may it stand behind a backslash? -/
theorem marked_any (c : Nat) (hc : c < 256) (w : World) :
    Calls Try.prog 95 #[.int .u8 (c : Int)] w fun e w' => e = .returned (.bool (Ere.marks.contains c)) ∧ w' = w := by
  obtain ⟨V, hV⟩ : ∃ V, Ere.marks.contains c = V := ⟨_, rfl⟩
  rw [hV]
  replace hV := Lib.hid hV
  have hcI : (c : Int) < 256 := by omega
  go_enter Try.func95, Try.ntmps95
  go_wp2_with (fail)
  go_loopw [4] (fun iv wr => ∃ i : Nat, i ≤ 16 ∧ iv = .int .i64 i ∧ wr = w ∧ ∀ k, k < i → Ere.marks[k]? ≠ some c) (fun iv _ => 16 - (intOf iv).toNat)
  case atStart => exact ⟨0, by omega, rfl, rfl, fun k hk => by omega⟩
  case round =>
    obtain ⟨i, hi, rfl, hwr, hall⟩ := hrel
    subst hwr
    replace hall := Lib.hid hall
    by_cases hlt : i < 16
    · have key : ∀ (j : Nat) (h : j < 16), ∃ m, Ere.marks[j]? = some m ∧ ((⟨#[46, 91, 93, 40, 41, 42, 43, 63, 123, 125, 124, 94, 36, 92, 47, 45]⟩ : ByteArray)[j]'h).toNat = m := by decide
      obtain ⟨m, hm1, hm2⟩ := key i hlt
      have hltI : (i : Int) < 16 := by omega
      have hi0 : ¬ (i : Int) < 0 := by omega
      replace hm1 := Lib.hid hm1
      clear key
      by_cases hmc : m = c
      · have hVt : V = true := by
          rw [← hV.out, List.contains_iff_mem]
          exact List.mem_of_getElem? (by rw [hm1.out, hmc])
        have hI : ((m : Int) == (c : Int)) = true := beq_iff_eq.2 (by omega)
        subst hVt
        replace hmc := Lib.hid hmc
        go_wp2_with (fail)
        go_ret
        exact ⟨rfl, rfl⟩
      · have hI : ((m : Int) == (c : Int)) = false := beq_eq_false_iff_ne.2 (by omega)
        replace hmc := Lib.hid hmc
        go_wp2_with (fail)
        exact ⟨⟨i + 1, by omega, rfl, by trivial, fun k hk => by
          by_cases e : k = i
          · subst e
            rw [hm1.out]
            exact fun h => hmc.out (by injection h)
          · exact hall.out k (by omega)⟩, by simp only [intOf]; omega⟩
    · have hltI : ¬ (i : Int) < 16 := by omega
      have hVf : V = false := by
        rw [← hV.out, Bool.eq_false_iff]
        intro h
        obtain ⟨k, hk, e⟩ := List.mem_iff_getElem.1 (List.contains_iff_mem.1 h)
        have hk16 : k < 16 := hk
        exact hall.out k (by omega) (by rw [List.getElem?_eq_getElem hk, e])
      subst hVf
      go_wp2_with (fail)
      go_ret
      exact ⟨rfl, rfl⟩
end Go.Proofs.Ytajainmldcnaeaa
namespace Go.Proofs.Ytajainmldcnaeaa
open Go.RowKit Go.Maps
set_option linter.unusedVariables false
set_option linter.unusedSimpArgs false
attribute [local go_sem] Oper.semAt_some

theorem num_end {D : Nat × Nat × Nat} {n j m : Nat} {b : Bool} {ji : Int} (hD : D = (n, j, m)) (hj : ji = j) (hb : b = Ere.cntOk (n, j, m)) : Ending.returned (.tuple #[.int .i64 (n : Int), .int .i64 ji, .bool b]) = Ending.returned (.tuple #[.int .i64 (D.1 : Int), .int .i64 (D.2.1 : Int), .bool (Ere.cntOk D)]) := by rw [hD, hb, hj]
set_option maxRecDepth 100000 in
set_option maxHeartbeats 8000000 in
theorem rnumber_any (g : Nat) (p : ByteArray) (k n0 c e0 a0 : Nat) (A : Option Addr) (i : Nat) (ii : Int) (hii : ii = i) (hi : i ≤ 4000) (w : World) (h : Blk w g 82 (rrC p k A n0 c e0 a0)) :
    Calls Try.prog 98 #[.pointer (some ⟨g, 0, none⟩), .int .i64 ii] w fun e w' => e = .returned (.tuple #[.int .i64 ((Ere.digits p 4 i 0 0).1 : Int), .int .i64 ((Ere.digits p 4 i 0 0).2.1 : Int), .bool (Ere.cntOk (Ere.digits p 4 i 0 0))]) ∧ w' = w := by
  subst hii
  obtain ⟨D, hD⟩ : ∃ D, Ere.digits p 4 i 0 0 = D := ⟨_, rfl⟩
  rw [hD]
  have hiI : (i : Int) ≤ 4000 := by omega
  replace hD := Lib.hid hD
  go_enter Try.func98, Try.ntmps98
  go_wp2_with (fail)
  go_loopw [1, 7] (fun iv nv wr => ∃ (n m j : Nat), m ≤ 4 ∧ n < 10 ^ m ∧ j = i + m ∧ iv = .int .i64 j ∧ nv = .int .i64 n ∧ wr = w ∧ D = Ere.digits p (4 - m) j n m) (fun iv _ _ => i + 4 - (intOf iv).toNat)
  case atStart => exact ⟨0, 0, i, by omega, by decide, rfl, rfl, rfl, rfl, hD.out.symm⟩
  case round =>
    obtain ⟨n, m, j, hm, hn, hj, rfl, rfl, hwr, hd⟩ := hrel
    subst hwr
    have hjI : (j : Int) ≤ 4004 := by omega
    have hj2I : (j : Int) - i = m := by omega
    have hnb : n < 10000 := Nat.lt_of_lt_of_le hn (Nat.le_trans (Nat.pow_le_pow_right (by decide) hm) (by decide))
    have hnI : (n : Int) < 10000 := by omega
    have c0 : wr.cell? ⟨g, 0, none⟩ = some (.string p) := h.cellv rfl
    replace hn := Lib.hid hn
    replace hj := Lib.hid hj
    replace hd := Lib.hid hd
    by_cases hjs : j < p.size
    · have kM := rmore_at h j (j : Int) rfl (decide_eq_true hjs)
      have hjsI : (j : Int) < p.size := by omega
      have hj0 : ¬ (j : Int) < 0 := by omega
      obtain ⟨b, hb⟩ : ∃ v : Nat, p[j].toNat = v := ⟨_, rfl⟩
      have hch : Ere.chr p j = b := by unfold Ere.chr; rw [dif_pos hjs, hb]
      have hb8 : b < 256 := by rw [← hb]; exact p[j].toNat_lt
      replace hch := Lib.hid hch
      by_cases h48 : 48 ≤ b
      · have h48I : (48 : Int) ≤ b := by omega
        by_cases h57 : b ≤ 57
        · have h57I : (b : Int) ≤ 57 := by omega
          by_cases hm4 : m < 4
          · have hm4I : (m : Int) < 4 := by omega
            have hd2 : D = Ere.digits p (4 - (m + 1)) (j + 1) (10 * n + (b - 48)) (m + 1) := by
              rw [hd.out]
              have hk : 4 - m = (4 - (m + 1)) + 1 := by omega
              rw [hk]
              conv => lhs; unfold Ere.digits
              rw [hch.out, if_pos (by simp [hjs, h48, h57])]
            have hn2 : 10 * n + (b - 48) < 10 ^ (m + 1) := by have := hn.out; rw [Nat.pow_succ]; omega
            replace hd2 := Lib.hid hd2
            replace hn2 := Lib.hid hn2
            go_wp2_with (go_at_call 68; refine kM.mono ?_; rintro e w2 ⟨rfl, hw2⟩; rw [hw2]; clear hw2)
            exact ⟨⟨10 * n + (b - 48), m + 1, j + 1, by omega, hn2.out, by have := hj.out; omega, by congr 1, by congr 1; omega, by trivial, hd2.out⟩, by simp only [intOf]; have := hj.out; omega⟩
          · have hm4I : ¬ (m : Int) < 4 := by omega
            have hf : D = (n, j, m) := by rw [hd.out, show 4 - m = 0 by omega]; rfl
            have hjz := hj.out
            have t0 : 0 < m := by omega
            have t0I : (i : Int) < j := by omega
            have t3 : ¬ m ≤ 3 := by omega
            have t3I : ¬ (m : Int) ≤ 3 := by omega
            replace hf := Lib.hid hf
            replace hjz := Lib.hid hjz
            go_wp2_with (go_at_call 68; refine kM.mono ?_; rintro e w2 ⟨rfl, hw2⟩; rw [hw2]; clear hw2)
            go_ret3
            refine ⟨num_end hf.out rfl ?_, rfl⟩
            unfold Ere.cntOk
            rw [Bool.eq_iff_iff]; simp only [Bool.and_eq_true, decide_eq_true_eq, Bool.false_eq_true, false_iff, true_iff]; omega
        · have h57I : ¬ (b : Int) ≤ 57 := by omega
          have hf : D = (n, j, m) := by
            rw [hd.out]
            cases h4 : 4 - m with
            | zero => rfl
            | succ q => unfold Ere.digits; rw [hch.out, if_neg (by simp; omega)]
          have hjz := hj.out
          by_cases t0 : 0 < m
          · have t0I : (i : Int) < j := by omega
            by_cases t3 : m ≤ 3
            · have t3I : (m : Int) ≤ 3 := by omega
              by_cases t5 : n ≤ 255
              · have t5I : (n : Int) ≤ 255 := by omega
                replace hf := Lib.hid hf
                replace hjz := Lib.hid hjz
                go_wp2_with (go_at_call 68; refine kM.mono ?_; rintro e w2 ⟨rfl, hw2⟩; rw [hw2]; clear hw2)
                go_ret3
                refine ⟨num_end hf.out rfl ?_, rfl⟩
                unfold Ere.cntOk
                rw [Bool.eq_iff_iff]; simp only [Bool.and_eq_true, decide_eq_true_eq, Bool.false_eq_true, false_iff, true_iff]; omega
              · have t5I : ¬ (n : Int) ≤ 255 := by omega
                replace hf := Lib.hid hf
                replace hjz := Lib.hid hjz
                go_wp2_with (go_at_call 68; refine kM.mono ?_; rintro e w2 ⟨rfl, hw2⟩; rw [hw2]; clear hw2)
                go_ret3
                refine ⟨num_end hf.out rfl ?_, rfl⟩
                unfold Ere.cntOk
                rw [Bool.eq_iff_iff]; simp only [Bool.and_eq_true, decide_eq_true_eq, Bool.false_eq_true, false_iff, true_iff]; omega
            · have t3I : ¬ (m : Int) ≤ 3 := by omega
              replace hf := Lib.hid hf
              replace hjz := Lib.hid hjz
              go_wp2_with (go_at_call 68; refine kM.mono ?_; rintro e w2 ⟨rfl, hw2⟩; rw [hw2]; clear hw2)
              go_ret3
              refine ⟨num_end hf.out rfl ?_, rfl⟩
              unfold Ere.cntOk
              rw [Bool.eq_iff_iff]; simp only [Bool.and_eq_true, decide_eq_true_eq, Bool.false_eq_true, false_iff, true_iff]; omega
          · have t0I : ¬ (i : Int) < j := by omega
            replace hf := Lib.hid hf
            replace hjz := Lib.hid hjz
            go_wp2_with (go_at_call 68; refine kM.mono ?_; rintro e w2 ⟨rfl, hw2⟩; rw [hw2]; clear hw2)
            go_ret3
            refine ⟨num_end hf.out rfl ?_, rfl⟩
            unfold Ere.cntOk
            rw [Bool.eq_iff_iff]; simp only [Bool.and_eq_true, decide_eq_true_eq, Bool.false_eq_true, false_iff, true_iff]; omega
      · have h48I : ¬ (48 : Int) ≤ b := by omega
        have hf : D = (n, j, m) := by
          rw [hd.out]
          cases h4 : 4 - m with
          | zero => rfl
          | succ q => unfold Ere.digits; rw [hch.out, if_neg (by simp; omega)]
        have hjz := hj.out
        by_cases t0 : 0 < m
        · have t0I : (i : Int) < j := by omega
          by_cases t3 : m ≤ 3
          · have t3I : (m : Int) ≤ 3 := by omega
            by_cases t5 : n ≤ 255
            · have t5I : (n : Int) ≤ 255 := by omega
              replace hf := Lib.hid hf
              replace hjz := Lib.hid hjz
              go_wp2_with (go_at_call 68; refine kM.mono ?_; rintro e w2 ⟨rfl, hw2⟩; rw [hw2]; clear hw2)
              go_ret3
              refine ⟨num_end hf.out rfl ?_, rfl⟩
              unfold Ere.cntOk
              rw [Bool.eq_iff_iff]; simp only [Bool.and_eq_true, decide_eq_true_eq, Bool.false_eq_true, false_iff, true_iff]; omega
            · have t5I : ¬ (n : Int) ≤ 255 := by omega
              replace hf := Lib.hid hf
              replace hjz := Lib.hid hjz
              go_wp2_with (go_at_call 68; refine kM.mono ?_; rintro e w2 ⟨rfl, hw2⟩; rw [hw2]; clear hw2)
              go_ret3
              refine ⟨num_end hf.out rfl ?_, rfl⟩
              unfold Ere.cntOk
              rw [Bool.eq_iff_iff]; simp only [Bool.and_eq_true, decide_eq_true_eq, Bool.false_eq_true, false_iff, true_iff]; omega
          · have t3I : ¬ (m : Int) ≤ 3 := by omega
            replace hf := Lib.hid hf
            replace hjz := Lib.hid hjz
            go_wp2_with (go_at_call 68; refine kM.mono ?_; rintro e w2 ⟨rfl, hw2⟩; rw [hw2]; clear hw2)
            go_ret3
            refine ⟨num_end hf.out rfl ?_, rfl⟩
            unfold Ere.cntOk
            rw [Bool.eq_iff_iff]; simp only [Bool.and_eq_true, decide_eq_true_eq, Bool.false_eq_true, false_iff, true_iff]; omega
        · have t0I : ¬ (i : Int) < j := by omega
          replace hf := Lib.hid hf
          replace hjz := Lib.hid hjz
          go_wp2_with (go_at_call 68; refine kM.mono ?_; rintro e w2 ⟨rfl, hw2⟩; rw [hw2]; clear hw2)
          go_ret3
          refine ⟨num_end hf.out rfl ?_, rfl⟩
          unfold Ere.cntOk
          rw [Bool.eq_iff_iff]; simp only [Bool.and_eq_true, decide_eq_true_eq, Bool.false_eq_true, false_iff, true_iff]; omega
    · have kM := rmore_at h j (j : Int) rfl (decide_eq_false hjs)
      have hf : D = (n, j, m) := by
        rw [hd.out]
        cases h4 : 4 - m with
        | zero => rfl
        | succ q => unfold Ere.digits; rw [if_neg (by simp; omega)]
      have hjz := hj.out
      by_cases t0 : 0 < m
      · have t0I : (i : Int) < j := by omega
        by_cases t3 : m ≤ 3
        · have t3I : (m : Int) ≤ 3 := by omega
          by_cases t5 : n ≤ 255
          · have t5I : (n : Int) ≤ 255 := by omega
            replace hf := Lib.hid hf
            replace hjz := Lib.hid hjz
            go_wp2_with (go_at_call 68; refine kM.mono ?_; rintro e w2 ⟨rfl, hw2⟩; rw [hw2]; clear hw2)
            go_ret3
            refine ⟨num_end hf.out rfl ?_, rfl⟩
            unfold Ere.cntOk
            rw [Bool.eq_iff_iff]; simp only [Bool.and_eq_true, decide_eq_true_eq, Bool.false_eq_true, false_iff, true_iff]; omega
          · have t5I : ¬ (n : Int) ≤ 255 := by omega
            replace hf := Lib.hid hf
            replace hjz := Lib.hid hjz
            go_wp2_with (go_at_call 68; refine kM.mono ?_; rintro e w2 ⟨rfl, hw2⟩; rw [hw2]; clear hw2)
            go_ret3
            refine ⟨num_end hf.out rfl ?_, rfl⟩
            unfold Ere.cntOk
            rw [Bool.eq_iff_iff]; simp only [Bool.and_eq_true, decide_eq_true_eq, Bool.false_eq_true, false_iff, true_iff]; omega
        · have t3I : ¬ (m : Int) ≤ 3 := by omega
          replace hf := Lib.hid hf
          replace hjz := Lib.hid hjz
          go_wp2_with (go_at_call 68; refine kM.mono ?_; rintro e w2 ⟨rfl, hw2⟩; rw [hw2]; clear hw2)
          go_ret3
          refine ⟨num_end hf.out rfl ?_, rfl⟩
          unfold Ere.cntOk
          rw [Bool.eq_iff_iff]; simp only [Bool.and_eq_true, decide_eq_true_eq, Bool.false_eq_true, false_iff, true_iff]; omega
      · have t0I : ¬ (i : Int) < j := by omega
        replace hf := Lib.hid hf
        replace hjz := Lib.hid hjz
        go_wp2_with (go_at_call 68; refine kM.mono ?_; rintro e w2 ⟨rfl, hw2⟩; rw [hw2]; clear hw2)
        go_ret3
        refine ⟨num_end hf.out rfl ?_, rfl⟩
        unfold Ere.cntOk
        rw [Bool.eq_iff_iff]; simp only [Bool.and_eq_true, decide_eq_true_eq, Bool.false_eq_true, false_iff, true_iff]; omega

set_option maxRecDepth 100000 in
set_option maxHeartbeats 2000000 in
theorem in4_any (x : BSet) (f t : Nat) (fi ti : Int) (hf : fi = f) (ht : ti = t) (hft : f ≤ t + 1) (ht8 : t < 256) (w : World) :
    Calls Try.prog 112 #[.agg (setC x), .int .i64 fi, .int .i64 ti] w fun e w' => e = .returned (.agg (setC (x ||| spanB f t))) ∧ Below w.heap.size w w' := by
  subst hf ht
  obtain ⟨V, hV⟩ : ∃ V, x ||| spanB f t = V := ⟨_, rfl⟩
  rw [hV]
  rw [← spanB_eq f t ht8] at hV
  replace hV := Lib.hid hV
  have htI : (t : Int) < 256 := by omega
  go_enter Try.func112, Try.ntmps112
  have h3 : Blk ((w.alloc (.cells (setC x) 24)).alloc (.cells #[.int .u64 0, .int .u64 0, .int .u64 0, .int .u64 0] 24)) w.heap.size 24 (setC x) := (Blk.new _ _ _).alloc _
  have h6 : Blk ((w.alloc (.cells (setC x) 24)).alloc (.cells #[.int .u64 0, .int .u64 0, .int .u64 0, .int .u64 0] 24)) (w.heap.size + 1) 24 (setC 0) := by rw [set0_eq]; exact Blk.new' _ _ _ (by simp)
  have hB : Below w.heap.size w ((w.alloc (.cells (setC x) 24)).alloc (.cells #[.int .u64 0, .int .u64 0, .int .u64 0, .int .u64 0] 24)) := below_alloc (below_alloc (Below.refl _ _) _) _
  go_upto_region 1 with (fail)
  obtain ⟨w1, hw1⟩ : ∃ y, y = (w.alloc (.cells (setC x) 24)).alloc (.cells #[.int .u64 0, .int .u64 0, .int .u64 0, .int .u64 0] 24) := ⟨_, rfl⟩
  rw [← hw1] at h3 h6 hB ⊢
  clear hw1
  obtain ⟨g3, hg3⟩ : ∃ y, y = w.heap.size := ⟨_, rfl⟩
  obtain ⟨g6, hg6⟩ : ∃ y, y = w.heap.size + 1 := ⟨_, rfl⟩
  have hne := Lib.hid (show g3 ≠ g6 ∧ w.heap.size ≤ g3 ∧ w.heap.size ≤ g6 by omega)
  rw [← hg6] at h6 ⊢
  rw [← hg3] at h3 ⊢
  clear hg3 hg6
  go_wp2_with (fail)
  go_loopw [7] (fun iv wr => ∃ b : Nat, f ≤ b ∧ b ≤ t + 1 ∧ iv = .int .i64 b ∧ Below w.heap.size w wr ∧ Blk wr g6 24 (setC 0) ∧ Blk wr g3 24 (setC (x ||| setTo (fun i => decide (f ≤ i ∧ i ≤ t)) b))) (fun iv _ => t + 1 - (intOf iv).toNat)
  case atStart => exact ⟨f, Nat.le_refl _, hft, rfl, hB, h6, by rw [setTo_none (fun i hi => by simp; omega)]; simpa using h3⟩
  case round =>
    clear hB h3 h6
    obtain ⟨b, hfb, hbt, rfl, hB, h6, h3⟩ := hrel
    by_cases hlt : b ≤ t
    · have hltI : (b : Int) ≤ t := by omega
      have hb0 : (0 : Int) ≤ b := by omega
      obtain ⟨y, hy⟩ : ∃ y, x ||| setTo (fun i => decide (f ≤ i ∧ i ≤ t)) b = y := ⟨_, rfl⟩
      have hst : x ||| setTo (fun i => decide (f ≤ i ∧ i ≤ t)) (b + 1) = y ||| bit b := by
        rw [setTo_succ_pos (by simp; omega), ← hy, BitVec.or_assoc]
      rw [hy] at h3
      have hb8 : b < 256 := by omega
      have hb8I : (b : Int) < 256 := by omega
      have c1 := h3.cellv (setC_at _ (b / 64) (by omega))
      have f1 := h3.frozen (b / 64)
      replace hst := Lib.hid hst
      replace hy := Lib.hid hy
      go_upto_region 4 with (fail)
      go_big_region
      rw [putB hb8]
      have h3' := (h3.set_eq (put_set hb8)).drew
      have h6' := (h6.far (p := ⟨g3, b / 64, none⟩) (by have := hne.out; simp; omega) (.int .u64 ((word y (b / 64) ||| 2 ^ (b % 64) : Nat) : Int))).drew
      have hB' : Below w.heap.size w ((wr.setCell ⟨g3, b / 64, none⟩ (.int .u64 ((word y (b / 64) ||| 2 ^ (b % 64) : Nat) : Int))).drew) := (hB.setCell (by have := hne.out; exact this.2.1) _).drew
      rw [← hst.out] at h3'
      generalize (wr.setCell ⟨g3, b / 64, none⟩ (.int .u64 ((word y (b / 64) ||| 2 ^ (b % 64) : Nat) : Int))).drew = w5 at h3' h6' hB' ⊢
      clear c1 f1 h3 h6 hB
      go_wp2_with (fail)
      exact ⟨⟨b + 1, by omega, by omega, by congr 1, hB', h6', h3'⟩, by simp only [intOf]; omega⟩
    · have hltI : ¬ (b : Int) ≤ t := by omega
      have hbe : b = f + (t + 1 - f) := by omega
      have h3' : Blk wr g3 24 (setC V) := by rw [← hV.out, ← hbe]; exact h3
      clear h3
      go_wp2_with (first | (refine wl_load_set rfl _ rfl g3 rfl _ h3' ?_) | (refine wl_store_set rfl _ _ rfl g6 _ rfl rfl _ h6 ?_; intro wz hz hgz))
      exact ret_set rfl rfl hz rfl ⟨rfl, below_grown hB hgz hne.out.2.2⟩
end Go.Proofs.Ytajainmldcnaeaa
