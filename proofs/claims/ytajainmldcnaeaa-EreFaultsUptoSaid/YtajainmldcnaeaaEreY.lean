/- ere: Parse's deferred closure, and plain lemmas on the newline. No condition beyond those named in each lemma. -/
import Derived.Test.YtajainmldcnaeaaEreX
import Derived.Test.YtajainmldcnaeaaNodeB
import Derived.Recover
import Derived.Laws.Pointers
namespace Go.Proofs.Ytajainmldcnaeaa
open Go.RowKit Go.Maps
set_option linter.unusedVariables false
set_option linter.unusedSimpArgs false
attribute [local go_sem] Oper.semAt_some

namespace Ere
theorem nlAt_none (p : ByteArray) : ∀ n i, p.size ≤ n + i → nlAt p n i = none → ∀ j, i ≤ j → j < p.size → chr p j ≠ 10
  | 0, i, hn, _, j, hj, hp => by omega
  | n + 1, i, hn, h, j, hj, hp => by
    unfold nlAt at h
    split at h
    · omega
    · split at h
      · cases h
      · rename_i h1 h2
        by_cases e : j = i
        · subst e; exact h2
        · exact nlAt_none p n (i + 1) (by omega) h j (by omega) hp
theorem nlAt_some (p : ByteArray) : ∀ n i j, nlAt p n i = some j → i ≤ j ∧ j < p.size ∧ chr p j = 10 ∧ ∀ k, i ≤ k → k < j → chr p k ≠ 10
  | 0, i, j, h => by cases h
  | n + 1, i, j, h => by
    unfold nlAt at h
    split at h
    · cases h
    · split at h
      · rename_i h1 h2
        injection h with h
        subst h
        exact ⟨Nat.le_refl _, by omega, h2, fun k h3 h4 => by omega⟩
      · rename_i h1 h2
        obtain ⟨a, b, c, d⟩ := nlAt_some p n (i + 1) j h
        refine ⟨by omega, b, c, fun k h3 h4 => ?_⟩
        by_cases e : k = i
        · subst e; exact h2
        · exact d k (by omega) h4
theorem index_nl (p : ByteArray) : Lib.indexByte p.data.toList 10 = match nlAt p (p.size + 1) 0 with
    | none => -1
    | some j => (j : Int) := by
  have key : ∀ o : Nat, Lib.indexByte p.data.toList 10 = o → (o < p.size ∧ chr p o = 10) ∧ ∀ k, k < o → ¬ (k < p.size ∧ chr p k = 10) := fun o ho => by
    obtain ⟨h1, h2⟩ := Lib.indexByte_some ho
    exact ⟨(chr_list p o 10).1 h1, fun k hk h => h2 k hk ((chr_list p k 10).2 h)⟩
  have hge := Lib.indexByte_ge p.data.toList 10
  cases he : nlAt p (p.size + 1) 0 with
  | none =>
    have hn := nlAt_none p (p.size + 1) 0 (by omega) he
    rcases Int.lt_or_le (Lib.indexByte p.data.toList 10) 0 with h0 | h0
    · simp only; omega
    · obtain ⟨o, ho⟩ := Int.eq_ofNat_of_zero_le h0
      have h1 := (key o ho).1
      exact absurd h1.2 (hn o (by omega) h1.1)
  | some j =>
    obtain ⟨-, h2, h3, h4⟩ := nlAt_some p (p.size + 1) 0 j he
    rcases Int.lt_or_le (Lib.indexByte p.data.toList 10) 0 with h0 | h0
    · have h1 := Lib.indexByte_none (l := p.data.toList) (c := 10) (by omega)
      exact absurd ((chr_list p j 10).2 ⟨h2, h3⟩) (h1 j)
    · obtain ⟨o, ho⟩ := Int.eq_ofNat_of_zero_le h0
      obtain ⟨h5, h6⟩ := key o ho
      have hoj : o = j := by
        rcases Nat.lt_trichotomy o j with h | h | h
        · exact absurd h5.2 (h4 o (by omega) h)
        · exact h
        · exact absurd ⟨h2, h3⟩ (h6 j h)
      rw [ho, hoj]
end Ere
theorem field_fault_0 (b off : Nat) (w : World) : (Instr.fieldAt 73 (.pointer (some ⟨b, off, none⟩)) 0).run Try.prog w = .ok (.pointer (some ⟨b, off, none⟩)) w := by kernel_rfl
theorem field_fault_1 (b off : Nat) (w : World) : (Instr.fieldAt 73 (.pointer (some ⟨b, off, none⟩)) 1).run Try.prog w = .ok (.pointer (some ⟨b, off + 1, none⟩)) w := by kernel_rfl
theorem assert_fault (e0 a0 : Int) (w : World) : (Instr.typeAssert (.iface 73 (.agg #[.int .i64 e0, .int .i64 a0])) 20 73 true).run Try.prog w = .ok (.tuple #[.agg #[.int .i64 e0, .int .i64 a0], .bool true]) w := by kernel_rfl
def zeroV : NV := ⟨0, 0, none, 0, 0, 0, 0⟩
theorem gs_build_nzero {ops : Array Oper} {S : Nat → GSpec} {Q : Exit → Act → World → Prop} {i : Nat} {o : Oper} {a : Act} {w : World} (hw : Region.wanted o (yielded ops a.tmps) = true) (ho : o.op = .build 27 #[]) (hp : (S i).p (.agg zeroV.C) w) : GStep Try.prog ops S Q i o a w :=
  gs_run hw (v := .agg zeroV.C) (w' := w) (by unfold execOp; simp only [ho, List.map_toArray, List.map_nil, Sem.run_bind, build_nzero, Result.andThen_ok, Sem.run_pure]; rfl) (Below.refl _ _) hp
theorem Turn.set {lo hi b i : Nat} {w w' : World} {v : Value} (h : Turn lo hi w w') (h1 : lo ≤ b) (h2 : b < hi) : Turn lo hi w (w'.setCell ⟨b, i, none⟩ v) :=
  h.grown (only_setCell (World.grownBy.refl w' (some b)) (.inl rfl) v) (fun q e => by injection e with e; left; omega)
set_option maxHeartbeats 1000000 in
set_option maxRecDepth 100000 in
/-- the closure of Parse, where a reader has given up -/
theorem closure_fault (g : Nat) (e0 a0 : Nat) (x : NV) (x3 x4 : Value) (w : World) (h2 : Blk w g 27 x.C) (h3 : Blk w (g + 1) 3 #[x3]) (h4 : Blk w (g + 1 + 1) 29 #[x4]) :
    CallsD Try.prog 38 #[.pointer (some ⟨g, 0, none⟩), .pointer (some ⟨g + 1, 0, none⟩), .pointer (some ⟨g + 1 + 1, 0, none⟩)] (.panicking [{ v := .iface 73 (.agg #[.int .i64 (e0 : Int), .int .i64 (a0 : Int)]), recovered := false }]) w fun e u' w' =>
      e = .returned (.tuple #[]) ∧ u' = .panicking [{ v := .iface 73 (.agg #[.int .i64 (e0 : Int), .int .i64 (a0 : Int)]), recovered := true }] ∧ Turn g (g + 3) w w' ∧
        Blk w' g 27 zeroV.C ∧ Blk w' (g + 1) 3 #[.int .i64 (a0 : Int)] ∧ Blk w' (g + 1 + 1) 29 #[.int .i64 (e0 : Int)] := by
  have hta := assert_fault (e0 : Int) (a0 : Int)
  refine callsD_of_wpS Try.func38 rfl fun c₀ cs hu => ?_
  apply wpS_seq
  apply wpS_region
  simp [wpOpsS, go_sem, recoverD, hu, Try.ntmps38, Exit.thenS]
  refine wpS_of_wp ?_
  simp only [show (Array.replicate 14 undef : Array Value) = #[undef, undef, undef, undef, undef, undef, undef, undef, undef, undef, undef, undef, undef, undef] from rfl, List.setIfInBounds_toArray, List.set_cons_zero, List.set_cons_succ, List.append_toArray, List.cons_append, List.nil_append]
  go_upto_region 7 with (fail)
  have hf : Blk (w.alloc (.cells #[.int .i64 (e0 : Int), .int .i64 (a0 : Int)] 73)) w.heap.size 73 #[.int .i64 (e0 : Int), .int .i64 (a0 : Int)] := Blk.new' _ _ _ rfl
  have hB : Below w.heap.size w (w.alloc (.cells #[.int .i64 (e0 : Int), .int .i64 (a0 : Int)] 73)) := below_alloc (Below.refl _ _) _
  obtain ⟨w1, hw1⟩ : ∃ y, y = w.alloc (.cells #[.int .i64 (e0 : Int), .int .i64 (a0 : Int)] 73) := ⟨_, rfl⟩
  rw [← hw1] at hf hB ⊢
  clear hw1
  have hgl := h4.lt
  replace h2 := blk_then h2 hB
  replace h3 := blk_then h3 hB
  replace h4 := blk_then h4 hB
  have hT : Turn g (g + 3) w w1 := Turn.of_below hB
  obtain ⟨gf, hgf⟩ : ∃ y, y = w.heap.size := ⟨_, rfl⟩
  have hn1 : gf ≠ g := by omega
  have hn2 : gf ≠ g + 1 := by omega
  have hn3 : gf ≠ g + 1 + 1 := by omega
  rw [← hgf] at hf ⊢
  clear hgf hB
  have r0 := h2.cellv (i := 0) rfl
  have z0 := h2.frozen 0
  have r1 := h2.cellv (i := 1) rfl
  have z1 := h2.frozen 1
  have r2 := h2.cellv (i := 2) rfl
  have z2 := h2.frozen 2
  have r3 := h2.cellv (i := 3) rfl
  have z3 := h2.frozen 3
  have r4 := h2.cellv (i := 4) rfl
  have z4 := h2.frozen 4
  have r5 := h2.cellv (i := 5) rfl
  have z5 := h2.frozen 5
  have r6 := h2.cellv (i := 6) rfl
  have z6 := h2.frozen 6
  have r7 := h2.cellv (i := 7) rfl
  have z7 := h2.frozen 7
  have q1 : w1.cell? ⟨gf, 1, none⟩ = some (.int .i64 (a0 : Int)) := hf.cellv rfl
  have q0 : w1.cell? ⟨gf, 0, none⟩ = some (.int .i64 (e0 : Int)) := hf.cellv rfl
  have c3 := h3.cellv (i := 0) (v := x3) rfl
  have f3 := h3.frozen 0
  have c4 := h4.cellv (i := 0) (v := x4) rfl
  have f4 := h4.frozen 0
  go_big_region
  clear q0 q1 c3 f3 c4 f4 hf hn1 hn2 hn3 r0 r1 r2 r3 r4 r5 r6 r7 z0 z1 z2 z3 z4 z5 z6 z7
  replace h2 := h2.set_ 0 (.int .i64 0)
  replace h2 := h2.set_ 1 (.int .u64 0)
  replace h2 := h2.set_ 2 (.int .u64 0)
  replace h2 := h2.set_ 3 (.int .u64 0)
  replace h2 := h2.set_ 4 (.int .u64 0)
  replace h2 := h2.set_ 5 (.slice none 0 0)
  replace h2 := h2.set_ 6 (.int .i64 0)
  replace h2 := h2.set_ 7 (.int .i64 0)
  replace h3 := h3.far (p := ⟨g, 0, none⟩) (by simp) (.int .i64 0)
  replace h4 := h4.far (p := ⟨g, 0, none⟩) (by simp; omega) (.int .i64 0)
  replace hT := hT.set (b := g) (i := 0) (v := (.int .i64 0)) (by omega) (by omega)
  replace h3 := h3.far (p := ⟨g, 1, none⟩) (by simp) (.int .u64 0)
  replace h4 := h4.far (p := ⟨g, 1, none⟩) (by simp; omega) (.int .u64 0)
  replace hT := hT.set (b := g) (i := 1) (v := (.int .u64 0)) (by omega) (by omega)
  replace h3 := h3.far (p := ⟨g, 2, none⟩) (by simp) (.int .u64 0)
  replace h4 := h4.far (p := ⟨g, 2, none⟩) (by simp; omega) (.int .u64 0)
  replace hT := hT.set (b := g) (i := 2) (v := (.int .u64 0)) (by omega) (by omega)
  replace h3 := h3.far (p := ⟨g, 3, none⟩) (by simp) (.int .u64 0)
  replace h4 := h4.far (p := ⟨g, 3, none⟩) (by simp; omega) (.int .u64 0)
  replace hT := hT.set (b := g) (i := 3) (v := (.int .u64 0)) (by omega) (by omega)
  replace h3 := h3.far (p := ⟨g, 4, none⟩) (by simp) (.int .u64 0)
  replace h4 := h4.far (p := ⟨g, 4, none⟩) (by simp; omega) (.int .u64 0)
  replace hT := hT.set (b := g) (i := 4) (v := (.int .u64 0)) (by omega) (by omega)
  replace h3 := h3.far (p := ⟨g, 5, none⟩) (by simp) (.slice none 0 0)
  replace h4 := h4.far (p := ⟨g, 5, none⟩) (by simp; omega) (.slice none 0 0)
  replace hT := hT.set (b := g) (i := 5) (v := (.slice none 0 0)) (by omega) (by omega)
  replace h3 := h3.far (p := ⟨g, 6, none⟩) (by simp) (.int .i64 0)
  replace h4 := h4.far (p := ⟨g, 6, none⟩) (by simp; omega) (.int .i64 0)
  replace hT := hT.set (b := g) (i := 6) (v := (.int .i64 0)) (by omega) (by omega)
  replace h3 := h3.far (p := ⟨g, 7, none⟩) (by simp) (.int .i64 0)
  replace h4 := h4.far (p := ⟨g, 7, none⟩) (by simp; omega) (.int .i64 0)
  replace hT := hT.set (b := g) (i := 7) (v := (.int .i64 0)) (by omega) (by omega)
  replace h2 := h2.far (p := ⟨g + 1, 0, none⟩) (by simp) (.int .i64 (a0 : Int))
  replace h4 := h4.far (p := ⟨g + 1, 0, none⟩) (by simp) (.int .i64 (a0 : Int))
  replace h3 := h3.set_ 0 (.int .i64 (a0 : Int))
  replace hT := hT.set (b := g + 1) (i := 0) (v := .int .i64 (a0 : Int)) (by omega) (by omega)
  replace h2 := h2.far (p := ⟨g + 1 + 1, 0, none⟩) (by simp; omega) (.int .i64 (e0 : Int))
  replace h3 := h3.far (p := ⟨g + 1 + 1, 0, none⟩) (by simp) (.int .i64 (e0 : Int))
  replace h4 := h4.set_ 0 (.int .i64 (e0 : Int))
  replace hT := hT.set (b := g + 1 + 1) (i := 0) (v := .int .i64 (e0 : Int)) (by omega) (by omega)
  replace h2 := h2.drew
  replace h3 := h3.drew
  replace h4 := h4.drew
  replace hT := hT.then_ ((Below.refl _ _).drew)
  generalize World.drew _ = w2 at h2 h3 h4 hT ⊢
  go_wp2_with (fail)
  refine ⟨rfl, _, rfl, _, results_none rfl _ _ _, rfl, rfl, hT, ?_, h3, h4⟩
  have e : ((((((((x.C.setIfInBounds 0 (.int .i64 0)).setIfInBounds 1 (.int .u64 0)).setIfInBounds 2 (.int .u64 0)).setIfInBounds 3 (.int .u64 0)).setIfInBounds 4 (.int .u64 0)).setIfInBounds 5 (.slice none 0 0)).setIfInBounds 6 (.int .i64 0)).setIfInBounds 7 (.int .i64 0)) = zeroV.C := by kernel_rfl
  rw [← e]
  exact h2
/-- the closure of Parse, where nothing was given up -/
theorem closure_idle (p q r : Addr) (w : World) : CallsD Try.prog 38 #[.pointer (some p), .pointer (some q), .pointer (some r)] .returning w fun e u' w' => e = .returned (.tuple #[]) ∧ u' = .returning ∧ w' = w := by
  refine callsD_of_wpS Try.func38 rfl fun c₀ cs hu => ?_
  apply wpS_seq
  apply wpS_region
  simp [wpOpsS, go_sem, recoverD, hu, Try.ntmps38, Exit.thenS]
  refine wpS_of_wp ?_
  simp only [show (Array.replicate 14 undef : Array Value) = #[undef, undef, undef, undef, undef, undef, undef, undef, undef, undef, undef, undef, undef, undef] from rfl, List.setIfInBounds_toArray, List.set_cons_zero, List.set_cons_succ, List.append_toArray, List.cons_append, List.nil_append]
  go_wp2_with (fail)
  cases c₀
  simp_all [bodyPostS, results, Try.results38]
end Go.Proofs.Ytajainmldcnaeaa
