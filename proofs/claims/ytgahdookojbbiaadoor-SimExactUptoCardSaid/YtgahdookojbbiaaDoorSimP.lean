/- heronlaw08.letter and mirror. No condition beyond those named in each lemma. -/
import Derived.Test.YtgahdookojbbiaaDoorLetter
namespace Go.Proofs.YtgahdookojbbiaaDoor
open Go.RowKit Go.Shelf Go.Maps
set_option linter.unusedVariables false
set_option linter.unusedSimpArgs false
attribute [local go_sem] Oper.semAt_some

theorem mirror_any (i N : Nat) (hi : i < N) (hN : N ≤ 1099511627776) (w : World) : Calls Tryd.prog 18 #[.int .i64 i, .int .i64 N] w fun e w' => e = .returned (.int .i64 (mirror i N : Nat)) ∧ w' = w := by
  go_enter Tryd.func18, Tryd.ntmps18
  by_cases h : i = 0
  · subst h
    go_wp2_with (fail)
    go_ret
    exact ⟨rfl, rfl⟩
  · have h2 : ((i : Int) == 0) = false := by simpa using h
    go_wp2_with (fail)
    go_ret
    refine ⟨?_, rfl⟩
    have e : ((mirror i N : Nat) : Int) = (N : Int) - i := by unfold mirror; rw [if_neg h]; omega
    rw [e]
    rfl
theorem slice_two {w : World} {g : Nat} {t : TypeId} (h : Blk w g t #[.int .u32 0, .int .u32 1]) : SliceOf w w.heap.size 1 encR (some ⟨g, 0, none⟩) letR := by
  refine .inr ⟨g, 0, rfl, h.lt, fun i hi => ?_⟩
  match i, hi with
  | 0, _ =>
    intro j v hv
    match j, hv with
    | 0, hv => exact h.cellv (i := 0) hv
    | j + 1, hv => simp [encR] at hv
  | 1, _ =>
    intro j v hv
    match j, hv with
    | 0, hv => exact h.cellv (i := 1) hv
    | j + 1, hv => simp [encR] at hv
set_option maxRecDepth 100000 in
set_option maxHeartbeats 4000000 in
theorem letter_any (w : World) : Calls Tryd.prog 22 #[.int .u8 97] w fun e w' => ∃ A B c d, e = .returned (.agg (nfaC 2 A 1 c B 2 d)) ∧ SliceOf w' w'.heap.size 7 edgC A letE ∧ SliceOf w' w'.heap.size 1 encR B letR ∧ Below w.heap.size w w' := by
  go_enter Tryd.func22, Tryd.ntmps22
  go_wp2_with (fail)
  have h1 : ∀ (o1 o2 o3 : Obj) (cs : Array Value) (t : TypeId), Blk ((((w.alloc (.cells cs t)).alloc o1).alloc o2).alloc o3) w.heap.size t cs := fun o1 o2 o3 cs t => (((Blk.new w t cs).alloc o1).alloc o2).alloc o3
  have h3 : ∀ (o0 o1 o3 : Obj) (cs : Array Value) (t : TypeId), Blk ((((w.alloc o0).alloc o1).alloc (.cells cs t)).alloc o3) (w.heap.size + 1 + 1) t cs := fun o0 o1 o3 cs t => (Blk.new' ((w.alloc o0).alloc o1) t cs (by simp)).alloc o3
  have h4 : ∀ (o0 o1 o2 : Obj) (cs : Array Value) (t : TypeId), Blk ((((w.alloc o0).alloc o1).alloc o2).alloc (.cells cs t)) (w.heap.size + 1 + 1 + 1) t cs := fun o0 o1 o2 cs t => Blk.new' (((w.alloc o0).alloc o1).alloc o2) t cs (by simp)
  have hB : ∀ (o0 o1 o2 o3 : Obj), Below w.heap.size w ((((w.alloc o0).alloc o1).alloc o2).alloc o3) := fun o0 o1 o2 o3 => below_alloc (below_alloc (below_alloc (below_alloc (Below.refl _ _) o0) o1) o2) o3
  refine ret_cell rfl _ rfl (h1 _ _ _ _ _) Tryd.underlying25 rfl (by kernel_rfl) rfl ⟨some ⟨w.heap.size + 1 + 1, 0, none⟩, some ⟨w.heap.size + 1 + 1 + 1, 0, none⟩, 1, 2, rfl, ?_, ?_, hB _ _ _ _⟩
  · exact slice_one (enc := edgC) (y := (⟨2, 0, 1, s97⟩ : Edg)) (h3 _ _ _ _ _)
  · exact slice_two (h4 _ _ _ _ _)
end Go.Proofs.YtgahdookojbbiaaDoor
