/- over, byte, begin, end, empty, joined of nfa's maker. No condition beyond those named in each lemma. -/
import Derived.Test.YtgahdookojbbiaaLayM
namespace Go.Proofs.Ytgahdookojbbiaa
open Go.RowKit Go.Maps
set_option linter.unusedVariables false
set_option linter.unusedSimpArgs false
attribute [local go_sem] Oper.semAt_some

theorem Fr.low {t1 t2 : TypeId} {gk : Nat} {W W' : World} (h : Fr t1 t2 gk W W') : Below (min gk W.heap.size) W W' := ⟨h.os, h.tape, h.output, h.size, fun i hi => h.block i (by omega) (.inl (by omega))⟩
/-- what laying ends with -/
def LayEnd (t : TypeId) (mc : Int → Value → Array Value) (gk lo : Nat) (w : World) (r : Ly × Nat) : Ending → World → Prop :=
  fun e w' => e = .returned (.int .i64 (r.2 : Int)) ∧ MkIs t mc w' gk lo r.1 ∧ Fr t 69 lo w w'
set_option maxRecDepth 100000 in
set_option maxHeartbeats 4000000 in
theorem over_any (gk lo : Nat) (m : Ly) (kd : Int) (a : Nat) (st : BSet) (w : World) (h : MkIs 72 mkP w gk lo m) (hm : m.s ≤ 1048576) (he : m.e.length ≤ 1048576) :
    Calls Try.prog 82 #[.pointer (some ⟨gk, 0, none⟩), .int .i64 kd, .int .i64 (a : Int), .agg (setC st)] w (LayEnd 72 mkP gk lo w (m.over kd a st)) := by
  have hlo := h.lt
  go_enter Try.func82, Try.ntmps82
  have h9 := Blk.new w 24 (setC st)
  have hB1 : Below w.heap.size w (w.alloc (.cells (setC st) 24)) := below_alloc (Below.refl _ _) _
  go_upto_region 1 with (fail)
  obtain ⟨w1, hw1⟩ : ∃ y, y = w.alloc (.cells (setC st) 24) := ⟨_, rfl⟩
  rw [← hw1] at h9 hB1 ⊢
  clear hw1
  replace h := h.then_ hB1
  have hF1 : Fr 72 69 lo w w1 := Fr.below hB1
  have hc := pstate_any gk lo m w1 h hm
  go_upto_region 2 with (first | (go_at_call 39; refine hc.mono ?_; rintro e w2 ⟨rfl, h2, hF2⟩) | (go_at_call 39; refine park ?_))
  replace h9 := blk_fr h9 hF2 (.inr ⟨by decide, by decide⟩)
  have hc2 := pedge_any gk lo m.new kd a m.s st w2 h2 he
  go_wp2_with (first | (refine wl_load_set rfl _ rfl _ rfl _ h9 ?_) | (go_at_call 85; refine hc2.mono ?_; rintro e w3 ⟨rfl, h3, hF3⟩) | (go_at_call 85; refine park ?_))
  go_ret
  exact ⟨rfl, h3, (hF1.trans hF2).trans hF3⟩
set_option maxRecDepth 100000 in
set_option maxHeartbeats 4000000 in
theorem byte_any (gk lo : Nat) (m : Ly) (a : Nat) (kd : Int) (st : BSet) (A : Option Addr) (n c : Nat) (mi ma : Int) (w : World) (h : MkIs 72 mkP w gk lo m) (hm : m.s ≤ 1048576) (he : m.e.length ≤ 1048576) :
    Calls Try.prog 76 #[.pointer (some ⟨gk, 0, none⟩), .agg (nodeC kd st A n c mi ma), .int .i64 (a : Int)] w (LayEnd 72 mkP gk lo w (m.over 2 a st)) := by
  have hlo := h.lt
  go_enter Try.func76, Try.ntmps76
  have h9 := Blk.new w 27 (nodeC kd st A n c mi ma)
  have hB1 : Below w.heap.size w (w.alloc (.cells (nodeC kd st A n c mi ma) 27)) := below_alloc (Below.refl _ _) _
  go_upto_region 1 with (fail)
  obtain ⟨w1, hw1⟩ : ∃ y, y = w.alloc (.cells (nodeC kd st A n c mi ma) 27) := ⟨_, rfl⟩
  rw [← hw1] at h9 hB1 ⊢
  clear hw1
  replace h := h.then_ hB1
  have hF1 : Fr 72 69 lo w w1 := Fr.below hB1
  have hc := over_any gk lo m 2 a st w1 h hm he
  go_wp2_with (first | (refine wl_load_set_at rfl _ rfl _ _ rfl _ (node_st h9) ?_) | (refine wl_build_set0 rfl rfl ?_) | (go_at_call 82; refine hc.mono ?_; rintro e w3 ⟨rfl, h3, hF3⟩) | (go_at_call 82; refine park ?_))
  go_ret
  exact ⟨rfl, h3, hF1.trans hF3⟩
set_option maxRecDepth 100000 in
set_option maxHeartbeats 4000000 in
theorem begin_any (gk lo : Nat) (m : Ly) (a : Nat) (kd : Int) (st : BSet) (A : Option Addr) (n c : Nat) (mi ma : Int) (w : World) (h : MkIs 72 mkP w gk lo m) (hm : m.s ≤ 1048576) (he : m.e.length ≤ 1048576) :
    Calls Try.prog 80 #[.pointer (some ⟨gk, 0, none⟩), .agg (nodeC kd st A n c mi ma), .int .i64 (a : Int)] w (LayEnd 72 mkP gk lo w (m.over 3 a 0)) := by
  have hlo := h.lt
  go_enter Try.func80, Try.ntmps80
  have h9 := Blk.new w 27 (nodeC kd st A n c mi ma)
  have hB1 : Below w.heap.size w (w.alloc (.cells (nodeC kd st A n c mi ma) 27)) := below_alloc (Below.refl _ _) _
  go_upto_region 1 with (fail)
  obtain ⟨w1, hw1⟩ : ∃ y, y = w.alloc (.cells (nodeC kd st A n c mi ma) 27) := ⟨_, rfl⟩
  rw [← hw1] at h9 hB1 ⊢
  clear hw1
  replace h := h.then_ hB1
  have hF1 : Fr 72 69 lo w w1 := Fr.below hB1
  have hc := over_any gk lo m 3 a 0 w1 h hm he
  go_wp2_with (first | (refine wl_load_set_at rfl _ rfl _ _ rfl _ (node_st h9) ?_) | (refine wl_build_set0 rfl rfl ?_) | (go_at_call 82; refine hc.mono ?_; rintro e w3 ⟨rfl, h3, hF3⟩) | (go_at_call 82; refine park ?_))
  go_ret
  exact ⟨rfl, h3, hF1.trans hF3⟩
set_option maxRecDepth 100000 in
set_option maxHeartbeats 4000000 in
theorem end_any (gk lo : Nat) (m : Ly) (a : Nat) (kd : Int) (st : BSet) (A : Option Addr) (n c : Nat) (mi ma : Int) (w : World) (h : MkIs 72 mkP w gk lo m) (hm : m.s ≤ 1048576) (he : m.e.length ≤ 1048576) :
    Calls Try.prog 81 #[.pointer (some ⟨gk, 0, none⟩), .agg (nodeC kd st A n c mi ma), .int .i64 (a : Int)] w (LayEnd 72 mkP gk lo w (m.over 4 a 0)) := by
  have hlo := h.lt
  go_enter Try.func81, Try.ntmps81
  have h9 := Blk.new w 27 (nodeC kd st A n c mi ma)
  have hB1 : Below w.heap.size w (w.alloc (.cells (nodeC kd st A n c mi ma) 27)) := below_alloc (Below.refl _ _) _
  go_upto_region 1 with (fail)
  obtain ⟨w1, hw1⟩ : ∃ y, y = w.alloc (.cells (nodeC kd st A n c mi ma) 27) := ⟨_, rfl⟩
  rw [← hw1] at h9 hB1 ⊢
  clear hw1
  replace h := h.then_ hB1
  have hF1 : Fr 72 69 lo w w1 := Fr.below hB1
  have hc := over_any gk lo m 4 a 0 w1 h hm he
  go_wp2_with (first | (refine wl_load_set_at rfl _ rfl _ _ rfl _ (node_st h9) ?_) | (refine wl_build_set0 rfl rfl ?_) | (go_at_call 82; refine hc.mono ?_; rintro e w3 ⟨rfl, h3, hF3⟩) | (go_at_call 82; refine park ?_))
  go_ret
  exact ⟨rfl, h3, hF1.trans hF3⟩
set_option maxRecDepth 100000 in
set_option maxHeartbeats 4000000 in
theorem empty_any (gk lo : Nat) (m : Ly) (a : Nat) (kd : Int) (st : BSet) (A : Option Addr) (n c : Nat) (mi ma : Int) (w : World) (h : MkIs 72 mkP w gk lo m) :
    Calls Try.prog 75 #[.pointer (some ⟨gk, 0, none⟩), .agg (nodeC kd st A n c mi ma), .int .i64 (a : Int)] w (LayEnd 72 mkP gk lo w (m, a)) := by
  go_enter Try.func75, Try.ntmps75
  have hB1 : Below w.heap.size w (w.alloc (.cells (nodeC kd st A n c mi ma) 27)) := below_alloc (Below.refl _ _) _
  go_wp2_with (fail)
  go_ret
  exact ⟨rfl, h.then_ hB1, Fr.below hB1⟩
/-- numbers in a row -/
def encI1 (z : Nat) : Array Value := #[.int .i64 (z : Int)]
theorem encI1_size (z : Nat) : (encI1 z).size = 1 := rfl
theorem encI1_one (z : Nat) : (encI1 z).all (·.oneCell') = true := by simp [encI1, Value.oneCell']
theorem own_new1 {w : World} {base : Nat} {y : Nat} (hb : base ≤ w.heap.size) : Own (w.alloc (.cells (encI1 y) 3)) base 3 1 encI1 (.slice (some ⟨w.heap.size, 0, none⟩) 1 1) [y] :=
  ⟨rfl, .inr ⟨w.heap.size, 1, encI1 y, rfl, hb, heap_alloc_new w _, Nat.le_refl _, by unfold maxLen; omega, rfl, rfl⟩⟩
theorem run_int1 (w : World) (y : Int) : (Instr.buildSlice 57 1 #[(0, .int .i64 y)]).run Try.prog w = .ok (.slice (some ⟨w.heap.size, 0, none⟩) 1 1) (w.alloc (.cells #[.int .i64 y] 3)) := by kernel_rfl
theorem wl_int1 {ops : Array Oper} {rest : List Oper} {o : Oper} {a : Act} {w : World} {Q : Exit → Act → World → Prop} (hgd : o.guard = none) (x : Operand) (ho : o.op = .buildSlice 57 1 #[(0, x)]) (y : Nat) (hx : a.eval x = .int .i64 (y : Int))
    (h : wpList Try.prog ops Q rest (a.put o.dst (.slice (some ⟨w.heap.size, 0, none⟩) 1 1)) (w.alloc (.cells (encI1 y) 3))) : wpList Try.prog ops Q (o :: rest) a w :=
  wl_run hgd (v := .slice (some ⟨w.heap.size, 0, none⟩) 1 1) (by unfold execOp; simp only [ho, List.map_toArray, List.map_cons, List.map_nil, hx, Sem.run_bind, run_int1, Result.andThen_ok, Sem.run_pure]; rfl) h
set_option maxRecDepth 100000 in
set_option maxHeartbeats 4000000 in
theorem joined_any (gk lo b2 : Nat) (m : Ly) (ends : List Nat) (A : Option Addr) (n c : Nat) (hn : n = ends.length) (w : World) (h : MkIs 72 mkP w gk lo m) (hv : Own w b2 3 1 encI1 (.slice A n c) ends) (hm : m.s ≤ 1048576) (he : m.e.length + ends.length ≤ 1048576) :
    Calls Try.prog 84 #[.pointer (some ⟨gk, 0, none⟩), .slice A n c] w (LayEnd 72 mkP gk lo w (m.joined ends)) := by
  have Hn := Lib.hid hn
  have hnb : n ≤ 1048576 := by omega
  clear hn
  go_enter Try.func84, Try.ntmps84
  have hc := pstate_any gk lo m w h hm
  go_upto_region 2 with (first | (go_at_call 39; refine hc.mono ?_; rintro e w2 ⟨rfl, h2, hF2⟩) | (go_at_call 39; refine park ?_))
  replace hv := hv.fr hF2 ⟨by decide, by decide⟩
  clear hc h
  go_wp2_with (fail)
  go_loopw [12] (fun i wr => ∃ k : Nat, k ≤ n ∧ i = .int .i64 k ∧ MkIs 72 mkP wr gk lo (m.new.frees m.s (ends.take k)) ∧ Own wr b2 3 1 encI1 (.slice A n c) ends ∧ Fr 72 69 lo w wr) (fun i _ => n - (intOf i).toNat)
  case atStart => exact ⟨0, by omega, rfl, h2, hv, hF2⟩
  case round =>
    clear h2 hv hF2
    obtain ⟨k, hk, rfl, h2, hv, hF2⟩ := hrel
    by_cases hkn : k < n
    · have hkI : (k : Int) < n := by omega
      have hkl : k < ends.length := by rw [← Hn.out]; exact hkn
      obtain ⟨g, cap, hvf, _, _, _⟩ := hv.form (by omega)
      injection hvf with hA hnn hcap
      clear hnn
      subst hA hcap
      have hrow := hv.row encI1_size k hkl
      obtain ⟨q, hq⟩ : ∃ q, q = ends[k] := ⟨_, rfl⟩
      rw [← hq, Nat.mul_one] at hrow
      have hc0 : wr.cell? ⟨g, k, none⟩ = some (.int .i64 (q : Int)) := hrow 0 _ rfl
      have hst : m.new.frees m.s (ends.take (k + 1)) = (m.new.frees m.s (ends.take k)).free q m.s := by rw [Ly.frees_snoc _ _ _ _ hkl, hq]
      have hel : (m.new.frees m.s (ends.take k)).e.length ≤ 1048576 := by
        rw [Ly.frees_e, List.length_take]
        have : m.new.e.length = m.e.length := rfl
        omega
      have hc2 := pfree_any gk lo _ q m.s wr h2 hel
      rw [← hst] at hc2
      have hkb : k < 1099511628000 := by omega
      clear hq hst hrow hel h2
      go_wp2_with (first | (go_at_call 83; refine hc2.mono ?_; rintro e w3 ⟨rfl, h3, hF3⟩) | (go_at_call 83; refine park ?_))
      exact ⟨⟨k + 1, by omega, rfl, h3, hv.fr hF3 ⟨by decide, by decide⟩, hF2.trans hF3⟩, by simp only [intOf]; omega⟩
    · have hkI : ¬ (k : Int) < n := by omega
      have hke : ends.take k = ends := List.take_of_length_le (by have := Hn.out; omega)
      rw [hke] at h2
      clear hke
      go_wp2_with (fail)
      go_ret
      exact ⟨rfl, h2, hF2⟩
end Go.Proofs.Ytgahdookojbbiaa
