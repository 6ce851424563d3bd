/- The walks of heronlaw26's used, oneLine. No condition beyond those named in each lemma. -/
import Derived.Test.YtjplgcmfifoefaaDoorQtT
namespace Go.Proofs.YtjplgcmfifoefaaDoor
open Go.RowKit Go.Maps
set_option linter.unusedVariables false
set_option linter.unusedSimpArgs false
attribute [local go_sem] Oper.semAt_some

def usedV (x : EvV) : EvV :=
  if x.kind = 1 ∨ x.kind = 3 ∨ x.kind = 5 ∨ x.kind = 6 then { evK x.kind with name := x.name }
  else if x.kind = 2 then { evK x.kind with name := x.name, data := x.data }
  else if x.kind = 4 then { evK x.kind with name := x.name, other := x.other }
  else if x.kind = 7 ∨ x.kind = 10 then { evK x.kind with n := x.n }
  else if x.kind = 9 then { evK x.kind with n := x.n, yes := x.yes }
  else if x.kind = 12 then { evK x.kind with A := x.A, m := x.m, c := x.c }
  else evK x.kind
def usedL (k : Int) (ks : List Int) : List Int := if k = 12 then ks else []
theorem used_ev (x : EvV) (ks : List Int) : (usedV x).ev (usedL x.kind ks) = usedE (x.ev ks) := by
  unfold usedV usedE usedL
  have hk : (x.ev ks).kind = x.kind := rfl
  rw [hk]
  by_cases h1 : x.kind = 1 ∨ x.kind = 3 ∨ x.kind = 5 ∨ x.kind = 6
  · rw [if_pos h1, if_pos h1, if_neg (by omega)]; rfl
  rw [if_neg h1, if_neg h1]
  by_cases h2 : x.kind = 2
  · rw [if_pos h2, if_pos h2, if_neg (by omega)]; rfl
  rw [if_neg h2, if_neg h2]
  by_cases h4 : x.kind = 4
  · rw [if_pos h4, if_pos h4, if_neg (by omega)]; rfl
  rw [if_neg h4, if_neg h4]
  by_cases h7 : x.kind = 7 ∨ x.kind = 10
  · rw [if_pos h7, if_pos h7, if_neg (by omega)]; rfl
  rw [if_neg h7, if_neg h7]
  by_cases h9 : x.kind = 9
  · rw [if_pos h9, if_pos h9, if_neg (by omega)]; rfl
  rw [if_neg h9, if_neg h9]
  by_cases h12 : x.kind = 12
  · rw [if_pos h12, if_pos h12, if_pos h12]; rfl
  rw [if_neg h12, if_neg h12, if_neg h12]; rfl
theorem used_w {w : World} {x : EvV} {ks : List Int} (h : EvW w x ks) : EvW w (usedV x) (usedL x.kind ks) := by
  unfold usedV usedL
  by_cases h1 : x.kind = 1 ∨ x.kind = 3 ∨ x.kind = 5 ∨ x.kind = 6
  · rw [if_pos h1, if_neg (by omega)]; exact ⟨rfl, Nat.zero_le _, .inl rfl⟩
  rw [if_neg h1]
  by_cases h2 : x.kind = 2
  · rw [if_pos h2, if_neg (by omega)]; exact ⟨rfl, Nat.zero_le _, .inl rfl⟩
  rw [if_neg h2]
  by_cases h4 : x.kind = 4
  · rw [if_pos h4, if_neg (by omega)]; exact ⟨rfl, Nat.zero_le _, .inl rfl⟩
  rw [if_neg h4]
  by_cases h7 : x.kind = 7 ∨ x.kind = 10
  · rw [if_pos h7, if_neg (by omega)]; exact ⟨rfl, Nat.zero_le _, .inl rfl⟩
  rw [if_neg h7]
  by_cases h9 : x.kind = 9
  · rw [if_pos h9, if_neg (by omega)]; exact ⟨rfl, Nat.zero_le _, .inl rfl⟩
  rw [if_neg h9]
  by_cases h12 : x.kind = 12
  · rw [if_pos h12, if_pos h12]; exact ⟨h.len, h.few, h.sl⟩
  rw [if_neg h12, if_neg h12]; exact ⟨rfl, Nat.zero_le _, .inl rfl⟩
theorem blk_mid (w : World) (t t2 t3 : TypeId) (a b c : Array Value) : Blk (((w.alloc (.cells a t)).alloc (.cells b t2)).alloc (.cells c t3)) (w.heap.size + 1) t2 b := by
  have h := Blk.new (w.alloc (.cells a t)) t2 b
  rw [World.size_alloc] at h
  exact blk_then h (below_alloc (Below.refl _ _) _)
theorem below_3 (w : World) (a b c : Obj) : Below w.heap.size w (((w.alloc a).alloc b).alloc c) := below_alloc (below_alloc (below_alloc (Below.refl _ _) a) b) c
set_option maxRecDepth 100000 in
set_option maxHeartbeats 8000000 in
theorem used_any (x : EvV) (w : World) :
    Calls Tryd.prog 10 #[.agg x.C] w fun e w' => e = .returned (.agg (usedV x).C) ∧ Below w.heap.size w w' := by
  obtain ⟨kind, name, other, data, n, yes, A, m, c⟩ := x
  obtain ⟨V, hV⟩ : ∃ V, (usedV ⟨kind, name, other, data, n, yes, A, m, c⟩).C = V := ⟨_, rfl⟩
  rw [hV]
  replace hV := Lib.hid hV
  unfold EvV.C
  go_enter Tryd.func10, Tryd.ntmps10
  go_upto_region 2 with (fail)
  by_cases k1 : kind = 1
  · subst k1
    go_wp2_with (fail)
    refine ret_cell rfl _ rfl (blk_mid _ _ _ _ _ _ _) Tryd.underlying24 rfl (info_ev.trans rfl) rfl ?_
    exact ⟨by rw [← hV.out]; rfl, below_3 _ _ _ _⟩
  by_cases k3 : kind = 3
  · subst k3
    go_wp2_with (fail)
    refine ret_cell rfl _ rfl (blk_mid _ _ _ _ _ _ _) Tryd.underlying24 rfl (info_ev.trans rfl) rfl ?_
    exact ⟨by rw [← hV.out]; rfl, below_3 _ _ _ _⟩
  by_cases k5 : kind = 5
  · subst k5
    go_wp2_with (fail)
    refine ret_cell rfl _ rfl (blk_mid _ _ _ _ _ _ _) Tryd.underlying24 rfl (info_ev.trans rfl) rfl ?_
    exact ⟨by rw [← hV.out]; rfl, below_3 _ _ _ _⟩
  by_cases k6 : kind = 6
  · subst k6
    go_wp2_with (fail)
    refine ret_cell rfl _ rfl (blk_mid _ _ _ _ _ _ _) Tryd.underlying24 rfl (info_ev.trans rfl) rfl ?_
    exact ⟨by rw [← hV.out]; rfl, below_3 _ _ _ _⟩
  by_cases k2 : kind = 2
  · subst k2
    go_wp2_with (fail)
    refine ret_cell rfl _ rfl (blk_mid _ _ _ _ _ _ _) Tryd.underlying24 rfl (info_ev.trans rfl) rfl ?_
    exact ⟨by rw [← hV.out]; rfl, below_3 _ _ _ _⟩
  by_cases k4 : kind = 4
  · subst k4
    go_wp2_with (fail)
    refine ret_cell rfl _ rfl (blk_mid _ _ _ _ _ _ _) Tryd.underlying24 rfl (info_ev.trans rfl) rfl ?_
    exact ⟨by rw [← hV.out]; rfl, below_3 _ _ _ _⟩
  by_cases k7 : kind = 7
  · subst k7
    go_wp2_with (fail)
    refine ret_cell rfl _ rfl (blk_mid _ _ _ _ _ _ _) Tryd.underlying24 rfl (info_ev.trans rfl) rfl ?_
    exact ⟨by rw [← hV.out]; rfl, below_3 _ _ _ _⟩
  by_cases k10 : kind = 10
  · subst k10
    go_wp2_with (fail)
    refine ret_cell rfl _ rfl (blk_mid _ _ _ _ _ _ _) Tryd.underlying24 rfl (info_ev.trans rfl) rfl ?_
    exact ⟨by rw [← hV.out]; rfl, below_3 _ _ _ _⟩
  by_cases k9 : kind = 9
  · subst k9
    go_wp2_with (fail)
    refine ret_cell rfl _ rfl (blk_mid _ _ _ _ _ _ _) Tryd.underlying24 rfl (info_ev.trans rfl) rfl ?_
    exact ⟨by rw [← hV.out]; rfl, below_3 _ _ _ _⟩
  by_cases k12 : kind = 12
  · subst k12
    go_wp2_with (fail)
    refine ret_cell rfl _ rfl (blk_mid _ _ _ _ _ _ _) Tryd.underlying24 rfl (info_ev.trans rfl) rfl ?_
    exact ⟨by rw [← hV.out]; rfl, below_3 _ _ _ _⟩
  have f1 : (kind == 1) = false := by rw [beq_eq_false_iff_ne]; exact k1
  have f3 : (kind == 3) = false := by rw [beq_eq_false_iff_ne]; exact k3
  have f5 : (kind == 5) = false := by rw [beq_eq_false_iff_ne]; exact k5
  have f6 : (kind == 6) = false := by rw [beq_eq_false_iff_ne]; exact k6
  have f2 : (kind == 2) = false := by rw [beq_eq_false_iff_ne]; exact k2
  have f4 : (kind == 4) = false := by rw [beq_eq_false_iff_ne]; exact k4
  have f7 : (kind == 7) = false := by rw [beq_eq_false_iff_ne]; exact k7
  have f10 : (kind == 10) = false := by rw [beq_eq_false_iff_ne]; exact k10
  have f9 : (kind == 9) = false := by rw [beq_eq_false_iff_ne]; exact k9
  have f12 : (kind == 12) = false := by rw [beq_eq_false_iff_ne]; exact k12
  have hV2 : V = (evK kind).C := by
    rw [← hV.out]
    unfold usedV
    simp only [k1, k3, k5, k6, k2, k4, k7, k10, k9, k12, or_self, if_false]
  replace hV2 := Lib.hid hV2
  clear k1 k3 k5 k6 k2 k4 k7 k10 k9 k12
  go_wp2_with (fail)
  refine ret_cell rfl _ rfl (blk_mid _ _ _ _ _ _ _) Tryd.underlying24 rfl (info_ev.trans rfl) rfl ?_
  exact ⟨by rw [hV2.out]; rfl, below_3 _ _ _ _⟩
/-- a line: no byte in it ends a line -/
def oneL (l : Bs) : Bool := l.all fun b => b != 10
set_option maxHeartbeats 4000000 in
theorem oneLine_any (q : ByteArray) (hq : q.size ≤ 1099511627776) (w : World) : Calls Tryd.prog 11 #[.string q] w fun e w' => e = .returned (.bool (oneL (tl q))) ∧ Below w.heap.size w w' := by
  go_enter Tryd.func11, Tryd.ntmps11
  go_wp2_with (fail)
  go_loopw [3] (fun iv wr => ∃ i : Nat, i ≤ q.size ∧ iv = .int .i64 i ∧ Hid (wr = w) ∧ Hid (∀ b ∈ (tl q).take i, (b != 10) = true)) (fun iv _ => q.size - (intOf iv).toNat)
  case atStart => exact ⟨0, by omega, rfl, Lib.hid rfl, Lib.hid (by simp)⟩
  case round =>
    obtain ⟨i, hi, rfl, hw, hall⟩ := hrel
    obtain rfl := hw.out
    by_cases hlt : i < q.size
    · have hI : (i : Int) < q.size := by omega
      have hI0 : ¬ (i : Int) < 0 := by omega
      by_cases hc : q[i].toNat = 10
      · have f1 : (((q[i].toNat : Nat) : Int) == 10) = true := beq_iff_eq.2 (by omega)
        have hv : Hid (oneL (tl q) = false) := Lib.hid (by
          unfold oneL
          rw [Bool.eq_false_iff]
          intro h
          have h2 := List.all_eq_true.1 h _ (mem_bytes q i hlt)
          have h3 : q[i] = 10 := UInt8.toNat_inj.1 hc
          rw [h3] at h2
          cases h2)
        clear hall hc
        go_wp2_with (fail)
        go_ret
        exact ⟨by rw [hv.out]; rfl, Below.refl _ _⟩
      · have f1 : (((q[i].toNat : Nat) : Int) == 10) = false := beq_eq_false_iff_ne.2 (by omega)
        have hn : Hid (∀ b ∈ (tl q).take (i + 1), (b != 10) = true) := Lib.hid fun b hb => by
          unfold tl at hb
          rw [take_snocB q i hlt] at hb
          rcases List.mem_append.1 hb with hb | hb
          · exact hall.out b hb
          · obtain rfl : b = q[i] := by simpa using hb
            rw [bne_iff_ne]
            intro h
            exact hc (by rw [h]; rfl)
        clear hall hc
        go_wp2_with (fail)
        exact ⟨⟨i + 1, by omega, rfl, Lib.hid (by trivial), hn⟩, by simp only [intOf]; omega⟩
    · have hI : ¬ (i : Int) < q.size := by omega
      have hv : Hid (oneL (tl q) = true) := Lib.hid (by
        unfold oneL
        rw [List.all_eq_true]
        intro b hb
        exact hall.out b (by rw [List.take_of_length_le (by simp [tl]; omega)]; exact hb))
      go_wp2_with (fail)
      go_ret
      exact ⟨by rw [hv.out]; rfl, Below.refl _ _⟩
end Go.Proofs.YtjplgcmfifoefaaDoor
