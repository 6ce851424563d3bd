/- Part 1 of a proof; packed: the texts that it was made of follow one another. No condition beyond those named in each lemma. -/
import Derived.Test.YtajainmldcnaeaaPn1
import Derived.Test.YtajainmldcnaeaaPn10
import Derived.Test.YtajainmldcnaeaaPn11
import Derived.Test.YtajainmldcnaeaaPn2
import Derived.Test.YtajainmldcnaeaaPn3
import Derived.Test.YtajainmldcnaeaaPn4
import Derived.Test.YtajainmldcnaeaaPn5
import Derived.Test.YtajainmldcnaeaaPn6
import Derived.Test.YtajainmldcnaeaaPn7
import Derived.Test.YtajainmldcnaeaaPn8
import Derived.Test.YtajainmldcnaeaaPn9
import Derived.Test.YtajainmldcnaeaaProg
import Derived.BigQuiet
import Derived.BigRegion
import Derived.ChangeKeysEq
import Derived.Deep.AppendLies
import Derived.Deep.CutBlock
import Derived.Deep.DeepCutAuto
import Derived.Deep.DeepFit
import Derived.Deep.DeepMust
import Derived.Deep.Draws
import Derived.Deep.LoopGhost
import Derived.Deep.QuietTactic
import Derived.Deep.RegionHeld3
import Derived.Deep.RegionWith
import Derived.Laws.BitsAllLaws
import Derived.Laws.BitsLemmas
import Derived.Laws.CopyOwn
import Derived.Laws.OwnMore
import Derived.Laws.Pointers
import Derived.Laws.Rows
import Derived.Laws.StructEq
import Derived.Lib.Bytealg
import Derived.Lib.Hide
import Derived.Lib.IndexLaws
import Derived.Lib.IndexMore
import Derived.Lib.Strings
import Derived.Lib.Walk
import Derived.Maps.AppendAt
import Derived.Outline
import Derived.OwnWalk
import Derived.Recover
import Derived.RegionTactic
import Derived.Shelf.LaysM
import Derived.Shelf.Small.Strs
import Derived.Shelf.Strings.Search1
import Derived.Shelf.Strings.Search2
import Derived.Shelf.Strings.Search3
import Derived.Shelf.Strings.Shaped
import Derived.StillTailTactics
import Derived.WalkKit
import Derived.WalkLawsBesides
import Derived.WalkSpells
namespace Go.Proofs.Ytajainmldcnaeaa
open Go.RowKit
set_option linter.unusedVariables false
set_option linter.unusedSimpArgs false

section
variable {α : Type} {enc : α → Array Value} {size : Nat}
theorem flat_take (hs : ∀ y, (enc y).size = size) (ys : List α) (m : Nat) : (flat enc ys).take (m * size) = flat enc (ys.take m) := by
  rcases Nat.lt_or_ge m ys.length with h | h
  · have hl : (flat enc (ys.take m)).length = m * size := by rw [flat_length hs, List.length_take, Nat.min_eq_left (by omega)]
    have e : flat enc ys = flat enc (ys.take m) ++ flat enc (ys.drop m) := by rw [← flat_append, List.take_append_drop]
    rw [e, ← hl, List.take_left']
    rfl
  · rw [List.take_of_length_le h, List.take_of_length_le]
    rw [flat_length hs]
    exact Nat.mul_le_mul_right _ h
end

section
variable {α : Type} {enc : α → Array Value} {size base : Nat} {e : TypeId} {w w' : World} {v : Value} {ys : List α}
end

section
variable {P : Program} (w : World)
end
end Go.Proofs.Ytajainmldcnaeaa
namespace Go.Proofs.Ytajainmldcnaeaa
open Go.RowKit
set_option linter.unusedVariables false
set_option linter.unusedSimpArgs false

section
variable {P : Program} (w : World)
theorem append_keeps {α : Type} {enc : α → Array Value} (base : Nat) (t ty e : TypeId) (i : TypeInfo) (z : Value) (size bytes : Nat) (ht : P.underlying t = some (.slice e)) (hi : P.info? e = some i) (hz : i.zero = some z)
    (hsize : i.size = size) (hby : i.bytes = bytes) (hs : ∀ y, (enc y).size = size) (h1 : ∀ y, (enc y).all (·.oneCell') = true)
    (v : Value) (xs : List α) (hown : Own w base e size enc v xs) (B : Nat) (A : Option Addr) (m c : Nat) (ys : List α) (hm : m = ys.length) (hsz : 0 < size) (hr : SliceOf w B size enc A ys)
    (h63 : xs.length + m ≤ maxLen) (hbytes : (xs.length + m) * bytes ≤ 140737488355328)
    (v' : Value) (w' : World) (hrun : (Builtin.append_ #[t, t] ty #[v, .slice A m c]).run P w = .ok v' w') : Own w' base e size enc v xs := by
  subst hm
  rcases A with _ | ad
  · have hm : ys = [] := by
      rcases hr with h | ⟨b, off, h, _⟩
      · exact h
      · cases h
    subst hm
    rw [List.length_nil, run_append_none w base t ty e i ht hi size v _ _ hown c] at hrun
    injection hrun with _ hw
    subst hw
    exact hown
  · rcases hown.2 with ⟨rfl, h0⟩ | ⟨g, cap, cur, rfl, hbg, hg, hnc, hcm, hcs, htake⟩
    · exact ⟨hown.1, .inl ⟨rfl, h0⟩⟩
    · have hcells : ∀ j u, (flat enc ys)[j]? = some u → w.cell? (ad.add j) = some u := by
        intro j u hu
        have hj : j < ys.length * size := by
          rw [← flat_length hs]
          rcases Nat.lt_or_ge j (flat enc ys).length with h | h
          · exact h
          · rw [List.getElem?_eq_none h] at hu; cases hu
        have hpos : 0 < ys.length := by
          rcases Nat.eq_zero_or_pos ys.length with h0 | h0
          · rw [h0, Nat.zero_mul] at hj; omega
          · exact h0
        obtain ⟨b, off, e1, _, hrow⟩ := hr.at_ hpos
        injection e1 with e1
        subst e1
        have hdm : j = j / size * size + j % size := by rw [Nat.mul_comm]; exact (Nat.div_add_mod _ _).symm
        have hi2 : j / size < ys.length := Nat.div_lt_of_lt_mul (by rw [Nat.mul_comm]; exact hj)
        have hq : j % size < size := Nat.mod_lt _ hsz
        have hu' : (enc ys[j / size])[j % size]? = some u := by
          rw [← flat_at hs ys _ _ hi2 hq, ← hdm]; exact hu
        have := hrow _ hi2 _ _ hu'
        rw [addr_add]
        rw [show off + j / size * size + j % size = off + j by omega] at this
        exact this
      have hone : ∀ u ∈ flat enc ys, u.oneCell' = true := by
        intro u hu
        simp only [flat, List.mem_flatMap] at hu
        obtain ⟨y, _, hy⟩ := hu
        exact (Array.all_eq_true_iff_forall_mem.1 (h1 y)) u (by simpa using hy)
      have hl := flat_length hs ys
      subst hsize
      by_cases hroom : xs.length + ys.length ≤ cap
      · have hfit : xs.length * i.size + (flat enc ys).length ≤ cur.size := by rw [hl, hcs, ← Nat.add_mul]; exact Nat.mul_le_mul_right _ hroom
        rw [run_append_room (P := P) w t ty e i ht hi g xs.length cap cur hg ad ys.length c (flat enc ys) hl hcells hone hroom hfit] at hrun
        injection hrun with _ hw
        subst hw
        refine ⟨hown.1, .inr ⟨g, cap, _, rfl, hbg, setRow_heap w g cur _ e _ hg, hnc, hcm, ?_, ?_⟩⟩
        · simp only [List.size_toArray, List.length_append, List.length_take, List.length_drop, Array.length_toList]
          omega
        · rw [htake, List.append_assoc]
          rw [← hown.1]
          exact List.take_left' rfl
      · have holds : ∀ j u, (flat enc xs)[j]? = some u → w.cell? ((⟨g, 0, none⟩ : Addr).add j) = some u := World.ownsRow.cells hown (g := g) rfl
        have hb2 : (xs.length + ys.length) * i.bytes ≤ 140737488355328 := by rw [hby]; exact hbytes
        have hsmall : xs.length + ys.length ≤ 9223372036854775807 := by simp only [maxLen] at h63; omega
        rw [run_append_grow (P := P) w t ty e i z ht hi hz ⟨g, 0, none⟩ xs.length cap (flat enc xs) hown.1 holds ad ys.length c (flat enc ys) hl hcells (by omega) (by omega) (growslice_fits (by omega) hb2)] at hrun
        injection hrun with _ hw
        subst hw
        exact hown.drew.alloc _
end

/-- as wl_append; the old slice reads as before, too -/
theorem wl_append_keep {P : Program} {w : World} {α : Type} {enc : α → Array Value} {ops : Array Oper} {rest : List Oper} {o : Oper} {a : Act} {Q : Exit → Act → World → Prop} (hgd : o.guard = none) (s x : Operand) (t : TypeId)
    (ho : o.op = .call { callee := .builtin .append, args := #[s, x], argTypes := #[t, t] })
    (base : Nat) (e : TypeId) (i : TypeInfo) (z : Value) (size bytes : Nat) (ht : P.underlying t = some (.slice e)) (hi : P.info? e = some i) (hz : i.zero = some z)
    (hsize : i.size = size) (hby : i.bytes = bytes) (hzs : z.cells.size = size) (hsz : 0 < size) (hs : ∀ y, (enc y).size = size) (h1 : ∀ y, (enc y).all (·.oneCell') = true)
    (v : Value) (xs : List α) (hv : a.eval s = v) (hown : Own w base e size enc v xs) (B : Nat) (A : Option Addr) (m c : Nat) (ys : List α) (hx : a.eval x = .slice A m c) (hm : m = ys.length) (hr : SliceOf w B size enc A ys)
    (h63 : xs.length + m ≤ maxLen) (hbytes : (xs.length + m) * bytes ≤ 140737488355328) (hbase : base ≤ w.heap.size)
    (h : ∀ v' w', Own w' base e size enc v' (xs ++ ys) → Own w' base e size enc v xs → w.grownBy w' v.ownBlock → (v'.ownBlock = v.ownBlock ∨ v'.ownBlock = some w.heap.size) → wpList P ops Q rest (a.put o.dst v') w') : wpList P ops Q (o :: rest) a w := by
  obtain ⟨v', w', hrun, h2, h3, h4⟩ := run_append_slice (P := P) w base t o.type e i z size bytes ht hi hz hsize hby hzs hsz hs h1 v xs hown B A m c ys hm hr h63 hbytes hbase
  have h5 := append_keeps (P := P) w base t o.type e i z size bytes ht hi hz hsize hby hs h1 v xs hown B A m c ys hm hsz hr h63 hbytes v' w' hrun
  refine wpList_plain hgd fun _ hK => ?_
  unfold Oper.wp execOp
  simp only [ho, resolve, invoke, builtin, Sem.run_bind, Sem.run_pure, Result.andThen_ok, List.map_toArray, List.map_cons, List.map_nil, hv, hx, hrun]
  exact hK _ _ (h v' w' h2 h5 h3 h4)

end Go.Proofs.Ytajainmldcnaeaa
namespace Go.Proofs.Ytajainmldcnaeaa
open Go.RowKit
set_option linter.unusedVariables false
set_option linter.unusedSimpArgs false

theorem under_edges : Try.prog.underlying 49 = some (.slice (Try.prog.elem 49)) := by kernel_rfl
theorem size_edgeE (w : World) : (sizeOf (Try.prog.elem 49)).run Try.prog w = .ok 7 w := by kernel_rfl

theorem run_neq_edge (x y : Edg) (w : World) : (binOp .neq 67 (.agg (edgC x)) (.agg (edgC y))).run Try.prog w = .ok (.bool (!decide (x = y))) w := by
  rw [run_neq_struct, run_eq_edge]; rfl
section
variable {ops : Array Oper} {rest : List Oper} {o : Oper} {a : Act} {w : World} {Q : Exit → Act → World → Prop}
end

end Go.Proofs.Ytajainmldcnaeaa
namespace Go.Proofs.Ytajainmldcnaeaa
open Go.RowKit Go.Maps Go.WideMaps
set_option linter.unusedVariables false
set_option linter.unusedSimpArgs false

section
variable {P : Program} {ops : Array Oper} {S : Nat → GSpec} {Q : Exit → Act → World → Prop} {i : Nat} {o : Oper} {a : Act} {w : World}

end

section
variable {ops : Array Oper} {S : Nat → GSpec} {Q : Exit → Act → World → Prop} {i : Nat} {o : Oper} {a : Act} {w : World}
end

section
variable {P : Program} {ops : Array Oper} {S : Nat → GSpec} {Q : Exit → Act → World → Prop} {i : Nat} {o : Oper} {a : Act} {w : World}
end
section
variable {P : Program} {ops : Array Oper} {S : Nat → GSpec} {Q : Exit → Act → World → Prop} {i : Nat} {o : Oper} {a : Act} {w : World}
theorem sliced_to (ad : Addr) (m c s : Nat) : sliced (some ad) 0 m c s = .slice (some ad) m c := by
  unfold sliced
  split <;> simp [Addr.add]
theorem gs_slice_to (hw : Region.wanted o (yielded ops a.tmps) = true) (x hi : Operand) (t : TypeId) (ho : o.op = .slice t x none (some hi) none) (ht : P.underlying t = some (.slice (P.elem t))) (size : Nat) (hsz : ∀ w, (sizeOf (P.elem t)).run P w = .ok size w)
    (ad : Addr) (n c m : Nat) (hx : a.eval x = .slice (some ad) n c) (hh : a.eval hi = .int .i64 m) (hm : m ≤ c) (hp : (S i).p (.slice (some ad) m c) w) : GStep P ops S Q i o a w :=
  gs_run hw (v := .slice (some ad) m c) (by
    unfold execOp
    have e := run_slice_h (P := P) w t (some ad) n c ht .i64 (m : Int) (by omega) (by omega)
    simp only [Int.toNat_natCast, hsz, Result.andThen_ok, sliced_to] at e
    simp only [ho, Option.map_none, Option.map_some, hx, hh, Sem.run_bind, run_sliceAt_slice (P := P) w t _ _ _ _ ht, e, Result.andThen_ok, Sem.run_pure]) (Below.refl _ _) hp
end
section
variable {ops : Array Oper} {S : Nat → GSpec} {Q : Exit → Act → World → Prop} {i : Nat} {o : Oper} {a : Act} {w : World}
end

section
variable {P : Program} {ops : Array Oper} {S : Nat → GSpec} {Q : Exit → Act → World → Prop} {i : Nat} {o : Oper} {a : Act} {w : World}
end
section
variable {ops : Array Oper} {S : Nat → GSpec} {Q : Exit → Act → World → Prop} {i : Nat} {o : Oper} {a : Act} {w : World}
theorem gs_load_edge_at (hw : Region.wanted o (yielded ops a.tmps) = true) (x : Operand) (ho : o.op = .load 67 x) (b off : Nat) (hx : a.eval x = .pointer (some ⟨b, off, none⟩)) (y : Edg) (hr : RowAt w b off (edgC y))
    (hp : (S i).p (.agg (edgC y)) w) : GStep Try.prog ops S Q i o a w :=
  gs_run hw (v := .agg (edgC y)) (by unfold execOp; simp only [ho, hx, Instr.loadAt, Instr.sureAddr, Sem.run_bind, Sem.run_pure, Result.andThen_ok, run_loadVar_at w b off _ _ _ hr Try.underlying67 rfl (info_edge.trans (by rw [edgC_size]))]) (Below.refl _ _) hp
end

section
variable {P : Program} {ops : Array Oper} {S : Nat → GSpec} {Q : Exit → Act → World → Prop} {i : Nat} {o : Oper} {a : Act} {w : World}
end

section
variable {P : Program} {ops : Array Oper} {S : Nat → GSpec} {Q : Exit → Act → World → Prop} {i : Nat} {o : Oper} {a : Act} {w : World}
end

section
variable {P : Program} {ops : Array Oper} {S : Nat → GSpec} {Q : Exit → Act → World → Prop} {i : Nat} {o : Oper} {a : Act} {w : World}
end
section
variable {P : Program} {ops : Array Oper} {S : Nat → GSpec} {Q : Exit → Act → World → Prop} {i : Nat} {o : Oper} {a : Act} {w : World}
end
section
variable {ops : Array Oper} {S : Nat → GSpec} {Q : Exit → Act → World → Prop} {i : Nat} {o : Oper} {a : Act} {w : World}
end
end Go.Proofs.Ytajainmldcnaeaa
namespace Go.Proofs.Ytajainmldcnaeaa
open Go.RowKit Go.Maps Go.WideMaps
set_option linter.unusedVariables false
set_option linter.unusedSimpArgs false

section
variable {α : Type} {enc : α → Array Value} {size : Nat}
theorem flat_put (hs : ∀ y, (enc y).size = size) : ∀ (ys : List α) (k : Nat) (y' : α) (hk : k < ys.length), flat enc (ys.set k y') = (flat enc ys).take (k * size) ++ (enc y').toList ++ (flat enc ys).drop (k * size + size)
  | [], k, y', hk => by simp at hk
  | y :: ys, 0, y', hk => by
    have hf : flat enc (y :: ys) = (enc y).toList ++ flat enc ys := rfl
    have hf2 : flat enc (y' :: ys) = (enc y').toList ++ flat enc ys := rfl
    have hy : (enc y).toList.length = size := by simp [hs]
    rw [List.set_cons_zero, hf, hf2, Nat.zero_mul, List.take_zero, List.nil_append, Nat.zero_add, List.drop_left' hy]
  | y :: ys, k + 1, y', hk => by
    have hf : flat enc (y :: ys) = (enc y).toList ++ flat enc ys := rfl
    have hf2 : flat enc (y :: ys.set k y') = (enc y).toList ++ flat enc (ys.set k y') := rfl
    have hy : (enc y).toList.length = size := by simp [hs]
    have e1 : (k + 1) * size = size + k * size := by rw [Nat.add_mul]; omega
    have t1 : ((enc y).toList ++ flat enc ys).take (size + k * size) = (enc y).toList ++ (flat enc ys).take (k * size) := by
      have := List.take_length_add_append (l₁ := (enc y).toList) (l₂ := flat enc ys) (i := k * size)
      rwa [hy] at this
    have t2 : ((enc y).toList ++ flat enc ys).drop (size + k * size + size) = (flat enc ys).drop (k * size + size) := by
      have := List.drop_length_add_append (l₁ := (enc y).toList) (l₂ := flat enc ys) (i := k * size + size)
      rw [hy] at this
      rwa [Nat.add_assoc]
    rw [List.set_cons_succ, hf2, flat_put hs ys k y' (by simpa using hk), hf, e1, t1, t2]
    simp [List.append_assoc]
theorem take_put {β : Type} (l m : List β) (a b N : Nat) (h1 : a + b ≤ N) (hm : m.length = b) (hl : N ≤ l.length) : (l.take a ++ m ++ l.drop (a + b)).take N = (l.take N).take a ++ m ++ (l.take N).drop (a + b) := by
  obtain ⟨A, hA⟩ : ∃ A, A = l.take a := ⟨_, rfl⟩
  have hAl : A.length = a := by rw [hA, List.length_take]; omega
  have e1 : (l.take N).take a = A := by rw [List.take_take, Nat.min_eq_left (by omega), hA]
  have e2 : (l.take N).drop (a + b) = (l.drop (a + b)).take (N - (a + b)) := by rw [List.drop_take]
  have e3 : (A ++ m).length = a + b := by rw [List.length_append, hAl, hm]
  rw [e1, e2, ← hA]
  have := List.take_length_add_append (l₁ := A ++ m) (l₂ := l.drop (a + b)) (i := N - (a + b))
  rw [e3, show a + b + (N - (a + b)) = N by omega] at this
  exact this
theorem wl_store_own {P : Program} {base : Nat} {e : TypeId} {w : World} {ys : List α} {ops : Array Oper} {rest : List Oper} {o : Oper} {a : Act} {Q : Exit → Act → World → Prop} (hgd : o.guard = none) (ty : TypeId) (x y : Operand) (ho : o.op = .store ty x y)
    (g k n cap : Nat) (hx : a.eval x = .pointer (some ⟨g, k * size, none⟩)) (z : α) (hy : a.eval y = .agg (enc z)) (hs : ∀ y, (enc y).size = size) (h1 : ∀ y, (enc y).all (·.oneCell') = true) (hi : (P.info? ty).map (·.size) = some size)
    (hown : Own w base e size enc (.slice (some ⟨g, 0, none⟩) n cap) ys) (hk : k < ys.length)
    (h : ∀ w', Own w' base e size enc (.slice (some ⟨g, 0, none⟩) n cap) (ys.set k z) → w.grownBy w' (some g) → wpList P ops Q rest (a.put o.dst undef) w') : wpList P ops Q (o :: rest) a w := by
  rcases hown.2 with ⟨hv, _⟩ | ⟨g', cap', cur, hv, hbg, hg, hnc, hcm, hcs, htake⟩
  · cases hv
  · injection hv with e1 e2 e3
    injection e1 with e1
    injection e1 with e1
    subst e1 e2 e3
    have hlt : k * size + size ≤ ys.length * size := by
      have : (k + 1) * size ≤ ys.length * size := Nat.mul_le_mul_right _ (by omega)
      rw [Nat.add_mul] at this; omega
    have hle : ys.length * size ≤ cap * size := Nat.mul_le_mul_right _ hnc
    have hz : (enc z).toList.length = size := by simp [hs]
    have hone : ∀ u ∈ (enc z).toList, u.oneCell' = true := fun u hu => (Array.all_eq_true_iff_forall_mem.1 (h1 z)) u (by simpa using hu)
    have hst := run_storeCells_at P g (k * size) e (enc z).toList 0 cur w hg (by omega) hone
    simp only [Nat.add_zero] at hst
    have hrun : (storeVar ty ⟨g, k * size, none⟩ (.agg (enc z))).run P w = .ok () (w.setRow g (cur.toList.take (k * size) ++ (enc z).toList ++ cur.toList.drop (k * size + (enc z).toList.length)).toArray) := by
      cases hq : P.info? ty with
      | none => simp [hq] at hi
      | some j =>
        have hj : j.size = size := by simpa [hq] using hi
        have hsz : (enc z).size = size := hs z
        simp [storeVar, sizeOf, typeInfo, hq, hj, Value.cells, hsz]
        simpa [hsz] using hst
    refine wpList_plain hgd fun _ hK => ?_
    unfold Oper.wp execOp
    simp only [ho, hx, hy, Instr.storeAt, Instr.sureAddr, Sem.run_bind, Sem.run_pure, Result.andThen_ok, hrun]
    refine hK _ _ (h _ ?_ (only_setRow (only_refl _ _) _))
    unfold Own
    rw [List.length_set]
    refine ⟨by rw [flat_length hs, List.length_set], .inr ⟨g, cap, _, rfl, hbg, setRow_heap w g cur _ e _ hg, hnc, hcm, ?_, ?_⟩⟩
    · simp only [List.size_toArray, List.length_append, List.length_take, List.length_drop, Array.length_toList, hz]
      omega
    · have hcl : cur.toList.length = cap * size := by simpa using hcs
      rw [flat_put hs ys k z hk, ← htake, hz]
      exact take_put cur.toList (enc z).toList (k * size) size _ hlt hz (by omega)
end

theorem build_nfa (s : Int) (A : Option Addr) (n c : Nat) (B : Option Addr) (m d : Nat) (w : World) : (Instr.build 52 #[(0, .int .i64 s), (1, .slice A n c), (2, .slice B m d)]).run Try.prog w = .ok (.agg (nfaC s A n c B m d)) w := by kernel_rfl
section
variable {ops : Array Oper} {rest : List Oper} {o : Oper} {a : Act} {w : World} {Q : Exit → Act → World → Prop}
end
def m5 : BSet := 5 + 5 * 2 ^ 64 + 5 * 2 ^ 128 + 5 * 2 ^ 192
section
variable {ops : Array Oper} {S : Nat → GSpec} {Q : Exit → Act → World → Prop} {i : Nat} {o : Oper} {a : Act} {w : World}
theorem gs_build_nfa (hw : Region.wanted o (yielded ops a.tmps) = true) (x y z : Operand) (ho : o.op = .build 52 #[(0, x), (1, y), (2, z)]) (s : Int) (A : Option Addr) (n c : Nat) (B : Option Addr) (m d : Nat)
    (hx : a.eval x = .int .i64 s) (hy : a.eval y = .slice A n c) (hz : a.eval z = .slice B m d) (hp : (S i).p (.agg (nfaC s A n c B m d)) w) : GStep Try.prog ops S Q i o a w :=
  gs_run hw (v := .agg (nfaC s A n c B m d))
    (by
      have e : (#[(0, x), (1, y), (2, z)] : Array (Nat × Operand)).map (fun (i, x) => (i, a.eval x)) = #[(0, .int .i64 s), (1, .slice A n c), (2, .slice B m d)] := by simp [hx, hy, hz]
      unfold execOp; simp only [ho, e, Sem.run_bind, build_nfa, Result.andThen_ok, Sem.run_pure])
    (Below.refl _ _) hp
end
/-- a block made by the region, from block b0 on -/
def newS (b0 : Nat) (t : TypeId) (cs : Array Value) : GSpec :=
  ⟨fun v w => ∃ g, v = .pointer (some ⟨g, 0, none⟩) ∧ b0 ≤ g ∧ Blk w g t cs, fun v w w' ⟨g, h1, h2, h3⟩ hb => ⟨g, h1, h2, blk_then h3 hb⟩⟩
theorem alloc_nfa (w : World) : (Instr.alloc 52 true (.tuple #[])).run Try.prog w = .ok (.pointer (some ⟨w.heap.size, 0, none⟩)) (w.alloc (.cells (nfaC 0 none 0 0 none 0 0) 52)) := by kernel_rfl
section
variable {ops : Array Oper} {S : Nat → GSpec} {Q : Exit → Act → World → Prop} {i : Nat} {o : Oper} {a : Act} {w : World}
end
end Go.Proofs.Ytajainmldcnaeaa
namespace Go.Proofs.Ytajainmldcnaeaa
open Go.RowKit Go.Maps
set_option linter.unusedVariables false
set_option linter.unusedSimpArgs false
attribute [local go_sem] Oper.semAt_some

section
variable {ops : Array Oper} {rest : List Oper} {o : Oper} {a : Act} {w : World} {Q : Exit → Act → World → Prop}
theorem ret_nfa1 {fn : Func} {p : Tmp} {g : Nat} {s : Int} {A : Option Addr} {n c : Nat} {B : Option Addr} {m d : Nat} (hres : fn.results = #[.cell p 52])
    (hp : a.tmps.getD p undef = .pointer (some ⟨g, 0, none⟩)) (hb : Blk w g 52 (nfaC s A n c B m d))
    (hdf : a.defers = []) {R : Ending → World → Prop} (hR : R (.returned (.agg (nfaC s A n c B m d))) w) : bodyPost Try.prog fn R .ret a w :=
  ret_cell hres _ hp hb Try.underlying52 rfl (info_nfaN.trans rfl) hdf hR
end
end Go.Proofs.Ytajainmldcnaeaa
namespace Go.Proofs.Ytajainmldcnaeaa
open Go.RowKit Go.Maps
set_option linter.unusedVariables false
set_option linter.unusedSimpArgs false
attribute [local go_sem] Oper.semAt_some

theorem gs_neq_edge {ops : Array Oper} {S : Nat → GSpec} {Q : Exit → Act → World → Prop} {i : Nat} {o : Oper} {a : Act} {w : World} (hw : Region.wanted o (yielded ops a.tmps) = true) (x y : Operand) (t2 : TypeId) (ho : o.op = .binOp .neq 67 x y t2) (p q : Edg) (hx : a.eval x = .agg (edgC p)) (hy : a.eval y = .agg (edgC q))
    (hp : (S i).p (.bool (!decide (p = q))) w) : GStep Try.prog ops S Q i o a w :=
  gs_bin hw _ _ _ x y ho _ _ _ hx hy (run_eqGuard_agg w _ _ _ _ _ _ guard_edge) (run_neq_edge p q w) hp
set_option maxRecDepth 100000 in
set_option maxHeartbeats 4000000 in
theorem same_any (s : Int) (A A2 : Option Addr) (n c c2 : Nat) (B B2 : Option Addr) (m d d2 : Nat) (E : List Edg) (R : List Nat) (hn : n = E.length) (hm : m = R.length) (hE : E.length ≤ 2199023255552) (hRl : R.length ≤ 2199023255552) (w : World)
    (hsA : SliceOf w w.heap.size 7 edgC A E) (hsA2 : SliceOf w w.heap.size 7 edgC A2 E) (hsR : SliceOf w w.heap.size 1 encR B R) (hsR2 : SliceOf w w.heap.size 1 encR B2 R) :
    Calls Try.prog 54 #[.agg (nfaC s A n c B m d), .agg (nfaC s A2 n c2 B2 m d2)] w fun e w' => e = .returned (.bool true) ∧ Below w.heap.size w w' := by
  have hn2 : n ≤ 2199023255552 := by omega
  have hm2 : m ≤ 2199023255552 := by omega
  have Hn := Lib.hid hn
  have Hm := Lib.hid hm
  clear hn hm
  go_enter Try.func54, Try.ntmps54
  have h2 := (Blk.new w 52 (nfaC s A n c B m d)).alloc (.cells (nfaC s A2 n c2 B2 m d2) 52)
  have h3 : Blk ((w.alloc (.cells (nfaC s A n c B m d) 52)).alloc (.cells (nfaC s A2 n c2 B2 m d2) 52)) (w.heap.size + 1) 52 (nfaC s A2 n c2 B2 m d2) := Blk.new' _ _ _ (by simp)
  have hB1 := below_alloc (below_alloc (Below.refl w.heap.size w) (.cells (nfaC s A n c B m d) 52)) (.cells (nfaC s A2 n c2 B2 m d2) 52)
  go_upto_region 1 with (fail)
  obtain ⟨w1, hw1⟩ : ∃ y, y = (w.alloc (.cells (nfaC s A n c B m d) 52)).alloc (.cells (nfaC s A2 n c2 B2 m d2) 52) := ⟨_, rfl⟩
  rw [← hw1] at h2 h3 hB1 ⊢
  clear hw1
  have c20 : w1.cell? ⟨w.heap.size, 0, none⟩ = some (.int .i64 s) := h2.cellv (i := 0) rfl
  have c21 : w1.cell? ⟨w.heap.size, 1, none⟩ = some (.slice A n c) := h2.cellv (i := 1) rfl
  have c22 : w1.cell? ⟨w.heap.size, 2, none⟩ = some (.slice B m d) := h2.cellv (i := 2) rfl
  have c30 : w1.cell? ⟨w.heap.size + 1, 0, none⟩ = some (.int .i64 s) := h3.cellv (i := 0) rfl
  have c31 : w1.cell? ⟨w.heap.size + 1, 1, none⟩ = some (.slice A2 n c2) := h3.cellv (i := 1) rfl
  have c32 : w1.cell? ⟨w.heap.size + 1, 2, none⟩ = some (.slice B2 m d2) := h3.cellv (i := 2) rfl
  go_wp2_with (fail)
  clear c20 c21 c22 c30 c31 c32
  go_loopw [5] (fun iv wr => ∃ j : Nat, j ≤ n ∧ iv = .int .i64 j ∧ Below w1.heap.size w1 wr) (fun iv _ => n - (intOf iv).toNat)
  case atStart => exact ⟨0, by omega, rfl, Below.refl _ _⟩
  case round =>
    obtain ⟨j, hj, rfl, hBw⟩ := hrel
    replace h2 := blk_then h2 hBw
    replace h3 := blk_then h3 hBw
    have c21 : wr.cell? ⟨w.heap.size, 1, none⟩ = some (.slice A n c) := h2.cellv (i := 1) rfl
    by_cases hjl : j < n
    · have hjI : (j : Int) < n := by omega
      have hjE : j < E.length := by rw [← Hn.out]; exact hjl
      obtain ⟨bA, oA, rfl, hbA, hrA⟩ := hsA.at_ (by omega)
      obtain ⟨bA2, oA2, rfl, hbA2, hrA2⟩ := hsA2.at_ (by omega)
      obtain ⟨dd, hd⟩ : ∃ d, d = E[j] := ⟨_, rfl⟩
      have hx1 : ∀ {X : World}, Below wr.heap.size wr X → RowAt X bA (oA + j * 7) (edgC dd) := fun hb => by
        have := (hrA j hjE).keep ((below_then (below_then hB1 hBw) hb).block bA hbA)
        rw [← hd] at this
        exact this
      have hx2 : ∀ {X : World}, Below wr.heap.size wr X → RowAt X bA2 (oA2 + j * 7) (edgC dd) := fun hb => by
        have := (hrA2 j hjE).keep ((below_then (below_then hB1 hBw) hb).block bA2 hbA2)
        rw [← hd] at this
        exact this
      have hjb : j < 2199023255552 := by omega
      clear hd
      go_upto_region 6 with (fail)
      clear c21
      refine wp_region_steps 11 [eqS (.pointer (some ⟨w.heap.size, 1, none⟩)), eqS (.slice (some ⟨bA, oA, none⟩) n c), eqS (.int .i64 ((j : Int))), eqS (.pointer (some ⟨bA, oA + j * 7, none⟩)), eqS (.agg (edgC dd)), eqS (.pointer (some ⟨(w.heap.size + 1), 1, none⟩)), eqS (.slice (some ⟨bA2, oA2, none⟩) n c2), eqS (.int .i64 ((j : Int))), eqS (.pointer (some ⟨bA2, oA2 + j * 7, none⟩)), eqS (.agg (edgC dd)), eqS (.bool false)] [37, 38, 39, 40, 41, 42, 43, 44, 45, 46, 47] rfl (by kernel_rfl) rfl ?_ ?_
      · skip
        refine Steps.cons (fun a' w' hG hB dep => gs_field (want_none rfl) _ _ _ rfl w.heap.size (0) (1) (hG.other 2 rfl) (fun wz => field_nfa_1 w.heap.size (0) wz) rfl) ?_
        refine Steps.cons (fun a' w' hG hB dep => gs_load1 (want_none rfl) _ _ rfl w.heap.size (1) (dep 0 rfl 37 rfl) (.slice (some ⟨bA, oA, none⟩) n c) ((blk_then h2 hB).cellv (i := 1) rfl) _ Try.underlying49 rfl rfl) ?_
        refine Steps.cons (fun a' w' hG hB dep => gs_move (want_none rfl) _ rfl (id (hG.other 5 rfl))) ?_
        refine Steps.cons (fun a' w' hG hB dep => gs_index (want_none rfl) _ _ _ rfl under_edges 7 size_edgeE bA oA n c (j) (dep 1 rfl 38 rfl) (dep 2 rfl 39 rfl) hjl rfl) ?_
        refine Steps.cons (fun a' w' hG hB dep => gs_load_edge_at (want_none rfl) _ rfl bA (oA + j * 7) (dep 3 rfl 40 rfl) _ (hx1 hB) rfl) ?_
        refine Steps.cons (fun a' w' hG hB dep => gs_field (want_none rfl) _ _ _ rfl (w.heap.size + 1) (0) (1) (hG.other 3 rfl) (fun wz => field_nfa_1 (w.heap.size + 1) (0) wz) rfl) ?_
        refine Steps.cons (fun a' w' hG hB dep => gs_load1 (want_none rfl) _ _ rfl (w.heap.size + 1) (1) (dep 5 rfl 42 rfl) (.slice (some ⟨bA2, oA2, none⟩) n c2) ((blk_then h3 hB).cellv (i := 1) rfl) _ Try.underlying49 rfl rfl) ?_
        refine Steps.cons (fun a' w' hG hB dep => gs_move (want_none rfl) _ rfl (id (hG.other 5 rfl))) ?_
        refine Steps.cons (fun a' w' hG hB dep => gs_index (want_none rfl) _ _ _ rfl under_edges 7 size_edgeE bA2 oA2 n c2 (j) (dep 6 rfl 43 rfl) (dep 7 rfl 44 rfl) hjl rfl) ?_
        refine Steps.cons (fun a' w' hG hB dep => gs_load_edge_at (want_none rfl) _ rfl bA2 (oA2 + j * 7) (dep 8 rfl 45 rfl) _ (hx2 hB) rfl) ?_
        refine Steps.cons (fun a' w' hG hB dep => gs_neq_edge (want_none rfl) _ _ _ rfl _ _ (dep 4 rfl 41 rfl) (dep 9 rfl 46 rfl) (id (congrArg Value.bool (by rw [decide_eq_true rfl]; rfl)))) ?_
        exact Steps.nil
      intro u w5 hB5 ans
      have hus : u 47 = .bool false := ans 10 47 (by decide) rfl
      clear ans
      simp only [putAll, List.foldl_cons, List.foldl_nil, Act.put, List.setIfInBounds_toArray, List.set_cons_zero, List.set_cons_succ, hus]
      clear hus
      simp only [List.drop]
      refine wpList_nil ?_
      have hBw2 := below_then hBw hB5
      clear hx1 hx2 hB5
      go_wp2_with (fail)
      exact ⟨⟨j + 1, by omega, rfl, hBw2⟩, by simp only [intOf]; omega⟩
    · have hjI : ¬ (j : Int) < n := by omega
      go_wp2_with (fail)
      clear c21
      obtain ⟨W2, hW2⟩ : ∃ y, y = wr := ⟨_, rfl⟩
      rw [← hW2] at h2 h3 hBw ⊢
      clear hW2
      go_loopw [6] (fun iv wr => ∃ j : Nat, j ≤ m ∧ iv = .int .i64 j ∧ Below W2.heap.size W2 wr) (fun iv _ => m - (intOf iv).toNat)
      case atStart => exact ⟨0, by omega, rfl, Below.refl _ _⟩
      case round =>
        clear hj hjl hjI
        obtain ⟨j, hj, rfl, hBq⟩ := hrel
        replace h2 := blk_then h2 hBq
        replace h3 := blk_then h3 hBq
        replace hBw := below_then hBw hBq
        have c22 : wr.cell? ⟨w.heap.size, 2, none⟩ = some (.slice B m d) := h2.cellv (i := 2) rfl
        by_cases hjl : j < m
        · have hjI : (j : Int) < m := by omega
          have hjE : j < R.length := by rw [← Hm.out]; exact hjl
          obtain ⟨bR, oR, rfl, hbR, hrR⟩ := hsR.at_ (by omega)
          obtain ⟨bR2, oR2, rfl, hbR2, hrR2⟩ := hsR2.at_ (by omega)
          obtain ⟨dd, hd⟩ : ∃ d, d = R[j] := ⟨_, rfl⟩
          have hx1 : ∀ {X : World}, Below wr.heap.size wr X → X.cell? ⟨bR, oR + j * 1, none⟩ = some (.int .u32 (dd : Nat)) := fun hb => by
            have := ((hrR j hjE).keep ((below_then (below_then hB1 hBw) hb).block bR hbR)) 0 _ rfl
            rw [← hd] at this
            exact this
          have hx2 : ∀ {X : World}, Below wr.heap.size wr X → X.cell? ⟨bR2, oR2 + j * 1, none⟩ = some (.int .u32 (dd : Nat)) := fun hb => by
            have := ((hrR2 j hjE).keep ((below_then (below_then hB1 hBw) hb).block bR2 hbR2)) 0 _ rfl
            rw [← hd] at this
            exact this
          have hjb : j < 2199023255552 := by omega
          clear hd
          go_upto_region 11 with (fail)
          clear c22
          refine wp_region_steps 11 [eqS (.pointer (some ⟨w.heap.size, 2, none⟩)), eqS (.slice (some ⟨bR, oR, none⟩) m d), eqS (.int .i64 ((j : Int))), eqS (.pointer (some ⟨bR, oR + j * 1, none⟩)), eqS (.int .u32 ((dd : Nat))), eqS (.pointer (some ⟨(w.heap.size + 1), 2, none⟩)), eqS (.slice (some ⟨bR2, oR2, none⟩) m d2), eqS (.int .i64 ((j : Int))), eqS (.pointer (some ⟨bR2, oR2 + j * 1, none⟩)), eqS (.int .u32 ((dd : Nat))), eqS (.bool false)] [55, 56, 57, 58, 59, 60, 61, 62, 63, 64, 65] rfl (by kernel_rfl) rfl ?_ ?_
          · skip
            refine Steps.cons (fun a' w' hG hB dep => gs_field (want_none rfl) _ _ _ rfl w.heap.size (0) (2) (hG.other 2 rfl) (fun wz => field_nfa_2 w.heap.size (0) wz) rfl) ?_
            refine Steps.cons (fun a' w' hG hB dep => gs_load1 (want_none rfl) _ _ rfl w.heap.size (2) (dep 0 rfl 55 rfl) (.slice (some ⟨bR, oR, none⟩) m d) ((blk_then h2 hB).cellv (i := 2) rfl) _ Try.underlying50 rfl rfl) ?_
            refine Steps.cons (fun a' w' hG hB dep => gs_move (want_none rfl) _ rfl (id (hG.other 6 rfl))) ?_
            refine Steps.cons (fun a' w' hG hB dep => gs_index (want_none rfl) _ _ _ rfl under_rules 1 size_ruleE bR oR m d (j) (dep 1 rfl 56 rfl) (dep 2 rfl 57 rfl) hjl rfl) ?_
            refine Steps.cons (fun a' w' hG hB dep => gs_load1 (want_none rfl) _ _ rfl bR (oR + j * 1) (dep 3 rfl 58 rfl) (.int .u32 ((dd : Nat))) (hx1 hB) _ Try.underlying57 rfl rfl) ?_
            refine Steps.cons (fun a' w' hG hB dep => gs_field (want_none rfl) _ _ _ rfl (w.heap.size + 1) (0) (2) (hG.other 3 rfl) (fun wz => field_nfa_2 (w.heap.size + 1) (0) wz) rfl) ?_
            refine Steps.cons (fun a' w' hG hB dep => gs_load1 (want_none rfl) _ _ rfl (w.heap.size + 1) (2) (dep 5 rfl 60 rfl) (.slice (some ⟨bR2, oR2, none⟩) m d2) ((blk_then h3 hB).cellv (i := 2) rfl) _ Try.underlying50 rfl rfl) ?_
            refine Steps.cons (fun a' w' hG hB dep => gs_move (want_none rfl) _ rfl (id (hG.other 6 rfl))) ?_
            refine Steps.cons (fun a' w' hG hB dep => gs_index (want_none rfl) _ _ _ rfl under_rules 1 size_ruleE bR2 oR2 m d2 (j) (dep 6 rfl 61 rfl) (dep 7 rfl 62 rfl) hjl rfl) ?_
            refine Steps.cons (fun a' w' hG hB dep => gs_load1 (want_none rfl) _ _ rfl bR2 (oR2 + j * 1) (dep 8 rfl 63 rfl) (.int .u32 ((dd : Nat))) (hx2 hB) _ Try.underlying57 rfl rfl) ?_
            refine Steps.cons (fun a' w' hG hB dep => gs_neq_int (want_none rfl) _ _ _ _ rfl _ _ _ (dep 4 rfl 59 rfl) (dep 9 rfl 64 rfl) (id (congrArg Value.bool (bne_self_eq_false _)))) ?_
            exact Steps.nil
          intro u w5 hB5 ans
          have hus : u 65 = .bool false := ans 10 65 (by decide) rfl
          clear ans
          simp only [putAll, List.foldl_cons, List.foldl_nil, Act.put, List.setIfInBounds_toArray, List.set_cons_zero, List.set_cons_succ, hus]
          clear hus
          simp only [List.drop]
          refine wpList_nil ?_
          have hBq2 := below_then hBq hB5
          clear hx1 hx2 hB5
          go_wp2_with (fail)
          exact ⟨⟨j + 1, by omega, rfl, hBq2⟩, by simp only [intOf]; omega⟩
        · have hjI : ¬ (j : Int) < m := by omega
          go_wp2_with (fail)
          go_ret
          exact ⟨rfl, below_then hB1 hBw⟩
end Go.Proofs.Ytajainmldcnaeaa
namespace Go.Proofs.Ytajainmldcnaeaa
open Go.RowKit Go.Maps
set_option linter.unusedVariables false
set_option linter.unusedSimpArgs false
attribute [local go_sem] Oper.semAt_some

theorem own_empty {α : Type} {enc : α → Array Value} {size base : Nat} {e : TypeId} {w : World} (hb : base ≤ w.heap.size) : Own (w.alloc (.cells #[] e)) base e size enc (.slice (some ⟨w.heap.size, 0, none⟩) 0 0) ([] : List α) :=
  ⟨by simp [flat], .inr ⟨w.heap.size, 0, #[], rfl, hb, heap_alloc_new w _, Nat.le_refl _, by unfold maxLen; omega, by simp, by simp [flat]⟩⟩
theorem run_b0e (w : World) : (Instr.buildSlice 49 0 #[]).run Try.prog w = .ok (.slice (some ⟨w.heap.size, 0, none⟩) 0 0) (w.alloc (.cells #[] 67)) := by kernel_rfl
theorem run_b0r (w : World) : (Instr.buildSlice 50 0 #[]).run Try.prog w = .ok (.slice (some ⟨w.heap.size, 0, none⟩) 0 0) (w.alloc (.cells #[] 57)) := by kernel_rfl
theorem run_buildE77 (w : World) : (Instr.build 67 #[(0, .int .i64 77)]).run Try.prog w = .ok (.agg (edgC edge77)) w := by kernel_rfl
theorem run_bs77 (w : World) : (Instr.buildSlice 50 1 #[(0, .int .u32 77)]).run Try.prog w = .ok (.slice (some ⟨w.heap.size, 0, none⟩) 1 1) (w.alloc (.cells (encR 77) 57)) := by kernel_rfl
section
variable {ops : Array Oper} {rest : List Oper} {o : Oper} {a : Act} {w : World} {Q : Exit → Act → World → Prop}
theorem wl_b0e (hgd : o.guard = none) (ho : o.op = .buildSlice 49 0 #[]) (h : wpList Try.prog ops Q rest (a.put o.dst (.slice (some ⟨w.heap.size, 0, none⟩) 0 0)) (w.alloc (.cells #[] 67))) : wpList Try.prog ops Q (o :: rest) a w :=
  wl_run hgd (v := .slice (some ⟨w.heap.size, 0, none⟩) 0 0) (by unfold execOp; simp only [ho, List.map_toArray, List.map_nil, Sem.run_bind, run_b0e, Result.andThen_ok, Sem.run_pure]) h
theorem wl_b0r (hgd : o.guard = none) (ho : o.op = .buildSlice 50 0 #[]) (h : wpList Try.prog ops Q rest (a.put o.dst (.slice (some ⟨w.heap.size, 0, none⟩) 0 0)) (w.alloc (.cells #[] 57))) : wpList Try.prog ops Q (o :: rest) a w :=
  wl_run hgd (v := .slice (some ⟨w.heap.size, 0, none⟩) 0 0) (by unfold execOp; simp only [ho, List.map_toArray, List.map_nil, Sem.run_bind, run_b0r, Result.andThen_ok, Sem.run_pure]) h
theorem wl_build77 (hgd : o.guard = none) (ho : o.op = .build 67 #[(0, .const (.int .i64 77))])
    (h : wpList Try.prog ops Q rest (a.put o.dst (.agg (edgC edge77))) w) : wpList Try.prog ops Q (o :: rest) a w := by
  refine wpList_plain hgd fun _ hK => ?_
  unfold Oper.wp execOp
  have e : (#[(0, Operand.const (Value.int .i64 77))].map fun p : Nat × Operand => (p.1, a.eval p.2)) = #[(0, Value.int .i64 77)] := by simp; rfl
  simp only [ho, e, Sem.run_bind, run_buildE77, Result.andThen_ok, Sem.run_pure]
  exact hK _ _ h
theorem wl_bs77 (hgd : o.guard = none) (ho : o.op = .buildSlice 50 1 #[(0, .const (.int .u32 77))])
    (h : wpList Try.prog ops Q rest (a.put o.dst (.slice (some ⟨w.heap.size, 0, none⟩) 1 1)) (w.alloc (.cells (encR 77) 57))) : wpList Try.prog ops Q (o :: rest) a w := by
  refine wpList_plain hgd fun _ hK => ?_
  unfold Oper.wp execOp
  have e : (#[(0, Operand.const (Value.int .u32 77))].map fun p : Nat × Operand => (p.1, a.eval p.2)) = #[(0, Value.int .u32 77)] := by simp; rfl
  simp only [ho, e, Sem.run_bind, run_bs77, Result.andThen_ok, Sem.run_pure]
  exact hK _ _ h
end
set_option maxRecDepth 100000 in
set_option maxHeartbeats 8000000 in
theorem copied_any (F : NF) (A : Option Addr) (n c : Nat) (B : Option Addr) (m d : Nat) (hn : n = F.E.length) (hm : m = F.R.length) (hE : F.E.length ≤ 1048576) (hRl : F.R.length ≤ 1048576) (w : World)
    (hsE : SliceOf w w.heap.size 7 edgC A F.E) (hsR : SliceOf w w.heap.size 1 encR B F.R) :
    Calls Try.prog 34 #[.agg (nfaC F.s A n c B m d)] w fun e w' => Below w.heap.size w w' ∧ ∃ x : CP, x.F = F ∧ e = .returned (.agg x.C) ∧ x.In w' w.heap.size := by
  obtain ⟨s, E, R⟩ := F
  simp only at hn hm hE hRl hsE hsR
  have hn2 : n ≤ 1048576 := by omega
  have hm2 : m ≤ 1048576 := by omega
  have Hn := Lib.hid hn
  have Hm := Lib.hid hm
  clear hn hm
  go_enter Try.func34, Try.ntmps34
  have h1 := (Blk.new w 52 (nfaC s A n c B m d)).alloc (.cells #[.int .i64 0, .slice none 0 0, .slice none 0 0] 52)
  have h2 : Blk ((w.alloc (.cells (nfaC s A n c B m d) 52)).alloc (.cells #[.int .i64 0, .slice none 0 0, .slice none 0 0] 52)) (w.heap.size + 1) 52 (nfaC 0 none 0 0 none 0 0) := Blk.new' _ _ _ (by simp)
  have hB1 := below_alloc (below_alloc (Below.refl w.heap.size w) (.cells (nfaC s A n c B m d) 52)) (.cells #[.int .i64 0, .slice none 0 0, .slice none 0 0] 52)
  go_upto_region 1 with (fail)
  obtain ⟨w1, hw1⟩ : ∃ y, y = (w.alloc (.cells (nfaC s A n c B m d) 52)).alloc (.cells #[.int .i64 0, .slice none 0 0, .slice none 0 0] 52) := ⟨_, rfl⟩
  rw [← hw1] at h1 h2 hB1 ⊢
  clear hw1
  have hl2 := h2.lt
  obtain ⟨ie, hie, hye0, hye1, hye2⟩ := info_parts info_edge3
  obtain ⟨iu, hiu, hyu0, hyu1, hyu2⟩ := info_parts info_r3
  have hcells : ∀ X : World, Below w1.heap.size w1 X → X.cell? ⟨w.heap.size, 1, none⟩ = some (.slice A n c) := fun X hb => (blk_then h1 hb).cellv (i := 1) rfl
  have hcells2 : ∀ X : World, Below w1.heap.size w1 X → X.cell? ⟨w.heap.size, 2, none⟩ = some (.slice B m d) := fun X hb => (blk_then h1 hb).cellv (i := 2) rfl
  have HC1 := Lib.hid hcells
  have HC2 := Lib.hid hcells2
  clear hcells hcells2
  have hBa : Below w1.heap.size w1 (w1.alloc (.cells #[] 67)) := below_alloc (Below.refl _ _) _
  have c1 := HC1.out _ hBa
  have o1 := own_empty (α := Edg) (enc := edgC) (size := 7) (e := 67) (base := w1.heap.size) (w := w1) (Nat.le_refl _)
  go_upto_region 2 with (first | (refine wl_b0e rfl rfl ?_) | (at_builtin; refine park ?_))
  refine Parked.mk ?_
  have hsE2 := hsE.keep (w' := w1.alloc (.cells #[] 67)) (fun k hk => (hBa.block k (by have := hB1.size; omega)).trans (hB1.block k hk))
  refine wl_append _ rfl _ _ 49 rfl w1.heap.size 67 ie _ 7 56 Try.underlying49 hie hye0 hye1 hye2 rfl (by decide) edgC_size edgC_one _ [] rfl o1 _ A n c E rfl Hn.out hsE2 (by simp only [List.length_nil]; unfold maxLen; omega) (by simp only [List.length_nil]; omega) hBa.size ?_
  intro v3 w3 hs3 hg3 _
  rw [List.nil_append] at hs3
  have hB3 : Below w1.heap.size w1 w3 := hBa.grown hg3 hBa.size (fun q e => (o1.lt q e).1)
  clear hg3 c1 hsE2 o1 hBa
  obtain ⟨A3, k3, rfl, _, _⟩ := hs3.shape
  simp only [Act.put, List.setIfInBounds_toArray, List.set_cons_zero, List.set_cons_succ]
  go_upto_region 2 with (first
    | (refine wl_build77 rfl rfl ?_)
    | (refine wl_one (d := edge77) rfl _ rfl rfl ?_)
    | (at_builtin; refine park ?_))
  refine Parked.mk ?_
  have hB4 : Below w3.heap.size w3 (w3.alloc (.cells (edgC edge77) 67)) := below_alloc (Below.refl _ _) _
  have hs4 := hs3.then_ hB4
  have hz3 := hB3.size
  have hz4 := hB4.size
  refine wl_append _ rfl _ _ 49 rfl w1.heap.size 67 ie _ 7 56 Try.underlying49 hie hye0 hye1 hye2 rfl (by decide) edgC_size edgC_one (.slice A3 _ k3) E rfl hs4 _ _ 1 1 [edge77] rfl rfl (slice_one (enc := edgC) (Blk.new w3 _ _)) (by unfold maxLen; omega) (by omega) (by omega) ?_
  intro v5 w5 hs5 hg5 _
  have hB5 : Below w1.heap.size w1 w5 := (below_then hB3 hB4).grown hg5 (by omega) (fun q e => (hs4.lt q e).1)
  clear hg5 hB4 hs4 hs3 hB3 hz3 hz4
  obtain ⟨ge, ce, rfl, hge, hgel, hce, _⟩ := hs5.form (by simp)
  have hlE : (E ++ [edge77]).length = n + 1 := by rw [List.length_append, ← Hn.out]; rfl
  rw [hlE] at hs5 hce ⊢
  have hz5 := hB5.size
  clear hlE
  simp only [Act.put, List.setIfInBounds_toArray, List.set_cons_zero, List.set_cons_succ]
  go_upto_region 2 with (fail)
  have hB6 : Below w5.heap.size w5 (w5.alloc (.cells #[] 57)) := below_alloc (Below.refl _ _) _
  have c2 := HC2.out _ (below_then hB5 hB6)
  have o2 := own_empty (α := Nat) (enc := encR) (size := 1) (e := 57) (base := w5.heap.size) (w := w5) (Nat.le_refl _)
  go_upto_region 3 with (first | (refine wl_b0r rfl rfl ?_) | (at_builtin; refine park ?_))
  refine Parked.mk ?_
  have hsR6 := hsR.keep (w' := w5.alloc (.cells #[] 57)) (fun k hk => (hB6.block k (by have := hB1.size; omega)).trans ((hB5.block k (by have := hB1.size; omega)).trans (hB1.block k hk)))
  refine wl_append _ rfl _ _ 50 rfl w5.heap.size 57 iu _ 1 4 Try.underlying50 hiu hyu0 hyu1 hyu2 rfl (by decide) encR_size encR_one _ [] rfl o2 _ B m d R rfl Hm.out hsR6 (by simp only [List.length_nil]; unfold maxLen; omega) (by simp only [List.length_nil]; omega) hB6.size ?_
  intro v7 w7 hr7 hg7 _
  rw [List.nil_append] at hr7
  have hB7 : Below w5.heap.size w5 w7 := hB6.grown hg7 hB6.size (fun q e => (o2.lt q e).1)
  clear hg7 c2 hsR6 o2 hB6
  obtain ⟨A7, k7, rfl, _, _⟩ := hr7.shape
  simp only [Act.put, List.setIfInBounds_toArray, List.set_cons_zero, List.set_cons_succ]
  go_upto_region 3 with (first
    | (refine wl_bs77 rfl rfl ?_)
    | (at_builtin; refine park ?_))
  refine Parked.mk ?_
  have hB8 : Below w7.heap.size w7 (w7.alloc (.cells (encR 77) 57)) := below_alloc (Below.refl _ _) _
  have hr8 := hr7.then_ hB8
  have hz7 := hB7.size
  have hz8 := hB8.size
  refine wl_append _ rfl _ _ 50 rfl w5.heap.size 57 iu _ 1 4 Try.underlying50 hiu hyu0 hyu1 hyu2 rfl (by decide) encR_size encR_one (.slice A7 _ k7) R rfl hr8 _ _ 1 1 [77] rfl rfl (slice_one (enc := encR) (Blk.new w7 _ _)) (by unfold maxLen; omega) (by omega) (by omega) ?_
  intro v9 w9 hr9 hg9 _
  have hB9 : Below w5.heap.size w5 w9 := (below_then hB7 hB8).grown hg9 (by omega) (fun q e => (hr8.lt q e).1)
  clear hg9 hB8 hr8 hr7 hB7 hz7 hz8
  obtain ⟨gu, cu, rfl, hgu, hgul, hcu, _⟩ := hr9.form (by simp)
  have hlR : (R ++ [77]).length = m + 1 := by rw [List.length_append, ← Hm.out]; rfl
  rw [hlR] at hr9 hcu ⊢
  clear hlR
  simp only [Act.put, List.setIfInBounds_toArray, List.set_cons_zero, List.set_cons_succ]
  have hB19 := below_then hB5 hB9
  have h19 := blk_then h1 hB19
  have h29 := blk_then h2 hB19
  have hs9 := hs5.then_ hB9
  have hBw9 := below_then hB1 hB19
  clear hs5 hB9 hB5 h1 h2 HC1 HC2 hB1
  go_upto_region 3 with (fail)
  refine wp_region_steps 13 [eqS (.pointer (some ⟨w.heap.size, 0, none⟩)), eqS (.int .i64 s), eqS (.slice (some ⟨ge, 0, none⟩) (n + 1) ce), eqS (.pointer (some ⟨w.heap.size, 1, none⟩)), eqS (.slice A n c), eqS (.int .i64 (n : Int)), eqS (.slice (some ⟨ge, 0, none⟩) n ce), eqS (.slice (some ⟨gu, 0, none⟩) (m + 1) cu), eqS (.pointer (some ⟨w.heap.size, 2, none⟩)), eqS (.slice B m d), eqS (.int .i64 (m : Int)), eqS (.slice (some ⟨gu, 0, none⟩) m cu), eqS (.agg (nfaC s (some ⟨ge, 0, none⟩) n ce (some ⟨gu, 0, none⟩) m cu))] [18, 19, 20, 21, 22, 23, 24, 25, 26, 27, 28, 29, 30] rfl (by kernel_rfl) rfl ?_ ?_
  · skip
    refine Steps.cons (fun a' w' hG hB dep => gs_field (want_none rfl) _ _ _ rfl w.heap.size 0 0 (hG.other 1 rfl) (fun wz => field_nfa_0 w.heap.size 0 wz) rfl) ?_
    refine Steps.cons (fun a' w' hG hB dep => gs_load1 (want_none rfl) _ _ rfl w.heap.size 0 (dep 0 rfl 18 rfl) (.int .i64 s) ((blk_then h19 hB).cellv (i := 0) rfl) _ Try.underlying3 rfl rfl) ?_
    refine Steps.cons (fun a' w' hG hB dep => gs_move (want_none rfl) _ rfl (hG.other 3 rfl)) ?_
    refine Steps.cons (fun a' w' hG hB dep => gs_field (want_none rfl) _ _ _ rfl w.heap.size 0 1 (hG.other 1 rfl) (fun wz => field_nfa_1 w.heap.size 0 wz) rfl) ?_
    refine Steps.cons (fun a' w' hG hB dep => gs_load1 (want_none rfl) _ _ rfl w.heap.size 1 (dep 3 rfl 21 rfl) (.slice A n c) ((blk_then h19 hB).cellv (i := 1) rfl) _ Try.underlying49 rfl rfl) ?_
    refine Steps.cons (fun a' w' hG hB dep => gs_len (want_none rfl) _ _ rfl under_edges _ n c (dep 4 rfl 22 rfl) rfl) ?_
    refine Steps.cons (fun a' w' hG hB dep => gs_slice_to (want_none rfl) _ _ _ rfl under_edges 7 size_edgeE ⟨ge, 0, none⟩ (n + 1) ce n (dep 2 rfl 20 rfl) (dep 5 rfl 23 rfl) (by omega) rfl) ?_
    refine Steps.cons (fun a' w' hG hB dep => gs_move (want_none rfl) _ rfl (hG.other 4 rfl)) ?_
    refine Steps.cons (fun a' w' hG hB dep => gs_field (want_none rfl) _ _ _ rfl w.heap.size 0 2 (hG.other 1 rfl) (fun wz => field_nfa_2 w.heap.size 0 wz) rfl) ?_
    refine Steps.cons (fun a' w' hG hB dep => gs_load1 (want_none rfl) _ _ rfl w.heap.size 2 (dep 8 rfl 26 rfl) (.slice B m d) ((blk_then h19 hB).cellv (i := 2) rfl) _ Try.underlying50 rfl rfl) ?_
    refine Steps.cons (fun a' w' hG hB dep => gs_len (want_none rfl) _ _ rfl under_rules _ m d (dep 9 rfl 27 rfl) rfl) ?_
    refine Steps.cons (fun a' w' hG hB dep => gs_slice_to (want_none rfl) _ _ _ rfl under_rules 1 size_ruleE ⟨gu, 0, none⟩ (m + 1) cu m (dep 7 rfl 25 rfl) (dep 10 rfl 28 rfl) (by omega) rfl) ?_
    refine Steps.cons (fun a' w' hG hB dep => gs_build_nfa (want_none rfl) _ _ _ rfl _ _ _ _ _ _ _ (dep 1 rfl 19 rfl) (dep 6 rfl 24 rfl) (dep 11 rfl 29 rfl) rfl) ?_
    exact Steps.nil
  intro uz w10 hB10 ans
  have v30 : uz 30 = .agg (nfaC s (some ⟨ge, 0, none⟩) n ce (some ⟨gu, 0, none⟩) m cu) := ans 12 30 (by decide) rfl
  clear ans
  simp only [putAll, List.foldl_cons, List.foldl_nil, Act.put, List.setIfInBounds_toArray, List.set_cons_zero, List.set_cons_succ, v30]
  clear v30
  simp only [List.drop]
  have h210 := blk_then h29 hB10
  refine wl_store_nfa rfl _ _ rfl (w.heap.size + 1) _ _ _ _ _ _ _ rfl rfl _ _ _ _ _ _ _ h210 ?_
  intro w11 h211 hg11
  have hsF := own_box (hs9.then_ hB10) h210 hg11 (by decide)
  have hrF := own_box (hr9.then_ hB10) h210 hg11 (by decide)
  have hBe := (below_then hBw9 hB10).grown hg11 (by have := hBw9.size; have := hB10.size; omega) (fun j e => by injection e with e; omega)
  clear hs9 hr9 h29 h210 h19 hB10 hg11
  refine wpList_nil ?_
  go_wp2_with (fail)
  refine ret_nfa1 rfl rfl h211 rfl ?_
  refine ⟨hBe, ⟨⟨s, E, R⟩, ge, ce, gu, cu⟩, rfl, ?_, ?_, ?_⟩
  · rw [Hn.out, Hm.out]; rfl
  · have := hsF.mono (base' := w.heap.size) (by omega)
    rw [Hn.out] at this
    exact this
  · have := hrF.mono (base' := w.heap.size) (by omega)
    rw [Hm.out] at this
    exact this
end Go.Proofs.Ytajainmldcnaeaa
namespace Go.Proofs.Ytajainmldcnaeaa
open Go.RowKit Go.Maps
set_option linter.unusedVariables false
set_option linter.unusedSimpArgs false
attribute [local go_sem] Oper.semAt_some

theorem enter_same (args : Array Value) (w : World) : (callFunc 54 args).run Try.prog w = .ok (.enter 54 args) w := by kernel_rfl
set_option maxRecDepth 100000 in
set_option maxHeartbeats 8000000 in
theorem kept_any (s : Int) (A : Option Addr) (n c : Nat) (B : Option Addr) (m d ge ce gu cu : Nat) (E : List Edg) (R : List Nat) (hn : n = E.length) (hm : m = R.length) (hE : E.length ≤ 1048576) (hRl : R.length ≤ 1048576) (hce : n + 1 ≤ ce) (hcu : m + 1 ≤ cu) (w : World)
    (hsE : SliceOf w w.heap.size 7 edgC A E) (hsR : SliceOf w w.heap.size 1 encR B R) (hxE : SliceOf w w.heap.size 7 edgC (some ⟨ge, 0, none⟩) (E ++ [edge77])) (hxR : SliceOf w w.heap.size 1 encR (some ⟨gu, 0, none⟩) (R ++ [77])) :
    Calls Try.prog 35 #[.agg (nfaC s (some ⟨ge, 0, none⟩) n ce (some ⟨gu, 0, none⟩) m cu), .agg (nfaC s A n c B m d)] w fun e w' => e = .returned (.bool true) ∧ Below w.heap.size w w' := by
  have hn2 : n ≤ 1048576 := by omega
  have hm2 : m ≤ 1048576 := by omega
  go_enter Try.func35, Try.ntmps35
  have h2 := (Blk.new w 52 (nfaC s (some ⟨ge, 0, none⟩) n ce (some ⟨gu, 0, none⟩) m cu)).alloc (.cells (nfaC s A n c B m d) 52)
  have h3 : Blk ((w.alloc (.cells (nfaC s (some ⟨ge, 0, none⟩) n ce (some ⟨gu, 0, none⟩) m cu) 52)).alloc (.cells (nfaC s A n c B m d) 52)) (w.heap.size + 1) 52 (nfaC s A n c B m d) := Blk.new' _ _ _ (by simp)
  have hB1 := below_alloc (below_alloc (Below.refl w.heap.size w) (.cells (nfaC s (some ⟨ge, 0, none⟩) n ce (some ⟨gu, 0, none⟩) m cu) 52)) (.cells (nfaC s A n c B m d) 52)
  have Hn := Lib.hid hn
  have Hm := Lib.hid hm
  clear hn hm
  go_upto_region 1 with (fail)
  obtain ⟨w1, hw1⟩ : ∃ y, y = (w.alloc (.cells (nfaC s (some ⟨ge, 0, none⟩) n ce (some ⟨gu, 0, none⟩) m cu) 52)).alloc (.cells (nfaC s A n c B m d) 52) := ⟨_, rfl⟩
  rw [← hw1] at h2 h3 hB1 ⊢
  clear hw1
  have hsame : ∀ W : World, Below w1.heap.size w1 W → Calls Try.prog 54 #[.agg (nfaC s (some ⟨ge, 0, none⟩) n ce (some ⟨gu, 0, none⟩) m cu), .agg (nfaC s A n c B m d)] W fun e w' => e = .returned (.bool true) ∧ Below W.heap.size W w' := fun W hb => by
    have hbb := below_then hB1 hb
    have t1 := ((hxE.below hbb).more hbb.size).take E.length
    have t2 := ((hxR.below hbb).more hbb.size).take R.length
    rw [List.take_left' rfl] at t1 t2
    exact same_any s _ A n ce c _ B m cu d E R Hn.out Hm.out (by omega) (by omega) W t1 ((hsE.below hbb).more hbb.size) t2 ((hsR.below hbb).more hbb.size)
  have hl1 : ∀ W : World, Below w1.heap.size w1 W → W.cell? ⟨ge, 0 + n * 7, none⟩ = some (.int .i64 77) := fun W hb => by
    have hbb := below_then hB1 hb
    obtain ⟨b, off, e1, hb2, hr⟩ := (hxE.below hbb).at_ (by simp)
    injection e1 with e1
    injection e1 with e1 e2
    subst e1 e2
    have h := (hr n (by rw [List.length_append, Hn.out]; simp)).kd
    refine h.trans ?_
    have : (E ++ [edge77])[n]'(by rw [List.length_append, Hn.out]; simp) = edge77 := by
      rw [List.getElem_append_right (by rw [Hn.out]; exact Nat.le_refl _)]
      simp
    rw [this]
    rfl
  have hl2 : ∀ W : World, Below w1.heap.size w1 W → W.cell? ⟨gu, 0 + m * 1, none⟩ = some (.int .u32 77) := fun W hb => by
    have hbb := below_then hB1 hb
    obtain ⟨b, off, e1, hb2, hr⟩ := (hxR.below hbb).at_ (by simp)
    injection e1 with e1
    injection e1 with e1 e2
    subst e1 e2
    have h := (hr m (by rw [List.length_append, Hm.out]; simp)) 0 _ rfl
    refine h.trans ?_
    have : (R ++ [77])[m]'(by rw [List.length_append, Hm.out]; simp) = 77 := by
      rw [List.getElem_append_right (by rw [Hm.out]; exact Nat.le_refl _)]
      simp
    rw [this]
    rfl
  refine wp_region_steps 35 [eqS (.agg (nfaC s (some ⟨ge, 0, none⟩) n ce (some ⟨gu, 0, none⟩) m cu)), eqS (.agg (nfaC s A n c B m d)), eqS (.bool true), eqS (.bool true), eqS (vF (true && (true == true)) (.pointer (some ⟨w.heap.size, 1, none⟩))), eqS (vF (true && (true == true)) (.slice (some ⟨ge, 0, none⟩) n ce)), eqS (vF (true && (true == true)) (.pointer (some ⟨(w.heap.size + 1), 1, none⟩))), eqS (vF (true && (true == true)) (.slice A n c)), eqS (vF (true && (true == true)) (.int .i64 (((n : Nat) : Int)))), eqS (vF (true && (true == true)) (.int .i64 (((n + 1 : Nat) : Int)))), eqS (vF (true && (true == true)) (.slice (some ⟨ge, 0, none⟩) (n + 1) ce)), eqS (vF (true && (true == true)) (.pointer (some ⟨(w.heap.size + 1), 1, none⟩))), eqS (vF (true && (true == true)) (.slice A n c)), eqS (vF (true && (true == true)) (.int .i64 (((n : Nat) : Int)))), eqS (vF (true && (true == true)) (.pointer (some ⟨ge, 0 + n * 7, none⟩))), eqS (vF (true && (true == true)) (.pointer (some ⟨ge, 0 + n * 7, none⟩))), eqS (vF (true && (true == true)) (.int .i64 (77))), eqS (vF (true && (true == true)) (.bool true)), eqS (.bool (true && true)), eqS (.bool (true && true)), eqS (vF (true && ((true && true) == true)) (.pointer (some ⟨w.heap.size, 2, none⟩))), eqS (vF (true && ((true && true) == true)) (.slice (some ⟨gu, 0, none⟩) m cu)), eqS (vF (true && ((true && true) == true)) (.pointer (some ⟨(w.heap.size + 1), 2, none⟩))), eqS (vF (true && ((true && true) == true)) (.slice B m d)), eqS (vF (true && ((true && true) == true)) (.int .i64 (((m : Nat) : Int)))), eqS (vF (true && ((true && true) == true)) (.int .i64 (((m + 1 : Nat) : Int)))), eqS (vF (true && ((true && true) == true)) (.slice (some ⟨gu, 0, none⟩) (m + 1) cu)), eqS (vF (true && ((true && true) == true)) (.pointer (some ⟨(w.heap.size + 1), 2, none⟩))), eqS (vF (true && ((true && true) == true)) (.slice B m d)), eqS (vF (true && ((true && true) == true)) (.int .i64 (((m : Nat) : Int)))), eqS (vF (true && ((true && true) == true)) (.pointer (some ⟨gu, 0 + m * 1, none⟩))), eqS (vF (true && ((true && true) == true)) (.int .u32 (77))), eqS (vF (true && ((true && true) == true)) (.bool true)), eqS (.bool ((true && true) && true)), eqS (.bool ((true && true) && true))] [5, 6, 7, 8, 9, 10, 11, 12, 13, 14, 15, 16, 17, 18, 19, 20, 21, 22, 23, 24, 25, 26, 27, 28, 29, 30, 31, 32, 33, 34, 35, 36, 37, 38, 4] rfl (by kernel_rfl) rfl ?_ ?_
  · skip
    refine Steps.cons (fun a' w' hG hB dep => gs_load_nfa (want_none rfl) _ rfl w.heap.size (hG.other 2 rfl) _ _ _ _ _ _ _ (blk_then h2 hB) rfl) ?_
    refine Steps.cons (fun a' w' hG hB dep => gs_load_nfa (want_none rfl) _ rfl (w.heap.size + 1) (hG.other 3 rfl) _ _ _ _ _ _ _ (blk_then h3 hB) rfl) ?_
    refine Steps.cons (fun a' w' hG hB dep => gs_call (want_none rfl) _ _ _ rfl enter_same _ (map2 (dep 0 rfl 5 rfl) (dep 1 rfl 6 rfl)) ((hsame w' hB).mono fun e w2 ⟨he, hb⟩ => ⟨_, he, hb, rfl⟩)) ?_
    refine Steps.cons (fun a' w' hG hB dep => gs_move (want_none rfl) _ rfl (id (dep 2 rfl 7 rfl))) ?_
    refine Steps.cons (fun a' w' hG hB dep => gs_guard (c := true) (b' := true) rfl rfl (dep 3 rfl 8 rfl) (fun hc he hw => gs_field hw _ _ _ rfl w.heap.size (0) (1) (hG.other 2 rfl) (fun wz => field_nfa_1 w.heap.size (0) wz) (vF_yes (on_g hc he) _).symm) (fun hn => vF_no hn _)) ?_
    refine Steps.cons (fun a' w' hG hB dep => gs_guard (c := true) (b' := true) rfl rfl (dep 3 rfl 8 rfl) (fun hc he hw => gs_load1 hw _ _ rfl w.heap.size (1) (Eq.trans (dep 4 rfl 9 rfl) (vF_yes (on_g hc he) _)) (.slice (some ⟨ge, 0, none⟩) n ce) ((blk_then h2 hB).cellv (i := 1) rfl) _ Try.underlying49 rfl (vF_yes (on_g hc he) _).symm) (fun hn => vF_no hn _)) ?_
    refine Steps.cons (fun a' w' hG hB dep => gs_guard (c := true) (b' := true) rfl rfl (dep 3 rfl 8 rfl) (fun hc he hw => gs_field hw _ _ _ rfl (w.heap.size + 1) (0) (1) (hG.other 3 rfl) (fun wz => field_nfa_1 (w.heap.size + 1) (0) wz) (vF_yes (on_g hc he) _).symm) (fun hn => vF_no hn _)) ?_
    refine Steps.cons (fun a' w' hG hB dep => gs_guard (c := true) (b' := true) rfl rfl (dep 3 rfl 8 rfl) (fun hc he hw => gs_load1 hw _ _ rfl (w.heap.size + 1) (1) (Eq.trans (dep 6 rfl 11 rfl) (vF_yes (on_g hc he) _)) (.slice A n c) ((blk_then h3 hB).cellv (i := 1) rfl) _ Try.underlying49 rfl (vF_yes (on_g hc he) _).symm) (fun hn => vF_no hn _)) ?_
    refine Steps.cons (fun a' w' hG hB dep => gs_guard (c := true) (b' := true) rfl rfl (dep 3 rfl 8 rfl) (fun hc he hw => gs_len hw _ _ rfl under_edges _ n c (Eq.trans (dep 7 rfl 12 rfl) (vF_yes (on_g hc he) _)) (vF_yes (on_g hc he) _).symm) (fun hn => vF_no hn _)) ?_
    refine Steps.cons (fun a' w' hG hB dep => gs_guard (c := true) (b' := true) rfl rfl (dep 3 rfl 8 rfl) (fun hc he hw => gs_add_nat hw _ _ _ _ rfl n 1 (n + 1) (Eq.trans (dep 8 rfl 13 rfl) (vF_yes (on_g hc he) _)) rfl (by omega) (by omega) (vF_yes (on_g hc he) _).symm) (fun hn => vF_no hn _)) ?_
    refine Steps.cons (fun a' w' hG hB dep => gs_guard (c := true) (b' := true) rfl rfl (dep 3 rfl 8 rfl) (fun hc he hw => gs_slice_to hw _ _ _ rfl under_edges 7 size_edgeE ⟨ge, 0, none⟩ n ce (n + 1) (Eq.trans (dep 5 rfl 10 rfl) (vF_yes (on_g hc he) _)) (Eq.trans (dep 9 rfl 14 rfl) (vF_yes (on_g hc he) _)) hce (vF_yes (on_g hc he) _).symm) (fun hn => vF_no hn _)) ?_
    refine Steps.cons (fun a' w' hG hB dep => gs_guard (c := true) (b' := true) rfl rfl (dep 3 rfl 8 rfl) (fun hc he hw => gs_field hw _ _ _ rfl (w.heap.size + 1) (0) (1) (hG.other 3 rfl) (fun wz => field_nfa_1 (w.heap.size + 1) (0) wz) (vF_yes (on_g hc he) _).symm) (fun hn => vF_no hn _)) ?_
    refine Steps.cons (fun a' w' hG hB dep => gs_guard (c := true) (b' := true) rfl rfl (dep 3 rfl 8 rfl) (fun hc he hw => gs_load1 hw _ _ rfl (w.heap.size + 1) (1) (Eq.trans (dep 11 rfl 16 rfl) (vF_yes (on_g hc he) _)) (.slice A n c) ((blk_then h3 hB).cellv (i := 1) rfl) _ Try.underlying49 rfl (vF_yes (on_g hc he) _).symm) (fun hn => vF_no hn _)) ?_
    refine Steps.cons (fun a' w' hG hB dep => gs_guard (c := true) (b' := true) rfl rfl (dep 3 rfl 8 rfl) (fun hc he hw => gs_len hw _ _ rfl under_edges _ n c (Eq.trans (dep 12 rfl 17 rfl) (vF_yes (on_g hc he) _)) (vF_yes (on_g hc he) _).symm) (fun hn => vF_no hn _)) ?_
    refine Steps.cons (fun a' w' hG hB dep => gs_guard (c := true) (b' := true) rfl rfl (dep 3 rfl 8 rfl) (fun hc he hw => gs_index hw _ _ _ rfl under_edges 7 size_edgeE ge 0 (n + 1) ce (n) (Eq.trans (dep 10 rfl 15 rfl) (vF_yes (on_g hc he) _)) (Eq.trans (dep 13 rfl 18 rfl) (vF_yes (on_g hc he) _)) (Nat.lt_succ_self _) (vF_yes (on_g hc he) _).symm) (fun hn => vF_no hn _)) ?_
    refine Steps.cons (fun a' w' hG hB dep => gs_guard (c := true) (b' := true) rfl rfl (dep 3 rfl 8 rfl) (fun hc he hw => gs_field hw _ _ _ rfl ge (0 + n * 7) (0 + n * 7) (Eq.trans (dep 14 rfl 19 rfl) (vF_yes (on_g hc he) _)) (fun wz => field_edge_0 ge (0 + n * 7) wz) (vF_yes (on_g hc he) _).symm) (fun hn => vF_no hn _)) ?_
    refine Steps.cons (fun a' w' hG hB dep => gs_guard (c := true) (b' := true) rfl rfl (dep 3 rfl 8 rfl) (fun hc he hw => gs_load1 hw _ _ rfl ge (0 + n * 7) (Eq.trans (dep 15 rfl 20 rfl) (vF_yes (on_g hc he) _)) (.int .i64 (77)) (hl1 w' hB) _ Try.underlying3 rfl (vF_yes (on_g hc he) _).symm) (fun hn => vF_no hn _)) ?_
    refine Steps.cons (fun a' w' hG hB dep => gs_guard (c := true) (b' := true) rfl rfl (dep 3 rfl 8 rfl) (fun hc he hw => gs_eql_int hw _ _ _ _ rfl _ _ _ (Eq.trans (dep 16 rfl 21 rfl) (vF_yes (on_g hc he) _)) rfl (Eq.trans (congrArg Value.bool rfl) (vF_yes (on_g hc he) _).symm)) (fun hn => vF_no hn _)) ?_
    refine Steps.cons (fun a' w' hG hB dep => gs_pick (want_none rfl) _ _ _ rfl true (dep 3 rfl 8 rfl) (id (pick_and2 (c := true) rfl (dep 17 rfl 22 rfl)))) ?_
    refine Steps.cons (fun a' w' hG hB dep => gs_move (want_none rfl) _ rfl (id (dep 18 rfl 23 rfl))) ?_
    refine Steps.cons (fun a' w' hG hB dep => gs_guard (c := true) (b' := (true && true)) rfl rfl (dep 19 rfl 24 rfl) (fun hc he hw => gs_field hw _ _ _ rfl w.heap.size (0) (2) (hG.other 2 rfl) (fun wz => field_nfa_2 w.heap.size (0) wz) (vF_yes (on_g hc he) _).symm) (fun hn => vF_no hn _)) ?_
    refine Steps.cons (fun a' w' hG hB dep => gs_guard (c := true) (b' := (true && true)) rfl rfl (dep 19 rfl 24 rfl) (fun hc he hw => gs_load1 hw _ _ rfl w.heap.size (2) (Eq.trans (dep 20 rfl 25 rfl) (vF_yes (on_g hc he) _)) (.slice (some ⟨gu, 0, none⟩) m cu) ((blk_then h2 hB).cellv (i := 2) rfl) _ Try.underlying50 rfl (vF_yes (on_g hc he) _).symm) (fun hn => vF_no hn _)) ?_
    refine Steps.cons (fun a' w' hG hB dep => gs_guard (c := true) (b' := (true && true)) rfl rfl (dep 19 rfl 24 rfl) (fun hc he hw => gs_field hw _ _ _ rfl (w.heap.size + 1) (0) (2) (hG.other 3 rfl) (fun wz => field_nfa_2 (w.heap.size + 1) (0) wz) (vF_yes (on_g hc he) _).symm) (fun hn => vF_no hn _)) ?_
    refine Steps.cons (fun a' w' hG hB dep => gs_guard (c := true) (b' := (true && true)) rfl rfl (dep 19 rfl 24 rfl) (fun hc he hw => gs_load1 hw _ _ rfl (w.heap.size + 1) (2) (Eq.trans (dep 22 rfl 27 rfl) (vF_yes (on_g hc he) _)) (.slice B m d) ((blk_then h3 hB).cellv (i := 2) rfl) _ Try.underlying50 rfl (vF_yes (on_g hc he) _).symm) (fun hn => vF_no hn _)) ?_
    refine Steps.cons (fun a' w' hG hB dep => gs_guard (c := true) (b' := (true && true)) rfl rfl (dep 19 rfl 24 rfl) (fun hc he hw => gs_len hw _ _ rfl under_rules _ m d (Eq.trans (dep 23 rfl 28 rfl) (vF_yes (on_g hc he) _)) (vF_yes (on_g hc he) _).symm) (fun hn => vF_no hn _)) ?_
    refine Steps.cons (fun a' w' hG hB dep => gs_guard (c := true) (b' := (true && true)) rfl rfl (dep 19 rfl 24 rfl) (fun hc he hw => gs_add_nat hw _ _ _ _ rfl m 1 (m + 1) (Eq.trans (dep 24 rfl 29 rfl) (vF_yes (on_g hc he) _)) rfl (by omega) (by omega) (vF_yes (on_g hc he) _).symm) (fun hn => vF_no hn _)) ?_
    refine Steps.cons (fun a' w' hG hB dep => gs_guard (c := true) (b' := (true && true)) rfl rfl (dep 19 rfl 24 rfl) (fun hc he hw => gs_slice_to hw _ _ _ rfl under_rules 1 size_ruleE ⟨gu, 0, none⟩ m cu (m + 1) (Eq.trans (dep 21 rfl 26 rfl) (vF_yes (on_g hc he) _)) (Eq.trans (dep 25 rfl 30 rfl) (vF_yes (on_g hc he) _)) hcu (vF_yes (on_g hc he) _).symm) (fun hn => vF_no hn _)) ?_
    refine Steps.cons (fun a' w' hG hB dep => gs_guard (c := true) (b' := (true && true)) rfl rfl (dep 19 rfl 24 rfl) (fun hc he hw => gs_field hw _ _ _ rfl (w.heap.size + 1) (0) (2) (hG.other 3 rfl) (fun wz => field_nfa_2 (w.heap.size + 1) (0) wz) (vF_yes (on_g hc he) _).symm) (fun hn => vF_no hn _)) ?_
    refine Steps.cons (fun a' w' hG hB dep => gs_guard (c := true) (b' := (true && true)) rfl rfl (dep 19 rfl 24 rfl) (fun hc he hw => gs_load1 hw _ _ rfl (w.heap.size + 1) (2) (Eq.trans (dep 27 rfl 32 rfl) (vF_yes (on_g hc he) _)) (.slice B m d) ((blk_then h3 hB).cellv (i := 2) rfl) _ Try.underlying50 rfl (vF_yes (on_g hc he) _).symm) (fun hn => vF_no hn _)) ?_
    refine Steps.cons (fun a' w' hG hB dep => gs_guard (c := true) (b' := (true && true)) rfl rfl (dep 19 rfl 24 rfl) (fun hc he hw => gs_len hw _ _ rfl under_rules _ m d (Eq.trans (dep 28 rfl 33 rfl) (vF_yes (on_g hc he) _)) (vF_yes (on_g hc he) _).symm) (fun hn => vF_no hn _)) ?_
    refine Steps.cons (fun a' w' hG hB dep => gs_guard (c := true) (b' := (true && true)) rfl rfl (dep 19 rfl 24 rfl) (fun hc he hw => gs_index hw _ _ _ rfl under_rules 1 size_ruleE gu 0 (m + 1) cu (m) (Eq.trans (dep 26 rfl 31 rfl) (vF_yes (on_g hc he) _)) (Eq.trans (dep 29 rfl 34 rfl) (vF_yes (on_g hc he) _)) (Nat.lt_succ_self _) (vF_yes (on_g hc he) _).symm) (fun hn => vF_no hn _)) ?_
    refine Steps.cons (fun a' w' hG hB dep => gs_guard (c := true) (b' := (true && true)) rfl rfl (dep 19 rfl 24 rfl) (fun hc he hw => gs_load1 hw _ _ rfl gu (0 + m * 1) (Eq.trans (dep 30 rfl 35 rfl) (vF_yes (on_g hc he) _)) (.int .u32 (77)) (hl2 w' hB) _ Try.underlying57 rfl (vF_yes (on_g hc he) _).symm) (fun hn => vF_no hn _)) ?_
    refine Steps.cons (fun a' w' hG hB dep => gs_guard (c := true) (b' := (true && true)) rfl rfl (dep 19 rfl 24 rfl) (fun hc he hw => gs_eql_int hw _ _ _ _ rfl _ _ _ (Eq.trans (dep 31 rfl 36 rfl) (vF_yes (on_g hc he) _)) rfl (Eq.trans (congrArg Value.bool rfl) (vF_yes (on_g hc he) _).symm)) (fun hn => vF_no hn _)) ?_
    refine Steps.cons (fun a' w' hG hB dep => gs_pick (want_none rfl) _ _ _ rfl (true && true) (dep 19 rfl 24 rfl) (id (pick_and2 (c := true) rfl (dep 32 rfl 37 rfl)))) ?_
    refine Steps.cons (fun a' w' hG hB dep => gs_assign (want_none rfl) _ rfl (id (dep 33 rfl 38 rfl))) ?_
    exact Steps.nil
  intro u w5 hB5 ans
  have hus : u 4 = .bool true := ans 34 4 (by decide) rfl
  clear ans
  simp only [putAll, List.foldl_cons, List.foldl_nil, Act.put, List.setIfInBounds_toArray, List.set_cons_zero, List.set_cons_succ, hus]
  clear hus hl1 hl2 hsame
  simp only [List.drop]
  refine wpList_nil ?_
  have hBe := below_then hB1 hB5
  clear hB5
  go_wp2_with (fail)
  go_ret
  exact ⟨rfl, hBe⟩
end Go.Proofs.Ytajainmldcnaeaa
namespace Go.Proofs.Ytajainmldcnaeaa
open Go.RowKit Go.Maps
set_option linter.unusedVariables false
set_option linter.unusedSimpArgs false
attribute [local go_sem] Oper.semAt_some

theorem own_len {α : Type} {enc : α → Array Value} {size base : Nat} {e : TypeId} {w : World} {A : Option Addr} {n c : Nat} {ys : List α} (h : Own w base e size enc (.slice A n c) ys) : n = ys.length := by
  obtain ⟨A', c', hv, _, _⟩ := h.shape
  injection hv with _ hn _
end Go.Proofs.Ytajainmldcnaeaa
namespace Go.Proofs.Ytajainmldcnaeaa
open Go.RowKit Go.Maps
set_option linter.unusedVariables false
set_option linter.unusedSimpArgs false
attribute [local go_sem] Oper.semAt_some

/-- what may turn: the blocks of S -/
structure SpF (S : List Nat) (w w' : World) : Prop where
  os : w'.os = w.os
  tape : w'.tape = w.tape
  output : w'.output = w.output
  size : w.heap.size ≤ w'.heap.size
  block : ∀ k, k < w.heap.size → k ∉ S → w'.heap[k]? = w.heap[k]?
section
variable {S S2 : List Nat} {w w' w2 : World}
theorem SpF.refl (S : List Nat) (w : World) : SpF S w w := ⟨rfl, rfl, rfl, Nat.le_refl _, fun _ _ _ => rfl⟩
theorem SpF.trans (h : SpF S w w') (k : SpF S w' w2) : SpF S w w2 :=
  ⟨k.os.trans h.os, k.tape.trans h.tape, k.output.trans h.output, Nat.le_trans h.size k.size, fun j hj hn => (k.block j (Nat.lt_of_lt_of_le hj h.size) hn).trans (h.block j hj hn)⟩
theorem SpF.sub (h : SpF S w w') (hs : ∀ b ∈ S, b ∈ S2) : SpF S2 w w' := ⟨h.os, h.tape, h.output, h.size, fun k hk hn => h.block k hk fun hb => hn (hs k hb)⟩
theorem SpF.of_below (h : Below w.heap.size w w') : SpF S w w' := ⟨h.os, h.tape, h.output, h.size, fun k hk _ => h.block k hk⟩
theorem SpF.then_ (h : SpF S w w') (k : Below w'.heap.size w' w2) : SpF S w w2 := h.trans (SpF.of_below k)
theorem SpF.grown {row : Option Nat} (h : SpF S w w') (hg : w'.grownBy w2 row) (hr : ∀ b, row = some b → b ∈ S ∨ w.heap.size ≤ b) : SpF S w w2 :=
  ⟨hg.os.trans h.os, hg.tape.trans h.tape, hg.output.trans h.output, Nat.le_trans h.size hg.size, fun j hj hn => by
    refine (hg.block j (Nat.lt_of_lt_of_le hj h.size) (fun er => ?_)).trans (h.block j hj hn)
    rcases hr j er.symm with h1 | h1
    · exact hn h1
    · omega⟩
theorem SpF.below {N : Nat} (h : SpF S w w') (h2 : ∀ b ∈ S, N ≤ b) (h3 : N ≤ w.heap.size) : Below N w w' := ⟨h.os, h.tape, h.output, h.size, fun k hk => h.block k (by omega) (fun hb => by have := h2 k hb; omega)⟩
theorem blk_sp {b : Nat} {t : TypeId} {cs : Array Value} (h : Blk w b t cs) (hb : b ∉ S) (k : SpF S w w') : Blk w' b t cs := (k.block b h.lt hb).trans h
theorem NdO.sp {B : Nat} {nd : Nd} {x : NV} {bs : List Nat} (h : NdO w B nd x bs) (hb : ∀ b ∈ bs, b ∉ S) (k : SpF S w w') : NdO w' B nd x bs := h.keep fun b hb' => k.block b (h.lt b hb').2 (hb b hb')
end
/-- the first n nodes of a block are all v -/
def NRows (w : World) (b n : Nat) (v : NV) : Prop := (∃ cs, Blk w b 27 cs) ∧ ∀ m, m < n → RowAt w b (m * 8) v.C
theorem NRows.lt {w : World} {b n : Nat} {v : NV} (h : NRows w b n v) : b < w.heap.size := by
  obtain ⟨⟨cs, hc⟩, _⟩ := h
  exact hc.lt
theorem NRows.keep {w w' : World} {b n : Nat} {v : NV} (h : NRows w b n v) (hb : w'.heap[b]? = w.heap[b]?) : NRows w' b n v := ⟨by
  obtain ⟨⟨cs, hc⟩, _⟩ := h
  exact ⟨cs, hb.trans hc⟩, fun m hm => (h.2 m hm).keep hb⟩
/-- three trees in one list -/
theorem NdL.three {w w' : World} {B g : Nat} {a b c : Nd} {x y z : NV} {p q r : List Nat} (ha : NdO w B a x p) (hb : NdO w B b y q) (hc : NdO w B c z r) (hd1 : ∀ k ∈ p, k ∉ q) (hd2 : ∀ k ∈ p, k ∉ r) (hd3 : ∀ k ∈ q, k ∉ r)
    (hw : Below w.heap.size w w') (hg : w.heap.size ≤ g) (hB : B ≤ w.heap.size) (hk : Blk w' g 27 (x.C ++ (y.C ++ z.C))) : NdL w' B (some ⟨g, 0, none⟩) 3 3 [a, b, c] [x, y, z] [p, q, r] := by
  refine ⟨rfl, rfl, rfl, by omega, ?_, fun i h1 h2 h3 => ?_, ?_⟩
  · refine ⟨rfl, .inr ⟨g, 3, x.C ++ (y.C ++ z.C), rfl, by omega, hk, Nat.le_refl _, by unfold maxLen; omega, by simp [NV.size], ?_⟩⟩
    rw [List.take_of_length_le (by simp [NV.size])]
    simp [flat]
  · match i, h1 with
    | 0, _ => exact ha.then_ hw
    | 1, _ => exact hb.then_ hw
    | 2, _ => exact hc.then_ hw
  · simp only [ownL, List.flatten_cons, List.flatten_nil, List.append_nil, List.cons_append, List.nil_append, List.nodup_cons, List.mem_append, not_or, List.nodup_append]
    refine ⟨⟨fun h => ?_, fun h => ?_, fun h => ?_⟩, ha.nd, ⟨hb.nd, hc.nd, fun k hk m hm e => ?_⟩, fun k hk m hm e => ?_⟩
    · have := (ha.lt g h).2; omega
    · have := (hb.lt g h).2; omega
    · have := (hc.lt g h).2; omega
    · subst e; exact hd3 k hk hm
    · subst e
      rcases hm with hm | hm
      · exact hd1 k hk hm
      · exact hd2 k hk hm
end Go.Proofs.Ytajainmldcnaeaa
namespace Go.Proofs.Ytajainmldcnaeaa
open Go.RowKit Go.Maps
set_option linter.unusedVariables false
set_option linter.unusedSimpArgs false
attribute [local go_sem] Oper.semAt_some

/-- a slice, plain -/
structure TS where
  A : Option Addr
  n : Nat
  c : Nat
def TS.v (s : TS) : Value := .slice s.A s.n s.c
def encT (s : TS) : Array Value := #[s.v]
theorem encT_size (s : TS) : (encT s).size = 1 := rfl
theorem encT_one (s : TS) : (encT s).all (·.oneCell') = true := by simp [encT, TS.v, Value.oneCell']
def MV.eS (x : MV) : TS := ⟨x.A, x.F.E.length, x.c⟩
def MV.rS (x : MV) : TS := ⟨x.B, x.F.R.length, x.d⟩
/-- no two in one block -/
def SepT (vs : List TS) : Prop := ∀ i j (hi : i < vs.length) (hj : j < vs.length), i ≠ j → ∀ g ∈ ownL vs[i].A, g ∉ ownL vs[j].A
section
variable {α : Type} {enc : α → Array Value} {size base : Nat} {e : TypeId} {w w' w0 : World} {T : List Nat}
theorem own_spf {v : Value} {ys : List α} (h : Own w base e size enc v ys) (k : SpF T w w') (hb : ∀ g, v.ownBlock = some g → g ∉ T) : Own w' base e size enc v ys :=
  own_block h fun g hg => k.block g (h.lt g hg).2 (hb g hg)
theorem own_other {v : Value} {ys : List α} (h : Own w base e size enc v ys) (k : SpF T w w') (hT : ∀ b ∈ T, ∃ t cs, Blk w b t cs ∧ t ≠ e) : Own w' base e size enc v ys :=
  own_spf h k fun g hg hb => by
    obtain ⟨t, cs, h1, h2⟩ := hT g hb
    obtain ⟨cs', h3⟩ := own_typed h g hg
    have := h1.symm.trans h3
    injection this with this
    injection this with _ this
    exact h2 this
/-- a front of a list that stays, in the same block, stays -/
theorem own_pre {b2 g : Nat} {v1 v2 : Value} {xs ys : List α} (hs : ∀ y, (enc y).size = size) (hpos : 0 < size) (h1 : Own w base e size enc v1 xs) (h2 : Own w b2 e size enc v2 ys) (e1 : v1.ownBlock = some g) (e2 : v2.ownBlock = some g) (hk : Own w' b2 e size enc v2 ys) (hle : xs.length ≤ ys.length) (hp : xs = ys.take xs.length) : Own w' base e size enc v1 xs := by
  refine ⟨h1.1, .inr ?_⟩
  rcases h1.2 with ⟨h, _⟩ | ⟨g1, cap1, cur1, rfl, b1, hh1, hc1, hm1, hs1, ht1⟩
  · rw [h] at e1; cases e1
  rcases h2.2 with ⟨h, _⟩ | ⟨g2, cap2, cur2, rfl, bb2, hh2, hc2, hm2, hs2, ht2⟩
  · rw [h] at e2; cases e2
  rcases hk.2 with ⟨h, _⟩ | ⟨g3, cap3, cur3, h, b3, hh3, hc3, hm3, hs3, ht3⟩
  · cases h
  injection h with h5 h6 h7
  injection h5 with h5
  injection h5 with h5
  simp only [Value.ownBlock, Option.some.injEq] at e1 e2
  subst e1 e2 h5 h7
  rw [hh1] at hh2
  injection hh2 with hh2
  injection hh2 with hh2
  subst hh2
  have hcc : cap1 = cap2 := Nat.eq_of_mul_eq_mul_right hpos (hs1.symm.trans hs2)
  subst hcc
  refine ⟨_, _, cur3, rfl, b1, hh3, hc1, hm1, hs3, ?_⟩
  have hm : xs.length * size ≤ ys.length * size := Nat.mul_le_mul_right _ hle
  have : (flat enc ys).take (xs.length * size) = flat enc xs := by rw [flat_take hs, ← hp]
  rw [← this, ← ht3, List.take_take, Nat.min_eq_left hm]
/-- lists of which the first ones are written full -/
structure Fam1 (enc : α → Array Value) (size base : Nat) (e : TypeId) (w : World) (vs : List TS) (z : Nat → α) (i : Nat) : Prop where
  d : ∀ j (h : j < vs.length), (j < i → Own w base e size enc vs[j].v (List.replicate vs[j].n (z j))) ∧ (i ≤ j → ∃ ys, Own w base e size enc vs[j].v ys)
theorem Fam1.other {vs : List TS} {z : Nat → α} {i : Nat} (h : Fam1 enc size base e w vs z i) (k : SpF T w w') (hT : ∀ b ∈ T, ∃ t cs, Blk w b t cs ∧ t ≠ e) : Fam1 enc size base e w' vs z i :=
  ⟨fun j hj => ⟨fun hl => own_other ((h.d j hj).1 hl) k hT, fun hl => by
    obtain ⟨ys, hy⟩ := (h.d j hj).2 hl
    exact ⟨ys, own_other hy k hT⟩⟩⟩
theorem Fam1.then_ {vs : List TS} {z : Nat → α} {i : Nat} (h : Fam1 enc size base e w vs z i) (k : Below w.heap.size w w') : Fam1 enc size base e w' vs z i :=
  h.other (SpF.of_below (S := []) k) (fun b hb => by cases hb)
theorem Fam1.step {vs : List TS} {z : Nat → α} {i : Nat} (h : Fam1 enc size base e w vs z i) (hS : SepT vs) (hi : i < vs.length) (k : SpF (ownL vs[i].A) w w') (ho : Own w' base e size enc vs[i].v (List.replicate vs[i].n (z i))) : Fam1 enc size base e w' vs z (i + 1) := by
  have key : ∀ j (hj : j < vs.length), j ≠ i → ∀ ys, Own w base e size enc vs[j].v ys → Own w' base e size enc vs[j].v ys := fun j hj hne ys hy =>
    own_spf hy k fun g hg => hS j i hj hi hne g (mem_ownL.2 hg)
  refine ⟨fun j hj => ⟨fun hl => ?_, fun hl => ?_⟩⟩
  · by_cases hji : j = i
    · subst hji; exact ho
    · exact key j hj hji _ ((h.d j hj).1 (by omega))
  · obtain ⟨ys, hy⟩ := (h.d j hj).2 (by omega)
    exact ⟨ys, key j hj (by omega) ys hy⟩
/-- lists of which the first ones have a longer one beside them -/
structure Fam2 (enc : α → Array Value) (size base : Nat) (e : TypeId) (w : World) (S0 : Nat) (vs : List TS) (z : Nat → α) (NE : List TS) : Prop where
  old : ∀ j (h : j < vs.length), Own w base e size enc vs[j].v (List.replicate vs[j].n (z j))
  new : ∀ j (h : j < vs.length) (h2 : j < NE.length), NE[j].n = vs[j].n + 40 ∧ Own w base e size enc NE[j].v (List.replicate (vs[j].n + 40) (z j)) ∧ ∀ g ∈ ownL NE[j].A, g ∈ ownL vs[j].A ∨ S0 ≤ g
theorem Fam2.other {S0 : Nat} {vs NE : List TS} {z : Nat → α} (h : Fam2 enc size base e w S0 vs z NE) (k : SpF T w w') (hT : ∀ b ∈ T, ∃ t cs, Blk w b t cs ∧ t ≠ e) : Fam2 enc size base e w' S0 vs z NE :=
  ⟨fun j hj => own_other (h.old j hj) k hT, fun j hj h2 => ⟨(h.new j hj h2).1, own_other (h.new j hj h2).2.1 k hT, (h.new j hj h2).2.2⟩⟩
theorem Fam2.then_ {S0 : Nat} {vs NE : List TS} {z : Nat → α} (h : Fam2 enc size base e w S0 vs z NE) (k : Below w.heap.size w w') : Fam2 enc size base e w' S0 vs z NE :=
  h.other (SpF.of_below (S := []) k) (fun b hb => by cases hb)
theorem Fam2.start {S0 : Nat} {vs : List TS} {z : Nat → α} {i : Nat} (h : Fam1 enc size base e w vs z i) (hi : vs.length ≤ i) : Fam2 enc size base e w S0 vs z [] :=
  ⟨fun j hj => (h.d j hj).1 (by omega), fun j hj h2 => absurd h2 (by simp)⟩
theorem Fam2.step {S0 : Nat} {vs NE : List TS} {z : Nat → α} {i : Nat} {ts : TS} (h : Fam2 enc size base e w S0 vs z NE) (hS : SepT vs) (hlow : ∀ j (hj : j < vs.length), ∀ g ∈ ownL vs[j].A, g < S0) (hl : NE.length = i) (hi : i < vs.length) (hw : S0 ≤ w.heap.size) (k : SpF (ownL vs[i].A) w w')
    (ho : Own w' base e size enc vs[i].v (List.replicate vs[i].n (z i))) (hn : ts.n = vs[i].n + 40) (ht : Own w' base e size enc ts.v (List.replicate (vs[i].n + 40) (z i))) (hb : ∀ g ∈ ownL ts.A, g ∈ ownL vs[i].A ∨ w.heap.size ≤ g) : Fam2 enc size base e w' S0 vs z (NE ++ [ts]) := by
  refine ⟨fun j hj => ?_, fun j hj h2 => ?_⟩
  · by_cases hji : j = i
    · subst hji; exact ho
    · exact own_spf (h.old j hj) k fun g hg => hS j i hj hi hji g (mem_ownL.2 hg)
  · rw [List.length_append, List.length_cons, List.length_nil] at h2
    by_cases hji : j = i
    · subst hji
      have e : (NE ++ [ts])[j] = ts := by rw [List.getElem_append_right (by omega)]; simp [hl]
      rw [e]
      exact ⟨hn, ht, fun g hg => (hb g hg).imp id (by omega)⟩
    · have hjN : j < NE.length := by omega
      have e : (NE ++ [ts])[j] = NE[j] := List.getElem_append_left hjN
      rw [e]
      obtain ⟨h3, h4, h5⟩ := h.new j hj hjN
      refine ⟨h3, own_spf h4 k fun g hg hgi => ?_, h5⟩
      rcases h5 g (mem_ownL.2 hg) with h6 | h6
      · exact hS j i hj hi hji g h6 hgi
      · have := hlow i hi g hgi; omega
/-- a list that is being grown -/
structure AppT (enc : α → Array Value) (size base : Nat) (e : TypeId) (w0 w : World) (vi : TS) (z : α) (l : TS) (t : Nat) : Prop where
  ln : l.n = vi.n + t
  o : Own w base e size enc l.v (List.replicate (vi.n + t) z)
  blk : ∀ g ∈ ownL l.A, g ∈ ownL vi.A ∨ w0.heap.size ≤ g
  old : Own w base e size enc vi.v (List.replicate vi.n z)
  sp : SpF (ownL vi.A) w0 w
theorem AppT.start {vi : TS} {z : α} (h : Own w base e size enc vi.v (List.replicate vi.n z)) : AppT enc size base e w w vi z vi 0 := ⟨rfl, h, fun g hg => .inl hg, h, SpF.refl _ _⟩
theorem AppT.then_ {vi l : TS} {z : α} {t : Nat} (h : AppT enc size base e w0 w vi z l t) (hb : Below w.heap.size w w') : AppT enc size base e w0 w' vi z l t := ⟨h.ln, h.o.then_ hb, h.blk, h.old.then_ hb, h.sp.then_ hb⟩
theorem AppT.push {vi l l' : TS} {z : α} {t : Nat} (hs : ∀ y, (enc y).size = size) (hpos : 0 < size) (h : AppT enc size base e w0 w vi z l t) (hn : l'.n = vi.n + t + 1) (ho : Own w' base e size enc l'.v (List.replicate (vi.n + t) z ++ [z])) (hk : Own w' base e size enc l.v (List.replicate (vi.n + t) z)) (hg : w.grownBy w' l.v.ownBlock)
    (hv : l'.v.ownBlock = l.v.ownBlock ∨ l'.v.ownBlock = some w.heap.size) : AppT enc size base e w0 w' vi z l' (t + 1) := by
  refine ⟨by omega, ?_, fun g hg2 => ?_, ?_, h.sp.grown hg fun b hb => h.blk b (mem_ownL.2 hb)⟩
  · have : List.replicate (vi.n + t) z ++ [z] = List.replicate (vi.n + (t + 1)) z := by rw [← Nat.add_assoc, List.replicate_succ']
    rw [← this]; exact ho
  · have hg3 : l'.v.ownBlock = some g := mem_ownL.1 hg2
    rcases hv with hv | hv
    · rw [hv] at hg3; exact h.blk g (mem_ownL.2 hg3)
    · rw [hv] at hg3
      injection hg3 with hg3
      have := h.sp.size
      exact .inr (by omega)
  · cases hb : vi.v.ownBlock with
    | none => exact own_block h.old fun j hj => by rw [hb] at hj; cases hj
    | some g =>
      by_cases hl : l.v.ownBlock = some g
      · exact own_pre hs hpos h.old h.o hb hl hk (by simp) (by simp)
      · exact own_row h.old hg fun k e1 e2 => by rw [hb] at e1; injection e1 with e1; subst e1; exact hl e2
end
def kE (i : Nat) : Edg := ⟨50 + (i : Int), 0, 0, 0⟩
def kR (i : Nat) : Nat := 50 + i
theorem build_kE (w : World) (x : Int) : (Instr.build 67 #[(0, .int .i64 x)]).run Try.prog w = .ok (.agg (edgC ⟨x, 0, 0, 0⟩)) w := by kernel_rfl
theorem wl_build_kE {ops : Array Oper} {rest : List Oper} {o : Oper} {a : Act} {w : World} {Q : Exit → Act → World → Prop} (hgd : o.guard = none) (x : Operand) (ho : o.op = .build 67 #[(0, x)]) (v : Int) (hx : a.eval x = .int .i64 v) (h : wpList Try.prog ops Q rest (a.put o.dst (.agg (edgC ⟨v, 0, 0, 0⟩))) w) : wpList Try.prog ops Q (o :: rest) a w := by
  have e : (#[(0, x)].map fun p : Nat × Operand => (p.1, a.eval p.2)) = #[(0, Value.int .i64 v)] := by simp [hx]
  exact wl_run hgd (v := .agg (edgC ⟨v, 0, 0, 0⟩)) (by unfold execOp; simp only [ho, e, Sem.run_bind, build_kE, Result.andThen_ok, Sem.run_pure]) h
/-- a copy of elements of more cells -/
theorem run_copy_wide {P : Program} (w : World) (dT sT ty elem : TypeId) (g dLen dCap : Nat) (a : Addr) (sLen sCap sz : Nat) (cur : Array Value) (t : TypeId) (cs : List Value)
    (hu : P.underlying dT = some (.slice elem)) (hs : (P.info? elem).map (·.size) = some sz)
    (hg : w.heap[g]? = some (.cells cur t (0, 0))) (hn : cs.length = Nat.min sLen dLen * sz)
    (hsrc : ∀ j v, cs[j]? = some v → w.cell? (a.add j) = some v) (hfit : cs.length ≤ cur.size) (h1 : ∀ v ∈ cs, v.oneCell' = true) :
    (Builtin.copy_ #[dT, sT] ty #[.slice (some ⟨g, 0, none⟩) dLen dCap, .slice (some a) sLen sCap]).run P w =
      .ok (goInt (Nat.min sLen dLen)) (w.setRow g (cs ++ cur.toList.drop cs.length).toArray) := by
  have hl := run_loadCells_list (P := P) w a cs hsrc
  have hst := run_storeCells_at P g 0 t cs 0 cur w hg (by simpa using hfit) h1
  cases hq : P.info? elem with
  | none => simp [hq] at hs
  | some i =>
    have hi : i.size = sz := by simpa [hq] using hs
    simp [Builtin.copy_, run_underlying hu, Builtin.lenOf, Builtin.firstCells, sizeOf, typeInfo, hq, hi, ← hn, hl, hst]
end Go.Proofs.Ytajainmldcnaeaa
namespace Go.Proofs.Ytajainmldcnaeaa
open Go.RowKit
set_option linter.unusedVariables false
set_option linter.unusedSimpArgs false
set_option linter.unnecessarySimpa false

def ptrB : Value → Option Nat
  | .pointer (some a) => some a.block
  | _ => none
def GKF (S : Nat → GSpec) (F : Nat → Bool) (i : Nat) (o : Oper) (a : Act) (w : World) : Act → World → Prop := fun a' w' => ∃ v, a' = a.put o.dst v ∧ Below w.heap.size w w' ∧ (S i).p v w' ∧ (F i = true → ∀ g, ptrB v = some g → w.heap.size ≤ g ∧ g < w'.heap.size)
def GStepF (P : Program) (ops : Array Oper) (S : Nat → GSpec) (F : Nat → Bool) (Q : Exit → Act → World → Prop) (i : Nat) (o : Oper) (a : Act) (w : World) : Prop :=
  if Region.wanted o (yielded ops a.tmps) = true then o.wp P a w (GKF S F i o a w) Q else (S i).p undef w
theorem GStepF.of {P : Program} {ops : Array Oper} {S : Nat → GSpec} {F : Nat → Bool} {Q : Exit → Act → World → Prop} {i : Nat} {o : Oper} {a : Act} {w : World} (hF : F i = false) (h : GStep P ops S Q i o a w) : GStepF P ops S F Q i o a w := by
  unfold GStep at h
  unfold GStepF
  split
  · rename_i hw
    rw [if_pos hw] at h
    exact Oper.wp_mono (fun a' w' ⟨v, h1, h2, h3⟩ => ⟨v, h1, h2, h3, fun h4 => by rw [hF] at h4; cases h4⟩) h
  · rename_i hw
    rw [if_neg hw] at h
    exact h
def NeF (ops : Array Oper) (F : Nat → Bool) (a : Act) (j k : Nat) : Prop := j ≠ k → F j = true → F k = true → ∀ d e, (ops[j]?).bind (·.dst) = some d → (ops[k]?).bind (·.dst) = some e → ∀ g, ptrB (a.tmps.getD d undef) = some g → ptrB (a.tmps.getD e undef) ≠ some g
structure GInvF (ops : Array Oper) (n : Nat) (S : Nat → GSpec) (F : Nat → Bool) (a0 : Act) (W0 : World) (listed : Array Bool) (a : Act) (w : World) : Prop where
  inv : GInv ops n S a0 W0 listed a w
  lt : ∀ j, j < n → F j = true → listed.getD j false = true → ∀ d, (ops[j]?).bind (·.dst) = some d → ∀ g, ptrB (a.tmps.getD d undef) = some g → g < w.heap.size
  ne : ∀ j k, j < n → k < n → listed.getD j false = true → listed.getD k false = true → NeF ops F a j k
/-- a slot of the head behind one more operation -/
theorem slotF {ops : Array Oper} {n i j : Nat} {o : Oper} {a a0 : Act} {v : Value} (hbase : GBase ops n a0 a) (hdup : noDup (headDsts ops n) = true) (hlt : (headDsts ops n).all (fun d => decide (d < a0.tmps.size)) = true) (hin : i < n) (ho : ops[i]? = some o) (hj : j < n) {d : Nat} (hd : (ops[j]?).bind (·.dst) = some d) :
    (a.put o.dst v).tmps.getD d undef = if j = i then v else a.tmps.getD d undef := by
  by_cases hij : j = i
  · subst hij
    rw [if_pos rfl]
    rw [ho] at hd
    simp only [Option.bind_some] at hd
    rw [hd]
    have hmem : d ∈ headDsts ops n := List.mem_filterMap.2 ⟨o, by
      rw [List.mem_iff_getElem?]
      exact ⟨j, by rw [List.getElem?_take]; simp [hin, ho]⟩, hd⟩
    have hdl : d < a.tmps.size := by
      have := List.all_eq_true.1 hlt d hmem
      rw [hbase.size]; simpa using this
    rw [put_getD_same hdl]
  · rw [if_neg hij]
    cases hod : o.dst with
    | none => rfl
    | some e =>
      apply put_getD_ne
      rintro rfl
      cases hoj : ops[j]? with
      | none => rw [hoj] at hd; cases hd
      | some oj =>
        rw [hoj] at hd
        simp only [Option.bind_some] at hd
        exact hij (noDup_spec _ hdup i j o oj e (by rw [List.getElem?_take]; simp [hin, ho]) (by rw [List.getElem?_take]; simp [hj, hoj]) hod hd).symm
theorem wpAny_growF {P : Program} {ops : Array Oper} {n : Nat} {S : Nat → GSpec} {F : Nat → Bool} {Q : Exit → Act → World → Prop} {a0 : Act} {W0 : World} (hB : growB ops n a0.tmps.size = true)
    (hstep : ∀ i o, i < n → ops[i]? = some o → ∀ a w, GBase ops n a0 a → Below W0.heap.size W0 w → (∀ e ∈ o.after, Region.binds .any e = true → opOk ops S a w e.on) → GStepF P ops S F Q i o a w)
    (hend : ∀ a w, GBase ops n a0 a → Below W0.heap.size W0 w → (∀ j, j < n → opOk ops S a w j) → (∀ j k, j < n → k < n → NeF ops F a j k) → wpList P ops Q (ops.toList.drop n) a w) :
    ∀ (m : Nat) (listed : Array Bool) (a : Act) (w : World), GInvF ops n S F a0 W0 listed a w → unl n listed = m → wpAny P .any ops Q (m + (ops.size - n)) listed a w := by
  simp only [growB, Bool.and_eq_true, Bool.or_eq_true, decide_eq_true_eq] at hB
  obtain ⟨⟨⟨⟨⟨hn, hdup⟩, hlt⟩, hedge⟩, htail⟩, hseq⟩ := hB
  have hedge' : ∀ i o, i < n → ops[i]? = some o → ∀ e ∈ o.after, Region.binds .any e = true → e.on < i := by
    intro i o hi ho e he hb
    have h1 := List.all_eq_true.1 hedge i (List.mem_range.2 hi)
    simp only [ho] at h1
    have h2 := (Array.all_eq_true_iff_forall_mem.1 h1) e he
    simpa [hb] using h2
  have hready : ∀ (listed : Array Bool) (a : Act) (w : World), GInv ops n S a0 W0 listed a w → 0 < unl n listed → ∀ j ∈ Region.ready .any ops listed, j < n := by
    intro listed a w inv hpos j hj
    rcases htail with he | ⟨hs, hc⟩
    · obtain ⟨_, o, ho, _⟩ := mem_ready.1 hj
      have := (Array.getElem?_eq_some_iff.1 ho).1
      omega
    · rcases Nat.lt_or_ge n ops.size with hlt' | hge
      · unfold unl at hpos
        obtain ⟨i, hi⟩ := List.exists_mem_of_length_pos hpos
        simp only [List.mem_filter, List.mem_range, Bool.not_eq_true'] at hi
        have hun : listed.getD i true = false := getD_in (by rw [inv.head.size]; omega) hi.2
        rcases Nat.lt_or_ge j n with h | h
        · exact h
        · exact absurd hj (tail_waits hs hc hlt' inv.head _ i rfl hi.1 hun j h)
      · obtain ⟨_, o, ho, _⟩ := mem_ready.1 hj
        have := (Array.getElem?_eq_some_iff.1 ho).1
        omega
  have hne : ∀ (listed : Array Bool) (a : Act) (w : World), GInv ops n S a0 W0 listed a w → 0 < unl n listed → Region.ready .any ops listed ≠ [] := by
    intro listed a w inv hpos hnil
    have hex : ∃ i, i < n ∧ listed.getD i false = false := by
      unfold unl at hpos
      obtain ⟨i, hi⟩ := List.exists_mem_of_length_pos hpos
      simp only [List.mem_filter, List.mem_range, Bool.not_eq_true'] at hi
      exact ⟨i, hi.1, hi.2⟩
    have hmin : ∃ i, i < n ∧ listed.getD i false = false ∧ ∀ k, k < i → listed.getD k false = true := by
      obtain ⟨i, hi, hf⟩ := hex
      clear hpos
      induction i using Nat.strongRecOn with
      | _ i ih =>
        by_cases h : ∃ k, k < i ∧ listed.getD k false = false
        · obtain ⟨k, hk, hkf⟩ := h
          exact ih k hk (by omega) hkf
        · refine ⟨i, hi, hf, fun k hk => ?_⟩
          cases hc : listed.getD k false with
          | true => rfl
          | false => exact absurd ⟨k, hk, hc⟩ h
    obtain ⟨i, hi, hf, hall⟩ := hmin
    have ho : ops[i]? = some ops[i] := Array.getElem?_eq_getElem (by omega)
    have hmem : i ∈ Region.ready .any ops listed := mem_ready.2 ⟨getD_in (by rw [inv.head.size]; omega) hf, _, ho, fun e he hb => hall _ (hedge' i _ hi ho e he hb)⟩
    rw [hnil] at hmem
    cases hmem
  intro m
  induction m with
  | zero =>
    intro listed a w invF hm
    have inv := invF.inv
    have hall : ∀ j, j < n → listed.getD j false = true := by
      intro j hj
      cases hc : listed.getD j false with
      | true => rfl
      | false => have := unl_pos hj hc; omega
    have hlist : listed = headTrue n (ops.size - n) := by
      have hsz := inv.head.size
      apply Array.ext
      · simp [headTrue, hsz]; omega
      · intro j h1 h2
        have hj : j < ops.size := by rw [← hsz]; exact h1
        simp only [headTrue, List.getElem_toArray, List.getElem_append, List.length_replicate, List.getElem_replicate]
        by_cases hjn : j < n
        · have := hall j hjn
          simp [h1] at this
          simp [hjn, this]
        · have := inv.head.tail j (by omega) hj
          simp [h1] at this
          simp [hjn, this]
    have hw := hend a w inv.base inv.below (fun j hj => inv.done j hj (hall j hj)) (fun j k hj hk => invF.ne j k hj hk (hall j hj) (hall k hk))
    have hdl : (ops.toList.drop n).length = ops.size - n := by simp
    have := wpAny_of_seq (md := .any) (Q' := Q) (ops.toList.drop n) n listed a w (fun j => by simp [List.getElem?_drop]) (by rw [hdl, hlist]; exact hseq) hw
    rw [hdl] at this
    rw [Nat.zero_add]
    exact this
  | succ m ih =>
    intro listed a w invF hm
    have inv := invF.inv
    rw [show m + 1 + (ops.size - n) = (m + (ops.size - n)) + 1 by omega]
    refine ⟨fun h => absurd h (hne listed a w inv (by omega)), fun i hi => ?_⟩
    have hin := hready listed a w inv (by omega) i hi
    obtain ⟨hun, o, ho, hall⟩ := mem_ready.1 hi
    have hlisted : listed.getD i false = false := getD_both hun
    have hg := hstep i o hin ho a w inv.base inv.below (fun e he hb => inv.done e.on (by have := hedge' i o hin ho e he hb; omega) (hall e he hb))
    have hsz : i < listed.size := by rw [inv.head.size]; omega
    have hnext : ∀ a' w', GKF S F i o a w a' w' → wpAny P .any ops Q (m + (ops.size - n)) (listed.setIfInBounds i true) a' w' := by
      rintro a' w' ⟨v, rfl, hb, hp, hf⟩
      refine ih _ _ _ ⟨⟨inv.head.set hi hin, ⟨by rw [put_defers]; exact inv.base.defers, by rw [put_size]; exact inv.base.size, fun t ht => ?_⟩, inv.below.trans (hb.mono inv.below.size), fun j hj hl d hd => ?_⟩, fun j hj hF hl d hd g hgv => ?_, fun j k hj hk hl1 hl2 hne hFj hFk d e hd he g hgv => ?_⟩ (by have := unl_set hin hsz hlisted; omega)
      · cases hd : o.dst with
        | none => exact inv.base.other t ht
        | some d =>
          have hmem : d ∈ headDsts ops n := List.mem_filterMap.2 ⟨o, by
            rw [List.mem_iff_getElem?]
            exact ⟨i, by rw [List.getElem?_take]; simp [hin, ho]⟩, hd⟩
          have hne : d ≠ t := by
            rintro rfl
            rw [List.contains_eq_mem] at ht
            simp [hmem] at ht
          rw [put_getD_ne hne]
          exact inv.base.other t ht
      · by_cases hij : i = j
        · subst hij
          rw [ho] at hd
          simp only [Option.bind_some] at hd
          rw [hd]
          have hmem : d ∈ headDsts ops n := List.mem_filterMap.2 ⟨o, by
            rw [List.mem_iff_getElem?]
            exact ⟨i, by rw [List.getElem?_take]; simp [hin, ho]⟩, hd⟩
          have hdl : d < a.tmps.size := by
            have := List.all_eq_true.1 hlt d hmem
            rw [inv.base.size]; simpa using this
          rw [put_getD_same hdl]
          exact hp
        · rw [getD_set_ne false hij] at hl
          have hold := inv.done j hj hl d hd
          have hkeep : (a.put o.dst v).tmps.getD d undef = a.tmps.getD d undef := by
            cases hod : o.dst with
            | none => rfl
            | some e =>
              apply put_getD_ne
              rintro rfl
              cases hoj : ops[j]? with
              | none => rw [hoj] at hd; cases hd
              | some oj =>
                rw [hoj] at hd
                simp only [Option.bind_some] at hd
                exact hij (noDup_spec _ hdup i j o oj e (by rw [List.getElem?_take]; simp [hin, ho]) (by rw [List.getElem?_take]; simp [hj, hoj]) hod hd)
          rw [hkeep]
          exact (S j).st _ _ _ hold hb
      · rw [slotF inv.base hdup hlt hin ho hj hd] at hgv
        by_cases hij : j = i
        · rw [if_pos hij] at hgv
          exact (hf (hij ▸ hF) g hgv).2
        · rw [if_neg hij] at hgv
          rw [getD_set_ne false (fun h => hij h.symm)] at hl
          have := invF.lt j hj hF hl d hd g hgv
          have := hb.size
          omega
      · rw [slotF inv.base hdup hlt hin ho hj hd] at hgv
        rw [slotF inv.base hdup hlt hin ho hk he]
        by_cases hij : j = i
        · rw [if_pos hij] at hgv
          have hki : k ≠ i := fun h => hne (hij.trans h.symm)
          rw [if_neg hki]
          intro h2
          rw [getD_set_ne false (fun h => hki h.symm)] at hl2
          have h3 := invF.lt k hk hFk hl2 e he g h2
          have h4 := (hf (hij ▸ hFj) g hgv).1
          omega
        · rw [if_neg hij] at hgv
          rw [getD_set_ne false (fun h => hij h.symm)] at hl1
          by_cases hki : k = i
          · rw [if_pos hki]
            intro h2
            have h3 := invF.lt j hj hFj hl1 d hd g hgv
            have h4 := (hf (hki ▸ hFk) g h2).1
            omega
          · rw [if_neg hki]
            rw [getD_set_ne false (fun h => hki h.symm)] at hl2
            exact invF.ne j k hj hk hl1 hl2 hne hFj hFk d e hd he g hgv
    unfold wpOp
    simp only [ho]
    unfold GStepF at hg
    split
    · rename_i hw
      rw [if_pos hw] at hg
      exact .inl (Oper.wp_mono hnext hg)
    · rename_i hw
      rw [if_neg hw] at hg
      exact hnext _ _ ⟨undef, rfl, Below.refl _ _, hg, fun _ g h => by cases h⟩

/-- THE LAW. -/
theorem wp_region_growF {P : Program} {id : Nat} {l : List Oper} {Q : Exit → Act → World → Prop} {a : Act} {w : World} (n : Nat) (S : List GSpec) (F : Nat → Bool) (hm : P.follows .mixedOrders = true) (hB : growB l.toArray n a.tmps.size = true)
    (hstep : ∀ i o, i < n → l[i]? = some o → ∀ a' w', GBase l.toArray n a a' → Below w.heap.size w w' → (∀ e ∈ o.after, Region.binds .any e = true → opOk l.toArray (specAt S) a' w' e.on) → GStepF P l.toArray (specAt S) F Q i o a' w')
    (hend : ∀ (u : Nat → Value) w', Below w.heap.size w w' → (∀ j d, j < n → (l[j]?).bind (·.dst) = some d → (specAt S j).p (u d) w') → (∀ j k, j < n → k < n → j ≠ k → F j = true → F k = true → ∀ d e, (l[j]?).bind (·.dst) = some d → (l[k]?).bind (·.dst) = some e → ∀ g, ptrB (u d) = some g → ptrB (u e) ≠ some g) → wpList P l.toArray Q (l.drop n) (putAll a (headDsts l.toArray n) u) w') :
    (Code.region id l.toArray true).wp P Q a w := by
  refine wp_region_any hm ?_
  have hdr : ∀ {x : World}, Below w.heap.size w x → Below w.heap.size w.drew x := fun h => ⟨h.os, h.tape, h.output, h.size, h.block⟩
  have hrd : ∀ {x : World}, Below w.heap.size w.drew x → Below w.heap.size w x := fun h => ⟨h.os, h.tape, h.output, h.size, h.block⟩
  have hn : n ≤ l.length := by
    simp only [growB, Bool.and_eq_true, decide_eq_true_eq] at hB
    simpa using hB.1.1.1.1.1
  have key := wpAny_growF (F := F) (P := P) (ops := l.toArray) (n := n) (S := specAt S) (Q := Q) (a0 := a) (W0 := w.drew) hB
    (fun i o hi ho a' w' hb hw hd => hstep i o hi (by simpa using ho) a' w' hb (hrd hw) hd)
    (fun a' w' hb hw hd hne => by
      rw [act_eq hb]
      have := hend (fun d => a'.tmps.getD d undef) w' (hrd hw) (fun j d hj hd' => hd j hj d (by simpa using hd')) (fun j k hj hk h1 h2 h3 d e hd' he' => hne j k hj hk h1 h2 h3 d e (by simpa using hd') (by simpa using he'))
      simpa using this)
    n (Array.replicate l.toArray.size false) a w.drew
    ⟨⟨⟨by simp, fun j oj _ hl => (by rw [getD_replicate_false] at hl; cases hl), fun t _ ht => getD_in (by simpa using ht) (getD_replicate_false _ _)⟩, ⟨rfl, rfl, fun _ _ => rfl⟩, Below.refl _ _, fun j _ hl => (by rw [getD_replicate_false] at hl; cases hl)⟩, fun j _ _ hl => (by rw [getD_replicate_false] at hl; cases hl), fun j k _ _ hl => (by rw [getD_replicate_false] at hl; cases hl)⟩
    (by
      unfold unl
      rw [List.filter_eq_self.2 (fun j _ => by rw [getD_replicate_false]; rfl), List.length_range])
  rw [show n + (l.toArray.size - n) = l.toArray.size by simp; omega] at key
  exact key

/-- the steps, one behind the other -/
def StepsF (P : Program) (ops : Array Oper) (S : Nat → GSpec) (F : Nat → Bool) (Q : Exit → Act → World → Prop) (n : Nat) (a : Act) (w : World) : List Oper → Nat → Prop
  | [], _ => True
  | o :: l, i => (∀ a' w', GBase ops n a a' → Below w.heap.size w w' → (∀ j, (o.after.toList.any fun e => Region.binds .any e && e.on == j) = true → opOk ops S a' w' j) → GStepF P ops S F Q i o a' w') ∧ StepsF P ops S F Q n a w l (i + 1)
theorem StepsF.nil {P : Program} {ops : Array Oper} {S : Nat → GSpec} {F : Nat → Bool} {Q : Exit → Act → World → Prop} {n : Nat} {a : Act} {w : World} {i : Nat} : StepsF P ops S F Q n a w [] i := trivial
theorem StepsF.cons {P : Program} {ops : Array Oper} {S : Nat → GSpec} {F : Nat → Bool} {Q : Exit → Act → World → Prop} {n : Nat} {a : Act} {w : World} {o : Oper} {l : List Oper} {i : Nat}
    (h : ∀ a' w', GBase ops n a a' → Below w.heap.size w w' → (∀ j, (o.after.toList.any fun e => Region.binds .any e && e.on == j) = true → opOk ops S a' w' j) → GStepF P ops S F Q i o a' w')
    (hl : StepsF P ops S F Q n a w l (i + 1)) : StepsF P ops S F Q n a w (o :: l) i := ⟨h, hl⟩
theorem StepsF.at_ {P : Program} {ops : Array Oper} {S : Nat → GSpec} {F : Nat → Bool} {Q : Exit → Act → World → Prop} {n : Nat} {a : Act} {w : World} : ∀ {l : List Oper} {i : Nat}, StepsF P ops S F Q n a w l i → ∀ (k : Nat) (o : Oper), l[k]? = some o →
    ∀ a' w', GBase ops n a a' → Below w.heap.size w w' → (∀ j, (o.after.toList.any fun e => Region.binds .any e && e.on == j) = true → opOk ops S a' w' j) → GStepF P ops S F Q (i + k) o a' w'
  | [], _, _, k, o, hk => by simp at hk
  | o' :: l, i, h, k, o, hk => by
    rcases k with _ | k
    · simp only [List.getElem?_cons_zero, Option.some.injEq] at hk
      subst hk
      exact h.1
    · rw [List.getElem?_cons_succ] at hk
      have := StepsF.at_ h.2 k o hk
      rw [show i + (k + 1) = i + 1 + k by omega]
      exact this

/-- THE LAW, as it is used: S the answers, ds the head's slots. -/
theorem wp_region_stepsF {P : Program} {id : Nat} {l : List Oper} {Q : Exit → Act → World → Prop} {a : Act} {w : World} (n : Nat) (S : List GSpec) (F : Nat → Bool) (ds : List Nat) (hm : P.follows .mixedOrders = true) (hB : growB l.toArray n a.tmps.size = true)
    (hds : headDsts l.toArray n = ds) (hstep : StepsF P l.toArray (specAt S) F Q n a w (l.take n) 0)
    (hend : ∀ (u : Nat → Value) w', Below w.heap.size w w' → (∀ j d, j < n → (l[j]?).bind (·.dst) = some d → (specAt S j).p (u d) w') → (∀ j k, j < n → k < n → j ≠ k → F j = true → F k = true → ∀ d e, (l[j]?).bind (·.dst) = some d → (l[k]?).bind (·.dst) = some e → ∀ g, ptrB (u d) = some g → ptrB (u e) ≠ some g) → wpList P l.toArray Q (l.drop n) (putAll a ds u) w') :
    (Code.region id l.toArray true).wp P Q a w := by
  subst hds
  refine wp_region_growF n S F hm hB (fun i o hi ho a' w' hb hw hd => ?_) hend
  have := hstep.at_ i o (by rw [List.getElem?_take, if_pos hi]; exact ho) a' w' hb hw (fun j hj => by
    obtain ⟨e, he, hh⟩ := List.any_eq_true.1 hj
    simp only [Bool.and_eq_true, beq_iff_eq] at hh
    rw [← hh.2]
    exact hd e (Array.mem_toList_iff.1 he) hh.1)
  rw [Nat.zero_add] at this
  exact this

theorem gs_runF {P : Program} {ops : Array Oper} {S : Nat → GSpec} {F : Nat → Bool} {Q : Exit → Act → World → Prop} {i : Nat} {o : Oper} {a : Act} {w : World} (hw : Region.wanted o (yielded ops a.tmps) = true) {v : Value} {w' : World} (hr : (execOp a.eval o).run P w = .ok (.value v) w') (hb : Below w.heap.size w w') (hp : (S i).p v w')
    (hf : ∀ g, ptrB v = some g → w.heap.size ≤ g ∧ g < w'.heap.size) : GStepF P ops S F Q i o a w := by
  unfold GStepF
  rw [if_pos hw]
  unfold Oper.wp
  rw [hr]
  exact ⟨v, rfl, hb, hp, fun _ => hf⟩
/-- an alloc whose block is told apart -/
theorem gs_alloc_nfaF {ops : Array Oper} {S : Nat → GSpec} {F : Nat → Bool} {Q : Exit → Act → World → Prop} {i : Nat} {o : Oper} {a : Act} {w : World} (hw : Region.wanted o (yielded ops a.tmps) = true) (ho : o.op = .alloc 52) (b0 : Nat) (hb : b0 ≤ w.heap.size) (hp : ∀ v w', (newS b0 52 (nfaC 0 none 0 0 none 0 0)).p v w' → (S i).p v w') : GStepF Try.prog ops S F Q i o a w :=
  gs_runF hw (v := .pointer (some ⟨w.heap.size, 0, none⟩)) (w' := w.alloc (.cells (nfaC 0 none 0 0 none 0 0) 52)) (by unfold execOp; simp only [ho, Sem.run_bind, alloc_nfa, Result.andThen_ok, Sem.run_pure]) (below_alloc (Below.refl _ _) _) (hp _ _ ⟨_, rfl, hb, Blk.new _ _ _⟩) (fun g hg => by
    have : w.heap.size = g := by simpa [ptrB] using hg
    subst this
    exact ⟨Nat.le_refl _, by simp⟩)
end Go.Proofs.Ytajainmldcnaeaa
