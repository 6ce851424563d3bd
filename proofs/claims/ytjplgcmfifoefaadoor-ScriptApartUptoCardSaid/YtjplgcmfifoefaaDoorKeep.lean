/- append onto a row of the call's own, where the old slice is read again behind it: what the old slice reads stays. No condition beyond those named in each lemma. -/
import Derived.Test.YtjplgcmfifoefaaDoorSlice
namespace Go.Proofs.YtjplgcmfifoefaaDoor
open Go.RowKit
set_option linter.unusedVariables false
set_option linter.unusedSimpArgs false

section
variable {P : Program} (w : World)
theorem append_keeps {α : Type} {enc : α → Array Value} (base : Nat) (t ty e : TypeId) (i : TypeInfo) (z : Value) (size bytes : Nat) (ht : P.underlying t = some (.slice e)) (hi : P.info? e = some i) (hz : i.zero = some z)
    (hsize : i.size = size) (hby : i.bytes = bytes) (hs : ∀ y, (enc y).size = size) (h1 : ∀ y, (enc y).all (·.oneCell') = true)
    (v : Value) (xs : List α) (hown : Own w base e size enc v xs) (B : Nat) (A : Option Addr) (m c : Nat) (ys : List α) (hm : m = ys.length) (hsz : 0 < size) (hr : SliceOf w B size enc A ys)
    (h63 : xs.length + m ≤ maxLen) (hbytes : (xs.length + m) * bytes ≤ 140737488355328)
    (v' : Value) (w' : World) (hrun : (Builtin.append_ #[t, t] ty #[v, .slice A m c]).run P w = .ok v' w') : Own w' base e size enc v xs := by
  subst hm
  rcases A with _ | ad
  · have hm : ys = [] := by
      rcases hr with h | ⟨b, off, h, _⟩
      · exact h
      · cases h
    subst hm
    rw [List.length_nil, run_append_none w base t ty e i ht hi size v _ _ hown c] at hrun
    injection hrun with _ hw
    subst hw
    exact hown
  · rcases hown.2 with ⟨rfl, h0⟩ | ⟨g, cap, cur, rfl, hbg, hg, hnc, hcm, hcs, htake⟩
    · exact ⟨hown.1, .inl ⟨rfl, h0⟩⟩
    · have hcells : ∀ j u, (flat enc ys)[j]? = some u → w.cell? (ad.add j) = some u := by
        intro j u hu
        have hj : j < ys.length * size := by
          rw [← flat_length hs]
          rcases Nat.lt_or_ge j (flat enc ys).length with h | h
          · exact h
          · rw [List.getElem?_eq_none h] at hu; cases hu
        have hpos : 0 < ys.length := by
          rcases Nat.eq_zero_or_pos ys.length with h0 | h0
          · rw [h0, Nat.zero_mul] at hj; omega
          · exact h0
        obtain ⟨b, off, e1, _, hrow⟩ := hr.at_ hpos
        injection e1 with e1
        subst e1
        have hdm : j = j / size * size + j % size := by rw [Nat.mul_comm]; exact (Nat.div_add_mod _ _).symm
        have hi2 : j / size < ys.length := Nat.div_lt_of_lt_mul (by rw [Nat.mul_comm]; exact hj)
        have hq : j % size < size := Nat.mod_lt _ hsz
        have hu' : (enc ys[j / size])[j % size]? = some u := by
          rw [← flat_at hs ys _ _ hi2 hq, ← hdm]; exact hu
        have := hrow _ hi2 _ _ hu'
        rw [addr_add]
        rw [show off + j / size * size + j % size = off + j by omega] at this
        exact this
      have hone : ∀ u ∈ flat enc ys, u.oneCell' = true := by
        intro u hu
        simp only [flat, List.mem_flatMap] at hu
        obtain ⟨y, _, hy⟩ := hu
        exact (Array.all_eq_true_iff_forall_mem.1 (h1 y)) u (by simpa using hy)
      have hl := flat_length hs ys
      subst hsize
      by_cases hroom : xs.length + ys.length ≤ cap
      · have hfit : xs.length * i.size + (flat enc ys).length ≤ cur.size := by rw [hl, hcs, ← Nat.add_mul]; exact Nat.mul_le_mul_right _ hroom
        rw [run_append_room (P := P) w t ty e i ht hi g xs.length cap cur hg ad ys.length c (flat enc ys) hl hcells hone hroom hfit] at hrun
        injection hrun with _ hw
        subst hw
        refine ⟨hown.1, .inr ⟨g, cap, _, rfl, hbg, setRow_heap w g cur _ e _ hg, hnc, hcm, ?_, ?_⟩⟩
        · simp only [List.size_toArray, List.length_append, List.length_take, List.length_drop, Array.length_toList]
          omega
        · rw [htake, List.append_assoc]
          rw [← hown.1]
          exact List.take_left' rfl
      · have holds : ∀ j u, (flat enc xs)[j]? = some u → w.cell? ((⟨g, 0, none⟩ : Addr).add j) = some u := World.ownsRow.cells hown (g := g) rfl
        have hb2 : (xs.length + ys.length) * i.bytes ≤ 140737488355328 := by rw [hby]; exact hbytes
        have hsmall : xs.length + ys.length ≤ 9223372036854775807 := by simp only [maxLen] at h63; omega
        rw [run_append_grow (P := P) w t ty e i z ht hi hz ⟨g, 0, none⟩ xs.length cap (flat enc xs) hown.1 holds ad ys.length c (flat enc ys) hl hcells (by omega) (by omega) (growslice_fits (by omega) hb2)] at hrun
        injection hrun with _ hw
        subst hw
        exact hown.drew.alloc _
end

/-- as wl_append; the old slice reads as before, too -/
theorem wl_append_keep {P : Program} {w : World} {α : Type} {enc : α → Array Value} {ops : Array Oper} {rest : List Oper} {o : Oper} {a : Act} {Q : Exit → Act → World → Prop} (hgd : o.guard = none) (s x : Operand) (t : TypeId)
    (ho : o.op = .call { callee := .builtin .append, args := #[s, x], argTypes := #[t, t] })
    (base : Nat) (e : TypeId) (i : TypeInfo) (z : Value) (size bytes : Nat) (ht : P.underlying t = some (.slice e)) (hi : P.info? e = some i) (hz : i.zero = some z)
    (hsize : i.size = size) (hby : i.bytes = bytes) (hzs : z.cells.size = size) (hsz : 0 < size) (hs : ∀ y, (enc y).size = size) (h1 : ∀ y, (enc y).all (·.oneCell') = true)
    (v : Value) (xs : List α) (hv : a.eval s = v) (hown : Own w base e size enc v xs) (B : Nat) (A : Option Addr) (m c : Nat) (ys : List α) (hx : a.eval x = .slice A m c) (hm : m = ys.length) (hr : SliceOf w B size enc A ys)
    (h63 : xs.length + m ≤ maxLen) (hbytes : (xs.length + m) * bytes ≤ 140737488355328) (hbase : base ≤ w.heap.size)
    (h : ∀ v' w', Own w' base e size enc v' (xs ++ ys) → Own w' base e size enc v xs → w.grownBy w' v.ownBlock → (v'.ownBlock = v.ownBlock ∨ v'.ownBlock = some w.heap.size) → wpList P ops Q rest (a.put o.dst v') w') : wpList P ops Q (o :: rest) a w := by
  obtain ⟨v', w', hrun, h2, h3, h4⟩ := run_append_slice (P := P) w base t o.type e i z size bytes ht hi hz hsize hby hzs hsz hs h1 v xs hown B A m c ys hm hr h63 hbytes hbase
  have h5 := append_keeps (P := P) w base t o.type e i z size bytes ht hi hz hsize hby hs h1 v xs hown B A m c ys hm hsz hr h63 hbytes v' w' hrun
  refine wpList_plain hgd fun _ hK => ?_
  unfold Oper.wp execOp
  simp only [ho, resolve, invoke, builtin, Sem.run_bind, Sem.run_pure, Result.andThen_ok, List.map_toArray, List.map_cons, List.map_nil, hv, hx, hrun]
  exact hK _ _ (h v' w' h2 h5 h3 h4)

end Go.Proofs.YtjplgcmfifoefaaDoor
