/- sim.Begin: what it makes (append to an empty row; the machine's parts), as steps. No condition beyond those named in each lemma. -/
import Derived.Test.YtgahdookojbbiaaDoorGrowR
namespace Go.Proofs.YtgahdookojbbiaaDoor
open Go.RowKit Go.Shelf Go.Maps
set_option linter.unusedVariables false
set_option linter.unusedSimpArgs false

section
variable {P : Program} (w : World)
/-- something appended to a literal that is empty: it lies in new memory, and nothing else is turned -/
theorem run_append_new {α : Type} {enc : α → Array Value} (base : Nat) (t ty e : TypeId) (i : TypeInfo) (z : Value) (size bytes : Nat) (ht : P.underlying t = some (.slice e)) (hi : P.info? e = some i) (hz : i.zero = some z)
    (hsize : i.size = size) (hby : i.bytes = bytes) (hzs : z.cells.size = size) (hsz : 0 < size) (hs : ∀ y, (enc y).size = size) (h1 : ∀ y, (enc y).all (·.oneCell') = true)
    (g : Nat) (hown : Own w base e size enc (.slice (some ⟨g, 0, none⟩) 0 0) ([] : List α)) (B : Nat) (A : Option Addr) (m c : Nat) (ys : List α) (hm : m = ys.length) (hr : SliceOf w B size enc A ys) (h0 : 0 < m)
    (h63 : m ≤ maxLen) (hbytes : m * bytes ≤ 140737488355328) (hbase : base ≤ w.heap.size) :
    ∃ v' w', (Builtin.append_ #[t, t] ty #[.slice (some ⟨g, 0, none⟩) 0 0, .slice A m c]).run P w = .ok v' w' ∧ Own w' base e size enc v' ys ∧ Below w.heap.size w w' := by
  obtain ⟨v', w', hrun, h2, h3, h4⟩ := run_append_slice (P := P) w base t ty e i z size bytes ht hi hz hsize hby hzs hsz hs h1 _ [] hown B A m c ys hm hr (by simpa using h63) (by simpa using hbytes) hbase
  refine ⟨v', w', hrun, by simpa using h2, ?_⟩
  subst hm
  obtain ⟨b, off, rfl, _, hrow⟩ := hr.at_ h0
  have hcells : ∀ j u, (flat enc ys)[j]? = some u → w.cell? ((⟨b, off, none⟩ : Addr).add j) = some u := by
    intro j u hu
    have hj : j < ys.length * size := by
      rw [← flat_length hs]
      rcases Nat.lt_or_ge j (flat enc ys).length with h | h
      · exact h
      · rw [List.getElem?_eq_none h] at hu; cases hu
    have hdm : j = j / size * size + j % size := by rw [Nat.mul_comm]; exact (Nat.div_add_mod _ _).symm
    have hi2 : j / size < ys.length := Nat.div_lt_of_lt_mul (by rw [Nat.mul_comm]; exact hj)
    have hq : j % size < size := Nat.mod_lt _ hsz
    have hu' : (enc ys[j / size])[j % size]? = some u := by
      rw [← flat_at hs ys _ _ hi2 hq, ← hdm]; exact hu
    have := hrow _ hi2 _ _ hu'
    rw [addr_add]
    rw [show off + j / size * size + j % size = off + j by omega] at this
    exact this
  have hl := flat_length hs ys
  subst hsize
  rw [run_append_grow (P := P) w t ty e i z ht hi hz ⟨g, 0, none⟩ 0 0 [] (by simp) (fun j v h => by simp at h) ⟨b, off, none⟩ ys.length c (flat enc ys) hl hcells (by omega) (by simp only [maxLen] at h63; omega) (growslice_fits (by omega) (by rw [hby]; simpa using hbytes))] at hrun
  injection hrun with _ hw
  subst hw
  exact ⟨rfl, rfl, rfl, by simp, fun k hk => Below.heap_alloc w.drew _ k hk⟩
end
end Go.Proofs.YtgahdookojbbiaaDoor
