/- Further arguments opened: machines. -/
import Derived.Test.YtjplgcmfifoefaaDoorOpen2
import Derived.Test.YtjplgcmfifoefaaDoorEdge
import Derived.Lib.SmallJoins
namespace Go.Proofs.YtjplgcmfifoefaaDoor
open Go.ChangeShapes Go.WideShapes Go.ChangeAt Go.RowKit Go.Joins
set_option linter.unusedVariables false
set_option linter.unusedSimpArgs false

def enc32 (z : Nat) : Array Value := #[.int .u32 (z : Int)]
theorem enc32_size (z : Nat) : (enc32 z).size = 1 := rfl
theorem enc32_one (z : Nat) : (enc32 z).all (·.oneCell') = true := by simp [enc32, Value.oneCell']
section
variable {H : Type} {enc : TypeId × Value → H} {W : World} {held : Bool} {r : Go.Reach} {b0 : Nat} {v : Value} {d : DataW H} {ps : List MemPlace} {fuel : Nat}
/-- a slice, opened from its reading -/
theorem trod_slice_of {α : Type} {ea : α → Array Value} {t e : TypeId} {size : Nat} {x : DataW H × List MemPlace}
    (ht : Tryd.prog.underlying t = some (.slice e)) (hc : Tryd.prog.cellsOf e = size) (hpos : 0 < size) (hsz : ∀ y, (ea y).size = size)
    (hel : ∀ (fuel : Nat) (cs : List Value) (x : DataW H × List MemPlace), DataW.trod enc Tryd.prog W 0 (fun _ => true) held fuel e cs = some x → ∃ y, cs = (ea y).toList)
    (hf : DataW.trod enc Tryd.prog W 0 (fun _ => true) held fuel t [v] = some x) :
    ∃ (A : Option Addr) (n c : Nat) (l : List α), v = .slice A n c ∧ n = l.length ∧ n ≤ c ∧ c ≤ maxLen ∧ SliceOf W W.heap.size size ea A l ∧ ((x.1 = .nil ∧ n = 0) ∨ ∃ el sp, x.1 = .slice el sp ∧ el.length = n) := by
  rcases Deep.open_slice ht hf with ⟨hcs, hx⟩ | ⟨a, len, cap, m, n', D, Pl, hcs, _, hl, hm, hmm, hx, hi⟩
  · injection hcs with hcs _
    subst hcs
    exact ⟨none, 0, 0, [], rfl, rfl, Nat.le_refl _, by unfold maxLen; omega, .inl rfl, .inl ⟨by rw [hx], rfl⟩⟩
  · injection hcs with hcs _
    subst hcs
    have hmc : m = cap := by simpa using hmm
    subst hmc
    have key : ∀ i, i < len → ∃ y : α, W.cells? 0 (a.add (i * size)) size = some (ea y).toList := by
      intro i hlt
      obtain ⟨cs', h1, h2⟩ := hi i (by omega)
      obtain ⟨y, hy⟩ := hel _ _ _ h2
      rw [hc] at h1
      exact ⟨y, by rw [h1, hy]⟩
    obtain ⟨l, hll, hp⟩ := choose_list len key
    refine ⟨some a, len, m, l, rfl, hll.symm, hl, hm, ?_, .inr ⟨_, _, by rw [hx], by simp⟩⟩
    rcases Nat.eq_zero_or_pos l.length with h0 | h0
    · exact .inl (List.eq_nil_of_length_eq_zero h0)
    · have hcell : ∀ i (h : i < l.length) (j : Nat) (u : Value), (ea l[i])[j]? = some u → W.cell? ((a.add (i * size)).add j) = some u := by
        intro i h j u hu
        obtain ⟨_, hlen, hget⟩ := World.cells?_some (hp i h)
        have hj : j < size := by
          rw [← hsz l[i]]
          rcases Nat.lt_or_ge j (ea l[i]).size with h1 | h1
          · exact h1
          · rw [Array.getElem?_eq_none h1] at hu; cases hu
        rw [hget j hj]
        simpa using hu
      have hz : ∃ u, (ea l[0])[0]? = some u := ⟨_, Array.getElem?_eq_getElem (by rw [hsz]; exact hpos)⟩
      obtain ⟨u, hu⟩ := hz
      have h00 := hcell 0 h0 0 u hu
      have hsp : a.spot = none := by
        have := spot_none h00
        simpa [Addr.add] using this
      obtain ⟨b, off, spot⟩ := a
      simp only at hsp
      subst hsp
      have hb : b < W.heap.size := by
        have := block_lt_of_cell h00
        simpa [Addr.add] using this
      refine .inr ⟨b, off, rfl, hb, fun i h j u hu => ?_⟩
      have := hcell i h j u hu
      rw [addr_add, addr_add] at this
      exact this
end

end Go.Proofs.YtjplgcmfifoefaaDoor
