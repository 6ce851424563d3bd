/- Rows of bytes: one byte appended, a text made of them. No condition beyond those named in each lemma. -/
import Derived.Test.YtjplgcmfifoefaaDoorQtD
import Derived.Laws.IdiomStrings
import Derived.Laws.BytesString
namespace Go.Proofs.YtjplgcmfifoefaaDoor
open Go.RowKit Go.Maps
set_option linter.unusedVariables false
set_option linter.unusedSimpArgs false
attribute [local go_sem] Oper.semAt_some

def encB (b : UInt8) : Array Value := #[.int .u8 (b.toNat : Int)]
theorem encB_size (b : UInt8) : (encB b).size = 1 := rfl
theorem encB_one (b : UInt8) : (encB b).all (·.oneCell') = true := by simp [encB, Value.oneCell']
theorem info_b3 : (Tryd.prog.info? 5).map (fun i => (i.zero, i.size, i.bytes)) = some (some (.int .u8 0), 1, 1) := by kernel_rfl
theorem info_bS : (Tryd.prog.info? 5).map (·.size) = some 1 := by kernel_rfl
theorem run_bs1 (w : World) (y : Int) : (Instr.buildSlice 61 1 #[(0, .int .u8 y)]).run Tryd.prog w = .ok (.slice (some ⟨w.heap.size, 0, none⟩) 1 1) (w.alloc (.cells #[.int .u8 y] 5)) := by kernel_rfl
theorem under_bytes : Tryd.prog.underlying 61 = some (.slice (Tryd.prog.elem 61)) := by kernel_rfl
theorem size_byteE (w : World) : (sizeOf (Tryd.prog.elem 61)).run Tryd.prog w = .ok 1 w := by kernel_rfl
def bytesU (u : List Nat) : List UInt8 := u.map UInt8.ofNat
theorem bytesU_nat {b : Nat} (h : b < 256) : (UInt8.ofNat b).toNat = b := by simp; omega
section
variable {ops : Array Oper} {rest : List Oper} {o : Oper} {a : Act} {w : World} {Q : Exit → Act → World → Prop}
theorem wl_bs1 (hgd : o.guard = none) (x : Operand) (ho : o.op = .buildSlice 61 1 #[(0, x)]) (y : UInt8) (hx : a.eval x = .int .u8 (y.toNat : Int))
    (h : wpList Tryd.prog ops Q rest (a.put o.dst (.slice (some ⟨w.heap.size, 0, none⟩) 1 1)) (w.alloc (.cells (encB y) 5))) : wpList Tryd.prog ops Q (o :: rest) a w :=
  wpList_plain hgd fun _ hK => by
    unfold Oper.wp execOp
    simp only [ho, List.map_toArray, List.map_cons, List.map_nil, hx, Sem.run_bind, run_bs1, Result.andThen_ok, Sem.run_pure]
    exact hK _ _ h
/-- one byte appended to a row of the call's own -/
theorem wl_pushB (hgd : o.guard = none) (s x : Operand) (ho : o.op = .call { callee := .builtin .append, args := #[s, x], argTypes := #[61, 61] })
    (base : Nat) (l : List UInt8) (z : UInt8) {A : Option Addr} {n c g : Nat} (hs : a.eval s = .slice A n c) (hx : a.eval x = .slice (some ⟨g, 0, none⟩) 1 1) (hb1 : Blk w g 5 (encB z)) (hown : Own w base 5 1 encB (.slice A n c) l) (hn : n = l.length) (hl : l.length ≤ 1099511627776) (hbase : base ≤ w.heap.size)
    (h : ∀ A' c' w', Own w' base 5 1 encB (.slice A' (n + 1) c') (l ++ [z]) → w.grownBy w' (Value.slice A n c).ownBlock → wpList Tryd.prog ops Q rest (a.put o.dst (.slice A' (n + 1) c')) w') : wpList Tryd.prog ops Q (o :: rest) a w := by
  obtain ⟨ii, hii, hz0, hz1, hz2⟩ := info_parts info_b3
  subst hn
  refine wl_append _ hgd _ _ 61 ho base 5 ii _ 1 1 Tryd.underlying61 hii hz0 hz1 hz2 rfl (by decide) encB_size encB_one (.slice A l.length c) l hs hown _ _ 1 1 [z] hx rfl (slice_one (enc := encB) hb1) (by unfold maxLen; omega) (by omega) hbase ?_
  intro v' w' ho' hg hv
  obtain ⟨A', c', rfl, _, _⟩ := ho'.shape
  have hl8 : (l ++ [z]).length = l.length + 1 := by simp
  rw [hl8] at ho' hv ⊢
  exact h _ _ _ ho' hg
theorem str_of {A : Option Addr} {n c B : Nat} {l : List UInt8} (hn : n = l.length) (hs : SliceOf w B 1 encB A l) : (Go.convert 61 9 (.slice A n c)).run Tryd.prog w = .ok (.string ⟨l.toArray⟩) w := by
  subst hn
  rcases A with _ | a
  · have hl : l = [] := by
      rcases hs with h | ⟨b, off, h, _⟩
      · exact h
      · cases h
    subst hl
    rw [run_convert_bytes_string w _ _ 5 none _ c Tryd.underlying61 Tryd.underlying5 Tryd.underlying9]
    rfl
  · refine run_convert_bytes_back w _ _ 5 a c l Tryd.underlying61 Tryd.underlying5 Tryd.underlying9 fun j hj => ?_
    obtain ⟨b, off, e, _, hrow⟩ := hs.at_ (by omega)
    injection e with e
    subst e
    have := hrow j hj 0 _ rfl
    rw [Nat.mul_one] at this
    rw [addr_add]
    exact this
end
theorem wl_conv_str {ops : Array Oper} {rest : List Oper} {o : Oper} {a : Act} {w : World} {Q : Exit → Act → World → Prop} (hgd : o.guard = none) (x : Operand) (ho : o.op = .convert 61 9 x) {A : Option Addr} {n c B : Nat} (l : List UInt8) (hx : a.eval x = .slice A n c) (hn : n = l.length) (hs : SliceOf w B 1 encB A l)
    (h : wpList Tryd.prog ops Q rest (a.put o.dst (.string ⟨l.toArray⟩)) w) : wpList Tryd.prog ops Q (o :: rest) a w :=
  wpList_plain hgd fun _ hK => by
    unfold Oper.wp execOp
    simp only [ho, hx, Sem.run_bind, str_of hn hs, Result.andThen_ok, Sem.run_pure]
    exact hK _ _ h
end Go.Proofs.YtjplgcmfifoefaaDoor
