/- The library's string builder at this program: the shelf's structures filled, and its theorems applied. No condition beyond those named in each theorem. -/
import Derived.Test.YtjplgcmfifoefaaDoorGsT
import Derived.Test.YtjplgcmfifoefaaDoorProg
import Derived.Shelf.Strings.BuilderK
import Derived.Shelf.Strings.BuilderRune
namespace Go.Proofs.YtjplgcmfifoefaaDoor
open Go.Shelf Go.RowKit
set_option linter.unusedVariables false
set_option linter.unusedSimpArgs false

def bRen : Ren := ⟨fun
  | 166 => 23
  | 167 => 32
  | 168 => 35
  | 169 => 24
  | 240 => 36
  | 242 => 55
  | 276 => 56
  | 278 => 67
  | n => n, fun
  | 0 => 0
  | 3 => 3
  | 4 => 4
  | 5 => 5
  | 9 => 9
  | 20 => 20
  | 21 => 21
  | 37 => 61
  | 46 => 94
  | 51 => 38
  | 70 => 60
  | 72 => 63
  | 75 => 66
  | 80 => 69
  | 127 => 83
  | 164 => 104
  | n => n, fun n => n⟩
theorem bX72 : Builder.X72 Tryd.prog bRen := by constructor <;> kernel_rfl
theorem bExtra : Builder.Extra Tryd.prog bRen := { bX72 with
  t5 := by kernel_rfl
  a5 := fun w => by kernel_rfl
  z5 := fun w => by kernel_rfl
  v5 := fun w => by kernel_rfl
  infoByte := by kernel_rfl
  cellsByte := by kernel_rfl
  sizeByte := by kernel_rfl
  neB5 := by decide }
theorem bLays166 : Lays.n166 Tryd.prog bRen := by constructor <;> first | kernel_rfl | (intro w; kernel_rfl)
theorem bLays167 : Lays.n167 Tryd.prog bRen := by constructor <;> first | kernel_rfl | (intro w; kernel_rfl)
theorem bLays168 : Lays.n168 Tryd.prog bRen := by constructor <;> first | kernel_rfl | (intro w; kernel_rfl)
theorem bLays169 : Lays.n169 Tryd.prog bRen := by constructor <;> first | kernel_rfl | (intro w; kernel_rfl)
/-- a builder of the call's own -/
abbrev IsB (B b : Nat) (bs : Bs) (w : World) : Prop := Lib.IsBuilderF 63 5 B b (Lib.byteCells bs) w
abbrev Kept (b : Nat) (w w' : World) : Prop := Lib.OthersKept 5 (some b) w w'
theorem bWriteByte (B b : Nat) (bs : Bs) (c : UInt8) (w : World) (h : IsB B b bs w) (hlen : bs.length + 1 ≤ 140737488355328) (hB : B ≤ w.heap.size) :
    Calls Tryd.prog 32 #[.pointer (some ⟨b, 0, none⟩), .int .u8 (c.toNat : Int)] w fun e w' => e = .returned .nilIface ∧ IsB B b (bs ++ [c]) w' ∧ Below B w w' ∧ Kept b w w' :=
  (Any.Builder_WriteByte_k bLays167 bExtra B b (Lib.byteCells bs) (c.toNat : Int) w h (by rw [Lib.byteCells_length]; exact hlen) hB).mono fun e w' ⟨h1, h2, h3, h4⟩ => ⟨h1, by unfold IsB; rw [Lib.byteCells_append]; exact .inr h2, h3, h4⟩
theorem bWriteString (B b : Nat) (bs : Bs) (s : ByteArray) (w : World) (h : IsB B b bs w) (hlen : bs.length + s.size ≤ 140737488355328) (hB : B ≤ w.heap.size) :
    Calls Tryd.prog 23 #[.pointer (some ⟨b, 0, none⟩), .string s] w fun e w' => e = .returned (.tuple #[.int .i64 s.size, .nilIface]) ∧ IsB B b (bs ++ s.data.toList) w' ∧ Below B w w' ∧ Kept b w w' :=
  (Any.Builder_WriteString_k bLays166 bExtra B b (Lib.byteCells bs) s w h (by rw [Lib.byteCells_length]; exact hlen) hB).mono fun e w' ⟨h1, h2, h3, h4⟩ => ⟨h1, by unfold IsB; rw [Lib.byteCells_append]; exact .inr h2, h3, h4⟩
theorem bWriteRune (B b : Nat) (bs : Bs) (r : Int) (hr0 : -2147483648 ≤ r) (hr1 : r ≤ 2147483647) (w : World) (h : IsB B b bs w) (hlen : bs.length + 4 ≤ 140737488355328) (hB : B ≤ w.heap.size) :
    Calls Tryd.prog 35 #[.pointer (some ⟨b, 0, none⟩), .int .i32 r] w fun e w' => (∃ v, e = .returned v) ∧ IsB B b (bs ++ Lib.encodeRune r) w' ∧ Below B w w' ∧ Kept b w w' :=
  (Any.Builder_WriteRune_k bLays168 bExtra B b (Lib.byteCells bs) r hr0 hr1 w h (by rw [Lib.byteCells_length]; exact hlen) hB).mono fun e w' ⟨h1, h2, h3, h4⟩ => ⟨⟨_, h1⟩, by unfold IsB; rw [Lib.byteCells_append, Lib.byteCells_encodeRune]; exact .inr h2, h3, h4⟩
theorem bString (B b : Nat) (l : Bs) (w : World) (h : IsB B b l w) (hB : B ≤ w.heap.size) :
    Calls Tryd.prog 24 #[.pointer (some ⟨b, 0, none⟩)] w fun e w' => e = .returned (.string ⟨l.toArray⟩) ∧ Below B w w' :=
  (Any.Builder_String_any_k bLays169 bExtra B b l w h hB).mono fun e w' ⟨h1, _, h3, _⟩ => ⟨h1, h3⟩
end Go.Proofs.YtjplgcmfifoefaaDoor
