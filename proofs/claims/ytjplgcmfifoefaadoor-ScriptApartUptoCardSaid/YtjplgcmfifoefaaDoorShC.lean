/- What the program's own tables hold, and that it stays; the library's other contracts at this program. No condition beyond those named in each lemma. -/
import Derived.Test.YtjplgcmfifoefaaDoorShB
import Derived.Test.YtjplgcmfifoefaaDoorEvA
import Derived.Test.YtjplgcmfifoefaaDoorShelf
import Derived.WalkSmall
namespace Go.Proofs.YtjplgcmfifoefaaDoor
open Go.RowKit Go.Maps
set_option linter.unusedVariables false
set_option linter.unusedSimpArgs false

def strV (l : Bs) : Value := .string ⟨l.toArray⟩
/-- the table of kinds as it lies: a first part and its letters, thirteen times -/
def rowsC : Array Value := ((List.range 13).flatMap fun k => [strV (firsts.getD k []), strV (letters.getD k [])]).toArray
/-- the tables of the program and of the library lie where the program lays them -/
structure SOk (w : World) : Prop where
  rows : RowAt w 0 0 rowsC
  utf : Lib.Utf8Tabs 1 2 w
  pow : Lib.TabIs Tryd.prog w "internal/strconv.uint64pow10" .u64 Lib.pow10Tab
  syn : ∃ ev, w.cell? ⟨5, 0, none⟩ = some ev ∧ (ev = .nilIface ∨ ∃ te pe, ev = .iface te pe)
  ran : ∃ ev, w.cell? ⟨6, 0, none⟩ = some ev ∧ (ev = .nilIface ∨ ∃ te pe, ev = .iface te pe)
theorem gPow : Tryd.prog.globalNamed "internal/strconv.uint64pow10" = some 4 := by kernel_rfl
theorem SOk.then_ {n : Nat} {W W' : World} (h : SOk W) (hn : 7 ≤ n) (hb : Below n W W') : SOk W' := by
  refine ⟨fun j v hv => ?_, ⟨fun c hc => ?_, fun i hi => ?_⟩, ?_, ?_, ?_⟩
  · exact (hb.cell (p := ⟨0, 0 + j, none⟩) (by simp only; omega)).trans (h.rows j v hv)
  · exact (hb.cell (p := ⟨1, c, none⟩) (by simp only; omega)).trans (h.utf.1 c hc)
  · exact ⟨(hb.cell (p := ⟨2, 2 * i, none⟩) (by simp only; omega)).trans (h.utf.2 i hi).1, (hb.cell (p := ⟨2, 2 * i + 1, none⟩) (by simp only; omega)).trans (h.utf.2 i hi).2⟩
  · exact var?_below hb gPow (by omega) h.pow
  · obtain ⟨ev, h1, h2⟩ := h.syn
    exact ⟨ev, (hb.cell (p := ⟨5, 0, none⟩) (by simp only; omega)).trans h1, h2⟩
  · obtain ⟨ev, h1, h2⟩ := h.ran
    exact ⟨ev, (hb.cell (p := ⟨6, 0, none⟩) (by simp only; omega)).trans h1, h2⟩
theorem SOk.size {W : World} (h : SOk W) : 7 ≤ W.heap.size := by
  obtain ⟨ev, h1, _⟩ := h.ran
  refine Classical.byContradiction fun hn => ?_
  have : W.heap[6]? = none := Array.getElem?_eq_none (by omega)
  simp [World.cell?, this] at h1
theorem bytes_of (s : ByteArray) : (⟨s.data.toList.toArray⟩ : ByteArray) = s := by cases s; simp
theorem extract_bytes (s : ByteArray) (i j : Nat) (hj : j ≤ s.size) : (s.extract i j).data.toList = (s.data.toList.take j).drop i := by
  rw [ByteArray.data_extract, Array.toList_extract, List.extract_eq_take_drop, List.drop_take]
theorem isB_below {B b : Nat} {bs : Bs} {W W' : World} (h : IsB B b bs W) (hb : Below W.heap.size W W') : IsB B b bs W' := by
  have key : ∀ p, Lib.BuilderAtF 63 5 B b p (Lib.byteCells bs) W → Lib.BuilderAtF 63 5 B b p (Lib.byteCells bs) W' := by
    intro p h
    obtain ⟨hB, v, hbk, hown, hne⟩ := h
    have hlt : b < W.heap.size := (Array.getElem?_eq_some_iff.1 hbk).1
    refine ⟨hB, v, (hb.block b hlt).trans hbk, ⟨hown.1, ?_⟩, hne⟩
    rcases hown.2 with hn | ⟨g, cap, cur, fz, hv, hbg, hg, rest⟩
    · exact .inl hn
    · have hg2 : g < W.heap.size := (Array.getElem?_eq_some_iff.1 hg).1
      exact .inr ⟨g, cap, cur, fz, hv, hbg, (hb.block g hg2).trans hg, rest⟩
  exact h.elim (fun x => .inl (key _ x)) (fun x => .inr (key _ x))
theorem decode_any (s : ByteArray) (w : World) (hS : SOk w) : Calls Tryd.prog 33 #[.string s] w fun e w' => e = .returned (.tuple #[.int .i32 (Lib.decodeGo s).1, .int .i64 (Lib.decodeGo s).2]) ∧ Below w.heap.size w w' :=
  Tryd.utf8_DecodeRuneInString s w hS.utf
theorem itoa_any (n : Int) (h0 : -9223372036854775808 ≤ n) (h1 : n ≤ 9223372036854775807) (w : World) (hS : SOk w) : Calls Tryd.prog 30 #[.int .i64 n] w fun e w' => e = .returned (strV (Lib.itoa n)) ∧ Below w.heap.size w w' :=
  (Tryd.strconv_Itoa n h0 h1 w hS.pow).mono fun e w' ⟨he, k, os, hw⟩ => ⟨he, by
    subst hw
    refine ⟨rfl, rfl, rfl, ?_, fun j hj => ?_⟩
    · show w.heap.size ≤ (w.heap ++ os).size
      rw [Array.size_append]
      omega
    · show (w.heap ++ os)[j]? = _
      exact Array.getElem?_append_left hj⟩
end Go.Proofs.YtjplgcmfifoefaaDoor
