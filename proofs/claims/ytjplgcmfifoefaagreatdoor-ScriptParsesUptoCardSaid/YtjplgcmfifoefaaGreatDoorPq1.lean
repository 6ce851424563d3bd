/- Part 1 of a proof; packed: the texts that it was made of follow one another. No condition beyond those named in each lemma. -/
import Derived.Test.YtjplgcmfifoefaaGreatDoorPr1
import Derived.Test.YtjplgcmfifoefaaGreatDoorPr2
import Derived.Test.YtjplgcmfifoefaaGreatDoorPr3
import Derived.Test.YtjplgcmfifoefaaGreatDoorPr4
import Derived.Test.YtjplgcmfifoefaaGreatDoorPr5
import Derived.Test.YtjplgcmfifoefaaGreatDoorPr6
import Derived.Test.YtjplgcmfifoefaaGreatDoorPr7
import Derived.Test.YtjplgcmfifoefaaGreatDoorPr8
import Derived.Test.YtjplgcmfifoefaaGreatDoorProg
import Derived.BigQuiet
import Derived.BigRegion
import Derived.ChangeKeysEq
import Derived.Deep.AppendLies
import Derived.Deep.CutRange
import Derived.Deep.DeepCutAuto
import Derived.Deep.DeepFit
import Derived.Deep.DeepMust
import Derived.Deep.Draws
import Derived.Deep.LoopGhost
import Derived.Deep.QuietTactic
import Derived.Deep.RegionHeld3
import Derived.Laws.BitsAllLaws
import Derived.Laws.BitsLemmas
import Derived.Laws.BytesString
import Derived.Laws.IdiomStrings
import Derived.Laws.OwnMore
import Derived.Laws.Rows
import Derived.Laws.StructEq
import Derived.Lib.AtoiAll
import Derived.Lib.Bytealg
import Derived.Lib.Hide
import Derived.Lib.IndexLaws
import Derived.Lib.ItoaLen
import Derived.Lib.ItoaNum
import Derived.Lib.Join
import Derived.Lib.MapLaws
import Derived.Lib.SmallJoins
import Derived.Lib.Strings
import Derived.Lib.TrimAscii
import Derived.Lib.TrimUEq
import Derived.Lib.Walk
import Derived.Maps.AppendAt
import Derived.Outline
import Derived.OwnWalk
import Derived.RegionTactic
import Derived.Shelf.Abstract
import Derived.Shelf.Bits.Mul64
import Derived.Shelf.LaysC
import Derived.Shelf.LaysM
import Derived.Shelf.Small.Strs
import Derived.Shelf.Small.Utf8
import Derived.Shelf.Strconv.Atoi
import Derived.Shelf.Strconv.AtoiAll
import Derived.Shelf.Strconv.AtoiErrFast
import Derived.Shelf.Strconv.AtoiFail
import Derived.Shelf.Strconv.AtoiInnerAll
import Derived.Shelf.Strconv.AtoiLong
import Derived.Shelf.Strconv.Clone
import Derived.Shelf.Strconv.Itoa0
import Derived.Shelf.Strconv.Itoa1
import Derived.Shelf.Strconv.Itoa2
import Derived.Shelf.Strconv.Itoa3
import Derived.Shelf.Strconv.Lower
import Derived.Shelf.Strconv.ParseInt10
import Derived.Shelf.Strconv.ParseIntEmpty
import Derived.Shelf.Strconv.ParseUint10
import Derived.Shelf.Strconv.ParseUint10Any
import Derived.Shelf.Strconv.ParseUint10Empty
import Derived.Shelf.Strconv.RangeError
import Derived.Shelf.Strconv.SyntaxError
import Derived.Shelf.Strconv.ToError
import Derived.Shelf.Strconv.ToErrorRange
import Derived.Shelf.Strings.AsciiSet
import Derived.Shelf.Strings.Builder1
import Derived.Shelf.Strings.Builder2
import Derived.Shelf.Strings.BuilderF
import Derived.Shelf.Strings.BuilderK
import Derived.Shelf.Strings.BuilderRune
import Derived.Shelf.Strings.OnBuilder
import Derived.Shelf.Strings.Prefix
import Derived.Shelf.Strings.Repeat
import Derived.Shelf.Strings.Runes
import Derived.Shelf.Strings.Search1
import Derived.Shelf.Strings.Trim
import Derived.Shelf.Unicode.Decode
import Derived.Shelf.Unicode.DecodeAny
import Derived.Shelf.Unicode.DecodeSlow
import Derived.StillTailTactics
import Derived.WalkKit
import Derived.WalkLawsBesides
import Derived.WalkSmall
import Derived.WalkSpells
namespace Go.Proofs.YtjplgcmfifoefaaGreatDoor
open Go.Lib
set_option linter.unusedVariables false
set_option linter.unusedSimpArgs false

theorem isPl_34 (t : Bs) : isPl (34 :: t) = false := by
  unfold isPl
  simp [plainB]
theorem sc_34 (f : Nat) (t : Bs) : sc f (34 :: t) = 0 := by
  cases f with
  | zero => rfl
  | succ f => unfold sc; rw [if_pos (by decide)]
theorem drop_blank : ∀ (p l : Bs), blank p → (p ++ l).dropWhile (· == 32) = l.dropWhile (· == 32)
  | [], l, _ => rfl
  | b :: p, l, h => by
    have hb : b = 32 := h b (by simp)
    subst hb
    show List.dropWhile (· == 32) (32 :: (p ++ l)) = _
    rw [List.dropWhile_cons_of_pos (by rfl)]
    exact drop_blank p l fun c hc => h c (by simp [hc])
theorem parts_blank (f : Nat) (p l : Bs) (hp : blank p) : partsG f (p ++ l) = partsG f l := by
  cases f with
  | zero => rfl
  | succ f => unfold partsG; rw [drop_blank p l hp]
end Go.Proofs.YtjplgcmfifoefaaGreatDoor
namespace Go.Proofs.YtjplgcmfifoefaaGreatDoor
open Go.Lib
set_option linter.unusedVariables false
set_option linter.unusedSimpArgs false

theorem parse_snoc (c : UInt8) : ∀ (l : Bs) (acc : Nat), parseUint10 acc (l ++ [c]) = match parseUint10 acc l with
    | .ok v => parseUint10 v [c]
    | NumEnd.syntax => NumEnd.syntax
    | .range => .range
  | [], acc => rfl
  | b :: l, acc => by
    rw [List.cons_append, parseUint10, parseUint10]
    split
    · split
      · rfl
      · split
        · rfl
        · exact parse_snoc c l _
    · rfl
theorem parse_dec (u : Nat) : u < 18446744073709551616 → parseUint10 0 (decDigits u) = .ok u := by
  induction u using Nat.strongRecOn with
  | _ u ih =>
    intro hu
    rw [decDigits]
    by_cases h : u < 10
    · rw [dif_pos h]
      have e := byte_dig h
      simp only [parseUint10, e]
      rw [if_pos (by omega), if_neg (by omega), if_neg (by omega)]
      congr 1
      omega
    · rw [dif_neg h, parse_snoc, ih (u / 10) (by omega) (by omega)]
      have hm : u % 10 < 10 := Nat.mod_lt _ (by decide)
      have e := byte_dig hm
      simp only [parseUint10, e]
      rw [if_pos (by omega), if_neg (by omega), if_neg (by omega)]
      congr 1
      omega
theorem atoi_itoa (n : Int) (h0 : -9223372036854775808 ≤ n) (h1 : n ≤ 9223372036854775807) : atoiAll (itoa n) = .ok n := by
  unfold itoa
  by_cases h : n < 0
  · rw [if_pos h]
    have hp := parse_dec n.natAbs (by omega)
    have hm : parseMag (decDigits n.natAbs) = .ok n.natAbs := by unfold parseMag; rw [if_neg (dec_digit _).1, hp]
    have e : (45 : UInt8).toNat = 45 := by decide
    simp only [atoiAll, e]
    simp only [or_true, if_true, hm, not_true, false_and, if_false, true_and]
    rw [if_neg (by omega)]
    congr 1
    omega
  · rw [if_neg h]
    have hp := parse_dec n.toNat (by omega)
    obtain ⟨c, r, e⟩ := List.exists_cons_of_ne_nil (dec_digit n.toNat).1
    have hc := (dec_digit n.toNat).2 c (by rw [e]; simp)
    rw [e] at hp ⊢
    have hm : parseMag (c :: r) = .ok n.toNat := by unfold parseMag; rw [if_neg (by simp), hp]
    simp only [atoiAll]
    rw [if_neg (by omega), hm]
    have hn : ¬ c.toNat = 45 := by omega
    simp only [hn, if_false, not_false_eq_true, true_and, false_and]
    rw [if_neg (by omega)]
    congr 1
    omega
theorem intW_itoa (n : Int) (h0 : -9223372036854775808 ≤ n) (h1 : n ≤ 9223372036854775807) : intW (itoa n) = some n := by
  unfold intW
  rw [atoi_itoa n h0 h1]
  simp
theorem intW_some {w : Bs} {v : Int} (h : intW w = some v) : w = itoa v := by
  unfold intW at h
  split at h
  · split at h
    · next e => injection h with h; rw [← h]; exact e.symm
    · cases h
  · cases h
end Go.Proofs.YtjplgcmfifoefaaGreatDoor
namespace Go.Proofs.YtjplgcmfifoefaaGreatDoor
open Go.RowKit

section
variable {w w' : World} {g : Nat} {t : TypeId} {cs : Array Value}
theorem Blk.far (h : Blk w g t cs) {p : Addr} (hp : g ≠ p.block) (u : Value) : Blk (w.setCell p u) g t cs := (Below.heap_setCell w p u g hp).trans h
end

section
variable {α : Type} {w w' : World} {B B' size : Nat} {enc : α → Array Value} {A : Option Addr} {xs : List α}
end

end Go.Proofs.YtjplgcmfifoefaaGreatDoor
namespace Go.Proofs.YtjplgcmfifoefaaGreatDoor
open Go.RowKit
set_option linter.unusedVariables false
set_option linter.unusedSimpArgs false

section
variable {P : Program} (w : World)
theorem append_keeps {α : Type} {enc : α → Array Value} (base : Nat) (t ty e : TypeId) (i : TypeInfo) (z : Value) (size bytes : Nat) (ht : P.underlying t = some (.slice e)) (hi : P.info? e = some i) (hz : i.zero = some z)
    (hsize : i.size = size) (hby : i.bytes = bytes) (hs : ∀ y, (enc y).size = size) (h1 : ∀ y, (enc y).all (·.oneCell') = true)
    (v : Value) (xs : List α) (hown : Own w base e size enc v xs) (B : Nat) (A : Option Addr) (m c : Nat) (ys : List α) (hm : m = ys.length) (hsz : 0 < size) (hr : SliceOf w B size enc A ys)
    (h63 : xs.length + m ≤ maxLen) (hbytes : (xs.length + m) * bytes ≤ 140737488355328)
    (v' : Value) (w' : World) (hrun : (Builtin.append_ #[t, t] ty #[v, .slice A m c]).run P w = .ok v' w') : Own w' base e size enc v xs := by
  subst hm
  rcases A with _ | ad
  · have hm : ys = [] := by
      rcases hr with h | ⟨b, off, h, _⟩
      · exact h
      · cases h
    subst hm
    rw [List.length_nil, run_append_none w base t ty e i ht hi size v _ _ hown c] at hrun
    injection hrun with _ hw
    subst hw
    exact hown
  · rcases hown.2 with ⟨rfl, h0⟩ | ⟨g, cap, cur, rfl, hbg, hg, hnc, hcm, hcs, htake⟩
    · exact ⟨hown.1, .inl ⟨rfl, h0⟩⟩
    · have hcells : ∀ j u, (flat enc ys)[j]? = some u → w.cell? (ad.add j) = some u := by
        intro j u hu
        have hj : j < ys.length * size := by
          rw [← flat_length hs]
          rcases Nat.lt_or_ge j (flat enc ys).length with h | h
          · exact h
          · rw [List.getElem?_eq_none h] at hu; cases hu
        have hpos : 0 < ys.length := by
          rcases Nat.eq_zero_or_pos ys.length with h0 | h0
          · rw [h0, Nat.zero_mul] at hj; omega
          · exact h0
        obtain ⟨b, off, e1, _, hrow⟩ := hr.at_ hpos
        injection e1 with e1
        subst e1
        have hdm : j = j / size * size + j % size := by rw [Nat.mul_comm]; exact (Nat.div_add_mod _ _).symm
        have hi2 : j / size < ys.length := Nat.div_lt_of_lt_mul (by rw [Nat.mul_comm]; exact hj)
        have hq : j % size < size := Nat.mod_lt _ hsz
        have hu' : (enc ys[j / size])[j % size]? = some u := by
          rw [← flat_at hs ys _ _ hi2 hq, ← hdm]; exact hu
        have := hrow _ hi2 _ _ hu'
        rw [addr_add]
        rw [show off + j / size * size + j % size = off + j by omega] at this
        exact this
      have hone : ∀ u ∈ flat enc ys, u.oneCell' = true := by
        intro u hu
        simp only [flat, List.mem_flatMap] at hu
        obtain ⟨y, _, hy⟩ := hu
        exact (Array.all_eq_true_iff_forall_mem.1 (h1 y)) u (by simpa using hy)
      have hl := flat_length hs ys
      subst hsize
      by_cases hroom : xs.length + ys.length ≤ cap
      · have hfit : xs.length * i.size + (flat enc ys).length ≤ cur.size := by rw [hl, hcs, ← Nat.add_mul]; exact Nat.mul_le_mul_right _ hroom
        rw [run_append_room (P := P) w t ty e i ht hi g xs.length cap cur hg ad ys.length c (flat enc ys) hl hcells hone hroom hfit] at hrun
        injection hrun with _ hw
        subst hw
        refine ⟨hown.1, .inr ⟨g, cap, _, rfl, hbg, setRow_heap w g cur _ e _ hg, hnc, hcm, ?_, ?_⟩⟩
        · simp only [List.size_toArray, List.length_append, List.length_take, List.length_drop, Array.length_toList]
          omega
        · rw [htake, List.append_assoc]
          rw [← hown.1]
          exact List.take_left' rfl
      · have holds : ∀ j u, (flat enc xs)[j]? = some u → w.cell? ((⟨g, 0, none⟩ : Addr).add j) = some u := World.ownsRow.cells hown (g := g) rfl
        have hb2 : (xs.length + ys.length) * i.bytes ≤ 140737488355328 := by rw [hby]; exact hbytes
        have hsmall : xs.length + ys.length ≤ 9223372036854775807 := by simp only [maxLen] at h63; omega
        rw [run_append_grow (P := P) w t ty e i z ht hi hz ⟨g, 0, none⟩ xs.length cap (flat enc xs) hown.1 holds ad ys.length c (flat enc ys) hl hcells (by omega) (by omega) (growslice_fits (by omega) hb2)] at hrun
        injection hrun with _ hw
        subst hw
        exact hown.drew.alloc _
end

/-- as wl_append; the old slice reads as before, too -/
theorem wl_append_keep {P : Program} {w : World} {α : Type} {enc : α → Array Value} {ops : Array Oper} {rest : List Oper} {o : Oper} {a : Act} {Q : Exit → Act → World → Prop} (hgd : o.guard = none) (s x : Operand) (t : TypeId)
    (ho : o.op = .call { callee := .builtin .append, args := #[s, x], argTypes := #[t, t] })
    (base : Nat) (e : TypeId) (i : TypeInfo) (z : Value) (size bytes : Nat) (ht : P.underlying t = some (.slice e)) (hi : P.info? e = some i) (hz : i.zero = some z)
    (hsize : i.size = size) (hby : i.bytes = bytes) (hzs : z.cells.size = size) (hsz : 0 < size) (hs : ∀ y, (enc y).size = size) (h1 : ∀ y, (enc y).all (·.oneCell') = true)
    (v : Value) (xs : List α) (hv : a.eval s = v) (hown : Own w base e size enc v xs) (B : Nat) (A : Option Addr) (m c : Nat) (ys : List α) (hx : a.eval x = .slice A m c) (hm : m = ys.length) (hr : SliceOf w B size enc A ys)
    (h63 : xs.length + m ≤ maxLen) (hbytes : (xs.length + m) * bytes ≤ 140737488355328) (hbase : base ≤ w.heap.size)
    (h : ∀ v' w', Own w' base e size enc v' (xs ++ ys) → Own w' base e size enc v xs → w.grownBy w' v.ownBlock → (v'.ownBlock = v.ownBlock ∨ v'.ownBlock = some w.heap.size) → wpList P ops Q rest (a.put o.dst v') w') : wpList P ops Q (o :: rest) a w := by
  obtain ⟨v', w', hrun, h2, h3, h4⟩ := run_append_slice (P := P) w base t o.type e i z size bytes ht hi hz hsize hby hzs hsz hs h1 v xs hown B A m c ys hm hr h63 hbytes hbase
  have h5 := append_keeps (P := P) w base t o.type e i z size bytes ht hi hz hsize hby hs h1 v xs hown B A m c ys hm hsz hr h63 hbytes v' w' hrun
  refine wpList_plain hgd fun _ hK => ?_
  unfold Oper.wp execOp
  simp only [ho, resolve, invoke, builtin, Sem.run_bind, Sem.run_pure, Result.andThen_ok, List.map_toArray, List.map_cons, List.map_nil, hv, hx, hrun]
  exact hK _ _ (h v' w' h2 h5 h3 h4)

end Go.Proofs.YtjplgcmfifoefaaGreatDoor
namespace Go.Proofs.YtjplgcmfifoefaaGreatDoor
open Go.RowKit Go.Maps Go.WideMaps
set_option linter.unusedVariables false
set_option linter.unusedSimpArgs false

section
variable {P : Program} {ops : Array Oper} {S : Nat → GSpec} {Q : Exit → Act → World → Prop} {i : Nat} {o : Oper} {a : Act} {w : World}

end

section
variable {ops : Array Oper} {S : Nat → GSpec} {Q : Exit → Act → World → Prop} {i : Nat} {o : Oper} {a : Act} {w : World}
end

section
variable {P : Program} {ops : Array Oper} {S : Nat → GSpec} {Q : Exit → Act → World → Prop} {i : Nat} {o : Oper} {a : Act} {w : World}
theorem gs_add_i64 (hw : Region.wanted o (yielded ops a.tmps) = true) (t t2 : TypeId) (x y : Operand) (ho : o.op = .binOp .add t x y t2) (p q : Int) (hx : a.eval x = .int .i64 p) (hy : a.eval y = .int .i64 q)
    (hr : IntKind.i64.wrap (p + q) = p + q) (hp : (S i).p (.int .i64 (p + q)) w) : GStep P ops S Q i o a w :=
  gs_bin hw _ _ _ x y ho _ _ _ hx hy (by rw [eqGuard_at_int]; rfl) (by rw [binOp_add]; show (Op.intArith .add .i64 p q).run P w = _; simp [Op.intArith, hr]) hp
end
section
variable {P : Program} {ops : Array Oper} {S : Nat → GSpec} {Q : Exit → Act → World → Prop} {i : Nat} {o : Oper} {a : Act} {w : World}
end
section
variable {ops : Array Oper} {S : Nat → GSpec} {Q : Exit → Act → World → Prop} {i : Nat} {o : Oper} {a : Act} {w : World}
end

section
variable {P : Program} {ops : Array Oper} {S : Nat → GSpec} {Q : Exit → Act → World → Prop} {i : Nat} {o : Oper} {a : Act} {w : World}
end
section
variable {ops : Array Oper} {S : Nat → GSpec} {Q : Exit → Act → World → Prop} {i : Nat} {o : Oper} {a : Act} {w : World}
end

section
variable {P : Program} {ops : Array Oper} {S : Nat → GSpec} {Q : Exit → Act → World → Prop} {i : Nat} {o : Oper} {a : Act} {w : World}
end

section
variable {P : Program} {ops : Array Oper} {S : Nat → GSpec} {Q : Exit → Act → World → Prop} {i : Nat} {o : Oper} {a : Act} {w : World}
end

section
variable {P : Program} {ops : Array Oper} {S : Nat → GSpec} {Q : Exit → Act → World → Prop} {i : Nat} {o : Oper} {a : Act} {w : World}
end
section
variable {P : Program} {ops : Array Oper} {S : Nat → GSpec} {Q : Exit → Act → World → Prop} {i : Nat} {o : Oper} {a : Act} {w : World}
end
section
variable {ops : Array Oper} {S : Nat → GSpec} {Q : Exit → Act → World → Prop} {i : Nat} {o : Oper} {a : Act} {w : World}
end
end Go.Proofs.YtjplgcmfifoefaaGreatDoor
namespace Go.Proofs.YtjplgcmfifoefaaGreatDoor
open Go.RowKit Go.Maps Go.WideMaps
set_option linter.unusedVariables false
set_option linter.unusedSimpArgs false

section
variable {α : Type} {enc : α → Array Value} {size : Nat}
end

section
variable {ops : Array Oper} {rest : List Oper} {o : Oper} {a : Act} {w : World} {Q : Exit → Act → World → Prop}
end
def m5 : BSet := 5 + 5 * 2 ^ 64 + 5 * 2 ^ 128 + 5 * 2 ^ 192
section
variable {ops : Array Oper} {S : Nat → GSpec} {Q : Exit → Act → World → Prop} {i : Nat} {o : Oper} {a : Act} {w : World}
end
section
variable {ops : Array Oper} {S : Nat → GSpec} {Q : Exit → Act → World → Prop} {i : Nat} {o : Oper} {a : Act} {w : World}
end
end Go.Proofs.YtjplgcmfifoefaaGreatDoor
namespace Go.Proofs.YtjplgcmfifoefaaGreatDoor
open Go.Lib
set_option linter.unusedVariables false
set_option linter.unusedSimpArgs false

theorem firsts_inj : ∀ k, k < 13 → ∀ j, j < 13 → firsts.getD k [] = firsts.getD j [] → k = j := by decide
end Go.Proofs.YtjplgcmfifoefaaGreatDoor
namespace Go.Proofs.YtjplgcmfifoefaaGreatDoor
open Go.RowKit Go.Shelf Go.Maps
set_option linter.unusedVariables false
set_option linter.unusedSimpArgs false
attribute [local go_sem] Oper.semAt_some

section
variable {ops : Array Oper} {S : Nat → GSpec} {Q : Exit → Act → World → Prop} {i : Nat} {o : Oper} {a : Act} {w : World}
end
set_option maxRecDepth 100000 in
set_option maxHeartbeats 4000000 in
theorem digit_any (b : UInt8) (w : World) : Calls Tryz.prog 47 #[.int .u8 (b.toNat : Int)] w fun e w' => e = .returned (.int .i64 (nibZ b)) ∧ Below w.heap.size w w' := by
  by_cases c1 : 48 ≤ b.toNat
  · have f1 : (48 : Int) ≤ ((b.toNat : Nat) : Int) := by omega
    by_cases c2 : b.toNat ≤ 57
    · have f2 : ((b.toNat : Nat) : Int) ≤ 57 := by omega
      have hv : Hid (nibZ b = ((b.toNat : Nat) : Int) - 48) := Lib.hid (by unfold nibZ nib; rw [if_pos ⟨c1, c2⟩]; show ((b.toNat - 48 : Nat) : Int) = _; omega)
      clear c1 c2
      go_enter Tryz.func47, Tryz.ntmps47
      go_wp2_with (fail)
      go_ret
      exact ⟨by rw [hv.out]; rfl, Below.refl _ _⟩
    · have f2 : ¬ ((b.toNat : Nat) : Int) ≤ 57 := by omega
      by_cases c3 : 97 ≤ b.toNat
      · have f3 : (97 : Int) ≤ ((b.toNat : Nat) : Int) := by omega
        by_cases c4 : b.toNat ≤ 102
        · have f4 : ((b.toNat : Nat) : Int) ≤ 102 := by omega
          have hv : Hid (nibZ b = ((b.toNat : Nat) : Int) - 97 + 10) := Lib.hid (by unfold nibZ nib; rw [if_neg (by omega), if_pos ⟨c3, c4⟩]; show ((b.toNat - 87 : Nat) : Int) = _; omega)
          clear c1 c2 c3 c4
          go_enter Tryz.func47, Tryz.ntmps47
          go_wp2_with (fail)
          go_ret
          exact ⟨by rw [hv.out]; rfl, Below.refl _ _⟩
        · have f4 : ¬ ((b.toNat : Nat) : Int) ≤ 102 := by omega
          have hv : Hid (nibZ b = -1) := Lib.hid (by unfold nibZ nib; rw [if_neg (by omega), if_neg (by omega)])
          clear c1 c2 c3 c4
          go_enter Tryz.func47, Tryz.ntmps47
          go_wp2_with (fail)
          go_ret
          exact ⟨by rw [hv.out]; rfl, Below.refl _ _⟩
      · have f3 : ¬ (97 : Int) ≤ ((b.toNat : Nat) : Int) := by omega
        have hv : Hid (nibZ b = -1) := Lib.hid (by unfold nibZ nib; rw [if_neg (by omega), if_neg (by omega)])
        clear c1 c2 c3
        go_enter Tryz.func47, Tryz.ntmps47
        go_wp2_with (fail)
        go_ret
        exact ⟨by rw [hv.out]; rfl, Below.refl _ _⟩
  · have f1 : ¬ (48 : Int) ≤ ((b.toNat : Nat) : Int) := by omega
    have f3 : ¬ (97 : Int) ≤ ((b.toNat : Nat) : Int) := by omega
    have hv : Hid (nibZ b = -1) := Lib.hid (by unfold nibZ nib; rw [if_neg (by omega), if_neg (by omega)])
    clear c1
    go_enter Tryz.func47, Tryz.ntmps47
    go_wp2_with (fail)
    go_ret
    exact ⟨by rw [hv.out]; rfl, Below.refl _ _⟩
end Go.Proofs.YtjplgcmfifoefaaGreatDoor
namespace Go.Proofs.YtjplgcmfifoefaaGreatDoor
open Go.RowKit Go.Shelf Go.Maps
set_option linter.unusedVariables false
set_option linter.unusedSimpArgs false
attribute [local go_sem] Oper.semAt_some

/-- says a line nothing? -/
def silentL : Bs → Bool
  | [] => true
  | b :: t => if b.toNat = 32 then silentL t else decide (b.toNat = 35)
theorem silent_app : ∀ (l r : Bs), (∀ b ∈ l, b.toNat = 32) → silentL (l ++ r) = silentL r
  | [], _, _ => rfl
  | b :: t, r, h => by
    rw [List.cons_append, silentL, if_pos (h b (by simp)), silent_app t r (fun c hc => h c (List.mem_cons_of_mem _ hc))]
set_option maxRecDepth 100000 in
set_option maxHeartbeats 4000000 in
theorem silent_any (q : ByteArray) (hq : q.size ≤ 1099511627776) (w : World) : Calls Tryz.prog 15 #[.string q] w fun e w' => e = .returned (.bool (silentL (tl q))) ∧ Below w.heap.size w w' := by
  obtain ⟨V, hV⟩ : ∃ V, silentL (tl q) = V := ⟨_, rfl⟩
  rw [hV]
  replace hV := Lib.hid hV
  go_enter Tryz.func15, Tryz.ntmps15
  go_wp2_with (fail)
  go_loopw [3] (fun iv wr => ∃ i : Nat, i ≤ q.size ∧ iv = .int .i64 i ∧ Hid (∀ b ∈ q.data.toList.take i, b.toNat = 32) ∧ Hid (wr = w)) (fun iv _ => q.size - (intOf iv).toNat)
  case atStart => exact ⟨0, by omega, rfl, Lib.hid (by simp), Lib.hid rfl⟩
  case round =>
    obtain ⟨i, hi, rfl, hpre, hw⟩ := hrel
    by_cases hl : i < q.size
    · have hI : (i : Int) < q.size := by omega
      have hI0 : ¬ (i : Int) < 0 := by omega
      have hspl : Hid (tl q = q.data.toList.take i ++ q[i] :: q.data.toList.drop (i + 1)) := Lib.hid (by
        have h1 : q.data.toList.drop i = q[i] :: q.data.toList.drop (i + 1) := List.drop_eq_getElem_cons (by simpa using hl)
        rw [← h1, List.take_append_drop])
      by_cases hb : q[i].toNat = 32
      · have f1 : (((q[i].toNat : Nat) : Int) != 32) = false := by rw [bne_eq_false_iff_eq]; omega
        have hn : Hid (∀ b ∈ q.data.toList.take (i + 1), b.toNat = 32) := Lib.hid fun b h => by
          rw [take_snocB q i hl] at h
          rcases List.mem_append.1 h with h | h
          · exact hpre.out b h
          · obtain rfl : b = q[i] := by simpa using h
            exact hb
        clear hb hspl hpre
        go_wp2_with (fail)
        exact ⟨⟨i + 1, by omega, rfl, hn, hw⟩, by simp only [intOf]; omega⟩
      · have f1 : (((q[i].toNat : Nat) : Int) != 32) = true := by rw [bne_iff_ne]; omega
        have hv : V = decide (q[i].toNat = 35) := by
          rw [← hV.out, hspl.out, silent_app _ _ hpre.out, silentL, if_neg hb]
        by_cases hc : q[i].toNat = 35
        · have f2 : (((q[i].toNat : Nat) : Int) == 35) = true := beq_iff_eq.2 (by omega)
          have hv2 : Hid (V = true) := Lib.hid (by rw [hv]; exact decide_eq_true hc)
          clear hv hb hc hspl hpre
          go_wp2_with (fail)
          go_ret
          exact ⟨by rw [hv2.out]; rfl, by rw [hw.out]; exact Below.refl _ _⟩
        · have f2 : (((q[i].toNat : Nat) : Int) == 35) = false := beq_eq_false_iff_ne.2 (by omega)
          have hv2 : Hid (V = false) := Lib.hid (by rw [hv]; exact decide_eq_false hc)
          clear hv hb hc hspl hpre
          go_wp2_with (fail)
          go_ret
          exact ⟨by rw [hv2.out]; rfl, by rw [hw.out]; exact Below.refl _ _⟩
    · have hI : ¬ (i : Int) < q.size := by omega
      have hv2 : Hid (V = true) := Lib.hid (by
        have h1 := hpre.out
        rw [List.take_of_length_le (by simp; omega)] at h1
        have h2 := silent_app (tl q) [] h1
        rw [List.append_nil] at h2
        rw [← hV.out, h2]
        rfl)
      clear hpre
      go_wp2_with (fail)
      go_ret
      exact ⟨by rw [hv2.out]; rfl, by rw [hw.out]; exact Below.refl _ _⟩
end Go.Proofs.YtjplgcmfifoefaaGreatDoor
namespace Go.Proofs.YtjplgcmfifoefaaGreatDoor
open Go.RowKit Go.Shelf Go.Maps
set_option linter.unusedVariables false
set_option linter.unusedSimpArgs false
attribute [local go_sem] Oper.semAt_some

/-- behind the opening quote: how many bytes to the closing one, itself with them, and what they mean -/
def scanQ : Nat → Bs → Option (Nat × Bs)
  | _, [] => none
  | 0, _ :: _ => none
  | f + 1, c :: t =>
    if c.toNat = 34 then some (1, []) else if c.toNat < 32 ∨ c.toNat = 127 then none
    else if c.toNat = 92 then (match escL t with
      | none => none
      | some (b, n) => (scanQ f (t.drop n)).map fun x => (x.1 + 1 + n, b :: x.2))
    else (scanQ f t).map fun x => (x.1 + 1, c :: x.2)
def resQ (i : Nat) (acc : Bs) : Option (Nat × Bs) → Nat × Bs
  | none => (0, [])
  | some x => (i + x.1, acc ++ x.2)
def quotedR (s : Bs) : Nat × Bs := if s.length < 2 ∨ s.getD 0 0 ≠ 34 then (0, []) else resQ 1 [] (scanQ s.length (s.drop 1))
theorem drop_cons (q : ByteArray) (i : Nat) (h : i < q.size) : (tl q).drop i = q[i] :: (tl q).drop (i + 1) := List.drop_eq_getElem_cons (by simpa using h)
theorem resQ_map (i k : Nat) (acc : Bs) (b : UInt8) (r : Option (Nat × Bs)) : resQ i acc (r.map fun x => (x.1 + k, b :: x.2)) = resQ (i + k) (acc ++ [b]) r := by
  cases r with
  | none => rfl
  | some x =>
    show (i + (x.1 + k), acc ++ b :: x.2) = (i + k + x.1, (acc ++ [b]) ++ x.2)
    rw [List.append_assoc, show i + (x.1 + k) = i + k + x.1 by omega]
    rfl
theorem resQ_map2 (i n : Nat) (acc : Bs) (b : UInt8) (r : Option (Nat × Bs)) : resQ i acc (r.map fun x => (x.1 + 1 + n, b :: x.2)) = resQ (i + 1 + n) (acc ++ [b]) r := by
  have h := resQ_map i (1 + n) acc b r
  rw [show i + (1 + n) = i + 1 + n by omega] at h
  rw [← h]
  congr 1
  cases r with
  | none => rfl
  | some x =>
    show some (x.1 + 1 + n, b :: x.2) = some (x.1 + (1 + n), b :: x.2)
    rw [show x.1 + 1 + n = x.1 + (1 + n) by omega]
section
variable {ops : Array Oper} {S : Nat → GSpec} {Q : Exit → Act → World → Prop} {i : Nat} {o : Oper} {a : Act} {w : World}
theorem gs_conv_str (hw : Region.wanted o (yielded ops a.tmps) = true) (x : Operand) (ho : o.op = .convert 82 9 x) (A : Option Addr) (n c B : Nat) (l : List UInt8) (hx : a.eval x = .slice A n c) (hn : n = l.length) (hs : SliceOf w B 1 encB A l)
    (hp : (S i).p (.string ⟨l.toArray⟩) w) : GStep Tryz.prog ops S Q i o a w :=
  gs_run hw (v := .string ⟨l.toArray⟩) (by unfold execOp; simp only [ho, hx, Sem.run_bind, str_of hn hs, Result.andThen_ok, Sem.run_pure]) (Below.refl _ _) hp
end
set_option maxRecDepth 100000 in
set_option maxHeartbeats 16000000 in
theorem quoted_any (q : ByteArray) (hq : q.size ≤ 1099511627776) (w : World) : Calls Tryz.prog 29 #[.string q] w fun e w' => e = .returned (.tuple #[.int .i64 ((quotedR (tl q)).1 : Nat), strV (quotedR (tl q)).2]) ∧ Below w.heap.size w w' := by
  have hlen : (tl q).length = q.size := by simp [tl]
  obtain ⟨V, hV⟩ : ∃ V, quotedR (tl q) = V := ⟨_, rfl⟩
  rw [hV]
  have hV2 := hV
  unfold quotedR at hV2
  rw [hlen] at hV2
  clear hV
  have none_ : ∀ U : Nat × Bs, U = (0, []) → (.int .i64 (U.1 : Nat) : Value) = .int .i64 0 ∧ strV U.2 = .string ⟨#[]⟩ := by rintro U rfl; exact ⟨rfl, rfl⟩
  by_cases c1 : q.size < 2
  · have f1 : (q.size : Int) < 2 := by omega
    have hv : Hid (V = (0, [])) := Lib.hid (by rw [← hV2, if_pos (.inl c1)])
    clear hV2 c1 hlen
    go_enter Tryz.func29, Tryz.ntmps29
    go_wp2_with (fail)
    go_ret2
    exact ⟨by rw [hv.out]; rfl, Below.refl _ _⟩
  have f1 : ¬ (q.size : Int) < 2 := by omega
  have h0 : 0 < q.size := by omega
  have hI0 : (0 : Int) < q.size := by omega
  by_cases c2 : q[0].toNat = 34
  case neg =>
    have f2 : (((q[0].toNat : Nat) : Int) != 34) = true := bne_iff_ne.2 (by omega)
    have hv : Hid (V = (0, [])) := Lib.hid (by rw [← hV2, if_pos (.inr (by rw [last_bytes q 0 h0]; intro h; exact c2 (by rw [h]; rfl)))])
    clear hV2 c1 c2 hlen
    go_enter Tryz.func29, Tryz.ntmps29
    go_wp2_with (fail)
    go_ret2
    exact ⟨by rw [hv.out]; rfl, Below.refl _ _⟩
  have f2 : (((q[0].toNat : Nat) : Int) != 34) = false := Bool.eq_false_iff.2 (fun h => bne_iff_ne.1 h (by omega))
  have hV3 : Hid (V = resQ 1 [] (scanQ q.size ((tl q).drop 1))) := Lib.hid (by
    rw [← hV2, if_neg]
    intro h
    rcases h with h | h
    · exact c1 h
    · rw [last_bytes q 0 h0] at h
      exact h (UInt8.toNat_inj.1 c2))
  have h2q : 1 ≤ q.size := by omega
  clear hV2 c1 c2 hlen
  go_enter Tryz.func29, Tryz.ntmps29
  go_wp2_with (fail)
  clear f2 hI0 f1
  go_loopw [4, 5] (fun tv iv wr => ∃ (i : Nat) (acc : Bs) (A : Option Addr) (c : Nat), 1 ≤ i ∧ i ≤ q.size ∧ tv = .slice A acc.length c ∧ iv = .int .i64 i ∧ Own wr w.heap.size 5 1 encB (.slice A acc.length c) acc ∧ Below w.heap.size w wr ∧ acc.length ≤ i ∧ Hid (∃ f, q.size - i ≤ f ∧ V = resQ i acc (scanQ f ((tl q).drop i)))) (fun _ iv _ => q.size - (intOf iv).toNat)
  case atStart => exact ⟨1, [], none, 0, by omega, h2q, rfl, rfl, Own.nil_ _ _ _ _ _, Below.refl _ _, by simp, Lib.hid ⟨q.size, by omega, hV3.out⟩⟩
  case round =>
    obtain ⟨i, acc, A, c, hi1, hi, rfl, rfl, ho, hB, hal, hg⟩ := hrel
    clear hV3 h2q
    by_cases hl : i < q.size
    case neg =>
      have hI : ¬ (i : Int) < q.size := by omega
      have hv : Hid (V = (0, [])) := Lib.hid (by
        obtain ⟨f, _, e⟩ := hg.out
        rw [e, List.drop_of_length_le (by have : (tl q).length = q.size := by simp [tl]
                                          omega)]
        cases f <;> rfl)
      clear hg
      go_wp2_with (fail)
      go_ret2
      exact ⟨by rw [hv.out]; rfl, hB⟩
    have hI : (i : Int) < q.size := by omega
    have hIn : ¬ (i : Int) < 0 := by omega
    obtain ⟨f, hf, he⟩ : ∃ f, q.size - (i + 1) ≤ f ∧ V = resQ i acc (scanQ (f + 1) ((tl q).drop i)) := by
      obtain ⟨f, hf, e⟩ := hg.out
      cases f with
      | zero => omega
      | succ f => exact ⟨f, by omega, e⟩
    rw [drop_cons q i hl] at he
    unfold scanQ at he
    clear hg
    by_cases k1 : q[i].toNat = 34
    · have g1 : (((q[i].toNat : Nat) : Int) == 34) = true := beq_iff_eq.2 (by omega)
      have hv : Hid (V = (i + 1, acc)) := Lib.hid (by rw [he, if_pos k1]; show (i + 1, acc ++ []) = _; rw [List.append_nil])
      have hsl := ho.slice_all encB_size
      replace hsl : SliceOf wr wr.heap.size 1 encB A acc := hsl
      clear he k1 hf
      go_upto_region 9 with (fail)
      refine wp_region_steps 6 [eqS (.int .i64 (((i : Nat) : Int))), eqS (.int .i64 ((((i + 1) : Nat) : Int))), eqS (.slice A acc.length c), eqS (.string ⟨acc.toArray⟩), eqS (.int .i64 ((((i + 1) : Nat) : Int))), eqS (.string ⟨acc.toArray⟩)] [28, 29, 30, 31, 2, 3] (by kernel_rfl) (by kernel_rfl) (by kernel_rfl) ?_ ?_
      · skip
        refine Steps.cons (fun a' w' hG hB dep => gs_move (want_none rfl) _ rfl (id (hG.other 5 rfl))) ?_
        refine Steps.cons (fun a' w' hG hB dep => gs_add_nat (want_none rfl) _ _ _ _ rfl i 1 (i + 1) (dep 0 rfl 28 rfl) rfl rfl (by omega) rfl) ?_
        refine Steps.cons (fun a' w' hG hB dep => gs_move (want_none rfl) _ rfl (id (hG.other 4 rfl))) ?_
        refine Steps.cons (fun a' w' hG hB dep => gs_conv_str (want_none rfl) _ rfl A acc.length c _ acc (dep 2 rfl 30 rfl) rfl (SliceOf.then_' hsl hB) rfl) ?_
        refine Steps.cons (fun a' w' hG hB dep => gs_assign (want_none rfl) _ rfl (id (dep 1 rfl 29 rfl))) ?_
        refine Steps.cons (fun a' w' hG hB dep => gs_assign (want_none rfl) _ rfl (id (dep 3 rfl 31 rfl))) ?_
        exact Steps.nil
      intro u w5 hw5 ans
      have hus2 : u 2 = (.int .i64 ((((i + 1) : Nat) : Int))) := ans 4 2 (by decide) rfl
      have hus3 : u 3 = (.string ⟨acc.toArray⟩) := ans 5 3 (by decide) rfl
      clear ans
      simp only [putAll, List.foldl_cons, List.foldl_nil, Act.put, List.setIfInBounds_toArray, List.set_cons_zero, List.set_cons_succ, hus2, hus3]
      clear hus2 hus3
      simp only [List.drop]
      refine wpList_nil ?_
      go_wp2_with (fail)
      go_ret2
      exact ⟨by rw [hv.out]; rfl, hB.trans (hw5.mono hB.size)⟩
    have g1 : (((q[i].toNat : Nat) : Int) == 34) = false := beq_eq_false_iff_ne.2 (by omega)
    rw [if_neg k1] at he
    by_cases k2 : q[i].toNat < 32
    · have g2 : (((q[i].toNat : Nat) : Int) < 32) := by omega
      have hv : Hid (V = (0, [])) := Lib.hid (by rw [he, if_pos (.inl k2)]; rfl)
      clear he k1 k2 hf
      go_wp2_with (fail)
      go_ret2
      exact ⟨by rw [hv.out]; rfl, hB⟩
    have g2 : ¬ (((q[i].toNat : Nat) : Int) < 32) := by omega
    by_cases k3 : q[i].toNat = 127
    · have g3 : (((q[i].toNat : Nat) : Int) == 127) = true := beq_iff_eq.2 (by omega)
      have hv : Hid (V = (0, [])) := Lib.hid (by rw [he, if_pos (.inr k3)]; rfl)
      clear he k1 k2 k3 hf
      go_wp2_with (fail)
      go_ret2
      exact ⟨by rw [hv.out]; rfl, hB⟩
    have g3 : (((q[i].toNat : Nat) : Int) == 127) = false := beq_eq_false_iff_ne.2 (by omega)
    rw [if_neg (by omega)] at he
    by_cases k4 : q[i].toNat = 92
    case neg =>
      have g4 : (((q[i].toNat : Nat) : Int) != 92) = true := bne_iff_ne.2 (by omega)
      have hs : Hid (∃ f, q.size - (i + 1) ≤ f ∧ V = resQ (i + 1) (acc ++ [q[i]]) (scanQ f ((tl q).drop (i + 1)))) := Lib.hid ⟨f, hf, by rw [he, if_neg k4, resQ_map]⟩
      clear he k1 k2 k3 k4 hf
      go_wp2_with (first
      | (refine wl_bs1 rfl _ rfl q[i] rfl ?_)
      | (refine wl_pushB rfl _ _ rfl w.heap.size acc q[i] rfl rfl (Blk.new _ _ _) (ho.alloc _) rfl (by omega) (by have := hB.size; rw [World.size_alloc]; omega) ?_; intro A8 c8 w8 ho8 hg8))
      have hB8 : Below w.heap.size w w8 := below_own (below_alloc hB (.cells (encB q[i]) 5)) hg8 (fun k e => (ho.lt k e).1)
      have e9 : (acc ++ [q[i]]).length = acc.length + 1 := by simp
      exact ⟨⟨i + 1, acc ++ [q[i]], A8, c8, by omega, by omega, by rw [e9], rfl, by rw [e9]; exact ho8, hB8, by rw [e9]; omega, hs⟩, by simp only [intOf]; omega⟩
      
    have g4 : (((q[i].toNat : Nat) : Int) != 92) = false := by rw [bne_eq_false_iff_eq]; omega
    rw [if_pos k4] at he
    obtain ⟨j, hj⟩ : ∃ j, j = i + 1 := ⟨_, rfl⟩
    have hjI : (i : Int) + 1 = (j : Int) := by omega
    by_cases hl2 : j < q.size
    case neg =>
      have hI2 : ¬ (j : Int) < q.size := by omega
      have hI3 : (q.size : Int) ≤ j := by omega
      have hv : Hid (V = (0, [])) := Lib.hid (by
        rw [he, List.drop_of_length_le (by have : (tl q).length = q.size := by simp [tl]
                                           omega)]
        rfl)
      clear he k1 k2 k3 k4 hf hj
      go_wp2_with (fail)
      go_ret2
      exact ⟨by rw [hv.out]; rfl, hB⟩
    have hI2 : (j : Int) < q.size := by omega
    have hI3 : ¬ (q.size : Int) ≤ j := by omega
    have hIn2 : ¬ (j : Int) < 0 := by omega
    rw [show i + 1 = j from hj.symm, drop_cons q j hl2] at he
    by_cases m1 : q[j].toNat = 34 ∨ q[j].toNat = 92
    · have hs : Hid (∃ f, q.size - (j + 1) ≤ f ∧ V = resQ (j + 1) (acc ++ [q[j]]) (scanQ f ((tl q).drop (j + 1)))) := Lib.hid ⟨f, by omega, by
        have e9 : escL (q[j] :: (tl q).drop (j + 1)) = some (q[j], 1) := by unfold escL; dsimp only; rw [if_pos m1]
        rw [he, e9]
        show resQ i acc ((scanQ f (((tl q).drop (j + 1)).drop 0)).map _) = _
        rw [List.drop_zero, resQ_map2, show i + 1 + 1 = j + 1 by omega]⟩
      by_cases m2 : q[j].toNat = 34
      · have n1 : (((q[j].toNat : Nat) : Int) == 34) = true := beq_iff_eq.2 (by omega)
        have hjH := Lib.hid hj
        clear he k1 k2 k3 k4 hf hj m1 m2
        go_wp2_with (first
        | (refine wl_bs1 rfl _ rfl q[j] rfl ?_)
        | (refine wl_pushB rfl _ _ rfl w.heap.size acc q[j] rfl rfl (Blk.new _ _ _) (ho.alloc _) rfl (by omega) (by have := hB.size; rw [World.size_alloc]; omega) ?_; intro A8 c8 w8 ho8 hg8))
        have hj := hjH.out
        have hB8 : Below w.heap.size w w8 := below_own (below_alloc hB (.cells (encB q[j]) 5)) hg8 (fun k e => (ho.lt k e).1)
        have e9 : (acc ++ [q[j]]).length = acc.length + 1 := by simp
        exact ⟨⟨j + 1, acc ++ [q[j]], A8, c8, by omega, by omega, by rw [e9], rfl, by rw [e9]; exact ho8, hB8, by rw [e9]; omega, hs⟩, by simp only [intOf]; omega⟩
        
      · have n1 : (((q[j].toNat : Nat) : Int) == 34) = false := beq_eq_false_iff_ne.2 (by omega)
        have n2 : (((q[j].toNat : Nat) : Int) == 92) = true := beq_iff_eq.2 (by omega)
        have hjH := Lib.hid hj
        clear he k1 k2 k3 k4 hf hj m1 m2
        go_wp2_with (first
        | (refine wl_bs1 rfl _ rfl q[j] rfl ?_)
        | (refine wl_pushB rfl _ _ rfl w.heap.size acc q[j] rfl rfl (Blk.new _ _ _) (ho.alloc _) rfl (by omega) (by have := hB.size; rw [World.size_alloc]; omega) ?_; intro A8 c8 w8 ho8 hg8))
        have hj := hjH.out
        have hB8 : Below w.heap.size w w8 := below_own (below_alloc hB (.cells (encB q[j]) 5)) hg8 (fun k e => (ho.lt k e).1)
        have e9 : (acc ++ [q[j]]).length = acc.length + 1 := by simp
        exact ⟨⟨j + 1, acc ++ [q[j]], A8, c8, by omega, by omega, by rw [e9], rfl, by rw [e9]; exact ho8, hB8, by rw [e9]; omega, hs⟩, by simp only [intOf]; omega⟩
        
    have n1 : (((q[j].toNat : Nat) : Int) == 34) = false := beq_eq_false_iff_ne.2 (by omega)
    have n2 : (((q[j].toNat : Nat) : Int) == 92) = false := beq_eq_false_iff_ne.2 (by omega)
    by_cases m3 : q[j].toNat = 110
    · have n3 : (((q[j].toNat : Nat) : Int) == 110) = true := beq_iff_eq.2 (by omega)
      have hs : Hid (∃ f, q.size - (j + 1) ≤ f ∧ V = resQ (j + 1) (acc ++ [10]) (scanQ f ((tl q).drop (j + 1)))) := Lib.hid ⟨f, by omega, by
        have e9 : escL (q[j] :: (tl q).drop (j + 1)) = some (10, 1) := by unfold escL; dsimp only; rw [if_neg m1, if_pos m3]
        rw [he, e9]
        show resQ i acc ((scanQ f (((tl q).drop (j + 1)).drop 0)).map _) = _
        rw [List.drop_zero, resQ_map2, show i + 1 + 1 = j + 1 by omega]⟩
      have hjH := Lib.hid hj
      clear he k1 k2 k3 k4 hf hj m1 m3
      go_wp2_with (first
      | (refine wl_bs1 rfl _ rfl 10 rfl ?_)
      | (refine wl_pushB rfl _ _ rfl w.heap.size acc 10 rfl rfl (Blk.new _ _ _) (ho.alloc _) rfl (by omega) (by have := hB.size; rw [World.size_alloc]; omega) ?_; intro A8 c8 w8 ho8 hg8))
      have hj := hjH.out
      have hB8 : Below w.heap.size w w8 := below_own (below_alloc hB (.cells (encB 10) 5)) hg8 (fun k e => (ho.lt k e).1)
      have e9 : (acc ++ [10]).length = acc.length + 1 := by simp
      exact ⟨⟨j + 1, acc ++ [10], A8, c8, by omega, by omega, by rw [e9], rfl, by rw [e9]; exact ho8, hB8, by rw [e9]; omega, hs⟩, by simp only [intOf]; omega⟩
      
    have n3 : (((q[j].toNat : Nat) : Int) == 110) = false := beq_eq_false_iff_ne.2 (by omega)
    by_cases m4 : q[j].toNat = 116
    · have n4 : (((q[j].toNat : Nat) : Int) == 116) = true := beq_iff_eq.2 (by omega)
      have hs : Hid (∃ f, q.size - (j + 1) ≤ f ∧ V = resQ (j + 1) (acc ++ [9]) (scanQ f ((tl q).drop (j + 1)))) := Lib.hid ⟨f, by omega, by
        have e9 : escL (q[j] :: (tl q).drop (j + 1)) = some (9, 1) := by unfold escL; dsimp only; rw [if_neg m1, if_neg m3, if_pos m4]
        rw [he, e9]
        show resQ i acc ((scanQ f (((tl q).drop (j + 1)).drop 0)).map _) = _
        rw [List.drop_zero, resQ_map2, show i + 1 + 1 = j + 1 by omega]⟩
      have hjH := Lib.hid hj
      clear he k1 k2 k3 k4 hf hj m1 m3 m4
      go_wp2_with (first
      | (refine wl_bs1 rfl _ rfl 9 rfl ?_)
      | (refine wl_pushB rfl _ _ rfl w.heap.size acc 9 rfl rfl (Blk.new _ _ _) (ho.alloc _) rfl (by omega) (by have := hB.size; rw [World.size_alloc]; omega) ?_; intro A8 c8 w8 ho8 hg8))
      have hj := hjH.out
      have hB8 : Below w.heap.size w w8 := below_own (below_alloc hB (.cells (encB 9) 5)) hg8 (fun k e => (ho.lt k e).1)
      have e9 : (acc ++ [9]).length = acc.length + 1 := by simp
      exact ⟨⟨j + 1, acc ++ [9], A8, c8, by omega, by omega, by rw [e9], rfl, by rw [e9]; exact ho8, hB8, by rw [e9]; omega, hs⟩, by simp only [intOf]; omega⟩
      
    have n4 : (((q[j].toNat : Nat) : Int) == 116) = false := beq_eq_false_iff_ne.2 (by omega)
    by_cases m5 : q[j].toNat = 120
    case neg =>
      have n5 : (((q[j].toNat : Nat) : Int) == 120) = false := beq_eq_false_iff_ne.2 (by omega)
      have hv : Hid (V = (0, [])) := Lib.hid (by
        have e9 : escL (q[j] :: (tl q).drop (j + 1)) = none := by unfold escL; dsimp only; rw [if_neg m1, if_neg m3, if_neg m4, if_neg m5]
        rw [he, e9]
        rfl)
      clear he k1 k2 k3 k4 hf hj m1 m3 m4 m5
      go_wp2_with (fail)
      go_ret2
      exact ⟨by rw [hv.out]; rfl, hB⟩
    have n5 : (((q[j].toNat : Nat) : Int) == 120) = true := beq_iff_eq.2 (by omega)
    obtain ⟨k, hk⟩ : ∃ k, k = j + 1 := ⟨_, rfl⟩
    obtain ⟨m, hm⟩ : ∃ m, m = j + 2 := ⟨_, rfl⟩
    have hkI : (j : Int) + 1 = (k : Int) := by omega
    have hmI : (j : Int) + 2 = (m : Int) := by omega
    by_cases hl3 : m < q.size
    case neg =>
      have hI4 : (q.size : Int) ≤ m := by omega
      have hv : Hid (V = (0, [])) := Lib.hid (by
        have hln : ((tl q).drop (j + 1)).length ≤ 1 := by
          rw [List.length_drop, show (tl q).length = q.size by simp [tl]]; omega
        have e9 : escL (q[j] :: (tl q).drop (j + 1)) = none := by
          unfold escL
          dsimp only
          rw [if_neg m1, if_neg m3, if_neg m4, if_pos m5]
          match (tl q).drop (j + 1), hln with
          | [], _ => rfl
          | [_], _ => rfl
          | _ :: _ :: _, h => simp at h
        rw [he, e9]
        rfl)
      clear he k1 k2 k3 k4 hf hj m1 m3 m4 m5 hk hm hkI
      go_wp2_with (fail)
      go_ret2
      exact ⟨by rw [hv.out]; rfl, hB⟩
    have hI4 : ¬ (q.size : Int) ≤ m := by omega
    have hkq : k < q.size := by omega
    have hIk : (k : Int) < q.size := by omega
    have hIm : (m : Int) < q.size := by omega
    have hk0 : ¬ (k : Int) < 0 := by omega
    have hm0 : ¬ (m : Int) < 0 := by omega
    have hd2 : (tl q).drop (j + 1) = q[k] :: q[m] :: (tl q).drop (m + 1) := by
      have e1 := drop_cons q k hkq
      have e2 := drop_cons q m hl3
      rw [show k + 1 = m by omega, e2] at e1
      rw [← hk]
      exact e1
    have kp := fun W => digit_any q[k] W
    have kr := fun W => digit_any q[m] W
    have hE : ∀ r, (match nib q[k], nib q[m] with
        | some x, some y => some (UInt8.ofNat (16 * x + y), 3)
        | _, _ => none) = r → escL (q[j] :: (tl q).drop (j + 1)) = r := fun r h => by
      unfold escL
      dsimp only
      rw [if_neg m1, if_neg m3, if_neg m4, if_pos m5, hd2]
      exact h
    cases hp : nib q[k] with
    | none =>
      have hv : Hid (V = (0, [])) := Lib.hid (by rw [he, hE none (by rw [hp])]; rfl)
      rw [nibZ_none hp] at kp
      obtain ⟨z, hz⟩ : ∃ z, nibZ q[m] = z := ⟨_, rfl⟩
      rw [hz] at kr
      clear he k1 k2 k3 k4 hf hj m1 m3 m4 m5 hk hm hE hd2 hp hz
      go_upto_region 30 with (go_at_call 47; refine (kp _).mono ?_; clear kp; rintro e w3 ⟨rfl, hB3⟩)
      go_wp2_with (go_at_call 47; refine (kr _).mono ?_; clear kr; rintro e w4 ⟨rfl, hB4⟩)
      go_ret2
      exact ⟨by rw [hv.out]; rfl, (hB.trans (hB3.mono hB.size)).trans (hB4.mono (hB.trans (hB3.mono hB.size)).size)⟩
    | some x =>
      obtain ⟨hx1, hx2⟩ := nibZ_some hp
      rw [hx1] at kp
      have hxn : ¬ ((x : Nat) : Int) < 0 := by omega
      cases hr : nib q[m] with
      | none =>
        have hv : Hid (V = (0, [])) := Lib.hid (by rw [he, hE none (by rw [hp, hr])]; rfl)
        rw [nibZ_none hr] at kr
        clear he k1 k2 k3 k4 hf hj m1 m3 m4 m5 hk hm hE hd2 hp hr hx1
        go_upto_region 30 with (go_at_call 47; refine (kp _).mono ?_; clear kp; rintro e w3 ⟨rfl, hB3⟩)
        go_wp2_with (go_at_call 47; refine (kr _).mono ?_; clear kr; rintro e w4 ⟨rfl, hB4⟩)
        go_ret2
        exact ⟨by rw [hv.out]; rfl, (hB.trans (hB3.mono hB.size)).trans (hB4.mono (hB.trans (hB3.mono hB.size)).size)⟩
      | some y =>
        obtain ⟨hy1, hy2⟩ := nibZ_some hr
        rw [hy1] at kr
        have hyn : ¬ ((y : Nat) : Int) < 0 := by omega
        obtain ⟨b, hbD⟩ : ∃ b, UInt8.ofNat (16 * x + y) = b := ⟨_, rfl⟩
        have hb16 : b.toNat = 16 * x + y := by
          rw [← hbD]
          simp
          omega
        have hs : Hid (∃ f, q.size - (m + 1) ≤ f ∧ V = resQ (m + 1) (acc ++ [b]) (scanQ f ((tl q).drop (m + 1)))) := Lib.hid ⟨f, by omega, by
          rw [he, hE (some (b, 3)) (by rw [hp, hr, ← hbD])]
          show resQ i acc ((scanQ f (((tl q).drop (j + 1)).drop 2)).map _) = _
          rw [resQ_map2, show i + 1 + 3 = m + 1 by omega, hd2]
          rfl⟩
        have hjH := Lib.hid hj
        have hmH := Lib.hid hm
        have hbH := Lib.hid hb16
        clear he k1 k2 k3 k4 hf hj m1 m3 m4 m5 hk hm hE hd2 hp hr hx1 hy1 hbD hb16
        go_upto_region 30 with (go_at_call 47; refine (kp _).mono ?_; clear kp; rintro e w3 ⟨rfl, hB3⟩)
        go_upto_region 33 with (go_at_call 47; refine (kr _).mono ?_; clear kr; rintro e w4 ⟨rfl, hB4⟩)
        have hb16 := hbH.out
        refine wp_region_text 6 [eqS (.slice A acc.length c), eqS (.int .i64 (((x : Nat) : Int))), eqS (.int .i64 ((((16 * x) : Nat) : Int))), eqS (.int .i64 (((y : Nat) : Int))), eqS (.int .i64 ((((16 * x + y) : Nat) : Int))), eqS (.int .u8 (((b.toNat : Nat) : Int)))] [95, 96, 97, 98, 99, 100] (by kernel_rfl) (by kernel_rfl) ?_ ?_
        · skip
          refine Steps.cons (fun a' w' hG hB dep => gs_move (want_none rfl) _ rfl (id (hG.other 4 rfl))) ?_
          refine Steps.cons (fun a' w' hG hB dep => gs_move (want_none rfl) _ rfl (id (hG.other 7 rfl))) ?_
          refine Steps.cons (fun a' w' hG hB dep => gs_mul_nat (want_none rfl) _ _ _ _ rfl 16 x (16 * x) rfl (dep 1 rfl 96 rfl) rfl (by omega) rfl) ?_
          refine Steps.cons (fun a' w' hG hB dep => gs_move (want_none rfl) _ rfl (id (hG.other 8 rfl))) ?_
          refine Steps.cons (fun a' w' hG hB dep => gs_add_nat (want_none rfl) _ _ _ _ rfl (16 * x) y (16 * x + y) (dep 2 rfl 97 rfl) (dep 3 rfl 98 rfl) rfl (by omega) rfl) ?_
          refine Steps.cons (fun a' w' hG hB dep => gs_conv_b (want_none rfl) _ rfl (16 * x + y) b hb16 (dep 4 rfl 99 rfl) rfl) ?_
          exact Steps.nil
        intro u w5 hw5 ans
        have hus95 : u 95 = (.slice A acc.length c) := ans 0 95 (by decide) rfl
        have hus100 : u 100 = (.int .u8 (((b.toNat : Nat) : Int))) := ans 5 100 (by decide) rfl
        clear ans
        simp only [putAll, List.foldl_cons, List.foldl_nil, Act.put, List.setIfInBounds_toArray, List.set_cons_zero, List.set_cons_succ, hus95, hus100]
        clear hus95 hus100
        simp only [List.drop]
        clear hb16
        have hB5 : Below w.heap.size w w5 := ((hB.trans (hB3.mono hB.size)).trans (hB4.mono (hB.trans (hB3.mono hB.size)).size)).trans (hw5.mono ((hB.trans (hB3.mono hB.size)).trans (hB4.mono (hB.trans (hB3.mono hB.size)).size)).size)
        have ho5 := ((ho.then_ hB3).then_ hB4).then_ hw5
        go_wp2_with (first
          | (refine wl_bs1 rfl _ rfl b rfl ?_)
          | (refine wl_pushB rfl _ _ rfl w.heap.size acc b rfl rfl (Blk.new _ _ _) (ho5.alloc _) rfl (by omega) (by have := hB5.size; rw [World.size_alloc]; omega) ?_; intro A8 c8 w8 ho8 hg8))
        have hj := hjH.out
        have hm := hmH.out
        have hB8 : Below w.heap.size w w8 := below_own (below_alloc hB5 (.cells (encB b) 5)) hg8 (fun k e => (ho5.lt k e).1)
        have e9 : (acc ++ [b]).length = acc.length + 1 := by simp
        exact ⟨⟨m + 1, acc ++ [b], A8, c8, by omega, by omega, by rw [e9], rfl, by rw [e9]; exact ho8, hB8, by rw [e9]; omega, hs⟩, by simp only [intOf]; omega⟩
        
end Go.Proofs.YtjplgcmfifoefaaGreatDoor
namespace Go.Proofs.YtjplgcmfifoefaaGreatDoor
set_option linter.unusedVariables false
set_option linter.unusedSimpArgs false

theorem nib_ord {p : UInt8} {x : Nat} (h : nib p = some x) : p.toNat ≠ 34 ∧ p.toNat ≠ 92 := by
  unfold nib at h
  constructor <;> intro e <;> simp [e] at h
def esc3 : Bs → Option (UInt8 × Nat)
  | p :: q :: _ => (match nib p, nib q with
    | some x, some y => some (UInt8.ofNat (16 * x + y), 3)
    | _, _ => none)
  | _ => none
theorem escL_cons (a : UInt8) (u : Bs) : escL (a :: u) = if a.toNat = 34 ∨ a.toNat = 92 then some (a, 1) else if a.toNat = 110 then some (10, 1) else if a.toNat = 116 then some (9, 1) else if a.toNat = 120 then esc3 u else none := by
  cases u with
  | nil => rfl
  | cons p u =>
    cases u with
    | nil => rfl
    | cons q u => rfl
theorem esc3_form {u : Bs} {b : UInt8} {n : Nat} (h : esc3 u = some (b, n)) : ∃ p q v, u = p :: q :: v ∧ n = 3 ∧ p.toNat ≠ 34 ∧ p.toNat ≠ 92 ∧ q.toNat ≠ 34 ∧ q.toNat ≠ 92 := by
  cases u with
  | nil => cases h
  | cons p u =>
    cases u with
    | nil => cases h
    | cons q u =>
      have h2 : (match nib p, nib q with
        | some x, some y => some (UInt8.ofNat (16 * x + y), 3)
        | _, _ => none) = some (b, n) := h
      cases hp : nib p with
      | none => rw [hp] at h2; cases h2
      | some x =>
        cases hq : nib q with
        | none => rw [hp, hq] at h2; cases h2
        | some y =>
          rw [hp, hq] at h2
          have h3 := (Prod.mk.inj (Option.some.inj h2)).2
          exact ⟨p, q, u, rfl, h3.symm, (nib_ord hp).1, (nib_ord hp).2, (nib_ord hq).1, (nib_ord hq).2⟩
theorem esc_form {t : Bs} {b : UInt8} {n : Nat} (h : escL t = some (b, n)) : (∃ a u, t = a :: u ∧ n = 1) ∨ (∃ a p q u, t = a :: p :: q :: u ∧ n = 3 ∧ p.toNat ≠ 34 ∧ p.toNat ≠ 92 ∧ q.toNat ≠ 34 ∧ q.toNat ≠ 92) := by
  cases t with
  | nil => cases h
  | cons a u =>
    rw [escL_cons] at h
    split at h
    · exact .inl ⟨a, u, rfl, ((Prod.mk.inj (Option.some.inj h)).2).symm⟩
    · split at h
      · exact .inl ⟨a, u, rfl, ((Prod.mk.inj (Option.some.inj h)).2).symm⟩
      · split at h
        · exact .inl ⟨a, u, rfl, ((Prod.mk.inj (Option.some.inj h)).2).symm⟩
        · split at h
          · obtain ⟨p, q, v, rfl, hr⟩ := esc3_form h
            exact .inr ⟨a, p, q, v, rfl, hr⟩
          · cases h
theorem sc_ord (c : UInt8) (t : Bs) (f : Nat) (h1 : c.toNat ≠ 34) (h2 : c.toNat ≠ 92) : sc (f + 1) (c :: t) = 1 + sc f t := by
  rw [sc, if_neg h1, if_neg h2]
/-- what is read as a quoted word's inside ends where the scan says -/
theorem unq_sc : ∀ (g : Nat) (u : Bs), (unqG g u).isSome = true → ∀ (R : Bs) (f : Nat), u.length < f → sc f (u ++ 34 :: R) = u.length
  | g, [], _, R, f, _ => sc_34 f R
  | 0, _ :: _, h, _, _, _ => by cases h
  | g + 1, c :: t, h, R, f, hf => by
    obtain ⟨f, rfl⟩ : ∃ e, f = e + 1 := ⟨f - 1, by simp at hf; omega⟩
    rw [unqG] at h
    split at h
    · rename_i hc
      cases he : escL t with
      | none => rw [he] at h; cases h
      | some bn =>
        obtain ⟨b, n⟩ := bn
        rw [he] at h
        simp only [Option.isSome_map] at h
        show sc (f + 1) (c :: (t ++ 34 :: R)) = _
        rw [sc, if_neg (by omega), if_pos hc]
        rcases esc_form he with ⟨a, u, rfl, rfl⟩ | ⟨a, p, q, u, rfl, rfl, h1, h2, h3, h4⟩
        · show 2 + sc f (u ++ 34 :: R) = _
          rw [unq_sc g u h R f (by simp at hf ⊢; omega)]
          simp only [List.length_cons]
          omega
        · obtain ⟨f, rfl⟩ : ∃ e, f = e + 1 + 1 := ⟨f - 2, by simp at hf; omega⟩
          show 2 + sc (f + 1 + 1) (p :: q :: (u ++ 34 :: R)) = _
          rw [sc_ord p _ _ h1 h2, sc_ord q _ _ h3 h4, unq_sc g u h R f (by simp at hf ⊢; omega)]
          simp only [List.length_cons]
          omega
    · rename_i hc
      split at h
      · cases h
      · rename_i hc2
        simp only [Option.isSome_map] at h
        show sc (f + 1) (c :: (t ++ 34 :: R)) = _
        rw [sc_ord c _ _ (fun e => hc2 (.inr (.inr e))) hc, unq_sc g t h R f (by simp at hf ⊢; omega)]
        simp only [List.length_cons]
        omega
theorem unq_form {w : Bs} (h : (unq w).isSome = true) (h0 : w.getD 0 0 = 34) : ∃ u g, w = 34 :: (u ++ [34]) ∧ (unqG g u).isSome = true := by
  have hne : isPl w = false := by
    cases w with
    | nil => cases h0
    | cons a t =>
      have : a = 34 := h0
      rw [this]
      exact isPl_34 t
  unfold unq at h
  rw [if_neg (by simp [hne])] at h
  split at h
  · cases h
  · rename_i hc
    have h1 : 2 ≤ w.length := by omega
    have h2 : w.getD (w.length - 1) 0 = 34 := Classical.byContradiction fun e => hc (.inr (.inr e))
    refine ⟨(w.drop 1).take (w.length - 2), _, ?_, h⟩
    cases w with
    | nil => simp at h1
    | cons a t =>
      have e0 : a = 34 := h0
      subst e0
      congr 1
      have hl : 1 ≤ t.length := by simpa using h1
      have e1 : (34 :: t).length - 2 = t.length - 1 := by simp
      rw [e1]
      show t = t.take (t.length - 1) ++ [34]
      have e2 : t.getD (t.length - 1) 0 = 34 := by
        have e3 : (34 :: t).length - 1 = (t.length - 1) + 1 := by simp; omega
        rw [e3] at h2
        exact h2
      have e4 := List.take_append_drop (t.length - 1) t
      rw [List.drop_eq_getElem_cons (show t.length - 1 < t.length by omega), List.drop_eq_nil_of_le (by omega)] at e4
      rw [List.getD_eq_getElem?_getD, List.getElem?_eq_getElem (show t.length - 1 < t.length by omega)] at e2
      simp only [Option.getD_some] at e2
      rw [e2] at e4
      exact e4.symm
theorem find_k (k : Nat) (h1 : 1 ≤ k) (h2 : k ≤ 12) (vs : List Bs) : (List.range 13).findSome? (tryK (firsts.getD k []) vs) = readE k vs := by
  have key : ∀ l : List Nat, (∀ j ∈ l, j < 13) → l.findSome? (tryK (firsts.getD k []) vs) = if k ∈ l then readE k vs else none := by
    intro l
    induction l with
    | nil => intro _; rfl
    | cons j l ih =>
      intro hl
      have ih2 := ih fun i hi => hl i (List.mem_cons_of_mem _ hi)
      rw [List.findSome?_cons]
      by_cases hj : j = k
      · subst hj
        have ht : tryK (firsts.getD j []) vs j = readE j vs := by
          unfold tryK
          rw [if_neg (by simp; omega)]
        rw [ht, if_pos List.mem_cons_self]
        cases hr : readE j vs with
        | some e => rfl
        | none =>
          simp only
          rw [ih2, hr]
          split <;> rfl
      · have ht : tryK (firsts.getD k []) vs j = none := by
          unfold tryK
          rw [if_pos (.inr fun h => hj (firsts_inj j (hl j List.mem_cons_self) k (by omega) h))]
        rw [ht]
        simp only
        rw [ih2]
        by_cases hm : k ∈ l
        · rw [if_pos hm, if_pos (List.mem_cons_of_mem _ hm)]
        · rw [if_neg hm, if_neg (fun h => (List.mem_cons.1 h).elim (fun e => hj e.symm) hm)]
  rw [key _ (fun j hj => by simpa using hj), if_pos (by simp; omega)]
theorem parse_eq (line : Bs) (w : Bs) (ws : List Bs) (h : partsG (line.length + 1) line = some (w :: ws)) : parseE line = (List.range 13).findSome? (tryK w ws) := by
  unfold parseE
  rw [h]
  rfl
end Go.Proofs.YtjplgcmfifoefaaGreatDoor
namespace Go.Proofs.YtjplgcmfifoefaaGreatDoor
open Go.RowKit Go.Shelf Go.Maps
set_option linter.unusedVariables false
set_option linter.unusedSimpArgs false
attribute [local go_sem] Oper.semAt_some

theorem esc_app {t : Bs} {b : UInt8} {n : Nat} (h : escL t = some (b, n)) (Z : Bs) : escL (t.take n ++ Z) = some (b, n) := by
  rcases esc_form h with ⟨a, u, rfl, rfl⟩ | ⟨a, p, q, u, rfl, rfl, -⟩
  · show escL (a :: Z) = _
    rw [escL_cons] at h ⊢
    split at h
    · next c => rw [if_pos c]; exact h
    · next c =>
      rw [if_neg c]
      split at h
      · next c => rw [if_pos c]; exact h
      · next c =>
        rw [if_neg c]
        split at h
        · next c => rw [if_pos c]; exact h
        · next c =>
          rw [if_neg c]
          split at h
          · next c =>
            obtain ⟨p, q, v, _, e, _⟩ := esc3_form h
            cases e
          · cases h
  · show escL (a :: p :: q :: Z) = _
    rw [escL_cons] at h ⊢
    split at h
    · next c => rw [if_pos c]; exact h
    · next c =>
      rw [if_neg c]
      split at h
      · next c => rw [if_pos c]; exact h
      · next c =>
        rw [if_neg c]
        split at h
        · next c => rw [if_pos c]; exact h
        · next c =>
          rw [if_neg c]
          split at h
          · next c => rw [if_pos c]; exact h
          · cases h
theorem esc_more {t : Bs} {b : UInt8} {n : Nat} (h : escL t = some (b, n)) (Z : Bs) : escL (t ++ Z) = some (b, n) := by
  have h1 := esc_app h (t.drop n ++ Z)
  rw [← List.append_assoc, List.take_append_drop] at h1
  exact h1
theorem scan_of_unq : ∀ (g : Nat) (X Y : Bs), unqG g X = some Y → ∀ (R : Bs) (f : Nat), X.length < f → scanQ f (X ++ 34 :: R) = some (X.length + 1, Y)
  | g, [], Y, h, R, f, hf => by
    obtain ⟨f, rfl⟩ : ∃ k, f = k + 1 := ⟨f - 1, by simp at hf; omega⟩
    rw [unqG_nil] at h
    obtain rfl := Option.some.inj h
    show scanQ (f + 1) (34 :: R) = _
    unfold scanQ
    rw [if_pos (by rfl)]
    rfl
  | 0, _ :: _, _, h, _, _, _ => by cases h
  | g + 1, c :: t, Y, h, R, f, hf => by
    obtain ⟨f, rfl⟩ : ∃ k, f = k + 1 := ⟨f - 1, by simp at hf; omega⟩
    unfold unqG at h
    show scanQ (f + 1) (c :: (t ++ 34 :: R)) = _
    unfold scanQ
    simp only [List.length_cons] at hf
    by_cases c1 : c.toNat = 92
    · rw [if_pos c1] at h
      rw [if_neg (by omega), if_neg (by omega), if_pos c1]
      cases hE : escL t with
      | none => rw [hE] at h; cases h
      | some x =>
        obtain ⟨b, n⟩ := x
        obtain ⟨n1, n3, nt⟩ := escL_le hE
        rw [hE] at h
        rw [esc_more hE]
        simp only at h ⊢
        cases hu : unqG g (t.drop n) with
        | none => rw [hu] at h; cases h
        | some Y' =>
          rw [hu] at h
          obtain rfl := Option.some.inj h
          have hrec := scan_of_unq g (t.drop n) Y' hu R f (by rw [List.length_drop]; omega)
          rw [List.drop_append_of_le_length nt, hrec]
          show some _ = some _
          rw [List.length_drop]
          simp only [List.length_cons, Option.some.injEq, Prod.mk.injEq, and_true]
          omega
    · rw [if_neg c1] at h
      by_cases c2 : c.toNat < 32 ∨ c.toNat = 127 ∨ c.toNat = 34
      · rw [if_pos c2] at h; cases h
      · rw [if_neg c2] at h
        rw [if_neg (by omega), if_neg (by omega), if_neg c1]
        cases hu : unqG g t with
        | none => rw [hu] at h; cases h
        | some Y' =>
          rw [hu] at h
          obtain rfl := Option.some.inj h
          rw [scan_of_unq g t Y' hu R f (by omega)]
          rfl
theorem unq_of_scan : ∀ (f : Nat) (L : Bs) (n : Nat) (u : Bs), scanQ f L = some (n, u) → ∃ X R, L = X ++ 34 :: R ∧ n = X.length + 1 ∧ ∀ g, X.length ≤ g → unqG g X = some u
  | f, [], n, u, h => by cases f <;> cases h
  | 0, _ :: _, _, _, h => by cases h
  | f + 1, c :: t, n, u, h => by
    unfold scanQ at h
    by_cases c0 : c.toNat = 34
    · rw [if_pos c0] at h
      obtain ⟨rfl, rfl⟩ := Prod.mk.inj (Option.some.inj h)
      exact ⟨[], t, by rw [show c = 34 from UInt8.toNat_inj.1 c0]; rfl, rfl, fun g _ => unqG_nil g⟩
    rw [if_neg c0] at h
    by_cases c2 : c.toNat < 32 ∨ c.toNat = 127
    · rw [if_pos c2] at h; cases h
    rw [if_neg c2] at h
    by_cases c1 : c.toNat = 92
    · rw [if_pos c1] at h
      cases hE : escL t with
      | none => rw [hE] at h; cases h
      | some x =>
        obtain ⟨b, k⟩ := x
        obtain ⟨n1, n3, nt⟩ := escL_le hE
        rw [hE] at h
        simp only at h
        cases hs : scanQ f (t.drop k) with
        | none => rw [hs] at h; cases h
        | some y =>
          obtain ⟨n', u'⟩ := y
          rw [hs] at h
          obtain ⟨rfl, rfl⟩ := Prod.mk.inj (Option.some.inj h)
          obtain ⟨X, R, hX, hn, hu⟩ := unq_of_scan f (t.drop k) n' u' hs
          refine ⟨c :: (t.take k ++ X), R, ?_, ?_, ?_⟩
          · rw [List.cons_append, List.append_assoc, ← hX, List.take_append_drop]
          · simp only [List.length_cons, List.length_append, List.length_take]
            omega
          · intro g hg
            simp only [List.length_cons, List.length_append, List.length_take] at hg
            obtain ⟨g, rfl⟩ : ∃ j, g = j + 1 := ⟨g - 1, by omega⟩
            unfold unqG
            rw [if_pos c1, esc_app hE]
            simp only
            have hd : (t.take k ++ X).drop k = X := by
              rw [List.drop_append, List.length_take, List.drop_of_length_le (by rw [List.length_take]; omega), show k - min k t.length = 0 by omega]
              rfl
            rw [hd, hu g (by omega)]
            rfl
    · rw [if_neg c1] at h
      cases hs : scanQ f t with
      | none => rw [hs] at h; cases h
      | some y =>
        obtain ⟨n', u'⟩ := y
        rw [hs] at h
        obtain ⟨rfl, rfl⟩ := Prod.mk.inj (Option.some.inj h)
        obtain ⟨X, R, hX, hn, hu⟩ := unq_of_scan f t n' u' hs
        refine ⟨c :: X, R, by rw [hX]; rfl, by simp only [List.length_cons]; omega, ?_⟩
        intro g hg
        simp only [List.length_cons] at hg
        obtain ⟨g, rfl⟩ : ∃ j, g = j + 1 := ⟨g - 1, by omega⟩
        unfold unqG
        rw [if_neg c1, if_neg (by omega), hu g (by omega)]
        rfl
theorem unq_quoted (X : Bs) : unq (34 :: (X ++ [34])) = unqG (X.length + 2) X := by
  unfold unq
  rw [if_neg (by rw [isPl_34]; decide), if_neg]
  · simp
  · rw [not_or, not_or]
    refine ⟨by simp, by simp, ?_⟩
    simp only [List.length_cons, List.length_append, List.length_nil, Decidable.not_not]
    rw [show X.length + (0 + 1) + 1 - 1 = X.length + 1 by omega]
    simp [List.getD_eq_getElem?_getD]
/-- a word in quotes at the front -/
theorem quoted_yes (X R Y : Bs) (g : Nat) (h : unqG g X = some Y) : quotedR (34 :: (X ++ 34 :: R)) = (X.length + 2, Y) := by
  unfold quotedR
  rw [if_neg (by simp; omega)]
  have h1 := scan_of_unq g X Y h R (34 :: (X ++ 34 :: R)).length (by simp only [List.length_cons, List.length_append]; omega)
  show resQ 1 [] (scanQ _ (X ++ 34 :: R)) = _
  rw [h1]
  show (1 + (X.length + 1), [] ++ Y) = _
  rw [List.nil_append, show 1 + (X.length + 1) = X.length + 2 by omega]
theorem quoted_form {m : Bs} {n : Nat} {u : Bs} (h : quotedR m = (n, u)) (hn : n ≠ 0) : ∃ X R, m = 34 :: (X ++ 34 :: R) ∧ n = X.length + 2 ∧ unqG (X.length + 2) X = some u ∧ unq (m.take n) = some u := by
  unfold quotedR at h
  by_cases c : m.length < 2 ∨ m.getD 0 0 ≠ 34
  · rw [if_pos c] at h
    exact absurd (Prod.mk.inj h).1.symm hn
  rw [if_neg c] at h
  cases m with
  | nil => simp at c
  | cons a t =>
    have ha : a = 34 := by
      have h1 : ¬ (a :: t).getD 0 0 ≠ 34 := fun h => c (.inr h)
      simpa using h1
    rw [ha] at h ⊢
    have hd : (34 :: t : Bs).drop 1 = t := rfl
    rw [hd] at h
    cases hs : scanQ (34 :: t).length t with
    | none => rw [hs] at h; exact absurd (Prod.mk.inj h).1.symm hn
    | some y =>
      obtain ⟨n', u'⟩ := y
      rw [hs] at h
      have h2 := Prod.mk.inj h
      obtain ⟨X, R, hX, hn', hu⟩ := unq_of_scan _ _ _ _ hs
      have e1 : n = X.length + 2 := by rw [← h2.1]; show 1 + n' = _; omega
      have e2 : u' = u := by rw [← h2.2]; rfl
      have e3 := hu (X.length + 2) (by omega)
      rw [e2] at e3
      refine ⟨X, R, by rw [hX], e1, e3, ?_⟩
      have e4 : (34 :: t : Bs).take n = 34 :: (X ++ [34]) := by
        rw [hX, e1, List.take_succ_cons, List.take_append, List.take_of_length_le (by omega), show X.length + 1 - X.length = 1 by omega]
        rfl
      rw [e4, unq_quoted, e3]
/-- what Unquote answers -/
theorem unq_R (m : Bs) (hp : isPl m = false) : (if (quotedR m).1 = 0 ∨ (quotedR m).1 ≠ m.length then ([], (230 : Int)) else ((quotedR m).2, 0)) = (unqZ m, unqE m) := by
  obtain ⟨n, u, hq⟩ : ∃ n u, quotedR m = (n, u) := ⟨_, _, rfl⟩
  rw [hq]
  simp only
  by_cases hn : n = 0 ∨ n ≠ m.length
  · rw [if_pos hn]
    have hu : unq m = none := by
      cases hu : unq m with
      | none => rfl
      | some t =>
        exfalso
        have h34 : m.getD 0 0 = 34 := by
          unfold unq at hu
          rw [if_neg (by rw [hp]; decide)] at hu
          split at hu
          · cases hu
          · next c =>
            rw [not_or, not_or] at c
            exact Decidable.not_not.1 c.2.1
        obtain ⟨X, g, hX, hg⟩ := unq_form (by rw [hu]; rfl) h34
        obtain ⟨Y, hY⟩ := Option.isSome_iff_exists.1 hg
        have h1 := quoted_yes X [] Y g hY
        rw [← hX, hq] at h1
        have h2 := (Prod.mk.inj h1).1
        have h3 : m.length = X.length + 2 := by rw [hX]; simp
        omega
    unfold unqZ unqE
    rw [hu]
    rfl
  · rw [if_neg hn]
    rw [not_or, Decidable.not_not] at hn
    obtain ⟨X, R, hm, e1, e2, e3⟩ := quoted_form hq hn.1
    rw [hn.2, List.take_length] at e3
    unfold unqZ unqE
    rw [e3]
    rfl
set_option maxRecDepth 100000 in
set_option maxHeartbeats 4000000 in
theorem runquote_any (q : ByteArray) (hq : q.size ≤ 1099511627776) (w : World) : Calls Tryz.prog 32 #[.string q] w fun e w' => e = .returned (.tuple #[strV (unqZ (tl q)), .int .i64 (unqE (tl q))]) ∧ Below w.heap.size w w' := by
  have kP := rplain_any q hq w
  have kQ := fun W => quoted_any q hq W
  have hlen : (tl q).length = q.size := by simp [tl]
  cases hp : isPl (tl q) with
  | true =>
    rw [hp] at kP
    have hv : Hid (strV (unqZ (tl q)) = .string q ∧ unqE (tl q) = 0) := Lib.hid (by
      have hu : unq (tl q) = some (tl q) := by unfold unq; rw [if_pos hp]
      unfold unqZ unqE
      rw [hu]
      exact ⟨by show strV (tl q) = _; unfold strV; rw [← bytes_eta], rfl⟩)
    clear hp hlen kQ
    go_enter Tryz.func32, Tryz.ntmps32
    go_wp2_with (go_at_call 30; refine kP.mono ?_; clear kP; rintro e w3 ⟨rfl, hB3⟩)
    go_ret2
    exact ⟨by rw [hv.out.1, hv.out.2]; rfl, hB3⟩
  | false =>
    rw [hp] at kP
    have hR := unq_R (tl q) hp
    obtain ⟨n, u, hq2⟩ : ∃ n u, quotedR (tl q) = (n, u) := ⟨_, _, rfl⟩
    rw [hq2] at hR kQ
    rw [hlen] at hR
    simp only at hR kQ
    have hR1 : ∀ (z : Bs) (e : Int), (z, e) = (unqZ (tl q), unqE (tl q)) → strV (unqZ (tl q)) = strV z ∧ unqE (tl q) = e := fun z e h => ⟨by rw [← (Prod.mk.inj h).1], (Prod.mk.inj h).2.symm⟩
    by_cases c1 : n = 0
    · rw [if_pos (.inl c1)] at hR
      have hv := Lib.hid (hR1 _ _ hR)
      have f1 : ((n : Int) == 0) = true := beq_iff_eq.2 (by omega)
      clear hR hR1 hp hlen hq2 c1
      go_enter Tryz.func32, Tryz.ntmps32
      go_wp2_with (first
        | (go_at_call 30; refine kP.mono ?_; clear kP; rintro e w3 ⟨rfl, hB3⟩)
        | (go_at_call 29; refine (kQ _).mono ?_; clear kQ; rintro e w4 ⟨rfl, hB4⟩))
      go_ret2
      exact ⟨by rw [hv.out.1, hv.out.2]; rfl, hB3.trans (hB4.mono hB3.size)⟩
    have f1 : ((n : Int) == 0) = false := beq_eq_false_iff_ne.2 (by omega)
    by_cases c2 : n = q.size
    · rw [if_neg (by rw [not_or, Decidable.not_not]; exact ⟨c1, c2⟩)] at hR
      have hv := Lib.hid (hR1 _ _ hR)
      have f2 : ((n : Int) != (q.size : Int)) = false := by rw [bne_eq_false_iff_eq]; omega
      clear hR hR1 hp hlen hq2 c1 c2
      go_enter Tryz.func32, Tryz.ntmps32
      go_wp2_with (first
        | (go_at_call 30; refine kP.mono ?_; clear kP; rintro e w3 ⟨rfl, hB3⟩)
        | (go_at_call 29; refine (kQ _).mono ?_; clear kQ; rintro e w4 ⟨rfl, hB4⟩))
      go_ret2
      exact ⟨by rw [hv.out.1, hv.out.2]; rfl, hB3.trans (hB4.mono hB3.size)⟩
    · rw [if_pos (.inr c2)] at hR
      have hv := Lib.hid (hR1 _ _ hR)
      have f2 : ((n : Int) != (q.size : Int)) = true := by rw [bne_iff_ne]; omega
      clear hR hR1 hp hlen hq2 c1 c2
      go_enter Tryz.func32, Tryz.ntmps32
      go_wp2_with (first
        | (go_at_call 30; refine kP.mono ?_; clear kP; rintro e w3 ⟨rfl, hB3⟩)
        | (go_at_call 29; refine (kQ _).mono ?_; clear kQ; rintro e w4 ⟨rfl, hB4⟩))
      go_ret2
      exact ⟨by rw [hv.out.1, hv.out.2]; rfl, hB3.trans (hB4.mono hB3.size)⟩
end Go.Proofs.YtjplgcmfifoefaaGreatDoor
namespace Go.Proofs.YtjplgcmfifoefaaGreatDoor
open Go.RowKit Go.Shelf Go.Maps
set_option linter.unusedVariables false
set_option linter.unusedSimpArgs false
attribute [local go_sem] Oper.semAt_some

theorem dw_id {m : Bs} (h0 : m.getD 0 0 ≠ 32) (hne : m ≠ []) : m.dropWhile (· == 32) = m := by
  cases m with
  | nil => exact absurd rfl hne
  | cons a t =>
    rw [List.dropWhile_cons_of_neg]
    simpa using h0
theorem parts_quote (f : Nat) (m : Bs) (hne : m ≠ []) (h : m.getD 0 0 = 34) : partsG (f + 1) m =
    if (quotedR m).1 = 0 then none else if (quotedR m).1 < m.length ∧ m.getD (quotedR m).1 0 ≠ 32 then none else (partsG f (m.drop (quotedR m).1)).map (m.take (quotedR m).1 :: ·) := by
  have hdw := dw_id (by rw [h]; decide) hne
  rw [partsG, hdw, if_neg hne]
  obtain ⟨n, u, hq⟩ : ∃ n u, quotedR m = (n, u) := ⟨_, _, rfl⟩
  rw [hq]
  simp only
  by_cases hn : n = 0
  · rw [if_pos hn, if_neg]
    rintro ⟨-, hu⟩
    have h34 : (m.take (cutN m)).getD 0 0 = 34 := by
      have hz : m.take (cutN m) ≠ [] := by
        intro e
        rw [e] at hu
        cases hu
      cases m with
      | nil => exact absurd rfl hne
      | cons a t =>
        cases hc : cutN (a :: t) with
        | zero => rw [hc] at hz; exact absurd rfl hz
        | succ k => exact h
    obtain ⟨X, g, hX, hg⟩ := unq_form hu h34
    obtain ⟨Y, hY⟩ := Option.isSome_iff_exists.1 hg
    have h1 := quoted_yes X (m.drop (cutN m)) Y g hY
    have h2 : m = 34 :: (X ++ 34 :: m.drop (cutN m)) := by
      conv => lhs; rw [← List.take_append_drop (cutN m) m, hX]
      simp
    rw [← h2, hq] at h1
    have := (Prod.mk.inj h1).1
    omega
  · obtain ⟨X, R, hm, e1, e2, e3⟩ := quoted_form hq hn
    have hcut : cutN m = n := by
      unfold cutN
      rw [if_pos h]
      have hs := unq_sc (X.length + 2) X (by rw [e2]; rfl) R m.length (by rw [hm]; simp; omega)
      have hd : m.drop 1 = X ++ 34 :: R := by rw [hm]; rfl
      have hl : m.length = X.length + R.length + 2 := by rw [hm]; simp only [List.length_cons, List.length_append]; omega
      rw [hd, hs, hl]
      omega
    rw [if_neg hn, hcut]
    have hle : n ≤ m.length := by rw [hm, e1]; simp only [List.length_cons, List.length_append]; omega
    by_cases hc : n < m.length ∧ m.getD n 0 ≠ 32
    · rw [if_pos hc, if_neg]
      rintro ⟨h1 | h1, -⟩
      · omega
      · exact hc.2 h1
    · rw [if_neg hc, if_pos]
      refine ⟨?_, by rw [e3]; rfl⟩
      by_cases h1 : n = m.length
      · exact .inl h1
      · exact .inr (Decidable.not_not.1 fun h2 => hc ⟨by omega, h2⟩)
theorem parts_word (f : Nat) (m : Bs) (hne : m ≠ []) (h34 : m.getD 0 0 ≠ 34) (h32 : m.getD 0 0 ≠ 32) : partsG (f + 1) m =
    if isPl (m.take (m.findIdx (· == 32))) then (partsG f (m.drop (m.findIdx (· == 32)))).map (m.take (m.findIdx (· == 32)) :: ·) else none := by
  have hdw := dw_id h32 hne
  have hcut : cutN m = m.findIdx (· == 32) := by
    unfold cutN
    rw [if_neg h34]
  rw [partsG, hdw, if_neg hne, hcut]
  have hpos : 1 ≤ m.findIdx (· == 32) := by
    cases m with
    | nil => exact absurd rfl hne
    | cons a t =>
      rw [List.findIdx_cons, show (a == 32) = false from beq_eq_false_iff_ne.2 (by simpa using h32)]
      simp
  have hend : m.findIdx (· == 32) = m.length ∨ m.getD (m.findIdx (· == 32)) 0 = 32 := by
    by_cases hx : m.findIdx (· == 32) < m.length
    · right
      have := List.findIdx_getElem (w := hx)
      rw [List.getD_eq_getElem?_getD, List.getElem?_eq_getElem hx]
      simpa using this
    · left
      have := List.findIdx_le_length (xs := m) (p := (· == 32))
      omega
  by_cases hp : isPl (m.take (m.findIdx (· == 32))) = true
  · rw [if_pos ⟨hend, by unfold unq; rw [if_pos hp]; rfl⟩, if_pos hp]
  · rw [if_neg hp, if_neg]
    rintro ⟨-, hu⟩
    unfold unq at hu
    rw [if_neg hp, if_pos] at hu
    · cases hu
    · right; left
      cases m with
      | nil => exact absurd rfl hne
      | cons a t =>
        obtain ⟨k, hk⟩ : ∃ k, (a :: t).findIdx (· == 32) = k + 1 := ⟨(a :: t).findIdx (· == 32) - 1, by omega⟩
        rw [hk, List.take_succ_cons]
        exact h34
theorem find_at (L : Bs) (d : Nat) (h1 : ∀ j b, j < d → L[j]? = some b → b ≠ 32) (h2 : d = L.length ∨ L[d]? = some 32) : L.findIdx (· == 32) = d := by
  rcases h2 with h2 | h2
  · rw [h2, List.findIdx_eq_length]
    intro x hx
    obtain ⟨j, hj, rfl⟩ := List.getElem_of_mem hx
    exact beq_eq_false_iff_ne.2 (h1 j _ (by omega) (List.getElem?_eq_getElem hj))
  · obtain ⟨hd, he⟩ := List.getElem?_eq_some_iff.1 h2
    rw [List.findIdx_eq hd]
    refine ⟨by rw [he]; rfl, fun j hj => beq_eq_false_iff_ne.2 (h1 j _ hj (List.getElem?_eq_getElem (by omega)))⟩
def PartsX (X : Option (List Bs)) (N base : Nat) (e : Ending) (w : World) : Prop :=
  (∃ ps A c, X = some (ps.map tl) ∧ e = .returned (.tuple #[.slice A ps.length c, .bool true]) ∧ Own w base 9 1 encQ (.slice A ps.length c) ps ∧ ps.length ≤ N)
  ∨ (X = none ∧ e = .returned (.tuple #[.slice none 0 0, .bool false]))
set_option maxRecDepth 100000 in
set_option maxHeartbeats 16000000 in
theorem rparts_any (q : ByteArray) (hq : q.size ≤ 1099511627776) (w : World) : Calls Tryz.prog 14 #[.string q] w fun e w' => PartsRes q w.heap.size e w' ∧ Below w.heap.size w w' := by
  show Calls Tryz.prog 14 #[.string q] w fun e w' => PartsX (partsG (q.size + 1) (tl q)) q.size w.heap.size e w' ∧ Below w.heap.size w w'
  obtain ⟨X, hX⟩ : ∃ X, partsG (q.size + 1) (tl q) = X := ⟨_, rfl⟩
  rw [hX]
  replace hX := Lib.hid hX
  go_enter Tryz.func14, Tryz.ntmps14
  go_wp2_with (fail)
  go_loopw [4, 5] (fun bv iv wr => ∃ (acc : List ByteArray) (A : Option Addr) (c i f : Nat), i ≤ q.size ∧ bv = .slice A acc.length c ∧ iv = .int .i64 i ∧ Own wr w.heap.size 9 1 encQ (.slice A acc.length c) acc ∧ Below w.heap.size w wr ∧ Hid (X = (partsG f ((tl q).drop i)).map (acc.map tl ++ ·)) ∧ q.size - i < f ∧ acc.length ≤ i) (fun _ iv _ => q.size - (intOf iv).toNat)
  case atStart => exact ⟨[], none, 0, 0, q.size + 1, by omega, rfl, rfl, Own.nil_ _ _ _ _ _, Below.refl _ _, Lib.hid (by rw [← hX.out]; simp), by omega, by simp⟩
  case round =>
    obtain ⟨acc, A, c, i, f, hi, rfl, rfl, ho, hB, hu, hpf, hap⟩ := hrel
    clear hX
    obtain ⟨f, rfl⟩ : ∃ g, f = g + 1 := ⟨f - 1, by omega⟩
    have hlen : (tl q).length = q.size := by simp [tl]
    by_cases hl : i < q.size
    case neg =>
      have hI : ¬ (i : Int) < q.size := by omega
      have hv : Hid (X = some (acc.map tl)) := Lib.hid (by
        rw [hu.out, List.drop_of_length_le (by omega)]
        have h0 : partsG (f + 1) [] = some [] := by unfold partsG; rfl
        rw [h0]
        simp)
      clear hu hlen
      go_wp2_with (fail)
      go_ret2
      exact ⟨.inl ⟨acc, A, c, hv.out, rfl, ho, by omega⟩, hB⟩
    have hI : (i : Int) < q.size := by omega
    have hIn : ¬ (i : Int) < 0 := by omega
    have hdc := drop_cons q i hl
    have hne : (tl q).drop i ≠ [] := by rw [hdc]; simp
    have hd0 : ((tl q).drop i).getD 0 0 = q[i] := by rw [hdc]; rfl
    by_cases b1 : q[i].toNat = 32
    · have g1 : (((q[i].toNat : Nat) : Int) == 32) = true := beq_iff_eq.2 (by omega)
      have hs : Hid (X = (partsG (f + 1) ((tl q).drop (i + 1))).map (acc.map tl ++ ·)) := Lib.hid (by
        rw [hu.out, hdc, show q[i] = 32 from UInt8.toNat_inj.1 b1]
        show (partsG (f + 1) ([32] ++ (tl q).drop (i + 1))).map _ = _
        rw [parts_blank _ _ _ (by intro b hb; simpa using hb)])
      clear hu hlen hdc hne hd0 b1
      go_wp2_with (fail)
      exact ⟨⟨acc, A, c, i + 1, f + 1, by omega, rfl, rfl, ho, hB, hs, by omega, by omega⟩, by simp only [intOf]; omega⟩
    have g1 : (((q[i].toNat : Nat) : Int) == 32) = false := beq_eq_false_iff_ne.2 (by omega)
    have h32 : ((tl q).drop i).getD 0 0 ≠ 32 := by rw [hd0]; intro e; exact b1 (by rw [e]; rfl)
    have hdl : ((tl q).drop i).length = q.size - i := by rw [List.length_drop, hlen]
    have hdk : ∀ k b, i ≤ k → (tl q)[k]? = some b → ((tl q).drop i)[k - i]? = some b := fun k b hk h => by
      rw [List.getElem?_drop, show i + (k - i) = k by omega]
      exact h
    by_cases b2 : q[i].toNat = 34
    · have g2 : (((q[i].toNat : Nat) : Int) == 34) = true := beq_iff_eq.2 (by omega)
      have hu2 := hu.out
      rw [parts_quote f _ hne (by rw [hd0]; exact UInt8.toNat_inj.1 b2)] at hu2
      have kQ := fun W => quoted_any (q.extract i q.size) (by rw [ByteArray.size_extract]; omega) W
      have he : tl (q.extract i q.size) = (tl q).drop i := by
        show (q.extract i q.size).data.toList = _
        rw [extract_bytes _ _ _ (Nat.le_refl _), List.take_of_length_le (by simp)]
      rw [he] at kQ
      obtain ⟨n, u, hq2⟩ : ∃ n u, quotedR ((tl q).drop i) = (n, u) := ⟨_, _, rfl⟩
      rw [hq2] at hu2 kQ
      simp only at hu2 kQ
      have hnl : n ≠ 0 → 2 ≤ n ∧ n ≤ q.size - i := fun hn => by
        obtain ⟨Y, R, hm, e1, -⟩ := quoted_form hq2 hn
        have : ((tl q).drop i).length = Y.length + R.length + 2 := by rw [hm]; simp; omega
        omega
      have hle : (i : Int) ≤ q.size := by omega
      by_cases c1 : n = 0
      · have f1 : ((n : Int) == 0) = true := beq_iff_eq.2 (by omega)
        have hv : Hid (X = none) := Lib.hid (by rw [hu2, if_pos c1]; rfl)
        clear hu hu2 hlen hdc hne hd0 b1 b2 h32 hdl hdk he hq2 hnl c1
        go_wp2_with (go_at_call 29; refine (kQ _).mono ?_; clear kQ; rintro e w4 ⟨rfl, hB4⟩)
        go_ret2
        exact ⟨.inr ⟨hv.out, rfl⟩, hB.trans (hB4.mono hB.size)⟩
      have f1 : ((n : Int) == 0) = false := beq_eq_false_iff_ne.2 (by omega)
      obtain ⟨hn2, hn3⟩ := hnl c1
      obtain ⟨k, hk⟩ : ∃ k, k = i + n := ⟨_, rfl⟩
      have hkI : (i : Int) + n = (k : Int) := by omega
      have hk0 : ¬ (k : Int) < 0 := by omega
      have hik : (i : Int) ≤ k := by omega
      rw [if_neg c1] at hu2
      have hsu : Hid (¬ (n < q.size - i ∧ ((tl q).drop i).getD n 0 ≠ 32) → X = (partsG f ((tl q).drop k)).map ((acc ++ [q.extract i k]).map tl ++ ·)) := Lib.hid (fun hc => by
        rw [hu2, if_neg (by rw [hdl]; exact hc), List.drop_drop, ← hk]
        have e5 : tl (q.extract i k) = ((tl q).drop i).take n := by
          show (q.extract i k).data.toList = _
          rw [extract_bytes _ _ _ (by omega), List.drop_take, show k - i = n by omega]
        cases partsG f ((tl q).drop k) with
        | none => rfl
        | some x =>
          show some (acc.map tl ++ (((tl q).drop i).take n :: x)) = some ((acc ++ [q.extract i k]).map tl ++ x)
          rw [List.map_append, List.append_assoc, List.map_cons, e5]
          rfl)
      by_cases c2 : k < q.size
      · have hIk : (k : Int) < q.size := by omega
        have hkn : ((tl q).drop i).getD n 0 = q[k] := by
          rw [List.getD_eq_getElem?_getD, List.getElem?_drop, ← hk, List.getElem?_eq_getElem (by omega)]
          rfl
        by_cases c3 : q[k].toNat = 32
        · have f3 : (((q[k].toNat : Nat) : Int) != 32) = false := by rw [bne_eq_false_iff_eq]; omega
          have hs : Hid (X = (partsG f ((tl q).drop k)).map ((acc ++ [q.extract i k]).map tl ++ ·)) := Lib.hid (hsu.out (by
            rintro ⟨-, h⟩
            exact h (by rw [hkn]; exact UInt8.toNat_inj.1 c3)))
          have hkN : Hid (i + 2 ≤ k) := Lib.hid (by omega)
          clear hu hu2 hlen hdc hne hd0 b1 b2 h32 hdl hdk he hq2 hnl c1 c3 hn2 hn3 hk hkn hsu
          go_wp2_with (first
          | (go_at_call 29; refine (kQ _).mono ?_; clear kQ; rintro e w4 ⟨rfl, hB4⟩)
          | (first
          | (refine wl_bsS rfl _ rfl (q.extract i k) rfl ?_)
          | (refine wl_appS rfl _ _ rfl w.heap.size acc [q.extract i k] rfl rfl rfl (slice_oneQ (Blk.new _ _ _)) ((ho.then_ hB4).alloc _) rfl (by simp; omega) (by have := (hB.trans (hB4.mono hB.size)).size; rw [World.size_alloc]; omega) ?_; intro A8 c8 w8 ho8 hg8)))
          have hB8 : Below w.heap.size w w8 := below_own (below_alloc (hB.trans (hB4.mono hB.size)) (.cells (encQ (q.extract i k)) 9)) hg8 (fun k e => ((ho.then_ hB4).lt k e).1)
          have e9 : (acc ++ [q.extract i k]).length = acc.length + 1 := by simp
          have hkH := hkN.out
          exact ⟨⟨acc ++ [q.extract i k], A8, c8, k, f, by omega, by rw [e9], rfl, by rw [e9]; exact ho8, hB8, hs, by omega, by rw [e9]; omega⟩, by simp only [intOf]; omega⟩
        · have f3 : (((q[k].toNat : Nat) : Int) != 32) = true := bne_iff_ne.2 (by omega)
          have hv : Hid (X = none) := Lib.hid (by
            rw [hu2, if_pos]
            · rfl
            · rw [hdl, hkn]
              exact ⟨by omega, fun h => c3 (by rw [h]; rfl)⟩)
          clear hu hu2 hlen hdc hne hd0 b1 b2 h32 hdl hdk he hq2 hnl c1 c3 hn2 hn3 hk hkn hsu
          go_wp2_with (go_at_call 29; refine (kQ _).mono ?_; clear kQ; rintro e w4 ⟨rfl, hB4⟩)
          go_ret2
          exact ⟨.inr ⟨hv.out, rfl⟩, hB.trans (hB4.mono hB.size)⟩
      · have hIk : ¬ (k : Int) < q.size := by omega
        have hkle : (k : Int) ≤ q.size := by omega
        have hs : Hid (X = (partsG f ((tl q).drop k)).map ((acc ++ [q.extract i k]).map tl ++ ·)) := Lib.hid (hsu.out (by
          rintro ⟨h, -⟩
          omega))
        have hkN : Hid (i + 2 ≤ k) := Lib.hid (by omega)
        have hkq : k ≤ q.size := by omega
        clear hu hu2 hlen hdc hne hd0 b1 b2 h32 hdl hdk he hq2 hnl c1 hn2 hn3 hk hsu
        go_wp2_with (first
          | (go_at_call 29; refine (kQ _).mono ?_; clear kQ; rintro e w4 ⟨rfl, hB4⟩)
          | (first
          | (refine wl_bsS rfl _ rfl (q.extract i k) rfl ?_)
          | (refine wl_appS rfl _ _ rfl w.heap.size acc [q.extract i k] rfl rfl rfl (slice_oneQ (Blk.new _ _ _)) ((ho.then_ hB4).alloc _) rfl (by simp; omega) (by have := (hB.trans (hB4.mono hB.size)).size; rw [World.size_alloc]; omega) ?_; intro A8 c8 w8 ho8 hg8)))
        have hB8 : Below w.heap.size w w8 := below_own (below_alloc (hB.trans (hB4.mono hB.size)) (.cells (encQ (q.extract i k)) 9)) hg8 (fun k e => ((ho.then_ hB4).lt k e).1)
        have e9 : (acc ++ [q.extract i k]).length = acc.length + 1 := by simp
        have hkH := hkN.out
        exact ⟨⟨acc ++ [q.extract i k], A8, c8, k, f, by omega, by rw [e9], rfl, by rw [e9]; exact ho8, hB8, hs, by omega, by rw [e9]; omega⟩, by simp only [intOf]; omega⟩
    have g2 : (((q[i].toNat : Nat) : Int) == 34) = false := beq_eq_false_iff_ne.2 (by omega)
    have hu2 := hu.out
    rw [parts_word f _ hne (by rw [hd0]; intro e; exact b2 (by rw [e]; rfl)) h32] at hu2
    replace hu2 := Lib.hid hu2
    have hdkH := Lib.hid hdk
    have hdlH := Lib.hid hdl
    have hf0 : Hid (∀ b, (tl q)[i]? = some b → b ≠ 32) := Lib.hid (fun b hb => by
      rw [List.getElem?_eq_getElem (by omega)] at hb
      have : q[i] = b := Option.some.inj hb
      intro e
      exact b1 (by rw [this, e]; rfl))
    clear hu hlen hdc hne hd0 b1 b2 h32 hdl hdk
    go_wp2_with (fail)
    go_loopw [6] (fun kv wx => ∃ k, i ≤ k ∧ k ≤ q.size ∧ kv = .int .i64 (k : Nat) ∧ Hid (∀ j b, i ≤ j → j < k → (tl q)[j]? = some b → b ≠ 32) ∧ Hid (wx = wr)) (fun kv _ => q.size - (intOf kv).toNat)
    case atStart => exact ⟨i, by omega, by omega, rfl, Lib.hid (fun j b h1 h2 => by omega), Lib.hid rfl⟩
    case round =>
      obtain ⟨k, hik, hkq, rfl, hno, hwx⟩ := hrel
      have hik' : (i : Int) ≤ k := by omega
      have hk0 : ¬ (k : Int) < 0 := by omega
      by_cases d1 : k < q.size
      · have hIk : (k : Int) < q.size := by omega
        by_cases d2 : q[k].toNat = 32
        · have f2 : (((q[k].toNat : Nat) : Int) != 32) = false := by rw [bne_eq_false_iff_eq]; omega
          have hend : Hid (k - i = ((tl q).drop i).length ∨ ((tl q).drop i)[k - i]? = some 32) := Lib.hid (.inr (hdkH.out k 32 hik (by
            rw [List.getElem?_eq_getElem (by simpa [tl] using d1)]
            exact congrArg some (UInt8.toNat_inj.1 d2))))
          clear d2
          have hnlast : Hid (¬ (k < q.size ∧ (((q[k]'d1).toNat : Nat) : Int) ≠ 32)) := Lib.hid (by rintro ⟨-, h⟩; exact h (by have := f2; rw [bne_eq_false_iff_eq] at this; exact this))
          have hfi : ((tl q).drop i).findIdx (· == 32) = k - i := find_at _ _ (fun j b h1 h2 => by
            rw [List.getElem?_drop] at h2
            exact hno.out (i + j) b (by omega) (by omega) h2) hend.out
          have he5 : tl (q.extract i k) = ((tl q).drop i).take (k - i) := by
            show (q.extract i k).data.toList = _
            rw [extract_bytes _ _ _ (by omega), List.drop_take]
          have hu3 := hu2.out
          rw [hfi, ← he5, List.drop_drop, show i + (k - i) = k by omega] at hu3
          have hik1 : Hid (isPl (tl (q.extract i k)) = true → i + 1 ≤ k) := Lib.hid (fun h => by
            refine Classical.byContradiction fun hc => ?_
            have : k - i = 0 := by omega
            rw [he5, this, List.take_zero] at h
            cases h)
          have kP := fun W => rplain_any (q.extract i k) (by rw [ByteArray.size_extract]; omega) W
          have hkle : (k : Int) ≤ q.size := by omega
          obtain ⟨pl, hpl⟩ : ∃ pl, isPl (tl (q.extract i k)) = pl := ⟨_, rfl⟩
          rw [hpl] at kP hu3 hik1
          cases pl with
          | true =>
            have hs : Hid (X = (partsG f ((tl q).drop k)).map ((acc ++ [q.extract i k]).map tl ++ ·)) := Lib.hid (by
              rw [hu3, if_pos rfl]
              cases partsG f ((tl q).drop k) with
              | none => rfl
              | some x =>
                show some (acc.map tl ++ (tl (q.extract i k) :: x)) = some ((acc ++ [q.extract i k]).map tl ++ x)
                rw [List.map_append, List.append_assoc]
                rfl)
            have hkN : Hid (i + 1 ≤ k) := Lib.hid (hik1.out rfl)
            have hwx2 := hwx.out
            subst hwx2
            clear hu3 hfi he5 hpl hno hend hik1 hu2
            go_wp2_with (first
              | (go_at_call 30; refine (kP _).mono ?_; clear kP; rintro e w4 ⟨rfl, hB4⟩)
              | (first
                    | (refine wl_bsS rfl _ rfl (q.extract i k) rfl ?_)
                    | (refine wl_appS rfl _ _ rfl w.heap.size acc [q.extract i k] rfl rfl rfl (slice_oneQ (Blk.new _ _ _)) ((ho.then_ hB4).alloc _) rfl (by simp; omega) (by have := (hB.trans (hB4.mono hB.size)).size; rw [World.size_alloc]; omega) ?_; intro A8 c8 w8 ho8 hg8)))
            have hB8 : Below w.heap.size w w8 := below_own (below_alloc (hB.trans (hB4.mono hB.size)) (.cells (encQ (q.extract i k)) 9)) hg8 (fun k e => ((ho.then_ hB4).lt k e).1)
            have e9 : (acc ++ [q.extract i k]).length = acc.length + 1 := by simp
            have hkH := hkN.out
            exact ⟨⟨acc ++ [q.extract i k], A8, c8, k, f, by omega, by rw [e9], rfl, by rw [e9]; exact ho8, hB8, hs, by omega, by rw [e9]; omega⟩, by simp only [intOf]; omega⟩
          | false =>
            have hv : Hid (X = none) := Lib.hid (by rw [hu3, if_neg (by decide)]; rfl)
            have hwx2 := hwx.out
            subst hwx2
            clear hu3 hfi he5 hpl hno hend hik1 hu2
            go_wp2_with (go_at_call 30; refine (kP _).mono ?_; clear kP; rintro e w4 ⟨rfl, hB4⟩)
            go_ret2
            exact ⟨.inr ⟨hv.out, rfl⟩, hB.trans (hB4.mono hB.size)⟩
        · have f2 : (((q[k].toNat : Nat) : Int) != 32) = true := bne_iff_ne.2 (by omega)
          have hno2 : Hid (∀ j b, i ≤ j → j < k + 1 → (tl q)[j]? = some b → b ≠ 32) := Lib.hid (fun j b h1 h2 h3 => by
            by_cases hj : j < k
            · exact hno.out j b h1 hj h3
            · obtain rfl : j = k := by omega
              rw [List.getElem?_eq_getElem (by simpa [tl] using d1)] at h3
              have : q[j] = b := Option.some.inj h3
              intro e
              exact d2 (by rw [this, e]; rfl))
          clear d2 hno
          go_wp2_with (fail)
          exact ⟨⟨k + 1, by omega, by omega, rfl, hno2, hwx⟩, by simp only [intOf]; omega⟩
      · have hIk : ¬ (k : Int) < q.size := by omega
        have hend : Hid (k - i = ((tl q).drop i).length ∨ ((tl q).drop i)[k - i]? = some 32) := Lib.hid (.inl (by have := hdlH.out; omega))
        have hfi : ((tl q).drop i).findIdx (· == 32) = k - i := find_at _ _ (fun j b h1 h2 => by
          rw [List.getElem?_drop] at h2
          exact hno.out (i + j) b (by omega) (by omega) h2) hend.out
        have he5 : tl (q.extract i k) = ((tl q).drop i).take (k - i) := by
          show (q.extract i k).data.toList = _
          rw [extract_bytes _ _ _ (by omega), List.drop_take]
        have hu3 := hu2.out
        rw [hfi, ← he5, List.drop_drop, show i + (k - i) = k by omega] at hu3
        have hik1 : Hid (isPl (tl (q.extract i k)) = true → i + 1 ≤ k) := Lib.hid (fun h => by
          refine Classical.byContradiction fun hc => ?_
          have : k - i = 0 := by omega
          rw [he5, this, List.take_zero] at h
          cases h)
        have kP := fun W => rplain_any (q.extract i k) (by rw [ByteArray.size_extract]; omega) W
        have hkle : (k : Int) ≤ q.size := by omega
        obtain ⟨pl, hpl⟩ : ∃ pl, isPl (tl (q.extract i k)) = pl := ⟨_, rfl⟩
        rw [hpl] at kP hu3 hik1
        cases pl with
        | true =>
          have hs : Hid (X = (partsG f ((tl q).drop k)).map ((acc ++ [q.extract i k]).map tl ++ ·)) := Lib.hid (by
            rw [hu3, if_pos rfl]
            cases partsG f ((tl q).drop k) with
            | none => rfl
            | some x =>
              show some (acc.map tl ++ (tl (q.extract i k) :: x)) = some ((acc ++ [q.extract i k]).map tl ++ x)
              rw [List.map_append, List.append_assoc]
              rfl)
          have hkN : Hid (i + 1 ≤ k) := Lib.hid (hik1.out rfl)
          have hwx2 := hwx.out
          subst hwx2
          clear hu3 hfi he5 hpl hno hend hik1 hu2
          go_wp2_with (first
            | (go_at_call 30; refine (kP _).mono ?_; clear kP; rintro e w4 ⟨rfl, hB4⟩)
            | (first
                  | (refine wl_bsS rfl _ rfl (q.extract i k) rfl ?_)
                  | (refine wl_appS rfl _ _ rfl w.heap.size acc [q.extract i k] rfl rfl rfl (slice_oneQ (Blk.new _ _ _)) ((ho.then_ hB4).alloc _) rfl (by simp; omega) (by have := (hB.trans (hB4.mono hB.size)).size; rw [World.size_alloc]; omega) ?_; intro A8 c8 w8 ho8 hg8)))
          have hB8 : Below w.heap.size w w8 := below_own (below_alloc (hB.trans (hB4.mono hB.size)) (.cells (encQ (q.extract i k)) 9)) hg8 (fun k e => ((ho.then_ hB4).lt k e).1)
          have e9 : (acc ++ [q.extract i k]).length = acc.length + 1 := by simp
          have hkH := hkN.out
          exact ⟨⟨acc ++ [q.extract i k], A8, c8, k, f, by omega, by rw [e9], rfl, by rw [e9]; exact ho8, hB8, hs, by omega, by rw [e9]; omega⟩, by simp only [intOf]; omega⟩
        | false =>
          have hv : Hid (X = none) := Lib.hid (by rw [hu3, if_neg (by decide)]; rfl)
          have hwx2 := hwx.out
          subst hwx2
          clear hu3 hfi he5 hpl hno hend hik1 hu2
          go_wp2_with (go_at_call 30; refine (kP _).mono ?_; clear kP; rintro e w4 ⟨rfl, hB4⟩)
          go_ret2
          exact ⟨.inr ⟨hv.out, rfl⟩, hB.trans (hB4.mono hB.size)⟩
end Go.Proofs.YtjplgcmfifoefaaGreatDoor
