/- How a pattern is read (chapter 4): the plain law, as one function; both the program's reader and the document's are walked against it. No condition beyond those named in each lemma. -/
import Derived.Test.YtajainmldcnaeaaNodeP
namespace Go.Proofs.Ytajainmldcnaeaa
set_option linter.unusedVariables false
set_option linter.unusedSimpArgs false

namespace Ere
/-- the byte at a place -/
def chr (q : ByteArray) (i : Nat) : Nat := if h : i < q.size then (q[i]).toNat else 0
theorem chr_lt (q : ByteArray) (i : Nat) : chr q i < 256 := by
  unfold chr
  split
  · exact UInt8.toNat_lt _
  · omega
/-- a fault: its number and its place; or an answer and the place behind it -/
inductive Res (α : Type) where
  | fault (e at_ : Nat)
  | got (x : α) (i : Nat)
def Res.bind {α β : Type} (r : Res α) (f : α → Nat → Res β) : Res β := match r with
  | .fault e i => .fault e i
  | .got x i => f x i
def isAt (p : ByteArray) (i c : Nat) : Bool := decide (i < p.size) && decide (chr p i = c)
def oneOf (p : ByteArray) (i : Nat) (l : List Nat) : Bool := decide (i < p.size) && l.contains (chr p i)
def zeroN : Nd := .mk 0 0 [] 0 0
def setN (s : BSet) : Nd := .mk 2 (s &&& notB 0) [] 0 0
def someN (k : Int) (l : List Nd) : Nd := match l with
  | [] => .mk 1 0 [] 0 0
  | [x] => x
  | _ => .mk k 0 l 0 0
/-- the named sets -/
def upperB : BSet := spanB 65 90
def lowerB : BSet := spanB 97 122
def digitB : BSet := spanB 48 57
def nameB (l : List Nat) : Option BSet :=
  if l = [117, 112, 112, 101, 114] then some upperB
  else if l = [108, 111, 119, 101, 114] then some lowerB
  else if l = [100, 105, 103, 105, 116] then some digitB
  else if l = [97, 108, 112, 104, 97] then some (upperB ||| lowerB)
  else if l = [97, 108, 110, 117, 109] then some (upperB ||| lowerB ||| digitB)
  else if l = [120, 100, 105, 103, 105, 116] then some (digitB ||| spanB 65 70 ||| spanB 97 102)
  else if l = [98, 108, 97, 110, 107] then some (bit 9 ||| bit 32)
  else if l = [115, 112, 97, 99, 101] then some (spanB 9 13 ||| bit 32)
  else if l = [99, 110, 116, 114, 108] then some (spanB 0 31 ||| bit 127)
  else if l = [103, 114, 97, 112, 104] then some (spanB 33 126)
  else if l = [112, 114, 105, 110, 116] then some (spanB 32 126)
  else if l = [112, 117, 110, 99, 116] then some (spanB 33 47 ||| spanB 58 64 ||| spanB 91 96 ||| spanB 123 126)
  else none
/-- the bytes from one place up to another -/
def sub (p : ByteArray) (i j : Nat) : List Nat := (List.range (j - i)).map fun k => chr p (i + k)
/-- where the next ':]' stands -/
def endAt (p : ByteArray) : Nat → Nat → Option Nat
  | 0, _ => none
  | n + 1, i => if p.size ≤ i + 1 then none else if chr p i = 58 ∧ chr p (i + 1) = 93 then some i else endAt p n (i + 1)
/-- a '[:', a name, ':]' at i, within the set at 'from_' -/
def classR (p : ByteArray) (from_ i : Nat) : Res BSet :=
  match endAt p p.size (i + 2) with
  | none => .fault 43 from_
  | some j => match nameB (sub p (i + 2) j) with
    | none => .fault 30 i
    | some s => .got s (j + 2)
def itemR (p : ByteArray) (from_ i : Nat) : Res BSet :=
  if isAt p i 91 && isAt p (i + 1) 58 then classR p from_ i
  else if isAt p i 91 && oneOf p (i + 1) [46, 61] then .fault 43 i
  else if !isAt p (i + 1) 45 || decide (p.size ≤ i + 2) || isAt p (i + 2) 93 then .got (bit (chr p i)) (i + 1)
  else if decide (chr p (i + 2) < chr p i) || (decide (chr p (i + 2) = 91) && oneOf p (i + 3) [58, 46, 61]) then .fault 43 i
  else .got (spanB (chr p i) (chr p (i + 2))) (i + 3)
def itemsR (p : ByteArray) (from_ : Nat) : Nat → Bool → Nat → BSet → Res BSet
  | 0, _, _, _ => .fault 0 0
  | n + 1, first, i, s => if !first && isAt p i 93 then .got s i else if p.size ≤ i then .fault 43 from_ else (itemR p from_ i).bind fun t j => itemsR p from_ n false j (s ||| t)
def setR (p : ByteArray) (from_ i : Nat) : Res Nd :=
  (itemsR p from_ (p.size + 2) true (if isAt p i 94 then i + 1 else i) 0).bind fun s j => .got (setN (if isAt p i 94 then notB s else s)) (j + 1)
/-- up to four digits: the number, the place behind, how many -/
def digits (p : ByteArray) : Nat → Nat → Nat → Nat → Nat × Nat × Nat
  | 0, i, n, m => (n, i, m)
  | k + 1, i, n, m => if decide (i < p.size) && decide (48 ≤ chr p i) && decide (chr p i ≤ 57) then digits p k (i + 1) (10 * n + (chr p i - 48)) (m + 1) else (n, i, m)
def cntOk (d : Nat × Nat × Nat) : Bool := decide (0 < d.2.2) && decide (d.2.2 < 4) && decide (d.1 ≤ 255)
/-- what stands behind a '{' at i: least, most, and the place of the '}' -/
def countsR (p : ByteArray) (i : Nat) : Res (Nat × Int) :=
  let d := digits p 4 (i + 1) 0 0
  if cntOk d && isAt p d.2.1 44 then
    if isAt p (d.2.1 + 1) 125 then .got (d.1, -1) (d.2.1 + 1)
    else
      let f := digits p 4 (d.2.1 + 1) 0 0
      if !cntOk f || !isAt p f.2.1 125 || decide (f.1 < d.1) then .fault 45 i else .got (d.1, (f.1 : Int)) f.2.1
  else if !cntOk d || !isAt p d.2.1 125 then .fault 45 i else .got (d.1, (d.1 : Int)) d.2.1
def timesN (t : Nd) (a b : Int) : Nd := .mk 5 0 [t] a b
def repeatR (p : ByteArray) (t : Nd) (i : Nat) : Res Nd :=
  if isAt p i 42 then .got (timesN t 0 (-1)) (i + 1)
  else if isAt p i 43 then .got (timesN t 1 (-1)) (i + 1)
  else if isAt p i 63 then .got (timesN t 0 1) (i + 1)
  else if isAt p i 123 then (countsR p i).bind fun c j => .got (timesN t (c.1 : Int) c.2) (j + 1)
  else .got t i
/-- the bytes that may stand behind a backslash -/
def marks : List Nat := [46, 91, 93, 40, 41, 42, 43, 63, 123, 125, 124, 94, 36, 92, 47, 45]
/-- a piece at i; 'inner': the pattern of a group, where one more is allowed -/
def pieceR (p : ByteArray) (inner : Option (Nat → Res Nd)) (i : Nat) : Res Nd :=
  let c := chr p i
  if c = 94 then .got (.mk 6 0 [] 0 0) (i + 1)
  else if c = 36 then .got (.mk 7 0 [] 0 0) (i + 1)
  else if c = 42 ∨ c = 43 ∨ c = 63 ∨ c = 123 then .fault 44 i
  else if c = 40 then match inner with
    | none => .fault 47 i
    | some f => (f (i + 1)).bind fun t j => if p.size ≤ j then .fault 42 i else repeatR p t (j + 1)
  else if c = 91 then (setR p i (i + 1)).bind fun t j => repeatR p t j
  else if c = 46 then repeatR p (setN (notB 0)) (i + 1)
  else if c = 92 then (if oneOf p (i + 1) marks then repeatR p (setN (bit (chr p (i + 1)))) (i + 2) else .fault 46 i)
  else repeatR p (setN (bit c)) (i + 1)
def altR (p : ByteArray) (top : Bool) (pc : Nat → Res Nd) : Nat → Nat → List Nd → Res Nd
  | 0, _, _ => .fault 0 0
  | n + 1, i, l => if decide (p.size ≤ i) || isAt p i 124 then .got (someN 3 l) i
    else if isAt p i 41 then (if top then .fault 42 i else .got (someN 3 l) i)
    else (pc i).bind fun t j => altR p top pc n j (l ++ [t])
def patL (p : ByteArray) (al : Nat → Res Nd) : Nat → Nat → List Nd → Res Nd
  | 0, _, _ => .fault 0 0
  | n + 1, i, l => (al i).bind fun t j => if isAt p j 124 then patL p al n (j + 1) (l ++ [t]) else .got (someN 4 (l ++ [t])) j
/-- a pattern at i, within which so many groups may stand in one another (64: none is open) -/
def patR (p : ByteArray) : Nat → Nat → Res Nd
  | 0, i => patL p (fun i => altR p false (pieceR p none) (p.size + 2) i []) (p.size + 2) i []
  | n + 1, i => patL p (fun i => altR p (decide (n + 1 = 64)) (pieceR p (some (patR p n))) (p.size + 2) i []) (p.size + 2) i []
def nlAt (p : ByteArray) : Nat → Nat → Option Nat
  | 0, _ => none
  | n + 1, i => if p.size ≤ i then none else if chr p i = 10 then some i else nlAt p n (i + 1)
/-- the places that are told of a tree -/
def placesN (t : Nd) : Nat := if t.isT then min t.U 2048 + 1 else 0
/-- what is answered of a pattern: the tree, the place, the error -/
def parseR (p : ByteArray) : Nd × Nat × Nat :=
  if 1024 < p.size then (zeroN, 1024, 40)
  else match nlAt p (p.size + 1) 0 with
    | some i => (zeroN, i, 41)
    | none => match patR p 64 0 with
      | .fault e i => (zeroN, i, e)
      | .got t _ => if 2048 < placesN t then (zeroN, 0, 48) else (t, 0, 0)
/-- a reading goes on: it ends no earlier than it began, and not behind the pattern's end -/
def Res.Fwd {α : Type} (p : ByteArray) (r : Res α) (i : Nat) : Prop := match r with
  | .fault _ _ => True
  | .got _ j => i ≤ j ∧ j ≤ p.size
theorem isAt_lt {p : ByteArray} {i c : Nat} (h : isAt p i c = true) : i < p.size := by
  unfold isAt at h
  simp only [Bool.and_eq_true, decide_eq_true_eq] at h
  exact h.1
end Ere
end Go.Proofs.Ytajainmldcnaeaa
