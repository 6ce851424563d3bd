/- Events as lines: what Print writes and what Parse reads, as functions over bytes. Plain; no condition beyond those named in each lemma. -/
import Derived.Test.YtjplgcmfifoefaaDoorWdB
namespace Go.Proofs.YtjplgcmfifoefaaDoor
open Go.Lib
set_option linter.unusedVariables false
set_option linter.unusedSimpArgs false

structure Ev where
  kind : Int
  name : Bs
  other : Bs
  data : Bs
  n : Int
  yes : Bool
  keep : List Int
deriving DecidableEq

def firsts : List Bs := [[], [99, 114, 101, 97, 116, 101], [97, 112, 112, 101, 110, 100], [99, 117, 116], [114, 101, 110, 97, 109, 101], [114, 101, 109, 111, 118, 101], [115, 121, 110, 99], [112, 111, 108, 108], [115, 101, 110, 100], [97, 110, 115, 119, 101, 114], [116, 105, 99, 107], [99, 104, 101, 99, 107], [99, 114, 97, 115, 104]]
def letters : List Bs := [[], [110], [110, 100], [110], [110, 111], [110], [110], [105], [], [121, 105], [105], [], [107]]
def yesW : Bs := [121, 101, 115]
def noW : Bs := [110, 111]
/-- the texts that a letter tells -/
def tellC (c : UInt8) (e : Ev) : List Bs :=
  if c = 110 then [e.name] else if c = 111 then [e.other] else if c = 100 then [e.data] else if c = 121 then [if e.yes then yesW else noW]
  else if c = 107 then e.keep.map itoa else [itoa e.n]
def textsE (e : Ev) : List Bs := firsts.getD e.kind.toNat [] :: (letters.getD e.kind.toNat []).flatMap (tellC · e)
def kindOk (k : Int) : Prop := 1 ≤ k ∧ k ≤ 12
instance (k : Int) : Decidable (kindOk k) := inferInstanceAs (Decidable (_ ∧ _))
/-- words with a blank between them -/
def joinW (ws : List Bs) : Bs := (lineW ws).drop 1
theorem joinW_cons (w : Bs) (ws : List Bs) : joinW (w :: ws) = w ++ lineW ws := rfl
/-- what a letter does with a part -/
def takeC' (c : UInt8) (w : Bs) (e : Ev) : Option Ev :=
  if c = 110 then some { e with name := (unq w).getD [] } else if c = 111 then some { e with other := (unq w).getD [] } else if c = 100 then some { e with data := (unq w).getD [] }
  else if c = 121 then (if w = yesW then some { e with yes := true } else if w = noW then some { e with yes := false } else none)
  else if c = 107 then (intW w).map fun v => { e with keep := e.keep ++ [v] } else (intW w).map fun v => { e with n := v }
def readG : Bs → List Bs → Ev → Option Ev
  | [], [], e => some e
  | c :: cs, w :: ws, e => (takeC' c w e).bind (readG cs ws)
  | _, _, _ => none
def ev0 (k : Int) : Ev := ⟨k, [], [], [], 0, false, []⟩
def letsOf (k : Nat) (m : Nat) : Bs := if letters.getD k [] = [107] then List.replicate m 107 else letters.getD k []
def readE (k : Nat) (ws : List Bs) : Option Ev := readG (letsOf k ws.length) ws (ev0 k)
def parseE (line : Bs) : Option Ev := match partsG (line.length + 1) line with
  | some (w :: ws) => (List.range 13).findSome? fun k => if k = 0 ∨ firsts.getD k [] ≠ w then none else readE k ws
  | _ => none
/-- an event with nothing in it but what its kind uses -/
def usedE (e : Ev) : Ev :=
  if e.kind = 1 ∨ e.kind = 3 ∨ e.kind = 5 ∨ e.kind = 6 then { ev0 e.kind with name := e.name }
  else if e.kind = 2 then { ev0 e.kind with name := e.name, data := e.data }
  else if e.kind = 4 then { ev0 e.kind with name := e.name, other := e.other }
  else if e.kind = 7 ∨ e.kind = 10 then { ev0 e.kind with n := e.n }
  else if e.kind = 9 then { ev0 e.kind with n := e.n, yes := e.yes }
  else if e.kind = 12 then { ev0 e.kind with keep := e.keep }
  else ev0 e.kind
def i64z (z : Int) : Prop := -9223372036854775808 ≤ z ∧ z ≤ 9223372036854775807
def intsOk (e : Ev) : Prop := i64z e.n ∧ ∀ z ∈ e.keep, i64z z

theorem firsts_pl : ∀ k, k < 13 → 0 < k → isPl (firsts.getD k []) = true := by decide
theorem firsts_inj : ∀ k, k < 13 → ∀ j, j < 13 → firsts.getD k [] = firsts.getD j [] → k = j := by decide
theorem quo_yes (b : Bool) : quo (if b then yesW else noW) = if b then yesW else noW := by
  cases b <;> exact quo_pl (by decide)
theorem read_keep : ∀ (l : List Int) (e : Ev), (∀ z ∈ l, i64z z) → readG (List.replicate l.length 107) ((l.map itoa).map quo) e = some { e with keep := e.keep ++ l }
  | [], e, _ => by simp [readG]
  | z :: l, e, h => by
    have hz := h z (by simp)
    simp only [List.length_cons, List.replicate_succ, List.map_cons, readG, takeC', quo_itoa, intW_itoa z hz.1 hz.2, Option.map_some, Option.bind_some]
    simp only [show (107 : UInt8) = 110 ↔ False by decide, show (107 : UInt8) = 111 ↔ False by decide, show (107 : UInt8) = 100 ↔ False by decide, show (107 : UInt8) = 121 ↔ False by decide, if_false, if_true, Option.bind_some]
    have := read_keep l { e with keep := e.keep ++ [z] } (fun y hy => h y (by simp [hy]))
    simpa using this
theorem read_line (e : Ev) (hk : kindOk e.kind) (hi : intsOk e) : readE e.kind.toNat ((((letters.getD e.kind.toNat []).flatMap (tellC · e))).map quo) = some (usedE e) := by
  obtain ⟨k, hk1⟩ : ∃ k : Nat, e.kind = k := ⟨e.kind.toNat, by unfold kindOk at hk; omega⟩
  have hk2 : 1 ≤ k ∧ k ≤ 12 := by unfold kindOk at hk; omega
  obtain ⟨kind, name, other, data, n, yes, keep⟩ := e
  simp only at hk1
  subst hk1
  obtain ⟨hn, hkeep⟩ := hi
  simp only at hn hkeep
  have hI := intW_itoa n hn.1 hn.2
  simp only [Int.toNat_natCast]
  rcases (by omega : k = 1 ∨ k = 2 ∨ k = 3 ∨ k = 4 ∨ k = 5 ∨ k = 6 ∨ k = 7 ∨ k = 8 ∨ k = 9 ∨ k = 10 ∨ k = 11 ∨ k = 12) with rfl | rfl | rfl | rfl | rfl | rfl | rfl | rfl | rfl | rfl | rfl | rfl
  all_goals first
    | (simp [letters, tellC, readE, letsOf, readG, takeC', unq_quo, quo_itoa, hI, usedE, ev0]; done)
    | skip
  · have q : quo (if yes then yesW else noW) = if yes then yesW else noW := quo_yes yes
    cases yes
    · simp [letters, tellC, readE, letsOf, readG, takeC', quo_itoa, hI, usedE, ev0] at q ⊢
      rw [q]
      simp [yesW, noW]
    · simp [letters, tellC, readE, letsOf, readG, takeC', quo_itoa, hI, usedE, ev0] at q ⊢
      rw [q]
      simp [yesW, noW]
  · have h := read_keep keep (ev0 12) hkeep
    simp only [letters, tellC, readE, letsOf, usedE]
    simp
    simpa [ev0] using h
/-- an event is read back from its line, but for what its kind does not use -/
theorem parse_print (e : Ev) (hk : kindOk e.kind) (hi : intsOk e) (p q : Bs) (hp : blank p) (hq : blank q) : parseE (p ++ (joinW ((textsE e).map quo) ++ q)) = some (usedE e) := by
  obtain ⟨k, hk1⟩ : ∃ k : Nat, e.kind = k := ⟨e.kind.toNat, by unfold kindOk at hk; omega⟩
  have hk2 : 1 ≤ k ∧ k ≤ 12 := by unfold kindOk at hk; omega
  have hpart : ∀ f, (textsE e).length < f → partsG f (p ++ (joinW ((textsE e).map quo) ++ q)) = some ((textsE e).map quo) := by
    intro f hf
    rw [parts_blank f p _ hp, ← parts_line (textsE e) q hq f hf]
    have : lineW ((textsE e).map quo) ++ q = [32] ++ (joinW ((textsE e).map quo) ++ q) := by
      unfold textsE
      rw [List.map_cons, joinW_cons]
      simp [lineW]
    rw [this, parts_blank f [32] _ (by intro b hb; simpa using hb)]
  have hlen : (textsE e).length ≤ (joinW ((textsE e).map quo)).length + 1 := by
    have key : ∀ ts : List Bs, ts.length * 2 ≤ (lineW (ts.map quo)).length := by
      intro ts
      induction ts with
      | nil => simp [lineW]
      | cons t ts ih =>
        have := List.length_pos_iff.2 (quo_ne t)
        simp only [List.map_cons, lineW, List.length_cons, List.length_append]
        omega
    have := key (textsE e)
    unfold joinW
    rw [List.length_drop]
    omega
  have hP := hpart ((p ++ (joinW ((textsE e).map quo) ++ q)).length + 1) (by
    have h3 : 1 ≤ (textsE e).length := by unfold textsE; simp
    have key : ∀ ts : List Bs, ts.length * 2 ≤ (lineW (ts.map quo)).length := by
      intro ts
      induction ts with
      | nil => simp [lineW]
      | cons t ts ih =>
        have := List.length_pos_iff.2 (quo_ne t)
        simp only [List.map_cons, lineW, List.length_cons, List.length_append]
        omega
    have := key (textsE e)
    unfold joinW
    simp only [List.length_append, List.length_drop]
    omega)
  unfold parseE
  rw [hP]
  have hf : quo (firsts.getD k []) = firsts.getD k [] := quo_pl (firsts_pl k (by omega) (by omega))
  have hr := read_line e hk hi
  have e1 : e.kind.toNat = k := by omega
  rw [e1] at hr
  have hT : (textsE e).map quo = firsts.getD k [] :: ((letters.getD k []).flatMap (tellC · e)).map quo := by
    unfold textsE
    rw [e1, List.map_cons, hf]
  rw [hT]
  simp only []
  have hfs : ∀ (l : List Nat), k ∈ l → (∀ j ∈ l, j < 13) → (l.findSome? fun j => if j = 0 ∨ firsts.getD j [] ≠ firsts.getD k [] then none else readE j (((letters.getD k []).flatMap (tellC · e)).map quo)) = some (usedE e) := by
    intro l
    induction l with
    | nil => intro h; cases h
    | cons j l ih =>
      intro hm hl
      rw [List.findSome?_cons]
      by_cases hj : j = k
      · subst hj
        rw [if_neg (by simp; omega), hr]
      · have hne : firsts.getD j [] ≠ firsts.getD k [] := fun h => hj (firsts_inj j (hl j (by simp)) k (by omega) h)
        rw [if_pos (.inr hne)]
        exact ih (by rcases List.mem_cons.1 hm with h | h; exact absurd h.symm hj; exact h) fun i hi => hl i (by simp [hi])
  exact hfs _ (by simp; omega) (fun j hj => by simpa using hj)
end Go.Proofs.YtjplgcmfifoefaaDoor
