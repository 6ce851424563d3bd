/- Words: what Quote writes and what Unquote reads, as functions over bytes; each is the other's turn. Plain; no condition beyond those named in each lemma. -/
import Derived.Lib.MapLaws
import Derived.Lib.TrimUEq
import Derived.Lib.TrimAscii
namespace Go.Proofs.YtjplgcmfifoefaaDoor
open Go.Lib
set_option linter.unusedVariables false
set_option linter.unusedSimpArgs false

abbrev Bs := List UInt8
def plainB (b : UInt8) : Bool := decide (33 ≤ b.toNat ∧ b.toNat ≤ 126 ∧ b.toNat ≠ 34 ∧ b.toNat ≠ 92 ∧ b.toNat ≠ 35)
def isPl (l : Bs) : Bool := decide (l ≠ []) && l.all plainB
def hexD (n : Nat) : UInt8 := if n < 10 then UInt8.ofNat (48 + n) else UInt8.ofNat (87 + n)
def byN (b : UInt8) : Bs := [92, 120, hexD (b.toNat / 16), hexD (b.toNat % 16)]
def qOne (l : Bs) : Bs :=
  if (decodeL l).1 = 34 ∨ (decodeL l).1 = 92 then [92, UInt8.ofNat (decodeL l).1]
  else if (decodeL l).1 = 10 then [92, 110]
  else if (decodeL l).1 = 9 then [92, 116]
  else if (decodeL l).1 < 32 ∨ (decodeL l).1 = 127 ∨ ((decodeL l).1 = 65533 ∧ (decodeL l).2 = 1) then byN (l.getD 0 0)
  else l.take (decodeL l).2
def qGo : Nat → Bs → Bs
  | 0, _ => []
  | f + 1, l => if l = [] then [] else qOne l ++ qGo f (l.drop (decodeL l).2)
def quo (l : Bs) : Bs := if isPl l then l else 34 :: (qGo l.length l ++ [34])

def ordB (b : UInt8) : Prop := 32 ≤ b.toNat ∧ b.toNat ≠ 127 ∧ b.toNat ≠ 34 ∧ b.toNat ≠ 92
/-- a piece of a quoted word, and the bytes that it means -/
inductive Piece : Bs → Bs → Prop
  | esc (b c : UInt8) (h : (c.toNat = b.toNat ∧ (b.toNat = 34 ∨ b.toNat = 92)) ∨ (c.toNat = 110 ∧ b.toNat = 10) ∨ (c.toNat = 116 ∧ b.toNat = 9)) : Piece [92, c] [b]
  | hex (b : UInt8) : Piece (byN b) [b]
  | ord (x : Bs) (h : ∀ b ∈ x, ordB b) : Piece x x
inductive Pieces : Bs → Bs → Prop
  | nil : Pieces [] []
  | cons {x y X Y : Bs} (h : Piece x y) (t : Pieces X Y) : Pieces (x ++ X) (y ++ Y)

theorem ofNat_toNat (b : UInt8) : UInt8.ofNat b.toNat = b := by simp
theorem piece (l : Bs) (hne : l ≠ []) : Piece (qOne l) (l.take (decodeL l).2) := by
  have hN := decodeL_N l
  have hlen : 0 < l.length := List.length_pos_iff.2 hne
  rcases decodeN_shape l.length (l.getD 0 0).toNat (l.getD 1 0).toNat (l.getD 2 0).toNat (l.getD 3 0).toNat with ⟨h1, e⟩ | ⟨h0, hn, h1, hv, e⟩ | ⟨h0, hn, h1, h2, hv, hs, e⟩ | ⟨h0, hn, h1, h2, h3, hv, hs, e⟩ | e
  · rw [← hN] at e
    unfold qOne
    simp only [e]
    rw [takeA l hlen]
    generalize l.getD 0 0 = b at h1 ⊢
    rw [ofNat_toNat]
    split
    · next h => exact .esc b b (.inl ⟨rfl, h⟩)
    · split
      · next h => exact .esc b 110 (.inr (.inl ⟨rfl, h⟩))
      · split
        · next h => exact .esc b 116 (.inr (.inr ⟨rfl, h⟩))
        · split
          · exact .hex b
          · refine .ord [b] fun c hc => ?_
            obtain rfl : c = b := by simpa using hc
            unfold ordB
            omega
  all_goals
    rw [← hN] at e
    unfold qOne
    simp only [e]
  · rw [if_neg (by omega), if_neg (by omega), if_neg (by omega), if_neg (by omega), takeB l hn]
    refine .ord _ fun c hc => ?_
    simp only [List.mem_cons, List.not_mem_nil, or_false] at hc
    unfold ordB
    rcases hc with rfl | rfl <;> omega
  · rw [if_neg (by omega), if_neg (by omega), if_neg (by omega), if_neg (by omega), takeC l hn]
    refine .ord _ fun c hc => ?_
    simp only [List.mem_cons, List.not_mem_nil, or_false] at hc
    unfold ordB
    rcases hc with rfl | rfl | rfl <;> omega
  · rw [if_neg (by omega), if_neg (by omega), if_neg (by omega), if_neg (by omega), takeD l hn]
    refine .ord _ fun c hc => ?_
    simp only [List.mem_cons, List.not_mem_nil, or_false] at hc
    unfold ordB
    rcases hc with rfl | rfl | rfl | rfl <;> omega
  · rw [if_neg (by decide), if_neg (by decide), if_neg (by decide), if_pos (by decide), takeA l hlen]
    exact .hex _
theorem pieces : ∀ (f : Nat) (l : Bs), l.length ≤ f → Pieces (qGo f l) l
  | 0, l, h => by
    obtain rfl : l = [] := List.eq_nil_of_length_eq_zero (by omega)
    exact .nil
  | f + 1, l, h => by
    unfold qGo
    by_cases hl : l = []
    · rw [if_pos hl, hl]; exact .nil
    · rw [if_neg hl]
      have h1 := decodeL_width l
      have h2 := List.length_pos_iff.2 hl
      have := Pieces.cons (piece l hl) (pieces f (l.drop (decodeL l).2) (by rw [List.length_drop]; omega))
      rwa [List.take_append_drop] at this

def nib (c : UInt8) : Option Nat := if 48 ≤ c.toNat ∧ c.toNat ≤ 57 then some (c.toNat - 48) else if 97 ≤ c.toNat ∧ c.toNat ≤ 102 then some (c.toNat - 87) else none
theorem nib_hexD : ∀ n, n < 16 → nib (hexD n) = some n := by decide
theorem hexD_ord : ∀ n, n < 16 → 48 ≤ (hexD n).toNat ∧ (hexD n).toNat ≤ 102 ∧ (hexD n).toNat ≠ 92 := by decide
def escL : Bs → Option (UInt8 × Nat)
  | [] => none
  | a :: u =>
    if a.toNat = 34 ∨ a.toNat = 92 then some (a, 1) else if a.toNat = 110 then some (10, 1) else if a.toNat = 116 then some (9, 1)
    else if a.toNat = 120 then (match u with
      | p :: q :: _ => (match nib p, nib q with
        | some x, some y => some (UInt8.ofNat (16 * x + y), 3)
        | _, _ => none)
      | _ => none)
    else none
def unqG : Nat → Bs → Option Bs
  | _, [] => some []
  | 0, _ :: _ => none
  | f + 1, c :: t =>
    if c.toNat = 92 then (match escL t with
      | none => none
      | some (b, n) => (unqG f (t.drop n)).map (b :: ·))
    else if c.toNat < 32 ∨ c.toNat = 127 ∨ c.toNat = 34 then none else (unqG f t).map (c :: ·)
def unq (w : Bs) : Option Bs :=
  if isPl w then some w else if w.length < 2 ∨ w.getD 0 0 ≠ 34 ∨ w.getD (w.length - 1) 0 ≠ 34 then none else unqG w.length ((w.drop 1).take (w.length - 2))

theorem unqG_nil (f : Nat) : unqG f [] = some [] := by cases f <;> rfl
theorem unq_ord : ∀ (x X Y : Bs), (∀ b ∈ x, ordB b) → (∀ f, X.length ≤ f → unqG f X = some Y) → ∀ f, (x ++ X).length ≤ f → unqG f (x ++ X) = some (x ++ Y)
  | [], X, Y, _, h, f, hf => h f hf
  | b :: x, X, Y, hb, h, f, hf => by
    obtain ⟨f, rfl⟩ : ∃ g, f = g + 1 := ⟨f - 1, by simp at hf; omega⟩
    have h1 := hb b (by simp)
    unfold ordB at h1
    show unqG (f + 1) (b :: (x ++ X)) = some (b :: (x ++ Y))
    unfold unqG
    rw [if_neg (by omega), if_neg (by omega), unq_ord x X Y (fun c hc => hb c (by simp [hc])) h f (by simp at hf ⊢; omega)]
    rfl
theorem esc_byN (b : UInt8) (t : Bs) : escL (120 :: hexD (b.toNat / 16) :: hexD (b.toNat % 16) :: t) = some (b, 3) := by
  have hb : b.toNat < 256 := b.toNat_lt
  have e1 := nib_hexD (b.toNat / 16) (by omega)
  have e2 := nib_hexD (b.toNat % 16) (by omega)
  have e : 16 * (b.toNat / 16) + b.toNat % 16 = b.toNat := by omega
  simp [escL, e1, e2, e]
theorem unq_pieces {X Y : Bs} (h : Pieces X Y) : ∀ f, X.length ≤ f → unqG f X = some Y := by
  induction h with
  | nil => intro f _; exact unqG_nil f
  | @cons x y X Y hp _ ih =>
    intro f hf
    cases hp with
    | ord _ h => exact unq_ord _ X Y h ih f hf
    | esc b c h =>
      obtain ⟨f, rfl⟩ : ∃ g, f = g + 1 := ⟨f - 1, by simp at hf; omega⟩
      have e : escL (c :: X) = some (b, 1) := by
        unfold escL
        dsimp only
        rcases h with ⟨h1, h2⟩ | ⟨h1, h2⟩ | ⟨h1, h2⟩
        · rw [if_pos (by omega)]
          exact congrArg some (congrArg (·, 1) (UInt8.toNat_inj.1 h1))
        · rw [if_neg (by omega), if_pos h1]
          exact congrArg some (congrArg (·, 1) (UInt8.toNat_inj.1 h2.symm))
        · rw [if_neg (by omega), if_neg (by omega), if_pos h1]
          exact congrArg some (congrArg (·, 1) (UInt8.toNat_inj.1 h2.symm))
      show unqG (f + 1) (92 :: c :: X) = some (b :: Y)
      unfold unqG
      rw [if_pos (by decide), e]
      show (unqG f X).map _ = _
      rw [ih f (by simp at hf; omega)]
      rfl
    | hex b =>
      obtain ⟨f, rfl⟩ : ∃ g, f = g + 1 := ⟨f - 1, by simp [byN] at hf; omega⟩
      show unqG (f + 1) (92 :: 120 :: hexD (b.toNat / 16) :: hexD (b.toNat % 16) :: X) = some (b :: Y)
      unfold unqG
      rw [if_pos (by decide), esc_byN]
      show (unqG f X).map _ = _
      rw [ih f (by simp [byN] at hf; omega)]
      rfl
theorem quo_pl {l : Bs} (h : isPl l = true) : quo l = l := by unfold quo; rw [if_pos h]
theorem quo_no {l : Bs} (h : isPl l = false) : quo l = 34 :: (qGo l.length l ++ [34]) := by unfold quo; rw [if_neg (by simp [h])]
theorem isPl_34 (t : Bs) : isPl (34 :: t) = false := by
  unfold isPl
  simp [plainB]
/-- a word that is written is read back -/
theorem unq_quo (l : Bs) : unq (quo l) = some l := by
  by_cases h : isPl l = true
  · rw [quo_pl h]; unfold unq; rw [if_pos h]
  · have h' : isPl l = false := by simpa using h
    rw [quo_no h']
    unfold unq
    rw [isPl_34, if_neg (by simp), if_neg]
    · have e : (List.drop 1 (34 :: (qGo l.length l ++ [34]))).take ((34 :: (qGo l.length l ++ [34])).length - 2) = qGo l.length l := by
        simp
      rw [e]
      exact unq_pieces (pieces l.length l (Nat.le_refl _)) _ (by simp; omega)
    · simp [List.getD_eq_getElem?_getD]
theorem quo_inj {a b : Bs} (h : quo a = quo b) : a = b := by
  have h1 := unq_quo a
  rw [h, unq_quo b] at h1
  exact (Option.some.inj h1).symm

/-- where a quoted word ends -/
def sc : Nat → Bs → Nat
  | _, [] => 0
  | 0, _ :: _ => 0
  | f + 1, c :: t => if c.toNat = 34 then 0 else if c.toNat = 92 then 2 + sc f (t.drop 1) else 1 + sc f t
theorem sc_34 (f : Nat) (t : Bs) : sc f (34 :: t) = 0 := by
  cases f with
  | zero => rfl
  | succ f => unfold sc; rw [if_pos (by decide)]
theorem sc_skip : ∀ (x X R : Bs) (k : Nat), (∀ b ∈ x, b.toNat ≠ 34 ∧ b.toNat ≠ 92) → (∀ f, X.length < f → sc f (X ++ R) = k) → ∀ f, (x ++ X).length < f → sc f (x ++ X ++ R) = x.length + k
  | [], X, R, k, _, h, f, hf => by simpa using h f hf
  | b :: x, X, R, k, hb, h, f, hf => by
    obtain ⟨f, rfl⟩ : ∃ g, f = g + 1 := ⟨f - 1, by simp at hf; omega⟩
    have h1 := hb b (by simp)
    show sc (f + 1) (b :: (x ++ X ++ R)) = _
    unfold sc
    rw [if_neg h1.1, if_neg h1.2, sc_skip x X R k (fun c hc => hb c (by simp [hc])) h f (by simp at hf ⊢; omega)]
    simp only [List.length_cons]
    omega
theorem sc_pieces {X Y : Bs} (h : Pieces X Y) (R : Bs) : ∀ f, X.length < f → sc f (X ++ 34 :: R) = X.length := by
  induction h with
  | nil => intro f _; exact sc_34 f R
  | @cons x y X Y hp _ ih =>
    intro f hf
    have ih' : ∀ f, X.length < f → sc f (X ++ 34 :: R) = X.length := ih
    rw [List.length_append]
    cases hp with
    | ord _ h => exact sc_skip x X (34 :: R) X.length (fun b hb => ⟨(h b hb).2.2.1, (h b hb).2.2.2⟩) ih' f hf
    | esc b c h =>
      obtain ⟨f, rfl⟩ : ∃ g, f = g + 1 := ⟨f - 1, by simp at hf; omega⟩
      show sc (f + 1) (92 :: c :: (X ++ 34 :: R)) = _
      unfold sc
      rw [if_neg (by decide), if_pos (by decide)]
      show 2 + sc f (X ++ 34 :: R) = _
      rw [ih' f (by simp at hf; omega)]
      rfl
    | hex b =>
      obtain ⟨f, rfl⟩ : ∃ g, f = g + 1 := ⟨f - 1, by simp [byN] at hf; omega⟩
      have hb : b.toNat < 256 := b.toNat_lt
      have q1 := hexD_ord (b.toNat / 16) (by omega)
      have q2 := hexD_ord (b.toNat % 16) (by omega)
      show sc (f + 1) (92 :: 120 :: (hexD (b.toNat / 16) :: hexD (b.toNat % 16) :: (X ++ 34 :: R))) = _
      unfold sc
      rw [if_neg (by decide), if_pos (by decide)]
      show 2 + sc f ([hexD (b.toNat / 16), hexD (b.toNat % 16)] ++ X ++ 34 :: R) = _
      rw [sc_skip [hexD (b.toNat / 16), hexD (b.toNat % 16)] X (34 :: R) X.length (fun c hc => by
        simp only [List.mem_cons, List.not_mem_nil, or_false] at hc
        rcases hc with rfl | rfl <;> omega) ih' f (by simp [byN] at hf ⊢; omega)]
      simp [byN]
      omega
/-- how many bytes the first part of a line has -/
def cutN (m : Bs) : Nat := if m.getD 0 0 = 34 then min (2 + sc m.length (m.drop 1)) m.length else m.findIdx (· == 32)
def goodEnd (R : Bs) : Prop := R = [] ∨ ∃ t, R = 32 :: t
theorem findIdx_pl : ∀ (l R : Bs), (∀ b ∈ l, plainB b = true) → goodEnd R → (l ++ R).findIdx (· == 32) = l.length
  | [], R, _, h => by
    rcases h with rfl | ⟨t, rfl⟩
    · rfl
    · simp [List.findIdx_cons]
  | b :: l, R, hb, h => by
    have h1 := hb b (by simp)
    have h2 : (b == 32) = false := by
      unfold plainB at h1
      have h1 := of_decide_eq_true h1
      refine beq_eq_false_iff_ne.2 fun e => ?_
      subst e
      exact absurd h1.1 (by decide)
    rw [List.cons_append, List.findIdx_cons, h2, findIdx_pl l R (fun c hc => hb c (by simp [hc])) h]
    rfl
theorem isPl_all {l : Bs} (h : isPl l = true) : l ≠ [] ∧ ∀ b ∈ l, plainB b = true := by
  unfold isPl at h
  simp only [Bool.and_eq_true, decide_eq_true_eq, List.all_eq_true] at h
  exact h
theorem cut_quo (l R : Bs) (hR : goodEnd R) : cutN (quo l ++ R) = (quo l).length := by
  by_cases h : isPl l = true
  · rw [quo_pl h]
    obtain ⟨hne, ha⟩ := isPl_all h
    unfold cutN
    rw [if_neg, findIdx_pl l R ha hR]
    obtain ⟨b, t, rfl⟩ := List.exists_cons_of_ne_nil hne
    intro e
    have e : b = 34 := by simpa using e
    have := ha b (by simp)
    rw [e] at this
    exact absurd this (by decide)
  · have h' : isPl l = false := by simpa using h
    rw [quo_no h']
    unfold cutN
    rw [if_pos (by rfl)]
    have e : List.drop 1 (34 :: (qGo l.length l ++ [34]) ++ R) = qGo l.length l ++ 34 :: R := by simp
    rw [e, sc_pieces (pieces l.length l (Nat.le_refl _)) R _ (by simp; omega)]
    simp
    omega
theorem quo_ne (l : Bs) : quo l ≠ [] := by
  by_cases h : isPl l = true
  · rw [quo_pl h]; exact (isPl_all h).1
  · rw [quo_no (by simpa using h)]; simp
theorem quo_head (l : Bs) : (quo l).getD 0 0 ≠ 32 := by
  by_cases h : isPl l = true
  · rw [quo_pl h]
    obtain ⟨hne, ha⟩ := isPl_all h
    obtain ⟨b, t, rfl⟩ := List.exists_cons_of_ne_nil hne
    intro e
    have e : b = 32 := by simpa using e
    have := ha b (by simp)
    rw [e] at this
    exact absurd this (by decide)
  · rw [quo_no (by simpa using h)]
    show (34 : UInt8) ≠ 32
    decide
/-- no word has a newline -/
theorem quo_line (l : Bs) : ∀ b ∈ quo l, b.toNat ≠ 10 := by
  by_cases h : isPl l = true
  · rw [quo_pl h]
    intro b hb
    have := (isPl_all h).2 b hb
    unfold plainB at this
    have := of_decide_eq_true this
    omega
  · rw [quo_no (by simpa using h)]
    have key : ∀ X Y : Bs, Pieces X Y → ∀ b ∈ X, b.toNat ≠ 10 := by
      intro X Y hP
      induction hP with
      | nil => intro b hb; cases hb
      | @cons x y X Y hp _ ih =>
        intro b hb
        rcases List.mem_append.1 hb with hb | hb
        · cases hp with
          | ord _ h => have := h b hb; unfold ordB at this; omega
          | esc c d h =>
            simp only [List.mem_cons, List.not_mem_nil, or_false] at hb
            rcases hb with rfl | rfl
            · decide
            · omega
          | hex c =>
            have hc : c.toNat < 256 := c.toNat_lt
            have q1 := hexD_ord (c.toNat / 16) (by omega)
            have q2 := hexD_ord (c.toNat % 16) (by omega)
            simp only [byN, List.mem_cons, List.not_mem_nil, or_false] at hb
            rcases hb with rfl | rfl | rfl | rfl
            · decide
            · decide
            · omega
            · omega
        · exact ih b hb
    intro b hb
    simp only [List.mem_cons, List.mem_append, List.not_mem_nil, or_false] at hb
    rcases hb with rfl | hb | rfl
    · decide
    · exact key _ _ (pieces l.length l (Nat.le_refl _)) b hb
    · decide

/-- a line's parts; none: one is no word -/
def partsG : Nat → Bs → Option (List Bs)
  | 0, _ => none
  | f + 1, l =>
    if l.dropWhile (· == 32) = [] then some []
    else if (cutN (l.dropWhile (· == 32)) = (l.dropWhile (· == 32)).length ∨ (l.dropWhile (· == 32)).getD (cutN (l.dropWhile (· == 32))) 0 = 32) ∧ (unq ((l.dropWhile (· == 32)).take (cutN (l.dropWhile (· == 32))))).isSome then
      (partsG f ((l.dropWhile (· == 32)).drop (cutN (l.dropWhile (· == 32))))).map ((l.dropWhile (· == 32)).take (cutN (l.dropWhile (· == 32))) :: ·)
    else none
def lineW : List Bs → Bs
  | [] => []
  | w :: ws => 32 :: (w ++ lineW ws)
def blank (l : Bs) : Prop := ∀ b ∈ l, b = 32
theorem drop_blank : ∀ (p l : Bs), blank p → (p ++ l).dropWhile (· == 32) = l.dropWhile (· == 32)
  | [], l, _ => rfl
  | b :: p, l, h => by
    have hb : b = 32 := h b (by simp)
    subst hb
    show List.dropWhile (· == 32) (32 :: (p ++ l)) = _
    rw [List.dropWhile_cons_of_pos (by rfl)]
    exact drop_blank p l fun c hc => h c (by simp [hc])
theorem parts_blank (f : Nat) (p l : Bs) (hp : blank p) : partsG f (p ++ l) = partsG f l := by
  cases f with
  | zero => rfl
  | succ f => unfold partsG; rw [drop_blank p l hp]
theorem dropWhile_quo (t R : Bs) : (quo t ++ R).dropWhile (· == 32) = quo t ++ R := by
  have h1 := quo_ne t
  have h2 := quo_head t
  obtain ⟨b, u, e⟩ := List.exists_cons_of_ne_nil h1
  rw [e] at h2 ⊢
  have h3 : (b == 32) = false := beq_eq_false_iff_ne.2 (by simpa using h2)
  rw [List.cons_append, List.dropWhile_cons_of_neg (by simp [h3])]
theorem goodEnd_line (ws : List Bs) (q : Bs) (hq : blank q) : goodEnd (lineW ws ++ q) := by
  cases ws with
  | nil =>
    cases q with
    | nil => exact .inl rfl
    | cons b q => exact .inr ⟨q, by rw [hq b (by simp)]; rfl⟩
  | cons w ws => exact .inr ⟨_, rfl⟩
theorem parts_step (f : Nat) (t : Bs) (R : Bs) (hR : goodEnd R) : partsG (f + 1) (quo t ++ R) = (partsG f R).map (quo t :: ·) := by
  rw [partsG, dropWhile_quo, if_neg (by have := quo_ne t; simp [this]), cut_quo t R hR]
  have e1 : (quo t ++ R).take (quo t).length = quo t := by simp
  have e2 : (quo t ++ R).drop (quo t).length = R := by simp
  rw [e1, e2, if_pos]
  refine ⟨?_, by rw [unq_quo]; rfl⟩
  rcases hR with rfl | ⟨u, rfl⟩
  · left; simp
  · right; simp [List.getD_eq_getElem?_getD]
/-- the parts of written words are the words -/
theorem parts_line : ∀ (ts : List Bs) (q : Bs), blank q → ∀ f, ts.length < f → partsG f (lineW (ts.map quo) ++ q) = some (ts.map quo)
  | [], q, hq, f, hf => by
    obtain ⟨f, rfl⟩ : ∃ g, f = g + 1 := ⟨f - 1, by omega⟩
    have h := parts_blank (f + 1) q [] hq
    simp only [List.map_nil, lineW, List.nil_append, List.append_nil] at h ⊢
    rw [h]
    rfl
  | t :: ts, q, hq, f, hf => by
    obtain ⟨f, rfl⟩ : ∃ g, f = g + 1 := ⟨f - 1, by omega⟩
    have e : lineW ((t :: ts).map quo) ++ q = [32] ++ (quo t ++ (lineW (ts.map quo) ++ q)) := by simp [lineW]
    rw [e, parts_blank (f + 1) [32] _ (by intro b hb; simpa using hb), parts_step f t _ (goodEnd_line _ q hq), parts_line ts q hq f (by simp at hf; omega)]
    rfl
end Go.Proofs.YtjplgcmfifoefaaDoor
