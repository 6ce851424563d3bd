/- Part 2 of a proof; packed: the texts that it was made of follow one another. No condition beyond those named in each lemma. -/
import Derived.Test.YtjplgcmfifoefaaGreatDoorPq1
import Derived.Test.YtjplgcmfifoefaaGreatDoorProg
import Derived.Deep.CutRange
import Derived.Laws.BytesString
import Derived.Laws.IdiomStrings
import Derived.Lib.Bytealg
import Derived.Lib.IndexLaws
import Derived.Lib.ItoaLen
import Derived.Lib.Join
import Derived.Lib.SmallJoins
import Derived.Lib.Strings
import Derived.Lib.Walk
import Derived.Shelf.Abstract
import Derived.Shelf.Bits.Mul64
import Derived.Shelf.LaysC
import Derived.Shelf.LaysM
import Derived.Shelf.Small.Strs
import Derived.Shelf.Small.Utf8
import Derived.Shelf.Strconv.Atoi
import Derived.Shelf.Strconv.AtoiAll
import Derived.Shelf.Strconv.AtoiErrFast
import Derived.Shelf.Strconv.AtoiFail
import Derived.Shelf.Strconv.AtoiInnerAll
import Derived.Shelf.Strconv.AtoiLong
import Derived.Shelf.Strconv.Clone
import Derived.Shelf.Strconv.Itoa0
import Derived.Shelf.Strconv.Itoa1
import Derived.Shelf.Strconv.Itoa2
import Derived.Shelf.Strconv.Itoa3
import Derived.Shelf.Strconv.Lower
import Derived.Shelf.Strconv.ParseInt10
import Derived.Shelf.Strconv.ParseIntEmpty
import Derived.Shelf.Strconv.ParseUint10
import Derived.Shelf.Strconv.ParseUint10Any
import Derived.Shelf.Strconv.ParseUint10Empty
import Derived.Shelf.Strconv.RangeError
import Derived.Shelf.Strconv.SyntaxError
import Derived.Shelf.Strconv.ToError
import Derived.Shelf.Strconv.ToErrorRange
import Derived.Shelf.Strings.AsciiSet
import Derived.Shelf.Strings.Builder1
import Derived.Shelf.Strings.Builder2
import Derived.Shelf.Strings.BuilderF
import Derived.Shelf.Strings.BuilderK
import Derived.Shelf.Strings.BuilderRune
import Derived.Shelf.Strings.OnBuilder
import Derived.Shelf.Strings.Prefix
import Derived.Shelf.Strings.Repeat
import Derived.Shelf.Strings.Runes
import Derived.Shelf.Strings.Search1
import Derived.Shelf.Strings.Trim
import Derived.Shelf.Unicode.Decode
import Derived.Shelf.Unicode.DecodeAny
import Derived.Shelf.Unicode.DecodeSlow
import Derived.WalkSmall
namespace Go.Proofs.YtjplgcmfifoefaaGreatDoor
open Go.RowKit Go.Shelf Go.Maps
set_option linter.unusedVariables false
set_option linter.unusedSimpArgs false
attribute [local go_sem] Oper.semAt_some

def digB (b : UInt8) : Prop := 48 ≤ b.toNat ∧ b.toNat ≤ 57
/-- the number that digits tell -/
def decV (l : Bs) : Nat := l.foldl (fun a b => 10 * a + (b.toNat - 48)) 0
theorem decV_snoc (l : Bs) (b : UInt8) : decV (l ++ [b]) = 10 * decV l + (b.toNat - 48) := by
  unfold decV
  rw [List.foldl_append]
  rfl
theorem fold_mono : ∀ (l : Bs) (a : Nat), a ≤ l.foldl (fun a b => 10 * a + (b.toNat - 48)) a
  | [], a => Nat.le_refl _
  | b :: l, a => Nat.le_trans (by show a ≤ 10 * a + (b.toNat - 48); omega) (fold_mono l _)
theorem decV_mono (l r : Bs) : decV l ≤ decV (l ++ r) := by
  unfold decV
  rw [List.foldl_append]
  exact fold_mono r _
theorem decV_dec (u : Nat) : decV (Lib.decDigits u) = u := by
  induction u using Nat.strongRecOn with
  | _ u ih =>
    rw [Lib.decDigits]
    by_cases h : u < 10
    · rw [dif_pos h]
      show 10 * 0 + ((UInt8.ofNat (48 + u)).toNat - 48) = u
      rw [byte_dig h]
      omega
    · rw [dif_neg h, decV_snoc, ih (u / 10) (by omega), byte_dig (Nat.mod_lt _ (by decide))]
      omega
theorem dec_head (u : Nat) : (Lib.decDigits u).getD 0 0 = 48 → u = 0 := by
  induction u using Nat.strongRecOn with
  | _ u ih =>
    intro h
    rw [Lib.decDigits] at h
    by_cases hu : u < 10
    · rw [dif_pos hu] at h
      have h1 : (UInt8.ofNat (48 + u)).toNat = 48 := by
        have : UInt8.ofNat (48 + u) = 48 := h
        rw [this]; rfl
      rw [byte_dig hu] at h1
      omega
    · rw [dif_neg hu] at h
      have hne := (dec_digit (u / 10)).1
      have h2 : (Lib.decDigits (u / 10)).getD 0 0 = 48 := by
        cases hd : Lib.decDigits (u / 10) with
        | nil => exact absurd hd hne
        | cons a t => rw [hd] at h; exact h
      have := ih (u / 10) (by omega) h2
      omega
theorem dec_canon : ∀ (n : Nat) (l : Bs), l.length = n → l ≠ [] → (∀ b ∈ l, digB b) → (l.getD 0 0 ≠ 48 ∨ l.length = 1) → Lib.decDigits (decV l) = l ∧ (l.getD 0 0 ≠ 48 → 1 ≤ decV l) := by
  intro n
  induction n with
  | zero => intro l hl hne; exact absurd (List.eq_nil_of_length_eq_zero hl) hne
  | succ n ih =>
    intro l hl hne hd hc
    obtain ⟨t, c, rfl⟩ : ∃ t c, l = t ++ [c] := ⟨l.dropLast, l.getLast hne, (List.dropLast_concat_getLast hne).symm⟩
    have hdc : digB c := hd c (by simp)
    unfold digB at hdc
    have ec : UInt8.ofNat (48 + (c.toNat - 48)) = c := by rw [show 48 + (c.toNat - 48) = c.toNat by omega]; exact ofNat_toNat c
    rw [decV_snoc]
    by_cases ht : t = []
    · subst ht
      have e0 : decV [] = 0 := rfl
      rw [e0]
      constructor
      · rw [Lib.decDigits, dif_pos (by omega), show 48 + (10 * 0 + (c.toNat - 48)) = 48 + (c.toNat - 48) by omega, ec]
        rfl
      · intro h
        have : c ≠ 48 := h
        have h2 : c.toNat ≠ 48 := fun e => this (UInt8.toNat_inj.1 e)
        omega
    · have hl2 : t.length = n := by simpa using hl
      have hpos : 0 < t.length := List.length_pos_iff.2 ht
      have hh : (t ++ [c]).getD 0 0 = t.getD 0 0 := by
        cases t with
        | nil => exact absurd rfl ht
        | cons a u => rfl
      have h48 : t.getD 0 0 ≠ 48 := by
        rcases hc with hc | hc
        · rw [← hh]; exact hc
        · simp at hc; exact absurd hc ht
      obtain ⟨i1, i2⟩ := ih t hl2 ht (fun b hb => hd b (by simp [hb])) (.inl h48)
      have i3 := i2 h48
      constructor
      · rw [Lib.decDigits, dif_neg (by omega), show (10 * decV t + (c.toNat - 48)) / 10 = decV t by omega, show (10 * decV t + (c.toNat - 48)) % 10 = c.toNat - 48 by omega, ec, i1]
      · intro _; omega
/-- an integer just so, by its sign and digits -/
def canonS (bl : Bool) (s : Bs) : Prop := s ≠ [] ∧ (s.getD 0 0 = 48 → bl = false ∧ s.length = 1) ∧ ∀ b ∈ s, digB b
def sgn (bl : Bool) (s : Bs) : Bs := if bl then 45 :: s else s
theorem intW_form {bl : Bool} {s : Bs} {v : Int} (h : intW (sgn bl s) = some v) (hb : bl = false → s.getD 0 0 ≠ 45) : canonS bl s ∧ v = (if bl then -(decV s : Int) else (decV s : Int)) ∧ i64z v := by
  have hi : i64z v := by rw [← intZ_some h]; exact intZ_ok _
  have hw := intW_some h
  unfold Lib.itoa at hw
  have hdig : ∀ u, (Lib.decDigits u).getD 0 0 ≠ 45 := fun u e => by
    have h1 := dec_digit u
    cases hd : Lib.decDigits u with
    | nil => exact h1.1 hd
    | cons a t =>
      rw [hd] at e h1
      have e' : a = 45 := e
      have := h1.2 a (by simp)
      rw [e'] at this
      exact absurd this.1 (by decide)
  cases bl with
  | true =>
    have hw' : (45 :: s : Bs) = if v < 0 then 45 :: Lib.decDigits v.natAbs else Lib.decDigits v.toNat := hw
    by_cases hv : v < 0
    · rw [if_pos hv] at hw'
      have hs : s = Lib.decDigits v.natAbs := (List.cons.inj hw').2
      refine ⟨⟨by rw [hs]; exact (dec_digit _).1, fun e => ?_, fun b hb => by rw [hs] at hb; exact (dec_digit _).2 b hb⟩, ?_, hi⟩
      · rw [hs] at e
        have := dec_head _ e
        omega
      · rw [hs, decV_dec, if_pos rfl]
        omega
    · rw [if_neg hv] at hw'
      exact absurd (by rw [← hw']; rfl) (hdig v.toNat)
  | false =>
    have hw' : s = if v < 0 then 45 :: Lib.decDigits v.natAbs else Lib.decDigits v.toNat := hw
    by_cases hv : v < 0
    · rw [if_pos hv] at hw'
      exact absurd (by rw [hw']; rfl) (hb rfl)
    · rw [if_neg hv] at hw'
      refine ⟨⟨by rw [hw']; exact (dec_digit _).1, fun e => ⟨rfl, ?_⟩, fun b hb => by rw [hw'] at hb; exact (dec_digit _).2 b hb⟩, ?_, hi⟩
      · rw [hw'] at e
        have := dec_head _ e
        rw [hw', this, Lib.decDigits, dif_pos (by decide)]
        rfl
      · rw [if_neg (by decide)]
        rw [hw', decV_dec]
        omega
theorem intW_canon {bl : Bool} {s : Bs} (hc : canonS bl s) (hv : i64z (if bl then -(decV s : Int) else (decV s : Int))) : intW (sgn bl s) = some (if bl then -(decV s : Int) else (decV s : Int)) := by
  obtain ⟨h1, h2, h3⟩ := hc
  have h4 := dec_canon s.length s rfl h1 h3 (by
    by_cases e : s.getD 0 0 = 48
    · exact .inr (h2 e).2
    · exact .inl e)
  cases bl with
  | true =>
    have hp : 1 ≤ decV s := h4.2 (fun e => by have := (h2 e).1; cases this)
    rw [if_pos rfl] at hv ⊢
    have e : sgn true s = Lib.itoa (-(decV s : Int)) := by
      unfold Lib.itoa sgn
      rw [if_pos rfl, if_pos (by omega), show (-(decV s : Int)).natAbs = decV s by omega, h4.1]
    rw [e]
    exact intW_itoa _ hv.1 hv.2
  | false =>
    rw [if_neg (by decide)] at hv ⊢
    have e : sgn false s = Lib.itoa (decV s : Int) := by
      unfold Lib.itoa sgn
      rw [if_neg (show ¬ false = true by decide), if_neg (by omega), show ((decV s : Int)).toNat = decV s by omega, h4.1]
    rw [e]
    exact intW_itoa _ hv.1 hv.2
def intT (o : Option Int) : Value := .tuple #[.int .i64 (o.getD 0), .bool o.isSome]
set_option maxRecDepth 100000 in
set_option maxHeartbeats 16000000 in
theorem rint_any (q : ByteArray) (hq : q.size ≤ 1099511627776) (w : World) : Calls Tryz.prog 31 #[.string q] w fun e w' => e = .returned (intT (intW (tl q))) ∧ Below w.heap.size w w' := by
  obtain ⟨V, hV⟩ : ∃ V, intW (tl q) = V := ⟨_, rfl⟩
  rw [hV]
  replace hV := Lib.hid hV
  cases hq0 : tl q with
  | nil =>
    have he : q.toList.isEmpty = true := by rw [Lib.toList_data]; show (tl q).isEmpty = true; rw [hq0]; rfl
    have hv : Hid (V = none) := Lib.hid (by rw [← hV.out, hq0]; rfl)
    clear hq0
    go_enter Tryz.func31, Tryz.ntmps31
    go_wp2_with (fail)
    go_ret2
    exact ⟨by rw [hv.out]; rfl, Below.refl _ _⟩
  | cons a0 t0 =>
  have he0 : q.toList.isEmpty = false := by rw [Lib.toList_data]; show (tl q).isEmpty = false; rw [hq0]; rfl
  obtain ⟨h00, hx0, hsz0⟩ := head_bytes hq0
  have hI00 : (0 : Int) < q.size := by omega
  by_cases hm : a0.toNat = 45
  · have f0 : (((q[0].toNat : Nat) : Int) == 45) = true := beq_iff_eq.2 (by rw [hx0]; omega)
    have hsz1 : (1 : Int) ≤ q.size := by omega
    obtain ⟨p, hp⟩ : ∃ p, q.extract 1 q.size = p := ⟨_, rfl⟩
    have hpl : tl p = t0 := by
      rw [← hp]
      show (q.extract 1 q.size).data.toList = _
      rw [extract_bytes _ _ _ (Nat.le_refl _), List.take_of_length_le (by simp)]
      show (tl q).drop 1 = _
      rw [hq0]
      rfl
    have hps : p.size ≤ 1099511627776 := by rw [← hp, ByteArray.size_extract]; omega
    have hsg : tl q = sgn true (tl p) := by rw [hpl, hq0, show a0 = 45 from UInt8.toNat_inj.1 hm]; rfl
    have hnb : true = false → (tl p).getD 0 0 ≠ 45 := fun h => by cases h
    clear hpl hq0 hx0 hsz0 hm
    go_enter Tryz.func31, Tryz.ntmps31
    go_upto_region 6 with (fail)
    clear hp f0 hsz1 he0 hI00
    -- what stands behind the sign
    have hN0 : ∀ v, intW (tl q) = some v → canonS true (tl p) ∧ v = -(decV (tl p) : Int) ∧ i64z v := fun v h => by
      rw [hsg] at h
      exact intW_form h hnb
    have hNo : ¬ canonS true (tl p) → V = none := fun h => by
      cases hw : intW (tl q) with
      | none => rw [← hV.out, hw]
      | some v => exact absurd (hN0 v hw).1 h
    cases hl : tl p with
    | nil =>
      have he : p.toList.isEmpty = true := by rw [Lib.toList_data]; show (tl p).isEmpty = true; rw [hl]; rfl
      have hv : Hid (V = none) := Lib.hid (hNo (fun h => h.1 hl))
      clear hNo hN0 hl hsg hnb
      go_wp2_with (fail)
      go_ret2
      exact ⟨by rw [hv.out]; rfl, Below.refl _ _⟩
    | cons a t =>
    have he : p.toList.isEmpty = false := by rw [Lib.toList_data]; show (tl p).isEmpty = false; rw [hl]; rfl
    obtain ⟨h0, hx, hsz⟩ := head_bytes hl
    have hI0 : (0 : Int) < p.size := by omega
    have hhd : (tl p).getD 0 0 = a := by rw [hl]; rfl
    by_cases c1 : a.toNat = 48 ∧ (true = true ∨ 1 < p.size)
    · have f1 : (((p[0].toNat : Nat) : Int) == 48) = true := beq_iff_eq.2 (by rw [hx]; omega)
      have hv : Hid (V = none) := Lib.hid (hNo (fun h => by
        have h2 := h.2.1 (by rw [hhd]; exact UInt8.toNat_inj.1 c1.1)
        have h3 : (tl p).length = p.size := by simp [tl]
        cases h2.1))
      clear hNo hN0 hl hsg hnb hx hhd hsz c1
      go_wp2_with (fail)
      go_ret2
      exact ⟨by rw [hv.out]; rfl, Below.refl _ _⟩
    have f1 : ((((p[0].toNat : Nat) : Int) == 48) = false) := by
      refine beq_eq_false_iff_ne.2 fun h => c1 ⟨?_, .inl rfl⟩
      rw [hx] at h
      omega
    have hcn : Hid ((tl p).getD 0 0 ≠ 48 ∨ False) := Lib.hid (by
      have h3 : (tl p).length = p.size := by simp [tl]
      by_cases e : (tl p).getD 0 0 = 48
      · rw [hhd] at e
        exact .inr (c1 ⟨by rw [e]; rfl, .inl rfl⟩)
      · exact .inl e)
    have hne : Hid (tl p ≠ []) := Lib.hid (by rw [hl]; simp)
    replace hNo := Lib.hid hNo
    replace hN0 := Lib.hid hN0
    replace hsg := Lib.hid hsg
    have c1H := Lib.hid c1
    clear hl hx hsz hhd hnb c1
    clear c1H
    go_wp2_with (fail)
    go_loopw [6, 7] (fun nv iv wr => ∃ (i : Nat) (z : Int), i ≤ p.size ∧ nv = .int .i64 z ∧ iv = .int .i64 i ∧ -9223372036854775808 ≤ z ∧ z ≤ 0 ∧ Hid (z = -(decV ((tl p).take i) : Int)) ∧ Hid (∀ b ∈ (tl p).take i, digB b) ∧ Hid (wr = w)) (fun _ iv _ => p.size - (intOf iv).toNat)
    case atStart => exact ⟨0, 0, by omega, rfl, rfl, by omega, by omega, Lib.hid (by simp [decV]), Lib.hid (by simp), Lib.hid rfl⟩
    case round =>
      clear f1 he hI0
      obtain ⟨i, z, hi, rfl, rfl, hz1, hz2, hzv, hdg, hwr⟩ := hrel
      by_cases hl : i < p.size
      · have hI : (i : Int) < p.size := by omega
        have hIn : ¬ (i : Int) < 0 := by omega
        have hmem : Hid (p[i] ∈ tl p) := Lib.hid (mem_bytes p i hl)
        by_cases d1 : p[i].toNat < 48
        · have g1 : (((p[i].toNat : Nat) : Int) < 48) := by omega
          have hv : Hid (V = none) := Lib.hid (hNo.out (fun h => by have := h.2.2 _ hmem.out; unfold digB at this; omega))
          clear d1
          go_wp2_with (fail)
          go_ret2
          exact ⟨by rw [hv.out]; rfl, by rw [hwr.out]; exact Below.refl _ _⟩
        have g1 : ¬ (((p[i].toNat : Nat) : Int) < 48) := by omega
        by_cases d2 : 57 < p[i].toNat
        · have g2 : ((57 : Int) < ((p[i].toNat : Nat) : Int)) := by omega
          have hv : Hid (V = none) := Lib.hid (hNo.out (fun h => by have := h.2.2 _ hmem.out; unfold digB at this; omega))
          clear d1 d2
          go_wp2_with (fail)
          go_ret2
          exact ⟨by rw [hv.out]; rfl, by rw [hwr.out]; exact Below.refl _ _⟩
        have g2 : ¬ ((57 : Int) < ((p[i].toNat : Nat) : Int)) := by omega
        obtain ⟨d, hd⟩ : ∃ d, p[i].toNat = 48 + d := ⟨p[i].toNat - 48, by omega⟩
        have hd9 : d ≤ 9 := by omega
        have hdI : ((p[i].toNat : Nat) : Int) - 48 = (d : Int) := by omega
        have hstep : Hid (decV ((tl p).take (i + 1)) = 10 * decV ((tl p).take i) + d) := Lib.hid (by
          show decV (p.data.toList.take (i + 1)) = _
          rw [take_snocB p i hl, decV_snoc, hd]
          show 10 * decV ((tl p).take i) + (48 + d - 48) = _
          omega)
        have hdg2 : Hid (∀ b ∈ (tl p).take (i + 1), digB b) := Lib.hid (fun b hb => by
          have hb' : b ∈ p.data.toList.take (i + 1) := hb
          rw [take_snocB p i hl] at hb'
          rcases List.mem_append.1 hb' with hb' | hb'
          · exact hdg.out b hb'
          · obtain rfl : b = p[i] := by simpa using hb'
            unfold digB
            omega)
        have hq10 : ((-9223372036854775808 + (d : Int)).tdiv 10) = -((9223372036854775808 - (d : Int)) / 10) := by
          rw [show (-9223372036854775808 + (d : Int)) = -(9223372036854775808 - (d : Int)) by omega, Int.neg_tdiv, Int.tdiv_eq_ediv_of_nonneg (by omega)]
        by_cases d3 : 10 * z - d < -9223372036854775808
        · have g3 : z < ((-9223372036854775808 + (d : Int)).tdiv 10) := by rw [hq10]; omega
          have hv : Hid (V = none) := Lib.hid (by
            cases hw : intW (tl q) with
            | none => rw [← hV.out, hw]
            | some v =>
              exfalso
              obtain ⟨-, hve, hvi⟩ := hN0.out v hw
              have h1 := decV_mono ((tl p).take (i + 1)) ((tl p).drop (i + 1))
              rw [List.take_append_drop, hstep.out] at h1
              have h2 := hzv.out
              have h5 := hvi.1
              have h6 := hvi.2
              omega)
          have hdH := Lib.hid hd
          clear d1 d2 d3 hd hq10 g1 g2
          replace g3 := Lib.hid g3
          go_upto_region 15 with (fail)
          have g3 := g3.out
          go_wp2_with (fail)
          go_ret2
          exact ⟨by rw [hv.out]; rfl, by rw [hwr.out]; exact Below.refl _ _⟩
        · have g3 : ¬ z < ((-9223372036854775808 + (d : Int)).tdiv 10) := by rw [hq10]; omega
          have hb1 : -9223372036854775808 ≤ 10 * z - d := by omega
          have hz9 : Hid (10 * z - d = -(decV ((tl p).take (i + 1)) : Int)) := Lib.hid (by
            have h2 := hzv.out
            rw [hstep.out]
            omega)
          have hdH := Lib.hid hd
          clear d1 d2 d3 hd hq10 hzv hdg hmem
          replace g3 := Lib.hid g3
          go_upto_region 15 with (fail)
          have g3 := g3.out
          clear g1 g2 hdI
          go_wp2_with (fail)
          exact ⟨⟨i + 1, 10 * z - d, by omega, rfl, rfl, hb1, by omega, hz9, hdg2, hwr⟩, by simp only [intOf]; omega⟩
      · have hI : ¬ (i : Int) < p.size := by omega
        have hall : (tl p).take i = tl p := List.take_of_length_le (by have : (tl p).length = p.size := by simp [tl]
                                                                       omega)
        rw [hall] at hzv hdg
        have hcan : canonS true (tl p) := ⟨hne.out, fun e => (hcn.out.resolve_left (fun h => h e)).elim, hdg.out⟩
        have hv : Hid (V = some z) := Lib.hid (by
          have h1 := intW_canon hcan (by rw [if_pos rfl, ← hzv.out]; exact ⟨hz1, by omega⟩)
          rw [← hsg.out, hV.out, if_pos rfl, ← hzv.out] at h1
          exact h1)
        clear hall hcan
        go_wp2_with (fail)
        go_ret2
        exact ⟨by rw [hv.out]; rfl, by rw [hwr.out]; exact Below.refl _ _⟩
  · have f0 : (((q[0].toNat : Nat) : Int) == 45) = false := beq_eq_false_iff_ne.2 (by rw [hx0]; omega)
    have hnb : false = false → (tl q).getD 0 0 ≠ 45 := fun _ => by
      rw [hq0]
      intro e
      have : a0 = 45 := e
      exact hm (by rw [this]; rfl)
    replace hnb := Lib.hid hnb
    clear hq0 hx0 hsz0 hm
    go_enter Tryz.func31, Tryz.ntmps31
    go_upto_region 6 with (fail)
    clear f0 he0 hI00
    replace hnb := hnb.out
    have hsg : tl q = sgn false (tl q) := rfl
    -- what stands behind the sign
    have hN0 : ∀ v, intW (tl q) = some v → canonS false (tl q) ∧ v = (decV (tl q) : Int) ∧ i64z v := fun v h => by
      rw [hsg] at h
      exact intW_form h hnb
    have hNo : ¬ canonS false (tl q) → V = none := fun h => by
      cases hw : intW (tl q) with
      | none => rw [← hV.out, hw]
      | some v => exact absurd (hN0 v hw).1 h
    cases hl : tl q with
    | nil =>
      have he : q.toList.isEmpty = true := by rw [Lib.toList_data]; show (tl q).isEmpty = true; rw [hl]; rfl
      have hv : Hid (V = none) := Lib.hid (hNo (fun h => h.1 hl))
      clear hNo hN0 hl hsg hnb
      go_wp2_with (fail)
      go_ret2
      exact ⟨by rw [hv.out]; rfl, Below.refl _ _⟩
    | cons a t =>
    have he : q.toList.isEmpty = false := by rw [Lib.toList_data]; show (tl q).isEmpty = false; rw [hl]; rfl
    obtain ⟨h0, hx, hsz⟩ := head_bytes hl
    have hI0 : (0 : Int) < q.size := by omega
    have hhd : (tl q).getD 0 0 = a := by rw [hl]; rfl
    by_cases c1 : a.toNat = 48 ∧ (false = true ∨ 1 < q.size)
    · have f1 : (((q[0].toNat : Nat) : Int) == 48) = true := beq_iff_eq.2 (by rw [hx]; omega)
      have hv : Hid (V = none) := Lib.hid (hNo (fun h => by
        have h2 := h.2.1 (by rw [hhd]; exact UInt8.toNat_inj.1 c1.1)
        have h3 : (tl q).length = q.size := by simp [tl]
        rcases c1.2 with e | e
        · cases e
        · omega))
      have f2 : (1 : Int) < q.size := by have := c1.2; simp at this; omega
      clear hNo hN0 hl hsg hnb hx hhd hsz c1
      go_wp2_with (fail)
      go_ret2
      exact ⟨by rw [hv.out]; rfl, Below.refl _ _⟩
    have f1 : ((((q[0].toNat : Nat) : Int) == 48) = false ∨ ((((q[0].toNat : Nat) : Int) == 48) = true ∧ ¬ (1 : Int) < q.size)) := by
      by_cases h : a.toNat = 48
      · exact .inr ⟨beq_iff_eq.2 (by rw [hx]; omega), fun h2 => c1 ⟨h, .inr (by omega)⟩⟩
      · exact .inl (beq_eq_false_iff_ne.2 (by rw [hx]; omega))
    have hcn : Hid ((tl q).getD 0 0 ≠ 48 ∨ (tl q).length = 1) := Lib.hid (by
      have h3 : (tl q).length = q.size := by simp [tl]
      by_cases e : (tl q).getD 0 0 = 48
      · rw [hhd] at e
        exact .inr (Classical.byContradiction fun h => c1 ⟨by rw [e]; rfl, .inr (by omega)⟩)
      · exact .inl e)
    have hne : Hid (tl q ≠ []) := Lib.hid (by rw [hl]; simp)
    replace hNo := Lib.hid hNo
    replace hN0 := Lib.hid hN0
    replace hsg := Lib.hid hsg
    have c1H := Lib.hid c1
    clear hl hx hsz hhd hnb c1
    clear c1H
    rcases f1 with f1 | ⟨f1, f1'⟩
    · go_wp2_with (fail)
      go_loopw [6, 7] (fun nv iv wr => ∃ (i : Nat) (z : Int), i ≤ q.size ∧ nv = .int .i64 z ∧ iv = .int .i64 i ∧ -9223372036854775808 ≤ z ∧ z ≤ 0 ∧ Hid (z = -(decV ((tl q).take i) : Int)) ∧ Hid (∀ b ∈ (tl q).take i, digB b) ∧ Hid (wr = w)) (fun _ iv _ => q.size - (intOf iv).toNat)
      case atStart => exact ⟨0, 0, by omega, rfl, rfl, by omega, by omega, Lib.hid (by simp [decV]), Lib.hid (by simp), Lib.hid rfl⟩
      case round =>
        clear f1 he hI0
        obtain ⟨i, z, hi, rfl, rfl, hz1, hz2, hzv, hdg, hwr⟩ := hrel
        by_cases hl : i < q.size
        · have hI : (i : Int) < q.size := by omega
          have hIn : ¬ (i : Int) < 0 := by omega
          have hmem : Hid (q[i] ∈ tl q) := Lib.hid (mem_bytes q i hl)
          by_cases d1 : q[i].toNat < 48
          · have g1 : (((q[i].toNat : Nat) : Int) < 48) := by omega
            have hv : Hid (V = none) := Lib.hid (hNo.out (fun h => by have := h.2.2 _ hmem.out; unfold digB at this; omega))
            clear d1
            go_wp2_with (fail)
            go_ret2
            exact ⟨by rw [hv.out]; rfl, by rw [hwr.out]; exact Below.refl _ _⟩
          have g1 : ¬ (((q[i].toNat : Nat) : Int) < 48) := by omega
          by_cases d2 : 57 < q[i].toNat
          · have g2 : ((57 : Int) < ((q[i].toNat : Nat) : Int)) := by omega
            have hv : Hid (V = none) := Lib.hid (hNo.out (fun h => by have := h.2.2 _ hmem.out; unfold digB at this; omega))
            clear d1 d2
            go_wp2_with (fail)
            go_ret2
            exact ⟨by rw [hv.out]; rfl, by rw [hwr.out]; exact Below.refl _ _⟩
          have g2 : ¬ ((57 : Int) < ((q[i].toNat : Nat) : Int)) := by omega
          obtain ⟨d, hd⟩ : ∃ d, q[i].toNat = 48 + d := ⟨q[i].toNat - 48, by omega⟩
          have hd9 : d ≤ 9 := by omega
          have hdI : ((q[i].toNat : Nat) : Int) - 48 = (d : Int) := by omega
          have hstep : Hid (decV ((tl q).take (i + 1)) = 10 * decV ((tl q).take i) + d) := Lib.hid (by
            show decV (q.data.toList.take (i + 1)) = _
            rw [take_snocB q i hl, decV_snoc, hd]
            show 10 * decV ((tl q).take i) + (48 + d - 48) = _
            omega)
          have hdg2 : Hid (∀ b ∈ (tl q).take (i + 1), digB b) := Lib.hid (fun b hb => by
            have hb' : b ∈ q.data.toList.take (i + 1) := hb
            rw [take_snocB q i hl] at hb'
            rcases List.mem_append.1 hb' with hb' | hb'
            · exact hdg.out b hb'
            · obtain rfl : b = q[i] := by simpa using hb'
              unfold digB
              omega)
          have hq10 : ((-9223372036854775808 + (d : Int)).tdiv 10) = -((9223372036854775808 - (d : Int)) / 10) := by
            rw [show (-9223372036854775808 + (d : Int)) = -(9223372036854775808 - (d : Int)) by omega, Int.neg_tdiv, Int.tdiv_eq_ediv_of_nonneg (by omega)]
          by_cases d3 : 10 * z - d < -9223372036854775808
          · have g3 : z < ((-9223372036854775808 + (d : Int)).tdiv 10) := by rw [hq10]; omega
            have hv : Hid (V = none) := Lib.hid (by
              cases hw : intW (tl q) with
              | none => rw [← hV.out, hw]
              | some v =>
                exfalso
                obtain ⟨-, hve, hvi⟩ := hN0.out v hw
                have h1 := decV_mono ((tl q).take (i + 1)) ((tl q).drop (i + 1))
                rw [List.take_append_drop, hstep.out] at h1
                have h2 := hzv.out
                have h5 := hvi.1
                have h6 := hvi.2
                omega)
            have hdH := Lib.hid hd
            clear d1 d2 d3 hd hq10 g1 g2
            replace g3 := Lib.hid g3
            go_upto_region 15 with (fail)
            have g3 := g3.out
            go_wp2_with (fail)
            go_ret2
            exact ⟨by rw [hv.out]; rfl, by rw [hwr.out]; exact Below.refl _ _⟩
          · have g3 : ¬ z < ((-9223372036854775808 + (d : Int)).tdiv 10) := by rw [hq10]; omega
            have hb1 : -9223372036854775808 ≤ 10 * z - d := by omega
            have hz9 : Hid (10 * z - d = -(decV ((tl q).take (i + 1)) : Int)) := Lib.hid (by
              have h2 := hzv.out
              rw [hstep.out]
              omega)
            have hdH := Lib.hid hd
            clear d1 d2 d3 hd hq10 hzv hdg hmem
            replace g3 := Lib.hid g3
            go_upto_region 15 with (fail)
            have g3 := g3.out
            clear g1 g2 hdI
            go_wp2_with (fail)
            exact ⟨⟨i + 1, 10 * z - d, by omega, rfl, rfl, hb1, by omega, hz9, hdg2, hwr⟩, by simp only [intOf]; omega⟩
        · have hI : ¬ (i : Int) < q.size := by omega
          have hall : (tl q).take i = tl q := List.take_of_length_le (by have : (tl q).length = q.size := by simp [tl]
                                                                         omega)
          rw [hall] at hzv hdg
          have hcan : canonS false (tl q) := ⟨hne.out, fun e => (hcn.out.resolve_left (fun h => h e)) |> fun h => ⟨rfl, h⟩, hdg.out⟩
          by_cases d4 : z = -9223372036854775808
          · have g4 : (z == -9223372036854775808) = true := beq_iff_eq.2 d4
            have hv : Hid (V = none) := Lib.hid (by
              cases hw : intW (tl q) with
              | none => rw [← hV.out, hw]
              | some v =>
                exfalso
                obtain ⟨-, hve, hvi⟩ := hN0.out v hw
                have h2 := hzv.out
                have h6 := hvi.2
                omega)
            clear hall hcan d4
            go_wp2_with (fail)
            go_ret2
            exact ⟨by rw [hv.out]; rfl, by rw [hwr.out]; exact Below.refl _ _⟩
          · have g4 : (z == -9223372036854775808) = false := beq_eq_false_iff_ne.2 d4
            have hv : Hid (V = some (-z)) := Lib.hid (by
              have h2 := hzv.out
              have h1 := intW_canon hcan (by rw [if_neg (by decide)]; exact ⟨by omega, by omega⟩)
              rw [← hsg.out, hV.out, if_neg (by decide)] at h1
              rw [h1]
              congr 1
              omega)
            have hz3 : -9223372036854775807 ≤ z := by omega
            clear hall hcan d4
            go_wp2_with (fail)
            go_ret2
            exact ⟨by rw [hv.out]; rfl, by rw [hwr.out]; exact Below.refl _ _⟩
    · go_wp2_with (fail)
      go_loopw [6, 7] (fun nv iv wr => ∃ (i : Nat) (z : Int), i ≤ q.size ∧ nv = .int .i64 z ∧ iv = .int .i64 i ∧ -9223372036854775808 ≤ z ∧ z ≤ 0 ∧ Hid (z = -(decV ((tl q).take i) : Int)) ∧ Hid (∀ b ∈ (tl q).take i, digB b) ∧ Hid (wr = w)) (fun _ iv _ => q.size - (intOf iv).toNat)
      case atStart => exact ⟨0, 0, by omega, rfl, rfl, by omega, by omega, Lib.hid (by simp [decV]), Lib.hid (by simp), Lib.hid rfl⟩
      case round =>
        clear f1 f1' he hI0
        obtain ⟨i, z, hi, rfl, rfl, hz1, hz2, hzv, hdg, hwr⟩ := hrel
        by_cases hl : i < q.size
        · have hI : (i : Int) < q.size := by omega
          have hIn : ¬ (i : Int) < 0 := by omega
          have hmem : Hid (q[i] ∈ tl q) := Lib.hid (mem_bytes q i hl)
          by_cases d1 : q[i].toNat < 48
          · have g1 : (((q[i].toNat : Nat) : Int) < 48) := by omega
            have hv : Hid (V = none) := Lib.hid (hNo.out (fun h => by have := h.2.2 _ hmem.out; unfold digB at this; omega))
            clear d1
            go_wp2_with (fail)
            go_ret2
            exact ⟨by rw [hv.out]; rfl, by rw [hwr.out]; exact Below.refl _ _⟩
          have g1 : ¬ (((q[i].toNat : Nat) : Int) < 48) := by omega
          by_cases d2 : 57 < q[i].toNat
          · have g2 : ((57 : Int) < ((q[i].toNat : Nat) : Int)) := by omega
            have hv : Hid (V = none) := Lib.hid (hNo.out (fun h => by have := h.2.2 _ hmem.out; unfold digB at this; omega))
            clear d1 d2
            go_wp2_with (fail)
            go_ret2
            exact ⟨by rw [hv.out]; rfl, by rw [hwr.out]; exact Below.refl _ _⟩
          have g2 : ¬ ((57 : Int) < ((q[i].toNat : Nat) : Int)) := by omega
          obtain ⟨d, hd⟩ : ∃ d, q[i].toNat = 48 + d := ⟨q[i].toNat - 48, by omega⟩
          have hd9 : d ≤ 9 := by omega
          have hdI : ((q[i].toNat : Nat) : Int) - 48 = (d : Int) := by omega
          have hstep : Hid (decV ((tl q).take (i + 1)) = 10 * decV ((tl q).take i) + d) := Lib.hid (by
            show decV (q.data.toList.take (i + 1)) = _
            rw [take_snocB q i hl, decV_snoc, hd]
            show 10 * decV ((tl q).take i) + (48 + d - 48) = _
            omega)
          have hdg2 : Hid (∀ b ∈ (tl q).take (i + 1), digB b) := Lib.hid (fun b hb => by
            have hb' : b ∈ q.data.toList.take (i + 1) := hb
            rw [take_snocB q i hl] at hb'
            rcases List.mem_append.1 hb' with hb' | hb'
            · exact hdg.out b hb'
            · obtain rfl : b = q[i] := by simpa using hb'
              unfold digB
              omega)
          have hq10 : ((-9223372036854775808 + (d : Int)).tdiv 10) = -((9223372036854775808 - (d : Int)) / 10) := by
            rw [show (-9223372036854775808 + (d : Int)) = -(9223372036854775808 - (d : Int)) by omega, Int.neg_tdiv, Int.tdiv_eq_ediv_of_nonneg (by omega)]
          by_cases d3 : 10 * z - d < -9223372036854775808
          · have g3 : z < ((-9223372036854775808 + (d : Int)).tdiv 10) := by rw [hq10]; omega
            have hv : Hid (V = none) := Lib.hid (by
              cases hw : intW (tl q) with
              | none => rw [← hV.out, hw]
              | some v =>
                exfalso
                obtain ⟨-, hve, hvi⟩ := hN0.out v hw
                have h1 := decV_mono ((tl q).take (i + 1)) ((tl q).drop (i + 1))
                rw [List.take_append_drop, hstep.out] at h1
                have h2 := hzv.out
                have h5 := hvi.1
                have h6 := hvi.2
                omega)
            have hdH := Lib.hid hd
            clear d1 d2 d3 hd hq10 g1 g2
            replace g3 := Lib.hid g3
            go_upto_region 15 with (fail)
            have g3 := g3.out
            go_wp2_with (fail)
            go_ret2
            exact ⟨by rw [hv.out]; rfl, by rw [hwr.out]; exact Below.refl _ _⟩
          · have g3 : ¬ z < ((-9223372036854775808 + (d : Int)).tdiv 10) := by rw [hq10]; omega
            have hb1 : -9223372036854775808 ≤ 10 * z - d := by omega
            have hz9 : Hid (10 * z - d = -(decV ((tl q).take (i + 1)) : Int)) := Lib.hid (by
              have h2 := hzv.out
              rw [hstep.out]
              omega)
            have hdH := Lib.hid hd
            clear d1 d2 d3 hd hq10 hzv hdg hmem
            replace g3 := Lib.hid g3
            go_upto_region 15 with (fail)
            have g3 := g3.out
            clear g1 g2 hdI
            go_wp2_with (fail)
            exact ⟨⟨i + 1, 10 * z - d, by omega, rfl, rfl, hb1, by omega, hz9, hdg2, hwr⟩, by simp only [intOf]; omega⟩
        · have hI : ¬ (i : Int) < q.size := by omega
          have hall : (tl q).take i = tl q := List.take_of_length_le (by have : (tl q).length = q.size := by simp [tl]
                                                                         omega)
          rw [hall] at hzv hdg
          have hcan : canonS false (tl q) := ⟨hne.out, fun e => (hcn.out.resolve_left (fun h => h e)) |> fun h => ⟨rfl, h⟩, hdg.out⟩
          by_cases d4 : z = -9223372036854775808
          · have g4 : (z == -9223372036854775808) = true := beq_iff_eq.2 d4
            have hv : Hid (V = none) := Lib.hid (by
              cases hw : intW (tl q) with
              | none => rw [← hV.out, hw]
              | some v =>
                exfalso
                obtain ⟨-, hve, hvi⟩ := hN0.out v hw
                have h2 := hzv.out
                have h6 := hvi.2
                omega)
            clear hall hcan d4
            go_wp2_with (fail)
            go_ret2
            exact ⟨by rw [hv.out]; rfl, by rw [hwr.out]; exact Below.refl _ _⟩
          · have g4 : (z == -9223372036854775808) = false := beq_eq_false_iff_ne.2 d4
            have hv : Hid (V = some (-z)) := Lib.hid (by
              have h2 := hzv.out
              have h1 := intW_canon hcan (by rw [if_neg (by decide)]; exact ⟨by omega, by omega⟩)
              rw [← hsg.out, hV.out, if_neg (by decide)] at h1
              rw [h1]
              congr 1
              omega)
            have hz3 : -9223372036854775807 ≤ z := by omega
            clear hall hcan d4
            go_wp2_with (fail)
            go_ret2
            exact ⟨by rw [hv.out]; rfl, by rw [hwr.out]; exact Below.refl _ _⟩
end Go.Proofs.YtjplgcmfifoefaaGreatDoor
namespace Go.Proofs.YtjplgcmfifoefaaGreatDoor
open Go.RowKit Go.Shelf Go.Maps
set_option linter.unusedVariables false
set_option linter.unusedSimpArgs false
attribute [local go_sem] Oper.semAt_some

section
variable {ops : Array Oper} {rest : List Oper} {o : Oper} {a : Act} {w : World} {Q : Exit → Act → World → Prop}
end
theorem etr_no (k : Nat) (ps : List ByteArray) (lim base : Nat) (w : World) (h : readE k (ps.map tl) = none) : EtR k ps lim base 260 (evK 0) [] w :=
  ⟨fun e' h9 => (by rw [h] at h9; cases h9), fun _ => ⟨rfl, rfl, rfl⟩, Own.nil_ _ _ _ _ _, rfl, by show (0 : Nat) ≤ _; omega, by show (0 : Nat) ≤ _; omega, by show (0 : Nat) ≤ _; omega, by simp, ⟨by show i64z 0; unfold i64z; omega, fun z hz => by cases hz⟩⟩
theorem field_kd_2 (b : Nat) (w : World) : (Instr.fieldAt 53 (.pointer (some ⟨b, 0, none⟩)) 2).run Tryz.prog w = .ok (.pointer (some ⟨b, 2, none⟩)) w := by kernel_rfl
theorem field_kd_3 (b : Nat) (w : World) : (Instr.fieldAt 53 (.pointer (some ⟨b, 0, none⟩)) 3).run Tryz.prog w = .ok (.pointer (some ⟨b, 3, none⟩)) w := by kernel_rfl
theorem isz_str : (Tryz.prog.info? 9).map (·.size) = some 1 := by kernel_rfl
theorem unq_lim {p : ByteArray} {lim : Nat} (h : p.size ≤ lim) : (⟨(unqZ (tl p)).toArray⟩ : ByteArray).size ≤ lim := by
  have h1 := unq_len (tl p)
  have h2 : (tl p).length = p.size := by simp [tl]
  rw [bytes_size]
  omega
set_option maxRecDepth 100000 in
set_option maxHeartbeats 16000000 in
theorem revent_any (s : ByteArray) (k wd : Nat) (wh : Int) (many : Bool) (hK : KdOk k wd wh many) (A : Option Addr) (n c : Nat) (ps : List ByteArray) (hn : n = ps.length) (hn2 : n ≤ 1073741824) (lim : Nat) (hlim : ∀ p ∈ ps, p.size ≤ lim) (hl2 : lim ≤ 1099511627776) (w : World) (hs : SliceOf w w.heap.size 1 encQ A ps) :
    Calls Tryz.prog 18 #[.agg (kdC s k wd wh), .slice A n c] w fun e w' => EtE k ps lim w.heap.size e w' ∧ Below w.heap.size w w' := by
  replace hn := Lib.hid hn
  replace hlim := Lib.hid hlim
  obtain ⟨q1, q2, q3, q4, q5, q6, q7, q8⟩ := hK
  have hmny := Lib.hid q6
  have hlet := Lib.hid q7
  have hoth := Lib.hid q8
  clear q6 q7 q8 q1 q2
  go_enter Tryz.func18, Tryz.ntmps18
  go_upto_region 1 with (fail)
  obtain ⟨w1, hw1⟩ : ∃ y, y = (w.alloc (.cells (kdC s k wd wh) 53)).alloc (.cells #[.int .i64 0, .string ⟨#[]⟩, .string ⟨#[]⟩, .string ⟨#[]⟩, .int .i64 0, .bool false, .slice none 0 0] 25) := ⟨_, rfl⟩
  have hk1 : Blk w1 w.heap.size 53 (kdC s k wd wh) := by rw [hw1]; exact blk_then (Blk.new w _ _) (below_alloc (Below.refl _ _) _)
  have hb1 : Blk w1 (w.heap.size + 1) 25 (evK 0).C := by
    have h := Blk.new (w.alloc (.cells (kdC s k wd wh) 53)) 25 (evK 0).C
    rw [World.size_alloc] at h
    rw [hw1]
    exact h
  have hB1 : Below w.heap.size w w1 := by rw [hw1]; exact below_alloc (below_alloc (Below.refl w.heap.size w) _) _
  rw [← hw1]
  clear hw1
  obtain ⟨gk, hgk⟩ : ∃ y, y = w.heap.size := ⟨_, rfl⟩
  obtain ⟨r0, hr0⟩ : ∃ y, y = gk + 1 := ⟨_, rfl⟩
  have hsr : SliceOf w gk 1 encQ A ps := by rw [hgk]; exact hs
  rw [← hgk] at hk1 hb1 hB1 ⊢
  rw [← hr0] at hb1 ⊢
  have hkr : gk < r0 := by omega
  have hrl := hb1.lt
  replace hgk := Lib.hid hgk
  replace hr0 := Lib.hid hr0
  clear hs
  have d2 : w1.cell? ⟨gk, 2, none⟩ = some (.int .i64 (wd : Nat)) := hk1.cellv rfl
  have d3 : w1.cell? ⟨gk, 3, none⟩ = some (.int .i64 wh) := hk1.cellv rfl
  have hpl := hn.out
  by_cases hbad : 0 ≤ wh ∧ (n : Int) ≠ wd + wh
  · have f1 : (0 : Int) ≤ wh := hbad.1
    have f2 : ((n : Int) != (wd : Int) + wh) = true := bne_iff_ne.2 hbad.2
    have hnone : Hid (readE k (ps.map tl) = none) := Lib.hid (by
      unfold readE
      rw [List.length_map, ← hpl]
      exact readG_len _ _ _ (by rw [List.length_map, ← hpl]; exact hoth.out n hbad.1 hbad.2))
    clear hbad hpl
    go_wp2_with (first
      | (refine wl_build_ev0 rfl rfl ?_)
      | (refine wl_store_ev rfl _ _ rfl r0 (evK 0) (evK 0) rfl rfl hb1 ?_; intro w5 h5 hg5))
    refine ret_cell2 rfl _ rfl h5 Tryz.underlying25 rfl (info_ev.trans rfl) rfl ?_
    refine ⟨EtE.of 260 (evK 0) [] rfl (etr_no k ps lim _ _ hnone.out), ?_⟩
    rw [← hgk.out]
    exact hB1.grown hg5 (Nat.le_of_lt (Nat.lt_of_le_of_lt (Nat.le_of_lt hkr) hb1.lt)) (by rintro k ⟨⟩; omega)
  have hlts : letsOf k n = (List.range n).map (letR k wd many) := hlet.out n (by
    by_cases h : wh < 0
    · exact .inl h
    · exact .inr (Classical.byContradiction fun h2 => hbad ⟨by omega, h2⟩))
  replace hlts := Lib.hid hlts
  have hk1' : w1.cell? ⟨gk, 1, none⟩ = some (.int .i64 (k : Nat)) := hk1.cellv rfl
  have hv1 : Hid (((decide ((0 : Int) ≤ (wh : Int))) && (((((n : Nat) : Int) : Int) != ((wd : Int) + wh : Int)))) = false) := Lib.hid (by
    by_cases h : 0 ≤ wh
    · have h2 : (n : Int) = wd + wh := Classical.byContradiction fun h2 => hbad ⟨h, h2⟩
      rw [h2]
      simp
    · rw [decide_eq_false h, Bool.false_and])
  replace hpl := Lib.hid hpl
  clear hbad
  have hwsum : IntKind.i64.wrap ((wd : Int) + wh) = (wd : Int) + wh := IntWalk.i64_in _ (by omega)
  refine wp_region_text 13 [eqS (.pointer (some ⟨gk, 3, none⟩)), eqS (.int .i64 (wh)), eqS (.bool (decide ((0 : Int) ≤ (wh : Int)))), eqS (.bool (decide ((0 : Int) ≤ (wh : Int)))), eqS (vF (true && ((decide ((0 : Int) ≤ (wh : Int))) == true)) (.slice A n c)), eqS (vF (true && ((decide ((0 : Int) ≤ (wh : Int))) == true)) (.int .i64 (((n : Nat) : Int)))), eqS (vF (true && ((decide ((0 : Int) ≤ (wh : Int))) == true)) (.pointer (some ⟨gk, 2, none⟩))), eqS (vF (true && ((decide ((0 : Int) ≤ (wh : Int))) == true)) (.int .i64 (((wd : Nat) : Int)))), eqS (vF (true && ((decide ((0 : Int) ≤ (wh : Int))) == true)) (.pointer (some ⟨gk, 3, none⟩))), eqS (vF (true && ((decide ((0 : Int) ≤ (wh : Int))) == true)) (.int .i64 (wh))), eqS (vF (true && ((decide ((0 : Int) ≤ (wh : Int))) == true)) (.int .i64 ((wd : Int) + wh))), eqS (vF (true && ((decide ((0 : Int) ≤ (wh : Int))) == true)) (.bool (((((n : Nat) : Int) : Int) != ((wd : Int) + wh : Int))))), eqS (.bool ((decide ((0 : Int) ≤ (wh : Int))) && (((((n : Nat) : Int) : Int) != ((wd : Int) + wh : Int)))))] [12, 13, 14, 15, 16, 17, 18, 19, 20, 21, 22, 23, 24] (by kernel_rfl) (by kernel_rfl) ?_ ?_
  · skip
    refine Steps.cons (fun a' w' hG hB dep => gs_field (want_none rfl) _ _ _ rfl gk (0) (3) (hG.other 2 rfl) (fun wz => field_kd_3 gk wz) rfl) ?_
    refine Steps.cons (fun a' w' hG hB dep => gs_load1 (want_none rfl) _ _ rfl gk (3) (dep 0 rfl 12 rfl) (.int .i64 (wh)) ((blk_then hk1 hB).cellv (i := 3) rfl) _ Tryz.underlying3 rfl rfl) ?_
    refine Steps.cons (fun a' w' hG hB dep => gs_geq_int (want_none rfl) _ _ _ _ rfl _ _ _ (dep 1 rfl 13 rfl) rfl (id (congrArg Value.bool rfl))) ?_
    refine Steps.cons (fun a' w' hG hB dep => gs_move (want_none rfl) _ rfl (id (dep 2 rfl 14 rfl))) ?_
    refine Steps.cons (fun a' w' hG hB dep => gs_guard (c := true) (b' := (decide ((0 : Int) ≤ (wh : Int)))) rfl rfl (dep 3 rfl 15 rfl) (fun hc he hw => gs_move hw _ rfl (Eq.trans (hG.other 1 rfl) (vF_yes (on_g hc he) _).symm)) (fun hn => vF_no hn _)) ?_
    refine Steps.cons (fun a' w' hG hB dep => gs_guard (c := true) (b' := (decide ((0 : Int) ≤ (wh : Int)))) rfl rfl (dep 3 rfl 15 rfl) (fun hc he hw => gs_len hw _ _ rfl under_strsQ A n c (Eq.trans (dep 4 rfl 16 rfl) (vF_yes (on_g hc he) _)) (vF_yes (on_g hc he) _).symm) (fun hn => vF_no hn _)) ?_
    refine Steps.cons (fun a' w' hG hB dep => gs_guard (c := true) (b' := (decide ((0 : Int) ≤ (wh : Int)))) rfl rfl (dep 3 rfl 15 rfl) (fun hc he hw => gs_field hw _ _ _ rfl gk (0) (2) (hG.other 2 rfl) (fun wz => field_kd_2 gk wz) (vF_yes (on_g hc he) _).symm) (fun hn => vF_no hn _)) ?_
    refine Steps.cons (fun a' w' hG hB dep => gs_guard (c := true) (b' := (decide ((0 : Int) ≤ (wh : Int)))) rfl rfl (dep 3 rfl 15 rfl) (fun hc he hw => gs_load1 hw _ _ rfl gk (2) (Eq.trans (dep 6 rfl 18 rfl) (vF_yes (on_g hc he) _)) (.int .i64 (((wd : Nat) : Int))) ((blk_then hk1 hB).cellv (i := 2) rfl) _ Tryz.underlying3 rfl (vF_yes (on_g hc he) _).symm) (fun hn => vF_no hn _)) ?_
    refine Steps.cons (fun a' w' hG hB dep => gs_guard (c := true) (b' := (decide ((0 : Int) ≤ (wh : Int)))) rfl rfl (dep 3 rfl 15 rfl) (fun hc he hw => gs_field hw _ _ _ rfl gk (0) (3) (hG.other 2 rfl) (fun wz => field_kd_3 gk wz) (vF_yes (on_g hc he) _).symm) (fun hn => vF_no hn _)) ?_
    refine Steps.cons (fun a' w' hG hB dep => gs_guard (c := true) (b' := (decide ((0 : Int) ≤ (wh : Int)))) rfl rfl (dep 3 rfl 15 rfl) (fun hc he hw => gs_load1 hw _ _ rfl gk (3) (Eq.trans (dep 8 rfl 20 rfl) (vF_yes (on_g hc he) _)) (.int .i64 (wh)) ((blk_then hk1 hB).cellv (i := 3) rfl) _ Tryz.underlying3 rfl (vF_yes (on_g hc he) _).symm) (fun hn => vF_no hn _)) ?_
    refine Steps.cons (fun a' w' hG hB dep => gs_guard (c := true) (b' := (decide ((0 : Int) ≤ (wh : Int)))) rfl rfl (dep 3 rfl 15 rfl) (fun hc he hw => gs_add_i64 hw _ _ _ _ rfl (wd : Int) wh (Eq.trans (dep 7 rfl 19 rfl) (vF_yes (on_g hc he) _)) (Eq.trans (dep 9 rfl 21 rfl) (vF_yes (on_g hc he) _)) hwsum (vF_yes (on_g hc he) _).symm) (fun hn => vF_no hn _)) ?_
    refine Steps.cons (fun a' w' hG hB dep => gs_guard (c := true) (b' := (decide ((0 : Int) ≤ (wh : Int)))) rfl rfl (dep 3 rfl 15 rfl) (fun hc he hw => gs_neq_int hw _ _ _ _ rfl _ _ _ (Eq.trans (dep 5 rfl 17 rfl) (vF_yes (on_g hc he) _)) (Eq.trans (dep 10 rfl 22 rfl) (vF_yes (on_g hc he) _)) (Eq.trans (congrArg Value.bool rfl) (vF_yes (on_g hc he) _).symm)) (fun hn => vF_no hn _)) ?_
    refine Steps.cons (fun a' w' hG hB dep => gs_pick (want_none rfl) _ _ _ rfl (decide ((0 : Int) ≤ (wh : Int))) (dep 3 rfl 15 rfl) (id (pick_and2 (c := true) rfl (dep 11 rfl 23 rfl)))) ?_
    exact Steps.nil
  intro u w2 hw2 ans
  have hus24 : u 24 = (.bool ((decide ((0 : Int) ≤ (wh : Int))) && (((((n : Nat) : Int) : Int) != ((wd : Int) + wh : Int))))) := ans 12 24 (by decide) rfl
  clear ans
  simp only [putAll, List.foldl_cons, List.foldl_nil, Act.put, List.setIfInBounds_toArray, List.set_cons_zero, List.set_cons_succ, hus24]
  clear hus24
  simp only [List.drop]
  refine wpList_nil ?_
  rw [hv1.out]
  clear hwsum
  have hk2 := blk_then hk1 hw2
  have hb2 := blk_then hb1 hw2
  have hB2 := hB1.trans (hw2.mono (by omega))
  have cK1 : w2.cell? ⟨gk, 1, none⟩ = some (.int .i64 (k : Nat)) := hk2.cellv rfl
  have hrl2 := hb2.lt
  clear hk1 hb1 hB1 hw2 d2 d3 hrl hk1'
  go_upto_region 4 with (first
    | (refine wl_build_ev rfl _ rfl (k : Int) rfl ?_)
    | (refine wl_store_ev rfl _ _ rfl w2.heap.size (evK k) (evK 0) rfl rfl (Blk.new _ _ _) ?_; intro w3 he3 hg3))
  have hB23 := below_grown (below_alloc (Below.refl w2.heap.size w2) _) hg3 (Nat.le_refl _)
  obtain ⟨ge, hge⟩ : ∃ y, y = w2.heap.size := ⟨_, rfl⟩
  have hk3 := blk_then hk2 hB23
  have hb3 := blk_then hb2 hB23
  have hB3 : Below gk w w3 := hB2.trans (hB23.mono (by omega))
  have hrg : r0 < ge := by omega
  rw [← hge] at he3 ⊢
  have hM3 : EvM w3 ge (ge + 1) (evK k) [] := ⟨he3, Own.nil_ _ _ _ _ _, rfl, by omega, he3.lt⟩
  replace hge := Lib.hid hge
  clear hg3 hB23 hk2 hb2 hB2 cK1 he3 hrl2
  go_wp2_with (fail)
  go_loopw [7] (fun iv wr => ∃ (i : Nat) (x : EvV) (ks : List Int), i ≤ n ∧ iv = .int .i64 i ∧ EvM wr ge (ge + 1) x ks ∧ Blk wr r0 25 (evK 0).C ∧ Blk wr gk 53 (kdC s k wd wh) ∧ Below gk w wr ∧ Hid (readE k (ps.map tl) = readG ((letsOf k n).drop i) ((ps.map tl).drop i) (x.ev ks)) ∧ x.name.size ≤ lim ∧ x.other.size ≤ lim ∧ x.data.size ≤ lim ∧ ks.length ≤ i ∧ Hid (intsOk (x.ev ks))) (fun iv _ => n - (intOf iv).toNat)
  case atStart =>
    refine ⟨0, evK k, [], by omega, rfl, hM3, hb3, hk3, hB3, Lib.hid ?_, by show (0 : Nat) ≤ _; omega, by show (0 : Nat) ≤ _; omega, by show (0 : Nat) ≤ _; omega, by simp, Lib.hid ⟨by show i64z 0; unfold i64z; omega, fun z hz => by cases hz⟩⟩
    unfold readE
    rw [List.length_map, ← hpl.out, List.drop_zero, List.drop_zero, evK_ev]
  case round =>
    clear hM3 hb3 hk3 hB3
    obtain ⟨i, x, ks, hin, rfl, hM, hb0, hk0, hB, hrd, hx1, hx2, hx3, hkl, hio⟩ := hrel
    by_cases hl : i < n
    case neg =>
      have hI : ¬ (i : Int) < n := by omega
      have hfin : Hid (readE k (ps.map tl) = some (x.ev ks)) := Lib.hid (by
        rw [hrd.out, hlts.out, List.drop_eq_nil_of_le (by rw [List.length_map, List.length_range]; omega), List.drop_eq_nil_of_le (by rw [List.length_map, ← hpl.out]; omega)]
        rfl)
      have hbx := hM.blk
      clear hrd
      go_wp2_with (first
        | (refine wpList_load_row rfl _ _ rfl ge rfl _ _ _ _ hbx Tryz.underlying25 rfl (info_ev.trans rfl) ?_)
        | (refine wl_store_ev rfl _ _ rfl r0 x (evK 0) rfl rfl hb0 ?_; intro w5 h5 hg5))
      refine ret_cell2 rfl _ rfl h5 Tryz.underlying25 rfl (info_ev.trans rfl) rfl ?_
      refine ⟨EtE.of 0 x ks rfl ?_, ?_⟩
      · refine ⟨fun e' h => ⟨rfl, by rw [hfin.out] at h; injection h⟩, fun h => (by rw [hfin.out] at h; cases h), ?_, hM.len, hx1, hx2, hx3, by rw [← hpl.out]; omega, hio.out⟩
        exact (own_base (hM.own.kept_ hg5 (fun j h1 h2 => by
          have h3 := (hM.own.lt j h1).1
          injection h2 with h2
          omega)) (by rw [← hgk.out]; omega))
      · rw [← hgk.out]
        exact hB.grown hg5 (Nat.le_of_lt (Nat.lt_of_le_of_lt (Nat.le_of_lt hkr) hb0.lt)) (by rintro k ⟨⟩; omega)
    have hI : (i : Int) < n := by omega
    have hpps : i < ps.length := by rw [← hpl.out]; exact hl
    obtain ⟨bA, offA, hA, hbA, hrowA⟩ := hsr.at_ (by omega)
    obtain ⟨p, hpp⟩ : ∃ p, ps[i] = p := ⟨_, rfl⟩
    have hpsz : p.size ≤ lim := hlim.out p (by rw [← hpp]; exact List.getElem_mem _)
    have cW : wr.cell? ⟨bA, offA + i, none⟩ = some (.string p) := by
      have h9 := hrowA i hpps 0 _ rfl
      rw [hpp, Nat.mul_one] at h9
      exact (hB.cell (p := ⟨bA, offA + i, none⟩) hbA).trans h9
    have cD1 : wr.cell? ⟨gk, 1, none⟩ = some (.int .i64 (k : Nat)) := hk0.cellv rfl
    have cD2 : wr.cell? ⟨gk, 2, none⟩ = some (.int .i64 (wd : Nat)) := hk0.cellv rfl
    have hrd2 : readE k (ps.map tl) = (takeC' (letR k wd many i) (tl p) (x.ev ks)).bind (readG ((letsOf k n).drop (i + 1)) ((ps.map tl).drop (i + 1))) := by
      rw [hrd.out, hlts.out, List.drop_eq_getElem_cons (l := (List.range n).map (letR k wd many)) (i := i) (by rw [List.length_map, List.length_range]; exact hl), List.drop_eq_getElem_cons (l := ps.map tl) (i := i) (by rw [List.length_map]; exact hpps), readG, List.getElem_map, List.getElem_map, hpp, List.getElem_range]
    clear hrd hrowA hpp
    rw [hA]
    have hgr : gk < wr.heap.size := Nat.lt_trans hkr hb0.lt
    by_cases c1 : wd ≤ i
    · have f1 : (wd : Int) ≤ i := by omega
      have kI := fun W => rint_any p (by omega) W
      have cD3 : ∀ W, Below wr.heap.size wr W → W.cell? ⟨gk, 3, none⟩ = some (.int .i64 wh) := fun W hW => (blk_then hk0 hW).cellv rfl
      have hlr : letR k wd many i = if many then 107 else 105 := by unfold letR; rw [if_pos c1]
      rw [hlr] at hrd2
      cases hw : intW (tl p) with
      | none =>
        have hnone : Hid (readE k (ps.map tl) = none) := Lib.hid (by
          rw [hrd2]
          cases many with
          | true => show (takeC' 107 (tl p) (x.ev ks)).bind _ = none; unfold takeC'; rw [if_neg (by decide), if_neg (by decide), if_neg (by decide), if_neg (by decide), if_pos rfl, hw]; rfl
          | false => show (takeC' 105 (tl p) (x.ev ks)).bind _ = none; unfold takeC'; rw [if_neg (by decide), if_neg (by decide), if_neg (by decide), if_neg (by decide), if_neg (by decide), hw]; rfl)
        rw [hw] at kI
        unfold intT at kI
        clear hrd2 hlr hw c1 cD3
        go_wp2_with (first
          | (go_at_call 31; refine (kI _).mono ?_; clear kI; rintro e w8 ⟨rfl, hB8⟩)
          | (refine wl_build_ev0 rfl rfl ?_)
          | (refine wl_store_ev rfl _ _ rfl r0 (evK 0) (evK 0) rfl rfl (blk_then hb0 hB8) ?_; intro w5 h5 hg5))
        refine ret_cell2 rfl _ rfl h5 Tryz.underlying25 rfl (info_ev.trans rfl) rfl ?_
        refine ⟨EtE.of 260 (evK 0) [] rfl (etr_no k ps lim _ _ hnone.out), ?_⟩
        rw [← hgk.out]
        exact (hB.trans (hB8.mono (Nat.le_of_lt hgr))).grown hg5 (Nat.le_of_lt (Nat.lt_of_le_of_lt (Nat.le_of_lt hkr) (blk_then hb0 hB8).lt)) (by rintro k ⟨⟩; omega)
      | some v =>
        have hvi : i64z v := by rw [← intZ_some hw]; exact intZ_ok _
        rw [hw] at kI
        unfold intT at kI
        by_cases c2 : wh < 0
        · have hmt : many = true := by rw [hmny.out]; exact decide_eq_true c2
          have hsome : Hid (readE k (ps.map tl) = readG ((letsOf k n).drop (i + 1)) ((ps.map tl).drop (i + 1)) (({ x with A := none, m := x.m + 1, c := 0 } : EvV).ev (ks ++ [v]))) := Lib.hid (by
            rw [hrd2, hmt]
            show (takeC' 107 (tl p) (x.ev ks)).bind _ = _
            unfold takeC'
            rw [if_neg (by decide), if_neg (by decide), if_neg (by decide), if_neg (by decide), if_pos rfl, hw]
            rfl)
          have hio9 : Hid (intsOk (x.ev (ks ++ [v]))) := Lib.hid (by
            refine ⟨hio.out.1, fun z hz => ?_⟩
            rcases List.mem_append.1 hz with hz | hz
            · exact hio.out.2 z hz
            · obtain rfl : z = v := by simpa using hz
              exact hvi)
          clear hrd2 hlr hw c1 hmt hvi
          go_upto_region 12 with (go_at_call 31; refine (kI _).mono ?_; clear kI; rintro e w8 ⟨rfl, hB8⟩; have cE3 := cD3 _ hB8; clear cD3)
          have hM8 := hM.then_ hB8
          have hb8 := blk_then hb0 hB8
          have hk8 := blk_then hk0 hB8
          have HW : Below gk w w8 := hB.trans (hB8.mono (Nat.le_of_lt hgr))
          have cK : w8.cell? ⟨ge, 6, none⟩ = some (.slice x.A x.m x.c) := hM8.blk.cellv rfl
          have hml := Lib.hid hM8.len
          obtain ⟨G8, hG8⟩ : ∃ y, y = w8.heap.size := ⟨_, rfl⟩
          have hbe8 := hM8.blk
          have hown8 := hM8.own
          have hbs8 := hM8.bs
          have hne8 : some ge ≠ (Value.slice x.A x.m x.c).ownBlock := fun e => by
            have h3 := (hown8.lt ge e.symm).1
            omega
          clear hM hb0 hk0 hB cW cD1 cD2 cE3
          go_wp2_with (first
            | (refine wl_bsZ1 rfl _ rfl v rfl ?_)
            | (refine wl_pushZ rfl _ _ rfl (ge + 1) ks v rfl rfl (Blk.new _ _ _) (hown8.alloc _) hml.out (by omega) (by rw [World.size_alloc]; omega) ?_; intro A7 c7 w7 ho7 hg7)
            | (refine wl_store_cell rfl _ _ _ rfl ge 6 rfl _ _ ({ x with A := A7, m := x.m + 1, c := c7 } : EvV).C ((blk_then hbe8 (below_alloc (Below.refl _ _) _)).grown hg7 hne8) (by show 6 < 7; decide) isz_ints rfl rfl rfl ?_; intro w9 h9 hg9))
          have hb7 := (blk_then hb8 (below_alloc (Below.refl _ _) (.cells (encZ v) 3))).grown hg7 (fun e => by have h3 := (hown8.lt r0 e.symm).1; omega)
          have hk7 := (blk_then hk8 (below_alloc (Below.refl _ _) (.cells (encZ v) 3))).grown hg7 (fun e => by have h3 := (hown8.lt gk e.symm).1; omega)
          have HW7 : Below gk w w7 := (HW.alloc (by have := hM8.lt; omega) (.cells (encZ v) 3)).grown hg7 (by rw [World.size_alloc]; have := hM8.lt; omega) (fun k e => by have h3 := (hown8.lt k e).1; have := hM8.lt; omega)
          have hsz7 : w8.heap.size ≤ w7.heap.size := Nat.le_trans (by rw [World.size_alloc]; omega) hg7.size
          have hM9 : EvM w9 ge (ge + 1) ({ x with A := A7, m := x.m + 1, c := c7 } : EvV) (ks ++ [v]) := by
            refine ⟨h9, ?_, by rw [List.length_append]; show x.m + 1 = _; rw [hml.out]; rfl, hM8.lt, Nat.le_trans hbs8 (Nat.le_trans hsz7 hg9.size)⟩
            exact ho7.kept_ hg9 (fun j h1 h2 => by
              have h3 := (ho7.lt j h1).1
              injection h2 with h2
              omega)
          have hw79 : Below gk w w9 := HW7.grown hg9 (by have := hM8.lt; omega) (by rintro k ⟨⟩; omega)
          exact ⟨⟨i + 1, _, ks ++ [v], by omega, rfl, hM9, blk_grown hb7 hg9 (by omega), blk_grown hk7 hg9 (by omega), hw79, hsome, hx1, hx2, hx3, by rw [List.length_append]; simp; omega, hio9⟩, by simp only [intOf]; omega⟩
        · have hmt : many = false := by rw [hmny.out]; exact decide_eq_false c2
          have f2 : ¬ wh < 0 := c2
          have hsome : Hid (readE k (ps.map tl) = readG ((letsOf k n).drop (i + 1)) ((ps.map tl).drop (i + 1)) (({ x with n := v } : EvV).ev ks)) := Lib.hid (by
            rw [hrd2, hmt]
            show (takeC' 105 (tl p) (x.ev ks)).bind _ = _
            unfold takeC'
            rw [if_neg (by decide), if_neg (by decide), if_neg (by decide), if_neg (by decide), if_neg (by decide), hw]
            rfl)
          have hio9 : Hid (intsOk (({ x with n := v } : EvV).ev ks)) := Lib.hid ⟨hvi, hio.out.2⟩
          clear hrd2 hlr hw c1 hmt hvi
          go_upto_region 13 with (go_at_call 31; refine (kI _).mono ?_; clear kI; rintro e w8 ⟨rfl, hB8⟩; have cE3 := cD3 _ hB8; clear cD3)
          have hM8 := hM.then_ hB8
          have hb8 := blk_then hb0 hB8
          have hk8 := blk_then hk0 hB8
          have HW : Below gk w w8 := hB.trans (hB8.mono (Nat.le_of_lt hgr))
          have hbe8 := hM8.blk
          clear hM hb0 hk0 hB cW cD1 cD2 cE3
          go_wp2_with (refine wl_store_cell rfl _ _ _ rfl ge 4 rfl _ _ ({ x with n := v } : EvV).C hbe8 (by show 4 < 7; decide) isz_int rfl rfl rfl ?_; intro w9 h9 hg9)
          have hw79 : Below gk w w9 := HW.grown hg9 (by have := hM8.bs; have := hM8.lt; omega) (by rintro k ⟨⟩; omega)
          have hM9 : EvM w9 ge (ge + 1) ({ x with n := v }) ks := ⟨h9, hM8.own.kept_ hg9 (fun j h1 h2 => by have h3 := (hM8.own.lt j h1).1; have h4 := Option.some.inj h2; omega), hM8.len, hM8.lt, Nat.le_trans hM8.bs hg9.size⟩
          have hb9 := blk_grown hb8 hg9 (by omega)
          have hk9 := blk_grown hk8 hg9 (by omega)
          exact ⟨⟨i + 1, { x with n := v }, ks, by omega, rfl, hM9, hb9, hk9, hw79, hsome, hx1, hx2, hx3, by omega, hio9⟩, by simp only [intOf]; omega⟩
    · have f1 : ¬ (wd : Int) ≤ i := by omega
      have kU := fun W => runquote_any p (by omega) W
      obtain ⟨U, hU⟩ : ∃ U : ByteArray, ⟨(unqZ (tl p)).toArray⟩ = U := ⟨_, rfl⟩
      have hUl : U.size ≤ lim := by rw [← hU]; exact unq_lim hpsz
      have hUt : tl U = (unq (tl p)).getD [] := by rw [← hU]; rfl
      obtain ⟨E, hE⟩ : ∃ E, unqE (tl p) = E := ⟨_, rfl⟩
      unfold strV at kU
      rw [hU, hE] at kU
      have hio9 := hio
      have cE1 : ∀ W, Below wr.heap.size wr W → W.cell? ⟨gk, 1, none⟩ = some (.int .i64 (k : Nat)) := fun W hW => (blk_then hk0 hW).cellv rfl
      by_cases c2 : i = 0
      · have f2 : ((i : Int) == 0) = true := beq_iff_eq.2 (by omega)
        have hsome : Hid (readE k (ps.map tl) = readG ((letsOf k n).drop (i + 1)) ((ps.map tl).drop (i + 1)) (({ x with name := U } : EvV).ev ks)) := Lib.hid (by
          rw [hrd2, show letR k wd many i = 110 by unfold letR; rw [if_neg c1, if_pos c2]]
          unfold takeC'
          rw [if_pos rfl, ← hUt]
          rfl)
        clear hrd2 c1 c2 hU hUt hE cD1
        go_upto_region 17 with (go_at_call 32; refine (kU _).mono ?_; clear kU; rintro e w8 ⟨rfl, hB8⟩)
        have hM8 := hM.then_ hB8
        have hb8 := blk_then hb0 hB8
        have hk8 := blk_then hk0 hB8
        have HW : Below gk w w8 := hB.trans (hB8.mono (Nat.le_of_lt hgr))
        have hbe8 := hM8.blk
        clear hM hb0 hk0 hB cW cD2 cE1
        go_wp2_with (refine wl_store_cell rfl _ _ _ rfl ge 1 rfl _ _ ({ x with name := U } : EvV).C hbe8 (by show 1 < 7; decide) isz_str rfl rfl rfl ?_; intro w9 h9 hg9)
        have hw79 : Below gk w w9 := HW.grown hg9 (by have := hM8.bs; have := hM8.lt; omega) (by rintro k ⟨⟩; omega)
        have hM9 : EvM w9 ge (ge + 1) ({ x with name := U }) ks := ⟨h9, hM8.own.kept_ hg9 (fun j h1 h2 => by have h3 := (hM8.own.lt j h1).1; have h4 := Option.some.inj h2; omega), hM8.len, hM8.lt, Nat.le_trans hM8.bs hg9.size⟩
        have hb9 := blk_grown hb8 hg9 (by omega)
        have hk9 := blk_grown hk8 hg9 (by omega)
        exact ⟨⟨i + 1, { x with name := U }, ks, by omega, rfl, hM9, hb9, hk9, hw79, hsome, hUl, hx2, hx3, by omega, hio9⟩, by simp only [intOf]; omega⟩
      · have f2 : ((i : Int) == 0) = false := beq_eq_false_iff_ne.2 (by omega)
        by_cases c3 : k = 2
        · have f3 : ((k : Int) == 2) = true := beq_iff_eq.2 (by omega)
          have hsome : Hid (readE k (ps.map tl) = readG ((letsOf k n).drop (i + 1)) ((ps.map tl).drop (i + 1)) (({ x with data := U } : EvV).ev ks)) := Lib.hid (by
            rw [hrd2, show letR k wd many i = 100 by unfold letR; rw [if_neg c1, if_neg c2, if_pos c3]]
            unfold takeC'
            rw [if_neg (by decide), if_neg (by decide), if_pos rfl, ← hUt]
            rfl)
          have c3H := Lib.hid c3
          clear hrd2 c1 c2 c3 hU hUt hE cD1
          go_upto_region 19 with (go_at_call 32; refine (kU _).mono ?_; clear kU; rintro e w8 ⟨rfl, hB8⟩; have cF1 := cE1 _ hB8)
          have hM8 := hM.then_ hB8
          have hb8 := blk_then hb0 hB8
          have hk8 := blk_then hk0 hB8
          have HW : Below gk w w8 := hB.trans (hB8.mono (Nat.le_of_lt hgr))
          have hbe8 := hM8.blk
          clear hM hb0 hk0 hB cW cD2 cE1
          go_wp2_with (refine wl_store_cell rfl _ _ _ rfl ge 3 rfl _ _ ({ x with data := U } : EvV).C hbe8 (by show 3 < 7; decide) isz_str rfl rfl rfl ?_; intro w9 h9 hg9)
          have hw79 : Below gk w w9 := HW.grown hg9 (by have := hM8.bs; have := hM8.lt; omega) (by rintro k ⟨⟩; omega)
          have hM9 : EvM w9 ge (ge + 1) ({ x with data := U }) ks := ⟨h9, hM8.own.kept_ hg9 (fun j h1 h2 => by have h3 := (hM8.own.lt j h1).1; have h4 := Option.some.inj h2; omega), hM8.len, hM8.lt, Nat.le_trans hM8.bs hg9.size⟩
          have hb9 := blk_grown hb8 hg9 (by omega)
          have hk9 := blk_grown hk8 hg9 (by omega)
          exact ⟨⟨i + 1, { x with data := U }, ks, by omega, rfl, hM9, hb9, hk9, hw79, hsome, hx1, hx2, hUl, by omega, hio9⟩, by simp only [intOf]; omega⟩
        · have f3 : ((k : Int) == 2) = false := beq_eq_false_iff_ne.2 (by omega)
          have hsome : Hid (readE k (ps.map tl) = readG ((letsOf k n).drop (i + 1)) ((ps.map tl).drop (i + 1)) (({ x with other := U } : EvV).ev ks)) := Lib.hid (by
            rw [hrd2, show letR k wd many i = 111 by unfold letR; rw [if_neg c1, if_neg c2, if_neg c3]]
            unfold takeC'
            rw [if_neg (by decide), if_pos rfl, ← hUt]
            rfl)
          clear hrd2 c1 c2 c3 hU hUt hE cD1
          go_upto_region 15 with (go_at_call 32; refine (kU _).mono ?_; clear kU; rintro e w8 ⟨rfl, hB8⟩; have cF1 := cE1 _ hB8)
          have hM8 := hM.then_ hB8
          have hb8 := blk_then hb0 hB8
          have hk8 := blk_then hk0 hB8
          have HW : Below gk w w8 := hB.trans (hB8.mono (Nat.le_of_lt hgr))
          have hbe8 := hM8.blk
          clear hM hb0 hk0 hB cW cD2 cE1
          go_wp2_with (refine wl_store_cell rfl _ _ _ rfl ge 2 rfl _ _ ({ x with other := U } : EvV).C hbe8 (by show 2 < 7; decide) isz_str rfl rfl rfl ?_; intro w9 h9 hg9)
          have hw79 : Below gk w w9 := HW.grown hg9 (by have := hM8.bs; have := hM8.lt; omega) (by rintro k ⟨⟩; omega)
          have hM9 : EvM w9 ge (ge + 1) ({ x with other := U }) ks := ⟨h9, hM8.own.kept_ hg9 (fun j h1 h2 => by have h3 := (hM8.own.lt j h1).1; have h4 := Option.some.inj h2; omega), hM8.len, hM8.lt, Nat.le_trans hM8.bs hg9.size⟩
          have hb9 := blk_grown hb8 hg9 (by omega)
          have hk9 := blk_grown hk8 hg9 (by omega)
          exact ⟨⟨i + 1, { x with other := U }, ks, by omega, rfl, hM9, hb9, hk9, hw79, hsome, hx1, hUl, hx3, by omega, hio9⟩, by simp only [intOf]; omega⟩
end Go.Proofs.YtjplgcmfifoefaaGreatDoor
namespace Go.Proofs.YtjplgcmfifoefaaGreatDoor
open Go.RowKit Go.Shelf Go.Maps
set_option linter.unusedVariables false
set_option linter.unusedSimpArgs false
attribute [local go_sem] Oper.semAt_some

/-- which kind a first part names -/
theorem kd_find (w : Bs) (ws : List Bs) : (List.range 13).findSome? (tryK w ws) = if w = firsts.getD 9 [] then readE 9 ws else (kindsL.find? (fun x => x.word == w)).bind (fun x => readE x.k ws) := by
  by_cases h : ∃ k, 1 ≤ k ∧ k ≤ 12 ∧ firsts.getD k [] = w
  · obtain ⟨k, h1, h2, rfl⟩ := h
    rw [find_k k h1 h2 ws]
    have : ∀ k, 1 ≤ k → k ≤ 12 → ∀ {α : Type} (f : Nat → Option α), f k = if firsts.getD k [] = firsts.getD 9 [] then f 9 else (kindsL.find? (fun x => x.word == firsts.getD k [])).bind (fun x => f x.k) := by
      intro k h1 h2 α f
      rcases (by omega : k = 1 ∨ k = 2 ∨ k = 3 ∨ k = 4 ∨ k = 5 ∨ k = 6 ∨ k = 7 ∨ k = 8 ∨ k = 9 ∨ k = 10 ∨ k = 11 ∨ k = 12) with rfl | rfl | rfl | rfl | rfl | rfl | rfl | rfl | rfl | rfl | rfl | rfl <;> rfl
    exact this k h1 h2 (fun k => readE k ws)
  · have hno : ∀ k, 1 ≤ k → k ≤ 12 → firsts.getD k [] ≠ w := fun k h1 h2 e => h ⟨k, h1, h2, e⟩
    rw [if_neg (fun e => hno 9 (by decide) (by decide) e.symm)]
    have h1 : (List.range 13).findSome? (tryK w ws) = none := by
      rw [List.findSome?_eq_none_iff]
      intro k hk
      unfold tryK
      rw [if_pos]
      rcases Nat.eq_zero_or_pos k with h0 | h0
      · exact .inl h0
      · exact .inr (hno k h0 (by have := List.mem_range.1 hk; omega))
    have h2 : kindsL.find? (fun x => x.word == w) = none := by
      rw [List.find?_eq_none]
      intro x hx
      have h3 := kd_first x hx
      have h4 := kd_ok x hx
      rw [h3.1]
      simpa using hno x.k h4.k1 h4.k2
    rw [h1, h2]
    rfl
end Go.Proofs.YtjplgcmfifoefaaGreatDoor
namespace Go.Proofs.YtjplgcmfifoefaaGreatDoor
open Go.RowKit Go.Shelf Go.Maps
set_option linter.unusedVariables false
set_option linter.unusedSimpArgs false
attribute [local go_sem] Oper.semAt_some

theorem run_build_ev3 (y : Bool) (v : Int) (w : World) : (Instr.build 25 #[(0, .int .i64 9), (5, .bool y), (4, .int .i64 v)]).run Tryz.prog w = .ok (.agg ({ evK 9 with yes := y, n := v } : EvV).C) w := by kernel_rfl
theorem wl_build_ev3 {ops : Array Oper} {rest : List Oper} {o : Oper} {a : Act} {w : World} {Q : Exit → Act → World → Prop} (hgd : o.guard = none) (z s t : Operand) (ho : o.op = .build 25 #[(0, z), (5, s), (4, t)]) (y : Bool) (v : Int) (hz : a.eval z = .int .i64 9) (hs : a.eval s = .bool y) (ht : a.eval t = .int .i64 v)
    (h : wpList Tryz.prog ops Q rest (a.put o.dst (.agg ({ evK 9 with yes := y, n := v } : EvV).C)) w) : wpList Tryz.prog ops Q (o :: rest) a w :=
  wpList_plain hgd fun _ hK => by
    unfold Oper.wp execOp
    simp only [ho, List.map_toArray, List.map_cons, List.map_nil, hz, hs, ht, Sem.run_bind, run_build_ev3, Result.andThen_ok, Sem.run_pure]
    exact hK _ _ h
theorem lets9 (m : Nat) : letsOf 9 m = [121, 105] := by unfold letsOf; rw [if_neg (by decide)]; rfl
theorem yes_eq (p : ByteArray) : (p.toList == [121, 101, 115]) = decide (tl p = yesW) := by
  rw [Lib.toList_data]
  exact Bool.eq_iff_iff.2 (by rw [beq_iff_eq, decide_eq_true_iff]; rfl)
theorem no_eq (p : ByteArray) : (p.toList == [110, 111]) = decide (tl p = noW) := by
  rw [Lib.toList_data]
  exact Bool.eq_iff_iff.2 (by rw [beq_iff_eq, decide_eq_true_iff]; rfl)
theorem read9 (a b : Bs) : readE 9 [a, b] = if a = yesW then (intW b).map (fun v => { ev0 9 with yes := true, n := v }) else if a = noW then (intW b).map (fun v => { ev0 9 with yes := false, n := v }) else none := by
  unfold readE
  rw [lets9]
  show (takeC' 121 a (ev0 9)).bind (readG [105] [b]) = _
  unfold takeC'
  rw [if_neg (by decide), if_neg (by decide), if_neg (by decide), if_pos rfl]
  by_cases h : a = yesW
  · rw [if_pos h, if_pos h]
    show (takeC' 105 b _).bind (readG [] []) = _
    unfold takeC'
    rw [if_neg (by decide), if_neg (by decide), if_neg (by decide), if_neg (by decide), if_neg (by decide)]
    cases intW b <;> rfl
  · rw [if_neg h, if_neg h]
    by_cases h2 : a = noW
    · rw [if_pos h2, if_pos h2]
      show (takeC' 105 b _).bind (readG [] []) = _
      unfold takeC'
      rw [if_neg (by decide), if_neg (by decide), if_neg (by decide), if_neg (by decide), if_neg (by decide)]
      cases intW b <;> rfl
    · rw [if_neg h2, if_neg h2]
      rfl
set_option maxRecDepth 100000 in
set_option maxHeartbeats 16000000 in
theorem ranswer_any (A : Option Addr) (n c : Nat) (P : ByteArray) (pt : List ByteArray) (hn : n = pt.length + 1) (hn2 : n ≤ 1073741825) (lim : Nat) (hlim : ∀ p ∈ pt, p.size ≤ lim) (hl2 : lim ≤ 1099511627776) (w : World) (hs : SliceOf w w.heap.size 1 encQ A (P :: pt)) :
    Calls Tryz.prog 16 #[.slice A n c] w fun e w' => EtE 9 pt lim w.heap.size e w' ∧ Below w.heap.size w w' := by
  replace hn := Lib.hid hn
  replace hlim := Lib.hid hlim
  go_enter Tryz.func16, Tryz.ntmps16
  go_upto_region 1 with (fail)
  obtain ⟨w1, hw1⟩ : ∃ y, y = w.alloc (.cells #[.int .i64 0, .string ⟨#[]⟩, .string ⟨#[]⟩, .string ⟨#[]⟩, .int .i64 0, .bool false, .slice none 0 0] 25) := ⟨_, rfl⟩
  have hb : Blk w1 w.heap.size 25 (evK 0).C := by rw [hw1]; exact Blk.new w _ _
  have hB : Below w.heap.size w w1 := by rw [hw1]; exact below_alloc (Below.refl w.heap.size w) _
  rw [← hw1]
  clear hw1
  obtain ⟨r0, hr0⟩ : ∃ y, y = w.heap.size := ⟨_, rfl⟩
  have hsr : SliceOf w r0 1 encQ A (P :: pt) := by rw [hr0]; exact hs
  rw [← hr0] at hb hB ⊢
  replace hr0 := Lib.hid hr0
  clear hs
  by_cases h3 : n = 3
  case neg =>
    have f1 : ((n : Int) != 3) = true := bne_iff_ne.2 (by omega)
    have hnone : Hid (readE 9 (pt.map tl) = none) := Lib.hid (by
      unfold readE
      rw [lets9]
      exact readG_len _ _ _ (by rw [List.length_map]; show 2 ≠ _; have := hn.out; omega))
    clear h3
    go_wp2_with (first
      | (refine wl_build_ev0 rfl rfl ?_)
      | (refine wl_store_ev rfl _ _ rfl r0 (evK 0) (evK 0) rfl rfl hb ?_; intro w5 h5 hg5))
    refine ret_cell2 rfl _ rfl h5 Tryz.underlying25 rfl (info_ev.trans rfl) rfl ?_
    refine ⟨EtE.of 260 (evK 0) [] rfl (etr_no 9 pt lim _ _ hnone.out), ?_⟩
    rw [← hr0.out]
    exact hB.grown hg5 (Nat.le_of_lt hb.lt) (by rintro k ⟨⟩; exact Nat.le_refl _)
  have hps : ∃ p1 p2, pt = [p1, p2] := by
    have h : pt.length = 2 := by have := hn.out; omega
    match pt, h with
    | [p1, p2], _ => exact ⟨p1, p2, rfl⟩
  obtain ⟨p1, p2, hpe⟩ := hps
  have f1 : ((n : Int) != 3) = false := by rw [h3]; rfl
  obtain ⟨b, off, hA, hbb, hrow⟩ := hsr.at_ (by simp)
  have c1 : w1.cell? ⟨b, off + 1, none⟩ = some (.string p1) := by
    have h := hrow 1 (by rw [hpe]; simp) 0 (.string p1) (by simp only [hpe]; rfl)
    exact (hB.cell (p := ⟨b, off + 1, none⟩) hbb).trans h
  have c2 : ∀ W, Below w1.heap.size w1 W → W.cell? ⟨b, off + 2, none⟩ = some (.string p2) := fun W hW => by
    have h := hrow 2 (by rw [hpe]; simp) 0 (.string p2) (by simp only [hpe]; rfl)
    exact (hW.cell (p := ⟨b, off + 2, none⟩) (Nat.lt_trans hbb hb.lt)).trans ((hB.cell (p := ⟨b, off + 2, none⟩) hbb).trans h)
  have c1' : ∀ W, Below w1.heap.size w1 W → W.cell? ⟨b, off + 1, none⟩ = some (.string p1) := fun W hW => (hW.cell (p := ⟨b, off + 1, none⟩) (Nat.lt_trans hbb hb.lt)).trans c1
  have c20 := c2 w1 (Below.refl _ _)
  have hp2 : p2.size ≤ lim := hlim.out p2 (by rw [hpe]; simp)
  have hrd := read9 (tl p1) (tl p2)
  rw [show [tl p1, tl p2] = pt.map tl by rw [hpe]; rfl] at hrd
  rw [h3, hA]
  have kI := fun W => rint_any p2 (by omega) W
  clear hrow hA hpe
  replace c1' := Lib.hid c1'
  replace c2 := Lib.hid c2
  clear h3
  obtain ⟨y, hy⟩ : ∃ y, decide (tl p1 = yesW) = y := ⟨_, rfl⟩
  obtain ⟨o, ho⟩ : ∃ o, decide (tl p1 = noW) = o := ⟨_, rfl⟩
  have hy1 : (p1.toList == [121, 101, 115]) = y := (yes_eq p1).trans hy
  have ho1 : (p1.toList == [110, 111]) = o := (no_eq p1).trans ho
  have bad : y = false → o = false → readE 9 (pt.map tl) = none := fun e1 e2 => by
    rw [hrd, if_neg (of_decide_eq_false (hy.trans e1)), if_neg (of_decide_eq_false (ho.trans e2))]
  have bad2 : intW (tl p2) = none → readE 9 (pt.map tl) = none := fun e => by
    rw [hrd, e]
    simp
  have good : ∀ v, intW (tl p2) = some v → (y = true ∨ o = true) → readE 9 (pt.map tl) = some { ev0 9 with yes := y, n := v } := fun v e h => by
    rw [hrd, e]
    rcases h with h | h
    · rw [if_pos (of_decide_eq_true (hy.trans h)), h]
      rfl
    · have hno : ¬ tl p1 = yesW := by
        rw [of_decide_eq_true (ho.trans h)]
        decide
      have hy0 : y = false := by rw [← hy]; exact decide_eq_false hno
      rw [if_neg hno, if_pos (of_decide_eq_true (ho.trans h)), hy0]
      rfl
  replace bad := Lib.hid bad
  replace bad2 := Lib.hid bad2
  replace good := Lib.hid good
  clear hrd hy ho
  have main : (y = false ∧ o = false) ∨ (y = true) ∨ (y = false ∧ o = true) := by
    cases y <;> cases o <;> simp
  rcases main with ⟨rfl, rfl⟩ | rfl | ⟨rfl, rfl⟩
  · have hnone : Hid (readE 9 (pt.map tl) = none) := Lib.hid (bad.out rfl rfl)
    clear bad bad2 good kI
    go_wp2_with (first
      | (refine wl_build_ev0 rfl rfl ?_)
      | (refine wl_store_ev rfl _ _ rfl r0 (evK 0) (evK 0) rfl rfl hb ?_; intro w5 h5 hg5))
    refine ret_cell2 rfl _ rfl h5 Tryz.underlying25 rfl (info_ev.trans rfl) rfl ?_
    refine ⟨EtE.of 260 (evK 0) [] rfl (etr_no 9 pt lim _ _ hnone.out), ?_⟩
    rw [← hr0.out]
    exact hB.grown hg5 (Nat.le_of_lt hb.lt) (by rintro k ⟨⟩; exact Nat.le_refl _)
  · cases hw : intW (tl p2) with
    | none =>
      have hnone : Hid (readE 9 (pt.map tl) = none) := Lib.hid (bad2.out hw)
      rw [hw] at kI
      unfold intT at kI
      clear bad bad2 good hw
      go_wp2_with (first
        | (go_at_call 31; refine (kI _).mono ?_; clear kI; rintro e w4 ⟨rfl, hB4⟩)
        | (refine wl_build_ev0 rfl rfl ?_)
        | (refine wl_store_ev rfl _ _ rfl r0 (evK 0) (evK 0) rfl rfl (blk_then hb hB4) ?_; intro w5 h5 hg5))
      refine ret_cell2 rfl _ rfl h5 Tryz.underlying25 rfl (info_ev.trans rfl) rfl ?_
      refine ⟨EtE.of 260 (evK 0) [] rfl (etr_no 9 pt lim _ _ hnone.out), ?_⟩
      rw [← hr0.out]
      exact (hB.trans (hB4.mono (Nat.le_of_lt hb.lt))).grown hg5 (Nat.le_of_lt (blk_then hb hB4).lt) (by rintro k ⟨⟩; exact Nat.le_refl _)
    | some v =>
      have hvi : i64z v := by rw [← intZ_some hw]; exact intZ_ok _
      have hsome : Hid (readE 9 (pt.map tl) = some { ev0 9 with yes := true, n := v }) := Lib.hid (good.out v hw (by simp))
      rw [hw] at kI
      unfold intT at kI
      clear bad bad2 good hw
      go_upto_region 6 with (go_at_call 31; refine (kI _).mono ?_; clear kI; rintro e w4 ⟨rfl, hB4⟩)
      have c14 := c1'.out w4 hB4
      have hb4 := blk_then hb hB4
      clear c1 c20
      go_wp2_with (first
        | (refine wl_build_ev3 rfl _ _ _ rfl true v rfl rfl rfl ?_)
        | (refine wl_store_ev rfl _ _ rfl r0 ({ evK 9 with yes := true, n := v } : EvV) (evK 0) rfl rfl hb4 ?_; intro w5 h5 hg5))
      refine ret_cell2 rfl _ rfl h5 Tryz.underlying25 rfl (info_ev.trans rfl) rfl ?_
      refine ⟨EtE.of 0 ({ evK 9 with yes := true, n := v } : EvV) [] rfl ?_, ?_⟩
      · refine ⟨fun e' h => ⟨rfl, by rw [hsome.out] at h; exact Option.some.inj h⟩, fun h => (by rw [hsome.out] at h; cases h), Own.nil_ _ _ _ _ _, rfl, by show (0 : Nat) ≤ _; omega, by show (0 : Nat) ≤ _; omega, by show (0 : Nat) ≤ _; omega, by simp, ⟨hvi, fun z hz => by cases hz⟩⟩
      · rw [← hr0.out]
        exact (hB.trans (hB4.mono (Nat.le_of_lt hb.lt))).grown hg5 (Nat.le_of_lt hb4.lt) (by rintro k ⟨⟩; exact Nat.le_refl _)
  · cases hw : intW (tl p2) with
    | none =>
      have hnone : Hid (readE 9 (pt.map tl) = none) := Lib.hid (bad2.out hw)
      rw [hw] at kI
      unfold intT at kI
      clear bad bad2 good hw
      go_wp2_with (first
        | (go_at_call 31; refine (kI _).mono ?_; clear kI; rintro e w4 ⟨rfl, hB4⟩)
        | (refine wl_build_ev0 rfl rfl ?_)
        | (refine wl_store_ev rfl _ _ rfl r0 (evK 0) (evK 0) rfl rfl (blk_then hb hB4) ?_; intro w5 h5 hg5))
      refine ret_cell2 rfl _ rfl h5 Tryz.underlying25 rfl (info_ev.trans rfl) rfl ?_
      refine ⟨EtE.of 260 (evK 0) [] rfl (etr_no 9 pt lim _ _ hnone.out), ?_⟩
      rw [← hr0.out]
      exact (hB.trans (hB4.mono (Nat.le_of_lt hb.lt))).grown hg5 (Nat.le_of_lt (blk_then hb hB4).lt) (by rintro k ⟨⟩; exact Nat.le_refl _)
    | some v =>
      have hvi : i64z v := by rw [← intZ_some hw]; exact intZ_ok _
      have hsome : Hid (readE 9 (pt.map tl) = some { ev0 9 with yes := false, n := v }) := Lib.hid (good.out v hw (by simp))
      rw [hw] at kI
      unfold intT at kI
      clear bad bad2 good hw
      go_upto_region 6 with (go_at_call 31; refine (kI _).mono ?_; clear kI; rintro e w4 ⟨rfl, hB4⟩)
      have c14 := c1'.out w4 hB4
      have hb4 := blk_then hb hB4
      clear c1 c20
      go_wp2_with (first
        | (refine wl_build_ev3 rfl _ _ _ rfl false v rfl rfl rfl ?_)
        | (refine wl_store_ev rfl _ _ rfl r0 ({ evK 9 with yes := false, n := v } : EvV) (evK 0) rfl rfl hb4 ?_; intro w5 h5 hg5))
      refine ret_cell2 rfl _ rfl h5 Tryz.underlying25 rfl (info_ev.trans rfl) rfl ?_
      refine ⟨EtE.of 0 ({ evK 9 with yes := false, n := v } : EvV) [] rfl ?_, ?_⟩
      · refine ⟨fun e' h => ⟨rfl, by rw [hsome.out] at h; exact Option.some.inj h⟩, fun h => (by rw [hsome.out] at h; cases h), Own.nil_ _ _ _ _ _, rfl, by show (0 : Nat) ≤ _; omega, by show (0 : Nat) ≤ _; omega, by show (0 : Nat) ≤ _; omega, by simp, ⟨hvi, fun z hz => by cases hz⟩⟩
      · rw [← hr0.out]
        exact (hB.trans (hB4.mono (Nat.le_of_lt hb.lt))).grown hg5 (Nat.le_of_lt hb4.lt) (by rintro k ⟨⟩; exact Nat.le_refl _)
end Go.Proofs.YtjplgcmfifoefaaGreatDoor
namespace Go.Proofs.YtjplgcmfifoefaaGreatDoor
open Go.RowKit
set_option linter.unusedVariables false
set_option linter.unusedSimpArgs false
set_option linter.unnecessarySimpa false
/-- the operations of D wait for i0, one through another -/
def waitsB (ops : Array Oper) (i0 : Nat) (D : List Nat) : Bool := D.all fun j => j == i0 || (match ops[j]? with | some o => o.after.any fun e => Region.binds .any e && (D.contains e.on && decide (e.on < j)) | none => false)
section
variable {G : Type} {i0 : Nat}
/-- there is some g -/
def exS (S : G → Nat → GSpec) (i0 : Nat) : GSpec := ⟨fun v w => ∃ g, (S g i0).p v w, fun v w w' ⟨g, h⟩ hb => ⟨g, (S g i0).st v w w' h hb⟩⟩
/-- what an operation's step shows -/
def ghoS (S : G → Nat → GSpec) (i0 : Nat) (g : G) (k : Nat) : GSpec := cond (Nat.beq k i0) (exS S i0) (S g k)
theorem getD_set_sameE {l : Array Bool} {i : Nat} (h : i < l.size) : (l.setIfInBounds i true).getD i false = true := by simp [h]
structure GInvE (i0 : Nat) (ops : Array Oper) (n : Nat) (S : G → Nat → GSpec) (a0 : Act) (W0 : World) (listed : Array Bool) (a : Act) (w : World) : Prop where
  head : HeadInv .any ops n listed
  base : GBase ops n a0 a
  below : Below W0.heap.size W0 w
  done : ∃ g, ∀ j, j < n → listed.getD j false = true → opOk ops (S g) a w j
  deps : ∀ j o, j < n → ops[j]? = some o → listed.getD j false = true → ∀ e ∈ o.after, Region.binds .any e = true → listed.getD e.on false = true
theorem waits_listed {ops : Array Oper} {n : Nat} {D : List Nat} {listed : Array Bool} (hD : waitsB ops i0 D = true) (hn : n ≤ ops.size)
    (deps : ∀ j o, j < n → ops[j]? = some o → listed.getD j false = true → ∀ e ∈ o.after, Region.binds .any e = true → listed.getD e.on false = true) : ∀ j, j < n → D.contains j = true → listed.getD j false = true → listed.getD i0 false = true := by
  intro j
  induction j using Nat.strongRecOn with
  | _ j ih =>
  intro hj hm hl
  unfold waitsB at hD
  have h1 := List.all_eq_true.1 hD j (by simpa [List.contains_eq_mem] using hm)
  rw [Bool.or_eq_true] at h1
  rcases h1 with h1 | h1
  · rw [beq_iff_eq] at h1
    rw [← h1]; exact hl
  · cases ho : ops[j]? with
    | none => rw [ho] at h1; cases h1
    | some o =>
      rw [ho] at h1
      simp only [Array.any_eq_true, Bool.and_eq_true, decide_eq_true_eq] at h1
      obtain ⟨q, hq, h2, h3, h4⟩ := h1
      exact ih _ h4 (by omega) h3 (deps j o hj ho hl _ (Array.getElem_mem hq) h2)
theorem wpAny_growE {P : Program} {ops : Array Oper} {n : Nat} {D : List Nat} {S : G → Nat → GSpec} (hD : waitsB ops i0 D = true) (hind : ∀ g g' j, D.contains j = false → S g j = S g' j) {Q : Exit → Act → World → Prop} {a0 : Act} {W0 : World} (hB : growB ops n a0.tmps.size = true)
    (hstep : ∀ i o, i < n → ops[i]? = some o → ∀ g a w, GBase ops n a0 a → Below W0.heap.size W0 w → (∀ e ∈ o.after, Region.binds .any e = true → opOk ops (S g) a w e.on) → GStep P ops (ghoS S i0 g) Q i o a w)
    (hend : ∀ g a w, GBase ops n a0 a → Below W0.heap.size W0 w → (∀ j, j < n → opOk ops (S g) a w j) → wpList P ops Q (ops.toList.drop n) a w) :
    ∀ (m : Nat) (listed : Array Bool) (a : Act) (w : World), GInvE i0 ops n S a0 W0 listed a w → unl n listed = m → wpAny P .any ops Q (m + (ops.size - n)) listed a w := by
  simp only [growB, Bool.and_eq_true, Bool.or_eq_true, decide_eq_true_eq] at hB
  obtain ⟨⟨⟨⟨⟨hn, hdup⟩, hlt⟩, hedge⟩, htail⟩, hseq⟩ := hB
  have hedge' : ∀ i o, i < n → ops[i]? = some o → ∀ e ∈ o.after, Region.binds .any e = true → e.on < i := by
    intro i o hi ho e he hb
    have h1 := List.all_eq_true.1 hedge i (List.mem_range.2 hi)
    simp only [ho] at h1
    have h2 := (Array.all_eq_true_iff_forall_mem.1 h1) e he
    simpa [hb] using h2
  have hready : ∀ (listed : Array Bool) (a : Act) (w : World), GInvE i0 ops n S a0 W0 listed a w → 0 < unl n listed → ∀ j ∈ Region.ready .any ops listed, j < n := by
    intro listed a w inv hpos j hj
    rcases htail with he | ⟨hs, hc⟩
    · obtain ⟨_, o, ho, _⟩ := mem_ready.1 hj
      have := (Array.getElem?_eq_some_iff.1 ho).1
      omega
    · rcases Nat.lt_or_ge n ops.size with hlt' | hge
      · unfold unl at hpos
        obtain ⟨i, hi⟩ := List.exists_mem_of_length_pos hpos
        simp only [List.mem_filter, List.mem_range, Bool.not_eq_true'] at hi
        have hun : listed.getD i true = false := getD_in (by rw [inv.head.size]; omega) hi.2
        rcases Nat.lt_or_ge j n with h | h
        · exact h
        · exact absurd hj (tail_waits hs hc hlt' inv.head _ i rfl hi.1 hun j h)
      · obtain ⟨_, o, ho, _⟩ := mem_ready.1 hj
        have := (Array.getElem?_eq_some_iff.1 ho).1
        omega
  have hne : ∀ (listed : Array Bool) (a : Act) (w : World), GInvE i0 ops n S a0 W0 listed a w → 0 < unl n listed → Region.ready .any ops listed ≠ [] := by
    intro listed a w inv hpos hnil
    have hex : ∃ i, i < n ∧ listed.getD i false = false := by
      unfold unl at hpos
      obtain ⟨i, hi⟩ := List.exists_mem_of_length_pos hpos
      simp only [List.mem_filter, List.mem_range, Bool.not_eq_true'] at hi
      exact ⟨i, hi.1, hi.2⟩
    have hmin : ∃ i, i < n ∧ listed.getD i false = false ∧ ∀ k, k < i → listed.getD k false = true := by
      obtain ⟨i, hi, hf⟩ := hex
      clear hpos
      induction i using Nat.strongRecOn with
      | _ i ih =>
        by_cases h : ∃ k, k < i ∧ listed.getD k false = false
        · obtain ⟨k, hk, hkf⟩ := h
          exact ih k hk (by omega) hkf
        · refine ⟨i, hi, hf, fun k hk => ?_⟩
          cases hc : listed.getD k false with
          | true => rfl
          | false => exact absurd ⟨k, hk, hc⟩ h
    obtain ⟨i, hi, hf, hall⟩ := hmin
    have ho : ops[i]? = some ops[i] := Array.getElem?_eq_getElem (by omega)
    have hmem : i ∈ Region.ready .any ops listed := mem_ready.2 ⟨getD_in (by rw [inv.head.size]; omega) hf, _, ho, fun e he hb => hall _ (hedge' i _ hi ho e he hb)⟩
    rw [hnil] at hmem
    cases hmem
  intro m
  induction m with
  | zero =>
    intro listed a w inv hm
    have hall : ∀ j, j < n → listed.getD j false = true := by
      intro j hj
      cases hc : listed.getD j false with
      | true => rfl
      | false => have := unl_pos hj hc; omega
    have hlist : listed = headTrue n (ops.size - n) := by
      have hsz := inv.head.size
      apply Array.ext
      · simp [headTrue, hsz]; omega
      · intro j h1 h2
        have hj : j < ops.size := by rw [← hsz]; exact h1
        simp only [headTrue, List.getElem_toArray, List.getElem_append, List.length_replicate, List.getElem_replicate]
        by_cases hjn : j < n
        · have := hall j hjn
          simp [h1] at this
          simp [hjn, this]
        · have := inv.head.tail j (by omega) hj
          simp [h1] at this
          simp [hjn, this]
    obtain ⟨g, hdone⟩ := inv.done
    have hw := hend g a w inv.base inv.below (fun j hj => hdone j hj (hall j hj))
    have hdl : (ops.toList.drop n).length = ops.size - n := by simp
    have := wpAny_of_seq (md := .any) (Q' := Q) (ops.toList.drop n) n listed a w (fun j => by simp [List.getElem?_drop]) (by rw [hdl, hlist]; exact hseq) hw
    rw [hdl] at this
    rw [Nat.zero_add]
    exact this
  | succ m ih =>
    intro listed a w inv hm
    rw [show m + 1 + (ops.size - n) = (m + (ops.size - n)) + 1 by omega]
    refine ⟨fun h => absurd h (hne listed a w inv (by omega)), fun i hi => ?_⟩
    have hin := hready listed a w inv (by omega) i hi
    obtain ⟨hun, o, ho, hall⟩ := mem_ready.1 hi
    have hlisted : listed.getD i false = false := getD_both hun
    obtain ⟨g, hdone⟩ := inv.done
    have hg := hstep i o hin ho g a w inv.base inv.below (fun e he hb => hdone e.on (by have := hedge' i o hin ho e he hb; omega) (hall e he hb))
    have hsz : i < listed.size := by rw [inv.head.size]; omega
    have hnext : ∀ a' w', GK (ghoS S i0 g) i o a w a' w' → wpAny P .any ops Q (m + (ops.size - n)) (listed.setIfInBounds i true) a' w' := by
      rintro a' w' ⟨v, rfl, hb, hp⟩
      obtain ⟨g2, hp2, hsame⟩ : ∃ g2, (S g2 i).p v w' ∧ ∀ j, j < n → listed.getD j false = true → S g2 j = S g j := by
        by_cases hi0 : i = i0
        · subst hi0
          unfold ghoS at hp
          rw [show Nat.beq i i = true from Nat.beq_refl i] at hp
          obtain ⟨g2, hp⟩ := hp
          refine ⟨g2, hp, fun j hj hl => hind g2 g j ?_⟩
          cases hc : D.contains j with
          | false => rfl
          | true =>
            have := waits_listed hD hn inv.deps j hj hc hl
            rw [hlisted] at this
            cases this
        · have hb0 : Nat.beq i i0 = false := by
            cases h : Nat.beq i i0 with
            | false => rfl
            | true => exact absurd (Nat.eq_of_beq_eq_true h) hi0
          unfold ghoS at hp
          rw [hb0] at hp
          exact ⟨g, hp, fun j _ _ => rfl⟩
      refine ih _ _ _ ⟨inv.head.set hi hin, ⟨by rw [put_defers]; exact inv.base.defers, by rw [put_size]; exact inv.base.size, fun t ht => ?_⟩, inv.below.trans (hb.mono inv.below.size), ⟨g2, fun j hj hl d hd => ?_⟩, fun j oj hj hoj hl e he hbd => ?_⟩ (by have := unl_set hin hsz hlisted; omega)
      · cases hd : o.dst with
        | none => exact inv.base.other t ht
        | some d =>
          have hmem : d ∈ headDsts ops n := List.mem_filterMap.2 ⟨o, by
            rw [List.mem_iff_getElem?]
            exact ⟨i, by rw [List.getElem?_take]; simp [hin, ho]⟩, hd⟩
          have hne : d ≠ t := by
            rintro rfl
            rw [List.contains_eq_mem] at ht
            simp [hmem] at ht
          rw [put_getD_ne hne]
          exact inv.base.other t ht
      · by_cases hij : i = j
        · subst hij
          rw [ho] at hd
          simp only [Option.bind_some] at hd
          rw [hd]
          have hmem : d ∈ headDsts ops n := List.mem_filterMap.2 ⟨o, by
            rw [List.mem_iff_getElem?]
            exact ⟨i, by rw [List.getElem?_take]; simp [hin, ho]⟩, hd⟩
          have hdl : d < a.tmps.size := by
            have := List.all_eq_true.1 hlt d hmem
            rw [inv.base.size]; simpa using this
          rw [put_getD_same hdl]
          exact hp2
        · rw [getD_set_ne false hij] at hl
          have hold := hdone j hj hl d hd
          have hkeep : (a.put o.dst v).tmps.getD d undef = a.tmps.getD d undef := by
            cases hod : o.dst with
            | none => rfl
            | some e =>
              apply put_getD_ne
              rintro rfl
              cases hoj : ops[j]? with
              | none => rw [hoj] at hd; cases hd
              | some oj =>
                rw [hoj] at hd
                simp only [Option.bind_some] at hd
                exact hij (noDup_spec _ hdup i j o oj e (by rw [List.getElem?_take]; simp [hin, ho]) (by rw [List.getElem?_take]; simp [hj, hoj]) hod hd)
          rw [hkeep]
          rw [hsame j hj hl]
          exact (S g j).st _ _ _ hold hb
      · by_cases hij : i = j
        · subst hij
          rw [ho] at hoj
          injection hoj with hoj
          subst hoj
          have h5 := hall e he hbd
          by_cases h6 : i = e.on
          · rw [← h6]; exact getD_set_sameE hsz
          · rw [getD_set_ne false h6]; exact h5
        · rw [getD_set_ne false hij] at hl
          have h5 := inv.deps j oj hj hoj hl e he hbd
          by_cases h6 : i = e.on
          · rw [← h6]; exact getD_set_sameE hsz
          · rw [getD_set_ne false h6]; exact h5
    unfold wpOp
    simp only [ho]
    unfold GStep at hg
    split
    · rename_i hw
      rw [if_pos hw] at hg
      exact .inl (Oper.wp_mono hnext hg)
    · rename_i hw
      rw [if_neg hw] at hg
      exact hnext _ _ ⟨undef, rfl, Below.refl _ _, hg⟩

/-- THE LAW. -/
theorem wp_region_growE {P : Program} {id : Nat} {l : List Oper} {Q : Exit → Act → World → Prop} {a : Act} {w : World} (n : Nat) (D : List Nat) (S : G → List GSpec) (g0 : G) (hm : P.follows .mixedOrders = true) (hB : growB l.toArray n a.tmps.size = true) (hD : waitsB l.toArray i0 D = true) (hind : ∀ g g' j, D.contains j = false → specAt (S g) j = specAt (S g') j)
    (hstep : ∀ i o, i < n → l[i]? = some o → ∀ g a' w', GBase l.toArray n a a' → Below w.heap.size w w' → (∀ e ∈ o.after, Region.binds .any e = true → opOk l.toArray (specAt (S g)) a' w' e.on) → GStep P l.toArray (ghoS (fun g => specAt (S g)) i0 g) Q i o a' w')
    (hend : ∀ g (u : Nat → Value) w', Below w.heap.size w w' → (∀ j d, j < n → (l[j]?).bind (·.dst) = some d → (specAt (S g) j).p (u d) w') → wpList P l.toArray Q (l.drop n) (putAll a (headDsts l.toArray n) u) w') :
    (Code.region id l.toArray true).wp P Q a w := by
  refine wp_region_any hm ?_
  have hdr : ∀ {x : World}, Below w.heap.size w x → Below w.heap.size w.drew x := fun h => ⟨h.os, h.tape, h.output, h.size, h.block⟩
  have hrd : ∀ {x : World}, Below w.heap.size w.drew x → Below w.heap.size w x := fun h => ⟨h.os, h.tape, h.output, h.size, h.block⟩
  have hn : n ≤ l.length := by
    simp only [growB, Bool.and_eq_true, decide_eq_true_eq] at hB
    simpa using hB.1.1.1.1.1
  have key := wpAny_growE (i0 := i0) (P := P) (ops := l.toArray) (n := n) (D := D) (S := fun g => specAt (S g)) hD hind (Q := Q) (a0 := a) (W0 := w.drew) hB
    (fun i o hi ho g a' w' hb hw hd => hstep i o hi (by simpa using ho) g a' w' hb (hrd hw) hd)
    (fun g a' w' hb hw hd => by
      rw [act_eq hb]
      have := hend g (fun d => a'.tmps.getD d undef) w' (hrd hw) (fun j d hj hd' => hd j hj d (by simpa using hd'))
      simpa using this)
    n (Array.replicate l.toArray.size false) a w.drew
    ⟨⟨by simp, fun j oj _ hl => (by rw [getD_replicate_false] at hl; cases hl), fun t _ ht => getD_in (by simpa using ht) (getD_replicate_false _ _)⟩, ⟨rfl, rfl, fun _ _ => rfl⟩, Below.refl _ _, ⟨g0, fun j _ hl => (by rw [getD_replicate_false] at hl; cases hl)⟩, fun j _ _ _ hl => (by rw [getD_replicate_false] at hl; cases hl)⟩
    (by
      unfold unl
      rw [List.filter_eq_self.2 (fun j _ => by rw [getD_replicate_false]; rfl), List.length_range])
  rw [show n + (l.toArray.size - n) = l.toArray.size by simp; omega] at key
  exact key

/-- the steps, one behind the other -/
def StepsE (i0 : Nat) (P : Program) (ops : Array Oper) (S : G → Nat → GSpec) (Q : Exit → Act → World → Prop) (n : Nat) (a : Act) (w : World) : List Oper → Nat → Prop
  | [], _ => True
  | o :: l, i => (∀ g a' w', GBase ops n a a' → Below w.heap.size w w' → (∀ j, (o.after.toList.any fun e => Region.binds .any e && e.on == j) = true → opOk ops (S g) a' w' j) → GStep P ops (ghoS S i0 g) Q i o a' w') ∧ StepsE i0 P ops S Q n a w l (i + 1)
theorem StepsE.nil {P : Program} {ops : Array Oper} {S : G → Nat → GSpec} {Q : Exit → Act → World → Prop} {n : Nat} {a : Act} {w : World} {i : Nat} : StepsE i0 P ops S Q n a w [] i := trivial
theorem StepsE.cons {P : Program} {ops : Array Oper} {S : G → Nat → GSpec} {Q : Exit → Act → World → Prop} {n : Nat} {a : Act} {w : World} {o : Oper} {l : List Oper} {i : Nat}
    (h : ∀ g a' w', GBase ops n a a' → Below w.heap.size w w' → (∀ j, (o.after.toList.any fun e => Region.binds .any e && e.on == j) = true → opOk ops (S g) a' w' j) → GStep P ops (ghoS S i0 g) Q i o a' w')
    (hl : StepsE i0 P ops S Q n a w l (i + 1)) : StepsE i0 P ops S Q n a w (o :: l) i := ⟨h, hl⟩
theorem StepsE.at_ {P : Program} {ops : Array Oper} {S : G → Nat → GSpec} {Q : Exit → Act → World → Prop} {n : Nat} {a : Act} {w : World} : ∀ {l : List Oper} {i : Nat}, StepsE i0 P ops S Q n a w l i → ∀ (k : Nat) (o : Oper), l[k]? = some o →
    ∀ g a' w', GBase ops n a a' → Below w.heap.size w w' → (∀ j, (o.after.toList.any fun e => Region.binds .any e && e.on == j) = true → opOk ops (S g) a' w' j) → GStep P ops (ghoS S i0 g) Q (i + k) o a' w'
  | [], _, _, k, o, hk => by simp at hk
  | o' :: l, i, h, k, o, hk => by
    rcases k with _ | k
    · simp only [List.getElem?_cons_zero, Option.some.injEq] at hk
      subst hk
      exact h.1
    · rw [List.getElem?_cons_succ] at hk
      have := StepsE.at_ h.2 k o hk
      rw [show i + (k + 1) = i + 1 + k by omega]
      exact this
/-- THE LAW, as it is used: S the answers (by g), i0 the operation that tells g, D what waits for it, ds the head's slots. -/
theorem wp_region_stepsE {P : Program} {id : Nat} {l : List Oper} {Q : Exit → Act → World → Prop} {a : Act} {w : World} (n i0 : Nat) (D : List Nat) (S : G → List GSpec) (g0 : G) (ds : List Nat) (hm : P.follows .mixedOrders = true) (hB : growB l.toArray n a.tmps.size = true) (hD : waitsB l.toArray i0 D = true) (hind : ∀ g g' j, D.contains j = false → specAt (S g) j = specAt (S g') j)
    (hds : headDsts l.toArray n = ds) (hstep : StepsE i0 P l.toArray (fun g => specAt (S g)) Q n a w (l.take n) 0)
    (hend : ∀ g (u : Nat → Value) w', Below w.heap.size w w' → (∀ j d, j < n → (l[j]?).bind (·.dst) = some d → (specAt (S g) j).p (u d) w') → wpList P l.toArray Q (l.drop n) (putAll a ds u) w') :
    (Code.region id l.toArray true).wp P Q a w := by
  subst hds
  refine wp_region_growE (i0 := i0) n D S g0 hm hB hD hind (fun i o hi ho g a' w' hb hw hd => ?_) hend
  have := hstep.at_ i o (by rw [List.getElem?_take, if_pos hi]; exact ho) g a' w' hb hw (fun j hj => by
    obtain ⟨e, he, hh⟩ := List.any_eq_true.1 hj
    simp only [Bool.and_eq_true, beq_iff_eq] at hh
    rw [← hh.2]
    exact hd e (Array.mem_toList_iff.1 he) hh.1)
  rw [Nat.zero_add] at this
  exact this
end
end Go.Proofs.YtjplgcmfifoefaaGreatDoor
