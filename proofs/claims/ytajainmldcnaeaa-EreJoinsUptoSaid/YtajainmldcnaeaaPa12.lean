/- Part 12 of a proof; packed: the texts that it was made of follow one another. No condition beyond those named in each lemma. -/
import Derived.Test.YtajainmldcnaeaaPa10
import Derived.Test.YtajainmldcnaeaaPa11
import Derived.Test.YtajainmldcnaeaaPa4
import Derived.Laws.BytesString
import Derived.Laws.IdiomStrings
namespace Go.Proofs.Ytajainmldcnaeaa
set_option linter.unusedVariables false
set_option linter.unusedSimpArgs false

namespace Ere
/-- a number in decimal -/
def decB (n : Nat) : ByteArray := if n < 10 then ⟨#[(48 + n).toUInt8]⟩ else if n < 100 then ⟨#[(48 + n / 10).toUInt8, (48 + n % 10).toUInt8]⟩ else ⟨#[(48 + n / 100).toUInt8, (48 + n / 10 % 10).toUInt8, (48 + n % 10).toUInt8]⟩
def joinA (p q : ByteArray) : ByteArray := p ++ ⟨#[124]⟩ ++ q
def joinS (p q : ByteArray) : ByteArray := ⟨#[40]⟩ ++ p ++ ⟨#[41, 40]⟩ ++ q ++ ⟨#[41]⟩
def joinT (p : ByteArray) (n : Nat) : ByteArray := ⟨#[40]⟩ ++ p ++ ⟨#[41, 123]⟩ ++ decB n ++ ⟨#[44, 125]⟩
/-- what is answered of a pattern whose tree would be t -/
def answer (t : Nd) : Nd × Nat × Nat := if 2048 < placesN t then (zeroN, 0, 48) else (t, 0, 0)
structure JoinsHold (p q : ByteArray) (n : Nat) : Prop where
  alt : parseR (joinA p q) = answer (.mk 4 0 [(parseR p).1, (parseR q).1] 0 0)
  seq : parseR (joinS p q) = answer (.mk 3 0 [(parseR p).1, (parseR q).1] 0 0)
  times : parseR (joinT p n) = answer (.mk 5 0 [(parseR p).1] (n : Int) (-1))
section
variable {p q r : ByteArray}
/-- a text that holds p at a -/
theorem emb_of {a : Nat} (h1 : a + p.size ≤ r.size) (h2 : ∀ k, k < p.size → chr r (a + k) = chr p k) (h3 : a + p.size = r.size ∨ chr r (a + p.size) = 41 ∨ chr r (a + p.size) = 124) : Emb p r a := by
  refine ⟨h1, h2, fun c hc => ?_⟩
  rcases h3 with h | h | h
  · exact isAt_out (by omega)
  · exact isAt_ne (by omega)
  · exact isAt_ne (by omega)
theorem alt_hold {t u : Nd} (gp : Good4 p t) (gq : Good4 q u) (hl : p.size + q.size ≤ 1010) (bp : (barsP p).1 ≤ 0) (bq : (barsP q).1 ≤ 0) : parseR (joinA p q) = answer (.mk 4 0 [t, u] 0 0) := by
  obtain ⟨r, hr⟩ : ∃ r, joinA p q = r := ⟨_, rfl⟩
  have hs : r.size = p.size + 1 + q.size := by
    rw [← hr]; unfold joinA
    rw [ByteArray.size_append, ByteArray.size_append]
    rfl
  have hc : ∀ k, chr r k = if k < p.size then chr p k else if k = p.size then 124 else chr q (k - (p.size + 1)) := fun k => by
    rw [← hr]; unfold joinA
    rw [chr_app, chr_app, ByteArray.size_append]
    have s1 : (⟨#[124]⟩ : ByteArray).size = 1 := rfl
    rw [s1]
    by_cases h1 : k < p.size
    · rw [if_pos (by omega), if_pos h1, if_pos h1]
    rw [if_neg h1, if_neg h1]
    by_cases h2 : k = p.size
    · subst h2
      rw [if_pos (by omega), if_pos rfl, show p.size - p.size = 0 by omega]
      rfl
    · rw [if_neg (by omega), if_neg h2]
  rw [hr]
  obtain ⟨h1, c1, b1, -, -, -, e1⟩ := good_bars gp
  obtain ⟨h2, c2, b2, -, -, -, e2⟩ := good_bars gq
  rw [b1] at bp
  rw [b2] at bq
  simp only at bp bq
  have c124 : chr r p.size = 124 := by rw [hc, if_neg (by omega), if_pos rfl]
  have A1 : Emb p r 0 := emb_of (by omega) (fun k hk => by rw [hc, Nat.zero_add, if_pos hk]) (.inr (.inr (by rw [Nat.zero_add, c124])))
  have A2 : Emb q r (p.size + 1) := emb_of (by omega) (fun k hk => by rw [hc, if_neg (by omega), if_neg (by omega), show p.size + 1 + k - (p.size + 1) = k by omega]) (.inl (by omega))
  have g1 := e1 (by omega) r 0 A1 (.inr (.inl (by rw [Nat.zero_add]; exact isAt_of (by omega) c124)))
  have g2 := e2 (by omega) r (p.size + 1) A2 (.inl (by omega))
  rw [Nat.zero_add] at g1
  have hnl : ∀ k, k < r.size → chr r k ≠ 10 := fun k hk => by
    rw [hc]
    split
    · exact gp.nl _ (by omega)
    split
    · omega
    · exact gq.nl _ (by omega)
  unfold answer
  refine parse_of (j := r.size) (by omega) hnl ?_
  rw [patR_al, show r.size + 2 = (r.size + 1) + 1 from rfl, patL_bar g1 (isAt_of (by omega) c124), patL_end' g2 (isAt_out (by omega)), show p.size + 1 + q.size = r.size by omega]
  rfl
theorem seq_hold {t u : Nd} (gp : Good4 p t) (gq : Good4 q u) (hl : p.size + q.size ≤ 1010) (dp : (barsP p).2 ≤ 63) (dq : (barsP q).2 ≤ 63) : parseR (joinS p q) = answer (.mk 3 0 [t, u] 0 0) := by
  obtain ⟨r, hr⟩ : ∃ r, joinS p q = r := ⟨_, rfl⟩
  have hs : r.size = p.size + q.size + 4 := by
    rw [← hr]; unfold joinS
    simp only [ByteArray.size_append]
    show 1 + p.size + 2 + q.size + 1 = _
    omega
  have hc : ∀ k, chr r k = if k = 0 then 40 else if k < p.size + 1 then chr p (k - 1) else if k = p.size + 1 then 41 else if k = p.size + 2 then 40 else if k < p.size + q.size + 3 then chr q (k - (p.size + 3)) else if k = p.size + q.size + 3 then 41 else 0 := fun k => by
    rw [← hr]; unfold joinS
    rw [chr_app, chr_app, chr_app, chr_app]
    simp only [ByteArray.size_append]
    have s1 : (⟨#[40]⟩ : ByteArray).size = 1 := rfl
    have s2 : (⟨#[41, 40]⟩ : ByteArray).size = 2 := rfl
    rw [s1, s2]
    by_cases h0 : k = 0
    · subst h0
      rw [if_pos (by omega), if_pos (by omega), if_pos (by omega), if_pos (by omega), if_pos rfl]
      rfl
    rw [if_neg h0]
    by_cases h1 : k < p.size + 1
    · rw [if_pos (by omega), if_pos (by omega), if_pos (by omega), if_neg (by omega), if_pos h1]
    rw [if_neg h1]
    by_cases h2 : k = p.size + 1
    · subst h2
      rw [if_pos (by omega), if_pos (by omega), if_neg (by omega), if_pos rfl, show p.size + 1 - (1 + p.size) = 0 by omega]
      rfl
    rw [if_neg h2]
    by_cases h3 : k = p.size + 2
    · subst h3
      rw [if_pos (by omega), if_pos (by omega), if_neg (by omega), if_pos rfl, show p.size + 2 - (1 + p.size) = 1 by omega]
      rfl
    rw [if_neg h3]
    by_cases h4 : k < p.size + q.size + 3
    · rw [if_pos (by omega), if_neg (by omega), if_pos h4, show k - (1 + p.size + 2) = k - (p.size + 3) by omega]
    rw [if_neg h4, if_neg (by omega)]
    by_cases h5 : k = p.size + q.size + 3
    · subst h5
      rw [if_pos rfl, show p.size + q.size + 3 - (1 + p.size + 2 + q.size) = 0 by omega]
      rfl
    rw [if_neg h5]
    unfold chr
    rw [dif_neg]
    show ¬ (k - (1 + p.size + 2 + q.size) < 1)
    omega
  rw [hr]
  obtain ⟨h1, c1, b1, -, -, e1, -⟩ := good_bars gp
  obtain ⟨h2, c2, b2, -, -, e2, -⟩ := good_bars gq
  rw [b1] at dp
  rw [b2] at dq
  simp only at dp dq
  have k0 : chr r 0 = 40 := by rw [hc, if_pos rfl]
  have k1 : chr r (1 + p.size) = 41 := by rw [hc, if_neg (by omega), if_neg (by omega), if_pos (by omega)]
  have k2 : chr r (p.size + 2) = 40 := by rw [hc, if_neg (by omega), if_neg (by omega), if_neg (by omega), if_pos (by omega)]
  have k3 : chr r (p.size + 3 + q.size) = 41 := by rw [hc, if_neg (by omega), if_neg (by omega), if_neg (by omega), if_neg (by omega), if_neg (by omega), if_pos (by omega)]
  have A1 : Emb p r 1 := emb_of (by omega) (fun k hk => by rw [hc, if_neg (by omega), if_pos (by omega), show 1 + k - 1 = k by omega]) (.inr (.inl k1))
  have A2 : Emb q r (p.size + 3) := emb_of (by omega) (fun k hk => by rw [hc, if_neg (by omega), if_neg (by omega), if_neg (by omega), if_neg (by omega), if_pos (by omega), show p.size + 3 + k - (p.size + 3) = k by omega]) (.inr (.inl k3))
  have g1 := (e1 r 1 A1 (.inr ⟨isAt_of (by omega) k1, isAt_ne (by omega), rfl⟩)).1 (by omega)
  have g2 := (e2 r (p.size + 3) A2 (.inr ⟨isAt_of (by omega) k3, isAt_ne (by omega), rfl⟩)).1 (by omega)
  have hnl : ∀ k, k < r.size → chr r k ≠ 10 := fun k hk => by
    rw [hc]
    split
    · omega
    split
    · exact gp.nl _ (by omega)
    split
    · omega
    split
    · omega
    split
    · exact gq.nl _ (by omega)
    · rw [if_pos (by omega)]; omega
  have p1 : pieceR r (inn r 64) 0 = .got t (p.size + 2) := by
    rw [piece_group (d := 63) k0 g1 (by omega), show 1 + p.size + 1 = p.size + 2 by omega]
    exact repeatR_no fun c hc => isAt_ne (by omega)
  have p2 : pieceR r (inn r 64) (p.size + 2) = .got u r.size := by
    rw [piece_group (d := 63) k2 g2 (by omega), show p.size + 3 + q.size + 1 = r.size by omega]
    exact repeatR_end (Nat.le_refl _)
  unfold answer
  refine parse_of (j := r.size) (by omega) hnl ?_
  rw [patR_al]
  refine patL_end' (n := r.size + 1) (l := []) (u := .mk 3 0 [t, u] 0 0) ?_ (isAt_out (Nat.le_refl _))
  unfold alR
  rw [show r.size + 2 = ((r.size - 1 + 1) + 1) + 1 by omega, alF_piece (by omega) (by omega) (by omega) p1, alF_piece (by omega) (by omega) (by omega) p2, alF_end (.inl (Nat.le_refl _))]
  rfl
theorem decB_size (n : Nat) (h : n < 1000) : (decB n).size = if n < 10 then 1 else if n < 100 then 2 else 3 := by
  unfold decB
  split
  · rfl
  split <;> rfl
theorem u8_nat {n : Nat} (h : n < 256) : (n.toUInt8).toNat = n := by
  simp
  omega
theorem times_hold {t : Nd} {n : Nat} (gp : Good4 p t) (hn : n < 256) (hl : p.size ≤ 1010) (dp : (barsP p).2 ≤ 63) : parseR (joinT p n) = answer (.mk 5 0 [t] (n : Int) (-1)) := by
  obtain ⟨r, hr⟩ : ∃ r, joinT p n = r := ⟨_, rfl⟩
  obtain ⟨m, hm⟩ : ∃ m, (decB n).size = m := ⟨_, rfl⟩
  have hm2 := (decB_size n (by omega)).symm.trans hm
  have hm3 : m ≤ 3 := by rw [← hm2]; split <;> (try split) <;> omega
  have hs : r.size = p.size + m + 5 := by
    rw [← hr]; unfold joinT
    simp only [ByteArray.size_append]
    show 1 + p.size + 2 + (decB n).size + 2 = _
    omega
  have hc : ∀ k, chr r k = if k = 0 then 40 else if k < p.size + 1 then chr p (k - 1) else if k = p.size + 1 then 41 else if k = p.size + 2 then 123 else if k < p.size + m + 3 then chr (decB n) (k - (p.size + 3)) else if k = p.size + m + 3 then 44 else if k = p.size + m + 4 then 125 else 0 := fun k => by
    rw [← hr]; unfold joinT
    rw [chr_app, chr_app, chr_app, chr_app]
    simp only [ByteArray.size_append]
    have s1 : (⟨#[40]⟩ : ByteArray).size = 1 := rfl
    have s2 : (⟨#[41, 123]⟩ : ByteArray).size = 2 := rfl
    rw [s1, s2, hm]
    by_cases h0 : k = 0
    · subst h0
      rw [if_pos (by omega), if_pos (by omega), if_pos (by omega), if_pos (by omega), if_pos rfl]
      rfl
    rw [if_neg h0]
    by_cases h1 : k < p.size + 1
    · rw [if_pos (by omega), if_pos (by omega), if_pos (by omega), if_neg (by omega), if_pos h1]
    rw [if_neg h1]
    by_cases h2 : k = p.size + 1
    · subst h2
      rw [if_pos (by omega), if_pos (by omega), if_neg (by omega), if_pos rfl, show p.size + 1 - (1 + p.size) = 0 by omega]
      rfl
    rw [if_neg h2]
    by_cases h3 : k = p.size + 2
    · subst h3
      rw [if_pos (by omega), if_pos (by omega), if_neg (by omega), if_pos rfl, show p.size + 2 - (1 + p.size) = 1 by omega]
      rfl
    rw [if_neg h3]
    by_cases h4 : k < p.size + m + 3
    · rw [if_pos (by omega), if_neg (by omega), if_pos h4, show k - (1 + p.size + 2) = k - (p.size + 3) by omega]
    rw [if_neg h4, if_neg (by omega)]
    by_cases h5 : k = p.size + m + 3
    · subst h5
      rw [if_pos rfl, show p.size + m + 3 - (1 + p.size + 2 + m) = 0 by omega]
      rfl
    rw [if_neg h5]
    by_cases h6 : k = p.size + m + 4
    · subst h6
      rw [if_pos rfl, show p.size + m + 4 - (1 + p.size + 2 + m) = 1 by omega]
      rfl
    rw [if_neg h6]
    unfold chr
    rw [dif_neg]
    show ¬ (k - (1 + p.size + 2 + m) < 2)
    omega
  rw [hr]
  obtain ⟨h1, c1, b1, -, -, e1, -⟩ := good_bars gp
  rw [b1] at dp
  simp only at dp
  have k0 : chr r 0 = 40 := by rw [hc, if_pos rfl]
  have k1 : chr r (1 + p.size) = 41 := by rw [hc, if_neg (by omega), if_neg (by omega), if_pos (by omega)]
  have k2 : chr r (p.size + 2) = 123 := by rw [hc, if_neg (by omega), if_neg (by omega), if_neg (by omega), if_pos (by omega)]
  have k3 : ∀ k, k < m → chr r (p.size + 3 + k) = chr (decB n) k := fun k hk => by rw [hc, if_neg (by omega), if_neg (by omega), if_neg (by omega), if_neg (by omega), if_pos (by omega), show p.size + 3 + k - (p.size + 3) = k by omega]
  have k4 : chr r (p.size + m + 3) = 44 := by rw [hc, if_neg (by omega), if_neg (by omega), if_neg (by omega), if_neg (by omega), if_neg (by omega), if_pos (by omega)]
  have k5 : chr r (p.size + m + 4) = 125 := by rw [hc, if_neg (by omega), if_neg (by omega), if_neg (by omega), if_neg (by omega), if_neg (by omega), if_neg (by omega), if_pos (by omega)]
  have A1 : Emb p r 1 := emb_of (by omega) (fun k hk => by rw [hc, if_neg (by omega), if_pos (by omega), show 1 + k - 1 = k by omega]) (.inr (.inl k1))
  have g1 := (e1 r 1 A1 (.inr ⟨isAt_of (by omega) k1, isAt_ne (by omega), rfl⟩)).1 (by omega)
  have hd : digits r 4 (p.size + 3) 0 0 = (n, p.size + m + 3, m) := by
    have stp : ∀ k i x c, i < r.size → 48 ≤ chr r i → chr r i ≤ 57 → digits r (k + 1) i x c = digits r k (i + 1) (10 * x + (chr r i - 48)) (c + 1) := fun k i x c a1 a2 a3 => by
      conv => lhs; unfold digits
      rw [decide_eq_true a1, decide_eq_true a2, decide_eq_true a3]
      rfl
    have stop : ∀ k i x c, chr r i = 44 → digits r (k + 1) i x c = (x, i, c) := fun k i x c a1 => by
      conv => lhs; unfold digits
      rw [a1, show decide (48 ≤ 44) = false by decide, Bool.and_false, Bool.false_and]
      rfl
    have d0 := k3 0
    have d1 := k3 1
    have d2 := k3 2
    by_cases q1 : n < 10
    · rw [if_pos q1] at hm2
      have e0 : chr (decB n) 0 = 48 + n := by
        unfold decB
        rw [if_pos q1]
        exact u8_nat (by omega)
      rw [e0] at d0
      have d0' := d0 (by omega)
      rw [Nat.add_zero] at d0'
      rw [stp 3 _ _ _ (by omega) (by omega) (by omega), stop 2 _ _ _ (by rw [← k4]; congr 1; omega), d0']
      congr 1
      · omega
      · congr 1 <;> omega
    rw [if_neg q1] at hm2
    by_cases q2 : n < 100
    · rw [if_pos q2] at hm2
      have e0 : chr (decB n) 0 = 48 + n / 10 := by
        unfold decB
        rw [if_neg q1, if_pos q2]
        exact u8_nat (by omega)
      have e1 : chr (decB n) 1 = 48 + n % 10 := by
        unfold decB
        rw [if_neg q1, if_pos q2]
        exact u8_nat (by omega)
      rw [e0] at d0
      rw [e1] at d1
      have d0' := d0 (by omega)
      have d1' := d1 (by omega)
      rw [Nat.add_zero] at d0'
      rw [stp 3 _ _ _ (by omega) (by omega) (by omega), stp 2 _ _ _ (by omega) (by omega) (by omega), stop 1 _ _ _ (by rw [← k4]; congr 1; omega), d0', d1']
      congr 1
      · omega
      · congr 1 <;> omega
    · rw [if_neg q2] at hm2
      have e0 : chr (decB n) 0 = 48 + n / 100 := by
        unfold decB
        rw [if_neg q1, if_neg q2]
        exact u8_nat (by omega)
      have e1 : chr (decB n) 1 = 48 + n / 10 % 10 := by
        unfold decB
        rw [if_neg q1, if_neg q2]
        exact u8_nat (by omega)
      have e2 : chr (decB n) 2 = 48 + n % 10 := by
        unfold decB
        rw [if_neg q1, if_neg q2]
        exact u8_nat (by omega)
      rw [e0] at d0
      rw [e1] at d1
      rw [e2] at d2
      have d0' := d0 (by omega)
      have d1' := d1 (by omega)
      have d2' := d2 (by omega)
      rw [Nat.add_zero] at d0'
      rw [stp 3 _ _ _ (by omega) (by omega) (by omega), stp 2 _ _ _ (by omega) (by omega) (by omega), stp 1 _ _ _ (by omega) (by rw [show p.size + 3 + 1 + 1 = p.size + 3 + 2 from rfl]; omega) (by rw [show p.size + 3 + 1 + 1 = p.size + 3 + 2 from rfl]; omega), stop 0 _ _ _ (by rw [← k4]; congr 1; omega), d0', d1', show p.size + 3 + 1 + 1 = p.size + 3 + 2 from rfl, d2']
      congr 1
      · omega
      · congr 1 <;> omega
  have hcnt : countsR r (p.size + 2) = .got (n, -1) (p.size + m + 4) := by
    have hok : cntOk (n, p.size + m + 3, m) = true := by
      unfold cntOk
      simp only [Bool.and_eq_true, decide_eq_true_eq]
      split at hm2
      · omega
      split at hm2 <;> omega
    unfold countsR
    simp only
    rw [hd]
    simp only
    rw [hok, isAt_of (by omega) k4, isAt_of (by omega) k5]
    rfl
  have hnl : ∀ k, k < r.size → chr r k ≠ 10 := fun k hk => by
    rw [hc]
    split
    · omega
    split
    · exact gp.nl _ (by omega)
    split
    · omega
    split
    · omega
    split
    · rename_i h5 h6
      intro e
      have h7 : 48 ≤ chr (decB n) (k - (p.size + 3)) := by
        have hk3 : k - (p.size + 3) < m := by omega
        obtain ⟨x, hx⟩ : ∃ x, k - (p.size + 3) = x := ⟨_, rfl⟩
        rw [hx] at hk3 ⊢
        unfold decB
        split at hm2
        · rename_i q1
          rw [if_pos q1]
          obtain rfl : x = 0 := by omega
          have := u8_nat (n := 48 + n) (by omega)
          show 48 ≤ ((48 + n).toUInt8).toNat
          omega
        split at hm2
        · rename_i q1 q2
          rw [if_neg q1, if_pos q2]
          rcases (show x = 0 ∨ x = 1 by omega) with rfl | rfl
          · have := u8_nat (n := 48 + n / 10) (by omega)
            show 48 ≤ ((48 + n / 10).toUInt8).toNat
            omega
          · have := u8_nat (n := 48 + n % 10) (by omega)
            show 48 ≤ ((48 + n % 10).toUInt8).toNat
            omega
        · rename_i q1 q2
          rw [if_neg q1, if_neg q2]
          rcases (show x = 0 ∨ x = 1 ∨ x = 2 by omega) with rfl | rfl | rfl
          · have := u8_nat (n := 48 + n / 100) (by omega)
            show 48 ≤ ((48 + n / 100).toUInt8).toNat
            omega
          · have := u8_nat (n := 48 + n / 10 % 10) (by omega)
            show 48 ≤ ((48 + n / 10 % 10).toUInt8).toNat
            omega
          · have := u8_nat (n := 48 + n % 10) (by omega)
            show 48 ≤ ((48 + n % 10).toUInt8).toNat
            omega
      omega
    split
    · omega
    · rw [if_pos (by omega)]; omega
  have p1 : pieceR r (inn r 64) 0 = .got (timesN t n (-1)) r.size := by
    rw [piece_group (d := 63) k0 g1 (by omega), show 1 + p.size + 1 = p.size + 2 by omega]
    unfold repeatR
    rw [isAt_ne (show chr r (p.size + 2) ≠ 42 by omega), isAt_ne (show chr r (p.size + 2) ≠ 43 by omega), isAt_ne (show chr r (p.size + 2) ≠ 63 by omega), isAt_of (by omega) k2, hcnt]
    simp only [Res.bind]
    rw [show p.size + m + 4 + 1 = r.size by omega]
    rfl
  unfold answer
  refine parse_of (j := r.size) (by omega) hnl ?_
  rw [patR_al]
  refine patL_end' (n := r.size + 1) (l := []) (u := timesN t n (-1)) ?_ (isAt_out (Nat.le_refl _))
  unfold alR
  rw [show r.size + 2 = (r.size + 1) + 1 by omega, alF_piece (by omega) (by omega) (by omega) p1, alF_end (.inl (Nat.le_refl _))]
  rfl
end
theorem joins_hold (p q : ByteArray) (n : Nat) (hn : n < 256) (ep : (parseR p).2.2 = 0) (eq_ : (parseR q).2.2 = 0) (bp : (barsP p).1 ≤ 0) (bq : (barsP q).1 ≤ 0) (hl : p.size + q.size ≤ 1010) (dp : (barsP p).2 ≤ 63) (dq : (barsP q).2 ≤ 63) : JoinsHold p q n := by
  obtain ⟨gp, -⟩ := parse_ok ep
  obtain ⟨gq, -⟩ := parse_ok eq_
  exact ⟨alt_hold gp gq hl bp bq, seq_hold gp gq hl dp dq, times_hold gp hn (by omega) dp⟩
end Ere
end Go.Proofs.Ytajainmldcnaeaa
namespace Go.Proofs.Ytajainmldcnaeaa
open Go.RowKit Go.Maps
set_option linter.unusedVariables false
set_option linter.unusedSimpArgs false
attribute [local go_sem] Oper.semAt_some

theorem str_of (A : Option Addr) (n c B : Nat) (l : List UInt8) (w : World) (hn : n = l.length) (hs : SliceOf w B 1 enc8 A l) : (Go.convert 86 9 (.slice A n c)).run Try.prog w = .ok (.string ⟨l.toArray⟩) w := by
  subst hn
  rcases A with _ | a
  · have hl : l = [] := by
      rcases hs with h | ⟨b, off, h, _⟩
      · exact h
      · cases h
    subst hl
    rw [run_convert_bytes_string w _ _ 5 none _ c Try.underlying86 Try.underlying5 Try.underlying9]
    rfl
  · refine run_convert_bytes_back w _ _ 5 a c l Try.underlying86 Try.underlying5 Try.underlying9 fun j hj => ?_
    obtain ⟨b, off, e, _, hrow⟩ := hs.at_ (by omega)
    injection e with e
    subst e
    have := hrow j hj 0 _ rfl
    rw [Nat.mul_one] at this
    rw [addr_add]
    exact this
theorem wl_str {ops : Array Oper} {rest : List Oper} {o : Oper} {a : Act} {w : World} {Q : Exit → Act → World → Prop} (hgd : o.guard = none) (x : Operand) (ho : o.op = .convert 86 9 x) (A : Option Addr) (n c B : Nat) (l : List UInt8) (hx : a.eval x = .slice A n c) (hn : n = l.length) (hs : SliceOf w B 1 enc8 A l)
    (h : wpList Try.prog ops Q rest (a.put o.dst (.string ⟨l.toArray⟩)) w) : wpList Try.prog ops Q (o :: rest) a w :=
  wl_run hgd (v := .string ⟨l.toArray⟩) (by unfold execOp; simp only [ho, hx, Sem.run_bind, str_of A n c B l w hn hs, Result.andThen_ok, Sem.run_pure]) h
/-- how far a number is written -/
def numSt (n k : Nat) (s : ByteArray) : Prop := (k = n ∧ s = ⟨#[]⟩) ∨ (10 ≤ n ∧ k = n / 10 ∧ s = ⟨#[(48 + n % 10).toUInt8]⟩) ∨ (100 ≤ n ∧ k = n / 100 ∧ s = ⟨#[(48 + n / 10 % 10).toUInt8, (48 + n % 10).toUInt8]⟩)
set_option maxRecDepth 100000 in
set_option maxHeartbeats 4000000 in
theorem number_any (n : Nat) (hn : n < 256) (w : World) :
    Calls Try.prog 21 #[.int .i64 (n : Int)] w fun e w' => e = .returned (.string (Ere.decB n)) ∧ Below w.heap.size w w' := by
  go_enter Try.func21, Try.ntmps21
  go_wp2_with (fail)
  go_loopw [0, 3] (fun nv sv wr => ∃ (k : Nat) (s : ByteArray), nv = .int .i64 (k : Int) ∧ sv = .string s ∧ Below w.heap.size w wr ∧ k ≤ n ∧ Hid (numSt n k s) ∧ (k = n ∨ k < n)) (fun nv _ _ => (intOf nv).toNat)
  case atStart => exact ⟨n, ⟨#[]⟩, rfl, rfl, Below.refl _ _, Nat.le_refl _, Lib.hid (.inl ⟨rfl, rfl⟩), .inl rfl⟩
  case round =>
    obtain ⟨k, s, rfl, rfl, hB, hkn, hst, hk⟩ := hrel
    have hkI : (k : Int) < 256 := by omega
    have hk0 : 0 ≤ (k : Int) := by omega
    have hss : s.size ≤ 2 := by
      rcases hst.out with ⟨_, rfl⟩ | ⟨_, _, rfl⟩ | ⟨_, _, rfl⟩
      · show 0 ≤ 2; omega
      · show 1 ≤ 2; omega
      · show 2 ≤ 2; omega
    have hsz : ¬ 9223372036854775807 < 1 + s.size := by omega
    clear hss
    obtain ⟨d, hd⟩ : ∃ d : UInt8, d = (48 + k % 10).toUInt8 := ⟨_, rfl⟩
    have hdn : ((d.toNat : Nat) : Int) = 48 + (k : Int) % 10 := by
      rw [hd, Ere.u8_nat (by omega)]
      omega
    have hbl := bytes_of_blk (l := [d]) (Blk.new wr 5 #[.int .u8 ((d.toNat : Nat) : Int)])
    rw [hdn] at hbl
    have hBa := Lib.hid (below_alloc (Below.refl wr.heap.size wr) (.cells #[.int .u8 (48 + (k : Int) % 10)] 5))
    replace hd := Lib.hid hd
    replace hbl := Lib.hid hbl
    clear hk hdn
    by_cases h9 : k < 10
    · have hq : ((k : Int) / 10 == 0) = true := by rw [beq_iff_eq]; omega
      have hres : (⟨[d].toArray⟩ : ByteArray) ++ s = Ere.decB n := by
        rw [hd.out]
        rcases hst.out with ⟨rfl, rfl⟩ | ⟨h10, rfl, rfl⟩ | ⟨h100, rfl, rfl⟩
        · unfold Ere.decB
          rw [if_pos h9, Nat.mod_eq_of_lt h9]
          rfl
        · unfold Ere.decB
          rw [if_neg (by omega), if_pos (by omega), Nat.mod_eq_of_lt h9]
          rfl
        · unfold Ere.decB
          rw [if_neg (by omega), if_neg (by omega), Nat.mod_eq_of_lt h9]
          rfl
      replace hres := Lib.hid hres
      replace h9 := Lib.hid h9
      go_wp2_with (refine wl_str rfl _ rfl _ _ _ _ [d] rfl rfl hbl.out ?_)
      go_ret
      exact ⟨congrArg (fun v => Ending.returned (.string v)) hres.out, below_then hB hBa.out⟩
    · have hq : ((k : Int) / 10 == 0) = false := by rw [beq_eq_false_iff_ne]; omega
      have hst2 : numSt n (k / 10) ((⟨[d].toArray⟩ : ByteArray) ++ s) := by
        rw [hd.out]
        rcases hst.out with ⟨rfl, rfl⟩ | ⟨h10, rfl, rfl⟩ | ⟨h100, rfl, rfl⟩
        · exact .inr (.inl ⟨by omega, rfl, rfl⟩)
        · exact .inr (.inr ⟨by omega, by omega, rfl⟩)
        · omega
      have hk10 : ((k : Int) / 10) = ((k / 10 : Nat) : Int) := by omega
      replace hk10 := Lib.hid hk10
      replace hst2 := Lib.hid hst2
      go_wp2_with (refine wl_str rfl _ rfl _ _ _ _ [d] rfl rfl hbl.out ?_)
      exact ⟨⟨k / 10, _, congrArg (Value.int .i64) hk10.out, rfl, below_then hB hBa.out, by omega, hst2, by omega⟩, by rw [hk10.out]; simp only [intOf]; omega⟩
end Go.Proofs.Ytajainmldcnaeaa
namespace Go.Proofs.Ytajainmldcnaeaa
open Go.RowKit Go.Maps
set_option linter.unusedVariables false
set_option linter.unusedSimpArgs false
attribute [local go_sem] Oper.semAt_some

set_option maxRecDepth 100000 in
set_option maxHeartbeats 8000000 in
theorem one4_any (t : Nd) (R : Nd × Nat × Nat) (hR : R = Ere.answer t) (B : Nat) (w : World) (x y : NV) (hx : NdIn w B R.1 x.C) (hy : NdIn w B t y.C) (hB : B ≤ w.heap.size) :
    Calls Try.prog 22 #[.agg x.C, .int .i64 ((R.2.2 : Nat) : Int), .agg y.C] w fun e w' => e = .returned (.bool true) ∧ Below w.heap.size w w' := by
  obtain ⟨nd, a, e⟩ := R
  simp only at hx ⊢
  have hpl := placesN_eq t
  obtain ⟨np, hnp⟩ : ∃ q, placesN t = q := ⟨_, rfl⟩
  have kP := fun W (hW : Below w.heap.size w W) => placesE_any t B W y.C (hy.keep (w' := W) (fun j hj => hW.block j (by omega))) (Nat.le_trans hB hW.size)
  have kS := fun (h : nd = t) W (hW : Below w.heap.size w W) => same4_any nd t B W x.C y.C (hx.keep (w' := W) (fun j hj => hW.block j (by omega))) (hy.keep (w' := W) (fun j hj => hW.block j (by omega))) (Nat.le_trans hB hW.size)
  rw [hnp] at kP hpl
  unfold Ere.answer at hR
  rw [← hpl] at hR
  have kN := fun W => num4_any (e : Int) W
  replace kP := Lib.hid kP
  replace kS := Lib.hid kS
  replace kN := Lib.hid kN
  replace hR := Lib.hid hR
  clear hnp hpl hx hy
  go_enter Try.func22, Try.ntmps22
  have k3 : Blk ((w.alloc (.cells x.C 27)).alloc (.cells y.C 27)) w.heap.size 27 x.C := (Blk.new _ _ _).alloc _
  have k5 : Blk ((w.alloc (.cells x.C 27)).alloc (.cells y.C 27)) (w.heap.size + 1) 27 y.C := Blk.new' _ _ _ (by simp)
  have hB1 : Below w.heap.size w ((w.alloc (.cells x.C 27)).alloc (.cells y.C 27)) := below_alloc (below_alloc (Below.refl _ _) _) _
  unfold NV.C at k3 k5 hB1
  go_upto_region 1 with (fail)
  obtain ⟨w1, hw1⟩ : ∃ z, z = (w.alloc (.cells (nodeC x.kd x.st x.A x.n x.c x.mi x.ma) 27)).alloc (.cells (nodeC y.kd y.st y.A y.n y.c y.mi y.ma) 27) := ⟨_, rfl⟩
  rw [← hw1] at k3 k5 hB1
  try rw [← hw1]
  try unfold NV.C
  try rw [← hw1]
  clear hw1
  obtain ⟨g3, hg3⟩ : ∃ z, z = w.heap.size := ⟨_, rfl⟩
  obtain ⟨g5, hg5⟩ : ∃ z, z = w.heap.size + 1 := ⟨_, rfl⟩
  rw [← hg5] at k5
  rw [← hg3] at k3
  try rw [← hg5]
  try rw [← hg3]
  clear hg3 hg5
  have kP1 := kP.out w1 hB1
  by_cases hbig : 2048 < np
  · have hI : (2048 : Int) < np := by omega
    have hr := hR.out
    rw [if_pos hbig] at hr
    injection hr with _ hr
    injection hr with _ hr
    have e48 : ((e : Int) == 48) = true := by rw [beq_iff_eq]; omega
    clear hr hbig kS
    go_wp2_with (first
      | (refine wl_load_nv rfl _ rfl g5 rfl y k5 ?_)
      | (go_at_call 16; refine kP1.mono ?_; rintro en w2 ⟨rfl, hB2⟩)
      | (go_at_call 18; refine (kN.out _).mono ?_; rintro en wn ⟨rfl, hwn⟩; rw [hwn]; clear hwn))
    go_ret
    exact ⟨rfl, below_then hB1 hB2⟩
  · have hI : ¬ (2048 : Int) < np := by omega
    have hr := hR.out
    rw [if_neg hbig] at hr
    injection hr with hr1 hr
    injection hr with _ hr
    have e0 : ((e : Int) == 0) = true := by rw [beq_iff_eq]; omega
    have kS1 := kS.out hr1
    subst hr1
    rw [sameB_self] at kS1
    have hkb := fun W (hW : Below w1.heap.size w1 W) => And.intro (blk_then k3 hW) (And.intro (blk_then k5 hW) (kS1 W (hB1.trans (hW.mono hB1.size))))
    replace hkb := Lib.hid hkb
    clear hr hbig kS kS1
    go_upto_region 3 with (first
      | (refine wl_load_nv rfl _ rfl g5 rfl y k5 ?_)
      | (go_at_call 16; refine kP1.mono ?_; rintro en w2 ⟨rfl, hB2⟩))
    obtain ⟨k3', k5', kS'⟩ := hkb.out w2 hB2
    go_wp2_with (first
      | (go_at_call 18; refine (kN.out _).mono ?_; rintro en wn ⟨rfl, hwn⟩; rw [hwn]; clear hwn)
      | (refine wl_load_nv_g (want_yes rfl rfl rfl) _ rfl g3 rfl x k3' ?_)
      | (refine wl_load_nv_g (want_yes rfl rfl rfl) _ rfl g5 rfl y k5' ?_)
      | (go_at_call 14; refine kS'.mono ?_; rintro en w9 ⟨rfl, hB9⟩))
    go_ret
    exact ⟨rfl, below_then (below_then hB1 hB2) hB9⟩
set_option maxRecDepth 100000 in
set_option maxHeartbeats 40000000 in
theorem joins_any (p q : ByteArray) (z : Int) (hp : p.size ≤ 1099511627776) (hq : q.size ≤ 1099511627776) (w : World) (hM : Mx w) :
    Calls Try.prog 5 #[.string p, .string q, .int .i64 z] w fun e w' => e = .returned (.bool true) ∧ Below w.heap.size w w' := by
  have kK := known4_any w hM
  have kP : ∀ W, Mx W → _ := fun W hW => parse_any p W hW
  have kQ : ∀ W, Mx W → _ := fun W hW => parse_any q W hW
  have kBp := bars_any p hp
  have kBq := bars_any q hq
  have hJ := Ere.joins_hold p q
  obtain ⟨⟨t1, a1, e1⟩, hr1⟩ : ∃ r, Ere.parseR p = r := ⟨_, rfl⟩
  obtain ⟨⟨t2, a2, e2⟩, hr2⟩ : ∃ r, Ere.parseR q = r := ⟨_, rfl⟩
  obtain ⟨⟨c1, d1⟩, hb1⟩ : ∃ r, Ere.barsP p = r := ⟨_, rfl⟩
  obtain ⟨⟨c2, d2⟩, hb2⟩ : ∃ r, Ere.barsP q = r := ⟨_, rfl⟩
  have hJ2 : ∀ n, n < 256 → e1 = 0 → e2 = 0 → c1 ≤ 0 → c2 ≤ 0 → p.size + q.size ≤ 1010 → d1 ≤ 63 → d2 ≤ 63 → Ere.parseR (Ere.joinA p q) = Ere.answer (.mk 4 0 [t1, t2] 0 0) ∧ Ere.parseR (Ere.joinS p q) = Ere.answer (.mk 3 0 [t1, t2] 0 0) ∧ Ere.parseR (Ere.joinT p n) = Ere.answer (.mk 5 0 [t1] (n : Int) (-1)) := fun n h1 h2 h3 h4 h5 h6 h7 h8 => by
    have := hJ n h1 (by rw [hr1]; exact h2) (by rw [hr2]; exact h3) (by rw [hb1]; exact h4) (by rw [hb2]; exact h5) h6 (by rw [hb1]; exact h7) (by rw [hb2]; exact h8)
    obtain ⟨j1, j2, j3⟩ := this
    rw [hr1, hr2] at j1 j2
    rw [hr1] at j3
    exact ⟨j1, j2, j3⟩
  rw [hr1] at kP
  rw [hr2] at kQ
  rw [hb1] at kBp
  rw [hb2] at kBq
  simp only at kP kQ kBp kBq
  clear hr1 hr2 hb1 hb2 hJ
  replace kP := Lib.hid kP
  replace kQ := Lib.hid kQ
  replace kBp := Lib.hid kBp
  replace kBq := Lib.hid kBq
  replace hJ := Lib.hid hJ2
  clear hJ2
  have hpI : (p.size : Int) ≤ 1099511627776 := by omega
  have hqI : (q.size : Int) ≤ 1099511627776 := by omega
  go_enter Try.func5, Try.ntmps5
  go_upto_region 3 with (go_at_call 11; refine kK.mono ?_; rintro en w1 ⟨rfl, hT⟩)
  have kP1 := kP.out w1 (hM.then_ hT)
  clear kK kP
  go_upto_region 4 with (first
    | (go_at_call 12; refine kP1.mono ?_; rintro en wp7 ⟨hBp7, x7, bs7, rfl, hO7⟩)
    | (refine wl_store_nv rfl _ _ rfl _ x7 rfl rfl _ rfl (Blk.new _ _ zeroC) ?_; intro w2 k7 hg7))
  have hBn7 := below_then hBp7 (below_grown (below_alloc (Below.refl wp7.heap.size wp7) (.cells zeroC 27)) hg7 (Nat.le_refl _))
  have i7 := ((hO7.then_ (below_alloc (Below.refl _ _) (.cells zeroC 27))).keep (w' := w2) (fun b hb => hg7.block b (by have := (hO7.lt b hb).2; simp; omega) (fun e => by injection e with e; have := (hO7.lt b hb).2; omega))).toIn
  replace hT := below_then hT hBn7
  obtain ⟨g7, hge7⟩ : ∃ y, y = wp7.heap.size := ⟨_, rfl⟩
  rw [← hge7] at k7 ⊢
  clear hBp7 hO7 hg7 hBn7 hge7
  have kQ1 := kQ.out w2 (hM.then_ hT)
  clear kQ kP1
  go_upto_region 5 with (first
    | (go_at_call 12; refine kQ1.mono ?_; rintro en wp10 ⟨hBp10, x10, bs10, rfl, hO10⟩)
    | (refine wl_store_nv rfl _ _ rfl _ x10 rfl rfl _ rfl (Blk.new _ _ zeroC) ?_; intro w3 k10 hg10))
  have hBn10 := below_then hBp10 (below_grown (below_alloc (Below.refl wp10.heap.size wp10) (.cells zeroC 27)) hg10 (Nat.le_refl _))
  have i10 := ((hO10.then_ (below_alloc (Below.refl _ _) (.cells zeroC 27))).keep (w' := w3) (fun b hb => hg10.block b (by have := (hO10.lt b hb).2; simp; omega) (fun e => by injection e with e; have := (hO10.lt b hb).2; omega))).toIn
  replace k7 := blk_then k7 hBn10
  replace i7 := (i7.then_ hBn10 (Nat.le_refl _)).more hBn10.size
  replace hT := below_then hT hBn10
  obtain ⟨g10, hge10⟩ : ∃ y, y = wp10.heap.size := ⟨_, rfl⟩
  rw [← hge10] at k10 ⊢
  clear hBp10 hO10 hg10 hBn10 hge10
  have kb1 := kBp.out w3
  have kb2 := kBq.out w3
  clear kBp kBq kQ1
  go_upto_region 6 with (go_at_call 20; refine kb1.mono ?_; rintro en wn ⟨rfl, hwn⟩; rw [hwn]; clear hwn)
  clear kb1
  go_upto_region 7 with (go_at_call 20; refine kb2.mono ?_; rintro en wn ⟨rfl, hwn⟩; rw [hwn]; clear hwn)
  clear kb2
  have kN1 := num4_any (e1 : Int) w3
  have kN2 := num4_any (e2 : Int) w3
  obtain ⟨BB, hBB⟩ : ∃ b, decide (¬ (e1 = 0 ∧ e2 = 0 ∧ c1 ≤ 0 ∧ c2 ≤ 0 ∧ p.size + q.size ≤ 1010 ∧ d1 ≤ 63 ∧ d2 ≤ 63)) = b := ⟨_, rfl⟩
  replace hBB := Lib.hid hBB
  go_cut [82] from 51 to 83 (fun v wx => wx = w3 ∧ v = .bool BB)
  case first =>
    by_cases q0 : e1 = 0
    case neg =>
      have f0 : ((e1 : Int) != 0) = true := bne_iff_ne.2 (by omega)
      have hv := Lib.hid (show true = BB by rw [← hBB.out]; exact (decide_eq_true (by omega)).symm)
      clear q0
      go_wp2_with (first | (go_at_call 18; refine kN1.mono ?_; rintro en wn ⟨rfl, hwn⟩; rw [hwn]; clear hwn kN1) | (go_at_call 18; refine kN2.mono ?_; rintro en wn ⟨rfl, hwn⟩; rw [hwn]; clear hwn kN2))
      go_meet
      exact ⟨by trivial, congrArg Value.bool hv.out⟩
    have f0 : ((e1 : Int) != 0) = false := bne_eq_false_iff_eq.2 (by omega)
    by_cases q1 : e2 = 0
    case neg =>
      have f1 : ((e2 : Int) != 0) = true := bne_iff_ne.2 (by omega)
      have hv := Lib.hid (show true = BB by rw [← hBB.out]; exact (decide_eq_true (by omega)).symm)
      clear q0 q1
      go_wp2_with (first | (go_at_call 18; refine kN1.mono ?_; rintro en wn ⟨rfl, hwn⟩; rw [hwn]; clear hwn kN1) | (go_at_call 18; refine kN2.mono ?_; rintro en wn ⟨rfl, hwn⟩; rw [hwn]; clear hwn kN2))
      go_meet
      exact ⟨by trivial, congrArg Value.bool hv.out⟩
    have f1 : ((e2 : Int) != 0) = false := bne_eq_false_iff_eq.2 (by omega)
    by_cases q2 : c1 ≤ 0
    case neg =>
      have f2 : (0 : Int) < c1 := by omega
      have hv := Lib.hid (show true = BB by rw [← hBB.out]; exact (decide_eq_true (by omega)).symm)
      clear q0 q1 q2
      go_wp2_with (first | (go_at_call 18; refine kN1.mono ?_; rintro en wn ⟨rfl, hwn⟩; rw [hwn]; clear hwn kN1) | (go_at_call 18; refine kN2.mono ?_; rintro en wn ⟨rfl, hwn⟩; rw [hwn]; clear hwn kN2))
      go_meet
      exact ⟨by trivial, congrArg Value.bool hv.out⟩
    have f2 : ¬ (0 : Int) < c1 := by omega
    by_cases q3 : c2 ≤ 0
    case neg =>
      have f3 : (0 : Int) < c2 := by omega
      have hv := Lib.hid (show true = BB by rw [← hBB.out]; exact (decide_eq_true (by omega)).symm)
      clear q0 q1 q2 q3
      go_wp2_with (first | (go_at_call 18; refine kN1.mono ?_; rintro en wn ⟨rfl, hwn⟩; rw [hwn]; clear hwn kN1) | (go_at_call 18; refine kN2.mono ?_; rintro en wn ⟨rfl, hwn⟩; rw [hwn]; clear hwn kN2))
      go_meet
      exact ⟨by trivial, congrArg Value.bool hv.out⟩
    have f3 : ¬ (0 : Int) < c2 := by omega
    by_cases q4 : p.size + q.size ≤ 1010
    case neg =>
      have f4 : (1010 : Int) < p.size + q.size := by omega
      have hv := Lib.hid (show true = BB by rw [← hBB.out]; exact (decide_eq_true (by omega)).symm)
      clear q0 q1 q2 q3 q4
      go_wp2_with (first | (go_at_call 18; refine kN1.mono ?_; rintro en wn ⟨rfl, hwn⟩; rw [hwn]; clear hwn kN1) | (go_at_call 18; refine kN2.mono ?_; rintro en wn ⟨rfl, hwn⟩; rw [hwn]; clear hwn kN2))
      go_meet
      exact ⟨by trivial, congrArg Value.bool hv.out⟩
    have f4 : ¬ (1010 : Int) < p.size + q.size := by omega
    by_cases q5 : d1 ≤ 63
    case neg =>
      have f5 : (63 : Int) < d1 := by omega
      have hv := Lib.hid (show true = BB by rw [← hBB.out]; exact (decide_eq_true (by omega)).symm)
      clear q0 q1 q2 q3 q4 q5
      go_wp2_with (first | (go_at_call 18; refine kN1.mono ?_; rintro en wn ⟨rfl, hwn⟩; rw [hwn]; clear hwn kN1) | (go_at_call 18; refine kN2.mono ?_; rintro en wn ⟨rfl, hwn⟩; rw [hwn]; clear hwn kN2))
      go_meet
      exact ⟨by trivial, congrArg Value.bool hv.out⟩
    have f5 : ¬ (63 : Int) < d1 := by omega
    by_cases q6 : d2 ≤ 63
    case neg =>
      have f6 : (63 : Int) < d2 := by omega
      have hv := Lib.hid (show true = BB by rw [← hBB.out]; exact (decide_eq_true (by omega)).symm)
      clear q0 q1 q2 q3 q4 q5 q6
      go_wp2_with (first | (go_at_call 18; refine kN1.mono ?_; rintro en wn ⟨rfl, hwn⟩; rw [hwn]; clear hwn kN1) | (go_at_call 18; refine kN2.mono ?_; rintro en wn ⟨rfl, hwn⟩; rw [hwn]; clear hwn kN2))
      go_meet
      exact ⟨by trivial, congrArg Value.bool hv.out⟩
    have f6 : ¬ (63 : Int) < d2 := by omega
    have hv := Lib.hid (show false = BB by rw [← hBB.out]; exact (decide_eq_false (fun h => h ⟨q0, q1, q2, q3, q4, q5, q6⟩)).symm)
    clear q0 q1 q2 q3 q4 q5 q6
    go_wp2_with (first | (go_at_call 18; refine kN1.mono ?_; rintro en wn ⟨rfl, hwn⟩; rw [hwn]; clear hwn kN1) | (go_at_call 18; refine kN2.mono ?_; rintro en wn ⟨rfl, hwn⟩; rw [hwn]; clear hwn kN2))
    go_meet
    exact ⟨by trivial, congrArg Value.bool (by rw [← hv.out]; simp only [Bool.or_eq_false_iff, decide_eq_false_iff_not]; omega)⟩
  obtain ⟨hwc, rfl⟩ := hcut
  subst hwc
  cases BB with
  | true =>
    go_wp2_with (fail)
    go_ret
    exact ⟨rfl, hT⟩
  | false =>
  obtain ⟨h1, h2, h3, h4, h5, h6, h7⟩ : e1 = 0 ∧ e2 = 0 ∧ c1 ≤ 0 ∧ c2 ≤ 0 ∧ p.size + q.size ≤ 1010 ∧ d1 ≤ 63 ∧ d2 ≤ 63 := by
    have := hBB.out
    simpa using this
  have hJ2 := fun n h => hJ.out n h h1 h2 h3 h4 h5 h6 h7
  have hpqI : (p.size : Int) + q.size ≤ 1010 := by omega
  have hps : p.size ≤ 1010 := by omega
  have hqs : q.size ≤ 1010 := by omega
  clear hJ hBB h1 h2 h3 h4 h5 h6 h7 kN1 kN2
  replace hJ := Lib.hid hJ2
  clear hJ2
  go_upto_region 10 with (fail)
  obtain ⟨n, hn, hn256⟩ : ∃ n : Nat, wrap64 ((IntKind.u64.wrap z).tmod 256) = (n : Int) ∧ n < 256 := by
    have hw : 0 ≤ IntKind.u64.wrap z := by rw [IntKind.wrap_u64]; omega
    refine ⟨((IntKind.u64.wrap z) % 256).toNat, ?_, by omega⟩
    rw [Int.tmod_eq_emod_of_nonneg hw]
    unfold wrap64
    omega
  rw [hn]
  obtain ⟨j1, j2, j3⟩ := hJ.out n hn256
  clear hn hJ
  replace j1 := Lib.hid j1
  replace j2 := Lib.hid j2
  replace j3 := Lib.hid j3
  go_upto_region 11 with (first
    | (refine wl_load_nv rfl _ rfl g7 rfl x7 k7 ?_)
    | (refine wl_load_nv rfl _ rfl g10 rfl x10 k10 ?_)
    | (refine wl_build2n rfl _ _ rfl x7 x10 rfl rfl ?_)
    | (refine wl_build_node rfl _ rfl (NV.mk 4 0 (some ⟨wc.heap.size, 0, none⟩) 2 2 0 0) #[(0, .int .i64 4), (2, .slice (some ⟨wc.heap.size, 0, none⟩) 2 2)] rfl (fun w => build_nlist 4 _ 2 2 w) ?_)
    | (refine wl_store_nv rfl _ _ rfl _ (NV.mk 4 0 (some ⟨wc.heap.size, 0, none⟩) 2 2 0 0) rfl rfl _ rfl (Blk.new' _ _ zeroC (by simp)) ?_; intro w17 k17 hg17))
  have hBc := below_alloc (below_alloc (Below.refl wc.heap.size wc) (.cells (x7.C ++ x10.C) 27)) (.cells zeroC 27)
  have hBn : Below wc.heap.size wc w17 := below_grown hBc hg17 (by omega)
  have kb : Blk w17 wc.heap.size 27 (x7.C ++ x10.C) := ((Blk.new wc 27 (x7.C ++ x10.C)).alloc _).grown hg17 (fun e => by injection e with e; omega)
  have i17 : NdIn w17 w17.heap.size (Nd.mk 4 0 [t1, t2] 0 0) (NV.mk 4 0 (some ⟨wc.heap.size, 0, none⟩) 2 2 0 0).C := NdIn.list2 (x := x7) (y := x10) ((i7.then_ hBn (Nat.le_refl _)).more hBn.size) ((i10.then_ hBn (Nat.le_refl _)).more hBn.size) kb kb.lt _ _ _ _
  replace k7 := blk_then k7 hBn
  replace i7 := (i7.then_ hBn (Nat.le_refl _)).more hBn.size
  replace k10 := blk_then k10 hBn
  replace i10 := (i10.then_ hBn (Nat.le_refl _)).more hBn.size
  replace hT := below_then hT hBn
  obtain ⟨g17, hge⟩ : ∃ y, y = wc.heap.size + 1 := ⟨_, rfl⟩
  obtain ⟨v17, hv⟩ : ∃ v, v = NV.mk 4 0 (some ⟨wc.heap.size, 0, none⟩) 2 2 0 0 := ⟨_, rfl⟩
  rw [← hge] at k17 ⊢
  rw [← hv] at k17 i17
  clear hge hv hg17 hBc hBn kb
  go_upto_region 12 with (first
    | (refine wl_load_nv rfl _ rfl g7 rfl x7 k7 ?_)
    | (refine wl_load_nv rfl _ rfl g10 rfl x10 k10 ?_)
    | (refine wl_build2n rfl _ _ rfl x7 x10 rfl rfl ?_)
    | (refine wl_build_node rfl _ rfl (NV.mk 3 0 (some ⟨w17.heap.size, 0, none⟩) 2 2 0 0) #[(0, .int .i64 3), (2, .slice (some ⟨w17.heap.size, 0, none⟩) 2 2)] rfl (fun w => build_nlist 3 _ 2 2 w) ?_)
    | (refine wl_store_nv rfl _ _ rfl _ (NV.mk 3 0 (some ⟨w17.heap.size, 0, none⟩) 2 2 0 0) rfl rfl _ rfl (Blk.new' _ _ zeroC (by simp)) ?_; intro w18 k18 hg18))
  have hBc := below_alloc (below_alloc (Below.refl w17.heap.size w17) (.cells (x7.C ++ x10.C) 27)) (.cells zeroC 27)
  have hBn : Below w17.heap.size w17 w18 := below_grown hBc hg18 (by omega)
  have kb : Blk w18 w17.heap.size 27 (x7.C ++ x10.C) := ((Blk.new w17 27 (x7.C ++ x10.C)).alloc _).grown hg18 (fun e => by injection e with e; omega)
  have i18 : NdIn w18 w18.heap.size (Nd.mk 3 0 [t1, t2] 0 0) (NV.mk 3 0 (some ⟨w17.heap.size, 0, none⟩) 2 2 0 0).C := NdIn.list2 (x := x7) (y := x10) ((i7.then_ hBn (Nat.le_refl _)).more hBn.size) ((i10.then_ hBn (Nat.le_refl _)).more hBn.size) kb kb.lt _ _ _ _
  replace k7 := blk_then k7 hBn
  replace i7 := (i7.then_ hBn (Nat.le_refl _)).more hBn.size
  replace k10 := blk_then k10 hBn
  replace i10 := (i10.then_ hBn (Nat.le_refl _)).more hBn.size
  replace k17 := blk_then k17 hBn
  replace i17 := (i17.then_ hBn (Nat.le_refl _)).more hBn.size
  replace hT := below_then hT hBn
  obtain ⟨g18, hge⟩ : ∃ y, y = w17.heap.size + 1 := ⟨_, rfl⟩
  obtain ⟨v18, hv⟩ : ∃ v, v = NV.mk 3 0 (some ⟨w17.heap.size, 0, none⟩) 2 2 0 0 := ⟨_, rfl⟩
  rw [← hge] at k18 ⊢
  rw [← hv] at k18 i18
  clear hge hv hg18 hBc hBn kb
  go_upto_region 13 with (first
    | (refine wl_load_nv rfl _ rfl g7 rfl x7 k7 ?_)
    | (refine wl_build1n rfl _ rfl x7 rfl ?_)
    | (refine wl_build_node rfl _ rfl (NV.mk 5 0 (some ⟨w18.heap.size, 0, none⟩) 1 1 (n : Int) (-1)) #[(0, .int .i64 5), (2, .slice (some ⟨w18.heap.size, 0, none⟩) 1 1), (3, .int .i64 (n : Int)), (4, .int .i64 (-1))] rfl (fun w => build_ntimes 5 _ 1 1 (n : Int) (-1) w) ?_)
    | (refine wl_store_nv rfl _ _ rfl _ (NV.mk 5 0 (some ⟨w18.heap.size, 0, none⟩) 1 1 (n : Int) (-1)) rfl rfl _ rfl (Blk.new' _ _ zeroC (by simp)) ?_; intro w19 k19 hg19))
  have hBc := below_alloc (below_alloc (Below.refl w18.heap.size w18) (.cells x7.C 27)) (.cells zeroC 27)
  have hBn : Below w18.heap.size w18 w19 := below_grown hBc hg19 (by omega)
  have kb : Blk w19 w18.heap.size 27 x7.C := ((Blk.new w18 27 x7.C).alloc _).grown hg19 (fun e => by injection e with e; omega)
  have i19 : NdIn w19 w19.heap.size (Nd.mk 5 0 [t1] (n : Int) (-1)) (NV.mk 5 0 (some ⟨w18.heap.size, 0, none⟩) 1 1 (n : Int) (-1)).C := NdIn.list1 ((i7.then_ hBn (Nat.le_refl _)).more hBn.size) kb kb.lt _ _ _ _
  replace k7 := blk_then k7 hBn
  replace i7 := (i7.then_ hBn (Nat.le_refl _)).more hBn.size
  replace k10 := blk_then k10 hBn
  replace i10 := (i10.then_ hBn (Nat.le_refl _)).more hBn.size
  replace k17 := blk_then k17 hBn
  replace i17 := (i17.then_ hBn (Nat.le_refl _)).more hBn.size
  replace k18 := blk_then k18 hBn
  replace i18 := (i18.then_ hBn (Nat.le_refl _)).more hBn.size
  replace hT := below_then hT hBn
  obtain ⟨g19, hge⟩ : ∃ y, y = w18.heap.size + 1 := ⟨_, rfl⟩
  obtain ⟨v19, hv⟩ : ∃ v, v = NV.mk 5 0 (some ⟨w18.heap.size, 0, none⟩) 1 1 (n : Int) (-1) := ⟨_, rfl⟩
  rw [← hge] at k19 ⊢
  rw [← hv] at k19 i19
  clear hge hv hg19 hBc hBn kb
  have hP20 := fun W h => parse_any (Ere.joinA p q) W h
  obtain ⟨⟨t20, a20, e20⟩, hR20⟩ : ∃ R, Ere.parseR (Ere.joinA p q) = R := ⟨_, rfl⟩
  have j20 := Lib.hid (hR20.symm.trans j1.out)
  rw [hR20] at hP20
  unfold Ere.joinA at hP20
  simp only at hP20
  clear hR20 j1
  have hP20b := hP20 w19 (hM.then_ hT)
  clear hP20
  go_upto_region 14 with (first
    | (go_at_call 12; refine hP20b.mono ?_; rintro en wp20 ⟨hBp20, x20, bs20, rfl, hO20⟩)
    | (refine wl_store_nv rfl _ _ rfl _ x20 rfl rfl _ rfl (Blk.new _ _ zeroC) ?_; intro w20 k20 hg20))
  have hBn20 := below_then hBp20 (below_grown (below_alloc (Below.refl wp20.heap.size wp20) (.cells zeroC 27)) hg20 (Nat.le_refl _))
  have i20 := ((hO20.then_ (below_alloc (Below.refl _ _) (.cells zeroC 27))).keep (w' := w20) (fun b hb => hg20.block b (by have := (hO20.lt b hb).2; simp; omega) (fun e => by injection e with e; have := (hO20.lt b hb).2; omega))).toIn
  replace k7 := blk_then k7 hBn20
  replace i7 := (i7.then_ hBn20 (Nat.le_refl _)).more hBn20.size
  replace k10 := blk_then k10 hBn20
  replace i10 := (i10.then_ hBn20 (Nat.le_refl _)).more hBn20.size
  replace k17 := blk_then k17 hBn20
  replace i17 := (i17.then_ hBn20 (Nat.le_refl _)).more hBn20.size
  replace k18 := blk_then k18 hBn20
  replace i18 := (i18.then_ hBn20 (Nat.le_refl _)).more hBn20.size
  replace k19 := blk_then k19 hBn20
  replace i19 := (i19.then_ hBn20 (Nat.le_refl _)).more hBn20.size
  replace hT := below_then hT hBn20
  obtain ⟨g20, hge20⟩ : ∃ y, y = wp20.heap.size := ⟨_, rfl⟩
  rw [← hge20] at k20 ⊢
  clear hBp20 hO20 hg20 hBn20 hge20
  clear hP20b
  have hP22 := fun W h => parse_any (Ere.joinS p q) W h
  obtain ⟨⟨t22, a22, e22⟩, hR22⟩ : ∃ R, Ere.parseR (Ere.joinS p q) = R := ⟨_, rfl⟩
  have j22 := Lib.hid (hR22.symm.trans j2.out)
  rw [hR22] at hP22
  unfold Ere.joinS at hP22
  simp only at hP22
  clear hR22 j2
  have hP22b := hP22 w20 (hM.then_ hT)
  clear hP22
  go_upto_region 15 with (first
    | (go_at_call 12; refine hP22b.mono ?_; rintro en wp22 ⟨hBp22, x22, bs22, rfl, hO22⟩)
    | (refine wl_store_nv rfl _ _ rfl _ x22 rfl rfl _ rfl (Blk.new _ _ zeroC) ?_; intro w22 k22 hg22))
  have hBn22 := below_then hBp22 (below_grown (below_alloc (Below.refl wp22.heap.size wp22) (.cells zeroC 27)) hg22 (Nat.le_refl _))
  have i22 := ((hO22.then_ (below_alloc (Below.refl _ _) (.cells zeroC 27))).keep (w' := w22) (fun b hb => hg22.block b (by have := (hO22.lt b hb).2; simp; omega) (fun e => by injection e with e; have := (hO22.lt b hb).2; omega))).toIn
  replace k7 := blk_then k7 hBn22
  replace i7 := (i7.then_ hBn22 (Nat.le_refl _)).more hBn22.size
  replace k10 := blk_then k10 hBn22
  replace i10 := (i10.then_ hBn22 (Nat.le_refl _)).more hBn22.size
  replace k17 := blk_then k17 hBn22
  replace i17 := (i17.then_ hBn22 (Nat.le_refl _)).more hBn22.size
  replace k18 := blk_then k18 hBn22
  replace i18 := (i18.then_ hBn22 (Nat.le_refl _)).more hBn22.size
  replace k19 := blk_then k19 hBn22
  replace i19 := (i19.then_ hBn22 (Nat.le_refl _)).more hBn22.size
  replace k20 := blk_then k20 hBn22
  replace i20 := (i20.then_ hBn22 (Nat.le_refl _)).more hBn22.size
  replace hT := below_then hT hBn22
  obtain ⟨g22, hge22⟩ : ∃ y, y = wp22.heap.size := ⟨_, rfl⟩
  rw [← hge22] at k22 ⊢
  clear hBp22 hO22 hg22 hBn22 hge22
  clear hP22b
  have hP24 := fun W h => parse_any (Ere.joinT p n) W h
  obtain ⟨⟨t24, a24, e24⟩, hR24⟩ : ∃ R, Ere.parseR (Ere.joinT p n) = R := ⟨_, rfl⟩
  have j24 := Lib.hid (hR24.symm.trans j3.out)
  rw [hR24] at hP24
  unfold Ere.joinT at hP24
  simp only at hP24
  clear hR24 j3
  have hP24b := Lib.hid (fun W (hW : Below w22.heap.size w22 W) => hP24 W (hM.then_ (hT.trans (hW.mono hT.size))))
  have kNn := number_any n hn256 w22
  have hdec : (Ere.decB n).size ≤ 3 := by rw [Ere.decB_size n (by omega)]; split <;> (try split) <;> omega
  clear hP24
  go_upto_region 16 with (first
    | (go_at_call 12; refine hP24c.mono ?_; rintro en wp24 ⟨hBp24, x24, bs24, rfl, hO24⟩)
    | (go_at_call 21; refine kNn.mono ?_; rintro en wq ⟨rfl, hBq⟩; have hP24c := hP24b.out wq hBq)
    | (refine wl_store_nv rfl _ _ rfl _ x24 rfl rfl _ rfl (Blk.new _ _ zeroC) ?_; intro w24 k24 hg24))
  have hBn24 := below_then (below_then hBq hBp24) (below_grown (below_alloc (Below.refl wp24.heap.size wp24) (.cells zeroC 27)) hg24 (Nat.le_refl _))
  have i24 := ((hO24.then_ (below_alloc (Below.refl _ _) (.cells zeroC 27))).keep (w' := w24) (fun b hb => hg24.block b (by have := (hO24.lt b hb).2; simp; omega) (fun e => by injection e with e; have := (hO24.lt b hb).2; omega))).toIn
  replace k7 := blk_then k7 hBn24
  replace i7 := (i7.then_ hBn24 (Nat.le_refl _)).more hBn24.size
  replace k10 := blk_then k10 hBn24
  replace i10 := (i10.then_ hBn24 (Nat.le_refl _)).more hBn24.size
  replace k17 := blk_then k17 hBn24
  replace i17 := (i17.then_ hBn24 (Nat.le_refl _)).more hBn24.size
  replace k18 := blk_then k18 hBn24
  replace i18 := (i18.then_ hBn24 (Nat.le_refl _)).more hBn24.size
  replace k19 := blk_then k19 hBn24
  replace i19 := (i19.then_ hBn24 (Nat.le_refl _)).more hBn24.size
  replace k20 := blk_then k20 hBn24
  replace i20 := (i20.then_ hBn24 (Nat.le_refl _)).more hBn24.size
  replace k22 := blk_then k22 hBn24
  replace i22 := (i22.then_ hBn24 (Nat.le_refl _)).more hBn24.size
  replace hT := below_then hT hBn24
  obtain ⟨g24, hge24⟩ : ∃ y, y = wp24.heap.size := ⟨_, rfl⟩
  rw [← hge24] at k24 ⊢
  clear hBq hP24b hP24c kNn hBp24 hO24 hg24 hBn24 hge24
  have kOA := fun W (hW : Below w24.heap.size w24 W) => one4_any _ _ j20.out w24.heap.size W x20 v17 (i20.keep (fun j hj => hW.block j hj)) (i17.keep (fun j hj => hW.block j hj)) hW.size
  have kOS := fun W (hW : Below w24.heap.size w24 W) => one4_any _ _ j22.out w24.heap.size W x22 v18 (i22.keep (fun j hj => hW.block j hj)) (i18.keep (fun j hj => hW.block j hj)) hW.size
  have kOT := fun W (hW : Below w24.heap.size w24 W) => one4_any _ _ j24.out w24.heap.size W x24 v19 (i24.keep (fun j hj => hW.block j hj)) (i19.keep (fun j hj => hW.block j hj)) hW.size
  have hkb := fun W (hW : Below w24.heap.size w24 W) => And.intro (blk_then k22 hW) (And.intro (blk_then k18 hW) (And.intro (blk_then k24 hW) (blk_then k19 hW)))
  replace hkb := Lib.hid hkb
  have kA := kOA w24 (Below.refl _ _)
  replace kOS := Lib.hid kOS
  replace kOT := Lib.hid kOT
  clear kOA i20 i22 i24 i17 i18 i19 i7 i10 k7 k10 k22 k18 k24 k19 j20 j22 j24
  go_wp2_with (first
    | (refine wl_load_nv rfl _ rfl g20 rfl x20 k20 ?_)
    | (refine wl_load_nv rfl _ rfl g17 rfl v17 k17 ?_)
    | (go_at_call 22; refine kA.mono ?_; rintro en wA ⟨rfl, hBA⟩; obtain ⟨k22, k18, -, -⟩ := hkb.out wA hBA; have kS := kOS.out wA hBA; clear kA k20 k17)
    | (refine wl_load_nv_g (want_yes rfl rfl rfl) _ rfl g22 rfl x22 k22 ?_)
    | (refine wl_load_nv_g (want_yes rfl rfl rfl) _ rfl g18 rfl v18 k18 ?_)
    | (go_at_call 22; refine kS.mono ?_; rintro en wS ⟨rfl, hBS⟩; have hBAS := below_then hBA hBS; obtain ⟨-, -, k24, k19⟩ := hkb.out wS hBAS; have kT := kOT.out wS hBAS; clear kS k22 k18)
    | (refine wl_load_nv_g (want_yes rfl rfl rfl) _ rfl g24 rfl x24 k24 ?_)
    | (refine wl_load_nv_g (want_yes rfl rfl rfl) _ rfl g19 rfl v19 k19 ?_)
    | (go_at_call 22; refine kT.mono ?_; rintro en wZ ⟨rfl, hBZ⟩; have hBZ2 := below_then hBAS hBZ; clear kT k24 k19))
  go_ret
  exact ⟨rfl, below_then hT hBZ2⟩
end Go.Proofs.Ytajainmldcnaeaa
namespace Go.Proofs.Ytajainmldcnaeaa
open Go.ChangeShapes Go.WideShapes Go.ChangeAt Go.RowKit
open Go.ChangeMaps (open_string shut_string)
set_option linter.unusedVariables false
set_option linter.unusedSimpArgs false

set_option maxRecDepth 100000 in
theorem ereJoins_contract (H : Type) (enc : TypeId × Value → H) (W : World) (base : Nat) (args : Array Value) (ds gs : List (DataW H)) (before : List MemPlace)
    (hval0 : ∀ (j : Nat) t v, Try.f5.params[j]? = some t → args[j]? = some v → Value.okWide Try.prog W .any base t v)
    (hcond : Rows.uptoSmall H (ds ++ gs) = true) (hM : Mx W)
    (hW : DataW.Whole enc Try.prog Try.f5.params.toList Rows.ereJoinsSpec.vars false W args.toList ds gs before) (F : Stop.Interp) :
    Calls Try.prog 5 args W fun e W' => ∃ v, e = .returned v ∧ ((Rows.OpenSpec.upto Rows.ereJoinsSpec).at F).post enc Try.prog Try.f5 false true false false W args v W' := by
  have hW' := hW
  obtain ⟨p, q, hA0, hV, rfl, hfz, hnd⟩ := hW
  have hA : DataW.TrodAll enc Try.prog W 0 (fun _ => true) true Try.f5.params.toList args.toList ds p := hA0
  have hval := hval0
  rw [Try.params5] at hA hval
  obtain ⟨v0, vs0, d0, ds0, p0, q0, hargs, rfl, rfl, h0, r0⟩ := trodAll_cons hA
  obtain ⟨v1, vs1, d1, ds1, p1, q1, rfl, rfl, rfl, h1, r1⟩ := trodAll_cons r0
  obtain ⟨v2, vs2, d2, ds2, p2, q2, rfl, rfl, rfl, h2, r2⟩ := trodAll_cons r1
  obtain ⟨rfl, rfl, rfl⟩ := trodAll_nil r2
  obtain rfl : args = #[v0, v1, v2] := by cases args; simp_all
  obtain ⟨rfl, rfl⟩ := trodVars_none hV
  have k0 := h0
  have lt0 : ∀ x ∈ p0, x.block < W.heap.size := by obtain ⟨m, hm⟩ := k0; exact DataW.trod_lt m _ _ _ hm
  have k1 := h1
  have lt1 : ∀ x ∈ p1, x.block < W.heap.size := by obtain ⟨m, hm⟩ := k1; exact DataW.trod_lt m _ _ _ hm
  have k2 := h2
  have lt2 : ∀ x ∈ p2, x.block < W.heap.size := by obtain ⟨m, hm⟩ := k2; exact DataW.trod_lt m _ _ _ hm
  have hbulk : Rows.uptoBulkAll ([d0, d1, d2] ++ []) ≤ 1048576 := of_decide_eq_true hcond
  simp only [List.append_nil, Rows.uptoBulkAll] at hbulk
  obtain ⟨s0, rfl, hd0, _⟩ := open_string Try.underlying9 (hval 0 9 v0 rfl rfl) h0
  have b0 : s0.size ≤ 1048576 := by
    rw [hd0] at hbulk
    have := bulk_str (H := H) (l := s0.data.toList) (K := 1048576) (by omega)
    simpa using this
  obtain ⟨s1, rfl, hd1, _⟩ := open_string Try.underlying9 (hval 1 9 v1 rfl rfl) h1
  have b1 : s1.size ≤ 1048576 := by
    rw [hd1] at hbulk
    have := bulk_str (H := H) (l := s1.data.toList) (K := 1048576) (by omega)
    simpa using this
  obtain ⟨z2, rfl, _, _, _⟩ := open_int Try.underlying3 (hval 2 3 v2 rfl rfl) h2
  clear hA0 hval0
  refine (joins_any s0 s1 z2 (by omega) (by omega) W hM).mono fun e W' ⟨he, bel⟩ => ?_
  subst he
  exact ⟨_, rfl, _, _, _, [], _, [], hW', trodAll_mk1 (shut_bool Try.underlying4 _), (trodAll_cons_mk (Below.trod laidOut (by kernel_rfl) (of_decide_eq_true (by kernel_rfl)) k0 bel lt0) (trodAll_cons_mk (Below.trod laidOut (by kernel_rfl) (of_decide_eq_true (by kernel_rfl)) k1 bel lt1) (trodAll_cons_mk (Below.trod laidOut (by kernel_rfl) (of_decide_eq_true (by kernel_rfl)) k2 bel lt2) trodAll_mk0))), rfl, bel.frame _, fun h => by cases h⟩

set_option maxRecDepth 100000 in
theorem ereJoins_lifted (os : Os) (started : os.Started) (H : Type) (enc : TypeId × Value → H) (F : Stop.Interp) :
    ReturnsInHanded {} Try.checked os 5 .any ((Rows.OpenSpec.upto Rows.ereJoinsSpec).pre6 enc Try.prog Try.f5 Rows.ereJoinsUptoRow.domain false) (((Rows.OpenSpec.upto Rows.ereJoinsSpec).at F).post enc Try.prog Try.f5 false true false false) := by
  refine returnsInHanded_of_cond_shaped (C := Try.checked) (s := Rows.OpenSpec.upto Rows.ereJoinsSpec) (k := Rows.uptoSmall) rfl own started (by kernel_rfl) Try.func5
    (OpenSpec.witness (enc := enc) (C := Try.checked) (s := Rows.OpenSpec.upto Rows.ereJoinsSpec) (k := Rows.uptoSmall) rfl false ⟨#[], #[.string ⟨#[]⟩, .string ⟨#[]⟩, .int .i64 0], []⟩ 8 (by kernel_rfl) (by kernel_rfl) (by kernel_rfl)
      (x := ([.lit (.string []), .lit (.string []), .lit (.int .i64 0)], [], [])) (by kernel_rfl) rfl (by kernel_rfl)) ?_
  intro W base args ds gs before hval hW _ hk hsh _
  exact ereJoins_contract H enc W base args ds gs before hval hk (mx_of hsh) hW F

theorem ereJoinsUpto_holds : Rows.EreJoinsUptoSaid :=
  OpenClaim.holds_of_cond 5 Try.f5 rfl rfl rfl rfl rfl rfl rfl ⟨rfl, rfl, rfl, rfl, rfl⟩ rfl rfl rfl rfl rfl (by kernel_rfl) Try.func5 (by kernel_rfl)
    (of_decide_eq_true (by kernel_rfl)) (by unfold Func.isWrapper; first | (rw [if_pos (by decide +kernel)]; kernel_rfl) | (rw [if_neg (by decide +kernel)]; exact ⟨rfl, rfl⟩))
    (fun os started H enc _ F => ereJoins_lifted os started H enc F)
#print axioms ereJoinsUpto_holds
end Go.Proofs.Ytajainmldcnaeaa
