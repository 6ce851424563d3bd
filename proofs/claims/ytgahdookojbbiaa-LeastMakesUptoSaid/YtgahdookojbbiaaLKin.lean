/- heronref11.kinds: of each state which kind it is. No condition beyond those named in each lemma. -/
import Derived.Test.YtgahdookojbbiaaLMet
namespace Go.Proofs.Ytgahdookojbbiaa
open Go.RowKit Go.Maps
set_option linter.unusedVariables false
set_option linter.unusedSimpArgs false
attribute [local go_sem] Oper.semAt_some

structure Kd (n : Nat) (R : Nat → Nat → Prop) (K : Nat → Int) : Prop where
  eqv : ∀ i j, i < n → j < n → (K i = K j ↔ R i j)
  lo : ∀ i, i < n → 0 ≤ K i ∧ K i ≤ i
  own : ∀ i, i < n → R (K i).toNat i
def KdIn (s t : Nat) (R : Nat → Nat → Prop) (K : Nat → Int) : Prop :=
  Kd s R K ∧ ((K s = s ∧ ∀ u, t ≤ u → u < s → ¬ R u s) ∨ (∃ u, u < s ∧ R u s ∧ K s = K u))
section
variable {n s t : Nat} {R : Nat → Nat → Prop} {K : Nat → Int}
theorem Kd.nil : Kd 0 R K := ⟨fun i j h => by omega, fun i h => by omega, fun i h => by omega⟩
theorem Kd.congr {L : Nat → Int} (h : Kd n R K) (e : ∀ i, i < n → L i = K i) : Kd n R L :=
  ⟨fun i j hi hj => by rw [e i hi, e j hj]; exact h.eqv i j hi hj, fun i hi => by rw [e i hi]; exact h.lo i hi, fun i hi => by rw [e i hi]; exact h.own i hi⟩
theorem Kd.put (h : Kd s R K) (v : Int) : Kd s R (upd K s v) := h.congr fun i hi => upd_ne _ _ (by omega)
theorem KdIn.start (h : Kd s R K) : KdIn s s R (upd K s (s : Nat)) := ⟨h.put _, .inl ⟨upd_self _ _ _, fun u h1 h2 => by omega⟩⟩
theorem KdIn.hit (h : KdIn s (t + 1) R K) (ht : t < s) (hr : R t s) : KdIn s t R (upd K s (K t)) :=
  ⟨h.1.put _, .inr ⟨t, ht, hr, by rw [upd_self, upd_ne _ _ (by omega)]⟩⟩
theorem KdIn.miss (h : KdIn s (t + 1) R K) (hr : ¬ R t s) : KdIn s t R K :=
  ⟨h.1, h.2.imp (fun ⟨h1, h2⟩ => ⟨h1, fun u hu hs => by
    rcases Nat.lt_or_ge t u with h3 | h3
    · exact h2 u h3 hs
    · have : u = t := by omega
      subst this; exact hr⟩) id⟩
theorem KdIn.done (h : KdIn s 0 R K) (e : Equivalence R) : Kd (s + 1) R K := by
  obtain ⟨hk, h⟩ := h
  have hself : (∀ i, i < s → (K i = K s ↔ R i s)) ∧ (0 ≤ K s ∧ K s ≤ s) ∧ R (K s).toNat s := by
    rcases h with ⟨h1, h2⟩ | ⟨u, h1, h2, h3⟩
    · refine ⟨fun i hi => ⟨fun he => ?_, fun hr => absurd hr (h2 i (by omega) hi)⟩, by omega, ?_⟩
      · have := (hk.lo i hi).2; omega
      · rw [h1, Int.toNat_natCast]; exact e.refl s
    · refine ⟨fun i hi => ?_, ?_, ?_⟩
      · rw [h3, hk.eqv i u hi h1]
        exact ⟨fun x => e.trans x h2, fun x => e.trans x (e.symm h2)⟩
      · have := hk.lo u h1
        rw [h3]; omega
      · rw [h3]; exact e.trans (hk.own u h1) h2
  refine ⟨fun i j hi hj => ?_, fun i hi => ?_, fun i hi => ?_⟩
  · by_cases hi2 : i = s
    · subst hi2
      by_cases hj2 : j = i
      · subst hj2; exact ⟨fun _ => e.refl _, fun _ => rfl⟩
      · have := hself.1 j (by omega)
        exact ⟨fun x => e.symm (this.1 x.symm), fun x => (this.2 (e.symm x)).symm⟩
    · by_cases hj2 : j = s
      · subst hj2; exact hself.1 i (by omega)
      · exact hk.eqv i j (by omega) (by omega)
  · by_cases hi2 : i = s
    · subst hi2; exact hself.2.1
    · exact hk.lo i (by omega)
  · by_cases hi2 : i = s
    · subst hi2; exact hself.2.2
    · exact hk.own i (by omega)
end
/-- a kind for each state, not too fine -/
structure KOk (A : Au) (K : Nat → Int) : Prop where
  lo : ∀ i, i < A.n → 0 ≤ K i ∧ K i ≤ i
  own : ∀ i, i < A.n → K (K i).toNat = K i
  alk : ∀ i j, i < A.n → j < A.n → Alk A i A j → K i = K j
  out : ∀ i j, i < A.n → j < A.n → K i = K j → A.out i = A.out j
def R1 (A : Au) (s t : Nat) : Prop := A.out s = A.out t
theorem R1.eqv (A : Au) : Equivalence (R1 A) := ⟨fun _ => rfl, fun h => Eq.symm h, fun h k => Eq.trans h k⟩
def R2 (A : Au) (K : Nat → Int) (s t : Nat) : Prop := K s = K t ∧ ∀ b, b < 256 → K (A.go s b) = K (A.go t b)
theorem R2.eqv (A : Au) (K : Nat → Int) : Equivalence (R2 A K) := ⟨fun _ => ⟨rfl, fun _ _ => rfl⟩, fun h => ⟨h.1.symm, fun b hb => (h.2 b hb).symm⟩, fun h k => ⟨h.1.trans k.1, fun b hb => (h.2 b hb).trans (k.2 b hb)⟩⟩
section
variable {A : Au} {K L : Nat → Int}
theorem Kd.own2 {R : Nat → Nat → Prop} (h : Kd A.n R K) (i : Nat) (hi : i < A.n) : K (K i).toNat = K i :=
  (h.eqv _ _ (by have := h.lo i hi; omega) hi).2 (h.own i hi)
theorem KOk.one (h : Kd A.n (R1 A) K) : KOk A K :=
  ⟨h.lo, h.own2, fun i j hi hj ha => (h.eqv i j hi hj).2 ha.out, fun i j hi hj e => (h.eqv i j hi hj).1 e⟩
theorem KOk.two (o : A.Ok) (hk : KOk A K) (h : Kd A.n (R2 A K) L) : KOk A L :=
  ⟨h.lo, h.own2, fun i j hi hj ha => (h.eqv i j hi hj).2 ⟨hk.alk i j hi hj ha, fun b hb => hk.alk _ _ (o.lt i b hi hb) (o.lt j b hj hb) (ha.go hb)⟩, fun i j hi hj e => hk.out i j hi hj ((h.eqv i j hi hj).1 e).1⟩
theorem KOk.ge (hk : KOk A K) (h : Kd A.n (R2 A K) L) (i : Nat) (hi : i < A.n) : K i ≤ L i := by
  have h1 := h.lo i hi
  have h2 := (h.own i hi).1
  have h3 := hk.lo (L i).toNat (by omega)
  omega
/-- no finer any more: what is alike, no more and no less -/
theorem KOk.fine (o : A.Ok) (hk : KOk A K) (h : Kd A.n (R2 A K) L) (e : ∀ i, i < A.n → L i = K i) (s t : Nat) (hs : s < A.n) (ht : t < A.n) : K s = K t ↔ Alk A s A t := by
  refine ⟨fun he => ?_, hk.alk s t hs ht⟩
  refine alk_of (fun s t => s < A.n ∧ t < A.n ∧ K s = K t) (fun s t ⟨hs, ht, he⟩ => ⟨hk.out s t hs ht he, fun b hb => ⟨o.lt s b hs hb, o.lt t b ht hb, ?_⟩⟩) ⟨hs, ht, he⟩
  exact ((h.eqv s t hs ht).1 (by rw [e s hs, e t ht]; exact he)).2 b hb
end
def sumZ (K : Nat → Int) : Nat → Nat
  | 0 => 0
  | n + 1 => sumZ K n + (K n).toNat
theorem sumZ_le {K L : Nat → Int} {n : Nat} (h : ∀ i, i < n → K i ≤ L i) : sumZ K n ≤ sumZ L n := by
  induction n with
  | zero => exact Nat.le_refl _
  | succ n ih => have := ih (fun i hi => h i (by omega)); have := h n (by omega); unfold sumZ; omega
theorem sumZ_lt {K L : Nat → Int} {n j : Nat} (h : ∀ i, i < n → K i ≤ L i) (h0 : 0 ≤ K j) (hj : j < n) (hne : L j ≠ K j) : sumZ K n < sumZ L n := by
  induction n with
  | zero => omega
  | succ n ih =>
    unfold sumZ
    by_cases e : j = n
    · subst e
      have := sumZ_le (K := K) (L := L) (n := j) (fun i hi => h i (by omega))
      have := h j (by omega)
      omega
    · have := ih (fun i hi => h i (by omega)) (by omega)
      have := h n (by omega)
      omega
theorem sumZ_cap {K : Nat → Int} {m : Nat} : ∀ n, (∀ i, i < n → K i ≤ m) → sumZ K n ≤ n * m
  | 0, _ => by simp [sumZ]
  | n + 1, h => by
    have h1 := sumZ_cap n (fun i hi => h i (by omega))
    have h2 := h n (by omega)
    unfold sumZ
    rw [Nat.succ_mul]
    omega
theorem sumZ_congr {K L : Nat → Int} {n : Nat} (h : ∀ i, i < n → K i = L i) : sumZ K n = sumZ L n := by
  induction n with
  | zero => rfl
  | succ n ih => unfold sumZ; rw [ih (fun i hi => h i (by omega)), h n (by omega)]
def intAt (w : World) (g i : Nat) : Int := match w.cell? ⟨g, i, none⟩ with | some (.int _ z) => z | _ => 0
theorem intAt_blk {w : World} {g n : Nat} {t : TypeId} {K : Nat → Int} (h : Blk w g t (arr eZ n K)) {i : Nat} (hi : i < n) : intAt w g i = K i := by
  unfold intAt
  rw [blk_arrv h hi]
  rfl
theorem sumZ_blk {w : World} {g n : Nat} {t : TypeId} {K : Nat → Int} (h : Blk w g t (arr eZ n K)) : sumZ (intAt w g) n = sumZ K n := sumZ_congr fun i hi => intAt_blk h hi
noncomputable def alikeB (A : Au) (K : Nat → Int) (s t : Nat) : Bool := @decide (R2 A K s t) (Classical.propDecidable _)
theorem alikeB_yes {A : Au} {K : Nat → Int} {s t : Nat} (h : R2 A K s t) : alikeB A K s t = true := @decide_eq_true _ (Classical.propDecidable _) h
theorem alikeB_no {A : Au} {K : Nat → Int} {s t : Nat} (h : ¬ R2 A K s t) : alikeB A K s t = false := @decide_eq_false _ (Classical.propDecidable _) h
theorem alikeB_iff {A : Au} {K : Nat → Int} {s t : Nat} : alikeB A K s t = true ↔ R2 A K s t := @decide_eq_true_iff _ (Classical.propDecidable _)
set_option maxRecDepth 100000 in
set_option maxHeartbeats 4000000 in
theorem ralike_any (x : TV) (hF : Fits x.T) (K : Nat → Int) (s t g : Nat) (hs : s < x.rs.length) (ht : t < x.rs.length) (w : World) (hT : TabIn w w.heap.size x) (hk : Blk w g 3 (arr eZ x.rs.length K)) :
    Calls Try.prog 66 #[.agg x.C', .slice (some ⟨g, 0, none⟩) x.rs.length x.rs.length, .int .i64 (s : Nat), .int .i64 (t : Nat)] w fun e w' => e = .returned (.bool (alikeB x.T.au K s t)) ∧ Below w.heap.size w w' := by
  have n1 : 1 ≤ x.rs.length := by have := hF.n1; rwa [fits_n] at this
  have n2 : x.rs.length ≤ 4096 := by have := hF.n2; rwa [fits_n] at this
  unfold TV.C'
  have hok := hF.ok
  have hAn : x.T.au.n = x.rs.length := fits_n
  go_enter Try.func66, Try.ntmps66
  obtain ⟨A, hA⟩ : ∃ A, A = x.A := ⟨_, rfl⟩
  have h1 := Blk.new w 47 (dfaC x.f x.A x.rs.length x.c x.B x.fo.length x.d x.C x.en.length x.e)
  have hB1 := below_alloc (Below.refl w.heap.size w) (.cells (dfaC x.f x.A x.rs.length x.c x.B x.fo.length x.d x.C x.en.length x.e) 47)
  go_upto_region 1 with (fail)
  obtain ⟨w1, hw1⟩ : ∃ y, y = w.alloc (.cells (dfaC x.f x.A x.rs.length x.c x.B x.fo.length x.d x.C x.en.length x.e) 47) := ⟨_, rfl⟩
  rw [← hw1] at h1 hB1 ⊢
  clear hw1 hA A
  replace hk := blk_then hk hB1
  obtain ⟨q, hq⟩ : ∃ q, (K s != K t) = q := ⟨_, rfl⟩
  refine wp_region_steps 9 [eqS (.slice (some ⟨g, 0, none⟩) x.rs.length x.rs.length), eqS (.int .i64 (((s : Nat) : Int))), eqS (.pointer (some ⟨g, 0 + s * 1, none⟩)), eqS (.int .i64 ((K s))), eqS (.slice (some ⟨g, 0, none⟩) x.rs.length x.rs.length), eqS (.int .i64 (((t : Nat) : Int))), eqS (.pointer (some ⟨g, 0 + t * 1, none⟩)), eqS (.int .i64 ((K t))), eqS (.bool q)] [10, 11, 12, 13, 14, 15, 16, 17, 18] rfl (by kernel_rfl) rfl ?_ ?_
  · skip
    refine Steps.cons (fun a' w' hG hB dep => gs_move (want_none rfl) _ rfl (id (hG.other 1 rfl))) ?_
    refine Steps.cons (fun a' w' hG hB dep => gs_move (want_none rfl) _ rfl (id (hG.other 2 rfl))) ?_
    refine Steps.cons (fun a' w' hG hB dep => gs_index (want_none rfl) _ _ _ rfl under_ints 1 size_intE g 0 x.rs.length x.rs.length (s) (dep 0 rfl 10 rfl) (dep 1 rfl 11 rfl) hs rfl) ?_
    refine Steps.cons (fun a' w' hG hB dep => gs_load1 (want_none rfl) _ _ rfl g (0 + s * 1) (dep 2 rfl 12 rfl) (.int .i64 ((K s))) (blk_arr (blk_then hk hB) hs) _ Try.underlying3 rfl rfl) ?_
    refine Steps.cons (fun a' w' hG hB dep => gs_move (want_none rfl) _ rfl (id (hG.other 1 rfl))) ?_
    refine Steps.cons (fun a' w' hG hB dep => gs_move (want_none rfl) _ rfl (id (hG.other 3 rfl))) ?_
    refine Steps.cons (fun a' w' hG hB dep => gs_index (want_none rfl) _ _ _ rfl under_ints 1 size_intE g 0 x.rs.length x.rs.length (t) (dep 4 rfl 14 rfl) (dep 5 rfl 15 rfl) ht rfl) ?_
    refine Steps.cons (fun a' w' hG hB dep => gs_load1 (want_none rfl) _ _ rfl g (0 + t * 1) (dep 6 rfl 16 rfl) (.int .i64 ((K t))) (blk_arr (blk_then hk hB) ht) _ Try.underlying3 rfl rfl) ?_
    refine Steps.cons (fun a' w' hG hB dep => gs_neq_int (want_none rfl) _ _ _ _ rfl _ _ _ (dep 3 rfl 13 rfl) (dep 7 rfl 17 rfl) (id (congrArg Value.bool hq))) ?_
    exact Steps.nil
  intro u w2 hw2 ans
  have hus18 : u 18 = (.bool q) := ans 8 18 (by decide) rfl
  clear ans
  simp only [putAll, List.foldl_cons, List.foldl_nil, Act.put, List.setIfInBounds_toArray, List.set_cons_zero, List.set_cons_succ, hus18]
  clear hus18
  simp only [List.drop]
  refine wpList_nil ?_
  replace hB1 := below_then hB1 hw2
  replace h1 := blk_then h1 hw2
  replace hk := blk_then hk hw2
  clear hw2
  cases q with
  | true =>
    have hne : K s ≠ K t := by simpa using hq
    have hv := Lib.hid (alikeB_no (A := x.T.au) (K := K) (s := s) (t := t) fun h => hne h.1)
    clear hq hne
    go_wp2_with (fail)
    go_ret
    exact ⟨by rw [hv.out]; rfl, hB1⟩
  | false =>
    have he : K s = K t := by simpa using hq
    replace he := Lib.hid he
    clear hq
    go_upto_region 4 with (fail)
    go_loopw [9] (fun bv wr => ∃ b : Nat, b ≤ 256 ∧ bv = .int .i64 b ∧ Below w.heap.size w wr ∧ Blk wr w.heap.size 47 (dfaC x.f x.A x.rs.length x.c x.B x.fo.length x.d x.C x.en.length x.e) ∧ Blk wr g 3 (arr eZ x.rs.length K) ∧ ∀ j, j < b → K (x.T.au.go s j) = K (x.T.au.go t j)) (fun bv _ => 256 - (intOf bv).toNat)
    case atStart => exact ⟨0, by omega, rfl, hB1, h1, hk, fun j hj => by omega⟩
    case round =>
      clear h1 hB1 hk
      obtain ⟨b, hbl, rfl, hB1, h1, hk, hall⟩ := hrel
      replace hall := Lib.hid hall
      by_cases hb2 : b < 256
      · have hbI : (b : Int) < 256 := by omega
        go_upto_region 6 with (fail)
        have hul : x.T.au.go s b < x.rs.length := by rw [← hAn]; exact hok.lt s b (by rw [hAn]; exact hs) hb2
        have hvl : x.T.au.go t b < x.rs.length := by rw [← hAn]; exact hok.lt t b (by rw [hAn]; exact ht) hb2
        obtain ⟨y, hu⟩ : ∃ y, x.T.au.go s b = y := ⟨_, rfl⟩
        obtain ⟨z, hv⟩ : ∃ z, x.T.au.go t b = z := ⟨_, rfl⟩
        rw [hu] at hul
        rw [hv] at hvl
        replace hu := Lib.hid hu
        replace hv := Lib.hid hv
        have hTX : ∀ {X : World}, Below wr.heap.size wr X → TabIn X X.heap.size x := fun hB => hT.then_ (below_then hB1 hB)
        obtain ⟨q, hq⟩ : ∃ q, (K y != K z) = q := ⟨_, rfl⟩
        refine wp_region_steps 15 [eqS (.slice (some ⟨g, 0, none⟩) x.rs.length x.rs.length), eqS (.agg (dfaC x.f x.A x.rs.length x.c x.B x.fo.length x.d x.C x.en.length x.e)), eqS (.int .i64 (((s : Nat) : Int))), eqS (.int .i64 (((b : Nat) : Int))), eqS (.int .i64 (((y : Nat) : Int))), eqS (.pointer (some ⟨g, 0 + y * 1, none⟩)), eqS (.int .i64 ((K y))), eqS (.slice (some ⟨g, 0, none⟩) x.rs.length x.rs.length), eqS (.agg (dfaC x.f x.A x.rs.length x.c x.B x.fo.length x.d x.C x.en.length x.e)), eqS (.int .i64 (((t : Nat) : Int))), eqS (.int .i64 (((b : Nat) : Int))), eqS (.int .i64 (((z : Nat) : Int))), eqS (.pointer (some ⟨g, 0 + z * 1, none⟩)), eqS (.int .i64 ((K z))), eqS (.bool q)] [23, 24, 25, 26, 27, 28, 29, 30, 31, 32, 33, 34, 35, 36, 37] rfl (by kernel_rfl) rfl ?_ ?_
        · skip
          refine Steps.cons (fun a' w' hG hB dep => gs_move (want_none rfl) _ rfl (id (hG.other 1 rfl))) ?_
          refine Steps.cons (fun a' w' hG hB dep => gs_load_dfa (want_none rfl) _ rfl w.heap.size (hG.other 4 rfl) (blk_then h1 hB) rfl) ?_
          refine Steps.cons (fun a' w' hG hB dep => gs_move (want_none rfl) _ rfl (id (hG.other 2 rfl))) ?_
          refine Steps.cons (fun a' w' hG hB dep => gs_move (want_none rfl) _ rfl (id (hG.other 9 rfl))) ?_
          refine Steps.cons (fun a' w' hG hB dep => gs_call (want_none rfl) _ _ _ rfl enter_goes _ (map3 (dep 1 rfl 24 rfl) (dep 2 rfl 25 rfl) (dep 3 rfl 26 rfl)) ((goes_any x hF s b hs hb2 w' (hTX hB)).mono fun e w2 ⟨he, hb⟩ => ⟨_, he, hb, by rw [hu.out]; rfl⟩)) ?_
          refine Steps.cons (fun a' w' hG hB dep => gs_index (want_none rfl) _ _ _ rfl under_ints 1 size_intE g 0 x.rs.length x.rs.length (y) (dep 0 rfl 23 rfl) (dep 4 rfl 27 rfl) hul rfl) ?_
          refine Steps.cons (fun a' w' hG hB dep => gs_load1 (want_none rfl) _ _ rfl g (0 + y * 1) (dep 5 rfl 28 rfl) (.int .i64 ((K y))) (blk_arr (blk_then hk hB) hul) _ Try.underlying3 rfl rfl) ?_
          refine Steps.cons (fun a' w' hG hB dep => gs_move (want_none rfl) _ rfl (id (hG.other 1 rfl))) ?_
          refine Steps.cons (fun a' w' hG hB dep => gs_load_dfa (want_none rfl) _ rfl w.heap.size (hG.other 4 rfl) (blk_then h1 hB) rfl) ?_
          refine Steps.cons (fun a' w' hG hB dep => gs_move (want_none rfl) _ rfl (id (hG.other 3 rfl))) ?_
          refine Steps.cons (fun a' w' hG hB dep => gs_move (want_none rfl) _ rfl (id (hG.other 9 rfl))) ?_
          refine Steps.cons (fun a' w' hG hB dep => gs_call (want_none rfl) _ _ _ rfl enter_goes _ (map3 (dep 8 rfl 31 rfl) (dep 9 rfl 32 rfl) (dep 10 rfl 33 rfl)) ((goes_any x hF t b ht hb2 w' (hTX hB)).mono fun e w2 ⟨he, hb⟩ => ⟨_, he, hb, by rw [hv.out]; rfl⟩)) ?_
          refine Steps.cons (fun a' w' hG hB dep => gs_index (want_none rfl) _ _ _ rfl under_ints 1 size_intE g 0 x.rs.length x.rs.length (z) (dep 7 rfl 30 rfl) (dep 11 rfl 34 rfl) hvl rfl) ?_
          refine Steps.cons (fun a' w' hG hB dep => gs_load1 (want_none rfl) _ _ rfl g (0 + z * 1) (dep 12 rfl 35 rfl) (.int .i64 ((K z))) (blk_arr (blk_then hk hB) hvl) _ Try.underlying3 rfl rfl) ?_
          refine Steps.cons (fun a' w' hG hB dep => gs_neq_int (want_none rfl) _ _ _ _ rfl _ _ _ (dep 6 rfl 29 rfl) (dep 13 rfl 36 rfl) (id (congrArg Value.bool hq))) ?_
          exact Steps.nil
        intro u w3 hw3 ans
        have hus37 : u 37 = (.bool q) := ans 14 37 (by decide) rfl
        clear ans
        simp only [putAll, List.foldl_cons, List.foldl_nil, Act.put, List.setIfInBounds_toArray, List.set_cons_zero, List.set_cons_succ, hus37]
        clear hus37
        simp only [List.drop]
        refine wpList_nil ?_
        replace hB1 := below_then hB1 hw3
        replace h1 := blk_then h1 hw3
        replace hk := blk_then hk hw3
        clear hw3 hTX
        cases q with
        | true =>
          have hne : K y ≠ K z := by simpa using hq
          have hx := Lib.hid (alikeB_no (A := x.T.au) (K := K) (s := s) (t := t) fun h => hne (by rw [← hu.out, ← hv.out]; exact h.2 b hb2))
          clear hq hne
          go_wp2_with (fail)
          go_ret
          exact ⟨by rw [hx.out]; rfl, hB1⟩
        | false =>
          have he2 : K (x.T.au.go s b) = K (x.T.au.go t b) := by rw [hu.out, hv.out]; simpa using hq
          replace he2 := Lib.hid he2
          clear hq
          go_wp2_with (fail)
          exact ⟨⟨b + 1, by omega, rfl, hB1, h1, hk, fun j hj => by
            rcases Nat.lt_or_ge j b with h | h
            · exact hall.out j h
            · have : j = b := by omega
              subst this
              exact he2.out⟩, by simp only [intOf]; omega⟩
      · have hbI : ¬ (b : Int) < 256 := by omega
        have hv := Lib.hid (alikeB_yes (A := x.T.au) (K := K) (s := s) (t := t) ⟨he.out, fun j hj => hall.out j (by omega)⟩)
        clear hall
        go_wp2_with (fail)
        go_ret
        exact ⟨by rw [hv.out]; rfl, hB1⟩
theorem enter_ralike (args : Array Value) (w : World) : (callFunc 66 args).run Try.prog w = .ok (.enter 66 args) w := by kernel_rfl
end Go.Proofs.Ytgahdookojbbiaa
